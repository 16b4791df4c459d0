/- Layer 24, the reference: rules. · The bounds that the laws s -/
import Derived.Test.YtpdanmkcpjdmjaaGreatZkAF
import Derived.Test.YtpdanmkcpjdmjaaGreatZkAA
import Derived.Test.YtpdanmkcpjdmjaaGreatZkAJ
import Derived.Test.YtpdanmkcpjdmjaaGreatZkAI
set_option linter.unusedVariables false
set_option linter.unusedSimpArgs false
section
set_option maxRecDepth 100000
set_option maxHeartbeats 4000000
open Go Go.Proofs Tryz
namespace Go.Abs
theorem Du {l:W3}{v:Int}(e:l.Pairwise (· < ·))(f:mem l v=true):idx l v=pT l v:=by
 obtain ⟨i,d,g⟩:=aQ ((mem_iff l v).1 f);have a:=dD.1 e;rw [xF (i:=i) (λj c h=>by
   have b:j<l.length:=aD;rw [aA b] at h;have:=a j i b d c;simp at h;omega) (by rw [aA d,g])]
 rw [So (n:=i) (λj c h=>by have:=a j i c d h;omega) aD (λ_=>by omega)]
theorem qZ {α:Type}{f:α->Int}:∀ {l:List α},gK f l=0->∀ x∈l,f x=0
 | [],_,x,hx=>by cases hx
 | a :: l,h,x,hx=>by
  unfold gK at h;split at h
  .rename_i h1;exact absurd h h1
  .rename_i h1;rcases aV.1 hx with h2|h2
   .subst h2;omega
   .exact qZ h x h2
theorem Ef {g:Graph}{p:Part}(h:subF g p=0):∀ k∈p.i,mem p.h (g.i[k.toNat]?.getD b8).w=true/\mem p.h (g.i[k.toNat]?.getD b8).M=true:=by
 unfold subF sB at h;split at h
 .rename_i h1;exact absurd h h1
 .split at h
  .rename_i h2;exact absurd h h2
  .split at h
   .rename_i h3;exact absurd h h3
   .intro k hk;have:=qZ h k hk;unfold AI at this;grind
theorem v6 (g:Graph)(p:Part)(hl:p.h.length<=1000000)(a2:p.i.length<=1000000):Pua 39 [g.d,p.d] (.tup [(bZ g p).d,(FD g p).d,dI (subF g p)]):=by
 refine Tz.pK ⟨λt=>t==4||t==5||t==8||t==11||t==76||t==80,λr=>match r with|8=>[(0,11),(1,11)]|12=>[(0,9),(1,9),(2,9),(3,9),(5,9),(6,9),(7,9),(8,9)]|13=>[(0,15),(1,15)]|14=>[(0,1),(1,2),(1,3),(0,4),(0,5),(1,5),(2,5),(3,5),(4,5),(1,6),(4,6),(5,6),(1,7),(4,7),(5,7),(0,8)]|_=>[]⟩ func39 rfl (λQ hQ=>?_);have Y:=trivial;refine wv (h:=aB (Ak g p) wl ?_);refine dK (λC=>?_) λC=>?_
 .exact wv (h:=hQ _ _ (by simp [go_sem,bZ,FD,C]))
 .obtain ⟨hg,hs,P,R⟩:=rL C;have n:=Ef C;refine wv (h:=lB (Ghosts.step (Ghosts.refl _) 2 0 0 3 1 _ _ (rfl) rfl rfl rfl) (λi e H=>∃ b:W3,(e 2=.adr g.c/\e 3=.adr p.c/\e 4=.ptr 0 1 0 0/\e 5=.ptr 1 1 0 0/\e 8=.ptr 2 1 0 0/\e 9=dI i)/\(H.get 0=some ⟨51,2,[[.nil,.nil]],false⟩)/\(0<H.next)/\(H.get 1=some ⟨58,2,[[.nil,.nil]],false⟩)/\(1<H.next)/\(H.get 2=some ⟨51,2,[[.own 3 b.length,.nil]],false⟩)/\(2<H.next)/\(H.get 3=some ⟨3,1,b.map cI,false⟩)/\(3<H.next)/\(i<=p.h.length)/\(b=(p.h.take i).map (gN g))) (λi=>p.h.length - i) 0 ⟨([]),wg,wn,wn,wn,wn,wn,wn,wn,wn,wi,(by rfl)⟩ λI0 V i e H T=>?_);obtain ⟨b,E0,L,A,J,y,f,w,F,u,hi,O⟩:=T;have Y:=xa8 Y E0 L (bL A) J (bL y) f (bL w) F (bL u);refine i7 (λM=>?_) λM=>?_
  .have hin':=P _ (aC M);have hk:p.h[i].toNat<g.h.length:=aD;have a1:b.length=i:=by rw [O];simp;omega
   have Y:=xa2 Y M (aA hk) @gN.eq_1;exact wp (h:=wx V (i+1) ⟨(b++[gN g p.h[i]]),wg,wn,wn,wn,wn,wn,wn,wn,wn,wj,(by rw [lA _ M,<- O])⟩)
  .have hX:b=p.h.map (gN g):=by rw [O,mD _ aD]
   refine wv (h:=lB (Ghosts.step (Ghosts.refl _) 2 0 1 134 3 _ _ (f) rfl rfl rfl) (λk e H=>∃ j:Nat,∃ l:List Edge,(e 2=.adr g.c/\e 3=.adr p.c/\e 4=.ptr 0 1 0 0/\e 5=.ptr 1 1 0 0/\e 8=.ptr 2 1 0 0/\e 10=dI k)/\(H.get 0=some ⟨51,2,[[.nil,.nil]],false⟩)/\(0<H.next)/\(H.get 1=some ⟨58,2,[[.nil,.nil]],false⟩)/\(1<H.next)/\(H.get 2=some ⟨51,2,[[.own 3 b.length,.own j l.length]],false⟩)/\(2<H.next)/\(H.get 3=some ⟨3,1,b.map cI,false⟩)/\(3<H.next)/\(H.get j=some ⟨134,3,l.map Edge.c,false⟩)/\(j<H.next)/\(k<=p.i.length)/\(l=(p.i.take k).map (gEd g p))/\(j≠0)/\(j≠1)/\(j≠2)/\(j≠3)) (λk=>p.i.length - k) 0 ⟨H.next,([]),wg,wn,wn,wn,wn,wn,wn,wn,wn,wn,wn,wi,(by rfl),aD,aD,aD,aD⟩ λI2 U k e H m=>?_);obtain ⟨j,l,E2,K,z,I,x,G,v,E,s,D,q,hk,N,j0,Z,X,W⟩:=m;have Y:=xa7 Y E2 K (bL z) I (bL x) G (bL v) (xb0 E (bL s) D (bL q) j0 Z X W j0.symm Z.symm X.symm W.symm);refine i7 (λa=>?_) λa=>?_
   .have hie':=R _ (aC a);have B:p.i[k].toNat<g.i.length:=aD;have a0:l.length=k:=by rw [N];simp;omega
    have o:=n _ (aC a);rw [aA B,Option.getD_some] at o;have S:=Du hs o.1;have m:=Du hs o.2;have Y:=xa4 Y a (aA B) @gEd.eq_1 S m;refine wp (h:=aI (Fx p.h _) wl ?_);refine wp (h:=aI (Fx p.h _) wl ?_);exact wp (h:=wx U (k+1) ⟨j,(l++[gEd g p p.i[k]]),wg,wn,wn,wn,wn,wn,wn,wn,wn,wn,wn,wj,(by rw [lA _ a,<- N]),wj,wj,wj,wj⟩)
   .have hY:l=p.i.map (gEd g p):=by rw [N,mD _ aD]
    exact wp (h:=hQ _ _ (by simp [go_sem,Y,bZ,FD,C,hX,hY]))
theorem QZ (t:Types)(w:t.ok)(p:Pattern)(F:p.j.h.length<=1000)(y:p.l.length<=1000)(i:Nat)(r:i<p.l.length):Pua 321 [t.d,p.d,dI i] (dI (tS t p i)):=by
 have a:=AU (t:=t) r;have g:=rG w (p.E p.l[i].node);refine Tz.pK ⟨λt=>t==7,λ_=>[]⟩ func321 rfl (λQ m=>?_);have Y:=wa (aA r) r;refine d8 (λB=>?_) λB=>?_
 .have hE:gF t p p.l[i]≠0:=by
   unfold gF;rw [if_neg];decide;intro h;simp [lZ] at h;omega
  rw [if_pos hE] at a;exact wv (h:=m _ _ (by simp [go_sem,a]))
 .have hn:p.l[i].node.toNat<p.j.h.length:=aD;have l:p.E p.l[i].node=p.j.h[p.l[i].node.toNat]:=by simp [Pattern.E,hn]
  rw [l] at g;have Y:=xa1 Y (aA hn) l;refine wo (h:=aI (l7 t w p.j.h[p.l[i].node.toNat]) wl ?_);refine d8 (λA=>?_) λA=>?_
  .have hE:gF t p p.l[i]≠0:=by
    unfold gF;rw [if_neg];decide;intro h;simp [lZ,inF,l] at h;omega
   rw [if_pos hE] at a;exact wv (h:=m _ _ (by simp [go_sem,a]))
  .have hE:gF t p p.l[i]=0:=by
    unfold gF;rw [if_pos];simp [lZ,inF,l];omega
   rw [if_neg aD] at a;refine wv (h:=aY (λk e H=>(e 4=.adr p.c/\e 2=dI i/\e 7=.ptr 0 1 0 0/\e 10=dI k)/\(H.get 0=some ⟨96,4,[p.l[i].c],false⟩)/\(0<H.next)/\(k<=i)/\(((p.l.take k).any (sameSlot p.l[i]))=false)) (λk=>i - k) 0 ⟨wg,wn,wn,wi,(by rfl)⟩ λG u k e H q=>?_);obtain ⟨C,j,b,z,f⟩:=q;have Y:=xa2 Y C j (bL b);refine dK (λg=>?_) λg=>?_
   .have hkl:k<p.l.length:=aD;have Y:=xa1 Y g hkl;refine d8 (λv=>?_) λv=>?_
    .refine wv (h:=?_);have s:=vW (p:=sameSlot p.l[i]) g hkl (by simp [sameSlot];omega);exact m _ _ (by rw [a,if_pos s];simp [go_sem])
    .exact wo (h:=wx u (k+1) ⟨wg,wn,wn,wj,(by rw [dU _ _ _ hkl,f];simp [sameSlot];omega)⟩)
   .have s:=tA f (aD:k=i);exact wv (h:=m _ _ (by rw [a,if_neg (by simp [s])];simp [go_sem]))
theorem Ox (t:Types)(p:t.ok)(r:Rule):Pua 264 [t.d,r.d] (dI (g7 t r)):=by
 refine Tz.p0 func264 rfl λQ f Y=>?_;refine wv (h:=aB (kH r.right.j) wl ?_);refine dK (λg=>?_) λg=>?_
 .exact wv (h:=f _ _ (.inl (by simp [go_sem,g7,g])))
 .have hg:=bR g;refine wo (h:=aB (u5 t r.right.j) wl ?_);refine d8 (λb=>?_) λb=>?_
  .rw [qQ g] at b;exact wv (h:=f _ _ (.inl (by simp [go_sem,g7,g,b])))
  .rw [qQ g] at b;refine d8 (λl=>?_) λl=>?_
   .have hR:g7 t r=1:=by unfold g7;rw [if_neg aD,if_neg (by simp [b]),if_pos aD]
    exact wv (h:=f _ _ (.inl (by simp [go_sem,hR])))
   .have h6':¬ (r.right.vars≠r.left.vars\/0<r.right.G.length):=by
     rintro (h|h)
     .exact h l.1
     .have:=l.2;simp [this] at h
    refine d8 (λq=>?_) λq=>?_
    .have hR:g7 t r=3:=by unfold g7;rw [if_neg aD,if_neg (by simp [b]),if_neg h6',if_pos aD]
     exact wv (h:=f _ _ (.inl (by simp [go_sem,hR])))
    .have hR:g7 t r=bU (tS t r.right) 0 r.right.l.length:=by unfold g7;rw [if_neg aD,if_neg (by simp [b]),if_neg h6',if_neg aD]
     refine wv (h:=aY (λi e H=>(e 2=.adr t.c/\e 3=.adr r.c/\e 6=dI i)/\(i<=r.right.l.length)/\(bU (tS t r.right) i (r.right.l.length - i)=g7 t r)) (λi=>r.right.l.length - i) 0 ⟨wg,wi,(hR.symm)⟩ λx k i e H j=>?_);obtain ⟨s,w,n⟩:=j;have Y:=wa Y s;refine d8 (λa=>?_) λa=>?_
     .have hst:=n;rw [eV _ a] at hst;have Y:=wa Y a;refine wv (h:=aB (QZ t p r.right aD aD i a) wl ?_);refine dK (λm=>?_) λm=>?_
      .rw [if_pos aD] at hst;exact wv (h:=f _ _ (.inl (by simp [go_sem,hst])))
      .rw [if_neg aD] at hst;exact wo (h:=wx k (i+1) ⟨wg,wj,(hst)⟩)
     .exact wv (h:=f _ _ (.inl (by rw [<- n,(aD:r.right.l.length - i=0)];rfl)))
theorem TI (l:W3)(v:Int):Pua 358 [dLI l,dI v] (.bool (mem l v)):=by
 refine Tz.p0 func358 rfl λQ m Y=>?_;refine wv (h:=aY (λi e H=>(e 0=dLI l/\e 1=dI v/\e 5=dI i)/\(i<=l.length)/\(∀ j,j<i->l[j]?≠some v)) (λi=>l.length - i) 0 ⟨wg,wi,(by intro j k;omega)⟩ λq f i e H d=>?_);obtain ⟨o,p,a⟩:=d;have Y:=wa Y o;refine wv (h:=?_);repeat first|intro _|refine ⟨iD,?_⟩
 refine wq (λb=>?_) λb=>?_
 .have Y:=wa Y b;refine d8 (λg=>?_) λg=>?_
  .refine wv (h:=?_);have c:mem l v=true:=(mem_iff l v).2 (g ▸ aC b);exact m _ _ (by simp [go_sem,c])
  .exact wo (h:=wx f (i+1) ⟨wg,wj,(by exact kP a (by rw [aA b];simpa using g))⟩)
 .refine wv (h:=?_);have c:mem l v=false:=by rw [bQ];intro h;obtain ⟨j,k,n⟩:=aQ ((mem_iff l v).1 h);exact a j aD (by rw [aA k,n])
  exact m _ _ (by simp [go_sem,c])
theorem HN (l:W3)(n:Nat)(v:n<=1000000):Pua 322 [dI n,dLI l] (dLI (bP l n)):=by
 refine Tz.pK ⟨λt=>t==5,λ_=>[]⟩ func322 rfl (λQ r=>?_);have Y:=trivial;refine wv (h:=aY (λi e H=>∃ a:W3,(e 1=dLI l/\e 0=dI n/\e 5=.own 0 a.length/\e 6=dI i)/\(H.get 0=some ⟨3,1,a.map cI,false⟩)/\(0<H.next)/\(i<=n)/\(a.length<=i)/\(a=((List.range i).filter λ(b:Nat)=>!mem l b).map (λ(b:Nat)=>(b:Int)))) (λi=>n - i) 0 ⟨([]),wg,wn,wn,wi,dB,(by rfl)⟩ λz f i e H k=>?_);obtain ⟨a,s,g,d,x,w,j⟩:=k;have Y:=xa2 Y s g (bL d);refine dK (λp=>?_) λp=>?_
 .have Y:=wa Y p;refine wo (h:=aB (TI l i) wl ?_);refine d8 (λm=>?_) λm=>?_
  .have Y:=wa Y m;exact wo (h:=wx f (i+1) ⟨(a++(if (!mem l i)=true then [(i:Int)] else [])),wg,wn,wn,wj,(by rw [aH];split<;>simp<;>omega),(by rw [b7,<- j])⟩)
  .have Y:=wa Y m;exact wo (h:=wx f (i+1) ⟨(a++(if (!mem l i)=true then [(i:Int)] else [])),wg,wn,wn,wj,(by rw [aH];split<;>simp<;>omega),(by rw [b7,<- j])⟩)
 .exact wv (h:=r _ _ (by simp [go_sem,Y,bP];rw [j,(aD:i=n)];simp))
theorem MA (t:Types)(D:t.ok)(g:Graph)(J:graphF g=0)(G:fQ t g=true)(nodes edges:W3)(E:∀ i∈nodes,0<=i/\i<g.h.length)(F:∀ k∈edges,0<=k/\k<g.i.length):Pua 267 [t.d,g.d,dLI nodes,dLI edges] (.bool (vE t g nodes edges)):=by
 have o:=lT J G;refine Tz.pK ⟨λt=>t==11,λr=>match r with|9=>[(0,8),(1,8),(4,8),(5,8),(6,8),(7,8)]|_=>[]⟩ func267 rfl (λQ x=>?_);have Y:=trivial;refine wv (h:=aY (λi e H=>(e 4=.adr t.c/\e 5=.adr g.c/\e 2=dLI nodes/\e 3=dLI edges/\e 9=dI i)/\(i<=nodes.length)/\(((nodes.take i).any (absB t g))=false)) (λi=>nodes.length - i) 0 ⟨wg,wi,(by rfl)⟩ λO z i e H v=>?_);obtain ⟨L,M,C⟩:=v;have Y:=wa Y L;refine wv (h:=?_);repeat first|intro _|refine ⟨iD,?_⟩
 refine wq (λj=>?_) λj=>?_
 .have hn':=E _ (aC j);have q:nodes[i].toNat<g.h.length:=aD;have n:=o.1 _ (aC q);have m:g.h[nodes[i].toNat].toNat<t.h.length:=aD;have p:absB t g nodes[i]=t.h[g.h[nodes[i].toNat].toNat].ce:=by simp [absB,gN,aA q,aA m]
  have Y:=xa2 Y j (aA q) (aA m);refine d8 (λA=>?_) λA=>?_
  .refine wv (h:=?_);have s:nodes.any (absB t g)=true:=bD.2 ⟨_,aC j,by rw [p,A]⟩;exact x _ _ (.inl (by simp only [go_sem,vE,s,JJ,F7]))
  .exact wo (h:=wx z (i+1) ⟨wg,wj,(by rw [dU _ _ _ j,C,p,A];rfl)⟩)
 .have hN:=oJ C j;refine wv (h:=aY (λk e H=>(e 4=.adr t.c/\e 5=.adr g.c/\e 2=dLI nodes/\e 3=dLI edges/\e 10=dI k)/\(k<=edges.length)/\(((edges.take k).any (unfitB t g))=false)) (λk=>edges.length - k) 0 ⟨wg,wi,(by rfl)⟩ λN y k e H u=>?_);obtain ⟨K,q,s⟩:=u;have Y:=wa Y K;refine wv (h:=?_);repeat first|intro _|refine ⟨iD,?_⟩
  refine wq (λf=>?_) λf=>?_
  .have he':=F _ (aC f);have a:edges[k].toNat<g.i.length:=aD;have n:=o.2 _ (aC a);have B:g.i[edges[k].toNat].w.toNat<g.h.length:=aD;have l:g.i[edges[k].toNat].M.toNat<g.h.length:=aD;have p:unfitB t g edges[k] = !o6 t g.i[edges[k].toNat].type g.h[g.i[edges[k].toNat].w.toNat] g.h[g.i[edges[k].toNat].M.toNat]:=by simp [unfitB,gN,aA a,aA B,aA l]
   have Y:=xa3 Y f (aA a) (aA B) (aA l);refine wo (h:=aI (yJ t D _ _ _) wl ?_);refine d8 (λb=>?_) λb=>?_
   .refine wv (h:=?_);have w:edges.any (unfitB t g)=true:=bD.2 ⟨_,aC f,by rw [p,b];rfl⟩;exact x _ _ (.inl (by simp only [go_sem,vE,w,JJ,Bool.and_false]))
   .exact wo (h:=wx y (k+1) ⟨wg,wj,(by rw [dU _ _ _ f,s,p,b];rfl)⟩)
  .refine wv (h:=?_);have I:=oJ s f;exact x _ _ (.inl (by simp only [go_sem,vE,hN,I,Bool.not_false,Bool.and_true]))
theorem J5 (r:Rule)(c:r.right.j.h.length<=1000000)(b:r.right.j.i.length<=1000000):Pua 266 [r.d] (.tup [dLI r.R,dLI r.ai]):=by
 refine Tz.p0 func266 rfl λQ a Y=>?_;refine wo (h:=aI (HN r.u.h _ c) wl ?_);refine wo (h:=aI (HN r.u.i _ b) wl ?_);have Y:=xa1 Y @Rule.R.eq_1 @Rule.ai.eq_1;exact wo (h:=a _ _ wy)
def spanF (r:Rule):Int :=
 if subF r.left.j r.q≠0 then subF r.left.j r.q
 else eD (bZ r.left.j r.q) r.right.j r.u
theorem QY (r:Rule)(f:r.ok):Pua 265 [r.d] (dI (spanF r)):=by
 obtain ⟨_,b,a,i,g,_,_⟩:=f;refine Tz.pK ⟨λt=>t==4||t==5,λ_=>[]⟩ func265 rfl (λQ e=>?_);have Y:=trivial;refine wv (h:=aB (Ak r.left.j r.q) wl ?_);refine dK (λc=>?_) λc=>?_
 .have Y:=xa1 Y c @spanF.eq_1;exact wv (h:=e _ _ wy)
 .refine wv (h:=aB (v6 r.left.j r.q b a) wl ?_);refine wv (h:=aB (r8 (bZ r.left.j r.q) r.right.j r.u) wl ?_);have Y:=xa1 Y c @spanF.eq_1;exact wv (h:=e _ _ wy)
theorem Rs (r:Rule):keptF r=if spanF r≠0 then spanF r else if (decide r.u.h.Nodup&&decide r.u.i.Nodup)=true then 0 else 11:=by
 unfold keptF spanF Ca;grind
theorem OA (t:Types)(m:t.ok)(r:Rule)(q:r.ok):Pua 187 [t.d,r.d] (dI (ruleF t r)):=by
 have o:=Ft t m r.left r.cond q.cond q.size;rw [Cond.A] at o;have u:=Rs r;refine Tz.p0 func187 rfl λQ f Y=>?_;refine wv (h:=aB (r9 t m) wl ?_);refine dK (λe=>?_) λe=>?_
 .exact wv (h:=f _ _ (by simp [go_sem,ruleF,e]))
 .refine wo (h:=aB (pQ r.name q.name) wl ?_);refine d8 (λg=>?_) λg=>?_
  .exact wv (h:=f _ _ (by simp [go_sem,ruleF,e,g]))
  .refine wv (h:=aB (u3 t m r.left) wl ?_);refine dK (λj=>?_) λj=>?_
   .exact wv (h:=f _ _ (by simp [go_sem,ruleF,e,g,j]))
   .refine wv (h:=aB (Ox t m r) wl ?_);refine dK (λb=>?_) λb=>?_
    .exact wv (h:=f _ _ (by simp [go_sem,ruleF,e,g,j,b]))
    .have n:=Ek b;have v:=bR n.1;refine wv (h:=aB (QY r q) wl ?_);refine dK (λp=>?_) λp=>?_
     .exact wv (h:=f _ _ (by simp [go_sem,ruleF,e,g,j,b,u,p]))
     .refine wo (h:=aB (pP r.u.h) wl ?_);refine wo (h:=aK (λn=>pP r.u.i) (λn=>wl) ?_);refine d8 (λl=>?_) λl=>?_
      .have c:keptF r=11:=by rw [u,if_neg aD,if_neg (λh=>by rw [aN,decide_eq_true_eq,decide_eq_true_eq] at h;rcases l with h'|h';exact h' h.1;exact h' h.2)]
       exact wv (h:=f _ _ (by simp [go_sem,ruleF,e,g,j,b,c]))
      .have c:keptF r=0:=by rw [u,if_neg aD,if_pos (by rw [aN,decide_eq_true_eq,decide_eq_true_eq];exact l)]
       refine wv (h:=aB (J5 r aD aD) wl ?_);refine wo (h:=aB (MA t m r.right.j n.1 n.2 r.R r.ai (λi s=>l8 s) (λi s=>l8 s)) wl ?_);refine d8 (λk=>?_) λk=>?_
       .exact wv (h:=f _ _ (by simp [go_sem,ruleF,e,g,j,b,c,k]))
       .refine wv (h:=aB (o) wl ?_);exact wv (h:=f _ _ (by simp [go_sem,ruleF,e,g,j,b,c,k]))
def fewG (g:Graph):Bool:=decide ((g.h.length:Int)<=45)&&decide ((g.i.length:Int)<=90)
def fewP (p:Pattern):Bool:=fewG p.j&&decide ((p.l.length:Int)<=15)&&decide ((p.G.length:Int)<=15)
def fewPart (p:Part)(n:Int):Bool:=decide ((p.h.length:Int)+p.i.length<=n)
structure Part.le (p:Part):Prop where
 n:p.h.length<=1000000000000000
 e:p.i.length<=1000000000000000
theorem AX (g:Graph):Pua 127 [g.d] (.bool (fewG g)):=by
 refine Tz.p0 func127 rfl λQ a Y=>?_;have Y:=wa Y @fewG.eq_1;exact wo (h:=a _ _ wy)
theorem wX (p:Pattern):Pua 81 [p.d] (.bool (fewP p)):=by
 refine Tz.p0 func81 rfl λQ a Y=>?_;refine wo (h:=aB (AX p.j) wl ?_);have Y:=wa Y @fewP.eq_1;exact wo (h:=a _ _ wy)
theorem K8 (p:Part)(a:p.le)(n:Int):Pua 83 [p.d,dI n] (.bool (fewPart p n)):=by
 obtain ⟨e,c⟩:=a;refine Tz.p0 func83 rfl λQ b Y=>?_;have Y:=wa Y @fewPart.eq_1;exact wo (h:=b _ _ wy)
theorem TN (p:Part)(a:p.le)(n:Int):Pua 82 [p.d,dI n] (.bool (fewPart p n)):=by
 obtain ⟨e,c⟩:=a;refine Tz.p0 func82 rfl λQ b Y=>?_;have Y:=wa Y @fewPart.eq_1;exact wo (h:=b _ _ wy)
mutual
def qO:Cond->Int->Int
 | .mk k l m p,b=>if (!fewP p||!fewPart m 140)=true then -1 else qN l (b - 1)
def qN:List Cond->Int->Int
 | [],b=>b
 | c :: l,b=>if 0<=b then qN l (qO c b) else b
end
theorem VJ (c:Cond)(b:Int):qO c b=if (!fewP c.o||!fewPart c.map 140)=true then -1 else qN c.s (b - 1):=by cases c;rw [qO];rfl
mutual
theorem Iz:∀ (c:Cond) (b:Int),0<=b->-1<=qO c b/\qO c b<=b - 1
 | .mk k l m p,b,h=>by
  rw [qO];split
  ·omega
  ·exact Ix l (b - 1) (by omega)
theorem Ix:∀ (l:List Cond) (b:Int),-1<=b->-1<=qN l b/\qN l b<=b
 | [],b,h=>by rw [qN];omega
 | c :: l,b,h=>by
  rw [qN];split
  ·rename_i h0
   have h1:=Iz c b h0;have h2:=Ix l (qO c b) h1.1;omega
  ·omega
end
mutual
def Cond.le:Cond->Prop
 | .mk k l m p=>m.le/\Cond.bL l
def Cond.bL:List Cond->Prop
 | []=>True
 | c :: l=>c.le/\Cond.bL l
end
theorem NE (l:List Cond):Cond.bL l↔∀ c∈l,c.le:=by
 induction l with
 | nil=>simp [Cond.bL]
 | cons a l ih=>simp [Cond.bL,ih]
theorem Qn (c:Cond):c.le↔c.map.le/\∀ k∈c.s,k.le:=by cases c;simp [Cond.le,NE,Cond.s,Cond.map]
mutual
theorem Iy:∀ (c:Cond) (b:Int),0<=b->0<=qO c b->c.ok/\(c.size:Int)<=b - qO c b
 | .mk k l m p,b,h,h0=>by
  rw [qO] at h0 ⊢;split at h0
  ·omega
  ·rename_i h1
   rw [if_neg h1];have h2:=Pv l (b - 1) (by omega) h0;simp [fewP,fewG,fewPart] at h1;refine ⟨⟨⟨?_,?_,?_,?_,?_,?_⟩,h2.1⟩,?_⟩<;>simp only [Cond.map,Cond.o,Cond.size]<;>omega
theorem Pv:∀ (l:List Cond) (b:Int),-1<=b->0<=qN l b->Cond.b8 l/\(Cond.aa l:Int)<=b - qN l b
 | [],b,h,h0=>by simp [Cond.b8,Cond.aa,qN]
 | c :: l,b,h,h0=>by
  rw [qN] at h0 ⊢;split at h0
  ·rename_i hb
   rw [if_pos hb];have h1:=Iz c b hb;have h2:=Ix l (qO c b) h1.1;have h3:=Iy c b hb (by omega);have h4:=Pv l (qO c b) h1.1 h0;refine ⟨⟨h3.1,h4.1⟩,?_⟩;simp only [Cond.aa];omega
  ·omega
end
theorem Rr {l:List Cond}{i:Nat}(h:i<l.length){b:Int}(a:0<=b):qN (l.drop i) b=qN (l.drop (i+1)) (qO l[i] b):=by
 rw [iB h,qN,if_pos a]
theorem Ug {l:List Cond}{i:Nat}{b:Int}(h:¬ (i<l.length/\0<=b)):qN (l.drop i) b=b:=by
 by_cases a:i<l.length
 .rw [iB a,qN,if_neg aD]
 .rw [g8 aD,qN]
theorem Q1:∀ c:Cond,c.le->∀ b:Int,0<=b->b<=1000->Pua 128 [.agg c.c,dI b] (dI (qO c b)):=by
 refine kS λc n r d t s=>?_;obtain ⟨o,p⟩:=(Qn c).1 r;have a:=VJ c d;refine Tz.p0 func128 rfl λQ k _=>?_;have Y:=@Cond.A;refine wo (h:=aB (wX c.o) wl ?_);refine wo (h:=aK (λq=>K8 c.map o 140) (λq=>wl) ?_);refine d8 (λj=>?_) λj=>?_
 .rw [if_pos (eQ j)] at a;exact wv (h:=k _ _ (by simp [go_sem,a]))
 .rw [if_neg (eQ j)] at a;refine wv (h:=aY (λi e H=>∃ b:Int,(e 2=.adr c.c/\e 1=dI b/\e 5=dI i)/\(i<=c.s.length)/\(-1<=b/\b<d)/\(qN (c.s.drop i) b=qO c d)) (λi=>c.s.length - i) 0 ⟨((d - 1)),wg,wi,aD,(by exact a.symm)⟩ λy g i e H f=>?_);obtain ⟨b,v,w,x,l⟩:=f;have Y:=wa Y v;refine wv (h:=?_);repeat first|intro _|refine ⟨iD,?_⟩
  refine wq (λm=>?_) λm=>?_
  .have h5':i<c.s.length/\0<=b:=aD;have Y:=xa1 Y m h5'.1;refine wo (h:=aB ((by have:=n _ (aC h5'.1) (p _ (aC h5'.1)) b h5'.2 aD;rwa [Cond.A] at this)) wl ?_);exact wo (h:=wx g (i+1) ⟨(qO c.s[i] b),wg,wj,(by have:=Iz c.s[i] b h5'.2;omega),(by rw [<- l,Rr h5'.1 h5'.2])⟩)
  .have h5':¬ (i<c.s.length/\0<=b):=aD;refine wv (h:=?_);have u:qO c d=b:=by rw [<- l,Ug h5']
   exact k _ _ (by simp [go_sem,u])
def fewC (c:Cond):Bool:=decide (0<=qO c 40)
theorem KZ (c:Cond)(a:c.le):Pua 84 [.agg c.c] (.bool (fewC c)):=by
 refine Tz.p0 func84 rfl λQ b _=>?_;have Y:=@Cond.A;refine wv (h:=aB ((by have:=Q1 c a 40 aD aD;rwa [Cond.A] at this)) wl ?_);have Y:=wa Y @fewC.eq_1;exact wv (h:=b _ _ wy)
def fewR (r:Rule):Bool:=decide ((r.name.size:Int)<=60)&&fewP r.left&&fewP r.right&&fewPart r.q 140&&fewPart r.u 140&&fewC r.cond
structure Rule.le (r:Rule):Prop where
 q:r.q.le
 u:r.u.le
 cond:r.cond.le
theorem TJ (r:Rule)(b:r.le):Pua 47 [r.d] (.bool (fewR r)):=by
 refine Tz.p0 func47 rfl λQ c Y=>?_;refine wo (h:=aK (λa=>wX r.left) (λa=>wl) ?_);refine wo (h:=aK (λa=>wX r.right) (λa=>wl) ?_);refine wo (h:=aK (λa=>TN r.q b.q 140) (λa=>wl) ?_);refine wo (h:=aK (λa=>K8 r.u b.u 140) (λa=>wl) ?_);refine wo (h:=aK (λa=>(by have:=KZ r.cond b.cond;rwa [Cond.A] at this)) (λa=>wl) ?_);have Y:=wa Y @fewR.eq_1;exact wo (h:=c _ _ wy)
structure Ovl where
 j:Graph
 left:Part
 right:Part
def Ovl.c (o:Ovl):UN:=[dLI o.j.h,.list (o.j.i.map Edge.c),dLI o.left.h,dLI o.left.i,dLI o.right.h,dLI o.right.i]
def Ovl.d (o:Ovl):D:=.agg o.c
@[go_sem] theorem Ovl.P (o:Ovl):D.L o.c=true:=by simp [Ovl.c,D.L,D.P,qA,xM]
@[go_sem] theorem aeJ (o:Ovl):o.d.P=true:=by grind [Ovl.d, D.P, Ovl.P]
@[go_sem] theorem adL (l:List Ovl):D.O (l.map Ovl.c)=true:=dN _ Ovl.P l
def gB (n:Nat):W3:=(List.range n).map λ(k:Nat)=>(k:Int)
theorem xA (i:Nat):gB (i+1)=gB i++[(i:Int)]:=by simp [gB,bS]
theorem iF (n:Nat):(gB n).length=n:=by simp [gB]
theorem C2 (n:Nat)(q:n<=100000):Pua 126 [dI n] (dLI (gB n)):=by
 refine Tz.pK ⟨λt=>t==3,λ_=>[]⟩ func126 rfl (λQ l=>?_);have Y:=trivial;refine wv (h:=aY (λi e H=>(e 0=dI n/\e 3=.own 0 i/\e 4=dI i)/\(H.get 0=some ⟨3,1,(gB i).map cI,false⟩)/\(0<H.next)/\(i<=n)/\((gB i).length=i)) (λi=>n - i) 0 ⟨wg,(by rfl),wn,wi,(iF _)⟩ λs d i e H c=>?_);obtain ⟨m,b,a,r,k⟩:=c;have Y:=xa3 Y m b (bL a) k;refine dK (λf=>?_) λf=>?_
 .have Y:=wa Y f;exact wo (h:=wx d (i+1) ⟨wg,(by simp [go_sem,xA]),wn,wj,(iF _)⟩)
 .have hie:i=n:=aD;exact wv (h:=l _ _ wy)
theorem OT (g:Graph)(a:g.h.length<=100000)(b:g.i.length<=100000):Pua 80 [g.d] (Part.d ⟨gB g.h.length,gB g.i.length⟩):=by
 refine Tz.pK ⟨λt=>t==2,λ_=>[]⟩ func80 rfl (λQ c=>?_);have Y:=trivial;refine wo (h:=aI (C2 g.h.length a) wl ?_);refine wo (h:=aI (C2 g.i.length b) wl ?_);exact wo (h:=c _ _ wy)
theorem P1:Own prog 97 [.nil] 134 3 []:=by
 refine Tz.oK ⟨λt=>t==2||t==5,λ_=>[]⟩ func97 rfl (λQ a=>?_);have Y:=trivial;refine wv (h:=?_);exact a _ _ _ (by simp [go_sem]<;>first|omega|(rw [aS];simp<;>omega)|(simp_all<;>omega)) (by simp [go_sem]<;>first|omega|(rw [aS];simp<;>omega)|(simp_all<;>omega))
theorem PZ:Own prog 97 [.ne] 134 3 []:=by
 refine Tz.oK ⟨λt=>t==2||t==5,λ_=>[]⟩ func97 rfl (λQ a=>?_);have Y:=trivial;refine wo (h:=?_);exact a _ _ _ (by simp [go_sem]<;>first|omega|(rw [aS];simp<;>omega)|(simp_all<;>omega)) (by simp [go_sem]<;>first|omega|(rw [aS];simp<;>omega)|(simp_all<;>omega))
theorem P0 (l:List Edge)(d:l.length<=1000000)(a:l≠[]):Own prog 97 [.list (l.map Edge.c)] 134 3 (l.map Edge.c):=by
 refine Tz.oK ⟨λt=>t==2||t==5,λ_=>[]⟩ func97 rfl (λQ b=>?_);have Y:=a;refine wo (h:=?_);exact b _ _ _ (by simp [go_sem]<;>first|omega|(rw [aS];simp<;>omega)|(simp_all<;>omega)) (by simp [go_sem]<;>first|omega|(rw [aS];simp<;>omega)|(simp_all<;>omega))
theorem Cp (l:List Edge)(b:l.length<=1000000):Own prog 97 [.list (l.map Edge.c)] 134 3 (l.map Edge.c):=by
 by_cases a:l=[]
 .subst a;exact Eo P1 PZ
 .exact P0 l b a
theorem F8 {P:Program}{H:AHeap}{f:FuncId}{args:UN}{ty:TypeId}{sz:Nat}{es:UE}{Q:D->AHeap->Prop}(A:Own P f (args.map (iU H)) ty sz es)(x:D.L (args.map (iU H))=true)(K:∀ d∈es.flatten,d.aD=true)(N:Q (.list es) H):ACalls P f args H Q:=by
 refine ⟨A.1,λE σ w k o M=>?_⟩;obtain ⟨V,f2,Z,Y⟩:=fY (args.flatMap dW) o;refine (A.2 (dJ E (fN (args.flatMap dW) H) σ) w k (v8 V) (g5 (λ_ h=>h) (CS o M _ λi h=>h) x)).mono λe G ⟨v,F,L,b,O,c,C,r,m⟩=>?_;obtain ⟨U,T,S⟩:=o.grow m.os m.tape m.output m.size m.block;have I:RepV (dJ E H σ) iP sO G v (.list es):=by
  rcases b.2 with ⟨l,R⟩|⟨g,y,W,a,X,n,s,t,z,q⟩
  .rw [l,bT R];exact .listN
  .rw [a];refine .list ⟨g,0,none⟩ y sz F es s t r c.len O (λj u p=>⟨λJ=>?_,b.cells (g:=g) (by simp [a,Value.ownBlock]) j u p⟩) (λj u d p B=>AF (c.Z j u d p B) (K d (aL B)));have:=v8 o g J;omega
 exact ⟨v,.list es,H,σ,L,U,I.q Av,T,S,N⟩
theorem kO {P:Program}{md:Nat->Bool}{ops:Array Oper}{g:List (Nat × Nat)}{l i:Nat}{a:List Oper}{b:List (Nat × List Nat)}{e:eF}{c:Option Tmp}{K:eF->AHeap->Prop}{f:FuncId}{args args':UN}{H:AHeap}{ty:TypeId}{sz:Nat}{es:UE}
  (o:Own P f args' ty sz es) (r:args.map (iU H)=args') (j:D.L args'=true) (p:∀ d∈es.flatten,d.aD=true) {S:List Nat} (s:args.flatMap dW=S) (q:chk g i S b)
  (h:j9 P md ops g l (i+1) a ((i,S) :: b) (pG e c (.list es)) H K):rA P md ops g l i a b e c K f args H:=by
 subst r s;unfold rA;refine .inl ⟨.list es,_,λt k=>?_,q,h⟩;have m:=Cv k λx n=>n;exact F8 (by rw [m];exact o) (by rw [m];exact j) p ⟨rfl,rfl⟩
theorem eK {β:Type}(f:β->Nat->β)(b:β)(n:Nat):(List.range (n+1)).foldl f b=f ((List.range n).foldl f b) n:=by
 rw [bS,j4];rfl
theorem Ly {t:Types}(b:t.aj){a:Nat}(c:a<t.h.length):mem (t.ao a) a=true:=by
 rw [As t a c (b.ap a),xC];simp
def cL (l:W3):UN:=[dLI l]
@[go_sem] theorem abV (l:Yb):D.O (l.map cL)=true:=dN cL (λx=>by simp [cL,go_sem]) l
attribute [go_sem] cL
@[go_sem] theorem ad3 (o:Option Rule)(A z y x w v u t s r q p n m l k j i h g f e d b a:D):((Option.map Rule.c o).getD [A,z,y,x,w,v,u,t,s,r,q,p,n,m,l,k,j,i,h,g,f,e,d,b,a]).length=25:=by cases o<;>rfl
def XN (mask:List Bool):List Nat:=(List.range mask.length).filter λi=>mask[i]?.getD false
theorem lV (a b:W3):Pua 94 [dLI a,dLI b] (.bool (decide (a=b))):=by
 refine Tz.p0 func94 rfl λQ g Y=>?_;refine wv (h:=?_);repeat first|intro _|refine ⟨iD,?_⟩
 refine wq (λm=>?_) λm=>?_
 .refine wv (h:=?_);have c:a≠b:=by intro h;subst h;omega
  exact g _ _ (by simp [go_sem,c])
 .refine wo (h:=aY (λi e H=>(e 0=dLI a/\e 1=dLI b/\e 12=dI a.length/\e 13=dI i)/\(i<=a.length)/\(a.take i=b.take i)) (λi=>a.length - i) 0 ⟨wg,wi,(by rfl)⟩ λp j i e H d=>?_);obtain ⟨n,o,f⟩:=d;have Y:=wa Y n;refine dK (λl=>?_) λl=>?_
  .have hib:i<b.length:=aD;have Y:=xa1 Y l hib;refine wv (h:=?_);repeat first|intro _|refine ⟨iD,?_⟩
   refine wq (λk=>?_) λk=>?_
   .refine wv (h:=?_);have c:a≠b:=by intro h;subst h;exact k rfl
    exact g _ _ (by simp [go_sem,c])
   .exact wo (h:=wx j (i+1) ⟨wg,wj,(by rw [aE l,aE hib,f,k])⟩)
  .rw [aG aD,aG aD] at f;exact wv (h:=g _ _ (by simp [go_sem,f]))
theorem Nd {r:Rule}(h:fewR r=true):r.ok:=by
 simp only [fewR,aN,decide_eq_true_eq] at h;obtain ⟨⟨⟨⟨⟨i,g⟩,f⟩,e⟩,d⟩,b⟩:=h;simp [fewPart] at e d;simp [fewC] at b;have c:=Iy r.cond 40 aD b;exact ⟨aD,aD,aD,aD,aD,c.1,aD⟩
theorem Jp {P:Program}{md:Nat->Bool}{ops:Array Oper}{a:List Oper}{e:eF}{b:Option Tmp}{K:eF->AHeap->Prop}{f:FuncId}{args args':UN}{H:AHeap}{ty:TypeId}{sz:Nat}{es:UE}
  (g:Own P f args' ty sz es) (j:args.map (iU H)=args') (c:D.L args'=true) (i:∀ d∈es.flatten,d.aD=true) (h:nX P md ops a (pG e b (.list es)) H K):fE P md ops a e b K f args H:=by grind [fE, F8]
theorem FR (zs:W3):∀ d∈(zs.map cI).flatten,d.aD=true:=by
 intro d a;rw [A2,aW] at a;obtain ⟨x,_,rfl⟩:=a;rfl
def WF:W3->Int
 | []=>0
 | a :: l=>if a≠0 then a else WF l
theorem Vn {l:W3}{i:Nat}(h:i<l.length):WF (l.drop i)=if l[i]≠0 then l[i] else WF (l.drop (i+1)):=by
 rw [iB h];rfl
theorem Ze (l:W3):Pua 349 [dLI l] (dI (WF l)):=by
 refine Tz.p0 func349 rfl λQ f Y=>?_;refine wv (h:=?_);repeat first|intro _|refine ⟨iD,?_⟩
 refine aY (λi e H=>(e 6=dLI l/\e 7=dI l.length/\e 3=dI 0/\e 8=dI i)/\(i<=l.length)/\(WF (l.drop i)=WF l)) (λi=>l.length - i) 0 ⟨wg,wi,(by rfl)⟩ λq c i e H a=>?_;obtain ⟨m,p,b⟩:=a;have Y:=wa Y m;refine dK (λd=>?_) λd=>?_
 .have hst:=b;rw [Vn d] at hst;have Y:=wa Y d;refine wv (h:=?_);repeat first|intro _|refine ⟨iD,?_⟩
  refine wq (λk=>?_) λk=>?_
  .rw [if_pos aD] at hst;exact wv (h:=f _ _ (by simp [go_sem,<- hst]))
  .rw [if_neg aD] at hst;refine wv (h:=?_);repeat first|intro _|refine ⟨iD,?_⟩
   exact wx c (i+1) ⟨wg,wj,(hst)⟩
 .rw [g8 aD] at b;exact wv (h:=f _ _ (by simp [go_sem,<- b,WF]))
theorem JW {P:Program}(w:World)(y z ty b:TypeId)(sz:Nat)(g o e m:Nat)(a:Addr)(d h n:Nat)(c:Array Value)(t:TypeId)(cs:List Value)
  (A:P.underlying y=some (.slice b)) (u:(P.info? b).map (·.size)=some sz)
  (D:w.heap[g]?=some (.cells c t (0,0))) (B:n=Nat.min d e) (s:cs.length=n * sz)
  (k:∀ j v,cs[j]?=some v->w.cell? (a.add j)=some v) (l:o+cs.length<=c.size) (E:∀ v∈cs,v.oneCell'=true) :
  (Builtin.copy_ #[y,z] ty #[.slice (some ⟨g,o,none⟩) e m,.slice (some a) d h]).run P w =
   .ok (goInt n) (w.setRow g (c.toList.take o++cs++c.toList.drop (o+cs.length)).toArray):=by
 have x:=run_loadCells_list (P:=P) w a cs k;have q:=run_storeCells_at P g o t cs 0 c w D (eQ l) E;cases r:P.info? b with
 | none=>simp [r] at u
 | some i =>
  have C:i.size=sz:=by simpa [r] using u
  rw [s] at x;simp [Builtin.copy_,run_underlying A,Builtin.lenOf,Builtin.firstCells,sizeOf,typeInfo,r,C,<- B,x,q]
def cmp1 (a b:Int):Int:=if a<b then -1 else if b<a then 1 else 0
theorem PY (a b:Int):Pua 350 [dI a,dI b] (dI (cmp1 a b)):=by
 refine Tz.p0 func350 rfl λQ e Y=>?_;refine wv (h:=aB (A6 a) wl ?_);refine wv (h:=aB (A6 b) wl ?_);refine dK (λd=>?_) λd=>?_
 .have Y:=xa1 Y d @cmp1.eq_1;exact wv (h:=e _ _ wy)
 .refine dK (λc=>?_) λc=>?_
  .have Y:=xa2 Y d c @cmp1.eq_1;exact wv (h:=e _ _ wy)
  .have Y:=xa2 Y d c @cmp1.eq_1;exact wv (h:=e _ _ wy)
theorem Vy {n:Nat}{x:Int}(h:x∈gB n):0<=x/\x<n:=by
 simp only [gB,aW,bA] at h;grind
theorem Ke (n:Nat)(p:n<=100000):Own prog 77 [dI 0,dI n] 3 1 ((gB n).map cI):=by
 refine Tz.oK ⟨λt=>t==5,λ_=>[]⟩ func77 rfl (λQ r=>?_);have Y:=trivial;refine wv (h:=aY (λi e H=>(e 0=dI 0/\e 1=dI n/\e 5=.own 0 i/\e 6=dI i)/\(H.get 0=some ⟨3,1,(gB i).map cI,false⟩)/\(0<H.next)/\(i<=n)/\((gB i).length=i)) (λi=>n - i) 0 ⟨wg,(by rfl),wn,wi,(iF _)⟩ λs d i e H c=>?_);obtain ⟨l,b,a,q,k⟩:=c;have Y:=xa3 Y l b (bL a) k;refine dK (λf=>?_) λf=>?_
 .have Y:=wa Y f;exact wo (h:=wx d (i+1) ⟨wg,(by simp [go_sem,xA]),wn,wj,(iF _)⟩)
 .have hie:i=n:=aD;refine wv (h:=?_);grind
def nI (t:Types)(i:Nat):Bool:=match t.h[i]? with|some n=>n.ce|none=>false
def sG (t:Types):W3:=((List.range t.h.length).filter λi=>!nI t i).map λ(i:Nat)=>(i:Int)
theorem HO (t:Types)(w:t.h.length<=100000):Pua 76 [t.d] (dLI (sG t)):=by
 refine Tz.pK ⟨λt=>t==3,λ_=>[]⟩ func76 rfl (λQ s=>?_);have Y:=trivial;refine wv (h:=aY (λi e H=>∃ a:W3,(e 1=.adr t.c/\e 3=.own 0 a.length/\e 4=dI i)/\(H.get 0=some ⟨3,1,a.map cI,false⟩)/\(0<H.next)/\(i<=t.h.length)/\(a.length<=i)/\(a=((List.range i).filter λi=>!nI t i).map (λ(b:Nat)=>(b:Int)))) (λi=>t.h.length - i) 0 ⟨([]),wg,wn,wn,wi,dB,(by rfl)⟩ λz j i e H n=>?_);obtain ⟨a,u,k,g,x,r,m⟩:=n;have Y:=xa2 Y u k (bL g);refine d8 (λl=>?_) λl=>?_
 .have hab:nI t i=t.h[i].ce:=by simp [nI,aA l]
  have Y:=xa2 Y l (aA l) hab;refine d8 (λo=>?_) λo=>?_
  .have Y:=wa Y o;exact wo (h:=wx j (i+1) ⟨(a++(if (!nI t i)=true then [(i:Int)] else [])),wg,wn,wn,wj,(by rw [aH];split<;>simp<;>omega),(by rw [b7,<- m])⟩)
  .have Y:=wa Y o;exact wo (h:=wx j (i+1) ⟨(a++(if (!nI t i)=true then [(i:Int)] else [])),wg,wn,wn,wj,(by rw [aH];split<;>simp<;>omega),(by rw [b7,<- m])⟩)
 .have hY:sG t=a:=by rw [m,(aD:i=t.h.length)];rfl
  exact wv (h:=s _ _ (by simp [go_sem,Y,hY]))
theorem HU (t:Types)(w:t.h.length<=100000):Pua 67 [t.d] (dLI (sG t)):=by
 refine Tz.pK ⟨λt=>t==3,λ_=>[]⟩ func67 rfl (λQ s=>?_);have Y:=trivial;refine wv (h:=aY (λi e H=>∃ a:W3,(e 1=.adr t.c/\e 3=.own 0 a.length/\e 4=dI i)/\(H.get 0=some ⟨3,1,a.map cI,false⟩)/\(0<H.next)/\(i<=t.h.length)/\(a.length<=i)/\(a=((List.range i).filter λi=>!nI t i).map (λ(b:Nat)=>(b:Int)))) (λi=>t.h.length - i) 0 ⟨([]),wg,wn,wn,wi,dB,(by rfl)⟩ λz j i e H n=>?_);obtain ⟨a,u,k,g,x,r,m⟩:=n;have Y:=xa2 Y u k (bL g);refine d8 (λl=>?_) λl=>?_
 .have hab:nI t i=t.h[i].ce:=by simp [nI,aA l]
  have Y:=xa2 Y l (aA l) hab;refine d8 (λo=>?_) λo=>?_
  .have Y:=wa Y o;exact wo (h:=wx j (i+1) ⟨(a++(if (!nI t i)=true then [(i:Int)] else [])),wg,wn,wn,wj,(by rw [aH];split<;>simp<;>omega),(by rw [b7,<- m])⟩)
  .have Y:=wa Y o;exact wo (h:=wx j (i+1) ⟨(a++(if (!nI t i)=true then [(i:Int)] else [])),wg,wn,wn,wj,(by rw [aH];split<;>simp<;>omega),(by rw [b7,<- m])⟩)
 .have hY:sG t=a:=by rw [m,(aD:i=t.h.length)];rfl
  exact wv (h:=s _ _ (by simp [go_sem,Y,hY]))
def FI (b:List Bool):W3:=(XN b).map λ(i:Nat)=>(i:Int)
theorem C0 (b:List Bool)(u:b.length<=100000):Pua 122 [.list (b.map cB)] (dLI (FI b)):=by
 refine Tz.pK ⟨λt=>t==3,λ_=>[]⟩ func122 rfl (λQ q=>?_);have Y:=trivial;refine wv (h:=aY (λi e H=>∃ a:W3,(e 0=.list (b.map cB)/\e 3=.own 0 a.length/\e 4=dI i)/\(H.get 0=some ⟨3,1,a.map cI,false⟩)/\(0<H.next)/\(i<=b.length)/\(a.length<=i)/\(a=((List.range i).filter λi=>b[i]?.getD false).map (λ(b:Nat)=>(b:Int)))) (λi=>b.length - i) 0 ⟨([]),wg,wn,wn,wi,dB,(by rfl)⟩ λx f i e H l=>?_);obtain ⟨a,r,g,d,v,p,k⟩:=l;have Y:=xa2 Y r g (bL d);refine d8 (λj=>?_) λj=>?_
 .have hgd:b[i]?.getD false=b[i]:=by rw [aA j];rfl
  have Y:=xa2 Y j (aA j) hgd;refine d8 (λm=>?_) λm=>?_
  .have Y:=wa Y m;exact wo (h:=wx f (i+1) ⟨(a++(if b[i]?.getD false=true then [(i:Int)] else [])),wg,wn,wn,wj,(by rw [aH];split<;>simp<;>omega),(by rw [b7,<- k])⟩)
  .have Y:=wa Y m;exact wo (h:=wx f (i+1) ⟨(a++(if b[i]?.getD false=true then [(i:Int)] else [])),wg,wn,wn,wj,(by rw [aH];split<;>simp<;>omega),(by rw [b7,<- k])⟩)
 .have hY:FI b=a:=by rw [k,(aD:i=b.length)];rfl
  exact wv (h:=q _ _ (by simp [go_sem,Y,hY]))
theorem Bz (g:Graph)(b:g.h.length<=100000)(c:g.i.length<=100000):Pua 75 [g.d] g.d:=by
 refine Tz.pK ⟨λt=>t==2||t==3||t==7,λr=>match r with|1=>[(0,1),(0,2),(0,4),(1,4),(2,4),(3,4),(0,5),(3,5),(4,5),(0,6),(3,6),(4,6)]|_=>[]⟩ func75 rfl (λQ a=>?_);have Y:=trivial;exact wo (h:=a _ _ wy)
theorem u6 (l:W3)(v:∀ x∈l,0<=x/\x<l.length)(u:∀ a b,a<b->b<l.length->l[a]?≠l[b]?):Pua 79 [dLI l] (dI 0):=by
 refine Tz.p0 func79 rfl λQ w Y=>?_;refine wv (h:=aY (λi e H=>(e 0=dLI l/\e 3=dI i)/\(i<=l.length)) (λi=>l.length - i) 0 ⟨wg,wi⟩ λG r i e H o=>?_);obtain ⟨A,D⟩:=o;have Y:=wa Y A;refine wv (h:=?_);repeat first|intro _|refine ⟨iD,?_⟩
 refine wq (λg=>?_) λg=>?_
 .have hx:=v _ (aC g);have Y:=xa1 Y g (aA g);refine wo (h:=bC (λs=>?_) (λs=>?_))
  .simp [aA g] at s;omega
  .try simp [go_sem] at s
   exact wo (h:=wx r (i+1) ⟨wg,wj⟩)
 .refine wv (h:=aY (λk e H=>(e 0=dLI l/\e 4=dI k)/\(k<=l.length)) (λk=>l.length - k) 0 ⟨wg,wi⟩ λF q k e H n=>?_);obtain ⟨z,C⟩:=n;have Y:=wa Y z;refine wv (h:=?_);repeat first|intro _|refine ⟨iD,?_⟩
  refine wq (λc=>?_) λc=>?_
  .have Y:=xa1 Y c (aA c);refine wv (h:=aY (λm e H=>(e 0=dLI l/\e 4=dI k/\e 5=dI m)/\(m<=k)) (λm=>k - m) 0 ⟨wg,wi⟩ λE p m e H j=>?_);obtain ⟨y,B⟩:=j;have Y:=wa Y y;refine dK (λf=>?_) λf=>?_
   .have hml:m<l.length:=aD;have Y:=xa2 Y f (aA hml) hml;refine wo (h:=bC (λd=>?_) (λd=>?_))
    .exact absurd (show l[k]=l[m] by simpa [aA c,aA hml] using d) (λt=>u m k f c (by rw [aA hml,aA c,t]))
    .try simp [go_sem] at d
     exact wo (h:=wx p (m+1) ⟨wg,wj⟩)
   .exact wo (h:=wx q (k+1) ⟨wg,wj⟩)
  .have Y:=xa1 Y g c;exact wv (h:=w _ _ wy)
def N5 (xs:W3)(i j:Nat):W3:=(xs.set i (xs[j]?.getD 0)).set j (xs[i]?.getD 0)
theorem N4 (xs:W3)(i j:Nat):(N5 xs i j).length=xs.length:=by simp [N5]
abbrev B2:=UInt8 × UInt8
def cP (x:B2):UN:=[.int .u8 (x.1.toNat:Int),.int .u8 (x.2.toNat:Int)]
theorem j6 (x:UInt8):(x.toNat:Int)<256:=by have:=x.toNat_lt;omega
@[go_sem] theorem Wl (l:List B2):D.O (l.map cP)=true:=dN _ (λ_=>rfl) l
def tyA:ByteArray:=⟨#[65,66,67,68,69,70]⟩
def tyU:ByteArray:=⟨#[117,118,119,120,121,122]⟩
def tyE:ByteArray:=⟨#[101,102,103,104,105]⟩
def Ar (i:Nat)(x:B2):NodeTy :=
 ⟨tyA.extract i (i+1),(x.1.toNat:Int).tmod ((i:Int)+1) - 1,((x.1.toNat:Int) / 16).tmod 4==3,
  if (x.2.toNat:Int).tmod 4=1 then [⟨tyU.extract i (i+1),-3,3+((x.2.toNat:Int) / 4).tmod 9,[]⟩]
  else if (x.2.toNat:Int).tmod 4=2 then [⟨tyU.extract i (i+1),0,1,[⟨#[111,102,102]⟩,⟨#[111,110]⟩]⟩] else []⟩
def zD (i:Nat)(x:B2):UN :=
 [.str (tyA.extract i (i+1)),dI ((x.1.toNat:Int).tmod ((i:Int)+1) - 1),.bool (((x.1.toNat:Int) / 16).tmod 4==3),
  if (x.2.toNat:Int).tmod 4=1 then .list [[.str (tyU.extract i (i+1)),dI (-3),dI (3+((x.2.toNat:Int) / 4).tmod 9),.nil]]
  else if (x.2.toNat:Int).tmod 4=2 then .list [[.str (tyU.extract i (i+1)),dI 0,dI 1,.list [[.str ⟨#[111,102,102]⟩],[.str ⟨#[111,110]⟩]]]] else .nil]
theorem VF (i:Nat)(x:B2):iI (zD i x)=(Ar i x).c:=by
 unfold zD Ar NodeTy.c;by_cases d:(x.2.toNat:Int).tmod 4=1
 .simp [d,mC,iI,eE,Attr.c,dI,sK]
 .by_cases b:(x.2.toNat:Int).tmod 4=2
  .simp [b,mC,iI,eE,Attr.c,dI,sK,cS]
  .simp [d,b,mC,iI,dI]
def pY (ns:List B2)(i:Nat):B2:=ns[i]?.getD (0,0)
def Ew (ns:List B2)(n:Nat):List NodeTy:=(List.range n).map λi=>Ar i (pY ns i)
def Sz (n:Int)(i:Nat)(x:B2):EdgeTy:=⟨tyE.extract i (i+1),(x.1.toNat:Int).tmod n,(x.2.toNat:Int).tmod n,0,-1,0,-1⟩
def wC (n:Int)(es:List B2)(k:Nat):List EdgeTy:=(List.range k).map λi=>Sz n i (pY es i)
def qM (ns:List B2):Nat:=max 1 (min ns.length 6)
def p6 (ns es:List B2):Types:=⟨Ew ns (qM ns),wC (qM ns) es (min es.length 5)⟩
def wB (ns:List B2)(n:Nat):UE:=(List.range n).map λi=>zD i (pY ns i)
theorem vF (ns:List B2)(i:Nat):wB ns (i+1)=wB ns i++[zD i (pY ns i)]:=by simp [wB,bS]
theorem tZ (ns:List B2)(i:Nat):(wB ns i).length=i:=by simp [wB]
theorem Ub (ns:List B2)(i:Nat):eE (wB ns i)=(Ew ns i).map NodeTy.c:=by
 rw [w9];simp only [wB,Ew,Fd];exact bJ λj _=>VF j _
theorem jR {l:UE}(h:∀ c∈l,iI c=c):eE l=l:=by
 rw [w9];conv=>rhs;rw [<- List.map_id l]
 exact bJ h
theorem tX (l:List EdgeTy):eE (l.map EdgeTy.c)=l.map EdgeTy.c:=jR λc hc=>by
 rw [aW] at hc;obtain ⟨x,_,rfl⟩:=hc;rfl
theorem Ro (ns:List B2)(i:Nat):(Ew ns i).length=i:=by simp [Ew]
theorem Pk (n:Int)(es:List B2)(i:Nat):wC n es (i+1)=wC n es i++[Sz n i (pY es i)]:=by simp [wC,bS]
theorem B6 (n:Int)(es:List B2)(i:Nat):(wC n es i).length=i:=by simp [wC]
theorem dY {a n:Int}(h:0<=a)(hn:0<n):0<=a.tmod n/\a.tmod n<n:=⟨Int.tmod_nonneg _ h,Int.tmod_lt_of_pos _ hn⟩
theorem WS {a n:Int}(h:0<=a)(hn:0<n):0<=a.tdiv n/\a.tdiv n<=a:=⟨Int.tdiv_nonneg h aD,by rw [Int.tdiv_eq_ediv_of_nonneg h];exact Int.ediv_le_self _ h⟩
theorem Rv {n:Int}(b:0<=n)(a:n<=255):S7 .u8 n:=by grind [S7, IntKind.min, IntKind.max, IntKind.signed, IntKind.bits]
theorem Rc (ns es:List B2):Pua 35 [.list (ns.map cP),.list (es.map cP)] (p6 ns es).d:=by
 refine pS (by first|rfl|(simp [go_sem];done)) (λQ hQ=>(Tz.cK ⟨λt=>t==4||t==5||t==7||t==8,λr=>match r with|8=>[(3,17),(4,17),(5,17),(11,17),(12,17)]|20=>[(0,23),(1,23)]|_=>[]⟩ func35 rfl ?_));have Y:=trivial;refine wv (h:=lB (Ghosts.step (Ghosts.refl _) 1 0 0 130 4 _ _ (rfl) rfl rfl rfl) (λi e H=>(e 0=.list (ns.map cP)/\e 1=.list (es.map cP)/\e 4=.ptr 0 1 0 0/\e 5=.ptr 1 1 0 0/\e 6=dI i)/\(H.get 0=some ⟨43,2,[[.nil,.nil]],false⟩)/\(0<H.next)/\(H.get 1=some ⟨43,2,[[.own 2 i,.nil]],false⟩)/\(1<H.next)/\(H.get 2=some ⟨130,4,wB ns i,false⟩)/\(2<H.next)/\(i<=6)/\(i<=1\/i<=ns.length)/\((wB ns i).length=i)) (λi=>6 - i) 0 ⟨wg,wn,wn,wn,wn,(by rfl),wn,wi,aD,(tZ _ _)⟩ λI0 hI0 i e H hi0=>?_);obtain ⟨E0,g0_0,n0_0,g1_0,n1_0,g2_0,n2_0,hi,hi2,hl⟩:=hi0;have Y:=xa7 Y E0 g0_0 (bL n0_0) g1_0 (bL n1_0) g2_0 (bL n2_0) hl;refine i7 (λh3=>?_) λh3=>?_
 .obtain ⟨x,hx⟩:=gA (pY ns i);have hx1:=j6 x.1;have hx2:=j6 x.2;have hi5:i<6:=aD;have hm1:=dY (aD:0<=(x.1.toNat:Int)) (aD:0<(i:Int)+1);have hm2:=dY (aD:0<=(x.2.toNat:Int) / 4) (aD:(0:Int)<9);have hu1:=Rv (aD:0<=(x.1.toNat:Int) / 16) aD;have hu2:=Rv (aD:0<=(x.2.toNat:Int) / 4) aD;have hsz:(⟨#[65,66,67,68,69,70]⟩:ByteArray).size=6:=rfl;have hsz2:(⟨#[117,118,119,120,121,122]⟩:ByteArray).size=6:=rfl;have nx:=Qr H.next;have Y:=xa3 Y h3 hsz hsz2 nx;refine i7 (λh6=>?_) λh6=>?_
  .have hx0:ns[i]=x:=by rw [<- hx];simp [pY,aA h6]
   have Y:=xa2 Y (aA h6) hx0 @cP.eq_1;refine i7 (λh11=>?_) λh11=>?_
   .have hmn:zD i (pY ns i)=[.str (tyA.extract i (i+1)),dI ((x.1.toNat:Int).tmod ((i:Int)+1) - 1),.bool (((x.1.toNat:Int) / 16).tmod 4==3),.list [[.str (tyU.extract i (i+1)),dI (-3),dI (3+((x.2.toNat:Int) / 4).tmod 9),.nil]]]:=by rw [hx];simp [zD,h11]
    exact wp (h:=wx hI0 (i+1) ⟨wg,wn,wn,wn,wn,(by simp [go_sem,vF,hmn,tyA,tyU,dI]),wn,wj,aD,(tZ _ _)⟩)
   .refine dK (λh13=>?_) λh13=>?_
    .have hmn:zD i (pY ns i)=[.str (tyA.extract i (i+1)),dI ((x.1.toNat:Int).tmod ((i:Int)+1) - 1),.bool (((x.1.toNat:Int) / 16).tmod 4==3),.list [[.str (tyU.extract i (i+1)),dI 0,dI 1,.list [[.str ⟨#[111,102,102]⟩],[.str ⟨#[111,110]⟩]]]]]:=by rw [hx];simp [zD,h13]
     exact wp (h:=wx hI0 (i+1) ⟨wg,wn,wn,wn,wn,(by simp [go_sem,vF,hmn,tyA,tyU,dI]),wn,wj,aD,(tZ _ _)⟩)
    .have hmn:zD i (pY ns i)=[.str (tyA.extract i (i+1)),dI ((x.1.toNat:Int).tmod ((i:Int)+1) - 1),.bool (((x.1.toNat:Int) / 16).tmod 4==3),.nil]:=by rw [hx];simp [zD,h11,h13]
     exact wp (h:=wx hI0 (i+1) ⟨wg,wn,wn,wn,wn,(by simp [go_sem,vF,hmn,tyA,dI]),wn,wj,aD,(tZ _ _)⟩)
  .have hx0:x=(0,0):=by rw [<- hx];simp [pY,bX h6]
   subst hx0;have hmn:zD i (pY ns i)=[.str (tyA.extract i (i+1)),dI (-1),.bool false,.nil]:=by rw [hx];simp [zD]
   exact wp (h:=wx hI0 (i+1) ⟨wg,wn,wn,wn,wn,(by simp [go_sem,vF,hmn,tyA,dI]),wn,wj,aD,(tZ _ _)⟩)
 .have hN:i=qM ns:=by unfold qM;omega
  refine wv (h:=lB (Ghosts.step (Ghosts.refl _) 1 0 1 132 7 _ _ (g1_0) rfl rfl rfl) (λk e H=>∃ j:Nat,(e 0=.list (ns.map cP)/\e 1=.list (es.map cP)/\e 4=.ptr 0 1 0 0/\e 5=.ptr 1 1 0 0/\e 10=dI k)/\(H.get 0=some ⟨43,2,[[.nil,.nil]],false⟩)/\(0<H.next)/\(H.get 1=some ⟨43,2,[[.own 2 i,.own j k]],false⟩)/\(1<H.next)/\(H.get 2=some ⟨130,4,wB ns i,false⟩)/\(2<H.next)/\(H.get j=some ⟨132,7,(wC i es k).map EdgeTy.c,false⟩)/\(j<H.next)/\(k<=5)/\(k<=es.length)/\(j≠0)/\(j≠1)/\(j≠2)/\((wC i es k).length=k)) (λk=>5 - k) 0 ⟨H.next,wg,wn,wn,wn,wn,wn,wn,(by simp [go_sem,wC,Y]),wn,wi,wi,aD,aD,aD,(B6 _ _ _)⟩ λI3 hI3 k e H hi3=>?_);obtain ⟨j,E3,g0_3,n0_3,g1_3,n1_3,g2_3,n2_3,gj_3,nj_3,hk,hk2,j0,j1,j2,hle⟩:=hi3;have Y:=xa4 Y E3 g0_3 (bL n0_3) g1_3 (xb0 (bL n1_3) g2_3 (bL n2_3) gj_3 (bL nj_3) hle j0 j1 j2 j0.symm j1.symm j2.symm);refine i7 (λh17=>?_) λh17=>?_
  .obtain ⟨x,hx⟩:=gA (pY es k);have hk5:k<es.length/\k<5:=aD;have hx0:es[k]'hk5.1=x:=by rw [<- hx];simp [pY,aA hk5.1]
   have hi0:0<i:=by rw [hN];unfold qM;omega
   have hx1:=j6 x.1;have hx2:=j6 x.2;have hszE:(⟨#[101,102,103,104,105]⟩:ByteArray).size=5:=rfl;have nx:=Qr H.next;have Y:=xa5 Y h17 (aA hk5.1) hx0 @cP.eq_1 hszE nx;exact wp (h:=wx hI3 (k+1) ⟨j,wg,wn,wn,wn,wn,wn,wn,(by simp [go_sem,Y,Pk,Sz,hx,tyE,EdgeTy.c,dI]),wn,wj,wj,wj,wj,wj,(B6 _ _ _)⟩)
  .have hK:k=min es.length 5:=aD;refine wv (h:=?_);exact hQ _ _ (by simp [go_sem,Y,p6,<- hN,<- hK,Ub,tX,Types.d,Types.c])
def cU (x:UInt8):UN:=[.int .u8 (x.toNat:Int)]
@[go_sem] theorem Nm (l:List UInt8):D.O (l.map cU)=true:=dN _ (λ_=>rfl) l
def Oa (n:Nat)(l:List UInt8)(i:Nat):Nat:=((i:Int)+((l[i]?.getD 0).toNat:Int).tmod ((n:Int) - i)).toNat
def Sb (n:Nat)(l:List UInt8)(xs:W3)(i:Nat):W3:=N5 xs i (Oa n l i)
def Ac (n:Nat)(l:List UInt8):W3:=(List.range (min n l.length)).foldl (Sb n l) (gB n)
def F4 (n:Nat)(xs:W3):Prop:=xs.length=n/\(∀ x∈xs,0<=x/\x<n)/\∀ a b,a<b->b<xs.length->xs[a]?≠xs[b]?
theorem Hg {xs:W3}{i j:Nat}(b:i<xs.length)(a:j<xs.length)(k:Nat):(N5 xs i j)[k]?=if k=j then xs[i]? else if k=i then xs[j]? else xs[k]?:=by
 unfold N5;grind
theorem Le {n:Nat}{xs:W3}{i j:Nat}(h:F4 n xs)(q:i<n)(p:j<n):F4 n (N5 xs i j):=by
 obtain ⟨o,f,r⟩:=h;have d:i<xs.length:=aD;have c:j<xs.length:=aD;refine ⟨by rw [N4,o],λx g=>?_,λa b m l=>?_⟩
 .obtain ⟨k,e⟩:=List.getElem?_of_mem g;rw [Hg d c] at e;split at e
  .exact f x (aL e)
  .split at e
   .exact f x (aL e)
   .exact f x (aL e)
 .rw [N4] at l;rw [Hg d c,Hg d c];grind
theorem Ii {n a:Nat}(h:a<n):(gB n)[a]?=some (a:Int):=by
 simp [gB,fR h]
theorem Lk (n:Nat):F4 n (gB n):=⟨iF n,λx hx=>Vy hx,λa b hab hb=>by
 rw [iF] at hb;rw [Ii aD,Ii hb];simp;omega⟩
theorem Vb {n:Nat}{l:List UInt8}{i:Nat}(hi:i<n):Oa n l i<n:=by
 have:=dY (show 0<=((l[i]?.getD 0).toNat:Int) by omega) (aD:0<(n:Int) - i);unfold Oa;omega
theorem KO (n:Nat)(l:List UInt8):∀ k,k<=n->F4 n ((List.range k).foldl (Sb n l) (gB n))
 | 0,_=>Lk n
 | k+1,h=>by
  rw [bS,j4];exact Le (KO n l k aD) aD (Vb aD)
theorem Hw (n:Nat)(l:List UInt8):F4 n (Ac n l):=KO n l _ aD
theorem By (n:Nat)(E:n<=100000)(l:List UInt8):Pua 41 [dI n,.list (l.map cU)] (dLI (Ac n l)):=by
 refine Tz.pK ⟨λt=>t==5,λ_=>[]⟩ func41 rfl (λQ G=>?_);have Y:=@iF;refine wv (h:=lG (Ke n E) wl ?_);refine wv (h:=aY (λi e H=>∃ a:W3,(e 0=dI n/\e 1=.list (l.map cU)/\e 5=.own 0 n/\e 6=dI i)/\(H.get 0=some ⟨3,1,a.map cI,false⟩)/\(0<H.next)/\(i<=n)/\(i<=l.length)/\(F4 n a)/\(a=(List.range i).foldl (Sb n l) (gB n))) (λi=>n - i) 0 ⟨(gB n),wg,(by simp [go_sem]),wn,wi,wi,(Lk n),(by rfl)⟩ λO u i e H s=>?_);obtain ⟨a,K,o,f,M,F,q,v⟩:=s;have Y:=xa2 Y K o (bL f);refine i7 (λm=>?_) λm=>?_
 .have hx1:=j6 l[i];have b:=q.1;have B:=dY (aD:0<=(l[i].toNat:Int)) (aD:0<(n:Int) - i);obtain ⟨j,w⟩:∃ j:Nat,(i:Int)+(l[i].toNat:Int).tmod ((n:Int) - i)=(j:Int):=⟨((i:Int)+(l[i].toNat:Int).tmod ((n:Int) - i)).toNat,(Int.toNat_of_nonneg aD).symm⟩;have r:j<n:=aD;have I:Oa n l i=j:=by unfold Oa;rw [aA m.2,Option.getD_some,w];rfl
  have d:i<a.length:=aD;have c:j<a.length:=aD;have D:a[i]?.getD 0=a[i]:=by rw [aA d];rfl
  have C:a[j]?.getD 0=a[j]:=by rw [aA c];rfl
  have g:(n:Int) - i≠0:=aD;have p:((a.map cI).set i [.int .i64 a[j]])[j]?=some [.int .i64 a[j]]:=by
   rw [dA];by_cases k:i=j
   .subst k;simp [d]
   .rw [if_neg k,aM,aA c];rfl
  have Y:=xa8 Y m p w b (aA m.2) (aA d) (aA c) g @cU.eq_1;exact wp (h:=wx u (i+1) ⟨(N5 a i j),wg,(by simp [go_sem,Y,N5]),wn,wj,wj,(Le q m.1 r),(by rw [bS,j4,<- v];simp [Sb,I])⟩)
 .have hI:i=min n l.length:=aD;have b:=q.1;have J:Ac n l=a:=by rw [v,hI];rfl
  exact wv (h:=G _ _ (by simp [go_sem,Y,J,b]))
def J3 (p xs:W3)(k:Nat):W3:=(List.range k).foldl (λacc i=>acc.set (p[i]?.getD 0).toNat (xs[i]?.getD 0)) xs
def WY (p:W3)(x:Edge):Edge:=⟨x.type,p[x.w.toNat]?.getD 0,p[x.M.toNat]?.getD 0⟩
def My (p q:W3)(es:List Edge)(k:Nat):List Edge:=(List.range k).foldl (λacc i=>acc.set (q[i]?.getD 0).toNat (WY p (es[i]?.getD ⟨0,0,0⟩))) es
def Oo (g:Graph)(p q:W3):Graph:=if graphF g=0 then ⟨J3 p g.h g.h.length,My p q g.i g.i.length⟩ else ⟨[],[]⟩
theorem KX (p xs:W3)(k:Nat):J3 p xs (k+1)=(J3 p xs k).set (p[k]?.getD 0).toNat (xs[k]?.getD 0):=by simp [J3,bS]
theorem CT (p xs:W3):∀ k,(J3 p xs k).length=xs.length
 | 0=>rfl
 | k+1=>by rw [KX,fV,CT p xs k]
theorem KY (p q:W3)(es:List Edge)(k:Nat):My p q es (k+1)=(My p q es k).set (q[k]?.getD 0).toNat (WY p (es[k]?.getD ⟨0,0,0⟩)):=by simp [My,bS]
theorem CU (p q:W3)(es:List Edge):∀ k,(My p q es k).length=es.length
 | 0=>rfl
 | k+1=>by rw [KY,fV,CU p q es k]
theorem oD (g:Graph)(k:g.h.length<=100000)(l:g.i.length<=100000)(G:AHeap)(Q:D->AHeap->Prop)
  (i:∀ a b H',G.next<=a->G.next<=b->a≠b->a<H'.next->b<H'.next->H'.get a=some ⟨3,1,g.h.map cI,false⟩->H'.get b=some ⟨134,3,g.i.map Edge.c,false⟩->(∀ j,j<G.next->H'.get j=G.get j)->G.next<=H'.next->Q (.agg [.own a g.h.length,.own b g.i.length]) H'):ACalls prog 75 [g.d] G Q:=by
 refine (Tz.cK ⟨λt=>t==2||t==3||t==7,λr=>match r with|1=>[(0,1),(0,2),(0,4),(1,4),(2,4),(3,4),(0,5),(3,5),(4,5),(0,6),(3,6),(4,6)]|_=>[]⟩ func75 rfl ?_);have e:=Qr G.next;have Y:=e;refine wo (h:=?_);exact i _ _ _ (by first|omega|(simp [go_sem]<;>omega)|(simp [go_sem,e]<;>omega)) (by first|omega|(simp [go_sem]<;>omega)|(simp [go_sem,e]<;>omega)) (by first|omega|(simp [go_sem]<;>omega)|(simp [go_sem,e]<;>omega)) (by first|omega|(simp [go_sem]<;>omega)|(simp [go_sem,e]<;>omega)) (by first|omega|(simp [go_sem]<;>omega)|(simp [go_sem,e]<;>omega)) (by simp [go_sem]<;>omega) (by simp [go_sem]<;>omega) (λj f=>by simp [go_sem,bL f]) (by first|omega|(simp [go_sem]<;>omega)|(simp [go_sem,e]<;>omega))
theorem Kd (g:Graph)(hn:g.h.length<=100000)(he:g.i.length<=100000)(p q:W3)(hp:F4 g.h.length p)(hq:F4 g.i.length q):Pua 42 [g.d,Part.d ⟨p,q⟩] (.tup [(Oo g p q).d,dI (graphF g)]):=by
 obtain ⟨m,V,a5⟩:=hp;obtain ⟨l,U,a2⟩:=hq;refine Tz.pK ⟨λt=>t==4||t==9||t==12,λ_=>[]⟩ func42 rfl (λQ hQ=>?_);have Y:=wa m l;refine wv (h:=aB (kH g) wl ?_);refine dK (λZ=>?_) λZ=>?_
 .exact wv (h:=hQ _ _ (by simp [go_sem,Oo,Z]))
 .refine wp (h:=aB (u6 p (by rw [m];exact V) a5) wl ?_);refine wp (h:=aB (u6 q (by rw [l];exact U) a2) wl ?_);refine wp (h:=?_);unfold fE;refine oD g hn he _ _ (λa b R ha hb b9 b8 b5 M L a8 b4=>?_);have c1:(0:Nat)<R.next:=aD;have c0:a≠0:=by simp [go_sem] at ha;omega
  have b7:b≠0:=by simp [go_sem] at hb;omega
  have n:=a8 0 (by simp [go_sem]);simp [go_sem] at n;have S:=Qr R.next;have N:=xa1 (bL (aD:a<R.next)) (bL (aD:b<R.next)) (bL (aD:0<R.next));have P:=xa1 (cY (aD:0≠b)) (cY (aD:0≠a)) (cY (aD:b≠a));have Y:=xa5 Y N P M L n S;refine wp (h:=aY (λi e H=>∃ c:Nat,(e 2=.adr g.c/\e 3=.adr [dLI p,dLI q]/\e 4=.ptr 0 1 0 0/\e 9=.ptr c 1 0 0/\e 10=dI i)/\(H.get 0=some ⟨51,2,[[.nil,.nil]],false⟩)/\(0<H.next)/\(H.get c=some ⟨51,2,[[.own a g.h.length,.own b g.i.length]],false⟩)/\(c<H.next)/\(H.get a=some ⟨3,1,(J3 p g.h i).map cI,false⟩)/\(a<H.next)/\(H.get b=some ⟨134,3,g.i.map Edge.c,false⟩)/\(b<H.next)/\(i<=g.h.length)/\(a<c/\b<c)/\((J3 p g.h i).length=g.h.length)) (λi=>g.h.length - i) 0 ⟨R.next,wg,wn,wn,wn,wn,(by simp [go_sem,Y,J3]),wn,wn,wn,wi,aD,(by exact CT _ _ _)⟩ λI0 b1 i e H a7=>?_);obtain ⟨c,E0,J,A,C,u,G,y,E,w,hi,hc,f⟩:=a7;have O:=xa4 (cY (aD:0≠c)) (cY (aD:0≠b)) (cY (aD:0≠a)) (cY (aD:c≠b)) (cY (aD:c≠a)) (cY (aD:b≠a));have Y:=xb0 Y E0 J (bL A) C (bL u) G (bL y) E (bL w) f O;refine i7 (λr=>?_) λr=>?_
  .have hip:i<p.length:=aD;have b3:=V _ (aC hip);have a4:p[i]?.getD 0=p[i]:=by rw [aA hip];rfl
   have K:g.h[i]?.getD 0=g.h[i]:=by rw [aA r];rfl
   have a3:p[i].toNat<(J3 p g.h i).length:=by rw [f];omega
   have Y:=xa3 Y r (aA r) (aA hip) (aA a3);exact wp (h:=wx b1 (i+1) ⟨c,wg,wn,wn,wn,wn,(by simp [go_sem,Y,KX,b6,a4,K]),wn,wn,wn,wj,aD,(by exact CT _ _ _)⟩)
  .have hI:i=g.h.length:=aD;rw [hI] at f;have Y:=xa6 m l N P M L n (xb0 S E0 J (bL A) C (bL u) G (bL y) E (bL w) f O);refine wv (h:=aY (λk e H=>(e 2=.adr g.c/\e 3=.adr [dLI p,dLI q]/\e 4=.ptr 0 1 0 0/\e 9=.ptr c 1 0 0/\e 11=dI k)/\(H.get 0=some ⟨51,2,[[.nil,.nil]],false⟩)/\(0<H.next)/\(H.get c=some ⟨51,2,[[.own a g.h.length,.own b g.i.length]],false⟩)/\(c<H.next)/\(H.get a=some ⟨3,1,(J3 p g.h g.h.length).map cI,false⟩)/\(a<H.next)/\(H.get b=some ⟨134,3,(My p q g.i k).map Edge.c,false⟩)/\(b<H.next)/\(k<=g.i.length)/\((My p q g.i k).length=g.i.length)) (λk=>g.i.length - k) 0 ⟨wg,wn,wn,wn,wn,(by simp [go_sem,Y,<- hI]),wn,(by simp [go_sem,Y,My]),wn,wi,(by exact CU _ _ _ _)⟩ λI2 b0 k e H a6=>?_);obtain ⟨E2,I,z,B,s,F,x,D,v,hk,o⟩:=a6;have X:=xa4 (cY (aD:0≠c)) (cY (aD:0≠b)) (cY (aD:0≠a)) (cY (aD:c≠b)) (cY (aD:c≠a)) (cY (aD:b≠a));have Y:=xb0 Y E2 I (bL z) B (bL s) F (bL x) D (bL v) o X;refine i7 (λj=>?_) λj=>?_
   .have hkq:k<q.length:=aD;have b2:=U _ (aC hkq);have hg:=dP Z;have hE:=hg.2 _ (aC j);have W:g.i[k].w.toNat<p.length:=aD;have T:g.i[k].M.toNat<p.length:=aD;have a1:q[k]?.getD 0=q[k]:=by rw [aA hkq];rfl
    have K:g.i[k]?.getD ⟨0,0,0⟩=g.i[k]:=by rw [aA j];rfl
    have a9:WY p g.i[k]=⟨g.i[k].type,p[g.i[k].w.toNat],p[g.i[k].M.toNat]⟩:=by unfold WY;rw [aA W,aA T];rfl
    have a0:q[k].toNat<(My p q g.i k).length:=by rw [o];omega
    have S:=Qr H.next;have Y:=xa6 Y S j (aA j) (aA hkq) (aA a0) (aA W) (aA T);exact wp (h:=wx b0 (k+1) ⟨wg,wn,wn,wn,wn,(by simp [go_sem,Y]),wn,(by simp [go_sem,Y,KY,b6,a1,K,a9,Edge.c]),wn,wj,(by exact CU _ _ _ _)⟩)
   .have hK:k=g.i.length:=aD;rw [hK] at o;have Y:=xa8 m l N P M L n S f (xb0 O E2 I (bL z) B (bL s) F (bL x) D (bL v) o X);exact wv (h:=hQ _ _ (by simp [go_sem,Y,Oo,Z,hK]))
end Go.Abs
end
