/- Layer 26, the plain law: the host after a step is one; what  -/
import Derived.Test.YtpdanmkcpjdmjaaGreatZkAR
import Derived.Test.YtpdanmkcpjdmjaaGreatZkAF
import Derived.Test.YtpdanmkcpjdmjaaGreatZkAA
import Derived.Test.YtpdanmkcpjdmjaaGreatZkAE
import Derived.Carry
import Derived.ChangeArms
import Derived.WideShapes
import Derived.DataElems
import Derived.Laws.Externs
set_option linter.unusedVariables false
set_option linter.unusedSimpArgs false
section
set_option maxRecDepth 100000
set_option maxHeartbeats 4000000
open Go Go.Proofs Tryz
namespace Go.Abs
theorem Iv {t:Types}(d:t.aj):∀ c:Nat,c<t.h.length->∀ (b:Nat) (a:Int),mem (t.ao c) (b:Int)=true->mem (t.ao b) a=true->mem (t.ao c) a=true:=by
 intro c;induction c using Nat.strongRecOn with
 | _ c ih =>
 intro g b a hb h;have f:=d.D c _ (aA g);have e:=As t c g (d.ap c);rw [e,xC,cZ] at hb;rcases hb with hb|hb
 .by_cases h0:0<=t.h[c].D
  .rw [if_pos h0] at hb;rw [e,xC,cZ,if_pos h0];exact .inl (ih _ aD aD b a hb h)
  .rw [if_neg h0,yP] at hb;cases hb
 .have:b=c:=by simp at hb;omega
  subst this;exact h
theorem Uq {t:Types}(i:(cW t).2=0){ty a b e d:Int}(h:o6 t ty a b=true)(g:wJ t a e=true)(f:wJ t b d=true)(k:0<=e/\e<t.h.length)(j:0<=d/\d<t.h.length):o6 t ty e d=true:=by
 have c:=mW i;unfold o6 at h ⊢;simp only [aN,decide_eq_true_eq] at h ⊢;obtain ⟨⟨o,n⟩,m,l⟩:=h;obtain ⟨_,q,p⟩:=sE o;unfold wJ at g f;rw [show a=((a.toNat:Nat):Int) by omega] at g;rw [show b=((b.toNat:Nat):Int) by omega] at f;refine ⟨⟨?_,n⟩,Iv c _ aD a.toNat _ g m,Iv c _ aD b.toNat _ f l⟩;simp [given2F,i,insideF,k,j]
section
variable {t:Types} {r:Rule} {h:Host} {m:Mat}
theorem Xn {l a:W3}{es:List Edge}{g:Graph}{n:Int}(d:0<=n)(c:n<l.length)(b:g.h=l++a):gN g n=l[n.toNat]?.getD 0:=by
 unfold gN;rw [b,aR aD]
theorem StepIn.dy (S:StepIn t r h m):∀ x∈(bW t r h m).j.i,((0<=x.type/\x.type<t.i.length)/\(0<=x.w/\x.w<(bW t r h m).j.h.length)/\(0<=x.M/\x.M<(bW t r h m).j.h.length)) /\
  o6 t x.type (gN (bW t r h m).j x.w) (gN (bW t r h m).j x.M)=true:=λx hx=>by
 have hbN:=S.aS;have hbin:=S.di;rw [S.bt,Abs.aX,aW,aW] at hx;rcases hx with ⟨k,hk,rfl⟩|⟨k,hk,rfl⟩
 .have hr:=S.cP k hk;have hy:=Ng hr.1 hr.2;obtain ⟨e1,e2⟩:=S.ho.ed _ hy;have hgi:=(dP S.ho.gg).2 _ hy;obtain ⟨s1,s2⟩:=pN S.sub hk;obtain ⟨p1,p2,_⟩:=BY S.bb s1;obtain ⟨q1,q2,_⟩:=BY S.bb s2;have key:∀ v:Int,v∈(Abs.bY r h m).h->pT (Abs.bY r h m).h v<(Abs.bY r h m).h.length->iA (Abs.bY r h m).h (pT (Abs.bY r h m).h v)=v->gN (bW t r h m).j (pT (Abs.bY r h m).h v)=gN h.j v:=λv hv hp hi=>by
   rw [Xn (es:=[]) aD (eQ hp) hbN,show ((pT (Abs.bY r h m).h v:Nat):Int).toNat=pT (Abs.bY r h m).h v by omega,aM];unfold iA at hi;rw [show ((pT (Abs.bY r h m).h v:Nat):Int).toNat=pT (Abs.bY r h m).h v by omega,aA hp,Option.getD_some] at hi;rw [aA hp,Abs.dM,Option.getD_some,hi]
  have hl:(bW t r h m).j.h.length=(Abs.bY r h m).h.length+r.R.length:=by rw [hbN];simp
  rw [EJ];refine ⟨⟨⟨hgi.1.1,e1⟩,⟨by simp only;omega,by simp only;omega⟩,by simp only;omega,by simp only;omega⟩,?_⟩;simp only;rw [key _ s1 p1 p2,key _ s2 q1 q2];exact e2
 .have hr:=l8 hk;have hk2:k.toNat<r.right.j.i.length:=aD;have hy:=(lT S.hR.gr S.hR.tr).2 _ (Abs.aC hk2);rw [aA hk2,Option.getD_some];obtain ⟨y,hye⟩:=fD (r.right.j.i[k.toNat]);rw [<- hye] at hy ⊢;have hf:y.w.toNat<r.right.j.h.length:=aD;have ht:y.M.toNat<r.right.j.h.length:=aD;obtain ⟨n1,c1,l1,b1⟩:=S.df hf;obtain ⟨n2,Abs.c2,l2,b2⟩:=S.df ht;unfold freshE;rw [c1,Abs.c2];simp only [Option.getD_some];have hfit:o6 t y.type r.right.j.h[y.w.toNat] r.right.j.h[y.M.toNat]=true:=by
   have:=S.hR.dG;unfold vE at this;rw [aN,cD,cD,fM,fM] at this;have h1:=this.2 k hk;unfold unfitB at h1;rw [aA hk2,Option.getD_some,<- hye] at h1;unfold gN at h1;rw [aA hf,aA ht] at h1;simpa using h1
  have e1:gN (bW t r h m).j (n1:Int)=(bW t r h m).j.h[n1]:=by simp [gN,aA l1]
  have e2:gN (bW t r h m).j (n2:Int)=(bW t r h m).j.h[n2]:=by simp [gN,aA l2]
  refine ⟨⟨⟨hy.1.1,hy.1.2⟩,⟨aD,aD⟩,aD,aD⟩,?_⟩;rw [e1,e2];exact Uq S.hR.vf hfit b1 b2 (hbin _ (Abs.aC l1)) (hbin _ (Abs.aC l2))
theorem VV {x:Host}(f:(cW t).2=0)(h:x.j.h.length<=40)(l:x.j.i.length<=80)(s:x.k.length=x.j.h.length)(m:∀ a∈x.j.h,0<=a/\a<t.h.length)
  (d:∀ (n:Nat) (p:n<x.j.h.length) (w:n<x.k.length),iJ t x.j.h[n] x.k[n]=0)
  (c:∀ y∈x.j.i,((0<=y.type/\y.type<t.i.length)/\(0<=y.w/\y.w<x.j.h.length)/\(0<=y.M/\y.M<x.j.h.length))/\o6 t y.type (gN x.j y.w) (gN x.j y.M)=true):fX t x=0:=by
 have v:=(mW f).aT;have k:=(mW f).bI;have u:graphF x.j=0:=EF h l (λa o=>by have:=m a o;omega) λy g=>by
  obtain ⟨⟨r,e,q⟩,_⟩:=c y g;exact ⟨aD,e,q⟩
 have p:(gY (Gs t x) 0 x.j.h.length).2=0:=by
  rw [vL];refine iK _ _ λj _ i=>?_;have b:j<x.j.h.length:=aD;unfold Gs;rw [aA b,aA (aD:j<x.k.length),Option.getD_some,Option.getD_some];exact d j b aD
 unfold fX oY;rw [if_neg aD,if_neg aD,if_neg aD,if_neg aD,vL];refine iK _ _ λj _ i=>?_;have b:j<x.j.i.length:=aD;obtain ⟨r,e⟩:=c _ (aC b);unfold Um;rw [aA b,Option.getD_some,if_neg aD,if_pos e]
theorem Sj {g:Graph}{c:Part}{vs:W3}:∀ (l:List Slot) (vals:Yb),vals.length=g.h.length->(∀ (n:Nat) (h1:n<g.h.length) (h2:n<vals.length),iJ t g.h[n] vals[n]=0) ->
  (∀ s∈l,yM t g c vs s=false)->(∀ s∈l,0<=s.J)->∀ (n:Nat) (h1:n<g.h.length) (h2:n<(v7 c vs l vals).length),iJ t g.h[n] (v7 c vs l vals)[n]=0
 | [],vals,_,hx,_,_=>λn h1 h2=>hx n h1 h2
 | s :: l,vals,hl,hx,ho,ha=>by
  refine Sj l (vals.set (fF c s) ((vals[fF c s]?.getD []).set s.J.toNat (dG s.x vs))) (by rw [fV];exact hl) (λn h1 h2=>?_) (λs hs=>ho s (by simp [hs])) (λs hs=>ha s (by simp [hs]));rw [fV] at h2;have hI:=hx n h1 h2;rw [Bc];split
  .rename_i hs';subst hs';rw [aA h2,Option.getD_some];obtain ⟨a1,a2,a3,a4⟩:=p8 hI;unfold iJ;rw [if_neg aD,if_neg (by rw [a2];simp),if_neg (by rw [fV];omega)];refine iK _ _ λj _ hj=>?_;have hja:j<(bI t g.h[fF c s]).length:=aD;unfold Dk;rw [aA hja,Option.getD_some];by_cases hj2:s.J.toNat=j
   .have e:((vals[fF c s]).set s.J.toNat (dG s.x vs))[j]?=some (dG s.x vs):=by rw [<- hj2];exact List.getElem?_set_self aD
    rw [e,Option.getD_some,if_neg];have hO:=ho s dB;unfold yM at hO;rw [aA h1,Option.getD_some,hj2,aA hja,Option.getD_some,Bool.or_eq_false_iff,decide_eq_false_iff_not,decide_eq_false_iff_not] at hO;omega
   .rw [List.getElem?_set_ne hj2,aA (aD:j<(vals[fF c s]).length),Option.getD_some,if_neg];have:=a4 j aD hja;omega
  .exact hI
theorem StepIn.after (S:StepIn t r h m)(a:sN t (bW t r h m).j (c7 r h m) m.vars r.right.l=0)(e:(bW t r h m).j.h.length<=40)(f:(bW t r h m).j.i.length<=80):fX t (Abs.b9 t r h m)=0:=by
 have d:∀ s∈r.right.l,yM t (bW t r h m).j (c7 r h m) m.vars s=false:=by
  unfold sN at a;split at a
  .cases a
  .split at a
   .cases a
   .rename_i b;rw [KE,fM] at b;exact λs c=>by simpa using b s c
 exact VV S.hR.vf e f (by show (v7 _ _ _ _).length=_;rw [(pR _ _ _ _).1];exact S.bA) S.di (λn g b=>Sj _ _ S.bA S.node d (λs c=>(S.hR.l s c).2.1.1) n g b) S.dy
end
mutual
def nT:Cond→Bool
 | .mk k l m p=>Di l&&decide ((p.j.h.length:Int)+p.j.i.length≤6)
def Di:List Cond→Bool
 | []=>true
 | c :: l=>nT c&&Di l
end
theorem Pg (l:List Cond):Di l=l.all nT:=by
 induction l with
 | nil=>simp [Di]
 | cons a l ih=>simp [Di,ih]
theorem B1 (c:Cond):nT c=(c.s.all nT&&decide ((c.o.j.h.length:Int)+c.o.j.i.length<=6)):=by
 cases c;simp only [nT,Pg,Cond.s,Cond.o];try rfl
theorem wL {α:Type}(l:List α)(p:α->Bool){i:Nat}(h:i<l.length):(l.take (i+1)).all p=((l.take i).all p&&p l[i]):=by
 rw [aE h,Cz];simp
theorem ME:∀ c:Cond,c.ok->Pua 88 [.agg c.c] (.bool (nT c)):=by
 refine kS λc m o=>?_;obtain ⟨k,n⟩:=(sI c).1 o;have p1:=k.p1;have p2:=k.p2;refine Tz.p0 func88 rfl λQ l _=>?_;have Y:=@Cond.A;refine wv (h:=aY (λi e H=>(e 1=.adr c.c/\e 3=dI i)/\(i<=c.s.length)/\((c.s.take i).all nT=true)) (λi=>c.s.length - i) 0 ⟨wg,wi,(by rfl)⟩ λr f i e H b=>?_);obtain ⟨p,q,d⟩:=b;have Y:=wa Y p;refine wv (h:=?_);repeat first|intro _|refine ⟨iD,?_⟩
 refine wq (λa=>?_) λa=>?_
 .have Y:=xa1 Y a (aA a);refine wo (h:=aB ((by have:=m _ (aC a) (n _ (aC a));rwa [Cond.A] at this)) wl ?_);refine d8 (λj=>?_) λj=>?_
  .refine wv (h:=?_);have g:nT c=false:=by
    have:c.s.all nT=false:=by
     rw [bQ];intro h;exact absurd (c9.1 h _ (aC a)) (eQ j)
    rw [B1,this];rfl
   exact l _ _ (by simp [go_sem,g])
  .exact wo (h:=wx f (i+1) ⟨wg,wj,(by rw [wL _ _ a,d];simpa using j)⟩)
 .have hA:c.s.all nT=true:=by rw [aG aD] at d;exact d
  have g:nT c=decide ((c.o.j.h.length:Int)+c.o.j.i.length<=6):=by rw [B1,hA];rfl
  exact wo (h:=l _ _ (by simp [go_sem,g]))
def aaC (p q:Pattern):Int:=((14 ^ (q.j.h.length - p.j.h.length) * 18 ^ (q.j.i.length - p.j.i.length):Nat):Int)
def Lm (k:Int)(p' p:Pattern):Pattern:=if k=5 then p' else p
mutual
def nF:Cond→Pattern→Bool
 | .mk k l m p',p=>Jq l (Lm k p' p)&&decide (aaC p (Lm k p' p)≤5000)
def Jq:List Cond→Pattern→Bool
 | [],_=>true
 | c :: l,q=>nF c q&&Jq l q
end
theorem RW (l:List Cond)(q:Pattern):Jq l q=l.all λc=>nF c q:=by
 induction l with
 | nil=>simp [Jq]
 | cons a l ih=>simp [Jq,ih]
theorem A8 (c:Cond)(p:Pattern):nF c p=((c.s.all λk=>nF k (Lm c.E c.o p))&&decide (aaC p (Lm c.E c.o p)<=5000)):=by
 cases c;simp only [nF,RW,Cond.s,Cond.o,Cond.E];try rfl
theorem tF {a j:Nat}(ha:1<=a)(hj:j<=6):a ^ j<=a ^ 6/\1<=a ^ j:=⟨Nat.pow_le_pow_right ha hj,by first|exact Nat.one_le_pow _ _ ha|exact Nat.pow_pos ha|exact Nat.pos_pow_of_pos _ ha⟩
theorem Md (q:Pattern):q.c.take 5=q.c:=rfl
theorem J7:∀ c:Cond,c.ok->nT c=true->∀ p:Pattern,p.j.h.length<=1000000->p.j.i.length<=1000000->Pua 89 [p.d,.agg c.c,dI 14,dI 18] (.bool (nF c p)):=by
 refine kS λc Z hc O p a1 a0=>?_;obtain ⟨hs,hk⟩:=(sI c).1 hc;have q1:=hs.p1;have q2:=hs.p2;rw [B1] at O;simp only [aN,decide_eq_true_eq,c9] at O;obtain ⟨q,D⟩:=gA (Lm c.E c.o p);have m:q.j.h.length - p.j.h.length<=6/\q.j.i.length - p.j.i.length<=6/\q.j.h.length<=1000000/\q.j.i.length<=1000000:=by
  rw [<- D];unfold Lm;split<;>omega
 refine Tz.pK ⟨λt=>t==9,λ_=>[]⟩ func89 rfl (λQ P=>?_);have Y:=@Cond.A;refine dK (λU=>?_) λU=>?_
 .have hqc:c.o=q:=by rw [<- D];exact (if_pos U).symm
  refine wp (h:=aY (λi e H=>∃ w:Nat,(e 4=.adr p.c/\e 5=.adr c.c/\e 2=dI 14/\e 3=dI 18/\e 9=.ptr 0 1 0 0/\e 10=dI w/\e 11=dI i)/\(H.get 0=some ⟨55,5,[q.c],false⟩)/\(0<H.next)/\(p.j.h.length<=i)/\(i<=q.j.h.length\/i=p.j.h.length)/\(w=14 ^ (i - p.j.h.length))) (λi=>q.j.h.length - i) p.j.h.length ⟨1,wg,(by simp [go_sem,hqc,Md]),wn,wi,wi,(by simp)⟩ λI0 K i e H F=>?_);obtain ⟨w,X,A,r,hi,s,B⟩:=F;have Y:=xa2 Y X A (bL r);refine wv (h:=?_);repeat first|intro _|refine ⟨gX,?_⟩
  refine wq (λN=>?_) λN=>?_
  .have f:=(tF (a:=14) (j:=i - p.j.h.length) aD aD).1;rw [<- B] at f;have g:w<=7529536:=f;have Y:=wa Y N;exact wp (h:=wx K (i+1) ⟨(w * 14),wg,(by simp [go_sem,Y]),wn,wj,wj,(by rw [(aD:i+1 - p.j.h.length=(i - p.j.h.length)+1),Nat.pow_succ,B])⟩)
  .have hw':w=14 ^ (q.j.h.length - p.j.h.length):=by rw [B];congr 1;omega
   have f:=(tF (a:=14) (j:=q.j.h.length - p.j.h.length) aD m.1).1;rw [<- hw'] at f;have g:w<=7529536:=f;refine wp (h:=aY (λk e H=>∃ v:Nat,(e 4=.adr p.c/\e 5=.adr c.c/\e 2=dI 14/\e 3=dI 18/\e 9=.ptr 0 1 0 0/\e 10=dI v/\e 12=dI k)/\(H.get 0=some ⟨55,5,[q.c],false⟩)/\(0<H.next)/\(p.j.i.length<=k)/\(k<=q.j.i.length\/k=p.j.i.length)/\(v=w * 18 ^ (k - p.j.i.length))) (λk=>q.j.i.length - k) p.j.i.length ⟨w,wg,(by simp [go_sem,Y]),wn,wi,wi,(by simp)⟩ λI2 J k e H s=>?_);obtain ⟨v,W,z,o,T,S,C⟩:=s;have Y:=xa2 Y W z (bL o);refine wv (h:=?_);repeat first|intro _|refine ⟨gX,?_⟩
   refine wq (λu=>?_) λu=>?_
   .have hvb:=(tF (a:=18) (j:=k - p.j.i.length) aD aD).1;have M:v<=7529536 * 34012224:=by rw [C];exact kA g hvb
    have Y:=wa Y u;exact wp (h:=wx J (k+1) ⟨(v * 18),wg,(by simp [go_sem,Y]),wn,wj,wj,(by rw [(aD:k+1 - p.j.i.length=(k - p.j.i.length)+1),Nat.pow_succ,C,Nat.mul_assoc])⟩)
   .have hv':v=w * 18 ^ (q.j.i.length - p.j.i.length):=by rw [C];congr 2;omega
    refine wv (h:=aY (λj e H=>(e 4=.adr p.c/\e 5=.adr c.c/\e 2=dI 14/\e 3=dI 18/\e 9=.ptr 0 1 0 0/\e 10=dI v/\e 13=dI j)/\(H.get 0=some ⟨55,5,[q.c],false⟩)/\(0<H.next)/\(j<=c.s.length)/\((c.s.take j).all (λx=>nF x q)=true)) (λj=>c.s.length - j) 0 ⟨wg,(by simp [go_sem,Y]),wn,wi,(by rfl)⟩ λI4 I j e H E=>?_);obtain ⟨V,y,n,hj,G⟩:=E;have Y:=xa2 Y V y (bL n);refine wv (h:=?_);repeat first|intro _|refine ⟨gX,?_⟩
    refine wq (λb=>?_) λb=>?_
    .have Y:=xa2 Y b (aA b) @Md;refine wp (h:=aI ((by have R:=Z _ (aC b) (hk _ (aC b)) (O.1 _ (aC b)) q m.2.2.1 m.2.2.2;rwa [Cond.A] at R)) wl ?_);refine i7 (λl=>?_) λl=>?_
     .refine wv (h:=?_);have L:nF c p=false:=by
       have:(c.s.all λx=>nF x q)=false:=by
        rw [bQ];intro h;exact absurd (c9.1 h _ (aC b)) (eQ l)
       rw [A8,D,this];rfl
      exact P _ _ (by simp [go_sem,L])
     .exact wp (h:=wx I (j+1) ⟨wg,(by simp [go_sem,Y]),wn,wj,(by rw [wL _ _ b,G];simpa using l)⟩)
    .have hA:(c.s.all λx=>nF x q)=true:=by rw [aG aD] at G;exact G
     have L:nF c p=decide ((v:Int)<=5000):=by rw [A8,D,hA,hv',hw'];rfl
     exact wv (h:=P _ _ (by simp [go_sem,L]))
 .have hqc:p=q:=by rw [<- D];exact (if_neg U).symm
  refine wp (h:=aY (λi e H=>∃ w:Nat,(e 4=.adr p.c/\e 5=.adr c.c/\e 2=dI 14/\e 3=dI 18/\e 9=.ptr 0 1 0 0/\e 10=dI w/\e 11=dI i)/\(H.get 0=some ⟨55,5,[q.c],false⟩)/\(0<H.next)/\(p.j.h.length<=i)/\(i<=q.j.h.length\/i=p.j.h.length)/\(w=14 ^ (i - p.j.h.length))) (λi=>q.j.h.length - i) p.j.h.length ⟨1,wg,(by simp [go_sem,hqc,Md]),wn,wi,wi,(by simp)⟩ λI0 K i e H F=>?_);obtain ⟨w,X,A,r,hi,s,B⟩:=F;have Y:=xa2 Y X A (bL r);refine wv (h:=?_);repeat first|intro _|refine ⟨gX,?_⟩
  refine wq (λN=>?_) λN=>?_
  .have f:=(tF (a:=14) (j:=i - p.j.h.length) aD aD).1;rw [<- B] at f;have g:w<=7529536:=f;have Y:=wa Y N;exact wp (h:=wx K (i+1) ⟨(w * 14),wg,(by simp [go_sem,Y]),wn,wj,wj,(by rw [(aD:i+1 - p.j.h.length=(i - p.j.h.length)+1),Nat.pow_succ,B])⟩)
  .have hw':w=14 ^ (q.j.h.length - p.j.h.length):=by rw [B];congr 1;omega
   have f:=(tF (a:=14) (j:=q.j.h.length - p.j.h.length) aD m.1).1;rw [<- hw'] at f;have g:w<=7529536:=f;refine wp (h:=aY (λk e H=>∃ v:Nat,(e 4=.adr p.c/\e 5=.adr c.c/\e 2=dI 14/\e 3=dI 18/\e 9=.ptr 0 1 0 0/\e 10=dI v/\e 12=dI k)/\(H.get 0=some ⟨55,5,[q.c],false⟩)/\(0<H.next)/\(p.j.i.length<=k)/\(k<=q.j.i.length\/k=p.j.i.length)/\(v=w * 18 ^ (k - p.j.i.length))) (λk=>q.j.i.length - k) p.j.i.length ⟨w,wg,(by simp [go_sem,Y]),wn,wi,wi,(by simp)⟩ λI2 J k e H s=>?_);obtain ⟨v,W,z,o,T,S,C⟩:=s;have Y:=xa2 Y W z (bL o);refine wv (h:=?_);repeat first|intro _|refine ⟨gX,?_⟩
   refine wq (λu=>?_) λu=>?_
   .have hvb:=(tF (a:=18) (j:=k - p.j.i.length) aD aD).1;have M:v<=7529536 * 34012224:=by rw [C];exact kA g hvb
    have Y:=wa Y u;exact wp (h:=wx J (k+1) ⟨(v * 18),wg,(by simp [go_sem,Y]),wn,wj,wj,(by rw [(aD:k+1 - p.j.i.length=(k - p.j.i.length)+1),Nat.pow_succ,C,Nat.mul_assoc])⟩)
   .have hv':v=w * 18 ^ (q.j.i.length - p.j.i.length):=by rw [C];congr 2;omega
    refine wv (h:=aY (λj e H=>(e 4=.adr p.c/\e 5=.adr c.c/\e 2=dI 14/\e 3=dI 18/\e 9=.ptr 0 1 0 0/\e 10=dI v/\e 13=dI j)/\(H.get 0=some ⟨55,5,[q.c],false⟩)/\(0<H.next)/\(j<=c.s.length)/\((c.s.take j).all (λx=>nF x q)=true)) (λj=>c.s.length - j) 0 ⟨wg,(by simp [go_sem,Y]),wn,wi,(by rfl)⟩ λI4 I j e H E=>?_);obtain ⟨V,y,n,hj,G⟩:=E;have Y:=xa2 Y V y (bL n);refine wv (h:=?_);repeat first|intro _|refine ⟨gX,?_⟩
    refine wq (λb=>?_) λb=>?_
    .have Y:=xa2 Y b (aA b) @Md;refine wp (h:=aI ((by have R:=Z _ (aC b) (hk _ (aC b)) (O.1 _ (aC b)) q m.2.2.1 m.2.2.2;rwa [Cond.A] at R)) wl ?_);refine i7 (λl=>?_) λl=>?_
     .refine wv (h:=?_);have L:nF c p=false:=by
       have:(c.s.all λx=>nF x q)=false:=by
        rw [bQ];intro h;exact absurd (c9.1 h _ (aC b)) (eQ l)
       rw [A8,D,this];rfl
      exact P _ _ (by simp [go_sem,L])
     .exact wp (h:=wx I (j+1) ⟨wg,(by simp [go_sem,Y]),wn,wj,(by rw [wL _ _ b,G];simpa using l)⟩)
    .have hA:(c.s.all λx=>nF x q)=true:=by rw [aG aD] at G;exact G
     have L:nF c p=decide ((v:Int)<=5000):=by rw [A8,D,hA,hv',hw'];rfl
     exact wv (h:=P _ _ (by simp [go_sem,L]))
def GU (t:Types)(p:Pattern)(c:Cond)(h:Host):Bool:=fewC c&&fewP p&&EL h&&(decide (condF t p c≠0)||(light21 t p h&&nT c&&decide ((h.j.h.length:Int)<=6)&&decide ((h.j.i.length:Int)<=8)&&nF c p))
theorem OF (t:Types)(m:t.ok)(p:Pattern)(c:Cond)(o:c.le)(h:Host):Pua 48 [t.d,p.d,.agg c.c,h.d] (.bool (GU t p c h)):=by
 refine Tz.p0 func48 rfl λQ n _=>?_;have Y:=xa1 @Host.c.eq_1 @Pattern.c.eq_1 @Cond.A;refine wo (h:=aB ((by have b:=KZ c o;rwa [Cond.A] at b)) wl ?_);refine wo (h:=aK (λa=>wX p) (λa=>wl) ?_);refine wo (h:=aK (λa=>K6 h) (λa=>wl) ?_);refine d8 (λl=>?_) λl=>?_
 .have hF:(fewC c&&fewP p&&EL h)=false:=by cases k:fewC c<;>cases j:fewP p<;>cases i:EL h<;>simp [k,j,i] at l<;>rfl
  exact wv (h:=n _ _ (by simp [go_sem,GU,hF]))
 .have hF:fewC c=true/\fewP p=true/\EL h=true:=by cases k:fewC c<;>cases j:fewP p<;>cases i:EL h<;>simp [k,j,i] at l<;>exact ⟨rfl,rfl,rfl⟩
  have f:c.ok/\c.size<=1000000:=by
   have g:=hF.1;simp [fewC] at g;have q:=Iy c 40 aD g;exact ⟨q.1,aD⟩
  have e:p.j.h.length<=1000000/\p.j.i.length<=1000000:=by
   have g:=hF.2.1;simp [fewP,fewG] at g;omega
  refine wo (h:=aB ((by have b:=Ft t m p c f.1 f.2;rwa [Cond.A] at b)) wl ?_);refine wo (h:=aK (λa=>OI t m p h) (λa=>wl) ?_);refine wo (h:=aK (λa=>(by have b:=ME c f.1;rwa [Cond.A] at b)) (λa=>wl) ?_);refine wo (h:=aK (λa=>(by have b:=J7 c f.1 (by simp at a;simp_all) p e.1 e.2;rwa [Cond.A] at b)) (λa=>wl) ?_);exact wo (h:=n _ _ (by simp [go_sem,GU,hF.1,hF.2.1,hF.2.2]))
def light26 (t:Types)(r:Rule)(h:Host):Bool:=xK t&&fewR r&&GU t r.left r.cond h
end Go.Abs
end
section
namespace Go.Abs
open Go.ChangeShapes Go.WideShapes Go.RowKit
structure Bulk {H:Type} (bulk:DataW H->Nat):Prop where
 len:∀ e s,e.length<=bulk (.slice e s)
 el:∀ e s,∀ d∈e,bulk d<=bulk (.slice e s)
 part:∀ l,∀ d∈l,bulk d<=bulk (.agg l)
 str:∀ s:List UInt8,s.length<=bulk (.lit (.string s))
abbrev Qs:Nat->Prop:=λ_=>False
section
variable {H:Type} {enc:TypeId × Value→H} {P:Program} {w:World} {base:Nat} {spare:Nat→Bool} {held:Bool} {bulk:DataW H→Nat} {B:Nat}
def Opens (enc:TypeId × Value->H)(P:Program)(w:World)(base:Nat)(spare:Nat->Bool)(held:Bool)(bulk:DataW H->Nat)(B:Nat)(n:Nat)(t:TypeId){α:Type}(C:α->UN)(G:α->Prop):Prop :=
 ∀ (fuel:Nat) (cs:List Value) (x:DataW H × List MemPlace),fuel<=n->DataW.trod enc P w base spare held fuel t cs=some x->bulk x.1<=B ->
  ∃ a,G a/\RepL Qs iP sO w cs (C a)/\∀ u∈cs,u.oneCell'=true
variable {n:Nat} {t:TypeId}
theorem Opens.mono {α:Type}{C:α->UN}{G:α->Prop}{m:Nat}(h:Opens enc P w base spare held bulk B n t C G)(hm:m<=n):Opens enc P w base spare held bulk B m t C G :=
 λfuel cs x hf hx hb=>h fuel cs x (dH hf hm) hx hb
theorem Opens.zero {α:Type}{C:α->UN}{G:α->Prop}:Opens enc P w base spare held bulk B 0 t C G:=λfuel cs x hf hx _=>by
 have:fuel=0:=aD;subst this;simp [DataW.trod] at hx
theorem Opens.map {α β:Type}{C:α->UN}{G:α->Prop}{C':β->UN}{G':β->Prop}(h:Opens enc P w base spare held bulk B n t C G)(f:α->β)(hC:∀ a,C a=C' (f a))(hG:∀ a,G a->G' (f a)):Opens enc P w base spare held bulk B n t C' G' :=
 λfuel cs x hf hx hb=>by
  obtain ⟨a,h1,h2,h3⟩:=h fuel cs x hf hx hb;exact ⟨f a,hG a h1,by rw [<- hC];exact h2,h3⟩
theorem r6 {v:Value}{d:D}(h:RepV Qs iP sO w v d):RepL Qs iP sO w [v] [d] :=
 ⟨rfl,λj u x hu hx=>by
  cases j with
  | zero=>simp at hu hx;subst hu;subst hx;exact h
  | succ j=>simp at hu⟩
theorem On {a b:List Value}{c d:UN}(h:RepL Qs iP sO w a c)(k:RepL Qs iP sO w b d):RepL Qs iP sO w (a++b) (c++d):=by
 refine ⟨by simp [h.len,k.len],λj u x f e=>?_⟩;by_cases g:j<a.length
 .rw [aR g] at f;rw [aR (by rw [<- h.len];exact g)] at e;exact h.Z j u x f e
 .rw [bF aD] at f;rw [bF (by rw [<- h.len];omega),<- h.len] at e;exact k.Z _ u x f e
theorem Rh (ht:P.underlying t=some .bool):Opens enc P w base spare held bulk B n t (λb:Bool=>[D.bool b]) (λ_=>True):=λfuel cs x _ hx _=>by
 obtain ⟨b,rfl,_⟩:=DataW.trod_bool ht hx;exact ⟨b,trivial,r6 (.bool b),by simp [Value.oneCell']⟩
theorem rows {α:Type}{C:α->UN}{G:α->Prop}{ad:Addr}{sz:Nat}:∀ (len:Nat),
  (∀ i,i<len->∃ c a,w.cells? base (ad.add (i * sz)) sz=some c/\G a/\RepL Qs iP sO w c (C a)/\∀ u∈c,u.oneCell'=true) ->
  ∃ (l:List α) (xs:List Value),l.length=len/\(∀ a∈l,G a)/\RepL Qs iP sO w xs (l.map C).flatten/\(∀ u∈xs,u.oneCell'=true)/\xs.length=len * sz /\
   (∀ (j:Nat) (u:Value),xs[j]?=some u->w.cell? (ad.add j)=some u)/\∀ c∈l.map C,c.length=sz
 | 0,_=>⟨[],[],rfl,by simp,⟨rfl,λj u d hu=>by simp at hu⟩,by simp,by simp,by simp,by simp⟩
 | len+1,h=>by
  obtain ⟨l,xs,h1,h2,h3,h4,h5,h6,h7⟩:=rows len λi hi=>h i aD;obtain ⟨c,a,hc,hg,hr,h1c⟩:=h len aD;obtain ⟨_,hcl,hcell⟩:=World.cells?_some hc;refine ⟨l++[a],xs++c,by simp [h1],λb hb=>?_,?_,λu hu=>?_,by rw [aH,h5,hcl,Nat.succ_mul],λj u hu=>?_,λb hb=>?_⟩
  .rcases aX.1 hb with h|h
   .exact h2 b h
   .simp at h;subst h;exact hg
  .rw [List.map_append,mG];refine On h3 ?_;simpa using hr
  .rcases aX.1 hu with h|h
   .exact h4 u h
   .exact h1c u h
  .by_cases hj:j<xs.length
   .rw [aR hj] at hu;exact h6 j u hu
   .rw [bF aD] at hu;have hlt:j - xs.length<sz:=by rw [<- hcl];exact (aP.1 hu).1
    have:=hcell (j - xs.length) hlt;rw [Addr.add_add,hu] at this;rwa [(aD:len * sz+(j - xs.length)=j)] at this
  .rw [List.map_append] at hb;rcases aX.1 hb with h|h
   .exact h7 b h
   .simp at h;subst h;rw [<- hr.len,hcl]
theorem vB (hB:Bulk bulk){e:TypeId}(ht:P.underlying t=some (.slice e)){α:Type}{C:α->UN}{G:α->Prop}(h:Opens enc P w base spare held bulk B n e C G) :
  Opens enc P w base spare held bulk B (n+1) t (λl:List α=>[.list (l.map C)]) (λl=>l.length<=B/\∀ a∈l,G a):=λfuel cs x hf hx hb=>by
 rcases DataW.trod_slice ht hx with ⟨rfl,rfl⟩|⟨ad,len,cap,elems,rest,m,rfl,rfl,rfl,hbase,hlc,hcap,hlen,hel,_,_⟩
 .exact ⟨[],⟨eB _,by simp⟩,r6 .listN,by simp [Value.oneCell']⟩
 .simp only at hb;have hb1:=hB.len (elems.map (·.1)) (rest.map (·.1));rw [aT] at hb1;obtain ⟨l,xs,h1,h2,h3,h4,h5,h6,h7⟩:=rows (w:=w) (base:=base) (C:=C) (G:=G) (ad:=ad) (sz:=P.cellsOf e) len λi hi=>by
   have:=hel i hi;rw [aA aD,Option.bind_eq_some_iff] at this;obtain ⟨c,hc,hd⟩:=this;obtain ⟨a,g1,g2,g3⟩:=h m c _ aD hd (dH (hB.el _ (rest.map (·.1)) _ (aW.2 ⟨_,aC aD,rfl⟩)) hb);exact ⟨c,a,hc,g1,g2,g3⟩
  refine ⟨l,⟨aD,h2⟩,r6 ?_,by simp [Value.oneCell']⟩;have key:=RepV.list (M:=Qs) (σ:=iP) (N:=sO) (w:=w) ad cap (P.cellsOf e) xs (l.map C) (by rw [aT];omega) hcap h7 h3.len h4 (λj u hu=>⟨λh=>h,h6 j u hu⟩) h3.Z;rw [aT,h1] at key;exact key
def XF (enc:TypeId × Value->H)(P:Program)(w:World)(base:Nat)(spare:Nat->Bool)(held:Bool)(bulk:DataW H->Nat)(B n:Nat):List TypeId->List Value->Prop
 | [],cs=>cs=[]
 | t :: ts,cs=>(∃ y,DataW.trod enc P w base spare held n t (cs.take (P.cellsOf t))=some y/\bulk y.1<=B)/\XF enc P w base spare held bulk B n ts (cs.drop (P.cellsOf t))
def JG (enc:TypeId × Value->H)(P:Program)(w:World)(base:Nat)(spare:Nat->Bool)(held:Bool)(bulk:DataW H->Nat)(B:Nat)(n:Nat)(ts:List TypeId){α:Type}(C:α->UN)(G:α->Prop):Prop :=
 ∀ (fuel:Nat) (cs:List Value),fuel<=n->XF enc P w base spare held bulk B fuel ts cs->∃ a,G a/\RepL Qs iP sO w cs (C a)/\∀ u∈cs,u.oneCell'=true
theorem kY:JG enc P w base spare held bulk B n [] (λ_:Unit=>[]) (λ_=>True):=λfuel cs _ h=>by
 have h:cs=[]:=h;subst h;exact ⟨(),trivial,⟨rfl,λj u d hu=>by simp at hu⟩,by simp⟩
theorem cC {ts:List TypeId}{α β:Type}{C:α->UN}{G:α->Prop}{C':β->UN}{G':β->Prop}(h:Opens enc P w base spare held bulk B n t C G)(k:JG enc P w base spare held bulk B n ts C' G') :
  JG enc P w base spare held bulk B n (t :: ts) (λp:α × β=>C p.1++C' p.2) (λp=>G p.1/\G' p.2):=λfuel cs hf hs=>by
 obtain ⟨⟨y,hy,hyb⟩,hs⟩:=hs;obtain ⟨a,a1,a2,a3⟩:=h fuel _ y hf hy hyb;obtain ⟨b,b1,b2,b3⟩:=k fuel _ hf hs;refine ⟨(a,b),⟨a1,b1⟩,?_,λu hu=>?_⟩
 .have:=On a2 b2;rwa [List.take_append_drop] at this
 .rw [<- List.take_append_drop (P.cellsOf t) cs] at hu;rcases aX.1 hu with h|h
  .exact a3 u h
  .exact b3 u h
def Vs (P:Program):Nat->List Field->Option Nat
 | o,[]=>some o
 | o,f :: r=>if f.offset=o then Vs P (o+P.cellsOf f.type) r else none
theorem Sc {fuel:Nat}{cs:List Value}:∀ (fs:List Field) (o:Nat),Vs P o fs=some cs.length ->
  (∀ f∈fs,∃ y,DataW.trod enc P w base spare held fuel f.type ((cs.drop f.offset).take (P.cellsOf f.type))=some y/\bulk y.1<=B)->o<=cs.length/\XF enc P w base spare held bulk B fuel (fs.map (·.type)) (cs.drop o)
 | [],o,ho,_=>by
  simp only [Vs,bH] at ho;subst ho;exact ⟨aZ _,by show cs.drop cs.length=[];simp⟩
 | f :: fs,o,ho,h=>by
  unfold Vs at ho;split at ho
  .rename_i hof;subst hof;obtain ⟨h1,h2⟩:=Sc fs _ ho λg hg=>h g (by simp [hg]);refine ⟨aD,?_⟩;refine ⟨h f dB,?_⟩;rw [List.drop_drop];exact h2
  .cases ho
theorem nS (hB:Bulk bulk){fs:Array Field}(ht:P.underlying t=some (.struct fs))(ho:Vs P 0 fs.toList=some (P.cellsOf t)){α:Type}{C:α->UN}{G:α->Prop}(h:JG enc P w base spare held bulk B n (fs.toList.map (·.type)) C G) :
  Opens enc P w base spare held bulk B (n+1) t C G:=λfuel cs x hf hx hb=>by
 obtain ⟨xs,m,rfl,rfl,hcl,hxl,hfl⟩:=DataW.trod_struct ht hx;simp only at hb;have hs:=(Sc (enc:=enc) (P:=P) (w:=w) (base:=base) (spare:=spare) (held:=held) (bulk:=bulk) (B:=B) (fuel:=m) (cs:=cs) fs.toList 0 (by rw [hcl];exact ho) λf hfm=>by
  obtain ⟨i,hi,rfl⟩:=aQ hfm;have hi':i<fs.size:=by simpa using hi
  have hfi:=hfl i (fs.toList[i]) (by simp [hi']);rw [aA aD] at hfi;exact ⟨_,hfi,dH (hB.part _ _ (aW.2 ⟨_,aC aD,rfl⟩)) hb⟩).2
 rw [List.drop_zero] at hs;exact h m cs aD hs
theorem Jw {r:Reach}{s:Nat}{q:Array Field}{v:Value}{d:DataW H}{i:List MemPlace}{α:Type}{C:α->UN}{G:α->Prop}(j:P.underlying t=some (.struct q))(h:∀ n,Opens enc P w base spare held bulk B n t C G)
  (c:Value.okWide P w r s t v) (l:DataW.Trod enc P w base spare held t v d i) (o:bulk d<=B):∃ a,G a/\RepV Qs iP sO w v (.agg (C a)):=by
 obtain ⟨f,rfl,_⟩:=okWide_struct j c;obtain ⟨b,k⟩:=l;obtain ⟨a,p,e,g⟩:=h b b _ _ (aZ _) k o;have m:(Value.agg f).cells.toList=f.toList:=rfl;rw [m] at e g;have:=RepV.agg (M:=Qs) (σ:=iP) (N:=sO) (w:=w) f.toList (C a) e.len g e.Z;exact ⟨a,p,by simpa using this⟩
theorem Bo (hl:laidOutB P=true){W W':World}{sp':Nat->Bool}(hb:Below W.heap.size W W'):∀ {ts:List TypeId} {vs:List Value} {ds:List (DataW H)} {ps:List MemPlace},(∀ t∈ts,P.readableRec t=true/\t<P.types.size) ->
  DataW.TrodAll enc P W 0 (λ_=>true) true ts vs ds ps->(∀ x∈ps,x.block<W.heap.size)->(∀ x∈ps,sp' x.block=true)->DataW.TrodAll enc P W' 0 sp' true ts vs ds ps
 | [],_,_,_,_,h,_,_=>by
  obtain ⟨rfl,rfl,rfl⟩:=trodAll_nil h;rfl
 | t :: ts,_,_,_,hr,h,hlt,hs=>by
  obtain ⟨v,vs,d,ds,p,q,rfl,rfl,rfl,h1,h2⟩:=trodAll_cons h;refine ⟨p,q,WideElems.Trod_stays hl (hr t dB).1 (hr t dB).2 h1 (λx hx=>hb.same (hlt x (by simp [hx]))) (λx hx=>hs x (by simp [hx])),Bo hl hb (λu hu=>hr u (by simp [hu])) h2 (λx hx=>hlt x (by simp [hx])) (λx hx=>hs x (by simp [hx])),rfl⟩
theorem BC (L:laidOutB P=true){f:Func}{s:ChangeSpec}{d n c o:Bool}{W u:World}{args:Array Value}{v:Value}{ds A:List (DataW H)}{e:List MemPlace}
  (K:∀ t∈f.params.toList,P.readableRec t=true/\t<P.types.size) (a:s.vars=[]) (G:DataW.Whole enc P f.params.toList s.vars d W args.toList ds A e)
  (i:∀ (b:Nat) (g:Nat->Bool) (M:Bool),DataW.TrodAll enc P u b g M f.resultTypes.toList (v.resultList f.resultTypes.size) (s.fn H (ds++A)).results [])
  (l:(s.fn H (ds++A)).args=ds) (B:(s.fn H (ds++A)).vars=[]) (D:Below W.heap.size W u)
  (C:∀ (j:Nat) (t:TypeId) (r:Value),f.resultTypes[j]?=some t->(v.resultList f.resultTypes.size)[j]?=some r->Value.okWide P u .any 0 t r) :
  s.post enc P f d n c o W args v u:=by
 have m:=G;obtain ⟨p,q,N,I,rfl,E,F⟩:=G;rw [a] at I;obtain ⟨rfl,rfl⟩:=trodVars_none I;rw [dS] at m E F;have k:∀ x∈p,x.block<W.heap.size:=λx h=>by simpa using m.lt x h
 have z:∀ g:Nat->Bool,(∀ x∈p,g x.block=true)->DataW.TrodAll enc P u 0 g true f.params.toList args.toList (s.fn H (ds++[])).args p:=λg J=>by
  rw [l];exact Bo L D K N k J
 have y:∀ g:Nat->Bool,DataW.TrodVars enc P u g s.vars (s.fn H (ds++[])).vars []:=λg=>by rw [a,B];rfl
 refine ⟨ds,[],p,[],p,[],m,i _ _ _,z _ (λx h=>by simpa using k x h),y _,World.keptBut_mono (λx h=>⟨h,.inr (eQ h)⟩) (D.frame (·∈p)),λ_=>?_⟩;refine ⟨C,_,_,([]++p)++[],⟨[]++p,[],trodAll_append (z _ (λ_ _=>rfl)) (i _ _ _),y _,rfl,?_,?_⟩,?_⟩
 .intro b off hp;have w:MemPlace.cell b off∈p:=by simpa using hp
  have:=E b off w;rw [<- this];exact D.frozen (k _ w)
 .intro ha;simpa using F ha
 .intro x h _;simpa using h
end
end Go.Abs
end
section
set_option maxRecDepth 100000
set_option maxHeartbeats 4000000
open Go Go.Proofs Tryz
namespace Go.Abs
theorem Ul (t:Types)(q:t.ok)(a:Int)(y:0<=a)(vs:W3):Pua 157 [t.d,dI a,dLI vs] (dI (iJ t a vs)):=by
 refine Tz.pK ⟨λt=>t==10,λ_=>[]⟩ func157 rfl (λQ i=>?_);have Y:=trivial;refine wv (h:=?_);repeat first|intro _|refine ⟨iD,?_⟩
 refine wq (λw=>?_) λw=>?_
 .have hE:iJ t a vs=6:=by unfold iJ;rw [if_pos aD]
  exact wv (h:=i _ _ (by simp [go_sem,hE]))
 .have hkn:a.toNat<t.h.length:=aD;have u:nI t a.toNat=t.h[a.toNat].ce:=by simp [nI,aA hkn]
  have b:iJ t a vs=if nI t a.toNat=true then 13 else if vs.length≠(bI t a).length then 20 else bU (Dk (bI t a) vs) 0 (bI t a).length:=by unfold iJ;rw [if_neg aD]
  rw [u] at b;have Y:=xa1 Y (aA hkn) @NodeTy.c.eq_1;refine wv (h:=?_);repeat first|intro _|refine ⟨iD,?_⟩
  refine wq (λn=>?_) λn=>?_
  .rw [if_pos (eQ n)] at b;exact wv (h:=i _ _ (by simp [go_sem,b]))
  .rw [if_neg (eQ n)] at b;refine wv (h:=aB (oT t q a) wl ?_);refine wv (h:=?_);repeat first|intro _|refine ⟨iD,?_⟩
   refine wq (λv=>?_) λv=>?_
   .rw [if_pos aD] at b;exact wv (h:=i _ _ (by simp [go_sem,b]))
   .rw [if_neg aD] at b;have r:vs.length=(bI t a).length:=aD;refine wo (h:=aY (λk e H=>(e 3=.adr t.c/\e 2=dLI vs/\e 33=.list ((bI t a).map Attr.c)/\e 34=dI (bI t a).length/\e 35=dI k)/\(k<=(bI t a).length)/\(bU (Dk (bI t a) vs) k ((bI t a).length - k)=iJ t a vs)) (λk=>(bI t a).length - k) 0 ⟨wg,wi,(by exact b.symm)⟩ λz m k e H l=>?_);obtain ⟨x,s,p⟩:=l;have Y:=wa Y x;refine dK (λj=>?_) λj=>?_
    .have hv:k<vs.length:=aD;have f:=eV (Dk (bI t a) vs) j;rw [p] at f;have g:Dk (bI t a) vs k=if vs[k]<(bI t a)[k].aw\/(bI t a)[k].ax<vs[k] then 6 else 0:=by simp only [Dk,aA hv,aA j,Option.getD_some]
     have Y:=xa3 Y j (aA hv) (aA j) @Attr.c.eq_1;refine wv (h:=?_);repeat first|intro _|refine ⟨iD,?_⟩
     refine wq (λo=>?_) λo=>?_
     .rw [if_pos aD] at g;rw [g,if_pos aD] at f;exact wv (h:=i _ _ (by simp [go_sem,f]))
     .rw [if_neg aD] at g;rw [g,if_neg aD] at f;exact wo (h:=wx m (k+1) ⟨wg,wj,(by exact f.symm)⟩)
    .have hZ:iJ t a vs=0:=by rw [<- p,(aD:(bI t a).length - k=0)];rfl
     exact wv (h:=i _ _ (by simp [go_sem,hZ]))
theorem Cd (t:Types)(w:t.ok)(h:Host):Pua 103 [t.d,h.d] (.tup [dI (oY t h).1,dI (oY t h).2]):=by
 refine Tz.pK ⟨λt=>t==13,λ_=>[]⟩ func103 rfl (λQ l=>?_);have Y:=wa @Host.d.eq_1 @Host.c.eq_1;refine wv (h:=aB (mX t w) wl ?_);refine dK (λD=>?_) λD=>?_
 .have hE:oY t h=(-1,(cW t).2):=by unfold oY;rw [if_pos (eQ D)]
  exact wv (h:=l _ _ (by simp [go_sem,hE]))
 .have hE0:oY t h=if graphF h.j≠0 then (-1,graphF h.j) else if h.k.length≠h.j.h.length then (-1,20) else if (gY (Gs t h) 0 h.j.h.length).2≠0 then gY (Gs t h) 0 h.j.h.length else gY (Um t h) 0 h.j.i.length:=by unfold oY;rw [if_neg (eQ D)]
  refine wv (h:=aB (nD h.j) wl ?_);refine dK (λs=>?_) λs=>?_
  .rw [if_pos (eQ s)] at hE0;exact wv (h:=l _ _ (by simp [go_sem,hE0]))
  .rw [if_neg (eQ s)] at hE0;have q:graphF h.j=0:=by simpa using s
   have p:=dP q;have I:=bR q;refine d8 (λJ=>?_) λJ=>?_
   .rw [if_pos aD] at hE0;exact wv (h:=l _ _ (by simp [go_sem,hE0]))
   .rw [if_neg aD] at hE0;refine wo (h:=aY (λi e H=>(e 2=.adr t.c/\e 3=.adr h.c/\e 38=dLI h.j.h/\e 39=dI h.j.h.length/\e 40=dI i)/\(i<=h.j.h.length)/\(gY (Gs t h) i (h.j.h.length - i)=gY (Gs t h) 0 h.j.h.length)) (λi=>h.j.h.length - i) 0 ⟨wg,wi,(by rfl)⟩ λP C i e H A=>?_);obtain ⟨L,N,G⟩:=A;have Y:=wa Y L;refine dK (λg=>?_) λg=>?_
    .have hv:i<h.k.length:=aD;have y:0<=h.j.h[i]:=(p.1 _ (aC g)).1;have a:=s8 (Gs t h) g;rw [G] at a;have r:Gs t h i=iJ t h.j.h[i] h.k[i]:=by simp only [Gs,aA hv,aA g,Option.getD_some]
     have Y:=xa3 Y g (aA hv) (aA g) @cL.eq_1;refine wo (h:=aI (Ul t w h.j.h[i] y h.k[i]) wl ?_);refine d8 (λk=>?_) λk=>?_
     .rw [r,if_pos (eQ k)] at a;rw [a,if_pos (eQ k)] at hE0;exact wv (h:=l _ _ (by simp [go_sem,hE0]))
     .rw [r,if_neg (eQ k)] at a;exact wo (h:=wx C (i+1) ⟨wg,wj,(by exact a.symm)⟩)
    .have hN0:gY (Gs t h) 0 h.j.h.length=(-1,0):=by rw [<- G,(aD:h.j.h.length - i=0)];rfl
     rw [hN0,if_neg dB] at hE0;refine wo (h:=aY (λj e H=>(e 2=.adr t.c/\e 3=.adr h.c/\e 60=.list (h.j.i.map Edge.c)/\e 61=dI h.j.i.length/\e 62=dI j)/\(j<=h.j.i.length)/\(gY (Um t h) j (h.j.i.length - j)=oY t h)) (λj=>h.j.i.length - j) 0 ⟨wg,wi,(by exact hE0.symm)⟩ λO B j e H z=>?_);obtain ⟨K,M,F⟩:=z;have Y:=wa Y K;refine dK (λf=>?_) λf=>?_
     .obtain ⟨x,v⟩:=fD (h.j.i[j]);have u:=(p.2 _ (aC f)).2;rw [<- v] at u;have o:x.w.toNat<h.j.h.length:=aD;have n:x.M.toNat<h.j.h.length:=aD;have a:=s8 (Um t h) f;rw [F] at a;have b:Um t h j=if (t.i.length:Int)<=x.type then 6 else if o6 t x.type h.j.h[x.w.toNat] h.j.h[x.M.toNat]=true then 0 else 13:=by simp only [Um,gN,aA f,Option.getD_some,<- v,aA o,aA n]
      have Y:=xa4 Y f (aA f) (Eq.symm v) (aA o) (aA n);refine d8 (λE=>?_) λE=>?_
      .rw [if_pos aD] at b;rw [b,if_pos aD] at a;exact wv (h:=l _ _ (by simp [go_sem,a]))
      .rw [if_neg aD] at b;refine wo (h:=aI (G8 t w x.type h.j.h[x.w.toNat] h.j.h[x.M.toNat]) wl ?_);refine d8 (λm=>?_) λm=>?_
       .rw [if_neg (eQ m)] at b;rw [b,if_pos aD] at a;exact wv (h:=l _ _ (by simp [go_sem,a]))
       .rw [if_pos (eQ m)] at b;rw [b,if_neg aD] at a;exact wo (h:=wx B (j+1) ⟨wg,wj,(by exact a.symm)⟩)
     .have hZ:oY t h=(-1,0):=by rw [<- F,(aD:h.j.i.length - j=0)];rfl
      exact wv (h:=l _ _ (by simp [go_sem,hZ]))
end Go.Abs
end
section
set_option maxRecDepth 60000
set_option maxHeartbeats 4000000
open Go Go.Proofs Tryz
namespace Go.Abs
def SJ (s:Int):Int:=if s<0 then -1 else 0
def Pr (s:Int):Int:=s % 18446744073709551616
theorem UJ (x y:Int)(b:0<=x)(a:0<=y)(w:World):(callFunc 370 #[.int .u64 x,.int .u64 y,.int .u64 0]).run prog w =
  .ok (.value (.tuple #[.int .u64 ((x+y+0) % 18446744073709551616),.int .u64 ((x+y+0) / 18446744073709551616)])) w:=by
 rw [run_callFunc_extern func370 (by kernel_rfl) (by kernel_rfl) (by kernel_rfl) (e:=add64Entry) (by kernel_rfl),run_add64 x y 0 b a aD aD];rfl
open RowKit in
theorem Qu (a b:Int)(j : -4000000<=a/\a<=4000000)(i : -4000000<=b/\b<=4000000)(w:World) :
  Calls prog 348 #[.int .i64 a,.int .i64 b] w λe w'=>e=.returned (.tuple #[.int .i64 (SJ (a+b)),.int .u64 (Pr (a+b))])/\w'=w:=by
 have h:=UJ (IntKind.u64.wrap a) (IntKind.u64.wrap b) (by rw [IntKind.wrap_u64];omega) (by rw [IntKind.wrap_u64];omega) w;simp only [Int.add_zero] at h
 go_enter func348,ntmps348
 go_wp2
 have d:IntKind.u64.wrap a=if a<0 then a+18446744073709551616 else a:=by rw [IntKind.wrap_u64];split<;>omega
 have c:IntKind.u64.wrap b=if b<0 then b+18446744073709551616 else b:=by rw [IntKind.wrap_u64];split<;>omega
 have g:wrap64 (a / 9223372036854775808+b / 9223372036854775808+wrap64 ((IntKind.u64.wrap a+IntKind.u64.wrap b) / 18446744073709551616))=SJ (a+b):=by
  rw [d,c];unfold SJ wrap64
  repeat' split
  all_goals omega
 have f:(IntKind.u64.wrap a+IntKind.u64.wrap b) % 18446744073709551616=Pr (a+b):=by
  rw [d,c];unfold Pr
  repeat' split
  all_goals omega
 rw [g,f]
 go_ret2
 exact ⟨rfl,rfl⟩
theorem zE (a b:Int)(o : -4000000<=a/\a<=4000000)(n : -4000000<=b/\b<=4000000):Pua 348 [dI a,dI b] (.tup [dI (SJ (a+b)),.int .u64 (Pr (a+b))]):=by
 refine ⟨⟨Tryz.f348,func348,rfl,rfl⟩,λM w c s h=>?_⟩;have l:c=[.int .i64 a,.int .i64 b]:=by
  obtain ⟨m,k⟩:=h;match c,m with
  | [x,y],_ =>
   have q:=k 0 x _ rfl rfl;have i:=k 1 y _ rfl rfl;cases q
   cases i
   rfl
 subst l;exact (Qu a b o n w).mono λe r ⟨i,p⟩=>⟨_,i,.tup _ _ rfl (λj u d f g=>by
  match j with
  | 0=>simp at f g;subst f;subst g;exact .int _ _
  | 1=>simp at f g;subst f;subst g;exact .int _ _
  | j+2=>simp at f),by subst p;exact ⟨rfl,rfl,rfl,aZ _,λ_ _=>rfl⟩⟩
theorem vN (x:Term)(vs:W3)(g:qH x vs.length)(i:Sm vs):Pua 347 [.agg x.c,.adr [dLI vs]] (.tup [dI (SJ (dG x vs)),.int .u64 (Pr (dG x vs)),.bool true]):=by
 have a:=g;obtain ⟨⟨o,n⟩,m,l⟩:=a;refine Tz.p0 func347 rfl λQ d _=>?_;have Y:=@Term.c.eq_1;refine dK (λk=>?_) λk=>?_
 .have b:dG x vs=0+x.add:=by unfold dG;rw [if_pos aD];omega
  refine wv (h:=aB (zE 0 x.add aD aD) wl ?_);exact wv (h:=d _ _ (by simp [go_sem,b]))
 .have hk:x.N.toNat<vs.length:=aD;have j:=i.get hk;have b:dG x vs=vs[x.N.toNat]+x.add:=by unfold dG;rw [if_neg aD,aA hk];rfl
  have f:¬ x.N<0:=aD;have e:¬ (vs.length:Int)<=x.N:=aD;have Y:=xa2 Y (aA hk) f e;refine wo (h:=aI (zE vs[x.N.toNat] x.add j aD) wl ?_);exact wo (h:=d _ _ (by simp [go_sem,b]))
theorem Jk (a:Int):Pua 371 [.int .u64 a] (.bool false):=by
 refine Tz.p0 func371 rfl λQ b Y=>?_;exact wv (h:=b _ _ wy)
theorem Nh (a b:Int):Pua 351 [.int .u64 a,.int .u64 b] (dI (cmp1 a b)):=by
 refine Tz.p0 func351 rfl λQ e Y=>?_;refine wv (h:=aB (Jk a) wl ?_);refine wv (h:=aB (Jk b) wl ?_);refine dK (λd=>?_) λd=>?_
 .have Y:=xa1 Y d @cmp1.eq_1;exact wv (h:=e _ _ wy)
 .refine dK (λc=>?_) λc=>?_
  .have Y:=xa2 Y d c @cmp1.eq_1;exact wv (h:=e _ _ wy)
  .have Y:=xa2 Y d c @cmp1.eq_1;exact wv (h:=e _ _ wy)
def W1 (a b:Int):Int:=WF [cmp1 (SJ a) (SJ b),cmp1 (Pr a) (Pr b)]
theorem W0 {a b:Int}(f : -10000000<=a/\a<=10000000)(e : -10000000<=b/\b<=10000000):W1 a b=if a<b then -1 else if b<a then 1 else 0:=by
 have d:Pr a=if a<0 then a+18446744073709551616 else a:=by unfold Pr;split<;>omega
 have c:Pr b=if b<0 then b+18446744073709551616 else b:=by unfold Pr;split<;>omega
 unfold W1;simp only [WF,cmp1,SJ,d,c]
 repeat' split
 all_goals omega
theorem Hf {x:Term}{vs:W3}(a:qH x vs.length)(b:Sm vs) : -10000000<=dG x vs/\dG x vs<=10000000:=by
 obtain ⟨⟨g,f⟩,e,d⟩:=a;unfold dG;split
 .omega
 .have hk:x.N.toNat<vs.length:=aD;have c:=b.get hk;rw [aA hk,Option.getD_some];omega
theorem xP (x:Test)(vs:W3)(i:JF x vs.length)(b:Sm vs):Pua 308 [.agg x.c,dLI vs] (.bool (Be x vs)):=by
 obtain ⟨m,f,d⟩:=i;have g:=W0 (Hf f b) (Hf d b);have a:W1 (dG x.left vs) (dG x.right vs)=WF [cmp1 (SJ (dG x.left vs)) (SJ (dG x.right vs)),cmp1 (Pr (dG x.left vs)) (Pr (dG x.right vs))]:=rfl;obtain ⟨o,j⟩:=fD (W1 (dG x.left vs) (dG x.right vs));rw [<- j] at g a;have k:Be x vs=(decide (x.E=1)&&decide (o<=0)||decide (x.E=2)&&decide (o=0)):=by
  unfold Be;rw [g,aS];simp;constructor
  .rintro (⟨h1,h2⟩|⟨h1,h2⟩)
   .left;refine ⟨h1,?_⟩;split<;>(try split)<;>omega
   .right;refine ⟨h1,?_⟩;rw [h2];simp
  .rintro (⟨h1,h2⟩|⟨h1,h2⟩)
   .left;refine ⟨h1,?_⟩;split at h2<;>(try split at h2)<;>omega
   .right;refine ⟨h1,?_⟩;split at h2<;>(try split at h2)<;>omega
 refine Tz.p0 func308 rfl λQ l _=>?_;have Y:=@Test.c.eq_1;refine wv (h:=?_);refine aB (vN x.left vs f b) wl ?_;refine wv (h:=?_);refine aB (vN x.right vs d b) wl ?_;refine wv (h:=?_);repeat first|intro _|refine ⟨iD,?_⟩
 refine aB (PY (SJ (dG x.left vs)) (SJ (dG x.right vs))) wl ?_;refine wv (h:=?_);repeat first|intro _|refine ⟨iD,?_⟩
 refine aB (Nh (Pr (dG x.left vs)) (Pr (dG x.right vs))) wl ?_;refine wv (h:=?_);repeat first|intro _|refine ⟨iD,?_⟩
 refine aB ((by have e:=Ze [cmp1 (SJ (dG x.left vs)) (SJ (dG x.right vs)),cmp1 (Pr (dG x.left vs)) (Pr (dG x.right vs))];rw [<- a] at e;exact e)) wl ?_;refine wv (h:=?_);repeat first|intro _|refine ⟨iD,?_⟩
 exact l _ _ (by simp [go_sem,k]<;>(first|rfl|(rw [aS];simp)))
theorem mJ (x:Term)(vs:W3)(e:qH x vs.length)(f:Sm vs):Pua 307 [.agg x.c,dLI vs] (dI (dG x vs)):=by
 have a:=e;obtain ⟨⟨l,k⟩,j,i⟩:=a;refine Tz.p0 func307 rfl λQ b _=>?_;have Y:=@Term.c.eq_1;refine dK (λd=>?_) λd=>?_
 .exact wv (h:=b _ _ (by simp [go_sem,dG,d]))
 .have hk:x.N.toNat<vs.length:=aD;have g:=f.get hk;have Y:=wa Y (aA hk);exact wo (h:=b _ _ (by simp [go_sem,dG,(aD:¬ x.N<0),aA hk]))
theorem nG (x:Term)(vs:W3)(d:qH x vs.length)(e:Sm vs):Pua 257 [.agg x.c,dLI vs] (.tup [dI (dG x vs),dI 0]):=by
 have a:=d;obtain ⟨⟨k,j⟩,i,g⟩:=a;have b:inF x.N (-1) ((vs.length:Int) - 1)=true:=by unfold inF;simp;omega
 refine Tz.p0 func257 rfl λQ f _=>?_;have Y:=wa @Term.c.eq_1 b;refine wo (h:=aB (jL x.N (-1) ((vs.length:Int) - 1)) wl ?_);refine wo (h:=aB (mJ x vs d e) wl ?_);exact wo (h:=f _ _ wy)
end Go.Abs
end
section
set_option maxRecDepth 100000
set_option maxHeartbeats 4000000
open Go Go.Proofs Tryz
namespace Go.Abs
theorem Hz (t:Types)(a:Int):Pua 309 [dI a,.adr t.c] (.bool (decide ((t.h.length:Int)<=a))):=by
 refine Tz.p0 func309 rfl λQ b Y=>?_;exact wo (h:=b _ _ wy)
theorem Hy (t:Types)(x:Edge):Pua 310 [.agg x.c,.adr t.c] (.bool (decide ((t.i.length:Int)<=x.type))):=by
 refine Tz.p0 func310 rfl λQ a Y=>?_;exact wo (h:=a _ _ wy)
theorem Bq (t:Types)(g:Graph):Pua 248 [t.d,g.d] (.bool (fQ t g)):=by
 refine Tz.p0 func248 rfl λQ e Y=>?_;refine wo (h:=aB (gM g.h 309 [.adr t.c] (λa=>decide ((t.h.length:Int)<=a)) (by simp [go_sem]) (by simp [go_sem]) (λa _=>Hz t a)) wl ?_);refine wo (h:=aK (λb=>mE g.i 310 [.adr t.c] (λx=>decide ((t.i.length:Int)<=x.type)) (by simp [go_sem]) (by simp [go_sem]) (λx _=>Hy t x)) (λb=>wl) ?_);exact wo (h:=e _ _ (by simp [go_sem,fQ];rw [aS];simp))
theorem KJ (t:Types){g:Graph}(d:graphF g=0):fQ t g=mB t g:=by
 have c:=dP d;have f:(g.h.any λn=>decide ((t.h.length:Int)<=n))=g.h.any λa=>!insideF t a:=by
  rw [aS,bD,bD];constructor<;>rintro ⟨a,b,h⟩<;>refine ⟨a,b,?_⟩<;>have:=c.1 a b<;>simp [insideF] at h ⊢<;>omega
 have e:(g.i.any λx=>decide ((t.i.length:Int)<=x.type))=g.i.any λx=>!o7 t x:=by
  rw [aS,bD,bD];constructor<;>rintro ⟨a,b,h⟩<;>refine ⟨a,b,?_⟩<;>have:=(c.2 a b).1<;>simp [o7] at h ⊢<;>omega
 unfold fQ mB;rw [f,e]
def YY (p g:Graph)(i:Nat):Int:=if i=0 then graphF p else graphF g
theorem YX (p g:Graph):bU (YY p g) 0 2=if graphF p≠0 then graphF p else if graphF g≠0 then graphF g else 0:=by simp [bU,YY]
theorem yB (t:Types)(z:t.ok)(p g:Graph):Pua 161 [t.d,p.d,g.d] (dI (eH t p g)):=by
 refine Tz.pK ⟨λt=>t==10,λ_=>[]⟩ func161 rfl (λQ m=>?_);have Y:=trivial;refine wv (h:=aB (mX t z) wl ?_);refine dK (λs=>?_) λs=>?_
 .have hA:eH t p g=(cW t).2:=by unfold eH;rw [if_pos (eQ s)]
  exact wv (h:=m _ _ (by simp [go_sem,hA]))
 .have hA:eH t p g=if graphF p≠0 then graphF p else if graphF g≠0 then graphF g else if (!mB t p||!mB t g)=true then 13 else 0:=by unfold eH;rw [if_neg (eQ s)]
  refine wo (h:=aY (λi e H=>(e 3=.adr t.c/\e 4=.adr p.c/\e 5=.adr g.c/\e 22=.list [p.c,g.c]/\e 23=dI 2/\e 24=dI i)/\(i<=2)/\(bU (YY p g) i (2 - i)=bU (YY p g) 0 2)) (λi=>2 - i) 0 ⟨wg,wi,(by rfl)⟩ λE r i e H o=>?_);obtain ⟨B,C,u⟩:=o;have Y:=wa Y B;refine dK (λv=>?_) λv=>?_
  .have hi2:i<2:=aD;have a:=eV (YY p g) hi2;rw [u] at a;obtain ⟨x,y,j⟩:∃ x:Graph,[[D.list (p.h.map cI),D.list (p.i.map Edge.c)],[D.list (g.h.map cI),D.list (g.i.map Edge.c)]][i]?=some [D.list (x.h.map cI),D.list (x.i.map Edge.c)]/\YY p g i=graphF x:=by
    rcases cH i 1 with h|h
    .obtain rfl:i=0:=aD;exact ⟨p,rfl,rfl⟩
    .obtain rfl:i=1:=aD;exact ⟨g,rfl,rfl⟩
   have q:=nD x;have Y:=xa1 Y v y;refine wo (h:=aB (q) wl ?_);refine d8 (λn=>?_) λn=>?_
   .have hR:eH t p g=graphF x:=by
     rw [j,if_pos (eQ n),YX] at a;rw [hA];by_cases w:graphF p=0
     .rw [if_neg (by simp [w])] at a ⊢;by_cases l:graphF g=0
      .rw [if_neg (by simp [l])] at a;exact absurd a.symm n
      .rw [if_pos l] at a ⊢;exact a
     .rw [if_pos w] at a ⊢;exact a
    exact wv (h:=m _ _ (by simp [go_sem,hR]))
   .rw [j,if_neg (eQ n)] at a;exact wo (h:=wx r (i+1) ⟨wg,wj,(by exact a.symm)⟩)
  .have hz:bU (YY p g) 0 2=0:=by rw [<- u,(aD:2 - i=0)];rfl
   have f:graphF p=0:=eI _ _ hz 0 aD aD;have k:graphF g=0:=eI _ _ hz 1 aD aD;rw [if_neg (eQ f),if_neg (eQ k),<- KJ t f,<- KJ t k] at hA;refine wo (h:=aB (Bq t p) wl ?_);refine wo (h:=aK (λA=>Bq t g) (λA=>wl) ?_);refine d8 (λb=>?_) λb=>?_
   .rw [if_pos (by simpa [pJ] using b)] at hA;exact wv (h:=m _ _ (by simp [go_sem,hA]))
   .rw [if_neg (by simpa [pJ] using b)] at hA;exact wv (h:=m _ _ (by simp [go_sem,hA]))
/-! ### below -/
def sW (n:Nat)(l:W3):List Bool:=(List.range n).map λ(b:Nat)=>mem l (b:Int)
@[go_sem] theorem T9 (n:Nat)(l:W3):(sW n l).length=n:=by simp [sW]
theorem T8 (n:Nat):sW n []=List.replicate n false:=by
 apply fW (by simp [sW]);intro i b a;simp [sW,yP]
theorem Rl (n:Nat)(l:W3)(x:Int)(c:0<=x):sW n (l++[x])=(sW n l).set x.toNat true:=by
 apply fW (by simp [sW]);intro i b a;rw [Bc];simp only [sW,pI,qL,xC];split
 .rename_i h;rw [cZ];right;simp;omega
 .rename_i h;rw [show decide ((i:Int)=x)=false by simp;omega,pC]
def Mu (t:Types)(a:Nat):List Bool:=sW t.h.length (kD t a)
def sU (t:Types)(n:Nat):UE:=(List.range n).map λa=>[.list ((Mu t a).map cB)]
def belowD (t:Types):D:=.list (sU t t.h.length)
theorem QU (t:Types)(n:Nat):sU t (n+1)=sU t n++[[.list ((Mu t n).map cB)]]:=by simp [sU,bS]
@[go_sem] theorem ZO (t:Types)(n:Nat):(sU t n).length=n:=by simp [sU]
@[go_sem] theorem Vg (t:Types)(n:Nat):D.O (sU t n)=true:=by
 unfold sU;exact dN (λa=>[.list ((Mu t a).map cB)]) (λa=>by simp [D.L,go_sem]) _
theorem Ux {t:Types}{a:Int}{x:Int}(h:x∈kD t a):0<=x/\x<t.h.length:=by
 unfold kD at h;split at h
 .simp at h;omega
 .cases h
theorem RY (t:Types)(a:Int):(kD t a).length<=t.h.length:=by
 unfold kD;split
 .rw [aT];exact dH (iT _ _) dB
 .simp
@[go_sem] theorem Z7 (t:Types):(belowD t).P=true:=Vg t _
theorem CM (t:Types)(w:t.ok):Pua 249 [t.d] (belowD t):=by
 have x:=w.aT;refine Tz.pK ⟨λt=>t==3||t==5||t==19,λ_=>[]⟩ func249 rfl (λQ A=>?_);have Y:=trivial;refine wo (h:=aY (λi e H=>(e 1=.adr t.c/\e 11=.list (t.h.map NodeTy.c)/\e 12=dI t.h.length/\e 3=.own 0 i/\e 13=dI i)/\(H.get 0=some ⟨162,1,sU t i,false⟩)/\(0<H.next)/\(i<=t.h.length)) (λi=>t.h.length - i) 0 ⟨wg,(by simp [go_sem,sU]),wn,wi⟩ λG u i e H p=>?_);obtain ⟨C,m,f,E⟩:=p;have Y:=xa2 Y C m (bL f);refine dK (λy=>?_) λy=>?_
 .have hll:=RY t i;have Y:=wa Y y;refine wo (h:=aB (NU t w i) wl ?_);refine wo (h:=aY (λk e H=>∃ q:Nat,(e 1=.adr t.c/\e 11=.list (t.h.map NodeTy.c)/\e 12=dI t.h.length/\e 3=.own 0 i/\e 13=dI i/\e 4=dI i/\e 5=.own q t.h.length/\e 26=dLI (kD t i)/\e 27=dI (kD t i).length/\e 28=dI k)/\(H.get 0=some ⟨162,1,sU t i,false⟩)/\(0<H.next)/\(H.get q=some ⟨4,1,(sW t.h.length ((kD t i).take k)).map cB,false⟩)/\(q<H.next)/\(k<=(kD t i).length)/\(0<q)) (λk=>(kD t i).length - k) 0 ⟨H.next,wg,wn,wn,(by simp [go_sem,T8]),wn,wi,wi⟩ λF s k e H o=>?_);obtain ⟨q,B,l,b,j,a,D,z⟩:=o;have v:=cY (aD:q≠0);have Y:=xa5 Y B l (bL b) j (bL a) v;refine dK (λg=>?_) λg=>?_
  .have hbx:=Ux (aC g);have r:(kD t i)[k].toNat<(sW t.h.length ((kD t i).take k)).length:=by rw [T9];omega
   have n:sW t.h.length ((kD t i).take (k+1))=(sW t.h.length ((kD t i).take k)).set (kD t i)[k].toNat true:=by rw [aE g,Rl _ _ _ hbx.1]
   have Y:=xa4 Y g (aA g) (aA r) hbx.1 hbx.2;exact wo (h:=wx s (k+1) ⟨q,wg,wn,wn,(by simp [go_sem,Y,n,b6,cB]),wn,wj,wj⟩)
  .have hke:(kD t i).take k=kD t i:=aG aD;have Y:=wa Y hke;exact wo (h:=wx u (i+1) ⟨wg,(by simp [go_sem,Y,QU,Mu]),wn,wj⟩)
 .exact wv (h:=A _ _ (by simp [go_sem,Y,belowD,(aD:i=t.h.length)]))
theorem M9 {t:Types}(a:(cW t).2=0){k:Int}(h:0<=k/\k<t.h.length):given2F t k k=0:=by
 unfold given2F;rw [if_neg (by rw [a];simp),if_pos (by simp [insideF];omega)]
@[go_sem] theorem abA (t:Types)(a:Nat):(Mu t a).length=t.h.length:=by simp [Mu,sW]
theorem KW {t:Types}{a:Int}(h:0<=a/\a<t.h.length):(sU t t.h.length)[a.toNat]?=some [.list ((Mu t a.toNat).map cB)]:=by
 unfold sU;rw [aM,fR aD];rfl
theorem RX {t:Types}(d:(cW t).2=0){a b:Int}(e:0<=a/\a<t.h.length)(f:0<=b/\b<t.h.length):mem (kD t a) b=wJ t a b:=by
 unfold kD wJ;rw [if_pos (M9 d e),aS,mem_iff,aW];constructor
 .rintro ⟨k,c,rfl⟩;rw [fK] at c;simpa using c.2
 .intro h;exact ⟨b.toNat,by rw [fK];exact ⟨by simp;omega,h⟩,aD⟩
theorem Oj {t:Types}(e:(cW t).2=0){a b:Int}(d:0<=a/\a<t.h.length)(c:0<=b/\b<t.h.length):(Mu t a.toNat)[b.toNat]?=some (wJ t a b):=by
 unfold Mu sW;rw [aM,fR aD,dM,Int.toNat_of_nonneg d.1,Int.toNat_of_nonneg c.1,RX e d c]
theorem CL (t:Types)(L:t.ok)(p g:Graph)(u:G17 t p g)(K:(cW t).2=0)(m:Part):Pua 162 [t.d,p.d,g.d,m.d] (dI (matchE t p g m false)):=by
 have P:=bR u.gp;have O:=bR u.gg;have y:=(dP u.gp).2;refine Tz.pK ⟨λt=>t==14||t==15,λr=>match r with|17=>[(0,10),(1,10),(3,10),(4,10),(5,10),(6,10),(8,10),(9,10),(0,11),(1,11),(3,11),(4,11),(5,11),(6,11),(8,11),(9,11),(10,11),(5,12),(6,12),(8,12),(9,12)]|_=>[]⟩ func162 rfl (λQ l=>?_);have Y:=@belowD.eq_1;refine d8 (λS=>?_) λS=>?_
 .have hM:matchE t p g m false=20:=by unfold matchE;rw [if_pos aD]
  exact wv (h:=l _ _ (by simp [go_sem,hM]))
 .have hM:matchE t p g m false=(if bU (mNE t p g m) 0 p.h.length≠0 then bU (mNE t p g m) 0 p.h.length else if bU (mapEE p g m) 0 p.i.length≠0 then bU (mapEE p g m) 0 p.i.length else if false=true/\(¬ m.h.Nodup\/¬ m.i.Nodup) then 5 else 0):=by unfold matchE;rw [if_neg aD]
  have N:m.h.length=p.h.length:=aD;have M:m.i.length=p.i.length:=aD;refine wv (h:=aB (CM t L) wl ?_);refine wo (h:=aY (λi e H=>(e 4=.adr t.c/\e 5=.adr p.c/\e 6=.adr g.c/\e 7=.adr m.c/\e 9=.list (sU t t.h.length)/\e 35=dLI m.h/\e 36=dI m.h.length/\e 37=dI i)/\(i<=m.h.length)/\(bU (mNE t p g m) i (p.h.length - i)=bU (mNE t p g m) 0 p.h.length)) (λi=>m.h.length - i) 0 ⟨wg,wi,(by rfl)⟩ λI0 D i e H A=>?_);obtain ⟨U,X,I⟩:=A;have Y:=wa Y U;refine dK (λv=>?_) λv=>?_
  .have hn:i<p.h.length:=aD;have a:=eV (mNE t p g m) hn;rw [I] at a;have f:mNE t p g m i=(if m.h[i]<0\/(g.h.length:Int)<=m.h[i] then 6 else if wJ t p.h[i] (g.h[m.h[i].toNat]?.getD 0)=true then 0 else 13):=by simp only [mNE,aA v,aA hn,Option.getD_some]
   have s:=u.tp _ (aC hn);have Y:=xa2 Y v (aA v) (aA hn);refine d8 (λR=>?_) λR=>?_
   .rw [if_pos aD] at f;rw [f,if_pos aD] at a;rw [a,if_pos aD] at hM;exact wv (h:=l _ _ (by simp [go_sem,hM]))
   .have hkb:m.h[i].toNat<g.h.length:=aD;rw [if_neg aD,aA hkb,Option.getD_some] at f;have B:=u.tg _ (aC hkb);have w:=KW s;have x:=Oj K s B;have Y:=xa2 Y (aA hkb) w x;refine d8 (λE=>?_) λE=>?_
    .rw [if_neg (eQ E)] at f;rw [f,if_pos aD] at a;rw [a,if_pos aD] at hM;exact wv (h:=l _ _ (by simp [go_sem,hM]))
    .rw [if_pos (eQ E)] at f;rw [f,if_neg aD] at a;exact wo (h:=wx D (i+1) ⟨wg,wj,(by exact a.symm)⟩)
  .have hN0:bU (mNE t p g m) 0 p.h.length=0:=by rw [<- I,(aD:p.h.length - i=0)];rfl
   rw [hN0,if_neg aD] at hM;refine wo (h:=aY (λk e H=>(e 4=.adr t.c/\e 5=.adr p.c/\e 6=.adr g.c/\e 7=.adr m.c/\e 9=.list (sU t t.h.length)/\e 69=dLI m.i/\e 70=dI m.i.length/\e 71=dI k)/\(k<=m.i.length)/\(bU (mapEE p g m) k (p.i.length - k)=bU (mapEE p g m) 0 p.i.length)) (λk=>m.i.length - k) 0 ⟨wg,wi,(by rfl)⟩ λZ C k e H z=>?_);obtain ⟨T,W,J⟩:=z;have Y:=wa Y T;refine dK (λj=>?_) λj=>?_
   .have hn:k<p.i.length:=aD;have a:=eV (mapEE p g m) hn;rw [J] at a;have V:=y _ (aC hn);have q:p.i[k].w.toNat<m.h.length:=aD;have o:p.i[k].M.toNat<m.h.length:=aD;have b:mapEE p g m k=(if m.i[k]<0\/(g.i.length:Int)<=m.i[k] then 6 else if p.i[k].type≠(g.i[m.i[k].toNat]?.getD b8).type then 13 else if m.h[p.i[k].w.toNat]≠(g.i[m.i[k].toNat]?.getD b8).w\/m.h[p.i[k].M.toNat]≠(g.i[m.i[k].toNat]?.getD b8).M then 11 else 0):=by
     simp only [mapEE,aA j,aA hn,Option.getD_some,aA q,aA o]
    have Y:=xa4 Y j (aA j) (aA hn) (aA q) (aA o);refine d8 (λG=>?_) λG=>?_
    .rw [if_pos aD] at b;rw [b,if_pos aD] at a;rw [a,if_pos aD] at hM;exact wv (h:=l _ _ (by simp [go_sem,hM]))
    .have hkb:m.i[k].toNat<g.i.length:=aD;rw [if_neg aD,aA hkb,Option.getD_some] at b;have Y:=wa Y (aA hkb);refine d8 (λn=>?_) λn=>?_
     .rw [if_pos n] at b;rw [b,if_pos aD] at a;rw [a,if_pos aD] at hM;exact wv (h:=l _ _ (by simp [go_sem,hM]))
     .rw [if_neg (eQ n)] at b;refine d8 (λF=>?_) λF=>?_
      .rw [if_pos aD] at b;rw [b,if_pos aD] at a;rw [a,if_pos aD] at hM;exact wv (h:=l _ _ (by simp [go_sem,hM]))
      .rw [if_neg aD] at b;rw [b,if_neg aD] at a;exact wo (h:=wx C (k+1) ⟨wg,wj,(by exact a.symm)⟩)
   .have hE0:bU (mapEE p g m) 0 p.i.length=0:=by rw [<- J,(aD:p.i.length - k=0)];rfl
    rw [hE0,if_neg aD] at hM;rw [if_neg dB] at hM;exact wv (h:=l _ _ (by simp [go_sem,hM]))
/-! ### the finder -/
theorem JT (i:Nat):Pua 387 [.nil,dI i] (dI (-1)):=by
 refine Tz.p0 func387 rfl λQ a Y=>?_;exact wv (h:=a _ _ wy)
theorem Ml (l:W3){i:Nat}(h:i<l.length):Pua 387 [dLI l,dI i] (dI l[i]):=by
 have a:l≠[]:=λe=>by rw [e] at h;simp at h
 refine Tz.p0 func387 rfl λQ b _=>?_;have Y:=wa (aA h) a;exact wo (h:=b _ _ wy)
def GivD (d:D)(l:W3)(n:Nat):Prop:=d.P=true/\∀ i,i<n->Pure prog 387 [d,dI i] (dI (l[i]?.getD (-1)))
theorem GivD.nil (n:Nat):GivD .nil (List.replicate n (-1)) n:=⟨rfl,λi hi=>by
 have:=JT i;rw [pB,if_pos hi];exact this⟩
theorem GivD.list (l:W3):GivD (dLI l) l l.length:=⟨qA l,λi hi=>by rw [aA hi];exact Ml l hi⟩
theorem Mk (k n:Int):Pua 384 [dI k,.adr [dI n]] (.bool (decide (k < -1)||decide (n<=k))):=by
 refine Tz.p0 func384 rfl λQ a Y=>?_;exact wo (h:=a _ _ wy)
theorem LK {f:Nat->Int}{c:Int}(h:∀ j,f j=0\/f j=c):∀ n k,bU f k n=0\/bU f k n=c
 | 0,k=>.inl rfl
 | n+1,k=>by
  unfold bU;split
  .rename_i h1;exact .inr ((h k).resolve_left h1)
  .exact LK h n (k+1)
theorem O9 (l:W3)(n:Int):nZ l n=if (l.any λk=>decide (k < -1)||decide (n<=k))=true then 6 else 0:=by
 by_cases h:(l.any λk=>decide (k < -1)||decide (n<=k))=true
 .rw [if_pos h];rcases LK (f:=Db n l) (c:=6) (λj=>by unfold Db;split<;>simp) l.length 0 with h0|h0
  .obtain ⟨x,d,a⟩:=bD.1 h;obtain ⟨i,e,rfl⟩:=aQ d;have:=eI _ _ h0 i aD aD;unfold Db at this;rw [aA e,Option.getD_some] at this;simp only [cZ,decide_eq_true_eq] at a;rw [if_pos a] at this;cases this
  .exact h0
 .rw [if_neg h];refine iK _ _ λj _ g=>?_;unfold Db;rw [if_neg];intro a;have b:j<l.length:=aD;rw [aA b,Option.getD_some] at a;exact h (bD.2 ⟨_,aC b,by simpa using a⟩)
theorem Fk (l:W3)(n:Int):Pua 382 [dLI l,dI n] (dI (nZ l n)):=by
 refine Tz.p0 func382 rfl λQ b Y=>?_;refine wv (h:=aB (gM l 384 [.adr [dI n]] (λk=>decide (k < -1)||decide (n<=k)) (by simp [go_sem]) (by simp [go_sem]) (λk _=>Mk k n)) wl ?_);refine dK (λa=>?_) λa=>?_
 .have hO:nZ l n=6:=by rw [O9,if_pos (eQ a)]
  exact wv (h:=b _ _ (by simp [go_sem,hO]))
 .have hO:nZ l n=0:=by rw [O9,if_neg (eQ a)]
  exact wv (h:=b _ _ (by simp [go_sem,hO]))
end Go.Abs
end
