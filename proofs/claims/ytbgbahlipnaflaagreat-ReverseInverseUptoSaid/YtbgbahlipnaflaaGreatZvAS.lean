/- Layer 26, the plain law: the host after a step is one; what  -/
import Derived.Test.YtbgbahlipnaflaaGreatZvAR
import Derived.Test.YtbgbahlipnaflaaGreatZvAG
import Derived.Test.YtbgbahlipnaflaaGreatZvAA
import Derived.Test.YtbgbahlipnaflaaGreatZvAE
import Derived.Carry
import Derived.ChangeArms
import Derived.WideShapes
import Derived.DataElems
import Derived.Laws.Externs
set_option linter.unusedVariables false
set_option linter.unusedSimpArgs false
section
set_option maxRecDepth 100000
set_option maxHeartbeats 4000000
open Go Go.Proofs Tryz
namespace Go.Abs
theorem JB {t:Types}(d:t.aq):∀ c:Nat,c<t.h.length->∀ (b:Nat) (a:Int),mem (t.aw c) (b:Int)=true->mem (t.aw b) a=true->mem (t.aw c) a=true:=by
 intro c;induction c using Nat.strongRecOn with
 | _ c ih =>
 intro g b a hb h;have f:=d.E c _ (aA g);have e:=A0 t c g (d.ax c);rw [e,x8,c8] at hb;rcases hb with hb|hb
 .by_cases h0:0<=t.h[c].E
  .rw [if_pos h0] at hb;rw [e,x8,c8,if_pos h0];exact .inl (ih _ aD aD b a hb h)
  .rw [if_neg h0,BB] at hb;cases hb
 .have:b=c:=by simp at hb;omega
  subst this;exact h
theorem Wx {t:Types}(i:(dG t).2=0){ty a b e d:Int}(h:p6 t ty a b=true)(g:vO t a e=true)(f:vO t b d=true)(k:0<=e/\e<t.h.length)(j:0<=d/\d<t.h.length):p6 t ty e d=true:=by
 have c:=nI i;unfold p6 at h ⊢;simp only [aM,decide_eq_true_eq] at h ⊢;obtain ⟨⟨o,n⟩,m,l⟩:=h;obtain ⟨_,q,p⟩:=sX o;unfold vO at g f;rw [show a=((a.toNat:Nat):Int) by omega] at g;rw [show b=((b.toNat:Nat):Int) by omega] at f;refine ⟨⟨?_,n⟩,JB c _ aD a.toNat _ g m,JB c _ aD b.toNat _ f l⟩;simp [given2F,i,insideF,k,j]
section
variable {t:Types} {r:Rule} {h:Host} {m:Mat}
theorem ZK {l a:V2}{es:List Edge}{g:Graph}{n:Int}(d:0<=n)(c:n<l.length)(b:g.h=l++a):gN g n=l[n.toNat]?.getD 0:=by
 unfold gN;rw [b,aS aD]
theorem StepIn.hb (S:StepIn t r h m):∀ x∈(bT t r h m).j.i,((0<=x.type/\x.type<t.i.length)/\(0<=x.w/\x.w<(bT t r h m).j.h.length)/\(0<=x.M/\x.M<(bT t r h m).j.h.length)) /\
  p6 t x.type (gN (bT t r h m).j x.w) (gN (bT t r h m).j x.M)=true:=λx hx=>by
 have hbN:=S.bw;have hbin:=S.gw;rw [S.cr,aZ,aT,aT] at hx;rcases hx with ⟨k,hk,rfl⟩|⟨k,hk,rfl⟩
 .have hr:=S.fk k hk;have hy:=OP hr.1 hr.2;obtain ⟨e1,e2⟩:=S.ho.ed _ hy;have hgi:=(dY S.ho.gg).2 _ hy;obtain ⟨s1,s2⟩:=qJ S.sub hk;obtain ⟨p1,p2,_⟩:=zD S.cb s1;obtain ⟨q1,q2,_⟩:=zD S.cb s2;have key:∀ v:Int,v∈(bZ r h m).h->pI (bZ r h m).h v<(bZ r h m).h.length->iA (bZ r h m).h (pI (bZ r h m).h v)=v->gN (bT t r h m).j (pI (bZ r h m).h v)=gN h.j v:=λv hv hp hi=>by
   rw [ZK (es:=[]) aD (bY hp) hbN,show ((pI (bZ r h m).h v:Nat):Int).toNat=pI (bZ r h m).h v by omega,aN];unfold iA at hi;rw [show ((pI (bZ r h m).h v:Nat):Int).toNat=pI (bZ r h m).h v by omega,aA hp,Option.getD_some] at hi;rw [aA hp,d7,Option.getD_some,hi]
  have hl:(bT t r h m).j.h.length=(bZ r h m).h.length+r.N.length:=by rw [hbN];simp
  rw [CV];refine ⟨⟨⟨hgi.1.1,e1⟩,⟨by simp only;omega,by simp only;omega⟩,by simp only;omega,by simp only;omega⟩,?_⟩;simp only;rw [key _ s1 p1 p2,key _ s2 q1 q2];exact e2
 .have hr:=mX hk;have hk2:k.toNat<r.right.j.i.length:=aD;have hy:=(kF S.hR.gr S.hR.tr).2 _ (aC hk2);rw [aA hk2,Option.getD_some];obtain ⟨y,hye⟩:=c7 (r.right.j.i[k.toNat]);rw [<- hye] at hy ⊢;have hf:y.w.toNat<r.right.j.h.length:=aD;have ht:y.M.toNat<r.right.j.h.length:=aD;obtain ⟨n1,c1,l1,b1⟩:=S.gu hf;obtain ⟨n2,c2,l2,b2⟩:=S.gu ht;unfold freshE;rw [c1,c2];simp only [Option.getD_some];have hfit:p6 t y.type r.right.j.h[y.w.toNat] r.right.j.h[y.M.toNat]=true:=by
   have:=S.hR.hk;unfold pX at this;rw [aM,cZ,cZ,gB,gB] at this;have h1:=this.2 k hk;unfold unfitB at h1;rw [aA hk2,Option.getD_some,<- hye] at h1;unfold gN at h1;rw [aA hf,aA ht] at h1;simpa using h1
  have e1:gN (bT t r h m).j (n1:Int)=(bT t r h m).j.h[n1]:=by simp [gN,aA l1]
  have e2:gN (bT t r h m).j (n2:Int)=(bT t r h m).j.h[n2]:=by simp [gN,aA l2]
  refine ⟨⟨⟨hy.1.1,hy.1.2⟩,⟨aD,aD⟩,aD,aD⟩,?_⟩;rw [e1,e2];exact Wx S.hR.vf hfit b1 b2 (hbin _ (aC l1)) (hbin _ (aC l2))
theorem Yc {x:Host}(f:(dG t).2=0)(h:x.j.h.length<=40)(l:x.j.i.length<=80)(s:x.k.length=x.j.h.length)(m:∀ a∈x.j.h,0<=a/\a<t.h.length)
  (d:∀ (n:Nat) (p:n<x.j.h.length) (w:n<x.k.length),jA t x.j.h[n] x.k[n]=0)
  (c:∀ y∈x.j.i,((0<=y.type/\y.type<t.i.length)/\(0<=y.w/\y.w<x.j.h.length)/\(0<=y.M/\y.M<x.j.h.length))/\p6 t y.type (gN x.j y.w) (gN x.j y.M)=true):fG t x=0:=by
 have v:=(nI f).bz;have k:=(nI f).cV;have u:graphF x.j=0:=Fx h l (λa o=>by have:=m a o;omega) λy g=>by
  obtain ⟨⟨r,e,q⟩,_⟩:=c y g;exact ⟨aD,e,q⟩
 have p:(iQ (He t x) 0 x.j.h.length).2=0:=by
  rw [wM];refine iT _ _ λj _ i=>?_;have b:j<x.j.h.length:=aD;unfold He;rw [aA b,aA (aD:j<x.k.length),Option.getD_some,Option.getD_some];exact d j b aD
 unfold fG mI;rw [if_neg aD,if_neg aD,if_neg aD,if_neg aD,wM];refine iT _ _ λj _ i=>?_;have b:j<x.j.i.length:=aD;obtain ⟨r,e⟩:=c _ (aC b);unfold Wu;rw [aA b,Option.getD_some,if_neg aD,if_pos e]
theorem Uk {g:Graph}{c:Part}{vs:V2}:∀ (l:List Slot) (vals:Yb),vals.length=g.h.length->(∀ (n:Nat) (h1:n<g.h.length) (h2:n<vals.length),jA t g.h[n] vals[n]=0) ->
  (∀ s∈l,zE t g c vs s=false)->(∀ s∈l,0<=s.J)->∀ (n:Nat) (h1:n<g.h.length) (h2:n<(uU c vs l vals).length),jA t g.h[n] (uU c vs l vals)[n]=0
 | [],vals,_,hx,_,_=>λn h1 h2=>hx n h1 h2
 | s :: l,vals,hl,hx,ho,ha=>by
  refine Uk l (vals.set (fX c s) ((vals[fX c s]?.getD []).set s.J.toNat (dO s.y vs))) (by rw [f9];exact hl) (λn h1 h2=>?_) (λs hs=>ho s (iw hs)) (λs hs=>ha s (iw hs));rw [f9] at h2;have hI:=hx n h1 h2;rw [BR];split
  .rename_i hs';subst hs';rw [aA h2,Option.getD_some];obtain ⟨a1,a2,a3,a4⟩:=pJ hI;unfold jA;rw [if_neg aD,if_neg (by rw [a2];simp),if_neg (by rw [f9];omega)];refine iT _ _ λj _ hj=>?_;have hja:j<(bL t g.h[fX c s]).length:=aD;unfold D4;rw [aA hja,Option.getD_some];by_cases hj2:s.J.toNat=j
   .have e:((vals[fX c s]).set s.J.toNat (dO s.y vs))[j]?=some (dO s.y vs):=by rw [<- hj2];exact List.getElem?_set_self aD
    rw [e,Option.getD_some,if_neg];have hO:=ho s aE;unfold zE at hO;rw [aA h1,Option.getD_some,hj2,aA hja,Option.getD_some,Bool.or_eq_false_iff,decide_eq_false_iff_not,decide_eq_false_iff_not] at hO;omega
   .rw [List.getElem?_set_ne hj2,aA (aD:j<(vals[fX c s]).length),Option.getD_some,if_neg];have:=a4 j aD hja;omega
  .exact hI
theorem StepIn.after (S:StepIn t r h m)(a:sP t (bT t r h m).j (cT r h m) m.vars r.right.l=0)(e:(bT t r h m).j.h.length<=40)(f:(bT t r h m).j.i.length<=80):fG t (bP t r h m)=0:=by
 have d:∀ s∈r.right.l,zE t (bT t r h m).j (cT r h m) m.vars s=false:=by
  unfold sP at a;split at a
  .cases a
  .split at a
   .cases a
   .rename_i b;rw [LY,gB] at b;exact λs c=>by simpa using b s c
 exact Yc S.hR.vf e f (by show (uU _ _ _ _).length=_;rw [(qO _ _ _ _).1];exact S.cA) S.gw (λn g b=>Uk _ _ S.cA S.node d (λs c=>(S.hR.l s c).2.1.1) n g b) S.hb
end
mutual
def oQ:Cond→Bool
 | .mk k l m p=>D2 l&&decide ((p.j.h.length:Int)+p.j.i.length≤6)
def D2:List Cond→Bool
 | []=>true
 | c :: l=>oQ c&&D2 l
end
theorem QV (l:List Cond):D2 l=l.all oQ:=by
 induction l with
 | nil=>simp [D2]
 | cons a l ih=>simp [D2,ih]
theorem CJ (c:Cond):oQ c=(c.u.all oQ&&decide ((c.o.j.h.length:Int)+c.o.j.i.length<=6)):=by
 cases c;simp only [oQ,QV,Cond.u,Cond.o];try rfl
theorem xD {α:Type}(l:List α)(p:α->Bool){i:Nat}(h:i<l.length):(l.take (i+1)).all p=((l.take i).all p&&p l[i]):=by
 rw [List.take_succ_eq_append_getElem h,sK];simp
theorem Od:∀ c:Cond,c.ok->Pua 71 [.agg c.c] (.bool (oQ c)):=by
 refine l5 λc m o=>?_;obtain ⟨k,n⟩:=(s5 c).1 o;have p1:=k.p1;have p2:=k.p2;refine Tz.p0 func71 rfl λQ l _=>?_;have Y:=@Cond.A;refine wv (h:=bA (λi e H=>(e 1=.adr c.c/\e 3=dI i)/\(i<=c.u.length)/\((c.u.take i).all oQ=true)) (λi=>c.u.length - i) 0 ⟨wg,wi,(by rfl)⟩ λr f i e H b=>?_);obtain ⟨p,q,d⟩:=b;have Y:=wa Y p;refine wv (h:=?_);repeat first|intro _|refine ⟨iS,?_⟩
 refine wq (λa=>?_) λa=>?_
 .have Y:=xa1 Y a (aA a);refine wo (h:=aB ((by have:=m _ (aC a) (n _ (aC a));rwa [Cond.A] at this)) wl ?_);refine eP (λj=>?_) λj=>?_
  .refine wv (h:=?_);have g:oQ c=false:=by
    have:c.u.all oQ=false:=by
     rw [bJ];intro h;exact absurd (cF.1 h _ (aC a)) (bY j)
    rw [CJ,this];rfl
   exact l _ _ (iq g)
  .exact wo (h:=wx f (i+1) ⟨wg,wj,(by rw [xD _ _ a,d];simpa using j)⟩)
 .have hA:c.u.all oQ=true:=by rw [aG aD] at d;exact d
  have g:oQ c=decide ((c.o.j.h.length:Int)+c.o.j.i.length<=6):=by rw [CJ,hA];rfl
  exact wo (h:=l _ _ (iq g))
def aeM (p q:Pattern):Int:=((14 ^ (q.j.h.length - p.j.h.length) * 18 ^ (q.j.i.length - p.j.i.length):Nat):Int)
def MB (k:Int)(p' p:Pattern):Pattern:=if k=5 then p' else p
mutual
def oE:Cond→Pattern→Bool
 | .mk k l m p',p=>Kw l (MB k p' p)&&decide (aeM p (MB k p' p)≤5000)
def Kw:List Cond→Pattern→Bool
 | [],_=>true
 | c :: l,q=>oE c q&&Kw l q
end
theorem TV (l:List Cond)(q:Pattern):Kw l q=l.all λc=>oE c q:=by
 induction l with
 | nil=>simp [Kw]
 | cons a l ih=>simp [Kw,ih]
theorem BN (c:Cond)(p:Pattern):oE c p=((c.u.all λk=>oE k (MB c.D c.o p))&&decide (aeM p (MB c.D c.o p)<=5000)):=by
 cases c;simp only [oE,TV,Cond.u,Cond.o,Cond.D];try rfl
theorem uB {a j:Nat}(ha:1<=a)(hj:j<=6):a ^ j<=a ^ 6/\1<=a ^ j:=⟨Nat.pow_le_pow_right ha hj,by first|exact Nat.one_le_pow _ _ ha|exact Nat.pow_pos ha|exact Nat.pos_pow_of_pos _ ha⟩
theorem NI (q:Pattern):q.c.take 5=q.c:=rfl
theorem Lq:∀ c:Cond,c.ok->oQ c=true->∀ p:Pattern,p.j.h.length<=1000000->p.j.i.length<=1000000->Pua 72 [p.d,.agg c.c,dI 14,dI 18] (.bool (oE c p)):=by
 refine l5 λc Z hc O p a1 a0=>?_;obtain ⟨hs,hk⟩:=(s5 c).1 hc;have q1:=hs.p1;have q2:=hs.p2;rw [CJ] at O;simp only [aM,decide_eq_true_eq,cF] at O;obtain ⟨q,D⟩:=dH (MB c.D c.o p);have m:q.j.h.length - p.j.h.length<=6/\q.j.i.length - p.j.i.length<=6/\q.j.h.length<=1000000/\q.j.i.length<=1000000:=by
  rw [<- D];unfold MB;split<;>omega
 refine Tz.pK ⟨λt=>t==9,λ_=>[]⟩ func72 rfl (λQ P=>?_);have Y:=@Cond.A;refine dR (λU=>?_) λU=>?_
 .have hqc:c.o=q:=by rw [<- D];exact (if_pos U).symm
  refine wp (h:=bA (λi e H=>∃ w:Nat,(e 4=.adr p.c/\e 5=.adr c.c/\e 2=dI 14/\e 3=dI 18/\e 9=.ptr 0 1 0 0/\e 10=dI w/\e 11=dI i)/\(H.get 0=some ⟨33,5,[q.c],false⟩)/\(0<H.next)/\(p.j.h.length<=i)/\(i<=q.j.h.length\/i=p.j.h.length)/\(w=14 ^ (i - p.j.h.length))) (λi=>q.j.h.length - i) p.j.h.length ⟨1,wg,(by simp [go_sem,hqc,NI]),wn,wi,wi,(by simp)⟩ λI0 K i e H F=>?_);obtain ⟨w,X,A,r,hi,s,B⟩:=F;have Y:=xa2 Y X A (bS r);refine wv (h:=?_);repeat first|intro _|refine ⟨fK,?_⟩
  refine wq (λN=>?_) λN=>?_
  .have f:=(uB (a:=14) (j:=i - p.j.h.length) aD aD).1;rw [<- B] at f;have g:w<=7529536:=f;have Y:=wa Y N;exact wp (h:=wx K (i+1) ⟨(w * 14),wg,cl,wn,wj,wj,(by rw [(aD:i+1 - p.j.h.length=(i - p.j.h.length)+1),Nat.pow_succ,B])⟩)
  .have hw':w=14 ^ (q.j.h.length - p.j.h.length):=by rw [B];congr 1;omega
   have f:=(uB (a:=14) (j:=q.j.h.length - p.j.h.length) aD m.1).1;rw [<- hw'] at f;have g:w<=7529536:=f;refine wp (h:=bA (λk e H=>∃ v:Nat,(e 4=.adr p.c/\e 5=.adr c.c/\e 2=dI 14/\e 3=dI 18/\e 9=.ptr 0 1 0 0/\e 10=dI v/\e 12=dI k)/\(H.get 0=some ⟨33,5,[q.c],false⟩)/\(0<H.next)/\(p.j.i.length<=k)/\(k<=q.j.i.length\/k=p.j.i.length)/\(v=w * 18 ^ (k - p.j.i.length))) (λk=>q.j.i.length - k) p.j.i.length ⟨w,wg,cl,wn,wi,wi,(by simp)⟩ λI2 J k e H s=>?_);obtain ⟨v,W,z,o,T,S,C⟩:=s;have Y:=xa2 Y W z (bS o);refine wv (h:=?_);repeat first|intro _|refine ⟨fK,?_⟩
   refine wq (λu=>?_) λu=>?_
   .have hvb:=(uB (a:=18) (j:=k - p.j.i.length) aD aD).1;have M:v<=7529536 * 34012224:=by rw [C];exact lH g hvb
    have Y:=wa Y u;exact wp (h:=wx J (k+1) ⟨(v * 18),wg,cl,wn,wj,wj,(by rw [(aD:k+1 - p.j.i.length=(k - p.j.i.length)+1),Nat.pow_succ,C,Nat.mul_assoc])⟩)
   .have hv':v=w * 18 ^ (q.j.i.length - p.j.i.length):=by rw [C];congr 2;omega
    refine wv (h:=bA (λj e H=>(e 4=.adr p.c/\e 5=.adr c.c/\e 2=dI 14/\e 3=dI 18/\e 9=.ptr 0 1 0 0/\e 10=dI v/\e 13=dI j)/\(H.get 0=some ⟨33,5,[q.c],false⟩)/\(0<H.next)/\(j<=c.u.length)/\((c.u.take j).all (λx=>oE x q)=true)) (λj=>c.u.length - j) 0 ⟨wg,cl,wn,wi,(by rfl)⟩ λI4 I j e H E=>?_);obtain ⟨V,y,n,hj,G⟩:=E;have Y:=xa2 Y V y (bS n);refine wv (h:=?_);repeat first|intro _|refine ⟨fK,?_⟩
    refine wq (λb=>?_) λb=>?_
    .have Y:=xa2 Y b (aA b) @NI;refine wp (h:=aH ((by have R:=Z _ (aC b) (hk _ (aC b)) (O.1 _ (aC b)) q m.2.2.1 m.2.2.2;rwa [Cond.A] at R)) wl ?_);refine iY (λl=>?_) λl=>?_
     .refine wv (h:=?_);have L:oE c p=false:=by
       have:(c.u.all λx=>oE x q)=false:=by
        rw [bJ];intro h;exact absurd (cF.1 h _ (aC b)) (bY l)
       rw [BN,D,this];rfl
      exact P _ _ (iq L)
     .exact wp (h:=wx I (j+1) ⟨wg,cl,wn,wj,(by rw [xD _ _ b,G];simpa using l)⟩)
    .have hA:(c.u.all λx=>oE x q)=true:=by rw [aG aD] at G;exact G
     have L:oE c p=decide ((v:Int)<=5000):=by rw [BN,D,hA,hv',hw'];rfl
     exact wv (h:=P _ _ (iq L))
 .have hqc:p=q:=by rw [<- D];exact (if_neg U).symm
  refine wp (h:=bA (λi e H=>∃ w:Nat,(e 4=.adr p.c/\e 5=.adr c.c/\e 2=dI 14/\e 3=dI 18/\e 9=.ptr 0 1 0 0/\e 10=dI w/\e 11=dI i)/\(H.get 0=some ⟨33,5,[q.c],false⟩)/\(0<H.next)/\(p.j.h.length<=i)/\(i<=q.j.h.length\/i=p.j.h.length)/\(w=14 ^ (i - p.j.h.length))) (λi=>q.j.h.length - i) p.j.h.length ⟨1,wg,(by simp [go_sem,hqc,NI]),wn,wi,wi,(by simp)⟩ λI0 K i e H F=>?_);obtain ⟨w,X,A,r,hi,s,B⟩:=F;have Y:=xa2 Y X A (bS r);refine wv (h:=?_);repeat first|intro _|refine ⟨fK,?_⟩
  refine wq (λN=>?_) λN=>?_
  .have f:=(uB (a:=14) (j:=i - p.j.h.length) aD aD).1;rw [<- B] at f;have g:w<=7529536:=f;have Y:=wa Y N;exact wp (h:=wx K (i+1) ⟨(w * 14),wg,cl,wn,wj,wj,(by rw [(aD:i+1 - p.j.h.length=(i - p.j.h.length)+1),Nat.pow_succ,B])⟩)
  .have hw':w=14 ^ (q.j.h.length - p.j.h.length):=by rw [B];congr 1;omega
   have f:=(uB (a:=14) (j:=q.j.h.length - p.j.h.length) aD m.1).1;rw [<- hw'] at f;have g:w<=7529536:=f;refine wp (h:=bA (λk e H=>∃ v:Nat,(e 4=.adr p.c/\e 5=.adr c.c/\e 2=dI 14/\e 3=dI 18/\e 9=.ptr 0 1 0 0/\e 10=dI v/\e 12=dI k)/\(H.get 0=some ⟨33,5,[q.c],false⟩)/\(0<H.next)/\(p.j.i.length<=k)/\(k<=q.j.i.length\/k=p.j.i.length)/\(v=w * 18 ^ (k - p.j.i.length))) (λk=>q.j.i.length - k) p.j.i.length ⟨w,wg,cl,wn,wi,wi,(by simp)⟩ λI2 J k e H s=>?_);obtain ⟨v,W,z,o,T,S,C⟩:=s;have Y:=xa2 Y W z (bS o);refine wv (h:=?_);repeat first|intro _|refine ⟨fK,?_⟩
   refine wq (λu=>?_) λu=>?_
   .have hvb:=(uB (a:=18) (j:=k - p.j.i.length) aD aD).1;have M:v<=7529536 * 34012224:=by rw [C];exact lH g hvb
    have Y:=wa Y u;exact wp (h:=wx J (k+1) ⟨(v * 18),wg,cl,wn,wj,wj,(by rw [(aD:k+1 - p.j.i.length=(k - p.j.i.length)+1),Nat.pow_succ,C,Nat.mul_assoc])⟩)
   .have hv':v=w * 18 ^ (q.j.i.length - p.j.i.length):=by rw [C];congr 2;omega
    refine wv (h:=bA (λj e H=>(e 4=.adr p.c/\e 5=.adr c.c/\e 2=dI 14/\e 3=dI 18/\e 9=.ptr 0 1 0 0/\e 10=dI v/\e 13=dI j)/\(H.get 0=some ⟨33,5,[q.c],false⟩)/\(0<H.next)/\(j<=c.u.length)/\((c.u.take j).all (λx=>oE x q)=true)) (λj=>c.u.length - j) 0 ⟨wg,cl,wn,wi,(by rfl)⟩ λI4 I j e H E=>?_);obtain ⟨V,y,n,hj,G⟩:=E;have Y:=xa2 Y V y (bS n);refine wv (h:=?_);repeat first|intro _|refine ⟨fK,?_⟩
    refine wq (λb=>?_) λb=>?_
    .have Y:=xa2 Y b (aA b) @NI;refine wp (h:=aH ((by have R:=Z _ (aC b) (hk _ (aC b)) (O.1 _ (aC b)) q m.2.2.1 m.2.2.2;rwa [Cond.A] at R)) wl ?_);refine iY (λl=>?_) λl=>?_
     .refine wv (h:=?_);have L:oE c p=false:=by
       have:(c.u.all λx=>oE x q)=false:=by
        rw [bJ];intro h;exact absurd (cF.1 h _ (aC b)) (bY l)
       rw [BN,D,this];rfl
      exact P _ _ (iq L)
     .exact wp (h:=wx I (j+1) ⟨wg,cl,wn,wj,(by rw [xD _ _ b,G];simpa using l)⟩)
    .have hA:(c.u.all λx=>oE x q)=true:=by rw [aG aD] at G;exact G
     have L:oE c p=decide ((v:Int)<=5000):=by rw [BN,D,hA,hv',hw'];rfl
     exact wv (h:=P _ _ (iq L))
def HJ (t:Types)(p:Pattern)(c:Cond)(h:Host):Bool:=fewC c&&fewP p&&FC h&&(decide (condF t p c≠0)||(light21 t p h&&oQ c&&decide ((h.j.h.length:Int)<=6)&&decide ((h.j.i.length:Int)<=8)&&oE c p))
theorem Qd (t:Types)(m:t.ok)(p:Pattern)(c:Cond)(o:c.le)(h:Host):Pua 28 [t.d,p.d,.agg c.c,h.d] (.bool (HJ t p c h)):=by
 refine Tz.p0 func28 rfl λQ n _=>?_;have Y:=xa1 @Host.c.eq_1 @Pattern.c.eq_1 @Cond.A;refine wo (h:=aB ((by have b:=Mm c o;rwa [Cond.A] at b)) wl ?_);refine wo (h:=aK (λa=>xQ p) (λa=>wl) ?_);refine wo (h:=aK (λa=>Mn h) (λa=>wl) ?_);refine eP (λl=>?_) λl=>?_
 .have hF:(fewC c&&fewP p&&FC h)=false:=by cases k:fewC c<;>cases j:fewP p<;>cases i:FC h<;>simp [k,j,i] at l<;>rfl
  exact wv (h:=n _ _ (by simp [go_sem,HJ,hF]))
 .have hF:fewC c=true/\fewP p=true/\FC h=true:=by cases k:fewC c<;>cases j:fewP p<;>cases i:FC h<;>simp [k,j,i] at l<;>exact ⟨rfl,rfl,rfl⟩
  have f:c.ok/\c.size<=1000000:=by
   have g:=hF.1;simp [fewC] at g;have q:=JF c 40 aD g;exact ⟨q.1,aD⟩
  have e:p.j.h.length<=1000000/\p.j.i.length<=1000000:=by
   have g:=hF.2.1;simp [fewP,fewG] at g;omega
  refine wo (h:=aB ((by have b:=Gi t m p c f.1 f.2;rwa [Cond.A] at b)) wl ?_);refine wo (h:=aK (λa=>Qg t m p h) (λa=>wl) ?_);refine wo (h:=aK (λa=>(by have b:=Od c f.1;rwa [Cond.A] at b)) (λa=>wl) ?_);refine wo (h:=aK (λa=>(by have b:=Lq c f.1 (by simp at a;simp_all) p e.1 e.2;rwa [Cond.A] at b)) (λa=>wl) ?_);exact wo (h:=n _ _ (by simp [go_sem,HJ,hF.1,hF.2.1,hF.2.2]))
def light26 (t:Types)(r:Rule)(h:Host):Bool:=yH t&&fewR r&&HJ t r.left r.cond h
end Go.Abs
end
section
namespace Go.Abs
open Go.ChangeShapes Go.WideShapes Go.RowKit
structure Bulk {H:Type} (bulk:DataW H->Nat):Prop where
 len:∀ e s,e.length<=bulk (.slice e s)
 el:∀ e s,∀ d∈e,bulk d<=bulk (.slice e s)
 part:∀ l,∀ d∈l,bulk d<=bulk (.agg l)
 str:∀ s:List UInt8,s.length<=bulk (.lit (.string s))
abbrev Tf:Nat->Prop:=λ_=>False
section
variable {H:Type} {enc:TypeId × Value→H} {P:Program} {w:World} {base:Nat} {spare:Nat→Bool} {held:Bool} {bulk:DataW H→Nat} {B:Nat}
def Opens (enc:TypeId × Value->H)(P:Program)(w:World)(base:Nat)(spare:Nat->Bool)(held:Bool)(bulk:DataW H->Nat)(B:Nat)(n:Nat)(t:TypeId){α:Type}(C:α->UN)(G:α->Prop):Prop :=
 ∀ (fuel:Nat) (cs:List Value) (x:DataW H × List MemPlace),fuel<=n->DataW.trod enc P w base spare held fuel t cs=some x->bulk x.1<=B ->
  ∃ a,G a/\RepL Tf jG tB w cs (C a)/\∀ u∈cs,u.oneCell'=true
variable {n:Nat} {t:TypeId}
theorem Opens.mono {α:Type}{C:α->UN}{G:α->Prop}{m:Nat}(h:Opens enc P w base spare held bulk B n t C G)(hm:m<=n):Opens enc P w base spare held bulk B m t C G :=
 λfuel cs x hf hx hb=>h fuel cs x (dZ hf hm) hx hb
theorem Opens.zero {α:Type}{C:α->UN}{G:α->Prop}:Opens enc P w base spare held bulk B 0 t C G:=λfuel cs x hf hx _=>by
 have:fuel=0:=aD;subst this;simp [DataW.trod] at hx
theorem Opens.map {α β:Type}{C:α->UN}{G:α->Prop}{C':β->UN}{G':β->Prop}(h:Opens enc P w base spare held bulk B n t C G)(f:α->β)(hC:∀ a,C a=C' (f a))(hG:∀ a,G a->G' (f a)):Opens enc P w base spare held bulk B n t C' G' :=
 λfuel cs x hf hx hb=>by
  obtain ⟨a,h1,h2,h3⟩:=h fuel cs x hf hx hb;exact ⟨f a,hG a h1,by rw [<- hC];exact h2,h3⟩
theorem uT {v:Value}{d:D}(h:RepV Tf jG tB w v d):RepL Tf jG tB w [v] [d] :=
 ⟨rfl,λj u x hu hx=>by
  cases j with
  | zero=>simp at hu hx;subst hu;subst hx;exact h
  | succ j=>simp at hu⟩
theorem PZ {a b:List Value}{c d:UN}(h:RepL Tf jG tB w a c)(k:RepL Tf jG tB w b d):RepL Tf jG tB w (a++b) (c++d):=by
 refine ⟨by simp [h.len,k.len],λj u x f e=>?_⟩;by_cases g:j<a.length
 .rw [aS g] at f;rw [aS (by rw [<- h.len];exact g)] at e;exact h.Z j u x f e
 .rw [bG aD] at f;rw [bG (by rw [<- h.len];omega),<- h.len] at e;exact k.Z _ u x f e
theorem Td (ht:P.underlying t=some .bool):Opens enc P w base spare held bulk B n t (λb:Bool=>[D.bool b]) (λ_=>True):=λfuel cs x _ hx _=>by
 obtain ⟨b,rfl,_⟩:=DataW.trod_bool ht hx;exact ⟨b,trivial,uT (.bool b),by simp [Value.oneCell']⟩
theorem rows {α:Type}{C:α->UN}{G:α->Prop}{ad:Addr}{sz:Nat}:∀ (len:Nat),
  (∀ i,i<len->∃ c a,w.cells? base (ad.add (i * sz)) sz=some c/\G a/\RepL Tf jG tB w c (C a)/\∀ u∈c,u.oneCell'=true) ->
  ∃ (l:List α) (xs:List Value),l.length=len/\(∀ a∈l,G a)/\RepL Tf jG tB w xs (l.map C).flatten/\(∀ u∈xs,u.oneCell'=true)/\xs.length=len * sz /\
   (∀ (j:Nat) (u:Value),xs[j]?=some u->w.cell? (ad.add j)=some u)/\∀ c∈l.map C,c.length=sz
 | 0,_=>⟨[],[],rfl,by simp,⟨rfl,λj u d hu=>by simp at hu⟩,by simp,by simp,by simp,by simp⟩
 | len+1,h=>by
  obtain ⟨l,xs,h1,h2,h3,h4,h5,h6,h7⟩:=rows len λi hi=>h i aD;obtain ⟨c,a,hc,hg,hr,h1c⟩:=h len aD;obtain ⟨_,hcl,hcell⟩:=World.cells?_some hc;refine ⟨l++[a],xs++c,by simp [h1],λb hb=>?_,?_,λu hu=>?_,by rw [aI,h5,hcl,Nat.succ_mul],λj u hu=>?_,λb hb=>?_⟩
  .rcases aZ.1 hb with h|h
   .exact h2 b h
   .simp at h;subst h;exact hg
  .rw [List.map_append,nF];refine PZ h3 ?_;simpa using hr
  .rcases aZ.1 hu with h|h
   .exact h4 u h
   .exact h1c u h
  .by_cases hj:j<xs.length
   .rw [aS hj] at hu;exact h6 j u hu
   .rw [bG aD] at hu;have hlt:j - xs.length<sz:=by rw [<- hcl];exact (aQ.1 hu).1
    have:=hcell (j - xs.length) hlt;rw [Addr.add_add,hu] at this;rwa [(aD:len * sz+(j - xs.length)=j)] at this
  .rw [List.map_append] at hb;rcases aZ.1 hb with h|h
   .exact h7 b h
   .simp at h;subst h;rw [<- hr.len,hcl]
theorem wD (hB:Bulk bulk){e:TypeId}(ht:P.underlying t=some (.slice e)){α:Type}{C:α->UN}{G:α->Prop}(h:Opens enc P w base spare held bulk B n e C G) :
  Opens enc P w base spare held bulk B (n+1) t (λl:List α=>[.list (l.map C)]) (λl=>l.length<=B/\∀ a∈l,G a):=λfuel cs x hf hx hb=>by
 rcases DataW.trod_slice ht hx with ⟨rfl,rfl⟩|⟨ad,len,cap,elems,rest,m,rfl,rfl,rfl,hbase,hlc,hcap,hlen,hel,_,_⟩
 .exact ⟨[],⟨eL _,by simp⟩,uT .listN,by simp [Value.oneCell']⟩
 .simp only at hb;have hb1:=hB.len (elems.map (·.1)) (rest.map (·.1));rw [aR] at hb1;obtain ⟨l,xs,h1,h2,h3,h4,h5,h6,h7⟩:=rows (w:=w) (base:=base) (C:=C) (G:=G) (ad:=ad) (sz:=P.cellsOf e) len λi hi=>by
   have:=hel i hi;rw [aA aD,Option.bind_eq_some_iff] at this;obtain ⟨c,hc,hd⟩:=this;obtain ⟨a,g1,g2,g3⟩:=h m c _ aD hd (dZ (hB.el _ (rest.map (·.1)) _ (aT.2 ⟨_,aC aD,rfl⟩)) hb);exact ⟨c,a,hc,g1,g2,g3⟩
  refine ⟨l,⟨aD,h2⟩,uT ?_,by simp [Value.oneCell']⟩;have key:=RepV.list (M:=Tf) (σ:=jG) (N:=tB) (w:=w) ad cap (P.cellsOf e) xs (l.map C) (by rw [aR];omega) hcap h7 h3.len h4 (λj u hu=>⟨λh=>h,h6 j u hu⟩) h3.Z;rw [aR,h1] at key;exact key
def Z5 (enc:TypeId × Value->H)(P:Program)(w:World)(base:Nat)(spare:Nat->Bool)(held:Bool)(bulk:DataW H->Nat)(B n:Nat):List TypeId->List Value->Prop
 | [],cs=>cs=[]
 | t :: ts,cs=>(∃ y,DataW.trod enc P w base spare held n t (cs.take (P.cellsOf t))=some y/\bulk y.1<=B)/\Z5 enc P w base spare held bulk B n ts (cs.drop (P.cellsOf t))
def KM (enc:TypeId × Value->H)(P:Program)(w:World)(base:Nat)(spare:Nat->Bool)(held:Bool)(bulk:DataW H->Nat)(B:Nat)(n:Nat)(ts:List TypeId){α:Type}(C:α->UN)(G:α->Prop):Prop :=
 ∀ (fuel:Nat) (cs:List Value),fuel<=n->Z5 enc P w base spare held bulk B fuel ts cs->∃ a,G a/\RepL Tf jG tB w cs (C a)/\∀ u∈cs,u.oneCell'=true
theorem l8:KM enc P w base spare held bulk B n [] (λ_:Unit=>[]) (λ_=>True):=λfuel cs _ h=>by
 have h:cs=[]:=h;subst h;exact ⟨(),trivial,⟨rfl,λj u d hu=>by simp at hu⟩,by simp⟩
theorem dB {ts:List TypeId}{α β:Type}{C:α->UN}{G:α->Prop}{C':β->UN}{G':β->Prop}(h:Opens enc P w base spare held bulk B n t C G)(k:KM enc P w base spare held bulk B n ts C' G') :
  KM enc P w base spare held bulk B n (t :: ts) (λp:α × β=>C p.1++C' p.2) (λp=>G p.1/\G' p.2):=λfuel cs hf hs=>by
 obtain ⟨⟨y,hy,hyb⟩,hs⟩:=hs;obtain ⟨a,a1,a2,a3⟩:=h fuel _ y hf hy hyb;obtain ⟨b,b1,b2,b3⟩:=k fuel _ hf hs;refine ⟨(a,b),⟨a1,b1⟩,?_,λu hu=>?_⟩
 .have:=PZ a2 b2;rwa [List.take_append_drop] at this
 .rw [<- List.take_append_drop (P.cellsOf t) cs] at hu;rcases aZ.1 hu with h|h
  .exact a3 u h
  .exact b3 u h
def XG (P:Program):Nat->List Field->Option Nat
 | o,[]=>some o
 | o,f :: r=>if f.offset=o then XG P (o+P.cellsOf f.type) r else none
theorem Ud {fuel:Nat}{cs:List Value}:∀ (fs:List Field) (o:Nat),XG P o fs=some cs.length ->
  (∀ f∈fs,∃ y,DataW.trod enc P w base spare held fuel f.type ((cs.drop f.offset).take (P.cellsOf f.type))=some y/\bulk y.1<=B)->o<=cs.length/\Z5 enc P w base spare held bulk B fuel (fs.map (·.type)) (cs.drop o)
 | [],o,ho,_=>by
  simp only [XG,bI] at ho;subst ho;exact ⟨bC _,by show cs.drop cs.length=[];simp⟩
 | f :: fs,o,ho,h=>by
  unfold XG at ho;split at ho
  .rename_i hof;subst hof;obtain ⟨h1,h2⟩:=Ud fs _ ho λg hg=>h g (iw hg);refine ⟨aD,?_⟩;refine ⟨h f aE,?_⟩;rw [List.drop_drop];exact h2
  .cases ho
theorem oP (hB:Bulk bulk){fs:Array Field}(ht:P.underlying t=some (.struct fs))(ho:XG P 0 fs.toList=some (P.cellsOf t)){α:Type}{C:α->UN}{G:α->Prop}(h:KM enc P w base spare held bulk B n (fs.toList.map (·.type)) C G) :
  Opens enc P w base spare held bulk B (n+1) t C G:=λfuel cs x hf hx hb=>by
 obtain ⟨xs,m,rfl,rfl,hcl,hxl,hfl⟩:=DataW.trod_struct ht hx;simp only at hb;have hs:=(Ud (enc:=enc) (P:=P) (w:=w) (base:=base) (spare:=spare) (held:=held) (bulk:=bulk) (B:=B) (fuel:=m) (cs:=cs) fs.toList 0 (by rw [hcl];exact ho) λf hfm=>by
  obtain ⟨i,hi,rfl⟩:=aO hfm;have hi':i<fs.size:=by simpa using hi
  have hfi:=hfl i (fs.toList[i]) (iw hi');rw [aA aD] at hfi;exact ⟨_,hfi,dZ (hB.part _ _ (aT.2 ⟨_,aC aD,rfl⟩)) hb⟩).2
 rw [List.drop_zero] at hs;exact h m cs aD hs
theorem T1 {r:Reach}{s:Nat}{q:Array Field}{v:Value}{d:DataW H}{i:List MemPlace}{α:Type}{C:α->UN}{G:α->Prop}(j:P.underlying t=some (.struct q))(h:∀ n,Opens enc P w base spare held bulk B n t C G)
  (c:Value.okWide P w r s t v) (l:DataW.Trod enc P w base spare held t v d i) (o:bulk d<=B):∃ a,G a/\RepV Tf jG tB w v (.agg (C a)):=by
 obtain ⟨f,rfl,_⟩:=okWide_struct j c;obtain ⟨b,k⟩:=l;obtain ⟨a,p,e,g⟩:=h b b _ _ (bC _) k o;have m:(Value.agg f).cells.toList=f.toList:=rfl;rw [m] at e g;have:=RepV.agg (M:=Tf) (σ:=jG) (N:=tB) (w:=w) f.toList (C a) e.len g e.Z;exact ⟨a,p,by simpa using this⟩
theorem B9 (hl:laidOutB P=true){W W':World}{sp':Nat->Bool}(hb:Below W.heap.size W W'):∀ {ts:List TypeId} {vs:List Value} {ds:List (DataW H)} {ps:List MemPlace},(∀ t∈ts,P.readableRec t=true/\t<P.types.size) ->
  DataW.TrodAll enc P W 0 (λ_=>true) true ts vs ds ps->(∀ x∈ps,x.block<W.heap.size)->(∀ x∈ps,sp' x.block=true)->DataW.TrodAll enc P W' 0 sp' true ts vs ds ps
 | [],_,_,_,_,h,_,_=>by
  obtain ⟨rfl,rfl,rfl⟩:=trodAll_nil h;rfl
 | t :: ts,_,_,_,hr,h,hlt,hs=>by
  obtain ⟨v,vs,d,ds,p,q,rfl,rfl,rfl,h1,h2⟩:=trodAll_cons h;refine ⟨p,q,WideElems.Trod_stays hl (hr t aE).1 (hr t aE).2 h1 (λx hx=>hb.same (hlt x (iw hx))) (λx hx=>hs x (iw hx)),B9 hl hb (λu hu=>hr u (iw hu)) h2 (λx hx=>hlt x (iw hx)) (λx hx=>hs x (iw hx)),rfl⟩
theorem Lx (L:laidOutB P=true){f:Func}{s:ChangeSpec}{d n c o:Bool}{W u:World}{args:Array Value}{v:Value}{ds A:List (DataW H)}{e:List MemPlace}
  (K:∀ t∈f.params.toList,P.readableRec t=true/\t<P.types.size) (a:s.vars=[]) (G:DataW.Whole enc P f.params.toList s.vars d W args.toList ds A e)
  (i:∀ (b:Nat) (g:Nat->Bool) (M:Bool),DataW.TrodAll enc P u b g M f.resultTypes.toList (v.resultList f.resultTypes.size) (s.fn H (ds++A)).results [])
  (l:(s.fn H (ds++A)).args=ds) (B:(s.fn H (ds++A)).vars=[]) (D:Below W.heap.size W u)
  (C:∀ (j:Nat) (t:TypeId) (r:Value),f.resultTypes[j]?=some t->(v.resultList f.resultTypes.size)[j]?=some r->Value.okWide P u .any 0 t r) :
  s.post enc P f d n c o W args v u:=by
 have m:=G;obtain ⟨p,q,N,I,rfl,E,F⟩:=G;rw [a] at I;obtain ⟨rfl,rfl⟩:=trodVars_none I;rw [dU] at m E F;have k:∀ x∈p,x.block<W.heap.size:=λx h=>by simpa using m.lt x h
 have z:∀ g:Nat->Bool,(∀ x∈p,g x.block=true)->DataW.TrodAll enc P u 0 g true f.params.toList args.toList (s.fn H (ds++[])).args p:=λg J=>by
  rw [l];exact B9 L D K N k J
 have y:∀ g:Nat->Bool,DataW.TrodVars enc P u g s.vars (s.fn H (ds++[])).vars []:=λg=>by rw [a,B];rfl
 refine ⟨ds,[],p,[],p,[],m,i _ _ _,z _ (λx h=>by simpa using k x h),y _,World.keptBut_mono (λx h=>⟨h,.inr (bY h)⟩) (D.frame (·∈p)),λ_=>?_⟩;refine ⟨C,_,_,([]++p)++[],⟨[]++p,[],trodAll_append (z _ (λ_ _=>rfl)) (i _ _ _),y _,rfl,?_,?_⟩,?_⟩
 .intro b off hp;have w:MemPlace.cell b off∈p:=by simpa using hp
  have:=E b off w;rw [<- this];exact D.frozen (k _ w)
 .intro ha;simpa using F ha
 .intro x h _;simpa using h
end
end Go.Abs
end
section
set_option maxRecDepth 100000
set_option maxHeartbeats 4000000
open Go Go.Proofs Tryz
namespace Go.Abs
theorem Wt (t:Types)(q:t.ok)(a:Int)(y:0<=a)(vs:V2):Pua 237 [t.d,dI a,dLI vs] (dI (jA t a vs)):=by
 refine Tz.pK ⟨λt=>t==10,λ_=>[]⟩ func237 rfl (λQ i=>?_);have Y:=trivial;refine wv (h:=?_);repeat first|intro _|refine ⟨iS,?_⟩
 refine wq (λw=>?_) λw=>?_
 .have hE:jA t a vs=6:=by unfold jA;rw [if_pos aD]
  exact wv (h:=i _ _ (iq hE))
 .have hkn:a.toNat<t.h.length:=aD;have u:oH t a.toNat=t.h[a.toNat].eb:=by simp [oH,aA hkn]
  have b:jA t a vs=if oH t a.toNat=true then 13 else if vs.length≠(bL t a).length then 20 else bW (D4 (bL t a) vs) 0 (bL t a).length:=by unfold jA;rw [if_neg aD]
  rw [u] at b;have Y:=xa1 Y (aA hkn) @NodeTy.c.eq_1;refine wv (h:=?_);repeat first|intro _|refine ⟨iS,?_⟩
  refine wq (λn=>?_) λn=>?_
  .rw [if_pos (bY n)] at b;exact wv (h:=i _ _ (iq b))
  .rw [if_neg (bY n)] at b;refine wv (h:=aB (n3 t q a) wl ?_);refine wv (h:=?_);repeat first|intro _|refine ⟨iS,?_⟩
   refine wq (λv=>?_) λv=>?_
   .rw [if_pos aD] at b;exact wv (h:=i _ _ (iq b))
   .rw [if_neg aD] at b;have r:vs.length=(bL t a).length:=aD;refine wo (h:=bA (λk e H=>(e 3=.adr t.c/\e 2=dLI vs/\e 33=.list ((bL t a).map Attr.c)/\e 34=dI (bL t a).length/\e 35=dI k)/\(k<=(bL t a).length)/\(bW (D4 (bL t a) vs) k ((bL t a).length - k)=jA t a vs)) (λk=>(bL t a).length - k) 0 ⟨wg,wi,(by exact b.symm)⟩ λz m k e H l=>?_);obtain ⟨x,s,p⟩:=l;have Y:=wa Y x;refine dR (λj=>?_) λj=>?_
    .have hv:k<vs.length:=aD;have f:=fR (D4 (bL t a) vs) j;rw [p] at f;have g:D4 (bL t a) vs k=if vs[k]<(bL t a)[k].ao\/(bL t a)[k].az<vs[k] then 6 else 0:=by simp only [D4,aA hv,aA j,Option.getD_some]
     have Y:=xa3 Y j (aA hv) (aA j) @Attr.c.eq_1;refine wv (h:=?_);repeat first|intro _|refine ⟨iS,?_⟩
     refine wq (λo=>?_) λo=>?_
     .rw [if_pos aD] at g;rw [g,if_pos aD] at f;exact wv (h:=i _ _ (iq f))
     .rw [if_neg aD] at g;rw [g,if_neg aD] at f;exact wo (h:=wx m (k+1) ⟨wg,wj,(by exact f.symm)⟩)
    .have hZ:jA t a vs=0:=by rw [<- p,(aD:(bL t a).length - k=0)];rfl
     exact wv (h:=i _ _ (iq hZ))
theorem CS (t:Types)(w:t.ok)(h:Host):Pua 149 [t.d,h.d] (.tup [dI (mI t h).1,dI (mI t h).2]):=by
 refine Tz.pK ⟨λt=>t==13,λ_=>[]⟩ func149 rfl (λQ l=>?_);have Y:=wa @Host.d.eq_1 @Host.c.eq_1;refine wv (h:=aB (nZ t w) wl ?_);refine dR (λD=>?_) λD=>?_
 .have hE:mI t h=(-1,(dG t).2):=by unfold mI;rw [if_pos (bY D)]
  exact wv (h:=l _ _ (iq hE))
 .have hE0:mI t h=if graphF h.j≠0 then (-1,graphF h.j) else if h.k.length≠h.j.h.length then (-1,20) else if (iQ (He t h) 0 h.j.h.length).2≠0 then iQ (He t h) 0 h.j.h.length else iQ (Wu t h) 0 h.j.i.length:=by unfold mI;rw [if_neg (bY D)]
  refine wv (h:=aB (oA h.j) wl ?_);refine dR (λs=>?_) λs=>?_
  .rw [if_pos (bY s)] at hE0;exact wv (h:=l _ _ (iq hE0))
  .rw [if_neg (bY s)] at hE0;have q:graphF h.j=0:=by simpa using s
   have p:=dY q;have I:=bK q;refine eP (λJ=>?_) λJ=>?_
   .rw [if_pos aD] at hE0;exact wv (h:=l _ _ (iq hE0))
   .rw [if_neg aD] at hE0;refine wo (h:=bA (λi e H=>(e 2=.adr t.c/\e 3=.adr h.c/\e 38=dLI h.j.h/\e 39=dI h.j.h.length/\e 40=dI i)/\(i<=h.j.h.length)/\(iQ (He t h) i (h.j.h.length - i)=iQ (He t h) 0 h.j.h.length)) (λi=>h.j.h.length - i) 0 ⟨wg,wi,(by rfl)⟩ λP C i e H A=>?_);obtain ⟨L,N,G⟩:=A;have Y:=wa Y L;refine dR (λg=>?_) λg=>?_
    .have hv:i<h.k.length:=aD;have y:0<=h.j.h[i]:=(p.1 _ (aC g)).1;have a:=tW (He t h) g;rw [G] at a;have r:He t h i=jA t h.j.h[i] h.k[i]:=by simp only [He,aA hv,aA g,Option.getD_some]
     have Y:=xa3 Y g (aA hv) (aA g) @cL.eq_1;refine wo (h:=aH (Wt t w h.j.h[i] y h.k[i]) wl ?_);refine eP (λk=>?_) λk=>?_
     .rw [r,if_pos (bY k)] at a;rw [a,if_pos (bY k)] at hE0;exact wv (h:=l _ _ (iq hE0))
     .rw [r,if_neg (bY k)] at a;exact wo (h:=wx C (i+1) ⟨wg,wj,(by exact a.symm)⟩)
    .have hN0:iQ (He t h) 0 h.j.h.length=(-1,0):=by rw [<- G,(aD:h.j.h.length - i=0)];rfl
     rw [hN0,if_neg aE] at hE0;refine wo (h:=bA (λj e H=>(e 2=.adr t.c/\e 3=.adr h.c/\e 60=.list (h.j.i.map Edge.c)/\e 61=dI h.j.i.length/\e 62=dI j)/\(j<=h.j.i.length)/\(iQ (Wu t h) j (h.j.i.length - j)=mI t h)) (λj=>h.j.i.length - j) 0 ⟨wg,wi,(by exact hE0.symm)⟩ λO B j e H z=>?_);obtain ⟨K,M,F⟩:=z;have Y:=wa Y K;refine dR (λf=>?_) λf=>?_
     .obtain ⟨x,v⟩:=c7 (h.j.i[j]);have u:=(p.2 _ (aC f)).2;rw [<- v] at u;have o:x.w.toNat<h.j.h.length:=aD;have n:x.M.toNat<h.j.h.length:=aD;have a:=tW (Wu t h) f;rw [F] at a;have b:Wu t h j=if (t.i.length:Int)<=x.type then 6 else if p6 t x.type h.j.h[x.w.toNat] h.j.h[x.M.toNat]=true then 0 else 13:=by simp only [Wu,gN,aA f,Option.getD_some,<- v,aA o,aA n]
      have Y:=xa4 Y f (aA f) (Eq.symm v) (aA o) (aA n);refine eP (λE=>?_) λE=>?_
      .rw [if_pos aD] at b;rw [b,if_pos aD] at a;exact wv (h:=l _ _ (iq a))
      .rw [if_neg aD] at b;refine wo (h:=aH (H5 t w x.type h.j.h[x.w.toNat] h.j.h[x.M.toNat]) wl ?_);refine eP (λm=>?_) λm=>?_
       .rw [if_neg (bY m)] at b;rw [b,if_pos aD] at a;exact wv (h:=l _ _ (iq a))
       .rw [if_pos (bY m)] at b;rw [b,if_neg aD] at a;exact wo (h:=wx B (j+1) ⟨wg,wj,(by exact a.symm)⟩)
     .have hZ:mI t h=(-1,0):=by rw [<- F,(aD:h.j.i.length - j=0)];rfl
      exact wv (h:=l _ _ (iq hZ))
end Go.Abs
end
section
set_option maxRecDepth 60000
set_option maxHeartbeats 4000000
open Go Go.Proofs Tryz
namespace Go.Abs
def UK (s:Int):Int:=if s<0 then -1 else 0
def Q6 (s:Int):Int:=s % 18446744073709551616
theorem WS (x y:Int)(b:0<=x)(a:0<=y)(w:World):(callFunc 373 #[.int .u64 x,.int .u64 y,.int .u64 0]).run prog w =
  .ok (.value (.tuple #[.int .u64 ((x+y+0) % 18446744073709551616),.int .u64 ((x+y+0) / 18446744073709551616)])) w:=by
 rw [run_callFunc_extern func373 ia ia ia (e:=add64Entry) ia,run_add64 x y 0 b a aD aD];rfl
open RowKit in
theorem Sn (a b:Int)(j : -4000000<=a/\a<=4000000)(i : -4000000<=b/\b<=4000000)(w:World) :
  Calls prog 321 #[.int .i64 a,.int .i64 b] w λe w'=>e=.returned (.tuple #[.int .i64 (UK (a+b)),.int .u64 (Q6 (a+b))])/\w'=w:=by
 have h:=WS (IntKind.u64.wrap a) (IntKind.u64.wrap b) (by rw [IntKind.wrap_u64];omega) (by rw [IntKind.wrap_u64];omega) w;simp only [Int.add_zero] at h
 go_enter func321,ntmps321
 go_wp2
 have d:IntKind.u64.wrap a=if a<0 then a+18446744073709551616 else a:=by rw [IntKind.wrap_u64];split<;>omega
 have c:IntKind.u64.wrap b=if b<0 then b+18446744073709551616 else b:=by rw [IntKind.wrap_u64];split<;>omega
 have g:wrap64 (a / 9223372036854775808+b / 9223372036854775808+wrap64 ((IntKind.u64.wrap a+IntKind.u64.wrap b) / 18446744073709551616))=UK (a+b):=by
  rw [d,c];unfold UK wrap64
  repeat' split
  all_goals omega
 have f:(IntKind.u64.wrap a+IntKind.u64.wrap b) % 18446744073709551616=Q6 (a+b):=by
  rw [d,c];unfold Q6
  repeat' split
  all_goals omega
 rw [g,f]
 go_ret2
 exact ⟨rfl,rfl⟩
theorem Ab (a b:Int)(o : -4000000<=a/\a<=4000000)(n : -4000000<=b/\b<=4000000):Pua 321 [dI a,dI b] (.tup [dI (UK (a+b)),.int .u64 (Q6 (a+b))]):=by
 refine ⟨⟨Tryz.f321,func321,rfl,rfl⟩,λM w c s h=>?_⟩;have l:c=[.int .i64 a,.int .i64 b]:=by
  obtain ⟨m,k⟩:=h;match c,m with
  | [x,y],_ =>
   have q:=k 0 x _ rfl rfl;have i:=k 1 y _ rfl rfl;cases q
   cases i
   rfl
 subst l;exact (Sn a b o n w).mono λe r ⟨i,p⟩=>⟨_,i,.tup _ _ rfl (λj u d f g=>by
  match j with
  | 0=>simp at f g;subst f;subst g;exact .int _ _
  | 1=>simp at f g;subst f;subst g;exact .int _ _
  | j+2=>simp at f),by subst p;exact ⟨rfl,rfl,rfl,bC _,λ_ _=>rfl⟩⟩
theorem wO (x:Term)(vs:V2)(g:rH x vs.length)(i:Sm vs):Pua 320 [.agg x.c,.adr [dLI vs]] (.tup [dI (UK (dO x vs)),.int .u64 (Q6 (dO x vs)),.bool true]):=by
 have a:=g;obtain ⟨⟨o,n⟩,m,l⟩:=a;refine Tz.p0 func320 rfl λQ d _=>?_;have Y:=@Term.c.eq_1;refine dR (λk=>?_) λk=>?_
 .have b:dO x vs=0+x.add:=by unfold dO;rw [if_pos aD];omega
  refine wv (h:=aB (Ab 0 x.add aD aD) wl ?_);exact wv (h:=d _ _ (iq b))
 .have hk:x.O.toNat<vs.length:=aD;have j:=i.get hk;have b:dO x vs=vs[x.O.toNat]+x.add:=by unfold dO;rw [if_neg aD,aA hk];rfl
  have f:¬ x.O<0:=aD;have e:¬ (vs.length:Int)<=x.O:=aD;have Y:=xa2 Y (aA hk) f e;refine wo (h:=aH (Ab vs[x.O.toNat] x.add j aD) wl ?_);exact wo (h:=d _ _ (iq b))
theorem Kp (a:Int):Pua 374 [.int .u64 a] (.bool false):=by
 refine Tz.p0 func374 rfl λQ b Y=>?_;exact wv (h:=b _ _ wy)
theorem OQ (a b:Int):Pua 324 [.int .u64 a,.int .u64 b] (dI (cmp1 a b)):=by
 refine Tz.p0 func324 rfl λQ e Y=>?_;refine wv (h:=aB (Kp a) wl ?_);refine wv (h:=aB (Kp b) wl ?_);refine dR (λd=>?_) λd=>?_
 .have Y:=xa1 Y d @cmp1.eq_1;exact wv (h:=e _ _ wy)
 .refine dR (λc=>?_) λc=>?_
  .have Y:=xa2 Y d c @cmp1.eq_1;exact wv (h:=e _ _ wy)
  .have Y:=xa2 Y d c @cmp1.eq_1;exact wv (h:=e _ _ wy)
def Zp (a b:Int):Int:=YW [cmp1 (UK a) (UK b),cmp1 (Q6 a) (Q6 b)]
theorem Zo {a b:Int}(f : -10000000<=a/\a<=10000000)(e : -10000000<=b/\b<=10000000):Zp a b=if a<b then -1 else if b<a then 1 else 0:=by
 have d:Q6 a=if a<0 then a+18446744073709551616 else a:=by unfold Q6;split<;>omega
 have c:Q6 b=if b<0 then b+18446744073709551616 else b:=by unfold Q6;split<;>omega
 unfold Zp;simp only [YW,cmp1,UK,d,c]
 repeat' split
 all_goals omega
theorem Ic {x:Term}{vs:V2}(a:rH x vs.length)(b:Sm vs) : -10000000<=dO x vs/\dO x vs<=10000000:=by
 obtain ⟨⟨g,f⟩,e,d⟩:=a;unfold dO;split
 .omega
 .have hk:x.O.toNat<vs.length:=aD;have c:=b.get hk;rw [aA hk,Option.getD_some];omega
theorem yM (x:Test)(vs:V2)(i:KL x vs.length)(b:Sm vs):Pua 241 [.agg x.c,dLI vs] (.bool (BT x vs)):=by
 obtain ⟨m,f,d⟩:=i;have g:=Zo (Ic f b) (Ic d b);have a:Zp (dO x.left vs) (dO x.right vs)=YW [cmp1 (UK (dO x.left vs)) (UK (dO x.right vs)),cmp1 (Q6 (dO x.left vs)) (Q6 (dO x.right vs))]:=rfl;obtain ⟨o,j⟩:=c7 (Zp (dO x.left vs) (dO x.right vs));rw [<- j] at g a;have k:BT x vs=(decide (x.D=1)&&decide (o<=0)||decide (x.D=2)&&decide (o=0)):=by
  unfold BT;rw [g,aU];simp;constructor
  .rintro (⟨h1,h2⟩|⟨h1,h2⟩)
   .left;refine ⟨h1,?_⟩;split<;>(try split)<;>omega
   .right;refine ⟨h1,?_⟩;rw [h2];simp
  .rintro (⟨h1,h2⟩|⟨h1,h2⟩)
   .left;refine ⟨h1,?_⟩;split at h2<;>(try split at h2)<;>omega
   .right;refine ⟨h1,?_⟩;split at h2<;>(try split at h2)<;>omega
 refine Tz.p0 func241 rfl λQ l _=>?_;have Y:=@Test.c.eq_1;refine wv (h:=?_);refine aB (wO x.left vs f b) wl ?_;refine wv (h:=?_);refine aB (wO x.right vs d b) wl ?_;refine wv (h:=?_);repeat first|intro _|refine ⟨iS,?_⟩
 refine aB (RK (UK (dO x.left vs)) (UK (dO x.right vs))) wl ?_;refine wv (h:=?_);repeat first|intro _|refine ⟨iS,?_⟩
 refine aB (OQ (Q6 (dO x.left vs)) (Q6 (dO x.right vs))) wl ?_;refine wv (h:=?_);repeat first|intro _|refine ⟨iS,?_⟩
 refine aB ((by have e:=acW [cmp1 (UK (dO x.left vs)) (UK (dO x.right vs)),cmp1 (Q6 (dO x.left vs)) (Q6 (dO x.right vs))];rw [<- a] at e;exact e)) wl ?_;refine wv (h:=?_);repeat first|intro _|refine ⟨iS,?_⟩
 exact l _ _ (by simp [go_sem,k]<;>(first|rfl|(rw [aU];simp)))
theorem nJ (x:Term)(vs:V2)(e:rH x vs.length)(f:Sm vs):Pua 240 [.agg x.c,dLI vs] (dI (dO x vs)):=by
 have a:=e;obtain ⟨⟨l,k⟩,j,i⟩:=a;refine Tz.p0 func240 rfl λQ b _=>?_;have Y:=@Term.c.eq_1;refine dR (λd=>?_) λd=>?_
 .exact wv (h:=b _ _ (by simp [go_sem,dO,d]))
 .have hk:x.O.toNat<vs.length:=aD;have g:=f.get hk;have Y:=wa Y (aA hk);exact wo (h:=b _ _ (by simp [go_sem,dO,(aD:¬ x.O<0),aA hk]))
theorem oF (x:Term)(vs:V2)(d:rH x vs.length)(e:Sm vs):Pua 334 [.agg x.c,dLI vs] (.tup [dI (dO x vs),dI 0]):=by
 have a:=d;obtain ⟨⟨k,j⟩,i,g⟩:=a;have b:inF x.O (-1) ((vs.length:Int) - 1)=true:=by unfold inF;simp;omega
 refine Tz.p0 func334 rfl λQ f _=>?_;have Y:=wa @Term.c.eq_1 b;refine wo (h:=aB (kI x.O (-1) ((vs.length:Int) - 1)) wl ?_);refine wo (h:=aB (nJ x vs d e) wl ?_);exact wo (h:=f _ _ wy)
end Go.Abs
end
section
set_option maxRecDepth 100000
set_option maxHeartbeats 4000000
open Go Go.Proofs Tryz
namespace Go.Abs
theorem Iv (t:Types)(a:Int):Pua 370 [dI a,.adr t.c] (.bool (decide ((t.h.length:Int)<=a))):=by
 refine Tz.p0 func370 rfl λQ b Y=>?_;exact wo (h:=b _ _ wy)
theorem Iu (t:Types)(x:Edge):Pua 371 [.agg x.c,.adr t.c] (.bool (decide ((t.i.length:Int)<=x.type))):=by
 refine Tz.p0 func371 rfl λQ a Y=>?_;exact wo (h:=a _ _ wy)
theorem Cb (t:Types)(g:Graph):Pua 318 [t.d,g.d] (.bool (fZ t g)):=by
 refine Tz.p0 func318 rfl λQ e Y=>?_;refine wo (h:=aB (iD g.h 370 [.adr t.c] (λa=>decide ((t.h.length:Int)<=a)) eq eq (λa _=>Iv t a)) wl ?_);refine wo (h:=aK (λb=>nD g.i 371 [.adr t.c] (λx=>decide ((t.i.length:Int)<=x.type)) eq eq (λx _=>Iu t x)) (λb=>wl) ?_);exact wo (h:=e _ _ (by simp [go_sem,fZ];rw [aU];simp))
theorem L3 (t:Types){g:Graph}(d:graphF g=0):fZ t g=nC t g:=by
 have c:=dY d;have f:(g.h.any λn=>decide ((t.h.length:Int)<=n))=g.h.any λa=>!insideF t a:=by
  rw [aU,bF,bF];constructor<;>rintro ⟨a,b,h⟩<;>refine ⟨a,b,?_⟩<;>have:=c.1 a b<;>simp [insideF] at h ⊢<;>omega
 have e:(g.i.any λx=>decide ((t.i.length:Int)<=x.type))=g.i.any λx=>!p8 t x:=by
  rw [aU,bF,bF];constructor<;>rintro ⟨a,b,h⟩<;>refine ⟨a,b,?_⟩<;>have:=(c.2 a b).1<;>simp [p8] at h ⊢<;>omega
 unfold fZ nC;rw [f,e]
def gvE (p g:Graph)(i:Nat):Int:=if i=0 then graphF p else graphF g
theorem acH (p g:Graph):bW (gvE p g) 0 2=if graphF p≠0 then graphF p else if graphF g≠0 then graphF g else 0:=by simp [bW,gvE]
theorem tS (t:Types)(z:t.ok)(p g:Graph):Pua 238 [t.d,p.d,g.d] (dI (eH t p g)):=by
 refine Tz.pK ⟨λt=>t==10,λ_=>[]⟩ func238 rfl (λQ m=>?_);have Y:=trivial;refine wv (h:=aB (nZ t z) wl ?_);refine dR (λs=>?_) λs=>?_
 .have hA:eH t p g=(dG t).2:=by unfold eH;rw [if_pos (bY s)]
  exact wv (h:=m _ _ (iq hA))
 .have hA:eH t p g=if graphF p≠0 then graphF p else if graphF g≠0 then graphF g else if (!nC t p||!nC t g)=true then 13 else 0:=by unfold eH;rw [if_neg (bY s)]
  refine wo (h:=bA (λi e H=>(e 3=.adr t.c/\e 4=.adr p.c/\e 5=.adr g.c/\e 22=.list [p.c,g.c]/\e 23=dI 2/\e 24=dI i)/\(i<=2)/\(bW (gvE p g) i (2 - i)=bW (gvE p g) 0 2)) (λi=>2 - i) 0 ⟨wg,wi,(by rfl)⟩ λE r i e H o=>?_);obtain ⟨B,C,u⟩:=o;have Y:=wa Y B;refine dR (λv=>?_) λv=>?_
  .have hi2:i<2:=aD;have a:=fR (gvE p g) hi2;rw [u] at a;obtain ⟨x,y,j⟩:∃ x:Graph,[[D.list (p.h.map cI),D.list (p.i.map Edge.c)],[D.list (g.h.map cI),D.list (g.i.map Edge.c)]][i]?=some [D.list (x.h.map cI),D.list (x.i.map Edge.c)]/\gvE p g i=graphF x:=by
    rcases bX i 1 with h|h
    .obtain rfl:i=0:=aD;exact ⟨p,rfl,rfl⟩
    .obtain rfl:i=1:=aD;exact ⟨g,rfl,rfl⟩
   have q:=oA x;have Y:=xa1 Y v y;refine wo (h:=aB (q) wl ?_);refine eP (λn=>?_) λn=>?_
   .have hR:eH t p g=graphF x:=by
     rw [j,if_pos (bY n),acH] at a;rw [hA];by_cases w:graphF p=0
     .rw [if_neg (iw w)] at a ⊢;by_cases l:graphF g=0
      .rw [if_neg (iw l)] at a;exact absurd a.symm n
      .rw [if_pos l] at a ⊢;exact a
     .rw [if_pos w] at a ⊢;exact a
    exact wv (h:=m _ _ (iq hR))
   .rw [j,if_neg (bY n)] at a;exact wo (h:=wx r (i+1) ⟨wg,wj,(by exact a.symm)⟩)
  .have hz:bW (gvE p g) 0 2=0:=by rw [<- u,(aD:2 - i=0)];rfl
   have f:graphF p=0:=eU _ _ hz 0 aD aD;have k:graphF g=0:=eU _ _ hz 1 aD aD;rw [if_neg (bY f),if_neg (bY k),<- L3 t f,<- L3 t k] at hA;refine wo (h:=aB (Cb t p) wl ?_);refine wo (h:=aK (λA=>Cb t g) (λA=>wl) ?_);refine eP (λb=>?_) λb=>?_
   .rw [if_pos (by simpa [qG] using b)] at hA;exact wv (h:=m _ _ (iq hA))
   .rw [if_neg (by simpa [qG] using b)] at hA;exact wv (h:=m _ _ (iq hA))
/-! ### below -/
def tM (n:Nat)(l:V2):List Bool:=(List.range n).map λ(b:Nat)=>mem l (b:Int)
@[go_sem] theorem Wb (n:Nat)(l:V2):(tM n l).length=n:=by simp [tM]
theorem Wa (n:Nat):tM n []=List.replicate n false:=by
 apply fD (by simp [tM]);intro i b a;simp [tM,BB]
theorem Th (n:Nat)(l:V2)(x:Int)(c:0<=x):tM n (l++[x])=(tM n l).set x.toNat true:=by
 apply fD (by simp [tM]);intro i b a;rw [BR];simp only [tM,iG,rK,x8];split
 .rename_i h;rw [c8];right;simp;omega
 .rename_i h;rw [show decide ((i:Int)=x)=false by simp;omega,qD]
def N3 (t:Types)(a:Nat):List Bool:=tM t.h.length (lL t a)
def tK (t:Types)(n:Nat):UE:=(List.range n).map λa=>[.list ((N3 t a).map cB)]
def belowD (t:Types):D:=.list (tK t t.h.length)
theorem SP (t:Types)(n:Nat):tK t (n+1)=tK t n++[[.list ((N3 t n).map cB)]]:=by simp [tK,bR]
@[go_sem] theorem adX (t:Types)(n:Nat):(tK t n).length=n:=by simp [tK]
@[go_sem] theorem Xs (t:Types)(n:Nat):D.R (tK t n)=true:=by
 unfold tK;exact d9 (λa=>[.list ((N3 t a).map cB)]) (λa=>by simp [D.L,go_sem]) _
theorem WJ {t:Types}{a:Int}{x:Int}(h:x∈lL t a):0<=x/\x<t.h.length:=by
 unfold lL at h;split at h
 .simp at h;omega
 .cases h
theorem TX (t:Types)(a:Int):(lL t a).length<=t.h.length:=by
 unfold lL;split
 .rw [aR];exact dZ (jM _ _) aE
 .simp
@[go_sem] theorem aeH (t:Types):(belowD t).Q=true:=Xs t _
theorem Dt (t:Types)(w:t.ok):Pua 326 [t.d] (belowD t):=by
 have x:=w.bz;refine Tz.pK ⟨λt=>t==3||t==5||t==19,λ_=>[]⟩ func326 rfl (λQ A=>?_);have Y:=trivial;refine wo (h:=bA (λi e H=>(e 1=.adr t.c/\e 11=.list (t.h.map NodeTy.c)/\e 12=dI t.h.length/\e 3=.own 0 i/\e 13=dI i)/\(H.get 0=some ⟨252,1,tK t i,false⟩)/\(0<H.next)/\(i<=t.h.length)) (λi=>t.h.length - i) 0 ⟨wg,(by simp [go_sem,tK]),wn,wi⟩ λG u i e H p=>?_);obtain ⟨C,m,f,E⟩:=p;have Y:=xa2 Y C m (bS f);refine dR (λy=>?_) λy=>?_
 .have hll:=TX t i;have Y:=wa Y y;refine wo (h:=aB (Ps t w i) wl ?_);refine wo (h:=bA (λk e H=>∃ q:Nat,(e 1=.adr t.c/\e 11=.list (t.h.map NodeTy.c)/\e 12=dI t.h.length/\e 3=.own 0 i/\e 13=dI i/\e 4=dI i/\e 5=.own q t.h.length/\e 26=dLI (lL t i)/\e 27=dI (lL t i).length/\e 28=dI k)/\(H.get 0=some ⟨252,1,tK t i,false⟩)/\(0<H.next)/\(H.get q=some ⟨4,1,(tM t.h.length ((lL t i).take k)).map cB,false⟩)/\(q<H.next)/\(k<=(lL t i).length)/\(0<q)) (λk=>(lL t i).length - k) 0 ⟨H.next,wg,wn,wn,(by simp [go_sem,Wa]),wn,wi,wi⟩ λF s k e H o=>?_);obtain ⟨q,B,l,b,j,a,D,z⟩:=o;have v:=dJ (aD:q≠0);have Y:=xa5 Y B l (bS b) j (bS a) v;refine dR (λg=>?_) λg=>?_
  .have hbx:=WJ (aC g);have r:(lL t i)[k].toNat<(tM t.h.length ((lL t i).take k)).length:=by rw [Wb];omega
   have n:tM t.h.length ((lL t i).take (k+1))=(tM t.h.length ((lL t i).take k)).set (lL t i)[k].toNat true:=by rw [List.take_succ_eq_append_getElem g,Th _ _ _ hbx.1]
   have Y:=xa4 Y g (aA g) (aA r) hbx.1 hbx.2;exact wo (h:=wx s (k+1) ⟨q,wg,wn,wn,(by simp [go_sem,Y,n,cW,cB]),wn,wj,wj⟩)
  .have hke:(lL t i).take k=lL t i:=aG aD;have Y:=wa Y hke;exact wo (h:=wx u (i+1) ⟨wg,(by simp [go_sem,Y,SP,N3]),wn,wj⟩)
 .exact wv (h:=A _ _ (by simp [go_sem,Y,belowD,(aD:i=t.h.length)]))
theorem OK {t:Types}(a:(dG t).2=0){k:Int}(h:0<=k/\k<t.h.length):given2F t k k=0:=by
 unfold given2F;rw [if_neg (by rw [a];simp),if_pos (by simp [insideF];omega)]
@[go_sem] theorem afJ (t:Types)(a:Nat):(N3 t a).length=t.h.length:=by simp [N3,tM]
theorem Mi {t:Types}{a:Int}(h:0<=a/\a<t.h.length):(tK t t.h.length)[a.toNat]?=some [.list ((N3 t a.toNat).map cB)]:=by
 unfold tK;rw [aN,gJ aD];rfl
theorem TW {t:Types}(d:(dG t).2=0){a b:Int}(e:0<=a/\a<t.h.length)(f:0<=b/\b<t.h.length):mem (lL t a) b=vO t a b:=by
 unfold lL vO;rw [if_pos (OK d e),aU,mem_iff,aT];constructor
 .rintro ⟨k,c,rfl⟩;rw [d8] at c;simpa using c.2
 .intro h;exact ⟨b.toNat,by rw [d8];exact ⟨by simp;omega,h⟩,aD⟩
theorem PV {t:Types}(e:(dG t).2=0){a b:Int}(d:0<=a/\a<t.h.length)(c:0<=b/\b<t.h.length):(N3 t a.toNat)[b.toNat]?=some (vO t a b):=by
 unfold N3 tM;rw [aN,gJ aD,d7,Int.toNat_of_nonneg d.1,Int.toNat_of_nonneg c.1,TW e d c]
theorem Ds (t:Types)(L:t.ok)(p g:Graph)(u:G17 t p g)(K:(dG t).2=0)(m:Part):Pua 244 [t.d,p.d,g.d,m.d] (dI (matchE t p g m false)):=by
 have P:=bK u.gp;have O:=bK u.gg;have y:=(dY u.gp).2;refine Tz.pK ⟨λt=>t==14||t==15,λr=>match r with|17=>[(0,10),(1,10),(3,10),(4,10),(5,10),(6,10),(8,10),(9,10),(0,11),(1,11),(3,11),(4,11),(5,11),(6,11),(8,11),(9,11),(10,11),(5,12),(6,12),(8,12),(9,12)]|_=>[]⟩ func244 rfl (λQ l=>?_);have Y:=@belowD.eq_1;refine eP (λS=>?_) λS=>?_
 .have hM:matchE t p g m false=20:=by unfold matchE;rw [if_pos aD]
  exact wv (h:=l _ _ (iq hM))
 .have hM:matchE t p g m false=(if bW (mNE t p g m) 0 p.h.length≠0 then bW (mNE t p g m) 0 p.h.length else if bW (mapEE p g m) 0 p.i.length≠0 then bW (mapEE p g m) 0 p.i.length else if false=true/\(¬ m.h.Nodup\/¬ m.i.Nodup) then 5 else 0):=by unfold matchE;rw [if_neg aD]
  have N:m.h.length=p.h.length:=aD;have M:m.i.length=p.i.length:=aD;refine wv (h:=aB (Dt t L) wl ?_);refine wo (h:=bA (λi e H=>(e 4=.adr t.c/\e 5=.adr p.c/\e 6=.adr g.c/\e 7=.adr m.c/\e 9=.list (tK t t.h.length)/\e 35=dLI m.h/\e 36=dI m.h.length/\e 37=dI i)/\(i<=m.h.length)/\(bW (mNE t p g m) i (p.h.length - i)=bW (mNE t p g m) 0 p.h.length)) (λi=>m.h.length - i) 0 ⟨wg,wi,(by rfl)⟩ λI0 D i e H A=>?_);obtain ⟨U,X,I⟩:=A;have Y:=wa Y U;refine dR (λv=>?_) λv=>?_
  .have hn:i<p.h.length:=aD;have a:=fR (mNE t p g m) hn;rw [I] at a;have f:mNE t p g m i=(if m.h[i]<0\/(g.h.length:Int)<=m.h[i] then 6 else if vO t p.h[i] (g.h[m.h[i].toNat]?.getD 0)=true then 0 else 13):=by simp only [mNE,aA v,aA hn,Option.getD_some]
   have s:=u.tp _ (aC hn);have Y:=xa2 Y v (aA v) (aA hn);refine eP (λR=>?_) λR=>?_
   .rw [if_pos aD] at f;rw [f,if_pos aD] at a;rw [a,if_pos aD] at hM;exact wv (h:=l _ _ (iq hM))
   .have hkb:m.h[i].toNat<g.h.length:=aD;rw [if_neg aD,aA hkb,Option.getD_some] at f;have B:=u.tg _ (aC hkb);have w:=Mi s;have x:=PV K s B;have Y:=xa2 Y (aA hkb) w x;refine eP (λE=>?_) λE=>?_
    .rw [if_neg (bY E)] at f;rw [f,if_pos aD] at a;rw [a,if_pos aD] at hM;exact wv (h:=l _ _ (iq hM))
    .rw [if_pos (bY E)] at f;rw [f,if_neg aD] at a;exact wo (h:=wx D (i+1) ⟨wg,wj,(by exact a.symm)⟩)
  .have hN0:bW (mNE t p g m) 0 p.h.length=0:=by rw [<- I,(aD:p.h.length - i=0)];rfl
   rw [hN0,if_neg aD] at hM;refine wo (h:=bA (λk e H=>(e 4=.adr t.c/\e 5=.adr p.c/\e 6=.adr g.c/\e 7=.adr m.c/\e 9=.list (tK t t.h.length)/\e 69=dLI m.i/\e 70=dI m.i.length/\e 71=dI k)/\(k<=m.i.length)/\(bW (mapEE p g m) k (p.i.length - k)=bW (mapEE p g m) 0 p.i.length)) (λk=>m.i.length - k) 0 ⟨wg,wi,(by rfl)⟩ λZ C k e H z=>?_);obtain ⟨T,W,J⟩:=z;have Y:=wa Y T;refine dR (λj=>?_) λj=>?_
   .have hn:k<p.i.length:=aD;have a:=fR (mapEE p g m) hn;rw [J] at a;have V:=y _ (aC hn);have q:p.i[k].w.toNat<m.h.length:=aD;have o:p.i[k].M.toNat<m.h.length:=aD;have b:mapEE p g m k=(if m.i[k]<0\/(g.i.length:Int)<=m.i[k] then 6 else if p.i[k].type≠(g.i[m.i[k].toNat]?.getD cH).type then 13 else if m.h[p.i[k].w.toNat]≠(g.i[m.i[k].toNat]?.getD cH).w\/m.h[p.i[k].M.toNat]≠(g.i[m.i[k].toNat]?.getD cH).M then 11 else 0):=by
     simp only [mapEE,aA j,aA hn,Option.getD_some,aA q,aA o]
    have Y:=xa4 Y j (aA j) (aA hn) (aA q) (aA o);refine eP (λG=>?_) λG=>?_
    .rw [if_pos aD] at b;rw [b,if_pos aD] at a;rw [a,if_pos aD] at hM;exact wv (h:=l _ _ (iq hM))
    .have hkb:m.i[k].toNat<g.i.length:=aD;rw [if_neg aD,aA hkb,Option.getD_some] at b;have Y:=wa Y (aA hkb);refine eP (λn=>?_) λn=>?_
     .rw [if_pos n] at b;rw [b,if_pos aD] at a;rw [a,if_pos aD] at hM;exact wv (h:=l _ _ (iq hM))
     .rw [if_neg (bY n)] at b;refine eP (λF=>?_) λF=>?_
      .rw [if_pos aD] at b;rw [b,if_pos aD] at a;rw [a,if_pos aD] at hM;exact wv (h:=l _ _ (iq hM))
      .rw [if_neg aD] at b;rw [b,if_neg aD] at a;exact wo (h:=wx C (k+1) ⟨wg,wj,(by exact a.symm)⟩)
   .have hE0:bW (mapEE p g m) 0 p.i.length=0:=by rw [<- J,(aD:p.i.length - k=0)];rfl
    rw [hE0,if_neg aD] at hM;rw [if_neg aE] at hM;exact wv (h:=l _ _ (iq hM))
/-! ### the finder -/
theorem La (i:Nat):Pua 403 [.nil,dI i] (dI (-1)):=by
 refine Tz.p0 func403 rfl λQ a Y=>?_;exact wv (h:=a _ _ wy)
theorem NR (l:V2){i:Nat}(h:i<l.length):Pua 403 [dLI l,dI i] (dI l[i]):=by
 have a:l≠[]:=λe=>by rw [e] at h;simp at h
 refine Tz.p0 func403 rfl λQ b _=>?_;have Y:=wa (aA h) a;exact wo (h:=b _ _ wy)
def GivD (d:D)(l:V2)(n:Nat):Prop:=d.Q=true/\∀ i,i<n->Pure prog 403 [d,dI i] (dI (l[i]?.getD (-1)))
theorem GivD.nil (n:Nat):GivD .nil (List.replicate n (-1)) n:=⟨rfl,λi hi=>by
 have:=La i;rw [qC,if_pos hi];exact this⟩
theorem GivD.list (l:V2):GivD (dLI l) l l.length:=⟨rA l,λi hi=>by rw [aA hi];exact NR l hi⟩
theorem NQ (k n:Int):Pua 421 [dI k,.adr [dI n]] (.bool (decide (k < -1)||decide (n<=k))):=by
 refine Tz.p0 func421 rfl λQ a Y=>?_;exact wo (h:=a _ _ wy)
theorem M8 {f:Nat->Int}{c:Int}(h:∀ j,f j=0\/f j=c):∀ n k,bW f k n=0\/bW f k n=c
 | 0,k=>.inl rfl
 | n+1,k=>by
  unfold bW;split
  .rename_i h1;exact .inr ((h k).resolve_left h1)
  .exact M8 h n (k+1)
theorem QM (l:V2)(n:Int):oX l n=if (l.any λk=>decide (k < -1)||decide (n<=k))=true then 6 else 0:=by
 by_cases h:(l.any λk=>decide (k < -1)||decide (n<=k))=true
 .rw [if_pos h];rcases M8 (f:=DU n l) (c:=6) (λj=>by unfold DU;split<;>simp) l.length 0 with h0|h0
  .obtain ⟨x,d,a⟩:=bF.1 h;obtain ⟨i,e,rfl⟩:=aO d;have:=eU _ _ h0 i aD aD;unfold DU at this;rw [aA e,Option.getD_some] at this;simp only [c8,decide_eq_true_eq] at a;rw [if_pos a] at this;cases this
  .exact h0
 .rw [if_neg h];refine iT _ _ λj _ g=>?_;unfold DU;rw [if_neg];intro a;have b:j<l.length:=aD;rw [aA b,Option.getD_some] at a;exact h (bF.2 ⟨_,aC b,by simpa using a⟩)
theorem F8 (l:V2)(n:Int):Pua 420 [dLI l,dI n] (dI (oX l n)):=by
 refine Tz.p0 func420 rfl λQ b Y=>?_;refine wv (h:=aB (iD l 421 [.adr [dI n]] (λk=>decide (k < -1)||decide (n<=k)) eq eq (λk _=>NQ k n)) wl ?_);refine dR (λa=>?_) λa=>?_
 .have hO:oX l n=6:=by rw [QM,if_pos (bY a)]
  exact wv (h:=b _ _ (iq hO))
 .have hO:oX l n=0:=by rw [QM,if_neg (bY a)]
  exact wv (h:=b _ _ (iq hO))
end Go.Abs
end
