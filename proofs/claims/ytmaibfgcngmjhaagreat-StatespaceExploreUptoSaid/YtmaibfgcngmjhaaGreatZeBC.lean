/- Layer 49, plain: the sorted arrows; the program's and the re -/
import Derived.Test.YtmaibfgcngmjhaaGreatZeBA
import Derived.Test.YtmaibfgcngmjhaaGreatZeBB
import Derived.Test.YtmaibfgcngmjhaaGreatZeAG
import Derived.Test.YtmaibfgcngmjhaaGreatZeAA
import Derived.Test.YtmaibfgcngmjhaaGreatZeAY
import Derived.Test.YtmaibfgcngmjhaaGreatZeAW
set_option linter.unusedVariables false
set_option linter.unusedSimpArgs false
section
set_option maxRecDepth 100000
set_option maxHeartbeats 4000000
open Go Go.Proofs Tryz
namespace Go.Abs
theorem JX (l:List Arr)(x:Arr):∀ k,k<=l.length->FP l x k<=k/\(∀ j,FP l x k<=j->j<k->0<s5 (Ka l x j) x)/\(0<FP l x k->¬ 0<s5 (Ka l x (FP l x k - 1)) x)
 | 0,_=>⟨aT _,λj h1 h2=>by omega,λh=>absurd h (j4 _)⟩
 | k+1,hk=>by
  obtain ⟨i1,i2,i3⟩:=JX l x k bL;by_cases hc:0<s5 (Ka l x k) x
  .have e:FP l x (k+1)=FP l x k:=if_pos hc;rw [e];refine ⟨bL,λj h1 h2=>?_,i3⟩;by_cases hj:j=k
   .rw [hj];exact hc
   .exact i2 j h1 bL
  .have e:FP l x (k+1)=k+1:=if_neg hc;rw [e];exact ⟨aT _,λj h1 h2=>by omega,λ_=>hc⟩
def NE (a b:Arr):Prop:=cJ a.key b.key<0
theorem xM {l:List Arr}{x:Arr}{j:Nat}(h:j<l.length):Ka l x j=l[j]:=by unfold Ka;rw [aA h];rfl
theorem Wq {A S:List Arr}{x:Arr}(g:∀ a∈A,s5 a x<0):rQ (A++S) x=A++rQ S x:=by
 have m:∀ k,k<=S.length->FP (A++S) x (A.length+k)=A.length+FP S x k:=λk=>by
  induction k with
  | zero =>
   intro _;show FP (A++S) x A.length=A.length;cases f:A.length with
   | zero=>rfl
   | succ n =>
    have c:n<A.length:=bL;have:Ka (A++S) x n=A[n]:=by rw [xM et,List.getElem_append_left c]
    exact if_neg (by rw [this];have:=g _ (aC c);omega)
  | succ k ih =>
   intro r;have e:Ka (A++S) x (A.length+k)=Ka S x k:=by
    rw [xM et,xM bL,List.getElem_append_right bL];congr 1;omega
   show (if 0<s5 (Ka (A++S) x (A.length+k)) x then FP (A++S) x (A.length+k) else A.length+k+1)=A.length+(if 0<s5 (Ka S x k) x then FP S x k else k+1);rw [e,ih bL];split<;>omega
 have l:=m S.length (aT _);have j:=(JX S x S.length (aT _)).1;obtain ⟨p,b⟩:=cY (FP S x S.length);unfold rQ;rw [aO,l,<- b];rw [<- b] at j;by_cases h:p=0
 .have f:¬ (0<A.length+p/\s5 (Ka (A++S) x (A.length+p - 1)) x=0):=λ⟨o,i⟩=>by
   have c:A.length - 1<A.length:=bL;have:Ka (A++S) x (A.length+p - 1)=A[A.length - 1]:=by
    rw [h,p7,xM et,List.getElem_append_left c]
   rw [this] at i;have:=g _ (aC c);omega
  rw [if_neg f,if_neg bL,h];simp
 .have e3:Ka (A++S) x (A.length+p - 1)=Ka S x (p - 1):=by
   rw [xM et,xM bL,List.getElem_append_right bL];congr 1;omega
  rw [e3];by_cases d:s5 (Ka S x (p - 1)) x=0
  .rw [if_pos ⟨bL,d⟩,if_pos ⟨bL,d⟩]
  .rw [if_neg (λq=>d q.2),if_neg (λq=>d q.2),vP,Ld];simp [aH]
theorem YX {a b:Arr}(ha:a.aj)(hb:b.aj):s5 a b<0↔NE a b:=(Ej ha hb).1
theorem IW {a b:Arr}:0<cJ a.key b.key↔NE b a:=by unfold NE;have:=j8 a.key b.key;omega
theorem WN {a b c:Arr}(h1:NE a b)(h2:NE b c):NE a c:=rA (by unfold NE at h1;omega) h2
theorem PF {S:List Arr}{x:Arr}(t:S.Pairwise NE)(s:∀ a∈S,a.aj)(o:x.aj) :
  ((∃ a∈S,cJ a.key x.key=0)->rQ S x=S)/\((¬ ∃ a∈S,cJ a.key x.key=0)->(rQ S x).Perm (x :: S)/\(rQ S x).Pairwise NE):=by
 obtain ⟨I,E,D⟩:=JX S x S.length (aT _);obtain ⟨p,i⟩:=cY (FP S x S.length);rw [<- i] at I E D;have z:∀ j (c:j<S.length),p<=j->NE x S[j]:=λj c u=>by
  have:=E j u c;rw [xM c] at this;exact IW.1 ((Ej (s _ (aC c)) o).2.1.1 this)
 have k:∀ (F:0<p),¬ NE x (S[p - 1]' bL):=λF r=>by
  have c:p - 1<S.length:=bL;have:=D F;rw [xM c] at this;exact this ((Ej (s _ (aC c)) o).2.1.2 (IW.2 r))
 have g:=cA.1 t;have f:rQ S x=if 0<p/\s5 (Ka S x (p - 1)) x=0 then S else S.take p++x :: S.drop p:=by unfold rQ;rw [<- i]
 constructor
 .rintro ⟨a,A,C⟩;obtain ⟨j,c,rfl⟩:=aM A;have y:j<p:=Nat.lt_of_not_le λr=>by
   have:=z j c r;unfold NE at this;have n:=j8 S[j].key x.key;omega
  have l:j=p - 1:=bE λr=>by
   have q:=g j (p - 1) c bL bL;have e:x.key=S[j].key:=(rB C).symm;exact k bL (by unfold NE at q ⊢;rw [e];exact q)
  rw [f,if_pos];refine ⟨bL,?_⟩;rw [xM bL];have:=(Ej (s _ (aC c)) o).2.2.2 C;simpa [<- l] using this
 .intro hno;have w:∀ j (c:j<S.length),j<p->NE S[j] x:=λj c y=>by
   have d:p - 1<S.length:=bL;have key:NE S[p - 1] x:=by
    have H:=k bL;have K:¬ cJ S[p - 1].key x.key=0:=λh=>hno ⟨_,aC d,h⟩;have G:=@IW S[p - 1] x;unfold NE at H G ⊢;omega
   by_cases e:j=p - 1
   .simpa [e] using key
   .exact WN (g j (p - 1) c d bL) key
  have v:¬ (0<p/\s5 (Ka S x (p - 1)) x=0):=λ⟨J,B⟩=>by
   have d:p - 1<S.length:=bL;rw [xM d] at B;exact hno ⟨_,aC d,(Ej (s _ (aC d)) o).2.2.1 B⟩
  rw [f,if_neg v];constructor
  .have:(x :: S).Perm (x :: (S.take p++S.drop p)):=by rw [List.take_append_drop]
   exact List.perm_middle.trans this.symm
  .rw [kA];refine ⟨t.sublist (List.take_sublist _ _),rI.2 ⟨λb hb=>?_,t.sublist (List.drop_sublist _ _)⟩,λa A b hb=>?_⟩
   .obtain ⟨j,c,rfl⟩:=aM hb;rw [HD];exact z _ _ bL
   .obtain ⟨j,c,rfl⟩:=aM A;rw [bT] at c;rw [mR];have m:=w j bL bL;rcases aP.1 hb with rfl|hb
    .exact m
    .obtain ⟨q,L,rfl⟩:=aM hb;rw [HD];exact WN m (z _ _ bL)
def zI (l:List Arr):List Arr:=l.foldl rQ []
theorem Lm (l:List Arr)(x:Arr):zI (l++[x])=rQ (zI l) x:=by simp [zI]
def Y9 (l:List Arr):Prop:=l.Pairwise λa b=>cJ a.key b.key≠0
theorem Dq:∀ (n:Nat) (l:List Arr),l.length=n->Y9 l->(∀ a∈l,a.aj)->(zI l).Perm l/\(zI l).Pairwise NE
 | 0,l,hn,_,_=>by rw [bI hn];exact ⟨.refl _,.nil⟩
 | n+1,l,hn,h1,h2=>by
  obtain ⟨k,x,rfl⟩:∃ k x,l=k++[x]:=⟨l.dropLast,l.getLast (by intro h;rw [h] at hn;cases hn),(List.dropLast_concat_getLast _).symm⟩;have hk:k.length=n:=by simp at hn;exact hn
  have h1':=kA.1 h1;obtain ⟨p1,p2⟩:=Dq n k hk h1'.1 λa ha=>h2 a (fg ha);have hS:∀ a∈zI k,a.aj:=λa ha=>h2 a (by simp [p1.subset ha]);obtain ⟨q1,q2⟩:=(PF p2 hS (h2 x bS)).2 λ⟨a,ha,hc⟩=>h1'.2.2 a (p1.subset ha) x bS hc;rw [Lm];exact ⟨q1.trans ((List.Perm.cons x p1).trans (List.perm_append_singleton x k).symm),q2⟩
theorem Ye {l d:List Arr}(p:Y9 l)(u:∀ a∈l,a.aj)(k:d.Perm l)(r:d.Pairwise λa b=>¬ cJ b.key a.key<0):d=zI l:=by
 obtain ⟨g,q⟩:=Dq l.length l rfl p u;refine HE (le:=λa b=>¬ cJ b.key a.key<0) (λa b t s w v=>?_) r (q.imp λ {a b} h x=>?_) (k.trans g.symm)
 .have hz:cJ a.key b.key=0:=by have:=j8 a.key b.key;omega
  have f:=k.subset t;have e:=g.subset s;have c:=cA.1 p;obtain ⟨i,o,rfl⟩:=aM f;obtain ⟨j,m,rfl⟩:=aM e;rcases Nat.lt_trichotomy i j with h|h|h
  .exact absurd hz (c i j o m h)
  .subst h;rfl
  .have:=c j i m o h;have n:=j8 l[i].key l[j].key;exact absurd bL this
 .unfold NE at h;have:=j8 a.key b.key;omega
def TJ (x y:XS):XS:=⟨y.A,x.M++zI y.M,y.all⟩
def qV (t:Types)(rs:List Rule)(most:Int)(i:Nat)(x:XS):XS × Int :=
 if (jJ t (Vu x.A i) 0 rs).2≠0 then (x,(jJ t (Vu x.A i) 0 rs).2) else (TJ x (Rb t rs (Vu x.A i) most i x),0)
def uW (t:Types)(rs:List Rule)(most:Int):Nat->Nat->XS->XS × Int
 | 0,_,x=>(x,0)
 | n+1,i,x=>if i<x.A.length then (if (qV t rs most i x).2≠0 then qV t rs most i x else uW t rs most n (i+1) (qV t rs most i x).1) else (x,0)
theorem Tt (l:List Host)(h:Host) : -1<=AB l h/\AB l h<l.length:=by
 unfold AB Bk;split
 .rename_i k hk;have:=(gS.1 hk).1;omega
 .omega
structure XG (most:Int) (i:Nat) (x:XS):Prop where
 hl:(x.A.length:Int)<=most
 ne:Y9 x.M
 fr:∀ a∈x.M,a.from_=i/\a.aj
theorem XG.put {most:Int}{i:Nat}{x:XS}(h:XG most i x)(d:List Host)(f:(d.length:Int)<=most)(a:Arr)(j:a.from_=i/\a.aj):XG most i (zU x d a):=by
 unfold zU;split
 .exact ⟨f,h.ne,h.fr⟩
 .rename_i hn;refine ⟨f,?_,λb hb=>?_⟩
  .show Y9 (x.M++[a]);refine kA.2 ⟨h.ne,by simp,λb hb c g e=>?_⟩;rw [aX.1 g] at e;refine hn (aZ.2 ⟨b,hb,?_⟩);unfold AV;rw [rB e,iG];rfl
  .rcases aQ.1 hb with hb|hb
   .exact h.fr b hb
   .rw [aX.1 hb];exact j
theorem XG.step {most:Int}{i:Nat}{x:XS}(h:XG most i x)(c:most<=300)(d:i<=300)(v:Vis)(a:0<=v.V/\v.V<=1000000):XG most i (kY most i x v):=by
 have b:=Tt x.A v.az;have hl:=h.hl;unfold kY;split
 .exact ⟨h.hl,h.ne,h.fr⟩
 .rename_i hn;split
  .rename_i hk;refine h.put _ (by simp only [aO,AJ];have:¬ (x.A.length:Int)=most:=λq=>hn ⟨hk,q⟩;omega) _ ⟨rfl,⟨?_,?_⟩,a,?_,?_⟩;all_goals simp only;omega
  .refine h.put _ hl _ ⟨rfl,⟨?_,?_⟩,a,?_,?_⟩;all_goals simp only;omega
theorem Uf {most:Int}{i:Nat}(hm:most<=300)(hi:i<=300):∀ (vs:List Vis) (x:XS),XG most i x->(∀ v∈vs,0<=v.V/\v.V<=1000000)->XG most i (vs.foldl (kY most i) x)
 | [],x,h,_=>h
 | v :: vs,x,h,hv=>Uf hm hi vs _ (h.step hm hi v (hv v bS)) λw hw=>hv w (fg hw)
theorem EL {t:Types}{r:Rule}{h:Host}{i:Int}:∀ l:List Mat,∀ v∈(nG t r h i l).1,v.V=i
 | [],v,hv=>by simp [nG] at hv
 | m :: l,v,hv=>by
  simp only [nG] at hv;split at hv
  .cases hv
  .split at hv
   .cases hv
   .rcases aP.1 hv with rfl|hv
    .rfl
    .exact EL l v hv
theorem EM {t:Types}{h:Host}:∀ (rs:List Rule) (k:Nat),∀ v∈(jJ t h k rs).1,(k:Int)<=v.V/\v.V<((k+rs.length:Nat):Int)
 | [],k,v,hv=>by simp [jJ] at hv
 | r :: l,k,v,hv=>by
  simp only [jJ] at hv;have e:(k+(r :: l).length:Nat)=k+1+l.length:=by simp;omega
  rw [e];split at hv
  .cases hv
  .split at hv
   .have:=EL _ v hv;omega
   .rcases aQ.1 hv with hv|hv
    .have:=EL _ v hv;omega
    .have:=EM l (k+1) v hv;omega
theorem Tb {t:Types}{rs:List Rule}{hh:Host}{most:Int}{i:Nat}{x:XS}(hm:most<=300)(hi:i<=300)(hr:rs.length<=10)(hl:(x.A.length:Int)<=most):XG most i (Rb t rs hh most i x) :=
 Uf hm hi _ _ ⟨hl,.nil,λa ha=>by cases ha⟩ λv hv=>by have:=EM rs 0 v hv;omega
theorem Wb {most:Int}{i:Nat}{A:List Arr}{r x:XS}{v:Vis}(p:∀ a∈A,a.from_<i/\a.aj)(f:XG most i x)(t:most<=300)(u:i<=300)(j:0<=v.V/\v.V<=1000000)
  (q:r.A=x.A) (m:r.all=x.all) (l:r.M=A++zI x.M):(tD most i r v).A=(kY most i x v).A/\(tD most i r v).all=(kY most i x v).all/\(tD most i r v).M=A++zI (kY most i x v).M:=by
 have s:=Tt x.A v.az;have hl:=f.hl;have key:∀ (k:List Host) (a:Arr),a.from_=i/\a.aj->rQ r.M a=A++zI (zU x k a).M:=λk a g=>by
  obtain ⟨h,n⟩:=Dq _ x.M rfl f.ne λb c=>(f.fr b c).2;have o:∀ b∈zI x.M,b.aj:=λb c=>(f.fr b (h.subset c)).2;rw [l,Wq λb c=>by
   have c:=p b c;refine (YX c.2 g.2).2 ?_;have e:b.from_<a.from_:=by rw [g.1];exact c.1
   unfold NE Arr.key cJ;rw [if_pos e];decide]
  congr 1;unfold zU;simp only;split
  .rename_i d;obtain ⟨b,c,d⟩:=aZ.1 d;unfold AV at d;have d:cJ a.key b.key=0:=by simpa using d
   exact (PF n o g.2).1 ⟨b,h.symm.subset c,by have:=j8 a.key b.key;omega⟩
  .exact (Lm _ _).symm
 unfold tD kY;rw [q];split
 .exact ⟨rfl,rfl,l⟩
 .split
  .refine ⟨rfl,m,key _ _ ⟨rfl,⟨?_,?_⟩,j,?_,?_⟩⟩;all_goals simp only;omega
  .refine ⟨rfl,m,key _ _ ⟨rfl,⟨?_,?_⟩,j,?_,?_⟩⟩;all_goals simp only;omega
theorem Qp {most:Int}{i:Nat}{A:List Arr}(hA:∀ a∈A,a.from_<i/\a.aj)(hm:most<=300)(hi:i<=300):∀ (vs:List Vis) (r x:XS),XG most i x->(∀ v∈vs,0<=v.V/\v.V<=1000000) ->
  r.A=x.A->r.all=x.all->r.M=A++zI x.M->vs.foldl (tD most i) r=⟨(vs.foldl (kY most i) x).A,A++zI (vs.foldl (kY most i) x).M,(vs.foldl (kY most i) x).all⟩
 | [],r,x,_,_,e1,e2,e3=>by obtain ⟨a,b,c⟩:=r;simp only at e1 e2 e3;subst e1 e2 e3;rfl
 | v :: vs,r,x,hx,hv,e1,e2,e3=>by
  obtain ⟨q1,q2,q3⟩:=Wb hA hx hm hi (hv v bS) e1 e2 e3;exact Qp hA hm hi vs _ _ (hx.step hm hi v (hv v bS)) (λw hw=>hv w (fg hw)) q1 q2 q3
def VY (e:Int):Prop:=e=0\/e=3
theorem C9 {t:Types}{r:Rule}{h:Host}{m:Mat}(b:r.ok)(c:m∈(iS t r h).1):nT t r h m=0/\VY (lR t (uZ t r h m)):=by
 have a:=XF c;have S:=La b a;have e:uZ t r h m=xO t r h m:=by unfold uZ pE;rw [if_pos a];rfl
 refine ⟨a,?_⟩;rw [e];unfold lR VY;rw [if_neg (by rw [S.after];simp)];split
 .exact .inr rfl
 .exact .inl rfl
theorem LU {t:Types}{r:Rule}{h:Host}{m:Mat}(b:r.ok)(c:m∈(iS t r h).1):KO t r h m=lR t (uZ t r h m)/\Ha t r h m=pI t (uZ t r h m):=by
 obtain ⟨a,_⟩:=C9 b c;exact ⟨if_neg (by rw [a];simp),by rw [T0,if_neg (by rw [a];simp)]⟩
theorem OA {t:Types}{r:Rule}{h:Host}{i:Int}(hr:r.ok):∀ l:List Mat,(∀ m∈l,m∈(iS t r h).1) ->
  VY (nG t r h i l).2/\((nG t r h i l).2=0↔∀ m∈l,KO t r h m=0)/\((nG t r h i l).2=0->(nG t r h i l).1=l.map λm=>⟨i,m,Ha t r h m⟩)
 | [],_=>by simp [nG,VY]
 | m :: l,hl=>by
  obtain ⟨i1,i2,i3⟩:=OA (i:=i) hr l λm hm=>hl m (fg hm);obtain ⟨h0,h3⟩:=C9 hr (hl m bS);obtain ⟨q1,q2⟩:=LU hr (hl m bS);simp only [nG];rw [if_neg (by rw [h0];simp)];by_cases hc:lR t (uZ t r h m)=0
  .rw [if_neg (by rw [hc];simp)];refine ⟨i1,⟨λe m' hm'=>?_,λe=>i2.2 λm' hm'=>e m' (fg hm')⟩,λe=>?_⟩
   .rcases aP.1 hm' with rfl|hm'
    .rw [q1,hc]
    .exact i2.1 e m' hm'
   .show (_ :: _)=_;rw [i3 e,gA,q2]
  .rw [if_pos hc];refine ⟨h3,⟨λe=>absurd e hc,λe=>?_⟩,λe=>absurd e hc⟩;have:=e m bS;rw [q1] at this;exact this
theorem RD (a:List Rule)(r:Rule)(l:List Rule):CP (a++r :: l) (a.length:Nat)=r:=by
 unfold CP;rw [Int.toNat_natCast];simp
theorem OC {t:Types}{rs0:List Rule}{h:Host}(hh:dH t h=0):∀ (l pre:List Rule),rs0=pre++l->(∀ r∈l,r.ok/\ruleF t r=0) ->
  VY (jJ t h pre.length l).2/\VY (jB t h pre.length l).2/\(∀ m∈(jB t h pre.length l).1,VY (R5 t rs0 h m)) /\
   ((jJ t h pre.length l).2=0↔(jB t h pre.length l).2=0/\∀ m∈(jB t h pre.length l).1,R5 t rs0 h m=0)/\((jJ t h pre.length l).2=0->(jJ t h pre.length l).1=(jB t h pre.length l).1.map (Zp t rs0 h))
 | [],pre,_,_=>by simp [jJ,jB,VY]
 | r :: l,pre,hrs,hok=>by
  have hr:=hok r bS;have ih:=OC (rs0:=rs0) hh l (pre++[r]) (by rw [hrs];simp) λr hr=>hok r (fg hr);rw [show (pre++[r]).length=pre.length+1 by simp] at ih;obtain ⟨i1,i2,i3,i4,i5⟩:=ih;have ha:=Vf hr.1 hr.2 hh;obtain ⟨m1,m2,m3⟩:=OA (i:=(pre.length:Nat)) hr.1 (iS t r h).1 λm hm=>hm;have hra:CP rs0 (pre.length:Nat)=r:=by rw [hrs];exact RD pre r l
  have hme:∀ m:Mat,R5 t rs0 h ⟨(pre.length:Nat),m⟩=KO t r h m:=λm=>by unfold R5;rw [hra]
  have hmv:∀ m:Mat,Zp t rs0 h ⟨(pre.length:Nat),m⟩=⟨(pre.length:Nat),m,Ha t r h m⟩:=λm=>by unfold Zp;rw [hra]
  have he3:∀ m∈(iS t r h).1,VY (KO t r h m):=λm hm=>by rw [(LU hr.1 hm).1];exact (C9 hr.1 hm).2
  by_cases c1:(iS t r h).2=0
  .have ep1:jB t h pre.length (r :: l)=if (jB t h (pre.length+1) l).2≠0 then ([],(jB t h (pre.length+1) l).2) else ((iS t r h).1.map (λm=>⟨(pre.length:Nat),m⟩)++(jB t h (pre.length+1) l).1,0):=by
    simp only [jB];rw [if_neg (by rw [c1];simp)]
   have ev1:jJ t h pre.length (r :: l)=if (nG t r h (pre.length:Nat) (iS t r h).1).2≠0 then (nG t r h (pre.length:Nat) (iS t r h).1) else ((nG t r h (pre.length:Nat) (iS t r h).1).1++(jJ t h (pre.length+1) l).1,(jJ t h (pre.length+1) l).2):=by
    simp only [jJ];rw [if_neg (by rw [c1];simp)]
   by_cases c2:(nG t r h (pre.length:Nat) (iS t r h).1).2=0
   .rw [if_neg (by rw [c2];simp)] at ev1;by_cases c3:(jB t h (pre.length+1) l).2=0
    .rw [if_neg (by rw [c3];simp)] at ep1;rw [ev1,ep1];refine ⟨i1,.inl rfl,λm hm=>?_,⟨λe=>⟨rfl,λm hm=>?_⟩,λe=>i4.2 ⟨c3,λm hm=>e.2 m (List.mem_append_right _ hm)⟩⟩,λe=>?_⟩
     .rcases aQ.1 hm with hm|hm
      .obtain ⟨a,ha',rfl⟩:=aS.1 hm;rw [hme];exact he3 a ha'
      .exact i3 m hm
     .rcases aQ.1 hm with hm|hm
      .obtain ⟨a,ha',rfl⟩:=aS.1 hm;rw [hme];exact m2.1 c2 a ha'
      .exact (i4.1 e).2 m hm
     .show _++_=_;rw [m3 c2,i5 e,List.map_append,List.map_map];congr 1;exact bY λm _=>(hmv m).symm
    .rw [if_pos c3] at ep1;rw [ev1,ep1];refine ⟨i1,i2,(λm hm=>by cases hm),⟨λe=>absurd (i4.1 e).1 c3,λe=>absurd e.1 c3⟩,λe=>absurd (i4.1 e).1 c3⟩
   .rw [if_pos c2] at ev1;by_cases c3:(jB t h (pre.length+1) l).2=0
    .rw [if_neg (by rw [c3];simp)] at ep1;rw [ev1,ep1];refine ⟨m1,.inl rfl,λm hm=>?_,⟨λe=>absurd e c2,λe=>?_⟩,λe=>absurd e c2⟩
     .rcases aQ.1 hm with hm|hm
      .obtain ⟨a,ha',rfl⟩:=aS.1 hm;rw [hme];exact he3 a ha'
      .exact i3 m hm
     .exact absurd (m2.2 λa ha'=>by rw [<- hme a];exact e.2 _ (List.mem_append_left _ (aS.2 ⟨a,ha',rfl⟩))) c2
    .rw [if_pos c3] at ep1;rw [ev1,ep1];exact ⟨m1,i2,(λm hm=>by cases hm),⟨λe=>absurd e c2,λe=>absurd e.1 c3⟩,λe=>absurd e c2⟩
  .have ep:jB t h pre.length (r :: l)=([],(iS t r h).2):=by simp only [jB];rw [if_pos c1]
   have ev:jJ t h pre.length (r :: l)=([],(iS t r h).2):=by simp only [jJ];rw [if_pos c1]
   rw [ev,ep];exact ⟨ha,ha,(λm hm=>by cases hm),⟨λe=>absurd e c1,λe=>absurd e.1 c1⟩,λe=>absurd e c1⟩
theorem OY {t:Types}{rs:List Rule}{h:Host}{most i:Int}:∀ (l:List Mv) (x:XS),(∀ m∈l,VY (R5 t rs h m)) ->
  VY (CO t rs h most i l x).2/\((CO t rs h most i l x).2=0↔∀ m∈l,R5 t rs h m=0)/\((CO t rs h most i l x).2=0->(CO t rs h most i l x).1=(l.map (Zp t rs h)).foldl (tD most i) x)
 | [],x,_=>by simp [CO,VY]
 | m :: l,x,hl=>by
  obtain ⟨i1,i2,i3⟩:=OY (most:=most) (i:=i) l (tD most i x (Zp t rs h m)) λm hm=>hl m (fg hm);simp only [CO];by_cases c:R5 t rs h m=0
  .rw [if_neg (by rw [c];simp)];refine ⟨i1,⟨λe m' hm'=>?_,λe=>i2.2 λm' hm'=>e m' (fg hm')⟩,λe=>by rw [i3 e];rfl⟩;rcases aP.1 hm' with rfl|hm'
   .exact c
   .exact i2.1 e m' hm'
  .rw [if_pos c];exact ⟨hl m bS,⟨λe=>absurd e c,λe=>e m bS⟩,λe=>absurd e c⟩
theorem E9 {t:Types}{rs:List Rule}(h:fJ t rs=0):(cW t).2=0/\rs.length<=10/\∀ r∈rs,ruleF t r=0:=by
 unfold fJ at h;split at h
 .contradiction
 .rename_i h1;split at h
  .cases h
  .refine ⟨by simpa using h1,bL,?_⟩;have b:∀ l:List Rule,kL t l=0->∀ r∈l,ruleF t r=0:=λl=>by
    induction l with
    | nil=>intro _ r hr;cases hr
    | cons a l ih =>
     intro c r hr;unfold kL at c;split at c
     .contradiction
     .rename_i h2;rcases aP.1 hr with rfl|hr
      .simpa using h2
      .exact ih c r hr
   exact b rs h
theorem WA {t:Types}{rs:List Rule}(m:∀ r∈rs,r.ok)(J:fJ t rs=0){most:Int}{i:Nat}{x:XS}(E:most<=300)(G:i<=300)(F:(x.A.length:Int)<=most)(I:∀ a∈x.M,a.from_<i/\a.aj) :
  (wJ t rs most i x).2=(qV t rs most i x).2/\((qV t rs most i x).2=0->(wJ t rs most i x).1=(qV t rs most i x).1):=by
 obtain ⟨w,y,g⟩:=E9 J;obtain ⟨h,H⟩:=cY (Vu x.A i);unfold wJ qV;rw [<- H];by_cases b:dH t h=0
 .obtain ⟨q,p,o,j,n⟩:=OC (rs0:=rs) b rs [] rfl λr z=>⟨m r z,g r z⟩;simp only [i6] at q p o j n;obtain ⟨D,s,C⟩:=OY (most:=most) (i:=(i:Int)) (jB t h 0 rs).1 x o;by_cases c:(jJ t h 0 rs).2=0
  .obtain ⟨f,L⟩:=j.1 c;have B:=s.2 L;rw [if_neg (by rw [f];simp),if_neg (by rw [c];simp)];refine ⟨B,λ_=>?_⟩;rw [C B,<- n c];exact Qp I E G _ x ⟨x.A,[],x.all⟩ ⟨F,.nil,λa d=>by cases d⟩ (λv w=>by have:=EM rs 0 v w;omega) rfl rfl (by simp [zI])
  .rw [if_pos c];refine ⟨?_,λe=>absurd e c⟩;have K:(jJ t h 0 rs).2=3:=q.resolve_left c;show _=(jJ t h 0 rs).2;rw [K];by_cases f:(jB t h 0 rs).2=0
   .rw [if_neg (by rw [f];simp)];exact D.resolve_left λe=>c (j.2 ⟨f,s.1 e⟩)
   .rw [if_pos f];exact p.resolve_left f
 .cases rs with
  | nil=>simp [jJ,jB,CO,TJ,Rb,zI]
  | cons r l =>
   have A:fU t r h=dH t h:=by unfold fU;rw [if_neg (by rw [g r bS];simp)]
   have d:(iS t r h).2=dH t h:=by unfold iS;rw [if_pos (by rw [A];exact b)];exact A
   have k:(jJ t h 0 (r :: l)).2=dH t h:=by simp only [jJ];rw [if_pos (by rw [d];exact b)];exact d
   have u:(jB t h 0 (r :: l)).2=dH t h:=by simp only [jB];rw [if_pos (by rw [d];exact b)];exact d
   rw [if_pos (by rw [u];exact b),if_pos (by rw [k];exact b)];exact ⟨u.trans k.symm,λe=>absurd (k.symm.trans e) b⟩
theorem WB {t:Types}{rs:List Rule}(h:fJ t rs=0){most:Int}{i:Nat}{x:XS}(e:most<=300)(f:i<=300)(hl:(x.A.length:Int)<=most)(d:∀ a∈x.M,a.from_<i/\a.aj) :
  ((qV t rs most i x).1.A.length:Int)<=most/\∀ a∈(qV t rs most i x).1.M,a.from_<((i+1:Nat):Int)/\a.aj:=by
 have c:∀ a∈x.M,a.from_<((i+1:Nat):Int)/\a.aj:=λa ha=>⟨by have:=(d a ha).1;omega,(d a ha).2⟩;unfold qV;split
 .exact ⟨hl,c⟩
 .have X:=Tb (t:=t) (rs:=rs) (hh:=Vu x.A i) e f (E9 h).2.1 hl;refine ⟨X.hl,λa ha=>?_⟩;rcases aQ.1 ha with ha|ha
  .exact c a ha
  .have p:=(Dq _ _ rfl X.ne λb g=>(X.fr b g).2).1;have:=X.fr a (p.subset ha);exact ⟨by rw [this.1];omega,this.2⟩
theorem P4 {t:Types}{rs:List Rule}(hok:∀ r∈rs,r.ok)(h0:fJ t rs=0){most:Int}(hm:most<=300):∀ (n i:Nat) (x:XS),(x.A.length:Int)<=most->(∀ a∈x.M,a.from_<i/\a.aj) ->
  (wM t rs most n i x).2=(uW t rs most n i x).2/\((uW t rs most n i x).2=0->(wM t rs most n i x).1=(uW t rs most n i x).1)
 | 0,_,_,_,_=>⟨rfl,λ_=>rfl⟩
 | n+1,i,x,hl,hA=>by
  simp only [wM,uW];by_cases hi:i<x.A.length
  .rw [if_pos hi,if_pos hi];obtain ⟨q1,q2⟩:=WA hok h0 (i:=i) (x:=x) hm bL hl hA;obtain ⟨p1,p2⟩:=WB h0 (i:=i) (x:=x) hm bL hl hA;rw [q1];by_cases c:(qV t rs most i x).2=0
   .rw [if_neg (by rw [c];simp),if_neg (by rw [c];simp),q2 c];exact P4 hok h0 hm n (i+1) _ p1 p2
   .rw [if_pos c,if_pos c];exact ⟨q1,λe=>absurd e c⟩
  .rw [if_neg hi,if_neg hi];exact ⟨rfl,λ_=>rfl⟩
def rG (t:Types)(rs:List Rule)(h:Host)(most:Int):XS × Int :=
 if fJ t rs≠0 then (⟨[],[],false⟩,fJ t rs) else if dH t h≠0 then (⟨[],[],false⟩,dH t h) else if most<1\/300<most then (⟨[],[],false⟩,6) else if lR t h≠0 then (⟨[],[],false⟩,lR t h)
 else if (uW t rs most most.toNat 0 ⟨[vC h],[],true⟩).2≠0 then (⟨[],[],false⟩,(uW t rs most most.toNat 0 ⟨[vC h],[],true⟩).2) else ((uW t rs most most.toNat 0 ⟨[vC h],[],true⟩).1,0)
theorem abB {t:Types}{rs:List Rule}(b:∀ r∈rs,r.ok)(h:Host)(most:Int):AE t rs h most=rG t rs h most:=by
 unfold AE rG;split
 .rfl
 .rename_i h0;split
  .rfl
  .split
   .rfl
   .rename_i h2;split
    .rfl
    .obtain ⟨d,c⟩:=P4 b (cG h0) (most:=most) bL most.toNat 0 ⟨[vC h],[],true⟩ et (λa e=>by cases e);rw [d];split
     .rfl
     .rename_i h4;rw [c (cG h4)]
theorem Sc {t:Types}{rs:List Rule}{most:Int}{n i:Nat}{x:XS}(h:i<x.A.length):uW t rs most (n+1) i x=if (qV t rs most i x).2≠0 then qV t rs most i x else uW t rs most n (i+1) (qV t rs most i x).1:=by
 show (if i<x.A.length then _ else _)=_;rw [if_pos h]
theorem Vh {t:Types}{rs:List Rule}{most:Int}{n i:Nat}{x:XS}(h:¬ i<x.A.length):uW t rs most n i x=(x,0):=by
 cases n with
 | zero=>rfl
 | succ n=>show (if i<x.A.length then _ else _)=_;rw [if_neg h]
theorem Qm {H:AHeap}{id i a ty sz j:Nat}(h:(qE H id i a ty sz).J j):j=H.next\/H.J j:=by
 unfold qE at h;split at h
 .exact h
 .exact .inr h
theorem Mh (most i:Int):∀ (vs:List Vis) (x:XS),x.A.length<=(vs.foldl (kY most i) x).A.length
 | [],x=>aT _
 | v :: l,x=>by
  refine dA ?_ (Mh most i l (kY most i x v));unfold kY;split
  .exact aT _
  .split
   .show x.A.length<=(x.A++[v.az]).length;simp
   .exact aT _
theorem uM (t:Types)(ht:t.ok)(rs:List Rule)(P:∀ r∈rs,r.ok)(h:Host)(most:Int):Pua 6 [t.d,.list (rs.map Rule.c),h.d,dI most] (.tup [(rG t rs h most).1.d,.bool (rG t rs h most).1.all,dI (rG t rs h most).2]):=by
 refine uT em (λQ L=>ACalls.b0 100 (Tz.cK ⟨λt=>t==8||t==14||t==15||t==17||t==18||t==19||t==20||t==58||t==75||t==85,λr=>match r with|25=>[(1,2)]|_=>[]⟩ func6 rfl ?_));have Y:=xa3 @Host.d.eq_1 @Host.c.eq_1 @XS.d.eq_1 @Arr.c.eq_1 @Arr.d.eq_1;refine wv (h:=aB (Az t ht rs P) wl ?_);refine dD (λh2=>?_) λh2=>?_
 .have k:rG t rs h most=(⟨[],[],false⟩,fJ t rs):=by unfold rG;rw [if_pos (cG h2)]
  refine wv (h:=?_);exact L _ _ (by simp [go_sem,k,Y,lA,gI])
 .have z1:fJ t rs=0:=by simpa using h2
  have D:rs.length<=10:=(E9 z1).2.1;refine wv (h:=aB (rU t ht h) wl ?_);refine dD (λh5=>?_) λh5=>?_
  .have k:rG t rs h most=(⟨[],[],false⟩,dH t h):=by unfold rG;rw [if_neg (fg z1),if_pos (by unfold dH;simpa using h5)]
   refine wv (h:=?_);exact L _ _ (by simp [go_sem,k,Y,lA,gI,dH])
  .have z2:dH t h=0:=by unfold dH;simpa using h5
   refine jH (λh7=>?_) λh7=>?_
   .have k:rG t rs h most=(⟨[],[],false⟩,6):=by unfold rG;rw [if_neg (fg z1),if_neg (fg z2),if_pos (by first|exact h7|omega)]
    refine wv (h:=?_);exact L _ _ (by simp [go_sem,k,Y,lA,gI])
   .have z3:¬ (most<1\/300<most):=by first|exact h7|omega
    refine wv (h:=aB (Bm t ht h) wl ?_);refine dD (λJ=>?_) λJ=>?_
    .have k:rG t rs h most=(⟨[],[],false⟩,lR t h):=by unfold rG;rw [if_neg (fg z1),if_neg (fg z2),if_neg z3,if_pos (cG J)]
     refine wv (h:=?_);exact L _ _ (by simp [go_sem,k,Y,lA,gI])
    .have z4:lR t h=0:=by simpa using J
     have a9:pI t h=vC h:=by unfold pI;rw [if_neg (fg z4)]
     obtain ⟨R,hR⟩:=cY (uW t rs most most.toNat 0 ⟨[vC h],[],true⟩);have k:rG t rs h most=if R.2≠0 then (⟨[],[],false⟩,R.2) else (R.1,0):=by unfold rG;rw [if_neg (fg z1),if_neg (fg z2),if_neg z3,if_neg (fg z4),hR]
     have Y:=wa Y a9;refine wv (h:=o8 (Ghosts.step (Ghosts.refl _) 104 0 1 81 6 _ _ ((by simp [go_sem]:AHeap.get _ _=some ⟨41,2,[[.own 103 1,.nil]],false⟩)) rfl rfl rfl) (λi e H=>∃ x:XS,∃ n:Nat,∃ q:Nat,(e 4=.adr t.c/\e 6=.adr h.c/\e 1=.list (rs.map Rule.c)/\e 7=.adr [dI most]/\e 8=.ptr 100 1 0 0/\e 17=.ptr 104 1 0 0/\e 18=.ptr 105 1 0 0/\e 19=.ptr n 1 0 0)/\(H.get 100=some ⟨41,2,[[.nil,.nil]],false⟩)/\(100<H.next)/\(H.get 104=some ⟨41,2,[[.own 103 x.A.length,.own 107 x.M.length]],false⟩)/\(104<H.next)/\(H.get 103=some ⟨33,3,x.A.map Host.c,false⟩)/\(103<H.next)/\(H.get 107=some ⟨81,6,x.M.map Arr.c,false⟩)/\(107<H.next)/\(H.get 105=some ⟨4,1,[[.bool x.all]],false⟩)/\(105<H.next)/\(H.get n=some ⟨3,1,[[dI i]],false⟩)/\(n<H.next)/\((x.A.length:Int)<=most)/\(x.M.length<=50000 * i)/\(i<=x.A.length)/\(uW t rs most (most.toNat - i) i x=R)/\(q<H.next)/\(¬ H.J q)/\(∀ j,H.J j->j<H.next)/\(q≠100/\q≠103/\q≠104/\q≠105/\q≠107/\q≠n)/\(105<n/\n≠107/\n<H.next)) (λi=>most.toNat - i) 0 ⟨(⟨[vC h],[],true⟩),106,0,wg,wn,wn,wn,wn,wn,wn,wn,wn,wn,wn,wn,wn,et,(by simp),(by simp),(by rw [hR];rfl),eh,(by intro hj;have hj:=Qm hj;simp [go_sem,gP,jQ,pJ,BD] at hj),(by intro j hj;have hj:=Qm hj;simp [go_sem,gP,jQ,pJ,BD] at hj ⊢;omega),(by simp),eh⟩ λI0 b2 i e H a8=>?_);obtain ⟨x,n,q,E0,C,u,A,p,B,s,v,m,w,o,Z,M,a2,b6,hi,hL,a3,a4,S,b5,a6⟩:=a8;have Y:=xa1 Y E0 (xb0 C (bU u) A (bU p) B (bU s) v (bU m) w (bU o) Z (bU M));refine jH (λg=>?_) λg=>?_
     .obtain ⟨U,T⟩:=cY (x.A[i]);have b0:Vu x.A i=U:=by unfold Vu;rw [aA g,T];rfl
      obtain ⟨V,W⟩:=cY (jJ t U 0 rs);obtain ⟨y,K⟩:=cY (Rb t rs U most i x);have b7:V.1.length<=50000:=by rw [W];have:=HI (t:=t) (h:=U) rs 0;omega
      have X:XG most i y:=by rw [K];exact Tb bL bL D a2
      have b3:y.M.length<=50000:=by
       rw [K];have:=(Fv most i V.1 ⟨x.A,[],x.all⟩).2;unfold Rb;rw [<- W];simp only [i6] at this;omega
      have b4:x.A.length<=y.A.length:=by rw [K];exact Mh most i _ ⟨x.A,[],x.all⟩
      have O:(zI y.M).length=y.M.length:=(Dq _ _ rfl X.ne λb hb=>(X.fr b hb).2).1.length_eq;have F:qV t rs most i x=if V.2≠0 then (x,V.2) else (TJ x y,0):=by unfold qV;rw [b0,<- W,K]
      obtain ⟨z,hz⟩:=cY (TJ x y);have E:z.A=y.A:=by rw [hz];rfl
      have N:z.M=x.M++zI y.M:=by rw [hz];rfl
      have a1:z.all=y.all:=by rw [hz];rfl
      have a0:(z.A.length:Int)<=most:=by rw [E];exact X.hl
      have f:uW t rs most (most.toNat - i) i x=if (qV t rs most i x).2≠0 then qV t rs most i x else uW t rs most (most.toNat - (i+1)) (i+1) (qV t rs most i x).1:=by
       rw [show most.toNat - i=(most.toNat - (i+1))+1 by omega];exact Sc g
      rw [hL] at f;have d0:=bU a3;have d1:=b8 (a:=q) (b:=100) bL;have d2:=b8 (a:=q) (b:=103) bL;have d3:=b8 (a:=q) (b:=104) bL;have d4:=b8 (a:=q) (b:=105) bL;have d5:=b8 (a:=q) (b:=107) bL;have d6:=b8 (a:=q) (b:=n) bL;have d7:=Yy H.next;have d8:=b8 (a:=n) (b:=103) bL;have d9:=b8 (a:=n) (b:=104) bL;have da:=b8 (a:=n) (b:=105) bL;have db:=b8 (a:=n) (b:=107) bL;have dc:=b8 (a:=n) (b:=100) bL;have dd:=bU a6.2.2;have a5:¬ H.J (H.next+1):=λh=>by have:=S _ h;omega
      have de:q<H.next+1+10:=bL;have Y:=xa0 Y (xb0 g de d8 d9 da db dc dd d0 d1 d2 (xb0 d3 d4 d5 d6 d7 (aA g) (Eq.symm T) (Eq.symm W) (Eq.symm K) E N a1));refine wp (h:=?_);refine NZ t ht rs P D U most i x bL 104 103 105 n H.next q 107 x.M.length ?_ ?_ ?_ ?_ ?_ ?_ ⟨bL,bL,bL,bL,bL,bL,bL,bL,bL,bL⟩ ?_ ?_ rfl ?_ ?_
      focus simp [go_sem,Y]
      focus simp [go_sem,Y]
      focus simp [go_sem,Y]
      focus simp [go_sem,Y]
      focus simp [go_sem,Y]
      focus exact ⟨_,by simp [go_sem,Y];rfl⟩
      focus first|omega|(simp [go_sem];omega)
      focus intro hc;rcases hc with hc|hc;omega;exact a4 hc
      focus first|trivial|simp [chk]
      rw [<- W,<- K];simp only [HJ];refine jH (λI=>?_) λI=>?_
      .have hne:V.2≠0:=by simpa using I
       rw [F,if_pos hne,if_pos hne] at f;have G:rG t rs h most=(⟨[],[],false⟩,V.2):=by rw [k,f];exact if_pos hne
       refine wv (h:=?_);exact L _ _ (by simp [go_sem,G,Y,lA,gI])
      .rw [if_neg (cG I),<- hz] at F;rw [F,if_neg bS] at f;have b1:=f.symm;refine wv (h:=?_);unfold dQ;refine Wd (l:=y.M) bL ?_ λl' hp hs=>?_
       focus simp [go_sem,Y]
       have a7:l'=zI y.M:=Ye X.ne (λa ha=>(X.fr a ha).2) hp hs;subst a7;have Y:=wa Y O;exact wp (h:=wx b2 (i+1) ⟨z,(H.next+1+10),(H.next+1),wg,wn,wn,wn,wn,wn,wn,wn,wn,wn,wn,wn,wn,(by exact a0),(by rw [N,aO,O];omega),(by rw [E];omega),(by exact b1),(by simp [go_sem,de];try omega),(by intro hc;simp [gP,jQ,pJ,BD,a5] at hc;try omega),(by intro j hj;simp [gP,jQ,pJ] at hj;simp [go_sem,de];rcases hj with hj|hj|hj|hj<;>first|omega|(have:=S j hj;omega)),(by omega),(by simp [go_sem,de];omega)⟩)
     .have G:rG t rs h most=(x,0):=by rw [k,<- hL,Vh bL];rfl
      refine wv (h:=?_);exact L _ _ (by simp [go_sem,G,Y,lA,gI,Fl,PU])
def twoT:Types:=⟨[⟨⟨#[65]⟩,-1,false,[]⟩,⟨⟨#[66]⟩,-1,false,[]⟩],[]⟩
def HO (a b:Int):Rule:=⟨⟨#[116,117,114,110]⟩,⟨⟨[a],[]⟩,[],0,[]⟩,⟨⟨[b],[]⟩,[],0,[]⟩,⟨[],[]⟩,⟨[],[]⟩,false,.mk 1 [] ⟨[],[]⟩ tP⟩
def Eu:List Rule:=[HO 0 1,HO 1 0]
def VW:Host:=⟨⟨[0,0],[]⟩,[[],[]]⟩
theorem ai3:(rG twoT Eu VW 10).2=0/\(rG twoT Eu VW 10).1.all=true/\(rG twoT Eu VW 10).1.A.length=3:=by decide +kernel
def XU (s:List Bool × Xa0)(k:Int):List Bool × Xa0:=if s.1[k.toNat]?.getD false=true then s else (s.1.set k.toNat true,s.2++[k])
def Cf:List Bool->Nat
 | []=>0
 | b :: l=>(if b=true then 0 else 1)+Cf l
theorem T9:∀ l:List Bool,Cf l<=l.length
 | []=>aT _
 | b :: l=>by have:=T9 l;simp only [Cf,cD];split<;>omega
theorem QE:∀ (l:List Bool) (i:Nat),l[i]?=some false->Cf (l.set i true)+1=Cf l
 | [],i,h=>by simp at h
 | b :: l,0,h=>by simp at h;subst h;simp [Cf];omega
 | b :: l,i+1,h=>by
  have:=QE l i (cG h);simp only [xT,Cf];omega
def A5 (L:Yb):Nat->List Bool × Xa0->List Bool
 | 0,s=>s.1
 | c+1,s=>if s.2.length=0 then s.1 else A5 L c ((L[(iA s.2 ((s.2.length - 1:Nat):Int)).toNat]?.getD []).foldl XU (s.1,s.2.take (s.2.length - 1)))
def LY (n:Nat)(k:Int):List Bool:=(List.replicate n false).set k.toNat true
def xD (L:Yb)(k:Int):List Bool:=A5 L (Cf (LY L.length k)+1) (LY L.length k,[k])
theorem UU {L:Yb}{c:Nat}{s:List Bool × Xa0}(h:s.2.length=0):A5 L c s=s.1:=by
 cases c with
 | zero=>rfl
 | succ c=>exact if_pos h
theorem YB (s:List Bool × Xa0)(k:Int):(XU s k).1.length=s.1.length:=by unfold XU;split<;>simp
theorem P0:∀ (l:Xa0) (s:List Bool × Xa0),(l.foldl XU s).1.length=s.1.length
 | [],s=>rfl
 | k :: l,s=>(P0 l _).trans (YB s k)
theorem IH (L:Yb):∀ (c:Nat) (s:List Bool × Xa0),(A5 L c s).length=s.1.length
 | 0,s=>rfl
 | c+1,s=>by
  show (if _ then _ else _:List Bool).length=_;split
  .rfl
  .rw [IH,P0]
theorem IG (L:Yb)(k:Int):(xD L k).length=L.length:=by unfold xD;rw [IH];simp [LY]
theorem xY (L:Yb)(k:Nat)(B:k<L.length)(hL:∀ l∈L,∀ x∈l,0<=x/\x<L.length)(hn:L.length<=1000):Own prog 43 [.list (L.map cL),dI k] 4 1 ((xD L k).map cB):=by
 obtain ⟨R,hR⟩:=cY (xD L k);rw [<- hR];obtain ⟨m0,a7⟩:∃ m,m=LY L.length k:=⟨_,rfl⟩;have c4:m0.length=L.length:=by rw [a7];simp [LY]
 have d:(List.replicate L.length [D.bool false]).set k [D.bool true]=m0.map cB:=by rw [a7];simp [LY,cB]
 have h:(List.replicate L.length [D.bool false])[k]?=some [D.bool false]:=by rw [j6,if_pos B]
 refine Tz.oK ⟨λt=>t==12||t==17,λ_=>[]⟩ func43 rfl (λQ hQ=>?_);try simp [go_sem,seval,d,B,h]
 repeat first|intro _|refine ⟨fY,?_⟩
 obtain ⟨I0,a9⟩:∃ I0:Nat->dO->AHeap->Prop,∀ (c:Nat) (e:dO) (H:AHeap),I0 c e H↔(∃ m:List Bool,∃ A:Xa0,∃ s:Nat,(e 0=.list (L.map cL))/\(e 5=.own 0 L.length)/\(e 6=.own s A.length)/\(H.get 0=some ⟨4,1,m.map cB,false⟩)/\(0<H.next)/\(H.get s=some ⟨3,1,A.map cI,false⟩)/\(s<H.next)/\(s≠0)/\(m.length=L.length)/\(∀ x∈A,0<=x/\x<L.length)/\(c=Cf m+A.length)/\(c<=1001)/\(A5 L c (m,A)=R)):=⟨λc e H=>_,λ_ _ _=>Iff.rfl⟩;refine tI I0 (λc=>c) (Cf m0+1) ((a9 _ _ _).2 ⟨(m0),([(k:Int)]),(1),?_,?_,?_,?_,?_,?_,?_,bL,(by exact c4),et,(by rfl),(by have:=T9 m0;omega),(by rw [hR,a7];rfl)⟩) ?_;iterate 7 (first|omega|(simp [go_sem,seval,d,B,h]<;>omega))
 intro c e H d3;obtain ⟨m,A,s,b5,b3,b1,c9,c0,c7,b7,hs,X,c2,hc,e0,hF⟩:=(a9 _ _ _).1 d3;have x0:=bU c0;have xs:=bU b7;have F0:=xa5 b5 b3 b1 c9 c7 x0 xs;try simp [go_sem,seval,d,B,h,F0]
 repeat first|intro _|refine ⟨fY,?_⟩
 refine aU (λI=>?_) (λI=>?_)
 .try simp [go_sem] at I
  have i:A.length - 1<A.length:=bL;obtain ⟨a,J⟩:=cY (A[A.length - 1]);have e1:0<=a/\a<L.length:=by rw [J];exact c2 _ (aC i)
  have z:((A.length:Int) - 1).toNat=A.length - 1:=bL;have d6:iA A ((A.length - 1:Nat):Int)=a:=by rw [jU i,J]
  have n:a.toNat<L.length:=bL;obtain ⟨C,f⟩:∃ r,r=L[a.toNat]:=⟨_,rfl⟩;have d1:∀ x∈C,0<=x/\x<L.length:=by rw [f];exact hL _ (aC n)
  obtain ⟨w0,a0⟩:∃ w,w=A.take (A.length - 1):=⟨_,rfl⟩;have g:w0.length=A.length - 1:=by rw [a0,bT];omega
  have d7:A5 L c (m,A)=A5 L (c - 1) (C.foldl XU (m,w0)):=by
   obtain ⟨c',rfl⟩:∃ c',c=c'+1:=⟨c - 1,bL⟩;show (if A.length=0 then m else _)=_;rw [if_neg bL,d6,aA n,<- f,<- a0];rfl
  have c1:∀ x∈w0,0<=x/\x<L.length:=λx S=>by rw [a0] at S;exact c2 x (bJ S)
  have q:(A.map cI).take (A.length - 1)=w0.map cI:=by rw [a0,List.map_take]
  have v:=b8 hs;try simp [go_sem,seval,d,B,h,F0,I,v,aA i,<- J,z,aA n,<- f,g,q]
  repeat first|intro _|refine ⟨fY,?_⟩
  obtain ⟨I2,a2⟩:∃ I2:Nat->dO->AHeap->Prop,∀ (j:Nat) (e:dO) (H:AHeap),I2 j e H↔(∃ u:Nat,∃ O:List Bool,∃ K:Xa0,(e 0=.list (L.map cL))/\(e 5=.own 0 L.length)/\(e 6=.own u K.length)/\(e 35=.list (C.map cI))/\(e 36=dI C.length)/\(e 37=dI j)/\(H.get 0=some ⟨4,1,O.map cB,false⟩)/\(0<H.next)/\(H.get u=some ⟨3,1,K.map cI,false⟩)/\(u<H.next)/\(j<=C.length)/\(u≠0)/\(O.length=L.length)/\(∀ x∈K,0<=x/\x<L.length)/\(Cf O+K.length=Cf m+w0.length)/\((C.take j).foldl XU (m,w0)=(O,K))/\(K.length<=A.length+j)):=⟨λj e H=>_,λ_ _ _=>Iff.rfl⟩;refine aaH (6) (s) (A.length - 1) ⟨3,1,A.map cI,false⟩ (by simp [go_sem,d,B,h,F0,I,v,aA i,<- J,z,aA n,<- f,g,q]) (by simp [go_sem,d,B,h,F0,I,v,aA i,<- J,z,aA n,<- f,g,q]) rfl I2 (λj=>C.length - j) (0) ((a2 _ _ _).2 ⟨(H.next),(m),(w0),?_,?_,?_,?_,?_,?_,?_,?_,?_,?_,(by first|assumption|omega|(simp [go_sem,d,B,h,F0,I,v,aA i,<- J,z,aA n,<- f,g,q];done)|(simp_all;done)),(by omega),(by exact X),(by exact c1),(by rfl),(by rfl),(by omega)⟩) ?_;iterate 10 (first|omega|(simp [go_sem,seval,d,B,h,F0,I,v,aA i,<- J,z,aA n,<- f,g,q]<;>omega))
  intro j e H d2;obtain ⟨u,O,K,b4,b2,b0,a6,a5,a4,c8,b9,c6,b6,hj,hu,o,U,d4,a8,d9⟩:=(a2 _ _ _).1 d2;have x0:=bU b9;have xu:=bU b6;have F2:=xa8 b4 b2 b0 a6 a5 a4 c8 c6 x0 xu;try simp [go_sem,seval,d,B,h,I,v,aA i,<- J,z,aA n,<- f,g,q,F2]
  refine aU (λG=>?_) (λG=>?_)
  .try simp [go_sem] at G
   obtain ⟨x,S⟩:=cY (C[j]);have d0:0<=x/\x<L.length:=by rw [S];exact d1 _ (aC G)
   have E:x.toNat<O.length:=bL;obtain ⟨bx,F⟩:∃ b,b=O[x.toNat]:=⟨_,rfl⟩;obtain ⟨⟨m3,s3⟩,V⟩:∃ p,p=XU (O,K) x:=⟨_,rfl⟩;have a3:(C.take (j+1)).foldl XU (m,w0)=(m3,s3):=by
    rw [aD G,eG,a8,V,S];rfl
   have a1:XU (O,K) x=if bx=true then (O,K) else (O.set x.toNat true,K++[x]):=by
    unfold XU;simp only;rw [aA E,<- F];rfl
   have M:=b8 hu;try simp [go_sem,seval,d,B,h,I,v,aA i,<- J,z,aA n,<- f,g,q,F2,G,M,o,aA G,<- S,aA E,<- F,cB]
   repeat first|intro _|refine ⟨fY,?_⟩
   refine aU (λN=>?_) (λN=>?_)
   .try simp [go_sem] at N
    have c5:bx=false:=by simpa using N
    rw [c5,if_neg bS] at a1;rw [a1] at V;obtain ⟨Z,P⟩:=Prod.mk.inj V;have W:m3.length=L.length:=by rw [Z];simpa using o
    have T:∀ y∈s3,0<=y/\y<L.length:=λy hy=>by
     rw [P] at hy;rcases aQ.1 hy with hy|hy
     .exact U y hy
     .rw [aX.1 hy];exact d0
    have Y:Cf m3+s3.length=Cf m+w0.length:=by
     have:=QE O x.toNat (by rw [aA E,<- F,c5]);rw [Z,P];simp;omega
    have c3:s3.length=K.length+1:=by rw [P];simp
    try simp [go_sem,seval,d,B,h,I,v,aA i,<- J,z,aA n,<- f,g,q,F2,G,M,o,aA G,<- S,aA E,<- F,cB,Z,P]
    repeat first|intro _|refine ⟨fY,?_⟩
    refine gU (j+1) bL ((a2 _ _ _).2 ⟨(u),(m3),(s3),?_,?_,?_,?_,?_,?_,?_,?_,?_,?_,(by first|assumption|omega|(simp [go_sem,d,B,h,I,v,aA i,<- J,z,aA n,<- f,g,q,F2,G,M,o,aA G,<- S,aA E,<- F,cB,Z,P,N];done)|(simp_all<;>omega)),(by exact hu),(by exact W),(by exact T),(by exact Y),(by exact a3),(by omega)⟩)<;>first|omega|(simp [go_sem,seval,d,B,h,I,v,aA i,<- J,z,aA n,<- f,g,q,F2,G,M,o,aA G,<- S,aA E,<- F,cB,Z,P]<;>omega)
   .try simp [go_sem] at N
    have d5:bx=true:=by simpa using N
    rw [d5,if_pos rfl] at a1;rw [a1] at V;obtain ⟨Z,P⟩:=Prod.mk.inj V;have W:m3.length=L.length:=by rw [Z];exact o
    have T:∀ y∈s3,0<=y/\y<L.length:=by rw [P];exact U
    have Y:Cf m3+s3.length=Cf m+w0.length:=by rw [Z,P];exact d4
    have c3:s3.length=K.length:=by rw [P]
    try simp [go_sem,seval,d,B,h,I,v,aA i,<- J,z,aA n,<- f,g,q,F2,G,M,o,aA G,<- S,aA E,<- F,cB,Z,P]
    repeat first|intro _|refine ⟨fY,?_⟩
    refine gU (j+1) bL ((a2 _ _ _).2 ⟨(u),(m3),(s3),?_,?_,?_,?_,?_,?_,?_,?_,?_,?_,(by first|assumption|omega|(simp [go_sem,d,B,h,I,v,aA i,<- J,z,aA n,<- f,g,q,F2,G,M,o,aA G,<- S,aA E,<- F,cB,Z,P,N];done)|(simp_all<;>omega)),(by exact hu),(by exact W),(by exact T),(by exact Y),(by exact a3),(by omega)⟩)<;>first|omega|(simp [go_sem,seval,d,B,h,I,v,aA i,<- J,z,aA n,<- f,g,q,F2,G,M,o,aA G,<- S,aA E,<- F,cB,Z,P]<;>omega)
  .try simp [go_sem] at G
   rw [aH bL] at a8;have d8:A5 L (c - 1) (O,K)=R:=by rw [<- hF,d7,a8]
   try simp [go_sem,seval,d,B,h,I,v,aA i,<- J,z,aA n,<- f,g,q,F2]
   refine gU (c - 1) bL ((a9 _ _ _).2 ⟨(O),(K),(u),?_,?_,?_,?_,?_,?_,?_,(by omega),(by exact o),(by exact U),(by omega),(by omega),(by exact d8)⟩)<;>first|omega|(simp [go_sem,seval,d,B,h,I,v,aA i,<- J,z,aA n,<- f,g,q,F2]<;>omega)
 .try simp [go_sem] at I
  have hE:m=R:=by rw [<- hF,UU et]
  rw [hE] at X;try simp [go_sem,seval,d,B,h,F0,hE,X]
  exact hQ _ _ _ (by simp [go_sem,d,B,h,F0,hE,X]) (by simp [go_sem,d,B,h,F0,hE,X])
def x9 (H:AHeap)(id ty:Nat):Nat->AHeap
 | 0=>H
 | m+1=>qE (x9 H id ty m) id m 0 ty 1
def kH (A n:Nat)(f:Nat->Nat):Xa1:=(List.range n).map λk=>[D.own (A+k) (f k)]
theorem In {H:AHeap}{id ty T n:Nat}(h:H.get id=some ⟨T,1,List.replicate n [D.nil],false⟩)(hid:id<H.next):∀ m,m<=n ->
  Ghosts H (x9 H id ty m)/\(x9 H id ty m).next=H.next+m/\(x9 H id ty m).get id=some ⟨T,1,kH H.next m (λ_=>0)++List.replicate (n - m) [D.nil],false⟩ /\
   (∀ k,k<m->(x9 H id ty m).get (H.next+k)=some ⟨ty,1,[],false⟩)/\∀ j,j≠id->j<H.next->(x9 H id ty m).get j=H.get j
 | 0,_=>⟨.refl _,rfl,by simpa [kH,x9] using h,λk hk=>absurd hk (De _),λj _ _=>rfl⟩
 | m+1,hm=>by
  obtain ⟨i1,i2,i3,i4,i5⟩:=In h hid m bL;have hl:(kH H.next m (λ_=>0)).length=m:=by simp [kH]
  have hc:(kH H.next m (λ_=>0)++List.replicate (n - m) [D.nil])[m]?=some [D.nil]:=by
   rw [bF bL,hl,nU,j6,if_pos bL]
  have hg:x9 H id ty (m+1)=((x9 H id ty m).put id ⟨T,1,kH H.next (m+1) (λ_=>0)++List.replicate (n - (m+1)) [D.nil],false⟩).push (H.next+m) ⟨ty,1,[],false⟩:=by
   show qE (x9 H id ty m) id m 0 ty 1=_;unfold qE;rw [i3];simp only [hc,aF,nW,i2];congr 3;rw [lI _ _ bL,hl,nU,show n - m=(n - (m+1))+1 by omega,mU,nW];unfold kH;rw [c6,List.map_append,List.append_assoc];rfl
  refine ⟨.step i1 id m 0 ty 1 _ _ i3 rfl hc rfl,?_,?_,λk hk=>?_,λj h1 h2=>?_⟩
  .rw [hg];simp [AHeap.push,AHeap.put,i2];omega
  .rw [hg];simp [AHeap.push,AHeap.put,(bL:id≠H.next+m)]
  .rw [hg];by_cases he:k=m
   .subst he;simp [AHeap.push]
   .simp [AHeap.push,AHeap.put,he,(bL:H.next+k≠id)];exact i4 k bL
  .rw [hg];simp [AHeap.push,AHeap.put,h1,(bL:j≠H.next+m)];exact i5 j h1 h2
def rK (H:AHeap)(a b ty n:Nat):AHeap:=x9 (x9 H a ty n) b ty n
theorem yA {H:AHeap}{a b ty T n:Nat}(E:H.get a=some ⟨T,1,List.replicate n [D.nil],false⟩)(z:H.get b=some ⟨T,1,List.replicate n [D.nil],false⟩)(y:a<H.next)(lb:b<H.next)(e:a≠b) :
  Ghosts H (rK H a b ty n)/\(rK H a b ty n).next=H.next+n+n/\(rK H a b ty n).get a=some ⟨T,1,kH H.next n (λ_=>0),false⟩/\(rK H a b ty n).get b=some ⟨T,1,kH (H.next+n) n (λ_=>0),false⟩ /\
   (∀ k,k<n->(rK H a b ty n).get (H.next+k)=some ⟨ty,1,[],false⟩)/\(∀ k,k<n->(rK H a b ty n).get (H.next+n+k)=some ⟨ty,1,[],false⟩)/\∀ j,j≠a->j≠b->j<H.next->(rK H a b ty n).get j=H.get j:=by
 obtain ⟨x,g,w,v,p⟩:=In (ty:=ty) E y n (aT _);have l:(x9 H a ty n).get b=some ⟨T,1,List.replicate n [D.nil],false⟩:=(p b (Ne.symm e) lb).trans z;obtain ⟨u,t,s,r,f⟩:=In (ty:=ty) l bL n (aT _);have h:∀ {A B C:AHeap},Ghosts A B->Ghosts B C->Ghosts A C:=λ {A B C} o m=>by
  induction m with
  | refl=>exact o
  | trunc _ id i off q hi k kq c d hf hc hq hn hqf hne ih=>exact .trunc ih id i off q hi k kq c d hf hc hq hn hqf hne
  | step _ id i off ty sz k c d hf hc hn ih=>exact .step ih id i off ty sz k c d hf hc hn
 refine ⟨h x u,by rw [show (rK H a b ty n).next=_ from t,g],?_,?_,λk d=>?_,λk d=>?_,λj o m F=>?_⟩
 .rw [show (rK H a b ty n).get a=_ from f a e bL,w];simp
 .rw [show (rK H a b ty n).get b=_ from s,g];simp
 .rw [show (rK H a b ty n).get _=_ from f _ bL bL];exact v k d
 .rw [<- g];exact r k d
 .rw [show (rK H a b ty n).get j=_ from f j m bL];exact p j o F
theorem Wm {H:AHeap}{a b ty T n:Nat}(ha:H.get a=some ⟨T,1,List.replicate n [D.nil],false⟩)(hb:H.get b=some ⟨T,1,List.replicate n [D.nil],false⟩)(la:a<H.next)(lb:b<H.next)(hab:a≠b):Ghosts H (rK H a b ty n):=(yA ha hb la lb hab).1
theorem O2 {H:AHeap}{a b ty T n:Nat}(ha:H.get a=some ⟨T,1,List.replicate n [D.nil],false⟩)(hb:H.get b=some ⟨T,1,List.replicate n [D.nil],false⟩)(la:a<H.next)(lb:b<H.next)(hab:a≠b):(rK H a b ty n).next=H.next+n+n:=(yA ha hb la lb hab).2.1
theorem Yl {H:AHeap}{a b ty T n:Nat}(ha:H.get a=some ⟨T,1,List.replicate n [D.nil],false⟩)(hb:H.get b=some ⟨T,1,List.replicate n [D.nil],false⟩)(la:a<H.next)(lb:b<H.next)(hab:a≠b):(rK H a b ty n).get a=some ⟨T,1,kH H.next n (λ_=>0),false⟩:=(yA ha hb la lb hab).2.2.1
theorem Yk {H:AHeap}{a b ty T n:Nat}(ha:H.get a=some ⟨T,1,List.replicate n [D.nil],false⟩)(hb:H.get b=some ⟨T,1,List.replicate n [D.nil],false⟩)(la:a<H.next)(lb:b<H.next)(hab:a≠b):(rK H a b ty n).get b=some ⟨T,1,kH (H.next+n) n (λ_=>0),false⟩:=(yA ha hb la lb hab).2.2.2.1
theorem Wl {H:AHeap}{a b ty T n:Nat}(ha:H.get a=some ⟨T,1,List.replicate n [D.nil],false⟩)(hb:H.get b=some ⟨T,1,List.replicate n [D.nil],false⟩)(la:a<H.next)(lb:b<H.next)(hab:a≠b)(k:Nat)(hk:k<n):(rK H a b ty n).get (H.next+k)=some ⟨ty,1,[],false⟩:=(yA ha hb la lb hab).2.2.2.2.1 k hk
theorem Wk {H:AHeap}{a b ty T n:Nat}(ha:H.get a=some ⟨T,1,List.replicate n [D.nil],false⟩)(hb:H.get b=some ⟨T,1,List.replicate n [D.nil],false⟩)(la:a<H.next)(lb:b<H.next)(hab:a≠b)(k:Nat)(hk:k<n):(rK H a b ty n).get (H.next+n+k)=some ⟨ty,1,[],false⟩:=(yA ha hb la lb hab).2.2.2.2.2.1 k hk
theorem yB {A n:Nat}{f:Nat->Nat}{k:Nat}(h:k<n):(kH A n f)[k]?=some [D.own (A+k) (f k)]:=by simp [kH,h]
theorem rO {A n:Nat}{f:Nat->Nat}:(kH A n f).length=n:=by simp [kH]
theorem Lu {A n:Nat}{f g:Nat->Nat}{a:Nat}(h:∀ k,k≠a->g k=f k):(kH A n f).set a [D.own (A+a) (g a)]=kH A n g:=by
 refine fC λk=>?_;rw [cT];by_cases b:k<n
 .by_cases e:a=k
  .subst e;rw [if_pos rfl,rO,if_pos b,yB b]
  .rw [if_neg e,yB b,yB b,h k (Ne.symm e)]
 .have h1:(kH A n f)[k]?=none:=by rw [bC];rw [rO];omega
  have c:(kH A n g)[k]?=none:=by rw [bC];rw [rO];omega
  rw [h1,c];split
  .rw [rO];split
   .omega
   .rfl
  .rfl
theorem Ls {H:AHeap}{id T A n ty:Nat}{L:Yb}(h:H.get id=some ⟨T,1,kH A n (λk=>(L[k]?.getD []).length),false⟩)(c:L.length=n)(b:∀ k,k<n->H.get (A+k)=some ⟨ty,1,(L[k]?.getD []).map cI,false⟩):oR H (.own id n)=.list (L.map λl=>[dLI l]):=by
 unfold oR;simp only [h,rO,if_true];congr 1;refine fC λk=>?_;rw [aW,aW];by_cases a:k<n
 .rw [yB a,aA bL];have:=b k a;rw [aA bL] at this;simp only [aF] at this;simp [fM,this,aA (bL:k<L.length),dLI]
 .rw [bC (by rw [rO];omega),bC bL];rfl
theorem UG {M0:Nat->Prop}{H:AHeap}{σ:Nat->Option Ow}{w:World}{vals:List Value}{args:Xa2}(hR:Rel M0 H σ w)(ha:RepL (dK M0 H σ) σ H.J w vals args)(ids:List Nat)(hi:∀ i∈args.flatMap (G6 H),i∈ids) :
  RepL (dK M0 (fH ids H) σ) σ (fH ids H).J w vals (args.map (oR H)) :=
 ⟨by simpa using ha.len,λj u d hu hd=>by
  rw [aW,bQ] at hd;obtain ⟨y,hy,rfl⟩:=hd;exact AX hR (ha.Y j u y hu hy) ids λi hii=>hi i (bM.2 ⟨y,aK hy,hii⟩)⟩
theorem Q3 {P:Program}{H:AHeap}{f:FuncId}{args:Xa2}{ty:TypeId}{sz:Nat}{es:Xa1}{Q:D->AHeap->Prop}(A:Own P f (args.map (oR H)) ty sz es)(x:D.N (args.map (oR H))=true)(K:∀ d∈es.flatten,d.flat=true)(N:Q (.list es) H):ACalls P f args H Q:=by
 refine ⟨A.1,λE σ w k o M=>?_⟩;obtain ⟨V,f2,Z,Y⟩:=fQ (args.flatMap (G6 H)) o;refine (A.2 (dK E (fH (args.flatMap (G6 H)) H) σ) w k (rS V) (iE (λ_ h=>h) (UG o M _ λi h=>h) x)).mono λe G ⟨v,F,L,b,O,c,C,r,m⟩=>?_;obtain ⟨U,T,S⟩:=o.grow m.os m.tape m.output m.size m.block;have I:RepV (dK E H σ) g9 pT G v (.list es):=by
  rcases b.2 with ⟨l,R⟩|⟨g,y,W,a,X,n,s,t,z,q⟩
  .rw [l,bI R];exact .listN
  .rw [a];refine .list ⟨g,0,none⟩ y sz F es s t r c.len O (λj u p=>⟨λJ=>?_,b.cells (g:=g) (by simp [a,Value.ownBlock]) j u p⟩) (λj u d p B=>yT (c.Y j u d p B) (K d (aK B)));have:=rS o g J;omega
 exact ⟨v,.list es,H,σ,L,U,I.G wP,T,S,N⟩
theorem JR {P:Program}{md:Nat->Bool}{ops:Array Oper}{a:List Oper}{e:dO}{b:Option Tmp}{K:dO->AHeap->Prop}{f:FuncId}{args args':Xa2}{H:AHeap}{ty:TypeId}{sz:Nat}{es:Xa1}
  (g:Own P f args' ty sz es) (j:args.map (oR H)=args') (c:D.N args'=true) (i:∀ d∈es.flatten,d.flat=true) (h:oM P md ops a (nB e b (.list es)) H K):dQ P md ops a e b K f args H:=by
 subst j;unfold dQ;exact Q3 g c i h
end Go.Abs
end
