/- Plain law: the type graphs, patterns, rules and hosts of dra -/
import Derived.Test.YthlnbehgghjppaaGreatZrAN
import Derived.Test.YthlnbehgghjppaaGreatZrAW
import Derived.Test.YthlnbehgghjppaaGreatZrAU
import Derived.Test.YthlnbehgghjppaaGreatZrAG
import Derived.Test.YthlnbehgghjppaaGreatZrAS
import Derived.Test.YthlnbehgghjppaaGreatZrAA
import Derived.Laws.BitsLemmas
import Derived.OpenShut
set_option linter.unusedVariables false
set_option linter.unusedSimpArgs false
section
set_option maxRecDepth 100000
set_option maxHeartbeats 4000000
open Go Go.Proofs Tryz
namespace Go.Abs
/-! ### type graphs -/
structure MadeTy (t:Types):Prop where
 v:(cQ t).2=0
 fe:t.fe
 ne:t.i.length<=5
 nn:t.h.length<=6
structure SlotIn (t:Types) (ns:Xa0) (v:Int) (s:Slot):Prop where
 n0:0<=s.node
 n1:s.node<ns.length
 a0:0<=s.P
 a1:s.P<(bV t (ns[s.node.toNat]?.getD 0)).length
 v0 : -1<=s.C.R
 v1:s.C.R<v
 d0 : -1000000<=s.C.add
 d1:s.C.add<=1000000
theorem SlotIn.mono {t:Types}{ns:Xa0}{v w:Int}{s:Slot}(h:SlotIn t ns v s)(hv:v<=w):SlotIn t ns w s:=⟨h.n0,h.n1,h.a0,h.a1,h.v0,by have:=h.v1;omega,h.d0,h.d1⟩
def MJ (t:Types)(d:Dr24):Part:=⟨(RP (Vb t d).h.length d.cu).take (YG t d).h.length,(RP (Vb t d).i.length d.cu).take (YG t d).i.length⟩
structure Core24 (t:Types) (d:Dr24):Prop where
 g0:graphF (AI t d.left.j)=0
 t0:eY t (AI t d.left.j)=true
 gR:graphF (QA t d)=0
 tR:eY t (QA t d)=true
 sub:subF (AI t d.left.j) (MI t d)=0
 b2:cY (bG (AI t d.left.j) (MI t d)) (QA t d) (MJ t d)=0
 inj:jN (bG (AI t d.left.j) (MI t d)) (QA t d) (MJ t d)=true
 ek:sE t (QA t d) (aN (MJ t d).h (QA t d).h.length) (aN (MJ t d).i (QA t d).i.length)=true
def adC (l:Xa0)(k:Nat):Nat:=((List.range k).filter λi=>!mem (l.take i) (l[i]?.getD 0)).length
section
variable {t:Types} {r:Rule} {h:Host} {m:Mat}
theorem StepIn.ep (S:StepIn t r h m):∀ x∈m.m.h,0<=x/\x<h.j.h.length:=λx hx=>by
 obtain ⟨i,hi,rfl⟩:=aO hx;have:=S.hm.len;exact (S.hm.bx i hi bZ).1
theorem StepIn.fc (S:StepIn t r h m):∀ x∈m.m.i,0<=x/\x<h.j.i.length:=λx hx=>by
 obtain ⟨i,hi,rfl⟩:=aO hx;exact S.hm.db i hi
end
structure StepOk (t:Types) (r:Rule) (h:Host) (m:Mat):Prop where
 S:StepIn t r h m
 dq:rK t r h m=0
 sol:eH t r.left h m.m=(m.vars,0)
 put:wH t (c9 t r h m).j (lL r h m) m.vars r.right.q=0
 nn:(c9 t r h m).j.h.length<=40
 ne:(c9 t r h m).j.i.length<=80
theorem Ya {t:Types}{r:Rule}{h:Host}{m:Mat}(f:RuleV t r)(e:HostOk t h)(c:l6 t r h m=0):StepOk t r h m:=by
 unfold l6 at c;split at c
 .contradiction
 .rename_i h1;have d:mG t r h m=0:=by simpa using h1
  unfold mG at d;split at d
  .contradiction
  .rename_i h2;have a:rK t r h m=0:=by simpa using h2
   have b:eH t r.left h m.m=(m.vars,0):=by
    unfold rK at a;split at a
    .cases a
    .split at a
     .contradiction
     .rename_i h4;split at a
      .cases a
      .rename_i h5;exact Prod.ext (eL h5) (eL h4)
   split at c
   .contradiction
   .rename_i h3;split at c
    .cases c
    .rename_i h4;exact ⟨Qp f e a,a,b,by simpa using h3,bZ,bZ⟩
theorem StepOk.after {t:Types}{r:Rule}{h:Host}{m:Mat}(S:StepOk t r h m):jB t (lD t r h m)=0:=S.S.after S.put S.nn S.ne
@[go_sem] theorem ahA (o:Option UInt8)(a:D):((Option.map cU o).getD [a]).length=1:=by cases o<;>rfl
@[go_sem] theorem agQ (o:Option B3)(c b a:D):((Option.map V4 o).getD [c,b,a]).length=3:=by cases o<;>rfl
@[go_sem] theorem ahB (o:Option B2)(b a:D):((Option.map cP o).getD [b,a]).length=2:=by cases o<;>rfl
theorem ab7 (l:Yb):eU (l.map cL)=l.map cL:=jL λc hc=>by
 rw [aV] at hc;obtain ⟨x,_,rfl⟩:=hc;simp [cL,dLI,jM,mM,c7]
def small (d:Dr5)(a b:Nat):Dr5:=⟨d.h.take (min d.h.length a),d.i.take (min d.i.length b)⟩
structure Dr26 where
 types:List B2
 dw:List B2
 x:Dr24
 da:Dr15
def Dr26.c (d:Dr26):Xa2:=[.list (d.types.map cP),.list (d.dw.map cP)]++d.x.c++d.da.c
@[go_sem] theorem Dr26.W (d:Dr26):D.N d.c=true:=by simp [Dr26.c,CE,Dr24.W,Dr15.c,D.N,D.W,VA,D2]
def t26 (d:Dr26):Types:=acK d.types d.dw
def P6 (d:Dr26):Host:=YE (t26 d) ⟨d.da.h.take (min d.da.h.length 6),d.da.i.take (min d.da.i.length 8)⟩
@[go_sem] theorem agO (o:Option Mat)(d b a:D):((Option.map Mat.c o).getD [d,b,a]).length=3:=by cases o<;>rfl
/-! ### StepCounts -/
@[go_sem] theorem Zg (l:Xa0):adC l 0=0:=rfl
def Gy:Xa0->Xa0->Int
 | x :: l,y :: m=>if x≠y then IntKind.i64.wrap (x - y) else Gy l m
 | l,m=>IntKind.i64.wrap ((l.length:Int) - m.length)
theorem IT {l m:Xa0}(h:l=[]\/m=[]):Gy l m=IntKind.i64.wrap ((l.length:Int) - m.length):=by
 rcases h with rfl|rfl
 .cases m<;>simp [Gy]
 .cases l<;>simp [Gy]
theorem LB (x y:Int)(l m:Xa0):Gy (x :: l) (y :: m)=if x≠y then IntKind.i64.wrap (x - y) else Gy l m:=by simp [Gy]
def LO (x:Int):Prop:=-9223372036854775808<=x/\x<=9223372036854775807
theorem Wb {x y:Int}(b:LO x)(a:LO y)(h:x≠y):IntKind.i64.wrap (x - y)≠0:=by
 rw [IntKind.wrap_i64];unfold LO at b a;omega
theorem LA:∀ {a b:Xa0},(∀ x∈a,LO x)->(∀ x∈b,LO x)->a.length<=1000000000000000->b.length<=1000000000000000->(Gy a b=0↔a=b)
 | [],b,_,_,_,h2=>by
  rw [IT (.inl rfl),IntKind.wrap_i64];cases b with
  | nil=>simp
  | cons y m=>simp at h2 ⊢;omega
 | x :: l,[],_,_,h1,_=>by
  rw [IT (.inr rfl),IntKind.wrap_i64];simp at h1 ⊢;omega
 | x :: l,y :: m,ha,hb,h1,h2=>by
  have ih:=LA (a:=l) (b:=m) (λz hz=>ha z (cX _ hz)) (λz hz=>hb z (cX _ hz)) (by simp at h1;omega) (by simp at h2;omega);rw [LB];by_cases h:x=y
  .subst h;rw [if_neg eG,ih];simp
  .rw [if_pos h];have:=Wb (ha x eG) (hb y eG) h;constructor
   .intro h0;exact absurd h0 this
   .intro h0;cases h0;exact absurd rfl h
theorem HA (a b:Xa0):Pua 96 [dLI a,dLI b] (dI (Gy a b)):=by
 refine Tz.pK ⟨λt=>t==2000000,λ_=>[]⟩ func96 rfl (λQ l=>?_);have Y:=trivial;refine wv (h:=bC (λi e H=>(e 0=dLI a/\e 1=dLI b/\e 5=dI i)/\(i<=a.length)/\(i<=b.length)/\(Gy (a.drop i) (b.drop i)=Gy a b)) (λi=>a.length - i) 0 ⟨wg,wi,wi,(by rfl)⟩ λq g i e H f=>?_);obtain ⟨o,p,n,k⟩:=f;have Y:=wa Y o;refine wv (h:=?_);repeat first|intro _|refine ⟨iF,?_⟩
 refine wq (λm=>?_) λm=>?_
 .have hia:i<a.length:=bZ;have d:i<b.length:=bZ;have c:=k;rw [fI hia,fI d,LB] at c;have Y:=xa2 Y m (aA hia) (aA d);refine wv (h:=?_);repeat first|intro _|refine ⟨iF,?_⟩
  refine wq (λj=>?_) λj=>?_
  .rw [if_pos j] at c;exact wo (h:=l _ _ (by simp [go_sem,<- c]))
  .rw [if_neg (eL j)] at c;exact wo (h:=wx g (i+1) ⟨wg,wj,wj,(by exact c)⟩)
 .have hX:Gy a b=IntKind.i64.wrap ((a.length:Int) - b.length):=by
   rw [<- k,IT]
   .congr 1;rw [iD,iD];omega
   .rcases bT i a.length with h|h
    .right;rw [List.drop_eq_nil_iff];omega
    .left;rw [List.drop_eq_nil_iff];omega
  exact wo (h:=l _ _ (by simp [go_sem,hX]))
theorem PF {a b:Xa0}(ha:∀ x∈a,LO x)(hb:∀ x∈b,LO x)(h1:a.length<=1000000000000000)(h2:b.length<=1000000000000000):Ba a b:=⟨_,HA a b,LA ha hb h1 h2⟩
theorem GS (t:Types)(b:t.ok)(r:Rule)(f:r.ok)(h:Host)(m:Mat){v:Stp26}{e:Int}(a:v=g7 t r h m)(g:e=oB t r h m):Pua 36 [t.d,r.d,h.d,m.d] (.tup [.agg v.c,dI e]):=by
 subst a g;exact N6 t b r f h m
theorem Up (l:List Stp26):D.V (l.map Stp26.c)=true:=dU _ Stp26.W l
attribute [go_sem] Up
mutual
def oJ:Cond→Bool
 | .mk k l m p=>Dq l&&decide ((p.j.h.length:Int)+p.j.i.length≤6)
def Dq:List Cond→Bool
 | []=>true
 | c :: l=>oJ c&&Dq l
end
theorem OR (l:List Cond):Dq l=l.all oJ:=by
 induction l with
 | nil=>simp [Dq]
 | cons a l ih=>simp [Dq,ih]
theorem Cm (c:Cond):oJ c=(c.w.all oJ&&decide ((c.n.j.h.length:Int)+c.n.j.i.length<=6)):=by
 cases c;simp only [oJ,OR,Cond.w,Cond.n];try rfl
theorem wP {α:Type}(l:List α)(p:α->Bool){i:Nat}(h:i<l.length):(l.take (i+1)).all p=((l.take i).all p&&p l[i]):=by
 rw [aF h,oY];simp
theorem Mo:∀ c:Cond,c.ok->Pua 132 [.agg c.c] (.bool (oJ c)):=by
 refine Cond.bm λc m o=>?_;obtain ⟨k,n⟩:=(wB c).1 o;have p1:=k.p1;have p2:=k.p2;refine Tz.p0 func132 rfl λQ l _=>?_;have Y:=@Cond.E;refine wv (h:=bC (λi e H=>(e 1=.adr c.c/\e 3=dI i)/\(i<=c.w.length)/\((c.w.take i).all oJ=true)) (λi=>c.w.length - i) 0 ⟨wg,wi,(by rfl)⟩ λr f i e H b=>?_);obtain ⟨p,q,d⟩:=b;have Y:=wa Y p;refine wv (h:=?_);repeat first|intro _|refine ⟨iF,?_⟩
 refine wq (λa=>?_) λa=>?_
 .have Y:=xa1 Y a (aA a);refine wo (h:=aB ((by have:=m _ (aC a) (n _ (aC a));rwa [Cond.E] at this)) wl ?_);refine dW (λj=>?_) λj=>?_
  .refine wv (h:=?_);have g:oJ c=false:=by
    have:c.w.all oJ=false:=by
     rw [aW];intro h;exact absurd (b6.1 h _ (aC a)) (eL j)
    rw [Cm,this];rfl
   exact l _ _ (by simp [go_sem,g])
  .exact wo (h:=wx f (i+1) ⟨wg,wj,(by rw [wP _ _ a,d];simpa using j)⟩)
 .have hA:c.w.all oJ=true:=by rw [aH bZ] at d;exact d
  have g:oJ c=decide ((c.n.j.h.length:Int)+c.n.j.i.length<=6):=by rw [Cm,hA];rfl
  exact wo (h:=l _ _ (by simp [go_sem,g]))
def aaO (p q:Pattern):Int:=((14 ^ (q.j.h.length - p.j.h.length) * 18 ^ (q.j.i.length - p.j.i.length):Nat):Int)
def KT (k:Int)(p' p:Pattern):Pattern:=if k=5 then p' else p
mutual
def n8:Cond→Pattern→Bool
 | .mk k l m p',p=>IZ l (KT k p' p)&&decide (aaO p (KT k p' p)≤5000)
def IZ:List Cond→Pattern→Bool
 | [],_=>true
 | c :: l,q=>n8 c q&&IZ l q
end
theorem RB (l:List Cond)(q:Pattern):IZ l q=l.all λc=>n8 c q:=by
 induction l with
 | nil=>simp [IZ]
 | cons a l ih=>simp [IZ,ih]
theorem Bu (c:Cond)(p:Pattern):n8 c p=((c.w.all λk=>n8 k (KT c.F c.n p))&&decide (aaO p (KT c.F c.n p)<=5000)):=by
 cases c;simp only [n8,RB,Cond.w,Cond.n,Cond.F];try rfl
theorem tT {a j:Nat}(ha:1<=a)(hj:j<=6):a ^ j<=a ^ 6/\1<=a ^ j:=⟨Nat.pow_le_pow_right ha hj,by first|exact Nat.one_le_pow _ _ ha|exact Nat.pow_pos ha|exact Nat.pos_pow_of_pos _ ha⟩
theorem LY (q:Pattern):q.c.take 5=q.c:=rfl
theorem JK:∀ c:Cond,c.ok->oJ c=true->∀ p:Pattern,p.j.h.length<=1000000->p.j.i.length<=1000000->Pua 133 [p.d,.agg c.c,dI 14,dI 18] (.bool (n8 c p)):=by
 refine Cond.bm λc Z hc O p a1 a0=>?_;obtain ⟨hs,hk⟩:=(wB c).1 hc;have q1:=hs.p1;have q2:=hs.p2;rw [Cm] at O;simp only [aL,decide_eq_true_eq,b6] at O;obtain ⟨q,D⟩:=gI (KT c.F c.n p);have m:q.j.h.length - p.j.h.length<=6/\q.j.i.length - p.j.i.length<=6/\q.j.h.length<=1000000/\q.j.i.length<=1000000:=by
  rw [<- D];unfold KT;split<;>omega
 refine Tz.pK ⟨λt=>t==9,λ_=>[]⟩ func133 rfl (λQ P=>?_);have Y:=@Cond.E;refine c8 (λU=>?_) λU=>?_
 .have hqc:c.n=q:=by rw [<- D];exact (if_pos U).symm
  refine wp (h:=bC (λi e H=>∃ w:Nat,(e 4=.adr p.c/\e 5=.adr c.c/\e 2=dI 14/\e 3=dI 18/\e 9=.ptr 0 1 0 0/\e 10=dI w/\e 11=dI i)/\(H.get 0=some ⟨33,5,[q.c],false⟩)/\(0<H.next)/\(p.j.h.length<=i)/\(i<=q.j.h.length\/i=p.j.h.length)/\(w=14 ^ (i - p.j.h.length))) (λi=>q.j.h.length - i) p.j.h.length ⟨1,wg,(by simp [go_sem,hqc,LY]),wn,wi,wi,(by simp)⟩ λI0 K i e H F=>?_);obtain ⟨w,X,A,r,hi,s,B⟩:=F;have Y:=xa2 Y X A (bP r);refine wv (h:=?_);repeat first|intro _|refine ⟨gX,?_⟩
  refine wq (λN=>?_) λN=>?_
  .have f:=(tT (a:=14) (j:=i - p.j.h.length) bZ bZ).1;rw [<- B] at f;have g:w<=7529536:=f;have Y:=wa Y N;exact wp (h:=wx K (i+1) ⟨(w * 14),wg,(by simp [go_sem,Y]),wn,wj,wj,(by rw [(bZ:i+1 - p.j.h.length=(i - p.j.h.length)+1),Nat.pow_succ,B])⟩)
  .have hw':w=14 ^ (q.j.h.length - p.j.h.length):=by rw [B];congr 1;omega
   have f:=(tT (a:=14) (j:=q.j.h.length - p.j.h.length) bZ m.1).1;rw [<- hw'] at f;have g:w<=7529536:=f;refine wp (h:=bC (λk e H=>∃ v:Nat,(e 4=.adr p.c/\e 5=.adr c.c/\e 2=dI 14/\e 3=dI 18/\e 9=.ptr 0 1 0 0/\e 10=dI v/\e 12=dI k)/\(H.get 0=some ⟨33,5,[q.c],false⟩)/\(0<H.next)/\(p.j.i.length<=k)/\(k<=q.j.i.length\/k=p.j.i.length)/\(v=w * 18 ^ (k - p.j.i.length))) (λk=>q.j.i.length - k) p.j.i.length ⟨w,wg,(by simp [go_sem,Y]),wn,wi,wi,(by simp)⟩ λI2 J k e H s=>?_);obtain ⟨v,W,z,o,T,S,C⟩:=s;have Y:=xa2 Y W z (bP o);refine wv (h:=?_);repeat first|intro _|refine ⟨gX,?_⟩
   refine wq (λu=>?_) λu=>?_
   .have hvb:=(tT (a:=18) (j:=k - p.j.i.length) bZ bZ).1;have M:v<=7529536 * 34012224:=by rw [C];exact kZ g hvb
    have Y:=wa Y u;exact wp (h:=wx J (k+1) ⟨(v * 18),wg,(by simp [go_sem,Y]),wn,wj,wj,(by rw [(bZ:k+1 - p.j.i.length=(k - p.j.i.length)+1),Nat.pow_succ,C,Nat.mul_assoc])⟩)
   .have hv':v=w * 18 ^ (q.j.i.length - p.j.i.length):=by rw [C];congr 2;omega
    refine wv (h:=bC (λj e H=>(e 4=.adr p.c/\e 5=.adr c.c/\e 2=dI 14/\e 3=dI 18/\e 9=.ptr 0 1 0 0/\e 10=dI v/\e 13=dI j)/\(H.get 0=some ⟨33,5,[q.c],false⟩)/\(0<H.next)/\(j<=c.w.length)/\((c.w.take j).all (λx=>n8 x q)=true)) (λj=>c.w.length - j) 0 ⟨wg,(by simp [go_sem,Y]),wn,wi,(by rfl)⟩ λI4 I j e H E=>?_);obtain ⟨V,y,n,hj,G⟩:=E;have Y:=xa2 Y V y (bP n);refine wv (h:=?_);repeat first|intro _|refine ⟨gX,?_⟩
    refine wq (λb=>?_) λb=>?_
    .have Y:=xa2 Y b (aA b) @LY;refine wp (h:=aI ((by have R:=Z _ (aC b) (hk _ (aC b)) (O.1 _ (aC b)) q m.2.2.1 m.2.2.2;rwa [Cond.E] at R)) wl ?_);refine kI (λl=>?_) λl=>?_
     .refine wv (h:=?_);have L:n8 c p=false:=by
       have:(c.w.all λx=>n8 x q)=false:=by
        rw [aW];intro h;exact absurd (b6.1 h _ (aC b)) (eL l)
       rw [Bu,D,this];rfl
      exact P _ _ (by simp [go_sem,L])
     .exact wp (h:=wx I (j+1) ⟨wg,(by simp [go_sem,Y]),wn,wj,(by rw [wP _ _ b,G];simpa using l)⟩)
    .have hA:(c.w.all λx=>n8 x q)=true:=by rw [aH bZ] at G;exact G
     have L:n8 c p=decide ((v:Int)<=5000):=by rw [Bu,D,hA,hv',hw'];rfl
     exact wv (h:=P _ _ (by simp [go_sem,L]))
 .have hqc:p=q:=by rw [<- D];exact (if_neg U).symm
  refine wp (h:=bC (λi e H=>∃ w:Nat,(e 4=.adr p.c/\e 5=.adr c.c/\e 2=dI 14/\e 3=dI 18/\e 9=.ptr 0 1 0 0/\e 10=dI w/\e 11=dI i)/\(H.get 0=some ⟨33,5,[q.c],false⟩)/\(0<H.next)/\(p.j.h.length<=i)/\(i<=q.j.h.length\/i=p.j.h.length)/\(w=14 ^ (i - p.j.h.length))) (λi=>q.j.h.length - i) p.j.h.length ⟨1,wg,(by simp [go_sem,hqc,LY]),wn,wi,wi,(by simp)⟩ λI0 K i e H F=>?_);obtain ⟨w,X,A,r,hi,s,B⟩:=F;have Y:=xa2 Y X A (bP r);refine wv (h:=?_);repeat first|intro _|refine ⟨gX,?_⟩
  refine wq (λN=>?_) λN=>?_
  .have f:=(tT (a:=14) (j:=i - p.j.h.length) bZ bZ).1;rw [<- B] at f;have g:w<=7529536:=f;have Y:=wa Y N;exact wp (h:=wx K (i+1) ⟨(w * 14),wg,(by simp [go_sem,Y]),wn,wj,wj,(by rw [(bZ:i+1 - p.j.h.length=(i - p.j.h.length)+1),Nat.pow_succ,B])⟩)
  .have hw':w=14 ^ (q.j.h.length - p.j.h.length):=by rw [B];congr 1;omega
   have f:=(tT (a:=14) (j:=q.j.h.length - p.j.h.length) bZ m.1).1;rw [<- hw'] at f;have g:w<=7529536:=f;refine wp (h:=bC (λk e H=>∃ v:Nat,(e 4=.adr p.c/\e 5=.adr c.c/\e 2=dI 14/\e 3=dI 18/\e 9=.ptr 0 1 0 0/\e 10=dI v/\e 12=dI k)/\(H.get 0=some ⟨33,5,[q.c],false⟩)/\(0<H.next)/\(p.j.i.length<=k)/\(k<=q.j.i.length\/k=p.j.i.length)/\(v=w * 18 ^ (k - p.j.i.length))) (λk=>q.j.i.length - k) p.j.i.length ⟨w,wg,(by simp [go_sem,Y]),wn,wi,wi,(by simp)⟩ λI2 J k e H s=>?_);obtain ⟨v,W,z,o,T,S,C⟩:=s;have Y:=xa2 Y W z (bP o);refine wv (h:=?_);repeat first|intro _|refine ⟨gX,?_⟩
   refine wq (λu=>?_) λu=>?_
   .have hvb:=(tT (a:=18) (j:=k - p.j.i.length) bZ bZ).1;have M:v<=7529536 * 34012224:=by rw [C];exact kZ g hvb
    have Y:=wa Y u;exact wp (h:=wx J (k+1) ⟨(v * 18),wg,(by simp [go_sem,Y]),wn,wj,wj,(by rw [(bZ:k+1 - p.j.i.length=(k - p.j.i.length)+1),Nat.pow_succ,C,Nat.mul_assoc])⟩)
   .have hv':v=w * 18 ^ (q.j.i.length - p.j.i.length):=by rw [C];congr 2;omega
    refine wv (h:=bC (λj e H=>(e 4=.adr p.c/\e 5=.adr c.c/\e 2=dI 14/\e 3=dI 18/\e 9=.ptr 0 1 0 0/\e 10=dI v/\e 13=dI j)/\(H.get 0=some ⟨33,5,[q.c],false⟩)/\(0<H.next)/\(j<=c.w.length)/\((c.w.take j).all (λx=>n8 x q)=true)) (λj=>c.w.length - j) 0 ⟨wg,(by simp [go_sem,Y]),wn,wi,(by rfl)⟩ λI4 I j e H E=>?_);obtain ⟨V,y,n,hj,G⟩:=E;have Y:=xa2 Y V y (bP n);refine wv (h:=?_);repeat first|intro _|refine ⟨gX,?_⟩
    refine wq (λb=>?_) λb=>?_
    .have Y:=xa2 Y b (aA b) @LY;refine wp (h:=aI ((by have R:=Z _ (aC b) (hk _ (aC b)) (O.1 _ (aC b)) q m.2.2.1 m.2.2.2;rwa [Cond.E] at R)) wl ?_);refine kI (λl=>?_) λl=>?_
     .refine wv (h:=?_);have L:n8 c p=false:=by
       have:(c.w.all λx=>n8 x q)=false:=by
        rw [aW];intro h;exact absurd (b6.1 h _ (aC b)) (eL l)
       rw [Bu,D,this];rfl
      exact P _ _ (by simp [go_sem,L])
     .exact wp (h:=wx I (j+1) ⟨wg,(by simp [go_sem,Y]),wn,wj,(by rw [wP _ _ b,G];simpa using l)⟩)
    .have hA:(c.w.all λx=>n8 x q)=true:=by rw [aH bZ] at G;exact G
     have L:n8 c p=decide ((v:Int)<=5000):=by rw [Bu,D,hA,hv',hw'];rfl
     exact wv (h:=P _ _ (by simp [go_sem,L]))
def GL (t:Types)(p:Pattern)(c:Cond)(h:Host):Bool:=fewC c&&fewP p&&DH h&&(decide (condF t p c≠0)||(light21 t p h&&oJ c&&decide ((h.j.h.length:Int)<=6)&&decide ((h.j.i.length:Int)<=8)&&n8 c p))
theorem Od (t:Types)(m:t.ok)(p:Pattern)(c:Cond)(o:c.le)(h:Host):Pua 63 [t.d,p.d,.agg c.c,h.d] (.bool (GL t p c h)):=by
 refine Tz.p0 func63 rfl λQ n _=>?_;have Y:=xa1 @Host.c.eq_1 @Pattern.c.eq_1 @Cond.E;refine wo (h:=aB ((by have b:=KE c o;rwa [Cond.E] at b)) wl ?_);refine wo (h:=aG (λa=>w8 p) (λa=>wl) ?_);refine wo (h:=aG (λa=>Ez h) (λa=>wl) ?_);refine dW (λl=>?_) λl=>?_
 .have hF:(fewC c&&fewP p&&DH h)=false:=by cases k:fewC c<;>cases j:fewP p<;>cases i:DH h<;>simp [k,j,i] at l<;>rfl
  exact wv (h:=n _ _ (by simp [go_sem,GL,hF]))
 .have hF:fewC c=true/\fewP p=true/\DH h=true:=by cases k:fewC c<;>cases j:fewP p<;>cases i:DH h<;>simp [k,j,i] at l<;>exact ⟨rfl,rfl,rfl⟩
  have f:c.ok/\c.size<=1000000:=by
   have g:=hF.1;simp [fewC] at g;have q:=Dv c 40 bZ g;exact ⟨q.1,bZ⟩
  have e:p.j.h.length<=1000000/\p.j.i.length<=1000000:=by
   have g:=hF.2.1;simp [fewP,fewG] at g;omega
  refine wo (h:=aB ((by have b:=Fx t m p c f.1 f.2;rwa [Cond.E] at b)) wl ?_);refine wo (h:=aG (λa=>Oh t m p h) (λa=>wl) ?_);refine wo (h:=aG (λa=>(by have b:=Mo c f.1;rwa [Cond.E] at b)) (λa=>wl) ?_);refine wo (h:=aG (λa=>(by have b:=JK c f.1 (by simp at a;simp_all) p e.1 e.2;rwa [Cond.E] at b)) (λa=>wl) ?_);exact wo (h:=n _ _ (by simp [go_sem,GL,hF.1,hF.2.1,hF.2.2]))
def light26 (t:Types)(r:Rule)(h:Host):Bool:=sV t&&fewR r&&GL t r.left r.cond h
theorem Mk (t:Types)(g:∀ n∈t.h,n.y.length<=1000000000000000)(r:Rule)(e:r.le)(h:Host):Pua 23 [t.d,r.d,h.d] (.bool (light26 t r h)):=by
 refine Tz.p0 func23 rfl λQ f _=>?_;have Y:=xa1 @Host.c.eq_1 @Rule.c.eq_1 @Cond.E;refine wo (h:=aB (EA t g) wl ?_);refine wo (h:=aG (λa=>(by have b:=KD r e;simpa [Rule.d,Rule.c,Cond.E,go_sem] using b)) (λa=>wl) ?_);refine wo (h:=aG (λa=>(by have b:=Od t (DG (by simp at a;exact a.1)) r.left r.cond e.cond h;rwa [Cond.E] at b)) (λa=>wl) ?_);have Y:=wa Y @light26.eq_1;exact wo (h:=f _ _ wy)
theorem QZ {t:Types}{r:Rule}{h:Host}(a:light26 t r h=true):t.ok/\r.ok:=by
 unfold light26 at a;simp only [aL] at a;exact ⟨DG a.1.1,WX a.1.2⟩
theorem UH (l:List ByteArray):eU (l.map cS)=l.map cS:=jL λc hc=>by
 rw [aV] at hc;obtain ⟨x,_,rfl⟩:=hc;rfl
theorem Tv (l:List Attr):eU (l.map Attr.c)=l.map Attr.c:=jL λc hc=>by
 rw [aV] at hc;obtain ⟨x,_,rfl⟩:=hc;simp [Attr.c,jM,mM,uZ,dI,UH]
theorem Tu (l:List NodeTy):eU (l.map NodeTy.c)=l.map NodeTy.c:=jL λc hc=>by
 rw [aV] at hc;obtain ⟨x,_,rfl⟩:=hc;simp [NodeTy.c,jM,mM,dI,Tv]
theorem ON (l:List EdgeTy):eU (l.map EdgeTy.c)=l.map EdgeTy.c:=jL λc hc=>by
 rw [aV] at hc;obtain ⟨x,_,rfl⟩:=hc;simp [EdgeTy.c,jM,mM,dI]
theorem Pure.de {P:Program}{f:FuncId}{args args':Xa2}{r:D}(c:Pure P f args' r)(i:args.map mM=args'):Pure P f args r:=by
 subst i;refine ⟨c.1,λM w a k b=>c.2 M w a k ⟨by simpa using b.len,λj u d h e=>?_⟩⟩;rw [aP,bN] at e;obtain ⟨y,g,rfl⟩:=e;exact MB (b.ad j u y h g)
deriving instance DecidableEq for Term
deriving instance DecidableEq for Slot
deriving instance DecidableEq for Test
deriving instance DecidableEq for Pattern
mutual
def Ut:Cond→Cond→Bool
 | .mk k l m p,.mk k' l' m' p'=>decide (k=k')&&decide (m=m')&&decide (p=p')&&Cc l l'
def Cc:List Cond→List Cond→Bool
 | [],[]=>true
 | [],_ :: _=>false
 | _ :: _,[]=>false
 | a :: l,b :: l'=>Ut a b&&Cc l l'
end
mutual
theorem Ky:∀ a b:Cond,Ut a b=true↔a=b
 | .mk k l m p,.mk k' l' m' p'=>by
  have:=Hj l l';simp only [Ut,aL,decide_eq_true_eq,this,Cond.mk.injEq];constructor
  ·rintro ⟨⟨⟨h1,h2⟩,h3⟩,h4⟩;exact ⟨h1,h4,h2,h3⟩
  ·rintro ⟨h1,h4,h2,h3⟩;exact ⟨⟨⟨h1,h2⟩,h3⟩,h4⟩
theorem Hj:∀ a b:List Cond,Cc a b=true↔a=b
 | [],[]=>by simp [Cc]
 | [],_ :: _=>by simp [Cc]
 | _ :: _,[]=>by simp [Cc]
 | a :: l,b :: l'=>by
  have h1:=Ky a b;have h2:=Hj l l';simp [Cc,h1,h2]
end
instance:DecidableEq Cond:=fun a b=>decidable_of_iff _ (Ky a b)
deriving instance DecidableEq for Rule
deriving instance DecidableEq for Stp26
theorem Kx {x y:Slot}(h:x.node=y.node/\x.P=y.P/\x.C.R=y.C.R/\x.C.add=y.C.add):x=y:=by
 obtain ⟨a,b,⟨c,d⟩⟩:=x;obtain ⟨e,f,⟨g,i⟩⟩:=y;obtain ⟨rfl,rfl,rfl,rfl⟩:=h;rfl
theorem Kt {x y:Test}(h:x.F=y.F/\x.left.R=y.left.R/\x.left.add=y.left.add/\x.right.R=y.right.R/\x.right.add=y.right.add):x=y:=by
 obtain ⟨a,⟨b,c⟩,⟨d,e⟩⟩:=x;obtain ⟨f,⟨g,i⟩,⟨j,k⟩⟩:=y;obtain ⟨rfl,rfl,rfl,rfl,rfl⟩:=h;rfl
theorem QQ (a b:Pattern):decide (a=b)=(decide (a.j=b.j)&&decide (a.vars=b.vars)&&decide (a.q=b.q)&&decide (a.I=b.I)):=by
 rw [aU];cases a;cases b;simp [Cond.F,Cond.w,Cond.map,Cond.n,and_comm,and_left_comm,and_assoc]
theorem SA (a b:Cond):decide (a=b)=(decide (a.F=b.F)&&decide (a.map=b.map)&&decide (a.n=b.n)&&decide (a.w=b.w)):=by
 rw [aU];simp only [aL,decide_eq_true_eq];cases a;cases b
 simp only [Cond.mk.injEq,Cond.F,Cond.w,Cond.map,Cond.n];constructor
 .rintro ⟨f,e,d,c⟩;exact ⟨⟨⟨f,d⟩,c⟩,e⟩
 .rintro ⟨⟨⟨f,d⟩,c⟩,e⟩;exact ⟨f,e,d,c⟩
theorem RS (a b:Rule):decide (a=b)=(decide (a.name=b.name)&&decide (a.inj=b.inj)&&decide (a.left=b.left)&&decide (a.right=b.right)&&decide (a.u=b.u)&&decide (a.A=b.A)&&decide (a.cond=b.cond)):=by
 rw [aU];cases a;cases b;simp [Cond.F,Cond.w,Cond.map,Cond.n,and_comm,and_left_comm,and_assoc]
theorem Uo (a b:Stp26):decide (a=b)=(decide (a.x=b.x)&&decide (a.X=b.X)&&decide (a.D=b.D)&&decide (a.after=b.after)&&decide (a.Q=b.Q)&&decide (a.M=b.M)):=by
 rw [aU];cases a;cases b;simp [and_assoc]
theorem Cx (a b:List Edge):Pua 138 [.list (a.map Edge.c),.list (b.map Edge.c)] (.bool (decide (a=b))):=by
 refine Tz.p0 func138 rfl λQ k Y=>?_;refine wv (h:=?_);repeat first|intro _|refine ⟨iF,?_⟩
 refine wq (λn=>?_) λn=>?_
 .refine wv (h:=?_);have d:a≠b:=by intro h;subst h;omega
  exact k _ _ (by simp [go_sem,d])
 .refine wo (h:=bC (λi e H=>(e 0=.list (a.map Edge.c)/\e 1=.list (b.map Edge.c)/\e 12=dI a.length/\e 13=dI i)/\(i<=a.length)/\(a.take i=b.take i)) (λi=>a.length - i) 0 ⟨wg,wi,(by rfl)⟩ λq l i e H g=>?_);obtain ⟨o,p,j⟩:=g;have Y:=wa Y o;refine c8 (λf=>?_) λf=>?_
  .have hib:i<b.length:=bZ;have Y:=xa2 Y f (aA f) (aA hib);refine wv (h:=?_);repeat first|intro _|refine ⟨iF,?_⟩
   refine wq (λm=>?_) λm=>?_
   .refine wv (h:=?_);have d:a≠b:=by intro h;subst h;simp at m
    exact k _ _ (by simp [go_sem,d])
   .exact wo (h:=wx l (i+1) ⟨wg,wj,(by rw [aF f,aF hib,j,Ls m])⟩)
  .have hab:a=b:=by rw [aH bZ,aH bZ] at j;exact j
   exact wv (h:=k _ _ (by simp [go_sem,hab]))
theorem IG (a b:List Slot):Pua 136 [.list (a.map Slot.c),.list (b.map Slot.c)] (.bool (decide (a=b))):=by
 refine Tz.p0 func136 rfl λQ k Y=>?_;refine wv (h:=?_);repeat first|intro _|refine ⟨iF,?_⟩
 refine wq (λn=>?_) λn=>?_
 .refine wv (h:=?_);have d:a≠b:=by intro h;subst h;omega
  exact k _ _ (by simp [go_sem,d])
 .refine wo (h:=bC (λi e H=>(e 0=.list (a.map Slot.c)/\e 1=.list (b.map Slot.c)/\e 12=dI a.length/\e 13=dI i)/\(i<=a.length)/\(a.take i=b.take i)) (λi=>a.length - i) 0 ⟨wg,wi,(by rfl)⟩ λq l i e H g=>?_);obtain ⟨o,p,j⟩:=g;have Y:=wa Y o;refine c8 (λf=>?_) λf=>?_
  .have hib:i<b.length:=bZ;have Y:=xa2 Y f (aA f) (aA hib);refine wv (h:=?_);repeat first|intro _|refine ⟨iF,?_⟩
   refine wq (λm=>?_) λm=>?_
   .refine wv (h:=?_);have d:a≠b:=by intro h;subst h;simp at m
    exact k _ _ (by simp [go_sem,d])
   .exact wo (h:=wx l (i+1) ⟨wg,wj,(by rw [aF f,aF hib,j,Kx m])⟩)
  .have hab:a=b:=by rw [aH bZ,aH bZ] at j;exact j
   exact wv (h:=k _ _ (by simp [go_sem,hab]))
theorem IF (a b:List Test):Pua 137 [.list (a.map Test.c),.list (b.map Test.c)] (.bool (decide (a=b))):=by
 refine Tz.p0 func137 rfl λQ k Y=>?_;refine wv (h:=?_);repeat first|intro _|refine ⟨iF,?_⟩
 refine wq (λn=>?_) λn=>?_
 .refine wv (h:=?_);have d:a≠b:=by intro h;subst h;omega
  exact k _ _ (by simp [go_sem,d])
 .refine wo (h:=bC (λi e H=>(e 0=.list (a.map Test.c)/\e 1=.list (b.map Test.c)/\e 12=dI a.length/\e 13=dI i)/\(i<=a.length)/\(a.take i=b.take i)) (λi=>a.length - i) 0 ⟨wg,wi,(by rfl)⟩ λq l i e H g=>?_);obtain ⟨o,p,j⟩:=g;have Y:=wa Y o;refine c8 (λf=>?_) λf=>?_
  .have hib:i<b.length:=bZ;have Y:=xa2 Y f (aA f) (aA hib);refine wv (h:=?_);repeat first|intro _|refine ⟨iF,?_⟩
   refine wq (λm=>?_) λm=>?_
   .refine wv (h:=?_);have d:a≠b:=by intro h;subst h;simp at m
    exact k _ _ (by simp [go_sem,d])
   .exact wo (h:=wx l (i+1) ⟨wg,wj,(by rw [aF f,aF hib,j,Kt m])⟩)
  .have hab:a=b:=by rw [aH bZ,aH bZ] at j;exact j
   exact wv (h:=k _ _ (by simp [go_sem,hab]))
theorem As (a b:Pattern):Pua 79 [a.d,b.d] (.bool (decide (a=b))):=by
 refine Tz.p0 func79 rfl λQ l Y=>?_;refine wo (h:=aB (Fz a.j b.j) wl ?_);refine dW (λu=>?_) λu=>?_
 .refine wv (h:=?_);have f:a≠b:=by intro h;subst h;simp at u
  exact l _ _ (by simp [go_sem,f])
 .have hab:((a.j=b.j/\a.vars=b.vars)/\a.q.length=b.q.length)/\a.I.length=b.I.length:=by (try simp at u);refine ⟨⟨⟨?_,?_⟩,?_⟩,?_⟩<;>first|(simp_all;done)|omega
  refine wv (h:=bC (λi e H=>(e 2=.adr a.c/\e 3=.adr b.c/\e 5=dI i)/\(i<=a.q.length)/\(a.q.take i=b.q.take i)) (λi=>a.q.length - i) 0 ⟨wg,wi,(by rfl)⟩ λA s i e H p=>?_);obtain ⟨w,y,q⟩:=p;have Y:=wa Y w;refine wv (h:=?_);repeat first|intro _|refine ⟨iF,?_⟩
  refine wq (λn=>?_) λn=>?_
  .have hib:i<b.q.length:=bZ;have Y:=xa2 Y n (aA n) (aA hib);refine dW (λt=>?_) λt=>?_
   .refine wv (h:=?_);have f:a≠b:=by intro h;subst h;simp at t
    exact l _ _ (by simp [go_sem,f])
   .exact wo (h:=wx s (i+1) ⟨wg,wj,(by rw [aF n,aF hib,q,Kx t])⟩)
  .have hS:a.q=b.q:=by rw [aH bZ,aH bZ] at q;exact q
   refine wv (h:=bC (λk e H=>(e 2=.adr a.c/\e 3=.adr b.c/\e 6=dI k)/\(k<=a.I.length)/\(a.I.take k=b.I.take k)) (λk=>a.I.length - k) 0 ⟨wg,wi,(by rfl)⟩ λz r k e H o=>?_);obtain ⟨v,x,g⟩:=o;have Y:=wa Y v;refine wv (h:=?_);repeat first|intro _|refine ⟨iF,?_⟩
   refine wq (λm=>?_) λm=>?_
   .have hkb:k<b.I.length:=bZ;have Y:=xa2 Y m (aA m) (aA hkb);refine dW (λj=>?_) λj=>?_
    .refine wv (h:=?_);have f:a≠b:=by intro h;subst h;simp at j
     exact l _ _ (by simp [go_sem,f])
    .exact wo (h:=wx r (k+1) ⟨wg,wj,(by rw [aF m,aF hkb,g,Kt j])⟩)
   .have hT:a.I=b.I:=by rw [aH bZ,aH bZ] at g;exact g
    exact wv (h:=l _ _ (by simp [go_sem,QQ,hab.1.1.1,hab.1.1.2,hS,hT]))
theorem Oc:∀ a b:Cond,Pua 81 [.agg a.c,.agg b.c] (.bool (decide (a=b))):=by
 refine Cond.bm λa p b=>?_;simp only [Cond.E];refine Tz.p0 func81 rfl λQ l _=>?_;have Y:=@Cond.E;refine wo (h:=aG (λj=>vI a.map b.map) (λj=>wl) ?_);refine wo (h:=aG (λj=>As a.n b.n) (λj=>wl) ?_);refine dW (λo=>?_) λo=>?_
 .refine wv (h:=?_);have d:a≠b:=by intro h;subst h;simp at o
  exact l _ _ (by simp [go_sem,d])
 .have hab:((a.F=b.F/\a.w.length=b.w.length)/\a.map=b.map)/\a.n=b.n:=by (try simp at o);refine ⟨⟨⟨?_,?_⟩,?_⟩,?_⟩<;>first|(simp_all;done)|omega
  refine wv (h:=bC (λi e H=>(e 2=.adr a.c/\e 3=.adr b.c/\e 5=dI i)/\(i<=a.w.length)/\(a.w.take i=b.w.take i)) (λi=>a.w.length - i) 0 ⟨wg,wi,(by rfl)⟩ λt m i e H g=>?_);obtain ⟨r,s,k⟩:=g;have Y:=wa Y r;refine wv (h:=?_);repeat first|intro _|refine ⟨iF,?_⟩
  refine wq (λf=>?_) λf=>?_
  .have hib:i<b.w.length:=bZ;have Y:=xa2 Y f (aA f) (aA hib);refine wo (h:=aI ((by have q:=p _ (aC f) b.w[i];rwa [Cond.E,Cond.E] at q)) wl ?_);refine dW (λn=>?_) λn=>?_
   .refine wv (h:=?_);have d:a≠b:=by intro h;subst h;simp at n
    exact l _ _ (by simp [go_sem,d])
   .exact wo (h:=wx m (i+1) ⟨wg,wj,(by rw [aF f,aF hib,k,n])⟩)
  .have hK:a.w=b.w:=by rw [aH bZ,aH bZ] at k;exact k
   exact wv (h:=l _ _ (by simp [go_sem,SA,hab.1.1.1,hab.1.2,hab.2,hK]))
theorem Fw (a b:Rule):Pua 34 [a.d,b.d] (.bool (decide (a=b))):=by
 have e:=Oc a.cond b.cond;rw [Cond.E,Cond.E] at e;refine Tz.p0 func34 rfl λQ f Y=>?_;refine wo (h:=aG (λc=>As a.left b.left) (λc=>wl) ?_);refine wo (h:=aG (λc=>As a.right b.right) (λc=>wl) ?_);refine wo (h:=aG (λc=>Oo a.u b.u) (λc=>wl) ?_);refine wo (h:=aG (λc=>vI a.A b.A) (λc=>wl) ?_);refine wo (h:=aG (λc=>e) (λc=>wl) ?_);have Y:=wa Y @RS;exact wo (h:=f _ _ wy)
theorem vD (a b:Stp26)(g:∀ i (g:i<a.D.k.length) (f:i<b.D.k.length),Ba a.D.k[i] b.D.k[i])(f:∀ i (g:i<a.after.k.length) (f:i<b.after.k.length),Ba a.after.k[i] b.after.k[i]) :
  Pua 11 [.agg a.c,.agg b.c] (.bool (decide (a=b))):=by
 refine Tz.p0 func11 rfl λQ k _=>?_;have Y:=xa2 @Stp26.c.eq_1 @Rule.c.eq_1 @Mat.c.eq_1 @Host.c.eq_1;refine Gf (h:=aB (Ax a.D b.D g) wl ?_);refine Gf (h:=aG (λe=>Ax a.after b.after f) (λe=>wl) ?_);refine Gf (h:=aG (λe=>Fw a.x b.x) (λe=>wl) ?_);refine Gf (h:=aG (λe=>(by have j:=Ey a.X b.X;unfold Mat.d Mat.c at j;exact j)) (λe=>wl) ?_);refine Gf (h:=aG (λe=>vI a.Q b.Q) (λe=>wl) ?_);refine Gf (h:=aG (λe=>vI a.M b.M) (λe=>wl) ?_);exact Gf (h:=k _ _ (by rw [Uo];simp [go_sem,Bool.and_comm,Bool.and_left_comm,gA]))
/-! ### the program -/
theorem n5 (a b:Part):Pua 67 [a.d,b.d] (.bool (decide (a=b))):=by
 refine Tz.p0 func67 rfl λQ e Y=>?_;refine wo (h:=aB (l8 a.h b.h) wl ?_);refine wo (h:=aG (λc=>l8 a.i b.i) (λc=>wl) ?_);have Y:=wa Y @Dh;exact wo (h:=e _ _ wy)
theorem Pc (a b:Graph):Pua 135 [a.d,b.d] (.bool (decide (a=b))):=by
 refine Tz.p0 func135 rfl λQ e Y=>?_;refine wo (h:=aB (l8 a.h b.h) wl ?_);refine wo (h:=aG (λc=>Cx a.i b.i) (λc=>wl) ?_);have Y:=wa Y @DD;exact wo (h:=e _ _ wy)
theorem vA (a b:Pattern):Pua 65 [a.d,b.d] (.bool (decide (a=b))):=by
 refine Tz.p0 func65 rfl λQ e Y=>?_;refine wo (h:=aB (Pc a.j b.j) wl ?_);refine wo (h:=aG (λc=>IG a.q b.q) (λc=>wl) ?_);refine wo (h:=aG (λc=>IF a.I b.I) (λc=>wl) ?_);have Y:=wa Y @QQ;exact wo (h:=e _ _ wy)
theorem IH (a b:Yb)(g:FuncId)(n:∀ x y:Xa0,Pure prog g [dLI x,dLI y] (.bool (decide (x=y)))):Pua 184 [.list (a.map cL),.list (b.map cL),.fn g []] (.bool (decide (a=b))):=by
 refine Tz.p0 func184 rfl λQ k Y=>?_;refine wv (h:=?_);repeat first|intro _|refine ⟨iF,?_⟩
 refine wq (λo=>?_) λo=>?_
 .refine wv (h:=?_);have c:a≠b:=by intro h;subst h;omega
  exact k _ _ (by simp [go_sem,c])
 .refine wo (h:=bC (λi e H=>(e 0=.list (a.map cL)/\e 1=.list (b.map cL)/\e 2=.fn g []/\e 15=.list (a.map cL)/\e 16=dI a.length/\e 17=dI i)/\(i<=a.length)/\(a.take i=b.take i)) (λi=>a.length - i) 0 ⟨wg,wi,(by rfl)⟩ λr l i e H f=>?_);obtain ⟨p,q,j⟩:=f;have Y:=wa Y p;refine c8 (λd=>?_) λd=>?_
  .have hib:i<b.length:=bZ;have Y:=xa3 Y d (aA d) (aA hib) @cL.eq_1;refine wo (h:=aB (n a[i] b[i]) wl ?_);refine wv (h:=?_);repeat first|intro _|refine ⟨iF,?_⟩
   refine wq (λm=>?_) λm=>?_
   .refine wv (h:=?_);have c:a≠b:=by intro h;subst h;exact m rfl
    exact k _ _ (by simp [go_sem,c])
   .exact wo (h:=wx l (i+1) ⟨wg,wj,(by rw [aF d,aF hib,j,m])⟩)
  .have hab:a=b:=by rw [aH bZ,aH bZ] at j;exact j
   exact wv (h:=k _ _ (by simp [go_sem,hab]))
theorem II (a b:List Cond)(g:FuncId)(p:∀ x∈a,∀ y:Cond,Pure prog g [.agg x.c,.agg y.c] (.bool (decide (x=y)))):Pua 139 [.list (a.map Cond.c),.list (b.map Cond.c),.fn g []] (.bool (decide (a=b))):=by
 refine Tz.pK ⟨λt=>t==8||t==9,λ_=>[]⟩ func139 rfl (λQ l=>?_);have Y:=@Cond.E;refine wv (h:=?_);repeat first|intro _|refine ⟨iF,?_⟩
 refine wq (λq=>?_) λq=>?_
 .refine wv (h:=?_);have d:a≠b:=by intro h;subst h;omega
  exact l _ _ (by simp [go_sem,d])
 .refine wo (h:=bC (λi e H=>(e 0=.list (a.map Cond.c)/\e 1=.list (b.map Cond.c)/\e 2=.fn g []/\e 15=.list (a.map Cond.c)/\e 16=dI a.length/\e 17=dI i)/\(i<=a.length)/\(a.take i=b.take i)) (λi=>a.length - i) 0 ⟨wg,wi,(by rfl)⟩ λu m i e H j=>?_);obtain ⟨r,s,k⟩:=j;have Y:=wa Y r;refine c8 (λf=>?_) λf=>?_
  .have hib:i<b.length:=bZ;have Y:=xa2 Y f (aA f) (aA hib);refine wo (h:=aB ((by have o:=p _ (aC f) b[i];rwa [Cond.E,Cond.E] at o)) wl ?_);refine wv (h:=?_);repeat first|intro _|refine ⟨iF,?_⟩
   refine wq (λn=>?_) λn=>?_
   .refine wv (h:=?_);have d:a≠b:=by intro h;subst h;exact n rfl
    exact l _ _ (by simp [go_sem,d])
   .exact wo (h:=wx m (i+1) ⟨wg,wj,(by rw [aF f,aF hib,k,n])⟩)
  .have hab:a=b:=by rw [aH bZ,aH bZ] at k;exact k
   exact wv (h:=l _ _ (by simp [go_sem,hab]))
theorem Gx:∀ a b:Cond,Pua 68 [.agg a.c,.agg b.c] (.bool (decide (a=b))):=by
 refine Cond.bm λa i b=>?_;simp only [Cond.E];refine Tz.pK ⟨λt=>t==5||t==6,λr=>match r with|1=>[(0,4),(1,4),(2,4),(3,4),(0,5),(1,5),(2,5),(3,5),(4,5),(2,6),(3,6)]|_=>[]⟩ func68 rfl (λQ g=>?_);have Y:=@Cond.E;refine wo (h:=aG (λd=>n5 a.map b.map) (λd=>wl) ?_);refine wo (h:=aG (λd=>l8 a.n.j.h b.n.j.h) (λd=>wl) ?_);refine wo (h:=aG (λd=>Cx a.n.j.i b.n.j.i) (λd=>wl) ?_);refine dW (λf=>?_) λf=>?_
 .refine wv (h:=?_);have e:a≠b:=by intro h;subst h;simp at f
  exact g _ _ (by simp [go_sem,e])
 .have hab:(((a.F=b.F/\a.map=b.map)/\a.n.vars=b.n.vars)/\a.n.j.h=b.n.j.h)/\a.n.j.i=b.n.j.i:=by (try simp at f);refine ⟨⟨⟨⟨?_,?_⟩,?_⟩,?_⟩,?_⟩<;>first|(simp_all;done)|omega
  refine wo (h:=aB (IG a.n.q b.n.q) wl ?_);refine wo (h:=aG (λd=>IF a.n.I b.n.I) (λd=>wl) ?_);refine wo (h:=aG (λd=>II a.w b.w 68 i) (λd=>wl) ?_);exact wo (h:=g _ _ (by rw [SA,QQ,DD];simp [go_sem,hab.1.1.1.1,hab.1.1.1.2,hab.1.1.2,hab.1.2,hab.2]))
theorem Hl (a b:Rule):Pua 27 [a.d,b.d] (.bool (decide (a=b))):=by
 have e:=Gx a.cond b.cond;rw [Cond.E,Cond.E] at e;refine Tz.p0 func27 rfl λQ f Y=>?_;refine wo (h:=aG (λc=>vA a.left b.left) (λc=>wl) ?_);refine wo (h:=aG (λc=>vA a.right b.right) (λc=>wl) ?_);refine wo (h:=aG (λc=>l8 a.u.h b.u.h) (λc=>wl) ?_);refine wo (h:=aG (λc=>l8 a.u.i b.u.i) (λc=>wl) ?_);refine wo (h:=aG (λc=>n5 a.A b.A) (λc=>wl) ?_);refine wo (h:=aG (λc=>e) (λc=>wl) ?_);exact wo (h:=f _ _ (by rw [RS,Dh a.u b.u];simp [go_sem,gA]))
theorem Gi (a b:Mat):Pua 134 [a.d,b.d] (.bool (decide (a=b))):=by
 refine Tz.p0 func134 rfl λQ f _=>?_;have Y:=wa @Mat.d.eq_1 @Mat.c.eq_1;refine wo (h:=aB (n5 a.m b.m) wl ?_);refine wo (h:=aG (λe=>l8 a.vars b.vars) (λe=>wl) ?_);have Y:=wa Y @UN;exact wo (h:=f _ _ wy)
theorem Cs (a b:Host):Pua 101 [a.d,b.d] (.bool (decide (a=b))):=by
 refine Tz.p0 func101 rfl λQ f _=>?_;have Y:=wa @Host.d.eq_1 @Host.c.eq_1;refine wo (h:=aB (l8 a.j.h b.j.h) wl ?_);refine wo (h:=aG (λe=>Cx a.j.i b.j.i) (λe=>wl) ?_);refine wo (h:=aG (λe=>IH a.k b.k 66 l8) (λe=>wl) ?_);have Y:=xa1 Y @Sj @DD;exact wo (h:=f _ _ wy)
theorem Qn (a b:Stp26):Pua 64 [.agg a.c,.agg b.c] (.bool (decide (a=b))):=by
 refine Tz.p0 func64 rfl λQ g _=>?_;have Y:=xa2 @Stp26.c.eq_1 @Rule.c.eq_1 @Mat.c.eq_1 @Host.c.eq_1;refine Gf (h:=aB (Hl a.x b.x) wl ?_);refine Gf (h:=aG (λe=>(by have f:=Gi a.X b.X;unfold Mat.d Mat.c at f;exact f)) (λe=>wl) ?_);refine Gf (h:=aG (λe=>Cs a.D b.D) (λe=>wl) ?_);refine Gf (h:=aG (λe=>Cs a.after b.after) (λe=>wl) ?_);refine Gf (h:=aG (λe=>n5 a.Q b.Q) (λe=>wl) ?_);refine Gf (h:=aG (λe=>n5 a.M b.M) (λe=>wl) ?_);exact Gf (h:=g _ _ (by rw [Uo];simp [go_sem,gA]))
def fewM (m:Mat)(n:Int):Bool:=fewPart m.m n&&decide ((m.vars.length:Int)<=n)
theorem Hv (m:Mat)(a:m.m.le)(n:Int):Pua 25 [m.d,dI n] (.bool (fewM m n)):=by
 refine Tz.p0 func25 rfl λQ b _=>?_;have Y:=wa @Mat.d.eq_1 @Mat.c.eq_1;refine wo (h:=aB (rI m.m a n) wl ?_);have Y:=wa Y @fewM.eq_1;exact wo (h:=b _ _ wy)
theorem Ah (t:Types)(g:t.ok)(s:Stp26)(i:s.x.ok){v:Stp26}{e:Int}(f:v=g7 t s.x s.D s.X)(k:e=oB t s.x s.D s.X) :
  Pua 26 [t.d,.agg s.c] (.bool (decide (e=0)&&decide (v=s))):=by
 have a:=tA t g s.x i s.D s.X f k;have b:=Qn v s;simp only [Stp26.c,Rule.c,Mat.c,Host.c,dP,dS] at a b;unfold Mat.d Mat.c Host.d Host.c dLI at a;refine Tz.pK ⟨λt=>t==5,λ_=>[]⟩ func26 rfl (λQ l=>?_);have Y:=xa2 @Stp26.c.eq_1 @Rule.c.eq_1 @Mat.c.eq_1 @Host.c.eq_1;refine lZ (h:=aB (a) wl ?_);refine oP (h:=aG (λj=>b) (λj=>wl) ?_);exact oP (h:=l _ _ wy)
theorem yW (t:Types)(k:t.ok)(s:Stp26)(l:s.x.ok){v:Stp26}{e:Int}(j:v=g7 t s.x s.D s.X)(n:e=oB t s.x s.D s.X)
  (b:∀ i (b:i<v.D.k.length) (a:i<s.D.k.length),Ba v.D.k[i] s.D.k[i]) (a:∀ i (b:i<v.after.k.length) (a:i<s.after.k.length),Ba v.after.k[i] s.after.k[i]) :
  Pua 33 [t.d,.agg s.c] (.bool (decide (e=0)&&decide (v=s))):=by
 have f:=GS t k s.x l s.D s.X j n;have g:=vD v s b a;simp only [Stp26.c,Rule.c,Mat.c,Host.c,dP,dS] at f g;unfold Mat.d Mat.c dLI at f;refine Tz.pK ⟨λt=>t==5,λ_=>[]⟩ func33 rfl (λQ o=>?_);have Y:=xa2 @Stp26.c.eq_1 @Rule.c.eq_1 @Mat.c.eq_1 @Host.c.eq_1;refine lZ (h:=aB (f) wl ?_);refine oP (h:=aG (λm=>g) (λm=>wl) ?_);exact oP (h:=o _ _ wy)
structure Stp26.le (s:Stp26):Prop where
 r:s.x.le
 m:s.X.m.le
 t:s.Q.le
 c:s.M.le
def Cn (t:Types)(s:Stp26):Bool:=light26 t s.x s.D&&DH s.after&&fewM s.X 140&&fewPart s.Q 140&&fewPart s.M 140
theorem zI (t:Types)(j:∀ n∈t.h,n.y.length<=1000000000000000)(s:Stp26)(b:s.le):Pua 8 [t.d,.agg s.c] (.bool (Cn t s)):=by
 have f:=Mk t j s.x b.r s.D;have g:=Ez s.after;have e:=Hv s.X b.m 140;unfold Host.d Host.c at f g;unfold Mat.d Mat.c at e;refine Tz.p0 func8 rfl λQ i _=>?_;have Y:=xa2 @Stp26.c.eq_1 @Rule.c.eq_1 @Mat.c.eq_1 @Host.c.eq_1;refine Gf (h:=aB (f) wl ?_);refine Gf (h:=aG (λa=>g) (λa=>wl) ?_);refine Gf (h:=aG (λa=>e) (λa=>wl) ?_);refine Gf (h:=aG (λa=>rI s.Q b.t 140) (λa=>wl) ?_);refine Gf (h:=aG (λa=>rI s.M b.c 140) (λa=>wl) ?_);exact Gf (h:=i _ _ (by simp [go_sem,Cn,gA]))
section
variable {H:Type} {enc:TypeId × Value→H} {w:World} {base:Nat} {spare:Nat→Bool} {held:Bool} {bulk:DataW H→Nat} {B:Nat}
theorem af5 (hB:Bulk bulk):∀ n,Opens enc prog w base spare held bulk B n 47 Mat.c (λm=>m.m.h.length<=B/\m.m.i.length<=B)
 | 0=>Opens.zero
 | n+1=>(eF hB underlying47 (by kernel_rfl) (bB (QT hB n) (bB (Tt hB n) (fF)))).map (λp=>⟨p.1,p.2.1⟩) (λp=>by simp [Mat.c,Part.c,dLI]) (λp h=>h.1)
theorem YL {z:Int}(h:(Lit.int .i64 z).wf=true):LO z:=by
 have b:IntKind.i64.min = -9223372036854775808:=by decide
 have a:IntKind.i64.max=9223372036854775807:=by decide
 simp only [Lit.wf,aL,decide_eq_true_eq,b,a] at h;exact h
theorem af8:∀ n,Opens enc prog w base spare held bulk B n 3 cI LO:=λn=>(KM underlying3).map id (λ_=>rfl) (λz h=>YL h)
theorem abX (hB:Bulk bulk):∀ n,Opens enc prog w base spare held bulk B n 26 (λl:Xa0=>[D.list (l.map cI)]) (λl=>l.length<=B/\∀ x∈l,LO x)
 | 0=>Opens.zero
 | n+1=>(jK hB underlying26 (af8 n)).map id (λ_=>rfl) (λl h=>h)
theorem abV (hB:Bulk bulk):∀ n,Opens enc prog w base spare held bulk B n 48 (λl:Yb=>[D.list (l.map cL)]) (λl=>∀ v∈l,v.length<=B/\∀ x∈v,LO x)
 | 0=>Opens.zero
 | n+1=>(jK hB underlying48 (abX hB n)).map id (λ_=>rfl) (λl h=>h.2)
theorem Xw (hB:Bulk bulk):∀ n,Opens enc prog w base spare held bulk B n 50 Host.c (λh=>∀ v∈h.k,v.length<=B/\∀ x∈v,LO x)
 | 0=>Opens.zero
 | n+1=>(eF hB underlying50 (by kernel_rfl) (bB (Yx hB n) (bB (abV hB n) (fF)))).map (λp=>⟨p.1,p.2.1⟩) (λp=>by simp [Host.c,Graph.c]) (λp h=>h.2.1)
structure Stp26.bd (B:Nat) (s:Stp26):Prop where
 r:s.x.bd B
 m:s.X.m.h.length<=B/\s.X.m.i.length<=B
 b:∀ v∈s.D.k,v.length<=B/\∀ x∈v,LO x
 a:∀ v∈s.after.k,v.length<=B/\∀ x∈v,LO x
 t:s.Q.h.length<=B/\s.Q.i.length<=B
 c:s.M.h.length<=B/\s.M.i.length<=B
theorem Yu (hB:Bulk bulk):∀ n,Opens enc prog w base spare held bulk B n 52 Stp26.c (λs=>s.bd B)
 | 0=>Opens.zero
 | n+1=>(eF hB underlying52 (by kernel_rfl) (bB (Yv hB n) (bB (af5 hB n) (bB (Xw hB n) (bB (Xw hB n) (bB (QT hB n) (bB (QT hB n) (fF)))))))).map (λp=>⟨p.1,p.2.1,p.2.2.1,p.2.2.2.1,p.2.2.2.2.1,p.2.2.2.2.2.1⟩) (λp=>by simp [Stp26.c,Part.c]) (λp h=>⟨h.1,h.2.1,h.2.2.1,h.2.2.2.1,h.2.2.2.2.1,h.2.2.2.2.2.1⟩)
end
theorem Stp26.a8 {B:Nat}(hB:B<=1000000000000000){s:Stp26}(h:s.bd B):s.le:=⟨Rule.a8 hB h.r,⟨by have:=h.m.1;omega,by have:=h.m.2;omega⟩,⟨by have:=h.t.1;omega,by have:=h.t.2;omega⟩,⟨by have:=h.c.1;omega,by have:=h.c.2;omega⟩⟩
theorem lX {l:Xa0}{i:Nat}(h:i<l.length):iA l i=l[i]:=by simp [iA,h]
theorem DA {l:Xa0}{v:Int}(h:v∈l):∃ i:Nat,i<l.length/\iA l i=v:=by
 obtain ⟨i,a,rfl⟩:=aO h;exact ⟨i,a,lX a⟩
theorem MO {l:Xa0}(a:l.Nodup){i j:Nat}(c:i<l.length)(b:j<l.length)(h:iA l i=iA l j):i=j:=by
 rw [lX c,lX b] at h;exact (j9 a).1 h
theorem YM {l:Xa0}(d:l.Nodup){q:Nat}(c:q<l.length):gS l (iA l q)=q:=by
 obtain ⟨f,a,b⟩:=qN ((mem_iff l _).2 (gB (l:=l) (n:=(q:Int)) bZ bZ));have e:iA l (((gS l (iA l q)).toNat:Nat):Int)=iA l q:=by
  rw [lX a];rw [aA a] at b;exact Option.some.inj b
 have:(gS l (iA l q)).toNat=q:=MO d a c e;omega
def jR (ps:List (Int × Int))(l:Xa0):Xa0:=ps.foldl (λl p=>l.set p.1.toNat p.2) l
theorem jQ:∀ (ps:List (Int × Int)) (l:Xa0),(jR ps l).length=l.length
 | [],_=>rfl
 | p :: ps,l=>by
  have:=jQ ps (l.set p.1.toNat p.2);simpa [jR] using this
theorem pF (a:List (Int × Int))(p:Int × Int)(l:Xa0):jR (a++[p]) l=(jR a l).set p.1.toNat p.2:=by simp [jR]
theorem S0 (b a:List (Int × Int))(l:Xa0):jR (b++a) l=jR a (jR b l):=by simp [jR]
theorem YX {l:Xa0}{a:Nat}(h:a<l.length)(v:Int)(p:Nat):iA (l.set a v) p=if a=p then v else iA l p:=by
 unfold iA;rw [(bZ:(p:Int).toNat=p),eB];by_cases b:a=p
 .subst b;simp [h]
 .rw [if_neg b,if_neg b]
theorem RQ {R:Int->Int->Prop}:∀ (ps:List (Int × Int)) (l:Xa0),(∀ q∈ps,R q.1 q.2/\0<=q.1)->∀ p:Nat,p<l.length->(R p (iA l p)\/∃ v,((p:Int),v)∈ps)->R p (iA (jR ps l) p)
 | [],l,_,p,_,h=>by
  rcases h with h|⟨v,hv⟩
  .exact h
  .cases hv
 | (a,v) :: ps,l,hR,p,hp,h=>by
  have h0:=hR (a,v) (eT ..);refine RQ ps (l.set a.toNat v) (λq hq=>hR q (cX _ hq)) p (eL hp) ?_;by_cases he:a.toNat=p
  .left
   rw [YX bZ,if_pos he,<- he,show ((a.toNat:Nat):Int)=a by have:=h0.2;simp only at this;omega];exact h0.1
  .rcases h with h|⟨w,hw⟩
   .left
    have e:iA (l.set a.toNat v) p=iA l p:=by
     unfold iA;rw [eB,if_neg bZ]
    rw [e];exact h
   .right
    exact ⟨w,(aS.1 hw).resolve_left λe=>he (by have:=congrArg Prod.fst e;simp only at this;omega)⟩
theorem UR {l a:Xa0}(h:l.length=a.length)(c:∀ p:Nat,p<l.length->iA l p=iA a p):l=a:=by
 refine iE h λi b d=>?_;have:=c i b;rwa [lX b,lX d] at this
def yC (t:Types)(s:Stp26):Bool:=decide (oB t s.x s.D s.X=0)&&decide (g7 t s.x s.D s.X=s)
structure CmpA (t:Types) (s:Stp26):Prop where
 b:∀ i (h1:i<(g7 t s.x s.D s.X).D.k.length) (h2:i<s.D.k.length),Ba (g7 t s.x s.D s.X).D.k[i] s.D.k[i]
 a:∀ i (h1:i<(g7 t s.x s.D s.X).after.k.length) (h2:i<s.after.k.length),Ba (g7 t s.x s.D s.X).after.k[i] s.after.k[i]
theorem Tw (t:Types):mM t.d=t.d:=by simp [Types.d,Types.c,mM,jM,Tu,ON]
theorem UI (r:Rule):mM r.d=r.d:=by simp [Rule.d,Rule.c,mM,jM,dLI,dI,c7,f8,AF,AE,Dm]
theorem UJ (h:Host):mM h.d=h.d:=by simp [Host.d,Host.c,mM,jM,dLI,dI,c7,f8,ab7]
theorem WB (l:Xa0):mM (dLI l)=dLI l:=by simp [dLI,mM,c7]
theorem Kp (t:Types)(r:Rule)(h:Host)(a b:Xa0):[t.d,r.d,h.d,.agg [dLI a,dLI b,.nil]].map mM=[t.d,r.d,h.d,.agg [dLI a,dLI b,dLI []]]:=by
 simp [Tw,UI,UJ,mM,jM,WB];simp [dLI]
theorem wS {t:Types}{r:Rule}{h:Host}{m:Mat}(d:r.ok)(a:oB t r h m=0):StepOk t r h m:=by
 unfold oB at a;split at a
 .contradiction
 .rename_i hg;obtain ⟨c,b⟩:=EH (eL hg);exact Ya (Uu d c) (y4 b) a
theorem IW {t:Types}{s:Stp26}(c:s.x.ok)(h:yC t s=true):s=uA t s.x s.D s.X/\StepOk t s.x s.D s.X:=by
 unfold yC at h;simp only [aL,decide_eq_true_eq] at h;obtain ⟨b,a⟩:=h;unfold g7 at a;rw [if_pos b] at a;exact ⟨a.symm,wS c b⟩
theorem Lb {t:Types}{s:Stp26}(h:Cn t s=true):t.ok/\s.x.ok:=by
 unfold Cn at h;simp only [aL] at h;exact QZ h.1.1.1.1
theorem M4 {t:Types}{s:Stp26}{B:Nat}(o:B<=1000000000000000)(d:s.bd B)(h:s.x.ok):CmpA t s:=by
 have c:∀ {l m:Yb},(∀ v∈l,v.length<=1000000000000000/\∀ x∈v,LO x)->(∀ v∈m,v.length<=B/\∀ x∈v,LO x)->∀ i (h1:i<l.length) (h2:i<m.length),Ba l[i] m[i]:=λhl hm i h1 h2=>by
  have n:=hl _ (aC h1);have k:=hm _ (aC h2);exact PF n.2 k.2 bZ bZ
 have e:(∀ v∈(g7 t s.x s.D s.X).D.k,v.length<=1000000000000000/\∀ x∈v,LO x)/\∀ v∈(g7 t s.x s.D s.X).after.k,v.length<=1000000000000000/\∀ x∈v,LO x:=by
  unfold g7;split
  .rename_i j;have K:=wS h j;have row:∀ {g:Host},jB t g=0->∀ v∈g.k,v.length<=1000000000000000/\∀ x∈v,LO x:=λhg v hv=>by
    have q:=(y4 hg).row v hv;exact ⟨bZ,λz hz=>by have:=q.2 z hz;unfold LO;omega⟩
   exact ⟨λv hv=>⟨by have:=(d.b v hv).1;omega,(d.b v hv).2⟩,row K.after⟩
  .exact ⟨λv hv=>by simp [gW] at hv,λv hv=>by simp [gW] at hv⟩
 exact ⟨c e.1 d.b,c e.2 d.a⟩
end Go.Abs
end
