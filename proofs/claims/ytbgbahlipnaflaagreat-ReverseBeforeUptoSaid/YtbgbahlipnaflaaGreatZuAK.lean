/- Layer 24: rules, continued. · Layer 13: the overlap that lis -/
import Derived.Test.YtbgbahlipnaflaaGreatZuAG
import Derived.Test.YtbgbahlipnaflaaGreatZuAA
import Derived.Test.YtbgbahlipnaflaaGreatZuAJ
import Derived.Test.YtbgbahlipnaflaaGreatZuAI
set_option linter.unusedVariables false
set_option linter.unusedSimpArgs false
section
set_option maxRecDepth 100000
set_option maxHeartbeats 4000000
open Go Go.Proofs Tryz
namespace Go.Abs
def iP (t:Types)(r:Rule):Int :=
 if graphF r.right.i≠0 then graphF r.right.i
 else if fV t r.right.i=false then 13
 else if r.right.vars≠r.left.vars\/0<r.right.E.length then 1
 else if 10<r.right.o.length then 3
 else bV (tV t r.right) 0 r.right.o.length
theorem Qf (t:Types)(o:t.ok)(r:Rule):Pua 226 [t.d,r.d] (dI (iP t r)):=by
 refine Tz.p0 func226 rfl λQ b Y=>?_;refine wv (h:=aB (nW r.right.i) wl ?_);refine dR (λg=>?_) λg=>?_
 .exact wv (h:=b _ _ (.inl (by simp [go_sem,iP,g])))
 .have hg:=bI g;refine wo (h:=aB (Qd t r.right.i) wl ?_);refine eJ (λf=>?_) λf=>?_
  .exact wv (h:=b _ _ (.inl (by simp [go_sem,iP,g,f])))
  .refine eJ (λl=>?_) λl=>?_
   .have hR:iP t r=1:=by unfold iP;rw [if_neg aD,if_neg (by simp [f]),if_pos aD]
    exact wv (h:=b _ _ (.inl (by simp [go_sem,hR])))
   .have h6':¬ (r.right.vars≠r.left.vars\/0<r.right.E.length):=by
     rintro (h|h)
     .exact h l.1
     .have:=l.2;simp [this] at h
    refine eJ (λp=>?_) λp=>?_
    .have hR:iP t r=3:=by unfold iP;rw [if_neg aD,if_neg (by simp [f]),if_neg h6',if_pos aD]
     exact wv (h:=b _ _ (.inl (by simp [go_sem,hR])))
    .have hR:iP t r=bV (tV t r.right) 0 r.right.o.length:=by unfold iP;rw [if_neg aD,if_neg (by simp [f]),if_neg h6',if_neg aD]
     refine wo (h:=bC (λi e H=>(e 2=.adr t.c/\e 3=.adr r.c/\e 46=dI r.right.o.length/\e 47=dI i)/\(i<=r.right.o.length)/\(bV (tV t r.right) i (r.right.o.length - i)=iP t r)) (λi=>r.right.o.length - i) 0 ⟨wg,wi,(by exact hR.symm)⟩ λu k i e H j=>?_);obtain ⟨q,s,n⟩:=j;have Y:=wa Y q;refine dR (λa=>?_) λa=>?_
     .have hst:=n;rw [fN _ a] at hst;have Y:=wa Y a;refine wv (h:=aB (SI t o r aD i a) wl ?_);refine dR (λm=>?_) λm=>?_
      .rw [if_pos aD] at hst;exact wv (h:=b _ _ (.inl (by simp [go_sem,hst])))
      .rw [if_neg aD] at hst;exact wo (h:=wx k (i+1) ⟨wg,wj,(by exact hst)⟩)
     .exact wv (h:=b _ _ (.inl (by rw [<- n,(aD:r.right.o.length - i=0)];rfl)))
def bG (l:V2)(n:Nat):V2:=((List.range n).filter λ(i:Nat)=>!mem l i).map λ(b:Nat)=>(b:Int)
theorem mN {l:V2}{n:Nat}{x:Int}(h:x∈bG l n):0<=x/\x<n:=by
 simp only [bG,aX,fY,aW] at h;grind
theorem lF (l:V2)(n:Nat):(bG l n).length<=n:=by
 unfold bG;rw [aR];exact fB (jF _ _) aE
theorem u0 (l:V2)(n:Nat)(q:n<=1000000):Pua 141 [dLI l,dI n] (dLI (bG l n)):=by
 refine Tz.pK ⟨λt=>t==5,λ_=>[]⟩ func141 rfl (λQ o=>?_);have Y:=trivial;refine wv (h:=bC (λi e H=>∃ a:V2,(e 0=dLI l/\e 7=dI n/\e 5=.own 0 a.length/\e 8=dI i)/\(H.get 0=some ⟨3,1,a.map cI,false⟩)/\(0<H.next)/\(i<=n)/\(a.length<=i)/\(a=((List.range i).filter λ(b:Nat)=>!mem l b).map (λ(b:Nat)=>(b:Int)))) (λi=>n - i) 0 ⟨([]),wg,wn,wn,wi,aE,(by rfl)⟩ λu d i e H j=>?_);obtain ⟨a,p,f,c,s,r,g⟩:=j;have Y:=xa2 Y p f (cW c);refine dR (λm=>?_) λm=>?_
 .have Y:=wa Y m;refine wo (h:=aB (f6 l i) wl ?_);refine eJ (λk=>?_) λk=>?_
  .have Y:=wa Y k;exact wo (h:=wx d (i+1) ⟨(a++(if (!mem l i)=true then [(i:Int)] else [])),wg,wn,wn,wj,(by rw [aQ];split<;>simp<;>omega),(by rw [dW,<- g])⟩)
  .have Y:=wa Y k;exact wo (h:=wx d (i+1) ⟨(a++(if (!mem l i)=true then [(i:Int)] else [])),wg,wn,wn,wj,(by rw [aQ];split<;>simp<;>omega),(by rw [dW,<- g])⟩)
 .exact wv (h:=o _ _ (by simp [go_sem,Y,bG];rw [g,(aD:i=n)];simp))
def keptF (r:Rule):Int :=
 if subF r.left.i r.q≠0 then subF r.left.i r.q
 else if eK (cO r.left.i r.q) r.right.i r.s≠0 then eK (cO r.left.i r.q) r.right.i r.s
 else if Ba (cO r.left.i r.q) r.right.i r.s=false then 11 else 0
structure Rule.ok (r:Rule):Prop where
 name:r.name.size<=100000
 k1:r.q.h.length<=1000000
 k2:r.q.j.length<=1000000
 i1:r.s.h.length<=1000000
 i2:r.s.j.length<=1000000
 cond:r.cond.ok
 size:r.cond.size<=1000000
theorem SK (r:Rule)(k:r.ok):Pua 227 [r.d] (dI (keptF r)):=by
 obtain ⟨_,f,e,i,g,_,_⟩:=k;refine Tz.pK ⟨λt=>t==3||t==4,λ_=>[]⟩ func227 rfl (λQ b=>?_);have Y:=trivial;refine wv (h:=aB (DY r.left.i r.q f e) wl ?_);refine dR (λa=>?_) λa=>?_
 .have Y:=xa1 Y a @keptF.eq_1;exact wv (h:=b _ _ wy)
 .refine wv (h:=aB (qH (cO r.left.i r.q) r.right.i r.s) wl ?_);refine dR (λc=>?_) λc=>?_
  .have Y:=xa2 Y a c @keptF.eq_1;exact wv (h:=b _ _ wy)
  .refine wo (h:=aB (t7 (cO r.left.i r.q) r.right.i r.s i g) wl ?_);refine eJ (λj=>?_) λj=>?_
   .have Y:=xa3 Y a c j @keptF.eq_1;exact wv (h:=b _ _ wy)
   .have Y:=xa3 Y a c j @keptF.eq_1;exact wv (h:=b _ _ wy)
def absB (t:Types)(g:Graph)(i:Int):Bool:=((t.h[(gN g i).toNat]?).map (·.e7)).getD false
def unfitB (t:Types)(g:Graph)(k:Int):Bool:=!pP t (g.j[k.toNat]?.getD cY).type (gN g (g.j[k.toNat]?.getD cY).w) (gN g (g.j[k.toNat]?.getD cY).M)
def pN (t:Types)(g:Graph)(nodes edges:V2):Bool:=(!(nodes.any (absB t g)))&&!(edges.any (unfitB t g))
theorem j7 {t:Types}{g:Graph}(b:graphF g=0)(h:fV t g=true):(∀ a∈g.h,0<=a/\a<t.h.length)/\∀ x∈g.j,(0<=x.type/\x.type<t.j.length)/\(0<=x.w/\x.w<g.h.length)/\(0<=x.M/\x.M<g.h.length):=by
 obtain ⟨d,c⟩:=dX b;simp [fV] at h;simp_all
theorem Ji (t:Types)(g:Graph)(l:graphF g=0)(j:fV t g=true)(i:Int)(f:0<=i)(e:i<g.h.length):Pua 143 [dI i,.adr t.c,.adr g.c] (.bool (absB t g i)):=by
 have a:i.toNat<g.h.length:=aD;have d:=(j7 l j).1 _ (aC a);have b:g.h[i.toNat].toNat<t.h.length:=aD;refine Tz.p0 func143 rfl λQ k _=>?_;have Y:=wa (aA a) (aA b);have Y:=xa1 Y @absB.eq_1 @gN.eq_1;exact wo (h:=k _ _ wy)
theorem Jh (t:Types)(d:t.ok)(g:Graph)(n:graphF g=0)(l:fV t g=true)(k:Int)(i:0<=k)(f:k<g.j.length):Pua 144 [dI k,.adr g.c,.adr t.c] (.bool (unfitB t g k)):=by
 have b:k.toNat<g.j.length:=aD;have e:=(j7 n l).2 _ (aC b);have j:g.j[k.toNat].w.toNat<g.h.length:=aD;have a:g.j[k.toNat].M.toNat<g.h.length:=aD;refine Tz.pK ⟨λt=>t==5,λ_=>[]⟩ func144 rfl (λQ m=>?_);have Y:=xa1 (aA b) (aA j) (aA a);refine wo (h:=aI (GF t d _ _ _) wl ?_);have Y:=xa1 Y @unfitB.eq_1 @gN.eq_1;exact wo (h:=m _ _ wy)
theorem CC (t:Types)(o:t.ok)(g:Graph)(n:graphF g=0)(m:fV t g=true)(a b:V2)(e:∀ i∈a,0<=i/\i<g.h.length)(l:∀ k∈b,0<=k/\k<g.j.length):Pua 80 [t.d,g.d,dLI a,dLI b] (.bool (pN t g a b)):=by
 have w:=g7 a 143 [.adr t.c,.adr g.c] (absB t g) (by simp [go_sem]) (by simp [go_sem]) (λi j=>Ji t g n m i (e i j).1 (e i j).2);have s:=g7 b 144 [.adr g.c,.adr t.c] (unfitB t g) (by simp [go_sem]) (by simp [go_sem]) (λk f=>Jh t o g n m k (l k f).1 (l k f).2);have r:pN t g a b=((!(a.any (absB t g)))&&!(b.any (unfitB t g))):=rfl;generalize a.any (absB t g)=u at *;generalize b.any (unfitB t g)=v at *;rw [r];refine Tz.p0 func80 rfl λQ q Y=>?_;refine wo (h:=aB (w) wl ?_);refine wo (h:=aH (λp=>s) (λp=>wl) ?_);exact wo (h:=q _ _ wy)
def Rule.N (r:Rule):V2:=bG r.s.h r.right.i.h.length
def Rule.aa (r:Rule):V2:=bG r.s.j r.right.i.j.length
def Rule.bl (r:Rule):V2:=bG r.q.h r.left.i.h.length
def Rule.bm (r:Rule):V2:=bG r.q.j r.left.i.j.length
theorem LR (r:Rule)(c:r.right.i.h.length<=1000000)(b:r.right.i.j.length<=1000000):Pua 228 [r.d] (.tup [dLI r.N,dLI r.aa]):=by
 refine Tz.p0 func228 rfl λQ a Y=>?_;refine wo (h:=aI (u0 r.s.h _ c) wl ?_);refine wo (h:=aI (u0 r.s.j _ b) wl ?_);have Y:=xa1 Y @Rule.N.eq_1 @Rule.aa.eq_1;exact wo (h:=a _ _ wy)
theorem LQ (r:Rule)(c:r.left.i.h.length<=1000000)(b:r.left.i.j.length<=1000000):Pua 79 [r.d] (.tup [dLI r.bl,dLI r.bm]):=by
 refine Tz.p0 func79 rfl λQ a Y=>?_;refine wo (h:=aI (u0 r.q.h _ c) wl ?_);refine wo (h:=aI (u0 r.q.j _ b) wl ?_);have Y:=xa1 Y @Rule.bl.eq_1 @Rule.bm.eq_1;exact wo (h:=a _ _ wy)
def ruleF (t:Types)(r:Rule):Int :=
 if (dA t).2≠0 then (dA t).2
 else if lA r.name=false then 2
 else if c8 t r.left≠0 then c8 t r.left
 else if iP t r≠0 then iP t r
 else if keptF r≠0 then keptF r
 else if pN t r.right.i r.N r.aa=false then 13
 else condF t r.left r.cond
theorem AJ {t:Types}{r:Rule}(h:iP t r=0):graphF r.right.i=0/\fV t r.right.i=true:=by
 unfold iP at h;grind
theorem G5 (t:Types)(k:t.ok)(r:Rule)(m:r.ok):Pua 139 [t.d,r.d] (dI (ruleF t r)):=by
 have l:=y3 t k r.left r.cond m.cond m.size;rw [Cond.x] at l;refine Tz.p0 func139 rfl λQ e Y=>?_;refine wv (h:=aB (nM t k) wl ?_);refine dR (λc=>?_) λc=>?_
 .have Y:=xa1 Y c @ruleF.eq_1;exact wv (h:=e _ _ wy)
 .refine wo (h:=aB (p6 r.name m.name) wl ?_);refine eJ (λf=>?_) λf=>?_
  .have Y:=xa2 Y c f @ruleF.eq_1;exact wv (h:=e _ _ wy)
  .refine wv (h:=aB (pA t k r.left) wl ?_);refine dR (λj=>?_) λj=>?_
   .have Y:=xa3 Y c f j @ruleF.eq_1;exact wv (h:=e _ _ wy)
   .refine wv (h:=aB (Qf t k r) wl ?_);refine dR (λa=>?_) λa=>?_
    .have Y:=xa4 Y c f j a @ruleF.eq_1;exact wv (h:=e _ _ wy)
    .have hg:=AJ a;have o:=bI hg.1;refine wv (h:=aB (SK r m) wl ?_);refine dR (λb=>?_) λb=>?_
     .have Y:=xa5 Y c f j a b @ruleF.eq_1;exact wv (h:=e _ _ wy)
     .refine wv (h:=aB (LR r aD aD) wl ?_);refine wo (h:=aB (CC t k r.right.i hg.1 hg.2 r.N r.aa (λi n=>mN n) (λi n=>mN n)) wl ?_);refine eJ (λg=>?_) λg=>?_
      .have Y:=xa6 Y c f j a b g @ruleF.eq_1;exact wv (h:=e _ _ wy)
      .refine wv (h:=aB (l) wl ?_);have Y:=xa6 Y c f j a b g @ruleF.eq_1;exact wv (h:=e _ _ wy)
structure Ovl where
 i:Graph
 left:Part
 right:Part
def Ovl.c (o:Ovl):UN:=[dLI o.i.h,.list (o.i.j.map Edge.c),dLI o.left.h,dLI o.left.j,dLI o.right.h,dLI o.right.j]
def Ovl.d (o:Ovl):D:=.agg o.c
@[go_sem] theorem Ovl.Q (o:Ovl):D.J o.c=true:=by simp [Ovl.c,D.J,D.Q,qO,xD]
@[go_sem] theorem adQ (o:Ovl):o.d.Q=true:=by grind [Ovl.d, D.Q, Ovl.Q]
@[go_sem] theorem acQ (l:List Ovl):D.R (l.map Ovl.c)=true:=dY _ Ovl.Q l
def iJ (n:Nat):V2:=(List.range n).map λ(k:Nat)=>(k:Int)
theorem Kw (i:Nat):iJ (i+1)=iJ i++[(i:Int)]:=by simp [iJ,dO]
theorem sB (n:Nat):(iJ n).length=n:=by simp [iJ]
theorem Pv:Own prog 233 [.nil] 145 3 []:=by
 refine Tz.oK ⟨λt=>t==2||t==5,λ_=>[]⟩ func233 rfl (λQ a=>?_);have Y:=trivial;refine wv (h:=?_);exact a _ _ _ (by simp [go_sem]<;>first|omega|(rw [aT];simp<;>omega)|(simp_all<;>omega)) (by simp [go_sem]<;>first|omega|(rw [aT];simp<;>omega)|(simp_all<;>omega))
theorem Pt:Own prog 233 [.ne] 145 3 []:=by
 refine Tz.oK ⟨λt=>t==2||t==5,λ_=>[]⟩ func233 rfl (λQ a=>?_);have Y:=trivial;refine wo (h:=?_);exact a _ _ _ (by simp [go_sem]<;>first|omega|(rw [aT];simp<;>omega)|(simp_all<;>omega)) (by simp [go_sem]<;>first|omega|(rw [aT];simp<;>omega)|(simp_all<;>omega))
theorem Pu (l:List Edge)(d:l.length<=1000000)(a:l≠[]):Own prog 233 [.list (l.map Edge.c)] 145 3 (l.map Edge.c):=by
 refine Tz.oK ⟨λt=>t==2||t==5,λ_=>[]⟩ func233 rfl (λQ b=>?_);have Y:=a;refine wo (h:=?_);exact b _ _ _ (by simp [go_sem]<;>first|omega|(rw [aT];simp<;>omega)|(simp_all<;>omega)) (by simp [go_sem]<;>first|omega|(rw [aT];simp<;>omega)|(simp_all<;>omega))
theorem yM (l:List Edge)(b:l.length<=1000000):Own prog 233 [.list (l.map Edge.c)] 145 3 (l.map Edge.c):=by
 by_cases a:l=[]
 .subst a;exact D8 Pv Pt
 .exact Pu l b a
def fF (l:V2)(n:Nat):V2:=((List.range n).filter λ(i:Nat)=>mem l i).map λ(i:Nat)=>(i:Int)
structure Rule.bE (r:Rule):Prop where
 s1:r.left.o.length<=1000000
 t1:r.left.E.length<=1000000
 s2:r.right.o.length<=1000000
def sO (r:Rule):Bool:=decide (r.left.vars=0)&&(decide ((r.left.o.length:Int)+r.left.E.length+r.right.o.length=0)&&(r.cond.B==1))
theorem Jo (r:Rule)(e:r.bE):Pua 73 [r.d] (.bool (sO r)):=by
 obtain ⟨c,b,a⟩:=e;refine Tz.p0 func73 rfl λQ f Y=>?_;exact wo (h:=f _ _ (by simp [go_sem,sO,kY]))
theorem FP (a b:Graph)(m:Part):Pua 214 [a.d,b.d,m.d] (.bool (Ba a b m)):=by
 refine Tz.p0 func214 rfl λQ e Y=>?_;refine wo (h:=aB (u9 a b m) wl ?_);refine wo (h:=aH (λc=>qA m.h) (λc=>wl) ?_);refine wo (h:=aH (λc=>qA m.j) (λc=>wl) ?_);exact wo (h:=e _ _ (by simp [go_sem,Ba,kY]))
theorem L0 (c:Cond)(a:c.cu):Pua 348 [.agg c.c] (.bool (bareB c)):=by
 obtain ⟨j,i,g,f,e,d⟩:=a;refine Tz.p0 func348 rfl λQ b _=>?_;have Y:=@Cond.x;exact wo (h:=b _ _ (by simp [go_sem,bareB];rw [aT];simp;omega))
theorem NY (c:Cond)(m:c.cu):Pua 279 [.agg c.c] (.bool (sY c)):=by
 have a:∀ e:Int,e=c.B->Pua 348 [.agg [dI e,.list (c.u.map Cond.c),dLI c.map.h,dLI c.map.j,dLI c.l.i.h,.list (c.l.i.j.map Edge.c),.list (c.l.o.map Slot.c),dI c.l.vars,.list (c.l.E.map Test.c)]] (.bool (bareB c)):=by
  intro e f;have:=L0 c m;rwa [Cond.x,<- f] at this
 refine Tz.p0 func279 rfl λQ d _=>?_;have Y:=@Cond.x;refine dR (λl=>?_) λl=>?_
 .have Y:=wa Y l;refine wo (h:=aH (λb=>(a _ aD)) (λb=>wl) ?_);exact wo (h:=d _ _ (by simp [go_sem,sY,Y]))
 .have Y:=wa Y l;refine dR (λk=>?_) λk=>?_
  .have Y:=wa Y k;refine wo (h:=aH (λb=>(a _ aD)) (λb=>wl) ?_);exact wo (h:=d _ _ (by simp [go_sem,sY,Y]))
  .have Y:=wa Y k;refine dR (λj=>?_) λj=>?_
   .have Y:=wa Y j;refine wo (h:=aH (λb=>(a _ aD)) (λb=>wl) ?_);exact wo (h:=d _ _ (by simp [go_sem,sY,Y];rw [aT];simp;omega))
   .have Y:=wa Y j;refine dR (λi=>?_) λi=>?_
    .have Y:=wa Y i;refine wo (h:=aH (λb=>(a _ aD)) (λb=>wl) ?_);exact wo (h:=d _ _ (by simp [go_sem,sY,Y];rw [aT];simp;omega))
    .have Y:=wa Y i;refine dR (λg=>?_) λg=>?_
     .have Y:=wa Y g;exact wo (h:=d _ _ (by simp [go_sem,sY,Y];rw [aT];simp))
     .have Y:=wa Y g;exact wv (h:=d _ _ (by simp [go_sem,sY,Y]))
theorem Hh:∀ c:Cond,c.ok->Pua 211 [.agg c.c] (.bool (Nh c)):=by
 refine jU λc p s=>?_;obtain ⟨q,r⟩:=(sH c).1 s;have g:=vV c;refine Tz.p0 func211 rfl λQ j _=>?_;have Y:=@Cond.x;refine wo (h:=aB ((by have:=NY c q;rwa [Cond.x] at this)) wl ?_);refine eJ (λd=>?_) λd=>?_
 .exact wv (h:=j _ _ (.inl (by simp [go_sem,g,d])))
 .refine wv (h:=bC (λi e H=>(e 1=.adr c.c/\e 3=dI i)/\(i<=c.u.length)/\(((c.u.take i).any λk=>!Nh k)=false)) (λi=>c.u.length - i) 0 ⟨wg,wi,(by rfl)⟩ λv l i e H f=>?_);obtain ⟨t,u,o⟩:=f;have Y:=wa Y t;refine wv (h:=?_);repeat first|intro _|refine ⟨iI,?_⟩
  refine wq (λb=>?_) λb=>?_
  .have Y:=wa Y b;refine wo (h:=aB ((by have:=p _ (aC b) (r _ (aC b));rwa [Cond.x] at this)) wl ?_);refine eJ (λm=>?_) λm=>?_
   .refine wv (h:=?_);have a:c.u.all Nh=false:=by rw [bK];intro h;rw [b9] at h;have:=h _ (aC b);rw [m] at this;cases this
    exact j _ _ (.inl (by simp only [go_sem,g,d,a,Bool.and_false]))
   .exact wo (h:=wx l (i+1) ⟨wg,wj,(by rw [eE _ _ _ b,o];simp [m])⟩)
  .refine wv (h:=?_);have n:=pB o b;have a:c.u.all Nh=true:=by simp at n ⊢;exact n
   exact j _ _ (.inl (by simp only [go_sem,g,d,a,Bool.and_true]))
theorem Jq:∀ c:Cond,c.size<=1000000->Pua 212 [.agg c.c] (.tup [dI c.size,dI c.cD]):=by
 refine jU λc x F=>?_;have f:=xU c;have g:=Vf c;have A:=AW c.u;refine Tz.p0 func212 rfl λQ v _=>?_;try simp [go_sem,seval,Cond.x]
 obtain ⟨t,j⟩:∃ t:Nat->eB->AHeap->Prop,∀ (i:Nat) (e:eB) (H:AHeap),t i e H↔((e 1=.adr c.c)/\(e 4=dI ((1+Cond.ac (c.u.take i):Nat):Int))/\(e 5=dI (Cond.bf (c.u.take i):Nat))/\(e 6=dI i)/\(i<=c.u.length)):=⟨λi e H=>_,λ_ _ _=>Iff.rfl⟩;refine yY t (λi=>c.u.length - i) (0) ((j _ _ _).2 ⟨?_,?_,?_,?_,(by first|assumption|omega|(simp [go_sem,Cond.x];done)|(simp_all;done))⟩) ?_;iterate 4 (first|omega|(simp [go_sem,seval,Cond.x]<;>omega))
 intro i e H p;obtain ⟨n,d,b,m,E⟩:=(j _ _ _).1 p;have l:=xa0 n m;try simp [go_sem,seval,Cond.x,l]
 repeat first|intro _|refine ⟨iI,?_⟩
 refine bA (λh=>?_) (λh=>?_)
 .try simp [go_sem] at h
  have z:=Cx (aC h);have C:=Q2 c.u[i];have o:=List.take_succ_eq_append_getElem h;have q:=GY (c.u.take i) c.u[i];have r:=K9 (c.u.take i) c.u[i];have y:=GX c.u (i+1);have u:Cond.ac (c.u.take (i+1))=Cond.ac (c.u.take i)+c.u[i].size:=by rw [o,q]
  have w:Cond.bf (c.u.take (i+1))=max (Cond.bf (c.u.take i)) c.u[i].cD:=by rw [o,r]
  have B:=AW (c.u.take i);try simp [go_sem,seval,Cond.x,l,h]
  repeat first|intro _|refine ⟨iI,?_⟩
  refine aB ((by have:=x _ (aC h) aD;rwa [Cond.x] at this)) ((by first|rfl|(simp [go_sem];done))) ?_;try simp [go_sem,seval,l,d,b]
  repeat first|intro _|refine ⟨iI,?_⟩
  refine iW (i+1) aD ((j _ _ _).2 ⟨?_,?_,?_,?_,(by first|assumption|omega|(simp [go_sem,Cond.x,l,d,b,h,u,w,JA];done)|(simp_all<;>omega))⟩)<;>first|omega|(simp [go_sem,seval,Cond.x,l,u,w]<;>omega)
 .try simp [go_sem] at h
  have D:c.u.take i=c.u:=aG h;rw [D] at d b;try simp [go_sem,seval,Cond.x,l]
  refine bA (λk=>?_) (λk=>?_)
  .try simp [go_sem] at k
   try simp [go_sem,seval,d,b]
   repeat first|intro _|refine ⟨iI,?_⟩
   exact v _ _ (by first|(left;(simp [go_sem,f,g,k]);done)|(right;(simp [go_sem,f,g,k]);done))
  .try simp [go_sem] at k
   try simp [go_sem,seval,d,b]
   exact v _ _ (by first|(left;(simp [go_sem,f,g,k]);done)|(right;(simp [go_sem,f,g,k]);done))
theorem N2 (c:Cond)(e:c.ok)(d:c.size<=1000000):Pua 133 [.agg c.c] (dI (tW c)):=by
 refine Tz.p0 func133 rfl λQ b _=>?_;have Y:=@Cond.x;refine wo (h:=aB ((by have:=Hh c e;rwa [Cond.x] at this)) wl ?_);refine eJ (λa=>?_) λa=>?_
 .exact wv (h:=b _ _ (by simp [go_sem,tW,a]))
 .refine wv (h:=aB ((by have:=Jq c d;rwa [Cond.x] at this)) wl ?_);refine eJ (λf=>?_) λf=>?_
  .exact wv (h:=b _ _ (by simp [go_sem,tW,a];omega))
  .exact wv (h:=b _ _ (by simp [go_sem,tW,a];omega))
theorem L1 (p:Pattern)(v:Int):Pua 280 [p.d,dI v] (.bool (kL p v)):=by
 refine Tz.p0 func280 rfl λQ l Y=>?_;refine wv (h:=bC (λi e H=>(e 2=.adr p.c/\e 1=dI v/\e 5=dI i)/\(i<=p.o.length)/\(((p.o.take i).any λs=>decide (s.y.O=v))=false)) (λi=>p.o.length - i) 0 ⟨wg,wi,(by rfl)⟩ λo g i e H b=>?_);obtain ⟨m,n,k⟩:=b;have Y:=wa Y m;refine wv (h:=?_);repeat first|intro _|refine ⟨iI,?_⟩
 refine wq (λa=>?_) λa=>?_
 .have Y:=wa Y a;refine eJ (λj=>?_) λj=>?_
  .refine wv (h:=?_);have f:kL p v=true:=bB.2 ⟨_,aC a,by simpa using j⟩;exact l _ _ (.inl (by simp only [go_sem,f]))
  .exact wo (h:=wx g (i+1) ⟨wg,wj,(by rw [eE _ _ _ a,k];simpa using j)⟩)
 .refine wv (h:=?_);have f:kL p v=false:=pB k a;exact l _ _ (.inl (by simp only [go_sem,f]))
def vH (t:Types)(o:Int)(q:Pattern):Int:=if q.vars<o then 20 else pG t q o
theorem NZ (t:Types)(x:t.ok)(o:Int)(r:0<=o)(q:Pattern):Pua 213 [t.d,dI o,q.d] (dI (vH t o q)):=by
 refine Tz.p0 func213 rfl λQ f Y=>?_;refine dR (λp=>?_) λp=>?_
 .exact wv (h:=f _ _ (by simp [go_sem,vH,p]))
 .refine wv (h:=aB (u4 t x q) wl ?_);refine dR (λa=>?_) λa=>?_
  .exact wv (h:=f _ _ (by simp [go_sem,vH,pG,a];omega))
  .have g:=lR (.inl a);have n:vH t o q=pG t q o:=by unfold vH;rw [if_neg aD]
   refine wv (h:=bC (λv e H=>(e 5=.adr q.c/\e 7=dI 9/\e 8=dI (o+v))/\(∀ u:Int,o<=u->u<o+v->kL q u=true)) (λv=>(q.vars - o).toNat - v) 0 ⟨wg,(by intro u b g;omega)⟩ λA j v e H i=>?_);obtain ⟨z,m⟩:=i;have Y:=wa Y z;refine dR (λl=>?_) λl=>?_
   .have Y:=wa Y l;refine wo (h:=aB (L1 q _) wl ?_);refine eJ (λk=>?_) λk=>?_
    .exact wv (h:=f _ _ (by rw [n,Fh a r (v:=o+v) aD l (bZ k)];simp [go_sem]))
    .have ho':∀ u:Int,o<=u->u<o+((v+1:Nat):Int)->kL q u=true:=λu b g=>by
      by_cases y:u<o+v
      .exact m u b y
      .rw [(aD:u=o+v)];simpa using k
     exact wo (h:=wx j (v+1) ⟨wg,(ho')⟩)
   .exact wv (h:=f _ _ (by rw [n,Ff a r λu b g=>m u b aD];simp [go_sem]))
theorem Qq (t:Types)(G:t.ok):∀ (c:Cond) (p:Pattern),0<=p.vars->p.vars<=12->Pua 134 [t.d,p.d,.agg c.c] (dI (sC t p c)):=by
 refine jU λc D p u A=>?_;have j:=Gs t p c;refine Tz.pK ⟨λt=>t==7,λ_=>[]⟩ func134 rfl (λQ n=>?_);have Y:=@Cond.x;refine dR (λx=>?_) λx=>?_
 .rw [if_pos x,if_pos x] at j;refine wv (h:=aB (NZ t G p.vars u c.l) wl ?_);refine dR (λr=>?_) λr=>?_
  .have hE:kM t p c.map c.l=vH t p.vars c.l:=by
    unfold kM;unfold vH at r ⊢;split
    .rfl
    .rename_i h';rw [if_neg h'] at r;rw [if_pos r]
   exact wv (h:=n _ _ (by rw [j,hE,if_pos aD];simp [go_sem]))
  .have hv0:¬ c.l.vars<p.vars/\pG t c.l p.vars=0:=by
    unfold vH at r;split at r
    .omega
    .exact ⟨by assumption,r⟩
   have F:=hv0.1;have z:=hv0.2;refine wv (h:=aB (u9 p.i c.l.i c.map) wl ?_);refine dR (λy=>?_) λy=>?_
   .exact wv (h:=n _ _ (by simp [go_sem,j,kM,z,y];omega))
   .refine wo (h:=aB (FP p.i c.l.i c.map) wl ?_);refine eJ (λB=>?_) λB=>?_
    .exact wv (h:=n _ _ (by simp [go_sem,j,kM,z,y,B];omega))
    .have hE0:kM t p c.map c.l=0:=by simp [kM,z,y,B];omega
     rw [hE0,if_neg aD] at j;obtain ⟨w,g⟩:=c6 (c.l);have E:=Fg z;have l:0<=w.vars:=by rw [g];exact E.1
     have k:w.vars<=12:=by rw [g];exact E.2
     have q:sC t p c=g5 (sC t w) c.u:=by rw [j,g]
     refine wv (h:=bC (λi e H=>(e 3=.adr t.c/\e 5=.adr c.c/\e 7=.ptr 0 1 0 0/\e 10=dI i)/\(H.get 0=some ⟨33,5,[w.c],false⟩)/\(0<H.next)/\(i<=c.u.length)/\(g5 (sC t w) (c.u.drop i)=sC t p c)) (λi=>c.u.length - i) 0 ⟨wg,(by simp [go_sem,g]),wn,wi,(by exact q.symm)⟩ λJ o i e H m=>?_);obtain ⟨C,f,b,I,v⟩:=m;have Y:=xa2 Y C f (cW b);refine wv (h:=?_);repeat first|intro _|refine ⟨iI,?_⟩
     refine wq (λa=>?_) λa=>?_
     .have hst:=v;rw [lS _ a] at hst;have Y:=wa Y a;refine wo (h:=aI ((by have:=D _ (aC a) w l k;rwa [Cond.x] at this)) wl ?_);refine eJ (λs=>?_) λs=>?_
      .rw [if_pos aD] at hst;exact wv (h:=n _ _ (by simp [go_sem,hst]))
      .rw [if_neg aD] at hst;exact wo (h:=wx o (i+1) ⟨wg,(by simp [go_sem,Y]),wn,wj,(by exact hst)⟩)
     .exact wv (h:=n _ _ (by rw [<- v,nA _ aD];simp [go_sem]))
 .rw [if_neg x,if_neg aD,if_neg x] at j;obtain ⟨w,g⟩:=c6 (p);have l:0<=w.vars:=by rw [g];exact u
  have k:w.vars<=12:=by rw [g];exact A
  have q:sC t p c=g5 (sC t w) c.u:=by rw [j,g]
  refine wv (h:=bC (λi e H=>(e 3=.adr t.c/\e 5=.adr c.c/\e 7=.ptr 0 1 0 0/\e 10=dI i)/\(H.get 0=some ⟨33,5,[w.c],false⟩)/\(0<H.next)/\(i<=c.u.length)/\(g5 (sC t w) (c.u.drop i)=sC t p c)) (λi=>c.u.length - i) 0 ⟨wg,(by simp [go_sem,g]),wn,wi,(by exact q.symm)⟩ λJ o i e H m=>?_);obtain ⟨C,f,b,I,v⟩:=m;have Y:=xa2 Y C f (cW b);refine wv (h:=?_);repeat first|intro _|refine ⟨iI,?_⟩
  refine wq (λa=>?_) λa=>?_
  .have hst:=v;rw [lS _ a] at hst;have Y:=wa Y a;refine wo (h:=aI ((by have:=D _ (aC a) w l k;rwa [Cond.x] at this)) wl ?_);refine eJ (λs=>?_) λs=>?_
   .rw [if_pos aD] at hst;exact wv (h:=n _ _ (by simp [go_sem,hst]))
   .rw [if_neg aD] at hst;exact wo (h:=wx o (i+1) ⟨wg,(by simp [go_sem,Y]),wn,wj,(by exact hst)⟩)
  .exact wv (h:=n _ _ (by rw [<- v,nA _ aD];simp [go_sem]))
theorem EU (t:Types)(f:t.ok)(p:Pattern)(c:Cond)(i:c.ok)(g:c.size<=1000000):Pua 69 [t.d,p.d,.agg c.c] (dI (condF t p c)):=by
 refine Tz.p0 func69 rfl λQ b _=>?_;have Y:=@Cond.x;refine wv (h:=aB (u4 t f p) wl ?_);refine dR (λa=>?_) λa=>?_
 .have Y:=xa1 Y a @condF.eq_1;exact wv (h:=b _ _ wy)
 .have hv:=lR (.inr a);refine wv (h:=aB ((by have:=N2 c i g;rwa [Cond.x] at this)) wl ?_);refine dR (λe=>?_) λe=>?_
  .have Y:=xa2 Y a e @condF.eq_1;exact wv (h:=b _ _ wy)
  .refine wv (h:=aB ((by have:=Qq t f c p hv.1 hv.2;rwa [Cond.x] at this)) wl ?_);have Y:=xa2 Y a e @condF.eq_1;exact wv (h:=b _ _ wy)
theorem Dc {l:V2}{v:Int}(e:l.Pairwise (· < ·))(f:mem l v=true):idx l v=oZ l v:=by
 obtain ⟨i,d,g⟩:=aN ((mem_iff l v).1 f);have a:=dD.1 e;rw [w4 (i:=i) (λj c h=>by
   have b:j<l.length:=aD;rw [aA b] at h;have:=a j i b d c;simp at h;omega) (by rw [aA d,g])]
 rw [RH (n:=i) (λj c h=>by have:=a j i c d h;omega) aD (λ_=>by omega)]
theorem rF {α:Type}{f:α->Int}:∀ {l:List α},g5 f l=0->∀ x∈l,f x=0
 | [],_,x,hx=>by cases hx
 | a :: l,h,x,hx=>by
  unfold g5 at h;split at h
  .rename_i h1;exact absurd h h1
  .rename_i h1;rcases aV.1 hx with h2|h2
   .subst h2;omega
   .exact rF h x h2
theorem DZ {g:Graph}{p:Part}(h:subF g p=0):∀ k∈p.j,mem p.h (g.j[k.toNat]?.getD cY).w=true/\mem p.h (g.j[k.toNat]?.getD cY).M=true:=by
 unfold subF sA at h;split at h
 .rename_i h1;exact absurd h h1
 .split at h
  .rename_i h2;exact absurd h h2
  .split at h
   .rename_i h3;exact absurd h h3
   .intro k hk;have:=rF h k hk;unfold Aw at this;grind
theorem Br (g:Graph)(p:Part)(hl:p.h.length<=1000000)(a2:p.j.length<=1000000):Pua 114 [g.d,p.d] (.tup [(cO g p).d,(E9 g p).d,dI (subF g p)]):=by
 refine Tz.pK ⟨λt=>t==4||t==5||t==8||t==11||t==76||t==80,λr=>match r with|8=>[(0,11),(1,11)]|12=>[(0,9),(1,9),(2,9),(3,9),(5,9),(6,9),(7,9),(8,9)]|13=>[(0,15),(1,15)]|14=>[(0,1),(1,2),(1,3),(0,4),(0,5),(1,5),(2,5),(3,5),(4,5),(1,6),(4,6),(5,6),(1,7),(4,7),(5,7),(0,8)]|_=>[]⟩ func114 rfl (λQ hQ=>?_);have Y:=trivial;refine wv (h:=aB (Ad g p) wl ?_);refine dR (λC=>?_) λC=>?_
 .exact wv (h:=hQ _ _ (by simp [go_sem,cO,E9,C]))
 .obtain ⟨hg,hs,P,R⟩:=nE C;have n:=DZ C;refine wv (h:=rE (Ghosts.step (Ghosts.refl _) 2 0 0 3 1 _ _ (rfl) rfl rfl rfl) (λi e H=>∃ b:V2,(e 2=.adr g.c/\e 3=.adr p.c/\e 4=.ptr 0 1 0 0/\e 5=.ptr 1 1 0 0/\e 8=.ptr 2 1 0 0/\e 9=dI i)/\(H.get 0=some ⟨29,2,[[.nil,.nil]],false⟩)/\(0<H.next)/\(H.get 1=some ⟨36,2,[[.nil,.nil]],false⟩)/\(1<H.next)/\(H.get 2=some ⟨29,2,[[.own 3 b.length,.nil]],false⟩)/\(2<H.next)/\(H.get 3=some ⟨3,1,b.map cI,false⟩)/\(3<H.next)/\(i<=p.h.length)/\(b=(p.h.take i).map (gN g))) (λi=>p.h.length - i) 0 ⟨([]),wg,wn,wn,wn,wn,wn,wn,wn,wn,wi,(by rfl)⟩ λI0 V i e H T=>?_);obtain ⟨b,E0,L,A,J,y,f,w,F,u,hi,O⟩:=T;have Y:=xa8 Y E0 L (cW A) J (cW y) f (cW w) F (cW u);refine mA (λM=>?_) λM=>?_
  .have hin':=P _ (aC M);have hk:p.h[i].toNat<g.h.length:=aD;have a1:b.length=i:=by rw [O];simp;omega
   have Y:=xa2 Y M (aA hk) @gN.eq_1;exact wp (h:=wx V (i+1) ⟨(b++[gN g p.h[i]]),wg,wn,wn,wn,wn,wn,wn,wn,wn,wj,(by rw [j5 _ M,<- O])⟩)
  .have hX:b=p.h.map (gN g):=by rw [O,lH _ aD]
   refine wv (h:=rE (Ghosts.step (Ghosts.refl _) 2 0 1 145 3 _ _ (f) rfl rfl rfl) (λk e H=>∃ j:Nat,∃ l:List Edge,(e 2=.adr g.c/\e 3=.adr p.c/\e 4=.ptr 0 1 0 0/\e 5=.ptr 1 1 0 0/\e 8=.ptr 2 1 0 0/\e 10=dI k)/\(H.get 0=some ⟨29,2,[[.nil,.nil]],false⟩)/\(0<H.next)/\(H.get 1=some ⟨36,2,[[.nil,.nil]],false⟩)/\(1<H.next)/\(H.get 2=some ⟨29,2,[[.own 3 b.length,.own j l.length]],false⟩)/\(2<H.next)/\(H.get 3=some ⟨3,1,b.map cI,false⟩)/\(3<H.next)/\(H.get j=some ⟨145,3,l.map Edge.c,false⟩)/\(j<H.next)/\(k<=p.j.length)/\(l=(p.j.take k).map (gEd g p))/\(j≠0)/\(j≠1)/\(j≠2)/\(j≠3)) (λk=>p.j.length - k) 0 ⟨H.next,([]),wg,wn,wn,wn,wn,wn,wn,wn,wn,wn,wn,wi,(by rfl),aD,aD,aD,aD⟩ λI2 U k e H m=>?_);obtain ⟨j,l,E2,K,z,I,x,G,v,E,s,D,q,hk,N,j0,Z,X,W⟩:=m;have Y:=xa7 Y E2 K (cW z) I (cW x) G (cW v) (xb0 E (cW s) D (cW q) j0 Z X W j0.symm Z.symm X.symm W.symm);refine mA (λa=>?_) λa=>?_
   .have hie':=R _ (aC a);have B:p.j[k].toNat<g.j.length:=aD;have a0:l.length=k:=by rw [N];simp;omega
    have o:=n _ (aC a);rw [aA B,Option.getD_some] at o;have S:=Dc hs o.1;have m:=Dc hs o.2;have Y:=xa4 Y a (aA B) @gEd.eq_1 S m;refine wp (h:=aI (EW p.h _) wl ?_);refine wp (h:=aI (EW p.h _) wl ?_);exact wp (h:=wx U (k+1) ⟨j,(l++[gEd g p p.j[k]]),wg,wn,wn,wn,wn,wn,wn,wn,wn,wn,wn,wj,(by rw [j5 _ a,<- N]),wj,wj,wj,wj⟩)
   .have hY:l=p.j.map (gEd g p):=by rw [N,lH _ aD]
    exact wp (h:=hQ _ _ (by simp [go_sem,Y,cO,E9,C,hX,hY]))
theorem Qp (t:Types)(u:t.ok)(p:Pattern)(A:p.i.h.length<=1000)(v:p.o.length<=1000)(i:Nat)(o:i<p.o.length):Pua 205 [t.d,p.d,dI i] (dI (tV t p i)):=by
 have a:=AH (t:=t) o;have g:=rQ u (p.B p.o[i].node);refine Tz.pK ⟨λt=>t==7,λ_=>[]⟩ func205 rfl (λQ m=>?_);have Y:=wa (aA o) o;refine eJ (λy=>?_) λy=>?_
 .have hE:gX t p p.o[i]≠0:=by
   unfold gX;rw [if_neg];decide;intro h;simp [mI] at h;omega
  rw [if_pos hE] at a;exact wv (h:=m _ _ (by simp [go_sem,a]))
 .have hn:p.o[i].node.toNat<p.i.h.length:=aD;have l:p.B p.o[i].node=p.i.h[p.o[i].node.toNat]:=by simp [Pattern.B,hn]
  rw [l] at g;have Y:=xa1 Y (aA hn) l;refine wo (h:=aI (pL t u p.i.h[p.o[i].node.toNat]) wl ?_);refine eJ (λx=>?_) λx=>?_
  .have hE:gX t p p.o[i]≠0:=by
    unfold gX;rw [if_neg];decide;intro h;simp [mI,inF,l] at h;omega
   rw [if_pos hE] at a;exact wv (h:=m _ _ (by simp [go_sem,a]))
  .have hE:gX t p p.o[i]=0:=by
    unfold gX;rw [if_pos];simp [mI,inF,l];omega
   rw [if_neg aD] at a;refine wv (h:=bC (λk e H=>(e 4=.adr p.c/\e 2=dI i/\e 7=.ptr 0 1 0 0/\e 10=dI k)/\(H.get 0=some ⟨102,4,[p.o[i].c],false⟩)/\(0<H.next)/\(k<=i)/\(((p.o.take k).any (sameSlot p.o[i]))=false)) (λk=>i - k) 0 ⟨wg,wn,wn,wi,(by rfl)⟩ λB r k e H n=>?_);obtain ⟨z,j,b,w,f⟩:=n;have Y:=xa2 Y z j (cW b);refine dR (λg=>?_) λg=>?_
   .have hkl:k<p.o.length:=aD;have Y:=xa1 Y g hkl;refine eJ (λs=>?_) λs=>?_
    .refine wv (h:=?_);have q:=vT (p:=sameSlot p.o[i]) g hkl (by simp [sameSlot];omega);exact m _ _ (by rw [a,if_pos q];simp [go_sem])
    .exact wo (h:=wx r (k+1) ⟨wg,wn,wn,wj,(by rw [eE _ _ _ hkl,f];simp [sameSlot];omega)⟩)
   .have q:=tA f (aD:k=i);exact wv (h:=m _ _ (by rw [a,if_neg (by simp [q])];simp [go_sem]))
theorem NU (t:Types)(o:t.ok)(r:Rule):Pua 123 [t.d,r.d] (dI (iP t r)):=by
 refine Tz.p0 func123 rfl λQ f Y=>?_;refine wv (h:=aB (mM r.right.i) wl ?_);refine dR (λg=>?_) λg=>?_
 .exact wv (h:=f _ _ (.inl (by simp [go_sem,iP,g])))
 .have hg:=bI g;refine wo (h:=aB (u6 t r.right.i) wl ?_);refine eJ (λb=>?_) λb=>?_
  .rw [q7 g] at b;exact wv (h:=f _ _ (.inl (by simp [go_sem,iP,g,b])))
  .rw [q7 g] at b;refine eJ (λl=>?_) λl=>?_
   .have hR:iP t r=1:=by unfold iP;rw [if_neg aD,if_neg (by simp [b]),if_pos aD]
    exact wv (h:=f _ _ (.inl (by simp [go_sem,hR])))
   .have h6':¬ (r.right.vars≠r.left.vars\/0<r.right.E.length):=by
     rintro (h|h)
     .exact h l.1
     .have:=l.2;simp [this] at h
    refine eJ (λp=>?_) λp=>?_
    .have hR:iP t r=3:=by unfold iP;rw [if_neg aD,if_neg (by simp [b]),if_neg h6',if_pos aD]
     exact wv (h:=f _ _ (.inl (by simp [go_sem,hR])))
    .have hR:iP t r=bV (tV t r.right) 0 r.right.o.length:=by unfold iP;rw [if_neg aD,if_neg (by simp [b]),if_neg h6',if_neg aD]
     refine wv (h:=bC (λi e H=>(e 2=.adr t.c/\e 3=.adr r.c/\e 6=dI i)/\(i<=r.right.o.length)/\(bV (tV t r.right) i (r.right.o.length - i)=iP t r)) (λi=>r.right.o.length - i) 0 ⟨wg,wi,(by exact hR.symm)⟩ λu k i e H j=>?_);obtain ⟨q,s,n⟩:=j;have Y:=wa Y q;refine eJ (λa=>?_) λa=>?_
     .have hst:=n;rw [fN _ a] at hst;have Y:=wa Y a;refine wv (h:=aB (Qp t o r.right aD aD i a) wl ?_);refine dR (λm=>?_) λm=>?_
      .rw [if_pos aD] at hst;exact wv (h:=f _ _ (.inl (by simp [go_sem,hst])))
      .rw [if_neg aD] at hst;exact wo (h:=wx k (i+1) ⟨wg,wj,(by exact hst)⟩)
     .exact wv (h:=f _ _ (.inl (by rw [<- n,(aD:r.right.o.length - i=0)];rfl)))
theorem ST (l:V2)(v:Int):Pua 76 [dLI l,dI v] (.bool (mem l v)):=by
 refine Tz.p0 func76 rfl λQ m Y=>?_;refine wv (h:=bC (λi e H=>(e 0=dLI l/\e 1=dI v/\e 5=dI i)/\(i<=l.length)/\(∀ j,j<i->l[j]?≠some v)) (λi=>l.length - i) 0 ⟨wg,wi,(by intro j k;omega)⟩ λq f i e H d=>?_);obtain ⟨o,p,a⟩:=d;have Y:=wa Y o;refine wv (h:=?_);repeat first|intro _|refine ⟨iI,?_⟩
 refine wq (λb=>?_) λb=>?_
 .have Y:=wa Y b;refine eJ (λg=>?_) λg=>?_
  .refine wv (h:=?_);have c:mem l v=true:=(mem_iff l v).2 (g ▸ aC b);exact m _ _ (by simp [go_sem,c])
  .exact wo (h:=wx f (i+1) ⟨wg,wj,(by exact lM a (by rw [aA b];simpa using g))⟩)
 .refine wv (h:=?_);have c:mem l v=false:=by rw [bK];intro h;obtain ⟨j,k,n⟩:=aN ((mem_iff l v).1 h);exact a j aD (by rw [aA k,n])
  exact m _ _ (by simp [go_sem,c])
theorem q9 (l:V2)(n:Nat)(q:n<=1000000):Pua 34 [dI n,dLI l] (dLI (bG l n)):=by
 refine Tz.pK ⟨λt=>t==5,λ_=>[]⟩ func34 rfl (λQ o=>?_);have Y:=trivial;refine wv (h:=bC (λi e H=>∃ a:V2,(e 1=dLI l/\e 0=dI n/\e 5=.own 0 a.length/\e 6=dI i)/\(H.get 0=some ⟨3,1,a.map cI,false⟩)/\(0<H.next)/\(i<=n)/\(a.length<=i)/\(a=((List.range i).filter λ(b:Nat)=>!mem l b).map (λ(b:Nat)=>(b:Int)))) (λi=>n - i) 0 ⟨([]),wg,wn,wn,wi,aE,(by rfl)⟩ λu d i e H j=>?_);obtain ⟨a,p,f,c,s,r,g⟩:=j;have Y:=xa2 Y p f (cW c);refine dR (λm=>?_) λm=>?_
 .have Y:=wa Y m;refine wo (h:=aB (ST l i) wl ?_);refine eJ (λk=>?_) λk=>?_
  .have Y:=wa Y k;exact wo (h:=wx d (i+1) ⟨(a++(if (!mem l i)=true then [(i:Int)] else [])),wg,wn,wn,wj,(by rw [aQ];split<;>simp<;>omega),(by rw [dW,<- g])⟩)
  .have Y:=wa Y k;exact wo (h:=wx d (i+1) ⟨(a++(if (!mem l i)=true then [(i:Int)] else [])),wg,wn,wn,wj,(by rw [aQ];split<;>simp<;>omega),(by rw [dW,<- g])⟩)
 .exact wv (h:=o _ _ (by simp [go_sem,Y,bG];rw [g,(aD:i=n)];simp))
theorem CK (t:Types)(D:t.ok)(g:Graph)(J:graphF g=0)(G:fV t g=true)(nodes edges:V2)(E:∀ i∈nodes,0<=i/\i<g.h.length)(F:∀ k∈edges,0<=k/\k<g.j.length):Pua 31 [t.d,g.d,dLI nodes,dLI edges] (.bool (pN t g nodes edges)):=by
 have o:=j7 J G;refine Tz.pK ⟨λt=>t==11,λr=>match r with|9=>[(0,8),(1,8),(4,8),(5,8),(6,8),(7,8)]|_=>[]⟩ func31 rfl (λQ x=>?_);have Y:=trivial;refine wv (h:=bC (λi e H=>(e 4=.adr t.c/\e 5=.adr g.c/\e 2=dLI nodes/\e 3=dLI edges/\e 9=dI i)/\(i<=nodes.length)/\(((nodes.take i).any (absB t g))=false)) (λi=>nodes.length - i) 0 ⟨wg,wi,(by rfl)⟩ λO z i e H v=>?_);obtain ⟨L,M,C⟩:=v;have Y:=wa Y L;refine wv (h:=?_);repeat first|intro _|refine ⟨iI,?_⟩
 refine wq (λj=>?_) λj=>?_
 .have hn':=E _ (aC j);have q:nodes[i].toNat<g.h.length:=aD;have n:=o.1 _ (aC q);have m:g.h[nodes[i].toNat].toNat<t.h.length:=aD;have p:absB t g nodes[i]=t.h[g.h[nodes[i].toNat].toNat].e7:=by simp [absB,gN,aA q,aA m]
  have Y:=xa2 Y j (aA q) (aA m);refine eJ (λA=>?_) λA=>?_
  .refine wv (h:=?_);have s:nodes.any (absB t g)=true:=bB.2 ⟨_,aC j,by rw [p,A]⟩;exact x _ _ (.inl (by simp only [go_sem,pN,s,IW,Fz]))
  .exact wo (h:=wx z (i+1) ⟨wg,wj,(by rw [eE _ _ _ j,C,p,A];rfl)⟩)
 .have hN:=pB C j;refine wv (h:=bC (λk e H=>(e 4=.adr t.c/\e 5=.adr g.c/\e 2=dLI nodes/\e 3=dLI edges/\e 10=dI k)/\(k<=edges.length)/\(((edges.take k).any (unfitB t g))=false)) (λk=>edges.length - k) 0 ⟨wg,wi,(by rfl)⟩ λN y k e H u=>?_);obtain ⟨K,q,s⟩:=u;have Y:=wa Y K;refine wv (h:=?_);repeat first|intro _|refine ⟨iI,?_⟩
  refine wq (λf=>?_) λf=>?_
  .have he':=F _ (aC f);have a:edges[k].toNat<g.j.length:=aD;have n:=o.2 _ (aC a);have B:g.j[edges[k].toNat].w.toNat<g.h.length:=aD;have l:g.j[edges[k].toNat].M.toNat<g.h.length:=aD;have p:unfitB t g edges[k] = !pP t g.j[edges[k].toNat].type g.h[g.j[edges[k].toNat].w.toNat] g.h[g.j[edges[k].toNat].M.toNat]:=by simp [unfitB,gN,aA a,aA B,aA l]
   have Y:=xa3 Y f (aA a) (aA B) (aA l);refine wo (h:=aI (Hr t D _ _ _) wl ?_);refine eJ (λb=>?_) λb=>?_
   .refine wv (h:=?_);have w:edges.any (unfitB t g)=true:=bB.2 ⟨_,aC f,by rw [p,b];rfl⟩;exact x _ _ (.inl (by simp only [go_sem,pN,w,IW,Bool.and_false]))
   .exact wo (h:=wx y (k+1) ⟨wg,wj,(by rw [eE _ _ _ f,s,p,b];rfl)⟩)
  .refine wv (h:=?_);have I:=pB s f;exact x _ _ (.inl (by simp only [go_sem,pN,hN,I,Bool.not_false,Bool.and_true]))
theorem vX (r:Rule)(c:r.right.i.h.length<=1000000)(b:r.right.i.j.length<=1000000):Pua 33 [r.d] (.tup [dLI r.N,dLI r.aa]):=by
 refine Tz.p0 func33 rfl λQ a Y=>?_;refine wo (h:=aI (q9 r.s.h _ c) wl ?_);refine wo (h:=aI (q9 r.s.j _ b) wl ?_);have Y:=xa1 Y @Rule.N.eq_1 @Rule.aa.eq_1;exact wo (h:=a _ _ wy)
theorem Jn (r:Rule)(c:r.left.i.h.length<=1000000)(b:r.left.i.j.length<=1000000):Pua 30 [r.d] (.tup [dLI r.bl,dLI r.bm]):=by
 refine Tz.p0 func30 rfl λQ a Y=>?_;refine wo (h:=aI (q9 r.q.h _ c) wl ?_);refine wo (h:=aI (q9 r.q.j _ b) wl ?_);have Y:=xa1 Y @Rule.bl.eq_1 @Rule.bm.eq_1;exact wo (h:=a _ _ wy)
def spanF (r:Rule):Int :=
 if subF r.left.i r.q≠0 then subF r.left.i r.q
 else eK (cO r.left.i r.q) r.right.i r.s
theorem Qo (r:Rule)(f:r.ok):Pua 124 [r.d] (dI (spanF r)):=by
 obtain ⟨_,b,a,i,g,_,_⟩:=f;refine Tz.pK ⟨λt=>t==4||t==5,λ_=>[]⟩ func124 rfl (λQ e=>?_);have Y:=trivial;refine wv (h:=aB (Ad r.left.i r.q) wl ?_);refine dR (λc=>?_) λc=>?_
 .have Y:=xa1 Y c @spanF.eq_1;exact wv (h:=e _ _ wy)
 .refine wv (h:=aB (Br r.left.i r.q b a) wl ?_);refine wv (h:=aB (u9 (cO r.left.i r.q) r.right.i r.s) wl ?_);have Y:=xa1 Y c @spanF.eq_1;exact wv (h:=e _ _ wy)
theorem QN (r:Rule):keptF r=if spanF r≠0 then spanF r else if (decide r.s.h.Nodup&&decide r.s.j.Nodup)=true then 0 else 11:=by
 unfold keptF spanF Ba;grind
theorem z6 (t:Types)(k:t.ok)(r:Rule)(o:r.ok):Pua 54 [t.d,r.d] (dI (ruleF t r)):=by
 have m:=EU t k r.left r.cond o.cond o.size;rw [Cond.x] at m;have q:=QN r;refine Tz.p0 func54 rfl λQ c Y=>?_;refine wv (h:=aB (pJ t k) wl ?_);refine dR (λb=>?_) λb=>?_
 .exact wv (h:=c _ _ (by simp [go_sem,ruleF,b]))
 .refine wo (h:=aB (qB r.name o.name) wl ?_);refine eJ (λe=>?_) λe=>?_
  .exact wv (h:=c _ _ (by simp [go_sem,ruleF,b,e]))
  .refine wv (h:=aB (u4 t k r.left) wl ?_);refine dR (λf=>?_) λf=>?_
   .exact wv (h:=c _ _ (by simp [go_sem,ruleF,b,e,f]))
   .refine wv (h:=aB (NU t k r) wl ?_);refine dR (λa=>?_) λa=>?_
    .exact wv (h:=c _ _ (by simp [go_sem,ruleF,b,e,f,a]))
    .have l:=AJ a;have s:=bI l.1;refine wv (h:=aB (Qo r o) wl ?_);refine dR (λn=>?_) λn=>?_
     .exact wv (h:=c _ _ (by simp [go_sem,ruleF,b,e,f,a,q,n]))
     .refine wo (h:=aB (qA r.s.h) wl ?_);refine wo (h:=aH (λl=>qA r.s.j) (λl=>wl) ?_);refine eJ (λj=>?_) λj=>?_
      .have hK':keptF r=11:=by rw [q,if_neg aD,if_neg (λh=>by rw [aL,decide_eq_true_eq,decide_eq_true_eq] at h;rcases j with h'|h';exact h' h.1;exact h' h.2)]
       exact wv (h:=c _ _ (by simp [go_sem,ruleF,b,e,f,a,hK']))
      .have hK':keptF r=0:=by rw [q,if_neg aD,if_pos (by rw [aL,decide_eq_true_eq,decide_eq_true_eq];exact j)]
       refine wv (h:=aB (vX r aD aD) wl ?_);refine wo (h:=aB (CK t k r.right.i l.1 l.2 r.N r.aa (λi p=>mN p) (λi p=>mN p)) wl ?_);refine eJ (λg=>?_) λg=>?_
       .exact wv (h:=c _ _ (by simp [go_sem,ruleF,b,e,f,a,hK',g]))
       .refine wv (h:=aB (m) wl ?_);exact wv (h:=c _ _ (by simp [go_sem,ruleF,b,e,f,a,hK',g]))
end Go.Abs
end
section
namespace Go.Abs
theorem RepV.hd {M:Nat->Prop}{σ:Nat->Option Ow}{N:Nat->Prop}{w:World}{m:Nat->Prop}{σ':Nat->Option Ow}{l:Nat->Prop}{w':World}{v:Value}{d:D}(h:RepV M σ N w v d) :
  ∀ v',RepV m σ' l w' v' d->RepV M σ (λi=>N i/\l i) w v d:=by
 induction h with
 | int=>exact λ_ _=>.int _ _
 | bool=>exact λ_ _=>.bool _
 | str=>exact λ_ _=>.str _
 | agg vs ds hl h1 hr ih =>
  intro v' b;cases b with
  | agg vs' _ hl' h1' hr' =>
   exact .agg vs ds hl h1 λj u x c a=>by
    have e:j<vs'.length:=by rw [hl'];exact (aO.1 a).1
    exact ih j u x c a vs'[j] (hr' j _ x (aA e) a)
 | tup vs ds hl hr ih =>
  intro v' b;cases b with
  | tup vs' _ hl' hr' =>
   exact .tup vs ds hl λj u x c a=>by
    have e:j<vs'.length:=by rw [hl'];exact (aO.1 a).1
    exact ih j u x c a vs'[j] (hr' j _ x (aA e) a)
 | nil=>exact λ_ _=>.nil
 | listN=>exact λ_ _=>.listN
 | list ad cap sz xs es hc hm hsz hl h1 hcell hr ih =>
  intro v' b;cases b with
  | listN=>exact .list ad cap sz xs [] hc hm hsz hl h1 hcell λj u x c a=>by simp at a
  | list ad' cap' sz' xs' _ hc' hm' hsz' hl' h1' hcell' hr' =>
   exact .list ad cap sz xs es hc hm hsz hl h1 hcell λj u x c a=>by
    have e:j<xs'.length:=by rw [hl'];exact (aO.1 a).1
    exact ih j u x c a xs'[j] (hr' j _ x (aA e) a)
 | adr ad xs ds hl h1 hcell hr ih =>
  intro v' b;cases b with
  | adr ad' xs' _ hl' h1' hcell' hr' =>
   exact .adr ad xs ds hl h1 hcell λj u x c a=>by
    have e:j<xs'.length:=by rw [hl'];exact (aO.1 a).1
    exact ih j u x c a xs'[j] (hr' j _ x (aA e) a)
 | ne ad cap hm=>exact λ_ _=>.ne ad cap hm
 | nilp=>exact λ_ _=>.nilp
 | ptr v id ver i off hN h1 h =>
  intro v' b;cases b with
  | ptr _ _ _ _ _ hN' _ _=>exact .ptr v id ver i off ⟨hN,hN'⟩ h1 h
 | own v id n hN h1 h =>
  intro v' b;cases b with
  | own _ _ _ hN' _ _=>exact .own v id n ⟨hN,hN'⟩ h1 h
 | win v id ver lo hi hN h1 hlh h =>
  intro v' b;cases b with
  | win _ _ _ _ _ hN' _ _ _=>exact .win v id ver lo hi ⟨hN,hN'⟩ h1 hlh h
 | fn f vs ds hl hr ih =>
  intro v' b;cases b with
  | fn _ vs' _ hl' hr' =>
   exact .fn f vs ds hl λj u x c a=>by
    have e:j<vs'.length:=by rw [hl'];exact (aO.1 a).1
    exact ih j u x c a vs'[j] (hr' j _ x (aA e) a)
 | nilf=>exact λ_ _=>.nilf
 | opt v g d hf h ih =>
  intro v' b;cases b with
  | opt _ _ _ hf' h''=>exact .opt v g d hf λk=>ih k v' (h'' k)
 | cst v=>exact λ_ _=>.cst v
 | junk v=>exact λ_ _=>.junk v
def BJ (τ:Nat->Nat):D->D
 | .own id n=>.own (τ id) n
 | d=>d
def Y5 (A:Nat->Prop):D->Prop
 | .own id _=>A id
 | d=>d.Q=true
def Ut (τ:Nat->Nat):D->D
 | .agg cs=>.agg (cs.map (BJ τ))
 | d=>BJ τ d
def okC (A:Nat->Prop):D->Prop
 | .agg cs=>∀ c∈cs,Y5 A c
 | d=>Y5 A d
theorem RepV.dq {M f:Nat->Prop}{σ1 σE:Nat->Option Ow}{q A:Nat->Prop}{w:World}{τ:Nat->Nat}{v:Value}{d:D}(h:RepV M σ1 q w v (BJ τ d))(a:Y5 A d)(i:∀ j,A j->σE j=σ1 (τ j))(p:∀ b,¬ M b->¬ f b):RepV f σE A w v d:=by
 by_cases c:∃ id n,d=.own id n
 .obtain ⟨id,n,rfl⟩:=c;cases h with
  | own _ _ _ hN h1 h=>exact .own v id n a h1 λo l=>h o (by rw [<- i id a];exact l)
 .have e:BJ τ d=d:=by cases d<;>first|rfl|exact absurd ⟨_,_,rfl⟩ c
  have m:d.Q=true:=by cases d<;>first|exact a|exact absurd ⟨_,_,rfl⟩ c
  rw [e] at h;exact h.br (λr u k g=>⟨p _ k,g⟩) m
theorem RepV.fa {M l:Nat->Prop}{σ1 σE:Nat->Option Ow}{o A:Nat->Prop}{w:World}{τ:Nat->Nat}{v:Value}{d:D}(h:RepV M σ1 o w v (Ut τ d))(a:okC A d)(i:∀ j,A j->σE j=σ1 (τ j))(k:∀ b,¬ M b->¬ l b):RepV l σE A w v d:=by
 by_cases c:∃ f,d=.agg f
 .obtain ⟨f,rfl⟩:=c;cases h with
  | agg vs _ hl h1 hr =>
   exact .agg vs f (bZ hl) h1 λj u x m g=>(hr j u (BJ τ x) m (by rw [aM,g];rfl)).dq (a x (aK g)) i k
 .have e:Ut τ d=BJ τ d:=by cases d<;>first|rfl|exact absurd ⟨_,rfl⟩ c
  have n:okC A d=Y5 A d:=by cases d<;>first|rfl|exact absurd ⟨_,rfl⟩ c
  rw [e] at h;rw [n] at a;exact h.dq a i k
structure Exact (H H1 E:AHeap) (τ:Nat->Nat):Prop where
 nx:∀ j,E.D j->j<E.next
 inj:∀ i j,E.D i->E.D j->τ i=τ j->i=j
 bu:∀ j,H.D j->E.D j/\τ j=j
 hk:∀ j,¬ E.D j->E.get j=none
 hw:∀ j k,E.get j=some k->(H.D j/\H.get j=some k/\H1.get j=some k) \/
  (∃ k0,H1.get (τ j)=some k0/\k0.ty=k.ty/\k0.Y=k.Y/\k0.fz=k.fz/\k0.P=k.P.map (·.map (BJ τ))/\∀ c∈k.P,∀ y∈c,Y5 E.D y)
theorem ACalls.exact {P:Program}{f:FuncId}{args:UN}{H E:AHeap}{r:D}{Q:D→AHeap→Prop}(h:ACalls P f args H Q)
  (hQ:(∀ j,H.D j→j<H.next)→(∀ j,¬ H.D j→H.get j=none)→∀ d H1,Q d H1→∃ τ,Exact H H1 E τ∧d=Ut τ r∧okC E.D r):ACalls P f args H fun d H1=>d=r∧H1=E :=
 ⟨h.1,fun M0 σ w vals hR ha=>(h.2 M0 σ w vals hR ha).mono fun e w' ⟨v,d,H1,σ1,he,hR1,hv,hst,hk,hq⟩=>by
  obtain ⟨τ,X,rfl,hok⟩:=hQ hR.b4 (fun j hj=>(hR.ce j hj).2) d H1 hq
  classical
  obtain ⟨σE,hσ⟩:∃ σE:Nat→Option Ow,∀ j,σE j=if E.D j then σ1 (τ j) else none:=⟨fun j=>if E.D j then σ1 (τ j) else none,fun _=>rfl⟩
  have hs:∀ j,E.D j→σE j=σ1 (τ j):=fun j hj=>by rw [hσ,if_pos hj]
  have hsn:∀ j,¬ E.D j→σE j=none:=fun j hj=>by rw [hσ,if_neg hj]
  have hal:∀ j o,σE j=some o→E.D j:=fun j o ho=>aY fun hn=>by rw [hsn j hn] at ho;cases ho
  have halg:∀ j k,E.get j=some k→E.D j:=fun j k ho=>aY fun hn=>by rw [X.hk j hn] at ho;cases ho
  have hmut:∀ b,¬ dQ M0 H1 σ1 b→¬ dQ M0 E σE b:=by
   rintro b hm (h0|⟨j,k,o,hk',hf,ho,hb⟩)
   ·exact hm (.inl h0)
   ·rw [hs j (halg j k hk')] at ho
    rcases X.hw j k hk' with ⟨h1,h2,h3⟩|⟨k0,h1,h2,h3,h4,_⟩
    ·rw [(X.bu j h1).2] at ho
     exact hm (.inr ⟨j,k,o,h3,hf,ho,hb⟩)
    ·exact hm (.inr ⟨τ j,k0,o,h1,h4.trans hf,ho,hb⟩)
  have hkE:Keeps (dQ M0 H σ) σ H.D w (dQ M0 E σE) σE E.D w':=by
   refine ⟨fun ad u hm hu=>?_,fun id o' hid ho'=>?_,fun id hid=>(X.bu id hid).1⟩
   ·obtain ⟨a1,a2⟩:=hk.cell ad u hm hu;exact ⟨hmut _ a1,a2⟩
   ·rw [hs id (X.bu id hid).1,(X.bu id hid).2] at ho';exact hk.own id o' hid ho'
  have hkS:Keeps (dQ M0 H1 σ1) σ1 (fun i=>H1.D i∧H.D i) w' (dQ M0 E σE) σE E.D w':=by
   refine ⟨fun ad u hm hu=>⟨hmut _ hm,hu⟩,fun id o' hid ho'=>?_,fun id hid=>(X.bu id hid.2).1⟩;rw [hs id (X.bu id hid.2).1,(X.bu id hid.2).2] at ho';exact ⟨o',ho',.inl rfl⟩
  have hRE:Rel M0 E σE w':=by
   refine ⟨fun j hj=>⟨hsn j hj,X.hk j hj⟩,X.nx,fun j k hk'=>?_,fun i j o o' b hi hj hb hb'=>?_,fun i o b hi hb=>?_,hR1.m0⟩
   ·have hj:=halg j k hk'
    rcases X.hw j k hk' with ⟨h1,h2,h3⟩|⟨k0,h1,h2,h3,h4,h5,h6⟩
    ·obtain ⟨o,ho,l⟩:=hR1.aj j k h3
     obtain ⟨o0,ho0,l0⟩:=hR.aj j k h2;obtain ⟨xs,a1,a2,a3⟩:=l.row;obtain ⟨ys,b1,b2,b3⟩:=l0.row;refine ⟨o,by rw [hs j hj,(X.bu j h1).2];exact ho,l.ah,l.ty,l.Y,l.F,xs,a1,a2,a3.len,fun q u d hu hd=>?_⟩;have hq':q<ys.length:=by rw [b3.len];exact (aO.1 hd).1
     exact ((a3.Z q u d hu hd).hd _ (b3.Z q ys[q] d (aA hq') hd)).q hkS
    ·obtain ⟨o,ho,l⟩:=hR1.aj (τ j) k0 h1
     obtain ⟨xs,a1,a2,a3⟩:=l.row;have hlen:k0.P.length=k.P.length:=by rw [h5,aR]
     have hfl:k0.P.flatten=k.P.flatten.map (BJ τ):=by rw [h5];exact List.map_flatten.symm
     refine ⟨o,by rw [hs j hj];exact ho,by rw [l.ah,hlen],by rw [l.ty,h2],by rw [l.Y,h3],fun c hc=>?_,xs,by rw [← h2,← hlen];exact a1,a2,by rw [a3.len,hfl,aR],fun q u d hu hd=>?_⟩
     ·have:=l.F (c.map (BJ τ)) (by rw [h5];exact pW hc)
      rwa [aR] at this
     ·have hd2:k0.P.flatten[q]?=some (BJ τ d):=by rw [hfl,aM,hd];rfl
      obtain ⟨c,hc,hdc⟩:=jX.1 (aK hd);exact (a3.Z q u _ hu hd2).dq (h6 c hc d hdc) hs hmut
   ·have hi':=hal i o hi
    have hj':=hal j o' hj;rw [hs i hi'] at hi;rw [hs j hj'] at hj;exact X.inj i j hi' hj' (hR1.inj _ _ o o' b hi hj hb hb')
   ·rw [hs i (hal i o hi)] at hi
    exact hR1.lt (τ i) o b hi hb
  refine ⟨v,r,E,σE,he,hRE,hv.fa hok hs hmut,⟨hst.os,hst.tape,hst.output,hst.size,hst.bu,fun i o' b ho hb=>?_⟩,hkE,rfl,rfl⟩;rw [hs i (hal i o' ho)] at ho;exact hst.new (τ i) o' b ho hb⟩
end Go.Abs
end
section
set_option maxRecDepth 100000
set_option maxHeartbeats 4000000
open Go Go.Proofs Tryz
namespace Go.Abs
def kO (s:ByteArray):Bool:=decide (40<(s.size:Int))
def vS (x:Attr):Bool:=kO x.name||decide (25<(x.af.length:Int))||x.af.any kO
def rZ (n:NodeTy):Bool:=kO n.name||n.r.any vS
def A1 (x:EdgeTy):Bool:=kO x.name
def jM (l:List NodeTy):Nat:=(l.map λn=>n.r.length).sum
def xB (t:Types):Bool:=decide ((t.h.length:Int)<=20)&&decide ((t.j.length:Int)<=30)&&decide (jM t.h<=30)&&!(t.h.any rZ)&&!(t.j.any A1)
@[go_sem,simp] theorem Xe:jM []=0:=rfl
theorem MN (l:List NodeTy){i:Nat}(h:i<l.length):jM (l.take (i+1))=jM (l.take i)+l[i].r.length:=by
 unfold jM;rw [List.take_succ_eq_append_getElem h,List.map_append,List.sum_append];simp
theorem Rl (l:List NodeTy)(i:Nat):jM (l.take i)≤jM l:=by
 have:jM l=jM (l.take i)+jM (l.drop i):=by
  unfold jM;rw [← List.sum_append,← List.map_append,List.take_append_drop]
 omega
theorem TQ {l:List NodeTy}{n:NodeTy}(h:n∈l):n.r.length<=jM l:=by
 induction l with
 | nil=>cases h
 | cons a l ih =>
  have e:jM (a :: l)=a.r.length+jM l:=by simp [jM]
  grind
theorem Gu {t:Types}(h:xB t=true):t.ok:=by
 simp [xB] at h;obtain ⟨⟨⟨⟨k,j⟩,i⟩,f⟩,e⟩:=h;refine ⟨λn c=>?_,λx b=>⟨?_⟩,aD,aD⟩
 .have hl:=TQ c;have:=f n c;simp [rZ,kO] at this;refine ⟨aD,λx b=>?_,aD⟩;have d:=this.2 x b;simp [vS,kO] at d;refine ⟨aD,λs g=>?_,aD⟩;grind
 .have:=e x b;simp [A1,kO] at this;omega
theorem Kl (t:Types)(R:∀ n∈t.h,n.r.length<=1000000000000000):Pua 26 [t.d] (.bool (xB t)):=by
 refine Tz.pK ⟨λt=>t==6,λ_=>[]⟩ func26 rfl (λQ u=>?_);have Y:=trivial;refine eJ (λW=>?_) λW=>?_
 .refine wv (h:=?_);have s:xB t=false:=by simp [xB];omega
  exact u _ _ (by simp [go_sem,s])
 .refine wv (h:=bC (λi e H=>(e 1=.adr t.c/\e 3=dI (jM (t.h.take i))/\e 4=dI i)/\(i<=t.h.length)/\(jM (t.h.take i)<=30)/\((t.h.take i).any rZ=false)) (λi=>t.h.length - i) 0 ⟨wg,wi,(by simp [jM]),(by rfl)⟩ λI0 J i e H D=>?_);obtain ⟨E0,hi,S,P⟩:=D;have Y:=wa Y E0;refine eJ (λp=>?_) λp=>?_
  .have hst:=MN t.h p;have T:=Rl t.h (i+1);have hn:=R _ (aC p);have Y:=xa1 Y p hst;refine eJ (λh8=>?_) λh8=>?_
   .refine wv (h:=?_);have s:xB t=false:=by
     rcases h8 with h8|h8
     .simp [xB];omega
     .have:t.h.any rZ=true:=bB.2 ⟨_,aC p,by simp [rZ,kO];omega⟩;simp [xB,this]
    exact u _ _ (by simp [go_sem,s])
   .have U:kO t.h[i].name=false:=by simp [kO];omega
    refine wv (h:=bC (λk e H=>(e 1=.adr t.c/\e 3=dI (jM (t.h.take (i+1)))/\e 4=dI i/\e 5=dI k)/\(k<=t.h[i].r.length)/\((t.h[i].r.take k).any vS=false)) (λk=>t.h[i].r.length - k) 0 ⟨wg,wi,(by rfl)⟩ λI2 I k e H C=>?_);obtain ⟨E2,hk,s⟩:=C;have Y:=wa Y E2;refine eJ (λb=>?_) λb=>?_
    .have Y:=wa Y b;refine eJ (λM=>?_) λM=>?_
     .refine wv (h:=?_);have f:vS t.h[i].r[k]=true:=by simp [vS,kO];omega
      have g:t.h.any rZ=true:=bB.2 ⟨_,aC p,by unfold rZ;rw [c7];right;exact bB.2 ⟨_,aC b,f⟩⟩;have a:xB t=false:=by simp [xB,g]
      exact u _ _ (by simp [go_sem,a])
     .have V:kO t.h[i].r[k].name=false:=by simp [kO];omega
      refine wv (h:=bC (λm e H=>∃ j:Nat,(e 1=.adr t.c/\e 3=dI (jM (t.h.take (i+1)))/\e 4=dI i/\e 5=dI k/\e 6=.ptr j 1 0 0/\e 7=dI m)/\(H.get j=some ⟨88,4,[t.h[i].r[k].c],false⟩)/\(j<H.next)/\(m<=t.h[i].r[k].af.length)/\((t.h[i].r[k].af.take m).any kO=false)) (λm=>t.h[i].r[k].af.length - m) 0 ⟨H.next,wg,wn,wn,wi,(by rfl)⟩ λI4 G m e H B=>?_);obtain ⟨j,E4,w,v,hm,O⟩:=B;have Y:=xa2 Y E4 w (cW v);refine eJ (λo=>?_) λo=>?_
      .have Y:=wa Y o;refine eJ (λL=>?_) λL=>?_
       .refine wv (h:=?_);have f:vS t.h[i].r[k]=true:=by unfold vS;rw [c7];right;exact bB.2 ⟨_,aC o,by simp [kO];omega⟩
        have g:t.h.any rZ=true:=bB.2 ⟨_,aC p,by unfold rZ;rw [c7];right;exact bB.2 ⟨_,aC b,f⟩⟩;have a:xB t=false:=by simp [xB,g]
        exact u _ _ (by simp [go_sem,a])
       .exact wo (h:=wx G (m+1) ⟨j,wg,wn,wn,wj,(by rw [eE _ _ _ o,O];simp [kO];omega)⟩)
      .have hZ:=pB O o;exact wo (h:=wx I (k+1) ⟨wg,wj,(by rw [eE _ _ _ b,s];simp [vS,V,hZ];omega)⟩)
    .have hA:=pB s b;exact wo (h:=wx J (i+1) ⟨wg,wj,aD,(by rw [eE _ _ _ p,P];simp [rZ,U,hA])⟩)
  .have E:=pB P p;rw [aG aD] at S;refine wv (h:=bC (λq e H=>(e 1=.adr t.c/\e 8=dI q)/\(q<=t.j.length)/\((t.j.take q).any A1=false)) (λq=>t.j.length - q) 0 ⟨wg,wi,(by rfl)⟩ λI6 F q e H A=>?_);obtain ⟨Z,hj,N⟩:=A;have Y:=wa Y Z;refine eJ (λl=>?_) λl=>?_
   .have Y:=wa Y l;refine eJ (λK=>?_) λK=>?_
    .refine wv (h:=?_);have g:t.j.any A1=true:=bB.2 ⟨_,aC l,by simp [A1,kO];omega⟩;have a:xB t=false:=by simp [xB,g]
     exact u _ _ (by simp [go_sem,a])
    .exact wo (h:=wx F (q+1) ⟨wg,wj,(by rw [eE _ _ _ l,N];simp [A1,kO];omega)⟩)
   .have hEe:=pB N l;refine wv (h:=?_);have a:xB t=true:=by simp only [xB,E,hEe];simp;omega
    exact u _ _ (by simp [go_sem,a])
def fewG (g:Graph):Bool:=decide ((g.h.length:Int)<=45)&&decide ((g.j.length:Int)<=90)
def fewP (p:Pattern):Bool:=fewG p.i&&decide ((p.o.length:Int)<=15)&&decide ((p.E.length:Int)<=15)
def fewPart (p:Part)(n:Int):Bool:=decide ((p.h.length:Int)+p.j.length<=n)
structure Part.le (p:Part):Prop where
 n:p.h.length<=1000000000000000
 e:p.j.length<=1000000000000000
theorem AL (g:Graph):Pua 131 [g.d] (.bool (fewG g)):=by
 refine Tz.p0 func131 rfl λQ a Y=>?_;have Y:=wa Y @fewG.eq_1;exact wo (h:=a _ _ wy)
theorem wQ (p:Pattern):Pua 64 [p.d] (.bool (fewP p)):=by
 refine Tz.p0 func64 rfl λQ a Y=>?_;refine wo (h:=aB (AL p.i) wl ?_);have Y:=wa Y @fewP.eq_1;exact wo (h:=a _ _ wy)
theorem Kk (p:Part)(a:p.le)(n:Int):Pua 66 [p.d,dI n] (.bool (fewPart p n)):=by
 obtain ⟨e,c⟩:=a;refine Tz.p0 func66 rfl λQ b Y=>?_;have Y:=wa Y @fewPart.eq_1;exact wo (h:=b _ _ wy)
theorem SY (p:Part)(a:p.le)(n:Int):Pua 65 [p.d,dI n] (.bool (fewPart p n)):=by
 obtain ⟨e,c⟩:=a;refine Tz.p0 func65 rfl λQ b Y=>?_;have Y:=wa Y @fewPart.eq_1;exact wo (h:=b _ _ wy)
mutual
def q6:Cond->Int->Int
 | .mk k l m p,b=>if (!fewP p||!fewPart m 140)=true then -1 else qZ l (b - 1)
def qZ:List Cond->Int->Int
 | [],b=>b
 | c :: l,b=>if 0<=b then qZ l (q6 c b) else b
end
theorem UP (c:Cond)(b:Int):q6 c b=if (!fewP c.l||!fewPart c.map 140)=true then -1 else qZ c.u (b - 1):=by cases c;rw [q6];rfl
mutual
theorem HQ:∀ (c:Cond) (b:Int),0<=b->-1<=q6 c b/\q6 c b<=b - 1
 | .mk k l m p,b,h=>by
  rw [q6];split
  ·omega
  ·exact HO l (b - 1) (by omega)
theorem HO:∀ (l:List Cond) (b:Int),-1<=b->-1<=qZ l b/\qZ l b<=b
 | [],b,h=>by rw [qZ];omega
 | c :: l,b,h=>by
  rw [qZ];split
  ·rename_i h0
   have h1:=HQ c b h0;have h2:=HO l (q6 c b) h1.1;omega
  ·omega
end
mutual
def Cond.le:Cond->Prop
 | .mk k l m p=>m.le/\Cond.eN l
def Cond.eN:List Cond->Prop
 | []=>True
 | c :: l=>c.le/\Cond.eN l
end
theorem M9 (l:List Cond):Cond.eN l↔∀ c∈l,c.le:=by
 induction l with
 | nil=>simp [Cond.eN]
 | cons a l ih=>simp [Cond.eN,ih]
theorem vU (c:Cond):c.le↔c.map.le/\∀ k∈c.u,k.le:=by cases c;simp [Cond.le,M9,Cond.u,Cond.map]
mutual
theorem HP:∀ (c:Cond) (b:Int),0<=b->0<=q6 c b->c.ok/\(c.size:Int)<=b - q6 c b
 | .mk k l m p,b,h,h0=>by
  rw [q6] at h0 ⊢;split at h0
  ·omega
  ·rename_i h1
   rw [if_neg h1];have h2:=OZ l (b - 1) (by omega) h0;simp [fewP,fewG,fewPart] at h1;refine ⟨⟨⟨?_,?_,?_,?_,?_,?_⟩,h2.1⟩,?_⟩<;>simp only [Cond.map,Cond.l,Cond.size]<;>omega
theorem OZ:∀ (l:List Cond) (b:Int),-1<=b->0<=qZ l b->Cond.dv l/\(Cond.ac l:Int)<=b - qZ l b
 | [],b,h,h0=>by simp [Cond.dv,Cond.ac,qZ]
 | c :: l,b,h,h0=>by
  rw [qZ] at h0 ⊢;split at h0
  ·rename_i hb
   rw [if_pos hb];have h1:=HQ c b hb;have h2:=HO l (q6 c b) h1.1;have h3:=HP c b hb (by omega);have h4:=OZ l (q6 c b) h1.1 h0;refine ⟨⟨h3.1,h4.1⟩,?_⟩;simp only [Cond.ac];omega
  ·omega
end
theorem QL {l:List Cond}{i:Nat}(h:i<l.length){b:Int}(a:0<=b):qZ (l.drop i) b=qZ (l.drop (i+1)) (q6 l[i] b):=by
 rw [fR h,qZ,if_pos a]
theorem Tp {l:List Cond}{i:Nat}{b:Int}(h:¬ (i<l.length/\0<=b)):qZ (l.drop i) b=b:=by
 by_cases a:i<l.length
 .rw [fR a,qZ,if_neg aD]
 .rw [iR aD,qZ]
theorem Qr:∀ c:Cond,c.le->∀ b:Int,0<=b->b<=1000->Pua 132 [.agg c.c,dI b] (dI (q6 c b)):=by
 refine jU λc n r d t s=>?_;obtain ⟨o,p⟩:=(vU c).1 r;have a:=UP c d;refine Tz.p0 func132 rfl λQ k _=>?_;have Y:=@Cond.x;refine wo (h:=aB (wQ c.l) wl ?_);refine wo (h:=aH (λq=>Kk c.map o 140) (λq=>wl) ?_);refine eJ (λj=>?_) λj=>?_
 .rw [if_pos (bZ j)] at a;exact wv (h:=k _ _ (by simp [go_sem,a]))
 .rw [if_neg (bZ j)] at a;refine wv (h:=bC (λi e H=>∃ b:Int,(e 2=.adr c.c/\e 1=dI b/\e 5=dI i)/\(i<=c.u.length)/\(-1<=b/\b<d)/\(qZ (c.u.drop i) b=q6 c d)) (λi=>c.u.length - i) 0 ⟨((d - 1)),wg,wi,aD,(by exact a.symm)⟩ λy g i e H f=>?_);obtain ⟨b,v,w,x,l⟩:=f;have Y:=wa Y v;refine wv (h:=?_);repeat first|intro _|refine ⟨iI,?_⟩
  refine wq (λm=>?_) λm=>?_
  .have h5':i<c.u.length/\0<=b:=aD;have Y:=xa1 Y m h5'.1;refine wo (h:=aB ((by have:=n _ (aC h5'.1) (p _ (aC h5'.1)) b h5'.2 aD;rwa [Cond.x] at this)) wl ?_);exact wo (h:=wx g (i+1) ⟨(q6 c.u[i] b),wg,wj,(by have:=HQ c.u[i] b h5'.2;omega),(by rw [<- l,QL h5'.1 h5'.2])⟩)
  .have h5':¬ (i<c.u.length/\0<=b):=aD;refine wv (h:=?_);have u:q6 c d=b:=by rw [<- l,Tp h5']
   exact k _ _ (by simp [go_sem,u])
def fewC (c:Cond):Bool:=decide (0<=q6 c 40)
theorem Kh (c:Cond)(a:c.le):Pua 67 [.agg c.c] (.bool (fewC c)):=by
 refine Tz.p0 func67 rfl λQ b _=>?_;have Y:=@Cond.x;refine wv (h:=aB ((by have:=Qr c a 40 aD aD;rwa [Cond.x] at this)) wl ?_);have Y:=wa Y @fewC.eq_1;exact wv (h:=b _ _ wy)
def fewR (r:Rule):Bool:=decide ((r.name.size:Int)<=60)&&fewP r.left&&fewP r.right&&fewPart r.q 140&&fewPart r.s 140&&fewC r.cond
structure Rule.le (r:Rule):Prop where
 q:r.q.le
 s:r.s.le
 cond:r.cond.le
theorem SU (r:Rule)(b:r.le):Pua 27 [r.d] (.bool (fewR r)):=by
 refine Tz.p0 func27 rfl λQ c Y=>?_;refine wo (h:=aH (λa=>wQ r.left) (λa=>wl) ?_);refine wo (h:=aH (λa=>wQ r.right) (λa=>wl) ?_);refine wo (h:=aH (λa=>SY r.q b.q 140) (λa=>wl) ?_);refine wo (h:=aH (λa=>Kk r.s b.s 140) (λa=>wl) ?_);refine wo (h:=aH (λa=>(by have:=Kh r.cond b.cond;rwa [Cond.x] at this)) (λa=>wl) ?_);have Y:=wa Y @fewR.eq_1;exact wo (h:=c _ _ wy)
end Go.Abs
end
