/- Plain law: the type graphs, patterns, rules and hosts of dra -/
import Derived.Test.YtbgbahlipnaflaaGreatZuAU
import Derived.Test.YtbgbahlipnaflaaGreatZuAQ
import Derived.Test.YtbgbahlipnaflaaGreatZuAS
import Derived.Test.YtbgbahlipnaflaaGreatZuAG
import Derived.Laws.BitsLemmas
set_option linter.unusedVariables false
set_option linter.unusedSimpArgs false
section
set_option maxRecDepth 100000
set_option maxHeartbeats 4000000
open Go Go.Proofs Tryz
namespace Go.Abs
/-! ### type graphs -/
structure MadeTy (t:Types):Prop where
 v:(dA t).2=0
 g4:t.g4
 ne:t.j.length<=5
 nn:t.h.length<=6
structure SlotIn (t:Types) (ns:V2) (v:Int) (s:Slot):Prop where
 n0:0<=s.node
 n1:s.node<ns.length
 a0:0<=s.H
 a1:s.H<(bQ t (ns[s.node.toNat]?.getD 0)).length
 v0 : -1<=s.y.O
 v1:s.y.O<v
 d0 : -1000000<=s.y.add
 d1:s.y.add<=1000000
theorem SlotIn.mono {t:Types}{ns:V2}{v w:Int}{s:Slot}(h:SlotIn t ns v s)(hv:v<=w):SlotIn t ns w s:=⟨h.n0,h.n1,h.a0,h.a1,h.v0,by have:=h.v1;omega,h.d0,h.d1⟩
theorem Uk {t:Types}{p:Pattern}{s:Slot}(h:SlotIn t p.i.h p.vars s):gX t p s=0:=by
 obtain ⟨g,f,e,d,c,i,b,a⟩:=h;unfold gX;rw [if_pos];unfold mI inF Pattern.B;simp only [aL,decide_eq_true_eq];exact ⟨⟨⟨⟨g,f⟩,e,d⟩,c,aD⟩,b,a⟩
def Rp (l:List Slot):Prop:=∀ (i:Nat) (h:i<l.length),((l.take i).any (sameSlot l[i]))=false
theorem SH {t:Types}{p:Pattern}(c:∀ s∈p.o,SlotIn t p.i.h p.vars s)(b:Rp p.o):bV (tV t p) 0 p.o.length=0:=by
 refine iM _ _ λj _ d=>?_;have a:j<p.o.length:=aD;rw [AH a,if_neg (by rw [Uk (c _ (aC a))];simp),if_neg (by rw [b j a];simp)]
def Mm (t:Types)(d:Dr24):Part:=⟨(Rw (U5 t d).h.length d.da).take (XS t d).h.length,(Rw (U5 t d).j.length d.da).take (XS t d).j.length⟩
structure Core24 (t:Types) (d:Dr24):Prop where
 g0:graphF (Ak t d.left.i)=0
 t0:fV t (Ak t d.left.i)=true
 gR:graphF (Ql t d)=0
 tR:fV t (Ql t d)=true
 sub:subF (Ak t d.left.i) (Mk t d)=0
 mor:eK (cO (Ak t d.left.i) (Mk t d)) (Ql t d) (Mm t d)=0
 inj:Ba (cO (Ak t d.left.i) (Mk t d)) (Ql t d) (Mm t d)=true
 hl:pN t (Ql t d) (bG (Mm t d).h (Ql t d).h.length) (bG (Mm t d).j (Ql t d).j.length)=true
theorem NH {t:Types}{r:Rule}(a:(dA t).2=0)(c:lA r.name=true)(e:c8 t r.left=0)(b:iP t r=0)(f:keptF r=0)(d:pN t r.right.i r.N r.aa=true)(g:condF t r.left r.cond=0):ruleF t r=0:=by
 unfold ruleF;rw [if_neg (by rw [a];simp),if_neg (by rw [c];simp),if_neg (by rw [e];simp),if_neg (by rw [b];simp),if_neg (by rw [f];simp),if_neg (by rw [d];simp),g]
theorem Nq {t:Types}{p:Pattern}(a:c8 t p=0):condF t p trueC=0:=by
 unfold condF;rw [if_neg (by rw [a];simp),if_neg (by decide)];rfl
theorem HD (n:Nat):(iJ n).Nodup:=QB (Tg n)
theorem Kg {t:Types}{r:Rule}(d:graphF r.right.i=0)(b:fV t r.right.i=true)(a:r.right.vars=r.left.vars)(e:r.right.E=[])(f:r.right.o.length<=10)(c:bV (tV t r.right) 0 r.right.o.length=0):iP t r=0:=by
 unfold iP;rw [if_neg (by rw [d];simp),if_neg (by rw [b];simp),if_neg (by rw [a,e];simp),if_neg aD,c]
theorem O1 {r:Rule}(a:subF r.left.i r.q=0)(b:eK (cO r.left.i r.q) r.right.i r.s=0)(c:Ba (cO r.left.i r.q) r.right.i r.s=true):keptF r=0:=by
 unfold keptF;rw [if_neg (by rw [a];simp),if_neg (by rw [b];simp),if_neg (by rw [c];simp)]
def xK (p:Nat->Bool)(n:Nat):Nat:=((List.range n).filter p).length
theorem AX (p:Nat->Bool)(n:Nat):xK p (n+1)=xK p n+(if p n=true then 1 else 0):=by
 unfold xK;rw [dO,fJ,aQ];by_cases h:p n=true<;>simp [h]
theorem Ix (p:Nat->Bool):∀ n,xK p n+xK (λi=>!p i) n=n
 | 0=>rfl
 | n+1=>by
  have ih:=Ix p n;rw [AX,AX];cases p n<;>simp<;>omega
theorem OE (l:V2)(n:Nat):(bG l n).length=xK (λi=>!mem l i) n:=by unfold bG xK;rw [aR]
theorem Iw {p q:Nat->Bool}{n:Nat}(h:∀ i,i<n->p i=q i):xK p n=xK q n:=by
 unfold xK;rw [Gy λi a=>h i (aW.1 a)]
theorem Si (p:Nat->Bool)(v:Nat):∀ n,xK (λi=>p i||decide (i=v)) n=xK p n+(if v<n/\p v=false then 1 else 0)
 | 0=>by simp [xK]
 | n+1=>by
  rw [AX,AX,Si p v n];by_cases h:n=v
  .subst h;cases hp:p n<;>simp [hp]
  .have e:decide (n=v)=false:=by simpa using h
   have c:(v<n+1/\p v=false)↔(v<n/\p v=false):=⟨λ⟨a,b⟩=>⟨aD,b⟩,λ⟨a,b⟩=>⟨aD,b⟩⟩;rw [e,sL];simp only [c];omega
theorem Jz (l:V2)(v:Int){j:Nat}(h:j<l.length):mem (l.take (j+1)) v=(mem (l.take j) v||decide (l[j]=v)):=by
 rw [aT,c7,mem_iff,mem_iff,List.take_succ_eq_append_getElem h,aZ,bP,decide_eq_true_eq];exact ⟨λh=>h.imp id Eq.symm,λh=>h.imp id Eq.symm⟩
def Ir (l:V2)(k:Nat):Nat:=((List.range k).filter λi=>!mem (l.take i) (l[i]?.getD 0)).length
theorem Iq (l:V2)(k:Nat):Ir l (k+1)=Ir l k+if mem (l.take k) (l[k]?.getD 0)=true then 0 else 1:=by
 unfold Ir;rw [dO,fJ,aQ];cases h:mem (l.take k) (l[k]?.getD 0)<;>simp [h]
theorem Pk {l:V2}{n:Nat}(hr:∀ x∈l,0<=x/\x<n):∀ k,k<=l.length->Ir l k=xK (λi=>mem (l.take k) i) n
 | 0,_=>by
  have:xK (λi=>mem (l.take 0) (i:Int)) n=xK (λ_=>false) n:=Iw λi _=>by simp [AP]
  have h2:xK (λ_=>false) n=0:=by
   unfold xK;rw [qW.2 (λ_ _=>by simp)];rfl
  rw [this,h2];rfl
 | k+1,hk=>by
  have ih:=Pk hr k aD;have hx:=hr _ (aC (aD:k<l.length));have e:xK (λi=>mem (l.take (k+1)) (i:Int)) n=xK (λi=>mem (l.take k) (i:Int)||decide (i=l[k].toNat)) n:=Iw λi _=>by
   rw [Jz l _ (aD:k<l.length)];congr 1;rw [decide_eq_decide];omega
  rw [e,Si,Iq,ih,aA (aD:k<l.length),Option.getD_some,show ((l[k].toNat:Nat):Int)=l[k] by omega];have hlt:l[k].toNat<n:=aD;cases hm:mem (l.take k) l[k]<;>simp [hlt]
theorem OD {l:V2}{n:Nat}(a:∀ x∈l,0<=x/\x<n):(bG l n).length+Ir l l.length=n:=by
 rw [OE,Pk a l.length (bF _),uN];have:=Ix (λi=>mem l (i:Int)) n;omega
theorem Ip {l:V2}(hd:l.Nodup):∀ k,k<=l.length->Ir l k=k
 | 0,_=>rfl
 | k+1,hk=>by
  rw [Iq,Ip hd k aD,if_neg];rw [JX,bK];intro hm;have hk':k<l.length:=aD;rw [mem_iff,aA hk',Option.getD_some] at hm;have h2:(l.take (k+1)).Nodup:=(List.take_sublist _ _).nodup hd;rw [List.take_succ_eq_append_getElem hk',oU] at h2;exact h2.2.2 _ hm _ (bP.2 rfl) rfl
theorem CW {l:V2}{n:Nat}(a:∀ x∈l,0<=x/\x<n)(b:l.Nodup):(bG l n).length+l.length=n:=by
 have:=OD a;rw [Ip b _ (bF _)] at this;exact this
section
variable {t:Types} {r:Rule} {h:Host} {m:Mat}
theorem StepIn.dy (S:StepIn t r h m):∀ x∈m.m.h,0<=x/\x<h.i.h.length:=λx hx=>by
 obtain ⟨i,hi,rfl⟩:=aN hx;have:=S.hm.len;exact (S.hm.bO i hi aD).1
theorem StepIn.hq (S:StepIn t r h m):∀ x∈m.m.j,0<=x/\x<h.i.j.length:=λx hx=>by
 obtain ⟨i,hi,rfl⟩:=aN hx;exact S.hm.dm i hi
end
structure StepOk (t:Types) (r:Rule) (h:Host) (m:Mat):Prop where
 S:StepIn t r h m
 ff:pE t r h m=0
 sol:eF t r.left h m.m=(m.vars,0)
 put:r8 t (bS t r h m).i (cT r h m) m.vars r.right.o=0
 nn:(bS t r h m).i.h.length<=40
 ne:(bS t r h m).i.j.length<=80
theorem Ui {t:Types}{r:Rule}{h:Host}{m:Mat}(f:RuleV t r)(e:HostOk t h)(c:gS t r h m=0):StepOk t r h m:=by
 unfold gS at c;split at c
 .contradiction
 .rename_i h1;have d:kT t r h m=0:=by simpa using h1
  unfold kT at d;split at d
  .contradiction
  .rename_i h2;have a:pE t r h m=0:=by simpa using h2
   have b:eF t r.left h m.m=(m.vars,0):=by
    unfold pE at a;split at a
    .cases a
    .split at a
     .contradiction
     .rename_i h4;split at a
      .cases a
      .rename_i h5;exact Prod.ext (bZ h5) (bZ h4)
   split at c
   .contradiction
   .rename_i h3;split at c
    .cases c
    .rename_i h4;exact ⟨LC f e a,a,b,by simpa using h3,aD,aD⟩
theorem StepOk.after {t:Types}{r:Rule}{h:Host}{m:Mat}(S:StepOk t r h m):fM t (bM t r h m)=0:=S.S.after S.put S.nn S.ne
@[go_sem] theorem afF (o:Option UInt8)(a:D):((Option.map cU o).getD [a]).length=1:=by cases o<;>rfl
@[go_sem] theorem aeZ (o:Option B3)(c b a:D):((Option.map VM o).getD [c,b,a]).length=3:=by cases o<;>rfl
@[go_sem] theorem afG (o:Option B2)(b a:D):((Option.map cP o).getD [b,a]).length=2:=by cases o<;>rfl
theorem OI (l:List Slot):fD (l.map Slot.c)=l.map Slot.c:=mD λc hc=>by
 rw [aX] at hc;obtain ⟨x,_,rfl⟩:=hc;rfl
theorem OH (l:List Test):fD (l.map Test.c)=l.map Test.c:=mD λc hc=>by
 rw [aX] at hc;obtain ⟨x,_,rfl⟩:=hc;rfl
theorem Wf (c:Cond):iU c.c=c.c:=by
 refine jU (p:=λc=>iU c.c=c.c) (λc b=>?_) c;rw [Cond.x];have f:fD (c.u.map Cond.c)=c.u.map Cond.c:=mD λd a=>by
  rw [aX] at a;obtain ⟨x,e,rfl⟩:=a;exact b x e
 simp [iU,mL,dLI,dI,eY,Ah,OI,OH,f]
theorem UF (l:List Cond):fD (l.map Cond.c)=l.map Cond.c:=mD λc hc=>by
 rw [aX] at hc;obtain ⟨x,_,rfl⟩:=hc;exact Wf x
theorem aaG (l:Yb):fD (l.map cL)=l.map cL:=mD λc hc=>by
 rw [aX] at hc;obtain ⟨x,_,rfl⟩:=hc;simp [cL,dLI,iU,mL,eY]
def small (d:Dr5)(a b:Nat):Dr5:=⟨d.h.take (min d.h.length a),d.j.take (min d.j.length b)⟩
structure Dr26 where
 types:List B2
 eh:List B2
 G:Dr24
 ef:Dr15
def Dr26.c (d:Dr26):UN:=[.list (d.types.map cP),.list (d.eh.map cP)]++d.G.c++d.ef.c
@[go_sem] theorem Dr26.Q (d:Dr26):D.J d.c=true:=by simp [Dr26.c,yN,Dr24.Q,Dr15.c,D.J,D.Q,Vq,Dy]
def t26 (d:Dr26):Types:=aaU d.types d.eh
def R1 (d:Dr26):Host:=XQ (t26 d) ⟨d.ef.h.take (min d.ef.h.length 6),d.ef.j.take (min d.ef.j.length 8)⟩
@[go_sem] theorem aeX (o:Option Mat)(d b a:D):((Option.map Mat.c o).getD [d,b,a]).length=3:=by cases o<;>rfl
/-! ### StepCounts -/
@[go_sem] theorem Ym (l:V2):Ir l 0=0:=rfl
def Ga:V2->V2->Int
 | x :: l,y :: m=>if x≠y then IntKind.i64.wrap (x - y) else Ga l m
 | l,m=>IntKind.i64.wrap ((l.length:Int) - m.length)
theorem Iz {l m:V2}(h:l=[]\/m=[]):Ga l m=IntKind.i64.wrap ((l.length:Int) - m.length):=by
 rcases h with rfl|rfl
 .cases m<;>simp [Ga]
 .cases l<;>simp [Ga]
theorem Lc (x y:Int)(l m:V2):Ga (x :: l) (y :: m)=if x≠y then IntKind.i64.wrap (x - y) else Ga l m:=by simp [Ga]
def T1 (x:Int):Prop:=-9223372036854775808<=x/\x<=9223372036854775807
theorem VQ {x y:Int}(b:T1 x)(a:T1 y)(h:x≠y):IntKind.i64.wrap (x - y)≠0:=by
 rw [IntKind.wrap_i64];unfold T1 at b a;omega
theorem Lb:∀ {a b:V2},(∀ x∈a,T1 x)->(∀ x∈b,T1 x)->a.length<=1000000000000000->b.length<=1000000000000000->(Ga a b=0↔a=b)
 | [],b,_,_,_,h2=>by
  rw [Iz (.inl rfl),IntKind.wrap_i64];cases b with
  | nil=>simp
  | cons y m=>simp at h2 ⊢;omega
 | x :: l,[],_,_,h1,_=>by
  rw [Iz (.inr rfl),IntKind.wrap_i64];simp at h1 ⊢;omega
 | x :: l,y :: m,ha,hb,h1,h2=>by
  have ih:=Lb (a:=l) (b:=m) (λz hz=>ha z (dS _ hz)) (λz hz=>hb z (dS _ hz)) (by simp at h1;omega) (by simp at h2;omega);rw [Lc];by_cases h:x=y
  .subst h;rw [if_neg aE,ih];simp
  .rw [if_pos h];have:=VQ (ha x aE) (hb y aE) h;constructor
   .intro h0;exact absurd h0 this
   .intro h0;cases h0;exact absurd rfl h
theorem Hl (a b:V2):Pua 62 [dLI a,dLI b] (dI (Ga a b)):=by
 refine Tz.pK ⟨λt=>t==2000000,λ_=>[]⟩ func62 rfl (λQ l=>?_);have Y:=trivial;refine wv (h:=bC (λi e H=>(e 0=dLI a/\e 1=dLI b/\e 5=dI i)/\(i<=a.length)/\(i<=b.length)/\(Ga (a.drop i) (b.drop i)=Ga a b)) (λi=>a.length - i) 0 ⟨wg,wi,wi,(by rfl)⟩ λq g i e H f=>?_);obtain ⟨o,p,n,k⟩:=f;have Y:=wa Y o;refine wv (h:=?_);repeat first|intro _|refine ⟨iI,?_⟩
 refine wq (λm=>?_) λm=>?_
 .have hia:i<a.length:=aD;have d:i<b.length:=aD;have c:=k;rw [fR hia,fR d,Lc] at c;have Y:=xa2 Y m (aA hia) (aA d);refine wv (h:=?_);repeat first|intro _|refine ⟨iI,?_⟩
  refine wq (λj=>?_) λj=>?_
  .rw [if_pos j] at c;exact wo (h:=l _ _ (by simp [go_sem,<- c]))
  .rw [if_neg (bZ j)] at c;exact wo (h:=wx g (i+1) ⟨wg,wj,wj,(by exact c)⟩)
 .have hX:Ga a b=IntKind.i64.wrap ((a.length:Int) - b.length):=by
   rw [<- k,Iz]
   .congr 1;rw [fX,fX];omega
   .rcases bX i a.length with h|h
    .right;rw [List.drop_eq_nil_iff];omega
    .left;rw [List.drop_eq_nil_iff];omega
  exact wo (h:=l _ _ (by simp [go_sem,hX]))
theorem Ps {a b:V2}(ha:∀ x∈a,T1 x)(hb:∀ x∈b,T1 x)(h1:a.length<=1000000000000000)(h2:b.length<=1000000000000000):DN a b:=⟨_,Hl a b,Lb ha hb h1 h2⟩
deriving instance DecidableEq for Term
deriving instance DecidableEq for Slot
deriving instance DecidableEq for Test
deriving instance DecidableEq for Pattern
mutual
def Un:Cond→Cond→Bool
 | .mk k l m p,.mk k' l' m' p'=>decide (k=k')&&decide (m=m')&&decide (p=p')&&BH l l'
def BH:List Cond→List Cond→Bool
 | [],[]=>true
 | [],_ :: _=>false
 | _ :: _,[]=>false
 | a :: l,b :: l'=>Un a b&&BH l l'
end
mutual
theorem Kb:∀ a b:Cond,Un a b=true↔a=b
 | .mk k l m p,.mk k' l' m' p'=>by
  have:=G4 l l';simp only [Un,aL,decide_eq_true_eq,this,Cond.mk.injEq];constructor
  ·rintro ⟨⟨⟨h1,h2⟩,h3⟩,h4⟩;exact ⟨h1,h4,h2,h3⟩
  ·rintro ⟨h1,h4,h2,h3⟩;exact ⟨⟨⟨h1,h2⟩,h3⟩,h4⟩
theorem G4:∀ a b:List Cond,BH a b=true↔a=b
 | [],[]=>by simp [BH]
 | [],_ :: _=>by simp [BH]
 | _ :: _,[]=>by simp [BH]
 | a :: l,b :: l'=>by
  have h1:=Kb a b;have h2:=G4 l l';simp [BH,h1,h2]
end
instance:DecidableEq Cond:=fun a b=>decidable_of_iff _ (Kb a b)
deriving instance DecidableEq for Rule
deriving instance DecidableEq for Stp26
theorem J9 {x y:Slot}(h:x.node=y.node/\x.H=y.H/\x.y.O=y.y.O/\x.y.add=y.y.add):x=y:=by
 obtain ⟨a,b,⟨c,d⟩⟩:=x;obtain ⟨e,f,⟨g,i⟩⟩:=y;obtain ⟨rfl,rfl,rfl,rfl⟩:=h;rfl
theorem J6 {x y:Test}(h:x.B=y.B/\x.left.O=y.left.O/\x.left.add=y.left.add/\x.right.O=y.right.O/\x.right.add=y.right.add):x=y:=by
 obtain ⟨a,⟨b,c⟩,⟨d,e⟩⟩:=x;obtain ⟨f,⟨g,i⟩,⟨j,k⟩⟩:=y;obtain ⟨rfl,rfl,rfl,rfl,rfl⟩:=h;rfl
theorem QC (a b:Pattern):decide (a=b)=(decide (a.i=b.i)&&decide (a.vars=b.vars)&&decide (a.o=b.o)&&decide (a.E=b.E)):=by
 rw [aT];cases a;cases b;simp [Cond.B,Cond.u,Cond.map,Cond.l,and_comm,and_left_comm,and_assoc]
theorem Sf (a b:Cond):decide (a=b)=(decide (a.B=b.B)&&decide (a.map=b.map)&&decide (a.l=b.l)&&decide (a.u=b.u)):=by
 rw [aT];simp only [aL,decide_eq_true_eq];cases a;cases b
 simp only [Cond.mk.injEq,Cond.B,Cond.u,Cond.map,Cond.l];constructor
 .rintro ⟨f,e,d,c⟩;exact ⟨⟨⟨f,d⟩,c⟩,e⟩
 .rintro ⟨⟨⟨f,d⟩,c⟩,e⟩;exact ⟨f,e,d,c⟩
theorem Ry (a b:Rule):decide (a=b)=(decide (a.name=b.name)&&decide (a.inj=b.inj)&&decide (a.left=b.left)&&decide (a.right=b.right)&&decide (a.q=b.q)&&decide (a.s=b.s)&&decide (a.cond=b.cond)):=by
 rw [aT];cases a;cases b;simp [Cond.B,Cond.u,Cond.map,Cond.l,and_comm,and_left_comm,and_assoc]
theorem Ug (a b:Stp26):decide (a=b)=(decide (a.G=b.G)&&decide (a.V=b.V)&&decide (a.L=b.L)&&decide (a.after=b.after)&&decide (a.U=b.U)&&decide (a.A=b.A)):=by
 rw [aT];cases a;cases b;simp [and_assoc]
theorem B9 (a b:List Edge):Pua 185 [.list (a.map Edge.c),.list (b.map Edge.c)] (.bool (decide (a=b))):=by
 refine Tz.p0 func185 rfl λQ k Y=>?_;refine wv (h:=?_);repeat first|intro _|refine ⟨iI,?_⟩
 refine wq (λn=>?_) λn=>?_
 .refine wv (h:=?_);have d:a≠b:=by intro h;subst h;omega
  exact k _ _ (by simp [go_sem,d])
 .refine wo (h:=bC (λi e H=>(e 0=.list (a.map Edge.c)/\e 1=.list (b.map Edge.c)/\e 12=dI a.length/\e 13=dI i)/\(i<=a.length)/\(a.take i=b.take i)) (λi=>a.length - i) 0 ⟨wg,wi,(by rfl)⟩ λq l i e H g=>?_);obtain ⟨o,p,j⟩:=g;have Y:=wa Y o;refine dR (λf=>?_) λf=>?_
  .have hib:i<b.length:=aD;have Y:=xa2 Y f (aA f) (aA hib);refine wv (h:=?_);repeat first|intro _|refine ⟨iI,?_⟩
   refine wq (λm=>?_) λm=>?_
   .refine wv (h:=?_);have d:a≠b:=by intro h;subst h;simp at m
    exact k _ _ (by simp [go_sem,d])
   .exact wo (h:=wx l (i+1) ⟨wg,wj,(by rw [List.take_succ_eq_append_getElem f,List.take_succ_eq_append_getElem hib,j,K7 m])⟩)
  .have hab:a=b:=by rw [aG aD,aG aD] at j;exact j
   exact wv (h:=k _ _ (by simp [go_sem,hab]))
theorem B8 (a b:List Slot):Pua 22 [.list (a.map Slot.c),.list (b.map Slot.c)] (.bool (decide (a=b))):=by
 refine Tz.p0 func22 rfl λQ k Y=>?_;refine wv (h:=?_);repeat first|intro _|refine ⟨iI,?_⟩
 refine wq (λn=>?_) λn=>?_
 .refine wv (h:=?_);have d:a≠b:=by intro h;subst h;omega
  exact k _ _ (by simp [go_sem,d])
 .refine wo (h:=bC (λi e H=>(e 0=.list (a.map Slot.c)/\e 1=.list (b.map Slot.c)/\e 12=dI a.length/\e 13=dI i)/\(i<=a.length)/\(a.take i=b.take i)) (λi=>a.length - i) 0 ⟨wg,wi,(by rfl)⟩ λq l i e H g=>?_);obtain ⟨o,p,j⟩:=g;have Y:=wa Y o;refine dR (λf=>?_) λf=>?_
  .have hib:i<b.length:=aD;have Y:=xa2 Y f (aA f) (aA hib);refine wv (h:=?_);repeat first|intro _|refine ⟨iI,?_⟩
   refine wq (λm=>?_) λm=>?_
   .refine wv (h:=?_);have d:a≠b:=by intro h;subst h;simp at m
    exact k _ _ (by simp [go_sem,d])
   .exact wo (h:=wx l (i+1) ⟨wg,wj,(by rw [List.take_succ_eq_append_getElem f,List.take_succ_eq_append_getElem hib,j,J9 m])⟩)
  .have hab:a=b:=by rw [aG aD,aG aD] at j;exact j
   exact wv (h:=k _ _ (by simp [go_sem,hab]))
theorem Il (a b:List Test):Pua 268 [.list (a.map Test.c),.list (b.map Test.c)] (.bool (decide (a=b))):=by
 refine Tz.p0 func268 rfl λQ k Y=>?_;refine wv (h:=?_);repeat first|intro _|refine ⟨iI,?_⟩
 refine wq (λn=>?_) λn=>?_
 .refine wv (h:=?_);have d:a≠b:=by intro h;subst h;omega
  exact k _ _ (by simp [go_sem,d])
 .refine wo (h:=bC (λi e H=>(e 0=.list (a.map Test.c)/\e 1=.list (b.map Test.c)/\e 12=dI a.length/\e 13=dI i)/\(i<=a.length)/\(a.take i=b.take i)) (λi=>a.length - i) 0 ⟨wg,wi,(by rfl)⟩ λq l i e H g=>?_);obtain ⟨o,p,j⟩:=g;have Y:=wa Y o;refine dR (λf=>?_) λf=>?_
  .have hib:i<b.length:=aD;have Y:=xa2 Y f (aA f) (aA hib);refine wv (h:=?_);repeat first|intro _|refine ⟨iI,?_⟩
   refine wq (λm=>?_) λm=>?_
   .refine wv (h:=?_);have d:a≠b:=by intro h;subst h;simp at m
    exact k _ _ (by simp [go_sem,d])
   .exact wo (h:=wx l (i+1) ⟨wg,wj,(by rw [List.take_succ_eq_append_getElem f,List.take_succ_eq_append_getElem hib,j,J6 m])⟩)
  .have hab:a=b:=by rw [aG aD,aG aD] at j;exact j
   exact wv (h:=k _ _ (by simp [go_sem,hab]))
theorem z7 (a b:Pattern):Pua 179 [a.d,b.d] (.bool (decide (a=b))):=by
 refine Tz.p0 func179 rfl λQ l Y=>?_;refine wo (h:=aB (EX a.i b.i) wl ?_);refine eJ (λu=>?_) λu=>?_
 .refine wv (h:=?_);have f:a≠b:=by intro h;subst h;simp at u
  exact l _ _ (by simp [go_sem,f])
 .have hab:((a.i=b.i/\a.vars=b.vars)/\a.o.length=b.o.length)/\a.E.length=b.E.length:=by (try simp at u);refine ⟨⟨⟨?_,?_⟩,?_⟩,?_⟩<;>first|(simp_all;done)|omega
  refine wv (h:=bC (λi e H=>(e 2=.adr a.c/\e 3=.adr b.c/\e 5=dI i)/\(i<=a.o.length)/\(a.o.take i=b.o.take i)) (λi=>a.o.length - i) 0 ⟨wg,wi,(by rfl)⟩ λA s i e H p=>?_);obtain ⟨w,y,q⟩:=p;have Y:=wa Y w;refine wv (h:=?_);repeat first|intro _|refine ⟨iI,?_⟩
  refine wq (λn=>?_) λn=>?_
  .have hib:i<b.o.length:=aD;have Y:=xa2 Y n (aA n) (aA hib);refine eJ (λt=>?_) λt=>?_
   .refine wv (h:=?_);have f:a≠b:=by intro h;subst h;simp at t
    exact l _ _ (by simp [go_sem,f])
   .exact wo (h:=wx s (i+1) ⟨wg,wj,(by rw [List.take_succ_eq_append_getElem n,List.take_succ_eq_append_getElem hib,q,J9 t])⟩)
  .have hS:a.o=b.o:=by rw [aG aD,aG aD] at q;exact q
   refine wv (h:=bC (λk e H=>(e 2=.adr a.c/\e 3=.adr b.c/\e 6=dI k)/\(k<=a.E.length)/\(a.E.take k=b.E.take k)) (λk=>a.E.length - k) 0 ⟨wg,wi,(by rfl)⟩ λz r k e H o=>?_);obtain ⟨v,x,g⟩:=o;have Y:=wa Y v;refine wv (h:=?_);repeat first|intro _|refine ⟨iI,?_⟩
   refine wq (λm=>?_) λm=>?_
   .have hkb:k<b.E.length:=aD;have Y:=xa2 Y m (aA m) (aA hkb);refine eJ (λj=>?_) λj=>?_
    .refine wv (h:=?_);have f:a≠b:=by intro h;subst h;simp at j
     exact l _ _ (by simp [go_sem,f])
    .exact wo (h:=wx r (k+1) ⟨wg,wj,(by rw [List.take_succ_eq_append_getElem m,List.take_succ_eq_append_getElem hkb,g,J6 j])⟩)
   .have hT:a.E=b.E:=by rw [aG aD,aG aD] at g;exact g
    exact wv (h:=l _ _ (by simp [go_sem,QC,hab.1.1.1,hab.1.1.2,hS,hT]))
theorem N3:∀ a b:Cond,Pua 181 [.agg a.c,.agg b.c] (.bool (decide (a=b))):=by
 refine jU λa p b=>?_;simp only [Cond.x];refine Tz.p0 func181 rfl λQ l _=>?_;have Y:=@Cond.x;refine wo (h:=aH (λj=>vA a.map b.map) (λj=>wl) ?_);refine wo (h:=aH (λj=>z7 a.l b.l) (λj=>wl) ?_);refine eJ (λo=>?_) λo=>?_
 .refine wv (h:=?_);have d:a≠b:=by intro h;subst h;simp at o
  exact l _ _ (by simp [go_sem,d])
 .have hab:((a.B=b.B/\a.u.length=b.u.length)/\a.map=b.map)/\a.l=b.l:=by (try simp at o);refine ⟨⟨⟨?_,?_⟩,?_⟩,?_⟩<;>first|(simp_all;done)|omega
  refine wv (h:=bC (λi e H=>(e 2=.adr a.c/\e 3=.adr b.c/\e 5=dI i)/\(i<=a.u.length)/\(a.u.take i=b.u.take i)) (λi=>a.u.length - i) 0 ⟨wg,wi,(by rfl)⟩ λt m i e H g=>?_);obtain ⟨r,s,k⟩:=g;have Y:=wa Y r;refine wv (h:=?_);repeat first|intro _|refine ⟨iI,?_⟩
  refine wq (λf=>?_) λf=>?_
  .have hib:i<b.u.length:=aD;have Y:=xa2 Y f (aA f) (aA hib);refine wo (h:=aI ((by have q:=p _ (aC f) b.u[i];rwa [Cond.x,Cond.x] at q)) wl ?_);refine eJ (λn=>?_) λn=>?_
   .refine wv (h:=?_);have d:a≠b:=by intro h;subst h;simp at n
    exact l _ _ (by simp [go_sem,d])
   .exact wo (h:=wx m (i+1) ⟨wg,wj,(by rw [List.take_succ_eq_append_getElem f,List.take_succ_eq_append_getElem hib,k,n])⟩)
  .have hK:a.u=b.u:=by rw [aG aD,aG aD] at k;exact k
   exact wv (h:=l _ _ (by simp [go_sem,Sf,hab.1.1.1,hab.1.2,hab.2,hK]))
theorem NX (a b:Rule):Pua 100 [a.d,b.d] (.bool (decide (a=b))):=by
 have e:=N3 a.cond b.cond;rw [Cond.x,Cond.x] at e;refine Tz.p0 func100 rfl λQ f Y=>?_;refine wo (h:=aH (λc=>z7 a.left b.left) (λc=>wl) ?_);refine wo (h:=aH (λc=>z7 a.right b.right) (λc=>wl) ?_);refine wo (h:=aH (λc=>Oj a.q b.q) (λc=>wl) ?_);refine wo (h:=aH (λc=>vA a.s b.s) (λc=>wl) ?_);refine wo (h:=aH (λc=>e) (λc=>wl) ?_);have Y:=wa Y @Ry;exact wo (h:=f _ _ wy)
theorem NS (a b:Stp26)(g:∀ i (g:i<a.L.k.length) (f:i<b.L.k.length),DN a.L.k[i] b.L.k[i])(f:∀ i (g:i<a.after.k.length) (f:i<b.after.k.length),DN a.after.k[i] b.after.k[i]) :
  Pua 45 [.agg a.c,.agg b.c] (.bool (decide (a=b))):=by
 refine Tz.p0 func45 rfl λQ k _=>?_;have Y:=xa2 @Stp26.c.eq_1 @Rule.c.eq_1 @Mat.c.eq_1 @Host.c.eq_1;refine Rs (h:=aB (Ac a.L b.L g) wl ?_);refine Rs (h:=aH (λe=>Ac a.after b.after f) (λe=>wl) ?_);refine Rs (h:=aH (λe=>NX a.G b.G) (λe=>wl) ?_);refine Rs (h:=aH (λe=>(by have j:=D7 a.V b.V;unfold Mat.d Mat.c at j;exact j)) (λe=>wl) ?_);refine Rs (h:=aH (λe=>vA a.U b.U) (λe=>wl) ?_);refine Rs (h:=aH (λe=>vA a.A b.A) (λe=>wl) ?_);exact Rs (h:=k _ _ (by rw [Ug];simp [go_sem,Bool.and_comm,Bool.and_left_comm,kY]))
/-! ### the program -/
theorem nU (a b:Part):Pua 105 [a.d,b.d] (.bool (decide (a=b))):=by
 refine Tz.p0 func105 rfl λQ e Y=>?_;refine wo (h:=aB (mE a.h b.h) wl ?_);refine wo (h:=aH (λc=>mE a.j b.j) (λc=>wl) ?_);have Y:=wa Y @CR;exact wo (h:=e _ _ wy)
theorem O9 (a b:Graph):Pua 267 [a.d,b.d] (.bool (decide (a=b))):=by
 refine Tz.p0 func267 rfl λQ e Y=>?_;refine wo (h:=aB (mE a.h b.h) wl ?_);refine wo (h:=aH (λc=>B9 a.j b.j) (λc=>wl) ?_);have Y:=wa Y @Dg;exact wo (h:=e _ _ wy)
theorem uZ (a b:Pattern):Pua 182 [a.d,b.d] (.bool (decide (a=b))):=by
 refine Tz.p0 func182 rfl λQ e Y=>?_;refine wo (h:=aB (O9 a.i b.i) wl ?_);refine wo (h:=aH (λc=>B8 a.o b.o) (λc=>wl) ?_);refine wo (h:=aH (λc=>Il a.E b.E) (λc=>wl) ?_);have Y:=wa Y @QC;exact wo (h:=e _ _ wy)
theorem Im (a b:Yb)(g:FuncId)(n:∀ x y:V2,Pure prog g [dLI x,dLI y] (.bool (decide (x=y)))):Pua 186 [.list (a.map cL),.list (b.map cL),.fn g []] (.bool (decide (a=b))):=by
 refine Tz.p0 func186 rfl λQ k Y=>?_;refine wv (h:=?_);repeat first|intro _|refine ⟨iI,?_⟩
 refine wq (λo=>?_) λo=>?_
 .refine wv (h:=?_);have c:a≠b:=by intro h;subst h;omega
  exact k _ _ (by simp [go_sem,c])
 .refine wo (h:=bC (λi e H=>(e 0=.list (a.map cL)/\e 1=.list (b.map cL)/\e 2=.fn g []/\e 15=.list (a.map cL)/\e 16=dI a.length/\e 17=dI i)/\(i<=a.length)/\(a.take i=b.take i)) (λi=>a.length - i) 0 ⟨wg,wi,(by rfl)⟩ λr l i e H f=>?_);obtain ⟨p,q,j⟩:=f;have Y:=wa Y p;refine dR (λd=>?_) λd=>?_
  .have hib:i<b.length:=aD;have Y:=xa3 Y d (aA d) (aA hib) @cL.eq_1;refine wo (h:=aB (n a[i] b[i]) wl ?_);refine wv (h:=?_);repeat first|intro _|refine ⟨iI,?_⟩
   refine wq (λm=>?_) λm=>?_
   .refine wv (h:=?_);have c:a≠b:=by intro h;subst h;exact m rfl
    exact k _ _ (by simp [go_sem,c])
   .exact wo (h:=wx l (i+1) ⟨wg,wj,(by rw [List.take_succ_eq_append_getElem d,List.take_succ_eq_append_getElem hib,j,m])⟩)
  .have hab:a=b:=by rw [aG aD,aG aD] at j;exact j
   exact wv (h:=k _ _ (by simp [go_sem,hab]))
theorem In (a b:List Cond)(g:FuncId)(p:∀ x∈a,∀ y:Cond,Pure prog g [.agg x.c,.agg y.c] (.bool (decide (x=y)))):Pua 269 [.list (a.map Cond.c),.list (b.map Cond.c),.fn g []] (.bool (decide (a=b))):=by
 refine Tz.pK ⟨λt=>t==8||t==9,λ_=>[]⟩ func269 rfl (λQ l=>?_);have Y:=@Cond.x;refine wv (h:=?_);repeat first|intro _|refine ⟨iI,?_⟩
 refine wq (λq=>?_) λq=>?_
 .refine wv (h:=?_);have d:a≠b:=by intro h;subst h;omega
  exact l _ _ (by simp [go_sem,d])
 .refine wo (h:=bC (λi e H=>(e 0=.list (a.map Cond.c)/\e 1=.list (b.map Cond.c)/\e 2=.fn g []/\e 15=.list (a.map Cond.c)/\e 16=dI a.length/\e 17=dI i)/\(i<=a.length)/\(a.take i=b.take i)) (λi=>a.length - i) 0 ⟨wg,wi,(by rfl)⟩ λu m i e H j=>?_);obtain ⟨r,s,k⟩:=j;have Y:=wa Y r;refine dR (λf=>?_) λf=>?_
  .have hib:i<b.length:=aD;have Y:=xa2 Y f (aA f) (aA hib);refine wo (h:=aB ((by have o:=p _ (aC f) b[i];rwa [Cond.x,Cond.x] at o)) wl ?_);refine wv (h:=?_);repeat first|intro _|refine ⟨iI,?_⟩
   refine wq (λn=>?_) λn=>?_
   .refine wv (h:=?_);have d:a≠b:=by intro h;subst h;exact n rfl
    exact l _ _ (by simp [go_sem,d])
   .exact wo (h:=wx m (i+1) ⟨wg,wj,(by rw [List.take_succ_eq_append_getElem f,List.take_succ_eq_append_getElem hib,k,n])⟩)
  .have hab:a=b:=by rw [aG aD,aG aD] at k;exact k
   exact wv (h:=l _ _ (by simp [go_sem,hab]))
theorem F9:∀ a b:Cond,Pua 184 [.agg a.c,.agg b.c] (.bool (decide (a=b))):=by
 refine jU λa i b=>?_;simp only [Cond.x];refine Tz.pK ⟨λt=>t==5||t==6,λr=>match r with|1=>[(0,4),(1,4),(2,4),(3,4),(0,5),(1,5),(2,5),(3,5),(4,5),(2,6),(3,6)]|_=>[]⟩ func184 rfl (λQ g=>?_);have Y:=@Cond.x;refine wo (h:=aH (λd=>nU a.map b.map) (λd=>wl) ?_);refine wo (h:=aH (λd=>mE a.l.i.h b.l.i.h) (λd=>wl) ?_);refine wo (h:=aH (λd=>B9 a.l.i.j b.l.i.j) (λd=>wl) ?_);refine eJ (λf=>?_) λf=>?_
 .refine wv (h:=?_);have e:a≠b:=by intro h;subst h;simp at f
  exact g _ _ (by simp [go_sem,e])
 .have hab:(((a.B=b.B/\a.map=b.map)/\a.l.vars=b.l.vars)/\a.l.i.h=b.l.i.h)/\a.l.i.j=b.l.i.j:=by (try simp at f);refine ⟨⟨⟨⟨?_,?_⟩,?_⟩,?_⟩,?_⟩<;>first|(simp_all;done)|omega
  refine wo (h:=aB (B8 a.l.o b.l.o) wl ?_);refine wo (h:=aH (λd=>Il a.l.E b.l.E) (λd=>wl) ?_);refine wo (h:=aH (λd=>In a.u b.u 184 i) (λd=>wl) ?_);exact wo (h:=g _ _ (by rw [Sf,QC,Dg];simp [go_sem,hab.1.1.1.1,hab.1.1.1.2,hab.1.1.2,hab.1.2,hab.2]))
theorem Qi (a b:Rule):Pua 102 [a.d,b.d] (.bool (decide (a=b))):=by
 have e:=F9 a.cond b.cond;rw [Cond.x,Cond.x] at e;refine Tz.p0 func102 rfl λQ f Y=>?_;refine wo (h:=aH (λc=>uZ a.left b.left) (λc=>wl) ?_);refine wo (h:=aH (λc=>uZ a.right b.right) (λc=>wl) ?_);refine wo (h:=aH (λc=>mE a.q.h b.q.h) (λc=>wl) ?_);refine wo (h:=aH (λc=>mE a.q.j b.q.j) (λc=>wl) ?_);refine wo (h:=aH (λc=>nU a.s b.s) (λc=>wl) ?_);refine wo (h:=aH (λc=>e) (λc=>wl) ?_);exact wo (h:=f _ _ (by rw [Ry,CR a.q b.q];simp [go_sem,kY]))
theorem FH (a b:Mat):Pua 103 [a.d,b.d] (.bool (decide (a=b))):=by
 refine Tz.p0 func103 rfl λQ f _=>?_;have Y:=wa @Mat.d.eq_1 @Mat.c.eq_1;refine wo (h:=aB (nU a.m b.m) wl ?_);refine wo (h:=aH (λe=>mE a.vars b.vars) (λe=>wl) ?_);have Y:=wa Y @UJ;exact wo (h:=f _ _ wy)
theorem H7 (a b:Host):Pua 104 [a.d,b.d] (.bool (decide (a=b))):=by
 refine Tz.p0 func104 rfl λQ f _=>?_;have Y:=wa @Host.d.eq_1 @Host.c.eq_1;refine wo (h:=aB (mE a.i.h b.i.h) wl ?_);refine wo (h:=aH (λe=>B9 a.i.j b.i.j) (λe=>wl) ?_);refine wo (h:=aH (λe=>Im a.k b.k 183 mE) (λe=>wl) ?_);have Y:=xa1 Y @RZ @Dg;exact wo (h:=f _ _ wy)
theorem P7 (a b:Stp26):Pua 46 [.agg a.c,.agg b.c] (.bool (decide (a=b))):=by
 refine Tz.p0 func46 rfl λQ g _=>?_;have Y:=xa2 @Stp26.c.eq_1 @Rule.c.eq_1 @Mat.c.eq_1 @Host.c.eq_1;refine Rs (h:=aB (Qi a.G b.G) wl ?_);refine Rs (h:=aH (λe=>(by have f:=FH a.V b.V;unfold Mat.d Mat.c at f;exact f)) (λe=>wl) ?_);refine Rs (h:=aH (λe=>H7 a.L b.L) (λe=>wl) ?_);refine Rs (h:=aH (λe=>H7 a.after b.after) (λe=>wl) ?_);refine Rs (h:=aH (λe=>nU a.U b.U) (λe=>wl) ?_);refine Rs (h:=aH (λe=>nU a.A b.A) (λe=>wl) ?_);exact Rs (h:=g _ _ (by rw [Ug];simp [go_sem,kY]))
theorem EJ (t:Types)(g:t.ok)(s:Stp26)(i:s.G.ok){v:Stp26}{e:Int}(f:v=gI t s.G s.L s.V)(k:e=lL t s.G s.L s.V) :
  Pua 11 [t.d,.agg s.c] (.bool (decide (e=0)&&decide (v=s))):=by
 have a:=sZ t g s.G i s.L s.V f k;have b:=P7 v s;simp only [Stp26.c,Rule.c,Mat.c,Host.c,dN,dP] at a b;unfold Mat.d Mat.c Host.d Host.c dLI at a;refine Tz.pK ⟨λt=>t==5,λ_=>[]⟩ func11 rfl (λQ l=>?_);have Y:=xa2 @Stp26.c.eq_1 @Rule.c.eq_1 @Mat.c.eq_1 @Host.c.eq_1;refine kZ (h:=aB (a) wl ?_);refine sM (h:=aH (λj=>b) (λj=>wl) ?_);exact sM (h:=l _ _ wy)
structure Stp26.le (s:Stp26):Prop where
 r:s.G.le
 m:s.V.m.le
 t:s.U.le
 c:s.A.le
theorem Sq {l:V2}(b:l.Nodup){v:Int}(c:0<=gY l l.length v):∃ p:Nat,∃ hp:p<l.length,l[p]=v/\gY l l.length v=p:=by
 by_cases a:v∈l
 .obtain ⟨p,hp,rfl⟩:=aN a;exact ⟨p,hp,rfl,qS b hp⟩
 .rw [rP a _ (bF _)] at c;omega
section
variable {t:Types} {r:Rule} {h:Host} {m:Mat}
theorem StepOk.di (K:StepOk t r h m){i:Nat}(b:i<h.i.h.length)(a:0<=iA (dG r h m).h i) :
  ∃ p:Nat,∃ hp:p<(bW r h m).h.length,(bW r h m).h[p]=(i:Int)/\iA (dG r h m).h i=p:=by
 have e:iA (dG r h m).h i=gY (bW r h m).h (bW r h m).h.length i:=by
  unfold iA dG oP;simp only;rw [show ((i:Int)).toNat=i by omega,pT _ b,Option.getD_some]
 rw [e] at a ⊢;obtain ⟨p,hp,d,c⟩:=Sq (i7 K.S.b1) a;exact ⟨p,hp,d,c⟩
theorem StepOk.dj (K:StepOk t r h m){i:Nat}(b:i<h.i.j.length)(a:0<=iA (dG r h m).j i) :
  ∃ p:Nat,∃ hp:p<(bW r h m).j.length,(bW r h m).j[p]=(i:Int)/\iA (dG r h m).j i=p:=by
 have e:iA (dG r h m).j i=gY (bW r h m).j (bW r h m).j.length i:=by
  unfold iA dG oP;simp only;rw [show ((i:Int)).toNat=i by omega,pT _ b,Option.getD_some]
 rw [e] at a ⊢;obtain ⟨p,hp,d,c⟩:=Sq (i7 K.S.ej) a;exact ⟨p,hp,d,c⟩
theorem StepOk.fe (K:StepOk t r h m):∀ s∈r.right.o,0<=l8 (cT r h m) s/\fT (cT r h m) s<(bS t r h m).k.length/\0<=s.H/\s.H<((bS t r h m).k[fT (cT r h m) s]?.getD []).length:=λs hs=>by
 have P:=K.S.put;have a:=(K.S.hR.o s hs).2.1;exact ⟨(P.spot s hs).1,(P.spot s hs).2.1,a.1,(P.H s hs).1⟩
theorem StepOk.value (K:StepOk t r h m){n a:Nat}(hn:n<(bS t r h m).k.length)(ha:a<((bS t r h m).k[n]?.getD []).length) :
  ((bM t r h m).k[n]?.getD [])[a]?=some ((FA (cT r h m) m.vars r.right.o n a).getD (((bS t r h m).k[n]?.getD [])[a]?.getD 0)) :=
 Hw _ _ r.right.o rfl K.fe n a hn ha
theorem StepOk.d6 (K:StepOk t r h m):(bM t r h m).k.length=(bS t r h m).k.length/\∀ n:Nat,((bM t r h m).k[n]?.getD []).length=((bS t r h m).k[n]?.getD []).length :=
 ⟨(qC _ _ _ _).1,λn=>(qC (cT r h m) m.vars r.right.o (bS t r h m).k).2 n⟩
theorem StepOk.hv (K:StepOk t r h m):YD (cT r h m) m.vars r.right.o:=by
 refine QZ ?_;have:=K.put;unfold r8 at this;split at this
 .cases this
 .rename_i hc;simpa using hc
structure RemN (t:Types) (r:Rule) (h:Host) (m:Mat) (i:Nat) (k:Int):Prop where
 n1:k.toNat<(bM t r h m).i.h.length
 n2:(bM t r h m).i.h[k.toNat]?.getD 0=h.i.h[i]?.getD 0
 v1:k.toNat<(bM t r h m).k.length
 v2:((bM t r h m).k[k.toNat]?.getD []).length=(h.k[i]?.getD []).length
 v3:∀ a:Nat,a<(h.k[i]?.getD []).length->(∀ s∈r.right.o,¬ (l8 (cT r h m) s=k/\s.H=a))->((bM t r h m).k[k.toNat]?.getD [])[a]?.getD 0=(h.k[i]?.getD [])[a]?.getD 0
theorem StepOk.eb (K:StepOk t r h m){i:Nat}(q:i<h.i.h.length)(y:0<=iA (dG r h m).h i):RemN t r h m i (iA (dG r h m).h i):=by
 obtain ⟨p,c,f,w⟩:=K.di q y;have e:=K.S.bt;have D:(bS t r h m).i.h.length=(bW r h m).h.length+r.N.length:=by rw [e,aQ,aR,aR]
 have k:=K.S.cr;have g:(bM t r h m).i=(bS t r h m).i:=rfl;obtain ⟨C,j⟩:=K.d6;have z:(bS t r h m).i.h[p]?.getD 0=h.i.h[i]?.getD 0:=by
  rw [e,aS (bZ c),aM,aA c,eD,Option.getD_some,f];unfold gN;rw [show ((i:Int)).toNat=i by omega]
 have d:(bS t r h m).k[p]?.getD []=h.k[i]?.getD []:=by
  rw [Lj,aS (bZ c),aM,aA c,eD,Option.getD_some,f];rw [show ((i:Int)).toNat=i by omega]
 rw [w];have b:((p:Nat):Int).toNat=p:=aD;refine ⟨by rw [b,g];omega,by rw [b,g];exact z,by rw [b];omega,by rw [b,j,d],λa u o=>?_⟩;rw [b,K.value aD (by rw [d];exact u),Option.getD_some];have v:FA (cT r h m) m.vars r.right.o p a=none:=by
  cases n:FA (cT r h m) m.vars r.right.o p a with
  | none=>rfl
  | some x =>
   obtain ⟨s,l,B,A,_⟩:=A5 n;exact absurd ⟨B,A⟩ (o s l)
 rw [v,d];rfl
theorem StepOk.fq (K:StepOk t r h m){i:Nat}(l:i<h.i.j.length)(o:0<=iA (dG r h m).j i) :
  (iA (dG r h m).j i).toNat<(bM t r h m).i.j.length/\eA (bM t r h m).i (iA (dG r h m).j i)=⟨(eA h.i i).type,iA (dG r h m).h (eA h.i i).w,iA (dG r h m).h (eA h.i i).M⟩:=by
 obtain ⟨p,b,f,n⟩:=K.dj l o;have S:=K.S;have d:=S.ch;have u:(bS t r h m).i.j.length=(bW r h m).j.length+r.aa.length:=by rw [d,aQ,aR,aR]
 have q:(bM t r h m).i=(bS t r h m).i:=rfl;rw [n,q];refine ⟨aD,?_⟩;have e:eA (bS t r h m).i (p:Int)=gEd h.i (bW r h m) (i:Int):=by
  unfold eA;rw [show ((p:Nat):Int).toNat=p by omega,d,aS (bZ b),aM,aA b,eD,Option.getD_some,f]
 rw [e,BZ];have k:(i:Int)∈(bW r h m).j:=f ▸ aC b;obtain ⟨j,g⟩:=p7 S.sub k;have a:∀ v:Int,v∈(bW r h m).h->iA (dG r h m).h v=(oZ (bW r h m).h v:Int):=λv c=>by
  have s:=S.cx v c;unfold iA dG oP;simp only;rw [pT _ aD,Option.getD_some,show ((v.toNat:Nat):Int)=v by omega,A2 S.b1,if_pos ((mem_iff _ _).2 c)]
 rw [a _ j,a _ g]
end
structure Srt (keep into mm:V2) (nL nR nH:Nat):Prop where
 kl:keep.length=into.length
 kr:∀ x∈keep,0<=x/\x<nL
 ir:∀ x∈into,0<=x/\x<nR
 cj:into.Nodup
 ml:mm.length=nL
 mr:∀ x∈mm,0<=x/\x<nH
 du:nZ mm keep=[]
def l7 (keep mm:V2)(nH:Nat):V2:=bG (g6 mm keep) nH
def nD (keep mm:V2)(nH:Nat):V2:=oP (l7 keep mm nH) nH
def tL (keep into mm:V2)(nR nH:Nat):V2:=DQ keep into (pY mm (nD keep mm nH)) nR (l7 keep mm nH).length
theorem iD {l:V2}{i:Nat}(h:i<l.length):iA l i=l[i]:=by simp [iA,h]
theorem QR {l:V2}{k:Int}(h:k.toNat<l.length):iA l k=l[k.toNat]:=by unfold iA;rw [aA h];rfl
theorem mO {l:V2}{v:Int}(h:v∈l):∃ i:Nat,i<l.length/\iA l i=v:=by
 obtain ⟨i,a,rfl⟩:=aN h;exact ⟨i,a,iD a⟩
theorem BV {l:V2}(a:l.Nodup){i j:Nat}(c:i<l.length)(b:j<l.length)(h:iA l i=iA l j):i=j:=by
 rw [iD c,iD b] at h;exact (jZ a).1 h
section
variable {keep into mm:V2} {nL nR nH:Nat}
theorem Srt.aq (S:Srt keep into mm nL nR nH){x:Int}:x∈l7 keep mm nH↔(0<=x/\x<nH)/\∀ k:Int,0<=k->k<nL->k∉keep->iA mm k≠x:=by
 have e:=S.ml;unfold l7;rw [dV];refine and_congr_right λ_=>⟨λh k j g b c=>h (rK.2 ⟨k.toNat,aD,?_,?_⟩),λh d=>?_⟩
 .rw [show ((k.toNat:Nat):Int)=k by omega,bK];exact λa=>b ((mem_iff _ _).1 a)
 .rw [<- c,aA (aD:k.toNat<mm.length)];unfold iA;rw [aA (aD:k.toNat<mm.length)];rfl
 .obtain ⟨i,f,a,c⟩:=rK.1 d;refine h i aD aD (λb=>?_) (by unfold iA;rw [show ((i:Int)).toNat=i by omega,c];rfl);rw [(mem_iff _ _).2 b] at a;cases a
theorem Srt.hh (S:Srt keep into mm nL nR nH):(l7 keep mm nH).Nodup:=i7 (lG _ _)
theorem Srt.cR (S:Srt keep into mm nL nR nH){x:Int}(h:0<=x/\x<nH):iA (nD keep mm nH) x=gY (l7 keep mm nH) (l7 keep mm nH).length x:=by
 unfold iA nD oP;rw [pT _ aD,Option.getD_some,show ((x.toNat:Nat):Int)=x by omega]
theorem Srt.a6 (S:Srt keep into mm nL nR nH){x:Int}(b:x∈l7 keep mm nH):∃ p:Nat,iA (nD keep mm nH) x=p/\p<(l7 keep mm nH).length/\iA (l7 keep mm nH) p=x:=by
 obtain ⟨p,a,rfl⟩:=aN b;exact ⟨p,by rw [S.cR (S.aq.1 b).1,qS S.hh a],a,iD a⟩
theorem Srt.d3 (S:Srt keep into mm nL nR nH){p:Nat}(a:p<(l7 keep mm nH).length):iA (l7 keep mm nH) p∈l7 keep mm nH/\iA (nD keep mm nH) (iA (l7 keep mm nH) p)=p:=by
 have b:iA (l7 keep mm nH) p∈l7 keep mm nH:=d7 aD aD;exact ⟨b,by rw [S.cR (S.aq.1 b).1,iD a,qS S.hh a]⟩
theorem Srt.ds (S:Srt keep into mm nL nR nH){x:Int}(h:0<=x/\x<nH)(a:x∉l7 keep mm nH):iA (nD keep mm nH) x = -1:=by rw [S.cR h,rP a _ (bF _)]
theorem Srt.cf (S:Srt keep into mm nL nR nH){x y:Int}(b:x∈l7 keep mm nH)(a:y∈l7 keep mm nH)(h:iA (nD keep mm nH) x=iA (nD keep mm nH) y):x=y:=by
 obtain ⟨p,d,_,rfl⟩:=S.a6 b;obtain ⟨q,c,_,rfl⟩:=S.a6 a;rw [(aD:p=q)]
theorem Srt.e5 (S:Srt keep into mm nL nR nH){j:Int}(h:0<=j/\j<nR):iA (tL keep into mm nR nH) j=Iu keep into (pY mm (nD keep mm nH)) (l7 keep mm nH).length j.toNat:=by
 unfold iA tL DQ;simp [(aD:j.toNat<nR)]
theorem Srt.am (S:Srt keep into mm nL nR nH){k:Int}(b:k∈keep):iA mm k∈l7 keep mm nH:=by
 have a:=S.kr k b;have c:=S.ml;exact dV.2 ⟨S.mr _ (d7 a.1 aD),w6 S.du a.1 aD b⟩
theorem Srt.bb (S:Srt keep into mm nL nR nH){q:Nat}(g:q<keep.length):iA (tL keep into mm nR nH) (iA into q)=iA (nD keep mm nH) (iA mm (iA keep q)):=by
 have c:=S.kl;have h:=S.ml;have a:iA into q∈into:=d7 aD aD;have i:=S.kr _ (d7 (l:=keep) (n:=(q:Int)) aD aD);rw [S.e5 (S.ir _ a)];have d:gY into into.length ((iA into q).toNat:Nat)=q:=by
  have:=S.ir _ a;rw [show (((iA into q).toNat:Nat):Int)=iA into q by omega,iD aD,qS S.cj aD]
 unfold Iu;rw [d,if_pos aD,(aD:(q:Int).toNat=q)];unfold pY;have b:(iA keep q).toNat<mm.length:=aD;have f:keep[q]?.getD 0=iA keep q:=by unfold iA;rw [(aD:(q:Int).toNat=q)]
 rw [f,aM,aA b,eD,Option.getD_some];have e:iA mm (iA keep q)=mm[(iA keep q).toNat]:=QR b;rw [e];rfl
theorem Srt.ao (S:Srt keep into mm nL nR nH){j:Int}(h:0<=j/\j<nR)(c:j∉into):∃ f:Nat,f<(bG into nR).length/\iA (bG into nR) f=j/\iA (tL keep into mm nR nH) j=((l7 keep mm nH).length+f:Nat):=by
 have b:=Ea (l:=into) nR j.toNat aD (by rw [show ((j.toNat:Nat):Int)=j by omega,bK];exact λd=>c ((mem_iff _ _).1 d));have a:=(aO.1 b).1;refine ⟨_,a,by unfold iA;rw [show ((((bG into j.toNat).length:Nat):Int)).toNat=(bG into j.toNat).length by omega,b,Option.getD_some];omega,?_⟩;rw [S.e5 h];unfold Iu;rw [show ((j.toNat:Nat):Int)=j by omega,rP c _ (bF _),if_neg aD,Mf S.cj]
theorem Srt.em (S:Srt keep into mm nL nR nH){f:Nat}(d:f<(bG into nR).length):∃ j:Int,(0<=j/\j<nR)/\j∉into/\iA (tL keep into mm nR nH) j=((l7 keep mm nH).length+f:Nat):=by
 have c:iA (bG into nR) f∈bG into nR:=d7 aD aD;obtain ⟨b,a⟩:=dV.1 c;obtain ⟨g,i,h,e⟩:=S.ao b a;have:=BV (i7 (lG _ _)) i d h;subst this;exact ⟨_,b,a,e⟩
theorem Srt.cc (S:Srt keep into mm nL nR nH){j:Int}(h:0<=j/\j<nR):0<=iA (tL keep into mm nR nH) j/\iA (tL keep into mm nR nH) j<((l7 keep mm nH).length+(bG into nR).length:Nat):=by
 by_cases a:j∈into
 .obtain ⟨q,d,rfl⟩:=mO a;have b:=S.kl;rw [S.bb aD];obtain ⟨p,c,g,_⟩:=S.a6 (S.am (d7 (l:=keep) (n:=(q:Int)) aD aD));omega
 .obtain ⟨f,c,_,e⟩:=S.ao h a;omega
end
/-! ### undoing -/
def cZ (part into keep:V2):V2:=part.map λx=>iA keep (idx into x)
structure Und (keep into mm m0 b mm':V2) (nL nR nH N:Nat):Prop where
 S:Srt keep into mm nL nR nH
 n:N=(l7 keep mm nH).length+(bG into nR).length
 to:∀ x:Int,0<=x->x<N->(0<=iA m0 x/\iA m0 x<N)/\iA b (iA m0 x)=x
 of:∀ y:Int,0<=y->y<N->(0<=iA b y/\iA b y<N)/\iA m0 (iA b y)=y
 m:∀ y:Int,0<=y->y<nR->iA mm' y=iA b (iA (tL keep into mm nR nH) y)
 S':Srt (fF into nR) (cZ (fF into nR) into keep) mm' nR nL N
section
variable {keep into mm m0 b mm':V2} {nL nR nH N:Nat}
def DK (keep into mm m0 mm':V2)(nL nR nH N:Nat)(p v:Int):Prop :=
 (∃ x∈l7 (fF into nR) mm' N,iA (nD (fF into nR) mm' N) x=p/\v∈l7 keep mm nH/\iA (nD keep mm nH) v=iA m0 x) \/
 (∃ j:Int,(0<=j/\j<nL)/\iA (tL (fF into nR) (cZ (fF into nR) into keep) mm' nL N) j=p/\iA mm j=v)
theorem yH {l:V2}(d:l.Nodup){q:Nat}(c:q<l.length):idx l (iA l q)=q:=by
 obtain ⟨f,a,b⟩:=BT ((mem_iff l _).2 (d7 (l:=l) (n:=(q:Int)) aD aD));have e:iA l (((idx l (iA l q)).toNat:Nat):Int)=iA l q:=by
  rw [iD a];rw [aA a] at b;exact Option.some.inj b
 have:(idx l (iA l q)).toNat=q:=BV d a c e;omega
theorem Und.kept (U:Und keep into mm m0 b mm' nL nR nH N){j:Int}(p:j∈keep):∃ y:Int,(0<=y/\y<nR)/\y∈into/\j∈cZ (fF into nR) into keep /\
  iA (tL (fF into nR) (cZ (fF into nR) into keep) mm' nL N) j=iA (nD (fF into nR) mm' N) (iA mm' y)/\iA mm' y∈l7 (fF into nR) mm' N/\iA m0 (iA mm' y)=iA (nD keep mm nH) (iA mm j):=by
 have S:=U.S;have o:=S.kl;obtain ⟨q,k,rfl⟩:=mO p;have g:iA into q∈into:=d7 aD aD;have a:=S.ir _ g;have e:iA into q∈fF into nR:=fC.2 ⟨a,g⟩;obtain ⟨s,h,f⟩:=mO e;have l:(cZ (fF into nR) into keep).length=(fF into nR).length:=by simp [cZ]
 have c:iA (cZ (fF into nR) into keep) s=iA keep q:=by
  rw [iD aD];unfold cZ;rw [g9,<- iD h,f,yH S.cj aD]
 have i:=U.S'.bb h;rw [f,c] at i;have d:=S.cc a;rw [<- U.n] at d;refine ⟨_,a,g,?_,i,U.S'.am e,?_⟩
 .rw [<- c];exact d7 aD aD
 .rw [U.m _ a.1 a.2,(U.of _ d.1 d.2).2,S.bb k]
theorem Und.ay (U:Und keep into mm m0 b mm' nL nR nH N){j:Int}(a:j∈cZ (fF into nR) into keep):j∈keep:=by
 unfold cZ at a;obtain ⟨x,c,rfl⟩:=aX.1 a;obtain ⟨d,e,_⟩:=BT ((mem_iff _ _).2 (fC.1 c).2);have:=U.S.kl;exact d7 d aD
theorem Und.left (U:Und keep into mm m0 b mm' nL nR nH N){x:Int}(g:x∈l7 (fF into nR) mm' N):∃ v∈l7 keep mm nH,iA (nD keep mm nH) v=iA m0 x:=by
 obtain ⟨e,o⟩:=U.S'.aq.1 g;obtain ⟨s,l⟩:=U.to x e.1 e.2;have q:=U.n;by_cases h:iA m0 x<(l7 keep mm nH).length
 .obtain ⟨a,b⟩:=U.S.d3 (p:=(iA m0 x).toNat) aD;exact ⟨_,a,aD⟩
 .obtain ⟨j,c,d,r⟩:=U.S.em (f:=(iA m0 x).toNat - (l7 keep mm nH).length) aD;have k:iA (tL keep into mm nR nH) j=iA m0 x:=aD;have:=o j c.1 c.2 (λi=>d (fC.1 i).2);rw [U.m j c.1 c.2,k,l] at this;exact absurd rfl this
theorem Und.right (U:Und keep into mm m0 b mm' nL nR nH N){v:Int}(g:v∈l7 keep mm nH):∃ x∈l7 (fF into nR) mm' N,iA (nD keep mm nH) v=iA m0 x:=by
 obtain ⟨p,s,r,_⟩:=U.S.a6 g;have o:=U.n;obtain ⟨l,e⟩:=U.of (iA (nD keep mm nH) v) aD aD;refine ⟨_,U.S'.aq.2 ⟨l,λk c a h d=>?_⟩,e.symm⟩;obtain ⟨f,w,u,t⟩:=U.S.ao ⟨c,a⟩ (λi=>h (fC.2 ⟨⟨c,a⟩,i⟩));rw [U.m k c a] at d;have q:=U.S.cc (j:=k) ⟨c,a⟩;have:=(U.of (iA (tL keep into mm nR nH) k) aD aD).2;rw [d,e] at this;omega
theorem Und.dd (U:Und keep into mm m0 b mm' nL nR nH N){j:Int}(h:0<=j/\j<nL)(hj:j∉keep):∃ f:Nat,f<(bG (cZ (fF into nR) into keep) nL).length/\iA (bG (cZ (fF into nR) into keep) nL) f=j /\
 iA (tL (fF into nR) (cZ (fF into nR) into keep) mm' nL N) j=((l7 (fF into nR) mm' N).length+f:Nat):=U.S'.ao h λhi=>hj (U.ay hi)
theorem Und.ew (U:Und keep into mm m0 b mm' nL nR nH N){p v w:Int}(J:DK keep into mm m0 mm' nL nR nH N p v)(F:DK keep into mm m0 mm' nL nR nH N p w):v=w:=by
 have c:∀ {x:Int} {j u:Int},x∈l7 (fF into nR) mm' N->0<=j/\j<nL->iA (tL (fF into nR) (cZ (fF into nR) into keep) mm' nL N) j=iA (nD (fF into nR) mm' N) x->u∈l7 keep mm nH->iA (nD keep mm nH) u=iA m0 x->iA mm j=u:=by
  intro x j u l e a G r;by_cases d:j∈keep
  .obtain ⟨y,h,k,_,o,n,m⟩:=U.kept d;have t:iA mm' y=x:=U.S'.cf n l (by rw [<- o,a]);exact U.S.cf (U.S.am d) G (by rw [<- m,t,r])
  .obtain ⟨f,_,_,I⟩:=U.dd e d;obtain ⟨q,K,H,_⟩:=U.S'.a6 l;omega
 rcases J with ⟨x,l,rfl,D,r⟩|⟨j,e,rfl,rfl⟩
 .rcases F with ⟨y,s,a,z,C⟩|⟨j,e,a,rfl⟩
  .have:=U.S'.cf s l a;subst this;exact U.S.cf D z (by rw [r,C])
  .exact (c l e a D r).symm
 .rcases F with ⟨y,s,a,z,C⟩|⟨i,E,a,rfl⟩
  .exact c s e a.symm z C
  .by_cases d:j∈keep
   .obtain ⟨y,h,k,_,o,n,m⟩:=U.kept d;exact (c n E (by rw [a,o]) (U.S.am d) m.symm).symm
   .by_cases hl:i∈keep
    .obtain ⟨y,h,k,_,o,n,m⟩:=U.kept hl;exact c n e (by rw [<- a,o]) (U.S.am hl) m.symm
    .obtain ⟨f,_,B,I⟩:=U.dd e d;obtain ⟨g,_,A,L⟩:=U.dd E hl;rw [<- B,<- A,(aD:f=g)]
theorem Und.inj (U:Und keep into mm m0 b mm' nL nR nH N){p q v:Int}(B:DK keep into mm m0 mm' nL nR nH N p v)(o:DK keep into mm m0 mm' nL nR nH N q v):p=q:=by
 have d:∀ {j:Int},0<=j/\j<nL->iA mm j∈l7 keep mm nH->∃ x∈l7 (fF into nR) mm' N,iA (nD (fF into nR) mm' N) x=iA (tL (fF into nR) (cZ (fF into nR) into keep) mm' nL N) j/\iA (nD keep mm nH) (iA mm j)=iA m0 x:=by
  intro j g l;by_cases C:j∈keep
  .obtain ⟨y,E,F,_,H,w,G⟩:=U.kept C;exact ⟨_,w,H.symm,G.symm⟩
  .exact absurd rfl ((U.S.aq.1 l).2 j g.1 g.2 C)
 have c:∀ {x y v:Int},x∈l7 (fF into nR) mm' N->y∈l7 (fF into nR) mm' N->iA (nD keep mm nH) v=iA m0 x->iA (nD keep mm nH) v=iA m0 y->x=y:=by
  intro x y v f e B o;have a:=(U.S'.aq.1 f).1;have b:=(U.S'.aq.1 e).1;rw [<- (U.to x a.1 a.2).2,<- (U.to y b.1 b.2).2,<- B,<- o]
 rcases B with ⟨x,f,rfl,s,D⟩|⟨j,g,rfl,rfl⟩
 .rcases o with ⟨y,e,rfl,_,A⟩|⟨i,t,rfl,rfl⟩
  .rw [c f e D A]
  .obtain ⟨z,r,n,m⟩:=d t s;rw [<- n,c f r D m]
 .rcases o with ⟨y,e,rfl,s,A⟩|⟨i,t,rfl,u⟩
  .obtain ⟨z,r,n,m⟩:=d g s;rw [<- n,c r e m A]
  .by_cases l:iA mm j∈l7 keep mm nH
   .obtain ⟨x,f,n,m⟩:=d g l;obtain ⟨y,e,J,I⟩:=d t (by rw [u];exact l);rw [<- n,<- J,c f e m (by rw [<- u];exact I)]
   .by_cases hij:i=j
    .rw [hij]
    .exfalso;have K:=U.S.ml;have h:=Pi U.S.du (i:=i.toNat) (k:=j.toNat) aD aD aD u;rw [show ((j.toNat:Nat):Int)=j by omega] at h;exact l (U.S.am ((mem_iff _ _).1 h.2))
theorem Und.range (U:Und keep into mm m0 b mm' nL nR nH N){p v:Int}(h:DK keep into mm m0 mm' nL nR nH N p v):(0<=p/\p<((l7 (fF into nR) mm' N).length+(bG (cZ (fF into nR) into keep) nL).length:Nat))/\0<=v/\v<nH:=by
 rcases h with ⟨x,c,rfl,d,e⟩|⟨j,a,rfl,rfl⟩
 .obtain ⟨q,g,f,_⟩:=U.S'.a6 c;exact ⟨aD,(U.S.aq.1 d).1⟩
 .have hl:=U.S.ml;exact ⟨U.S'.cc a,U.S.mr _ (d7 a.1 aD)⟩
theorem Und.fr (U:Und keep into mm m0 b mm' nL nR nH N){v:Int}(h:0<=v/\v<nH):∃ p,DK keep into mm m0 mm' nL nR nH N p v:=by
 by_cases e:v∈l7 keep mm nH
 .obtain ⟨x,f,j⟩:=U.right e;exact ⟨_,.inl ⟨x,f,rfl,e,j⟩⟩
 .have:¬ ∀ k:Int,0<=k->k<nL->k∉keep->iA mm k≠v:=λg=>e (U.S.aq.2 ⟨h,g⟩);have:∃ k:Int,0<=k/\k<nL/\iA mm k=v:=by
   refine aY λi=>this λk c a _ d=>i ⟨k,c,a,d⟩
  obtain ⟨k,c,a,d⟩:=this;exact ⟨_,.inr ⟨k,⟨c,a⟩,rfl,d⟩⟩
end
def oJ (ps:List (Int × Int))(l:V2):V2:=ps.foldl (λl p=>l.set p.1.toNat p.2) l
theorem j8:∀ (ps:List (Int × Int)) (l:V2),(oJ ps l).length=l.length
 | [],_=>rfl
 | p :: ps,l=>by
  have:=j8 ps (l.set p.1.toNat p.2);simpa [oJ] using this
theorem GZ (a:List (Int × Int))(p:Int × Int)(l:V2):oJ (a++[p]) l=(oJ a l).set p.1.toNat p.2:=by simp [oJ]
theorem Ka (b a:List (Int × Int))(l:V2):oJ (b++a) l=oJ a (oJ b l):=by simp [oJ]
theorem X9 {l:V2}{a:Nat}(h:a<l.length)(v:Int)(p:Nat):iA (l.set a v) p=if a=p then v else iA l p:=by
 unfold iA;rw [(aD:(p:Int).toNat=p),eI];by_cases b:a=p
 .subst b;simp [h]
 .rw [if_neg b,if_neg b]
theorem Gh {R:Int->Int->Prop}:∀ (ps:List (Int × Int)) (l:V2),(∀ q∈ps,R q.1 q.2/\0<=q.1)->∀ p:Nat,p<l.length->(R p (iA l p)\/∃ v,((p:Int),v)∈ps)->R p (iA (oJ ps l) p)
 | [],l,_,p,_,h=>by
  rcases h with h|⟨v,hv⟩
  .exact h
  .cases hv
 | (a,v) :: ps,l,hR,p,hp,h=>by
  have h0:=hR (a,v) (f8 ..);refine Gh ps (l.set a.toNat v) (λq hq=>hR q (dS _ hq)) p (bZ hp) ?_;by_cases he:a.toNat=p
  .left
   rw [X9 aD,if_pos he,<- he,show ((a.toNat:Nat):Int)=a by have:=h0.2;simp only at this;omega];exact h0.1
  .rcases h with h|⟨w,hw⟩
   .left
    have e:iA (l.set a.toNat v) p=iA l p:=by
     unfold iA;rw [eI,if_neg aD]
    rw [e];exact h
   .right
    exact ⟨w,(aV.1 hw).resolve_left λe=>he (by have:=congrArg Prod.fst e;simp only at this;omega)⟩
theorem OW {l a:V2}(h:l.length=a.length)(c:∀ p:Nat,p<l.length->iA l p=iA a p):l=a:=by
 refine e9 h λi b d=>?_;have:=c i b;rwa [iD b,iD d] at this
def XK (track undo:V2)(k:Nat):List (Int × Int):=(List.range k).flatMap λ(i:Nat)=>if 0<=iA track i/\0<=iA undo (iA track i) then [(iA undo (iA track i),(i:Int))] else []
def XJ (com mat:V2)(k:Nat):List (Int × Int):=(List.range k).map λ(i:Nat)=>(iA com i,iA mat i)
def BN (track undo com mat:V2)(n:Nat):V2:=oJ (XJ com mat com.length) (oJ (XK track undo track.length) (List.replicate n 0))
def JO (iso undone track:V2)(k:Nat):List (Int × Int):=(List.range k).flatMap λ(i:Nat)=>if 0<=iA undone i then [(iA undone i,idx track (iA iso i))] else []
def MM (com mat keep:V2)(k:Nat):List (Int × Int):=(List.range k).flatMap λ(i:Nat)=>if mem keep i=true then [] else [(iA com i,iA mat i)]
def Ci (n:Nat)(iso undone track com mat keep:V2):V2:=oJ (MM com mat keep com.length) (oJ (JO iso undone track undone.length) (List.replicate n 0))
def lW (l by_:V2):V2:=l.map λn=>if 0<=n then iA by_ n else n
section
variable {keep into mm m0 b mm':V2} {nL nR nH N:Nat}
theorem jN:(nD keep mm nH).length=nH:=mG _ _
theorem eM:(tL keep into mm nR nH).length=nR:=by simp [tL,DQ]
theorem Nv {l by_:V2}{i:Int}(b:0<=i)(h:i<l.length):iA (lW l by_) i=if 0<=iA l i then iA by_ (iA l i) else iA l i:=by
 have a:i.toNat<l.length:=aD;have e:iA l i=l[i.toNat]:=by unfold iA;rw [aA a];rfl
 rw [e];unfold iA lW;rw [aM,aA a];rfl
theorem Srt.cQ (S:Srt keep into mm nL nR nH){x:Int}(h:0<=x/\x<nH)(b:0<=iA (nD keep mm nH) x):x∈l7 keep mm nH:=by
 refine aY λa=>?_;rw [S.ds h a] at b;omega
theorem Und.ez (U:Und keep into mm m0 b mm' nL nR nH N){n:Nat}(J:n=(l7 (fF into nR) mm' N).length+(bG (cZ (fF into nR) into keep) nL).length) :
  ∀ p:Nat,p<n->DK keep into mm m0 mm' nL nR nH N p (iA (BN (lW (nD keep mm nH) b) (nD (fF into nR) mm' N) (tL (fF into nR) (cZ (fF into nR) into keep) mm' nL N) mm n) p):=by
 intro p D;unfold BN;rw [<- Ka];have K:=U.n;have c:(lW (nD keep mm nH) b).length=nH:=by unfold lW;rw [aR];exact jN
 refine Gh _ _ (λq a=>?_) p (bZ D) (.inr ?_)
 .rcases aZ.1 a with h|h
  .unfold XK at h;obtain ⟨i,E,a⟩:=bT.1 h;have r:=aW.1 E;rw [c] at r;split at a
   .rename_i s;obtain ⟨k,g⟩:=s;simp only [bP] at a;subst a;refine ⟨.inl ?_,g⟩;rw [Nv aD (by rw [jN];omega)] at k g ⊢;by_cases d:0<=iA (nD keep mm nH) i
    .rw [if_pos d] at k g ⊢;have e:=U.S.cQ (x:=(i:Int)) aD d;obtain ⟨I,M,L,_⟩:=U.S.a6 e;obtain ⟨A,z⟩:=U.of (iA (nD keep mm nH) i) d aD;exact ⟨_,U.S'.cQ A g,rfl,e,z.symm⟩
    .rw [if_neg d] at k;exact absurd k d
   .cases a
  .unfold XJ at h;obtain ⟨j,u,rfl⟩:=aX.1 h;have o:=aW.1 u;rw [eM] at o;exact ⟨.inr ⟨j,aD,rfl,rfl⟩,(U.S'.cc (j:=(j:Int)) aD).1⟩
 .by_cases e:p<(l7 (fF into nR) mm' N).length
  .obtain ⟨w,G⟩:=U.S'.d3 e;obtain ⟨v,C,F⟩:=U.left w;have t:=(U.S'.aq.1 w).1;have B:=(U.S.aq.1 C).1;obtain ⟨H,y⟩:=U.to _ t.1 t.2;refine ⟨v,aZ.2 (.inl ?_)⟩;unfold XK;have l:v.toNat<(lW (nD keep mm nH) b).length:=by rw [c];omega
   refine bT.2 ⟨v.toNat,aW.2 l,?_⟩;rw [show ((v.toNat:Nat):Int)=v by omega,Nv aD (by rw [jN];omega),if_pos (by omega:0<=iA (nD keep mm nH) v),F,y,G,if_pos aD];simp
  .obtain ⟨j,u,_,s⟩:=U.S'.em (f:=p - (l7 (fF into nR) mm' N).length) aD;refine ⟨iA mm j,aZ.2 (.inr ?_)⟩;unfold XJ;have m:j.toNat<(tL (fF into nR) (cZ (fF into nR) into keep) mm' nL N).length:=by rw [eM];omega
   refine aX.2 ⟨j.toNat,aW.2 m,?_⟩;rw [show ((j.toNat:Nat):Int)=j by omega,s];congr 1;omega
theorem Und.idx (U:Und keep into mm m0 b mm' nL nR nH N){x:Int}(d:x∈l7 (fF into nR) mm' N):Abs.idx (nD keep mm nH) (iA m0 x)∈l7 keep mm nH/\iA (nD keep mm nH) (Abs.idx (nD keep mm nH) (iA m0 x))=iA m0 x:=by
 obtain ⟨v,g,i⟩:=U.left d;have c:=(U.S.aq.1 g).1;have a:=(U.S'.aq.1 d).1;have h:iA m0 x∈nD keep mm nH:=by rw [<- i];exact d7 c.1 (by rw [jN];omega)
 obtain ⟨k,j,f⟩:=BT ((mem_iff _ _).2 h);have e:iA (nD keep mm nH) (Go.Abs.idx (nD keep mm nH) (iA m0 x))=iA m0 x:=by unfold iA at f ⊢;rw [f];rfl
 rw [jN] at j;exact ⟨U.S.cQ aD (by rw [e];exact (U.to x a.1 a.2).1.1),e⟩
theorem Und.hx (U:Und keep into mm m0 b mm' nL nR nH N){n:Nat}(A:n=(l7 (fF into nR) mm' N).length+(bG (cZ (fF into nR) into keep) nL).length) :
  ∀ p:Nat,p<n->DK keep into mm m0 mm' nL nR nH N p (iA (Ci n m0 (nD (fF into nR) mm' N) (nD keep mm nH) (tL (fF into nR) (cZ (fF into nR) into keep) mm' nL N) mm keep) p):=by
 intro p t;unfold Ci;rw [<- Ka];refine Gh _ _ (λq a=>?_) p (bZ t) (.inr ?_)
 .rcases aZ.1 a with h|h
  .unfold JO at h;obtain ⟨i,u,a⟩:=bT.1 h;have m:=aW.1 u;rw [jN] at m;split at a
   .rename_i c;simp only [bP] at a;subst a;have d:=U.S'.cQ (x:=(i:Int)) aD c;obtain ⟨s,r⟩:=U.idx d;exact ⟨.inl ⟨_,d,rfl,s,r⟩,c⟩
   .cases a
  .unfold MM at h;obtain ⟨j,o,a⟩:=bT.1 h;have l:=aW.1 o;rw [eM] at l;split at a
   .cases a
   .simp only [bP] at a;subst a;exact ⟨.inr ⟨j,aD,rfl,rfl⟩,(U.S'.cc (j:=(j:Int)) aD).1⟩
 .by_cases d:p<(l7 (fF into nR) mm' N).length
  .obtain ⟨y,w⟩:=U.S'.d3 d;have z:=(U.S'.aq.1 y).1;refine ⟨Go.Abs.idx (nD keep mm nH) (iA m0 (iA (l7 (fF into nR) mm' N) p)),aZ.2 (.inl ?_)⟩;unfold JO;have e:(iA (l7 (fF into nR) mm' N) p).toNat<(nD (fF into nR) mm' N).length:=by rw [jN];omega
   refine bT.2 ⟨(iA (l7 (fF into nR) mm' N) p).toNat,aW.2 e,?_⟩;rw [show (((iA (l7 (fF into nR) mm' N) p).toNat:Nat):Int)=iA (l7 (fF into nR) mm' N) p by omega,w,if_pos aD];simp
  .obtain ⟨j,o,k,v⟩:=U.S'.em (f:=p - (l7 (fF into nR) mm' N).length) aD;refine ⟨iA mm j,aZ.2 (.inr ?_)⟩;unfold MM;have g:j.toNat<(tL (fF into nR) (cZ (fF into nR) into keep) mm' nL N).length:=by rw [eM];omega
   refine bT.2 ⟨j.toNat,aW.2 g,?_⟩;rw [show ((j.toNat:Nat):Int)=j by omega,v,if_neg]
   .simp;omega
   .intro hk;obtain ⟨_,_,_,h,_⟩:=U.kept ((mem_iff _ _).1 hk);exact k h
theorem Und.same (U:Und keep into mm m0 b mm' nL nR nH N){n:Nat}(a:n=(l7 (fF into nR) mm' N).length+(bG (cZ (fF into nR) into keep) nL).length) :
  Ci n m0 (nD (fF into nR) mm' N) (nD keep mm nH) (tL (fF into nR) (cZ (fF into nR) into keep) mm' nL N) mm keep=BN (lW (nD keep mm nH) b) (nD (fF into nR) mm' N) (tL (fF into nR) (cZ (fF into nR) into keep) mm' nL N) mm n:=by
 have d:(Ci n m0 (nD (fF into nR) mm' N) (nD keep mm nH) (tL (fF into nR) (cZ (fF into nR) into keep) mm' nL N) mm keep).length=n:=by unfold Ci;rw [j8,j8,fI]
 have c:(BN (lW (nD keep mm nH) b) (nD (fF into nR) mm' N) (tL (fF into nR) (cZ (fF into nR) into keep) mm' nL N) mm n).length=n:=by unfold BN;rw [j8,j8,fI]
 exact OW (by rw [d,c]) λp e=>U.ew (U.hx a p aD) (U.ez a p aD)
theorem Und.ec (U:Und keep into mm m0 b mm' nL nR nH N){n:Nat}(v:n=(l7 (fF into nR) mm' N).length+(bG (cZ (fF into nR) into keep) nL).length){l:V2}(w:l.length=n)(e:∀ p:Nat,p<n->DK keep into mm m0 mm' nL nR nH N p (iA l p)) :
  (∀ x∈l,0<=x/\x<nH)/\l.Nodup/\n=nH:=by
 have a:l.Nodup:=by
  rw [eR,dD];intro i j k q r s;have d:=e i aD;have f:=e j aD;rw [iD k] at d;rw [iD q,<- s] at f;have:=U.inj d f;omega
 have c:∀ x∈l,0<=x/\x<nH:=λx g=>by
  obtain ⟨i,k,rfl⟩:=mO g;exact (U.range (e i aD)).2
 have d:=CW c a;have f:bG l nH=[]:=by
  refine lD.2 λx g=>?_;obtain ⟨u,t⟩:=dV.1 g;obtain ⟨p,h⟩:=U.fr u;have o:=(U.range h).1;have m:=e p.toNat aD;rw [show ((p.toNat:Nat):Int)=p by omega] at m;refine t ?_;rw [U.ew h m];exact d7 o.1 aD
 rw [f] at d;simp at d;exact ⟨c,a,aD⟩
theorem Und.cases (U:Und keep into mm m0 b mm' nL nR nH N){p v:Int}(h:DK keep into mm m0 mm' nL nR nH N p v) :
  (∃ x∈l7 (fF into nR) mm' N,iA (nD (fF into nR) mm' N) x=p/\v∈l7 keep mm nH/\iA (nD keep mm nH) v=iA m0 x) \/
  (∃ (j:Int) (f:Nat),(0<=j/\j<nL)/\j∉keep/\f<(bG (cZ (fF into nR) into keep) nL).length/\iA (bG (cZ (fF into nR) into keep) nL) f=j/\p=((l7 (fF into nR) mm' N).length+f:Nat)/\iA mm j=v):=by
 rcases h with h|⟨j,a,rfl,rfl⟩
 .exact .inl h
 .by_cases hk:j∈keep
  .obtain ⟨y,c,d,_,i,g,e⟩:=U.kept hk;exact .inl ⟨_,g,i.symm,U.S.am hk,e.symm⟩
  .obtain ⟨f,m,l,k⟩:=U.dd a hk;exact .inr ⟨j,f,a,hk,m,l,k,rfl⟩
theorem CY (a b d c:V2)(n:Nat):(BN a b d c n).length=n:=by unfold BN;rw [j8,j8,fI]
theorem Vt (n:Nat)(d a b e c keep:V2):(Ci n d a b e c keep).length=n:=by unfold Ci;rw [j8,j8,fI]
end
end Go.Abs
end
