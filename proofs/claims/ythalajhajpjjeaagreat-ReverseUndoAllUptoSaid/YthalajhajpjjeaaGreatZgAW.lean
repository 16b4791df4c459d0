/- Layer 26: when steps are the same. · law26: StepApply, StepC -/
import Derived.Test.YthalajhajpjjeaaGreatZgAF
import Derived.Test.YthalajhajpjjeaaGreatZgAV
import Derived.Test.YthalajhajpjjeaaGreatZgAS
import Derived.OpenShut
set_option linter.unusedVariables false
set_option linter.unusedSimpArgs false
section
set_option maxRecDepth 100000
set_option maxHeartbeats 4000000
open Go Go.Proofs
namespace Go.Abs
deriving instance DecidableEq for Term
deriving instance DecidableEq for Slot
deriving instance DecidableEq for Test
deriving instance DecidableEq for Pattern
mutual
def RZ:Cond→Cond→Bool
 | .mk k l m p,.mk k' l' m' p'=>decide (k=k')&&decide (m=m')&&decide (p=p')&&AW l l'
def AW:List Cond→List Cond→Bool
 | [],[]=>true
 | [],_ :: _=>false
 | _ :: _,[]=>false
 | a :: l,b :: l'=>RZ a b&&AW l l'
end
mutual
theorem IC:∀ a b:Cond,RZ a b=true↔a=b
 | .mk k l m p,.mk k' l' m' p'=>by
  have:=FF l l'
  simp only [RZ,aQ,decide_eq_true_eq,this,Cond.mk.injEq]
  constructor
  ·rintro ⟨⟨⟨h1,h2⟩,h3⟩,h4⟩;exact ⟨h1,h4,h2,h3⟩
  ·rintro ⟨h1,h4,h2,h3⟩;exact ⟨⟨⟨h1,h2⟩,h3⟩,h4⟩
theorem FF:∀ a b:List Cond,AW a b=true↔a=b
 | [],[]=>by simp [AW]
 | [],_ :: _=>by simp [AW]
 | _ :: _,[]=>by simp [AW]
 | a :: l,b :: l'=>by
  have h1:=IC a b
  have h2:=FF l l'
  simp [AW,h1,h2]
end
instance:DecidableEq Cond:=fun a b=>decidable_of_iff _ (IC a b)
deriving instance DecidableEq for Rule
deriving instance DecidableEq for Stp26
theorem IA {x y:Slot}(h:x.node=y.node/\x.attr=y.attr/\x.term.var=y.term.var/\x.term.add=y.term.add):x=y:=by
 obtain ⟨a,b,⟨c,d⟩⟩:=x;obtain ⟨e,f,⟨g,i⟩⟩:=y
 obtain ⟨rfl,rfl,rfl,rfl⟩:=h;rfl
theorem Iw {x y:Test}(h:x.kind=y.kind/\x.left.var=y.left.var/\x.left.add=y.left.add/\x.right.var=y.right.var/\x.right.add=y.right.add):x=y:=by
 obtain ⟨a,⟨b,c⟩,⟨d,e⟩⟩:=x;obtain ⟨f,⟨g,i⟩,⟨j,k⟩⟩:=y
 obtain ⟨rfl,rfl,rfl,rfl,rfl⟩:=h;rfl
theorem OC (a b:Pattern):decide (a=b)=(decide (a.graph=b.graph)&&decide (a.vars=b.vars)&&decide (a.slots=b.slots)&&decide (a.tests=b.tests)):=by
 rw [aR];cases a;cases b;simp [Cond.kind,Cond.kids,Cond.map,Cond.pattern,and_comm,and_left_comm,and_assoc]
theorem P8 (a b:Cond):decide (a=b)=(decide (a.kind=b.kind)&&decide (a.map=b.map)&&decide (a.pattern=b.pattern)&&decide (a.kids=b.kids)):=by
 rw [aR];simp only [aQ,decide_eq_true_eq];cases a;cases b
 simp only [Cond.mk.injEq,Cond.kind,Cond.kids,Cond.map,Cond.pattern]
 constructor
 .rintro ⟨h1,h2,h3,h4⟩;exact ⟨⟨⟨h1,h3⟩,h4⟩,h2⟩
 .rintro ⟨⟨⟨h1,h3⟩,h4⟩,h2⟩;exact ⟨h1,h2,h3,h4⟩
theorem Py (a b:Rule):decide (a=b)=(decide (a.name=b.name)&&decide (a.inj=b.inj)&&decide (a.left=b.left)&&decide (a.right=b.right)&&decide (a.keep=b.keep)&&decide (a.into=b.into)&&decide (a.cond=b.cond)):=by
 rw [aR];cases a;cases b;simp [Cond.kind,Cond.kids,Cond.map,Cond.pattern,and_comm,and_left_comm,and_assoc]
theorem RU (a b:Stp26):decide (a=b)=(decide (a.rule=b.rule)&&decide (a.mat=b.mat)&&decide (a.before=b.before)&&decide (a.after=b.after)&&decide (a.track=b.track)&&decide (a.comatch=b.comatch)):=by
 rw [aR];cases a;cases b;simp [and_assoc]
theorem Be (a b:List Edge):Pure Tryz.prog 163 [.list (a.map Edge.c),.list (b.map Edge.c)] (.bool (decide (a=b))):=by
 refine Tz.pK ⟨λ_=>false,λ_=>[]⟩ Tryz.func163 rfl (λQ hQ=>?_)
 have Y:=trivial
 refine wv (h:=?_)
 repeat first|intro _|refine ⟨eO,?_⟩
 refine wq (λh1=>?_) λh1=>?_
 .refine wv (h:=?_)
  have hne:a≠b:=by intro h;subst h;omega
  exact hQ _ _ (by simp [go_sem,hne])
 .refine wo (h:=bD (λi e H=>(e 0=.list (a.map Edge.c)/\e 1=.list (b.map Edge.c)/\e 12=dI a.length/\e 13=dI i)/\(i<=a.length)/\(a.take i=b.take i)) (λi=>a.length - i) 0 ⟨wg,wi,(by rfl)⟩ λI0 hI0 i e H hi0=>?_)
  obtain ⟨E0,hi,he⟩:=hi0
  have Y:=wa Y E0
  refine dP (λh4=>?_) λh4=>?_
  .have hib:i<b.length:=aD
   have Y:=wa Y (wa h4 (wa (aA h4) (aA hib)))
   refine wv (h:=?_)
   repeat first|intro _|refine ⟨eO,?_⟩
   refine wq (λh6=>?_) λh6=>?_
   .refine wv (h:=?_)
    have hne:a≠b:=by intro h;subst h;simp at h6
    exact hQ _ _ (by simp [go_sem,hne])
   .exact wo (h:=wx hI0 (i+1) ⟨wg,wj,(by rw [aE h4,aE hib,he,Jr h6])⟩)
  .have hab:a=b:=by rw [aG aD,aG aD] at he;exact he
   exact wv (h:=hQ _ _ (by simp [go_sem,hab]))
theorem Bd (a b:List Slot):Pure Tryz.prog 85 [.list (a.map Slot.c),.list (b.map Slot.c)] (.bool (decide (a=b))):=by
 refine Tz.pK ⟨λ_=>false,λ_=>[]⟩ Tryz.func85 rfl (λQ hQ=>?_)
 have Y:=trivial
 refine wv (h:=?_)
 repeat first|intro _|refine ⟨eO,?_⟩
 refine wq (λh1=>?_) λh1=>?_
 .refine wv (h:=?_)
  have hne:a≠b:=by intro h;subst h;omega
  exact hQ _ _ (by simp [go_sem,hne])
 .refine wo (h:=bD (λi e H=>(e 0=.list (a.map Slot.c)/\e 1=.list (b.map Slot.c)/\e 12=dI a.length/\e 13=dI i)/\(i<=a.length)/\(a.take i=b.take i)) (λi=>a.length - i) 0 ⟨wg,wi,(by rfl)⟩ λI0 hI0 i e H hi0=>?_)
  obtain ⟨E0,hi,he⟩:=hi0
  have Y:=wa Y E0
  refine dP (λh4=>?_) λh4=>?_
  .have hib:i<b.length:=aD
   have Y:=wa Y (wa h4 (wa (aA h4) (aA hib)))
   refine wv (h:=?_)
   repeat first|intro _|refine ⟨eO,?_⟩
   refine wq (λh6=>?_) λh6=>?_
   .refine wv (h:=?_)
    have hne:a≠b:=by intro h;subst h;simp at h6
    exact hQ _ _ (by simp [go_sem,hne])
   .exact wo (h:=wx hI0 (i+1) ⟨wg,wj,(by rw [aE h4,aE hib,he,IA h6])⟩)
  .have hab:a=b:=by rw [aG aD,aG aD] at he;exact he
   exact wv (h:=hQ _ _ (by simp [go_sem,hab]))
theorem GS (a b:List Test):Pure Tryz.prog 258 [.list (a.map Test.c),.list (b.map Test.c)] (.bool (decide (a=b))):=by
 refine Tz.pK ⟨λ_=>false,λ_=>[]⟩ Tryz.func258 rfl (λQ hQ=>?_)
 have Y:=trivial
 refine wv (h:=?_)
 repeat first|intro _|refine ⟨eO,?_⟩
 refine wq (λh1=>?_) λh1=>?_
 .refine wv (h:=?_)
  have hne:a≠b:=by intro h;subst h;omega
  exact hQ _ _ (by simp [go_sem,hne])
 .refine wo (h:=bD (λi e H=>(e 0=.list (a.map Test.c)/\e 1=.list (b.map Test.c)/\e 12=dI a.length/\e 13=dI i)/\(i<=a.length)/\(a.take i=b.take i)) (λi=>a.length - i) 0 ⟨wg,wi,(by rfl)⟩ λI0 hI0 i e H hi0=>?_)
  obtain ⟨E0,hi,he⟩:=hi0
  have Y:=wa Y E0
  refine dP (λh4=>?_) λh4=>?_
  .have hib:i<b.length:=aD
   have Y:=wa Y (wa h4 (wa (aA h4) (aA hib)))
   refine wv (h:=?_)
   repeat first|intro _|refine ⟨eO,?_⟩
   refine wq (λh6=>?_) λh6=>?_
   .refine wv (h:=?_)
    have hne:a≠b:=by intro h;subst h;simp at h6
    exact hQ _ _ (by simp [go_sem,hne])
   .exact wo (h:=wx hI0 (i+1) ⟨wg,wj,(by rw [aE h4,aE hib,he,Iw h6])⟩)
  .have hab:a=b:=by rw [aG aD,aG aD] at he;exact he
   exact wv (h:=hQ _ _ (by simp [go_sem,hab]))
theorem yI (a b:Pattern):Pure Tryz.prog 93 [a.d,b.d] (.bool (decide (a=b))):=by
 refine Tz.pK ⟨λ_=>false,λ_=>[]⟩ Tryz.func93 rfl (λQ hQ=>?_)
 have Y:=trivial
 refine wo (h:=aB (DV a.graph b.graph) wl ?_)
 refine wv (h:=?_)
 repeat first|intro _|refine ⟨eO,?_⟩
 refine wq (λh1=>?_) λh1=>?_
 .refine wv (h:=?_)
  have hne:a≠b:=by intro h;subst h;simp at h1
  exact hQ _ _ (by simp [go_sem,hne])
 .have hab:((a.graph=b.graph/\a.vars=b.vars)/\a.slots.length=b.slots.length)/\a.tests.length=b.tests.length:=by (try simp at h1);refine ⟨⟨⟨?_,?_⟩,?_⟩,?_⟩<;>first|(simp_all;done)|omega
  refine wv (h:=bD (λi e H=>(e 2=.adr a.c/\e 3=.adr b.c/\e 5=dI i)/\(i<=a.slots.length)/\(a.slots.take i=b.slots.take i)) (λi=>a.slots.length - i) 0 ⟨wg,wi,(by rfl)⟩ λI0 hI0 i e H hi0=>?_)
  obtain ⟨E0,hi,he⟩:=hi0
  have Y:=wa Y E0
  refine wv (h:=?_)
  repeat first|intro _|refine ⟨eO,?_⟩
  refine wq (λh4=>?_) λh4=>?_
  .have hib:i<b.slots.length:=aD
   have Y:=wa Y (wa h4 (wa (aA h4) (aA hib)))
   refine wv (h:=?_)
   repeat first|intro _|refine ⟨eO,?_⟩
   refine wq (λh6=>?_) λh6=>?_
   .refine wv (h:=?_)
    have hne:a≠b:=by intro h;subst h;simp at h6
    exact hQ _ _ (by simp [go_sem,hne])
   .exact wo (h:=wx hI0 (i+1) ⟨wg,wj,(by rw [aE h4,aE hib,he,IA h6])⟩)
  .have hS:a.slots=b.slots:=by rw [aG aD,aG aD] at he;exact he
   refine wv (h:=bD (λk e H=>(e 2=.adr a.c/\e 3=.adr b.c/\e 6=dI k)/\(k<=a.tests.length)/\(a.tests.take k=b.tests.take k)) (λk=>a.tests.length - k) 0 ⟨wg,wi,(by rfl)⟩ λI2 hI2 k e H hi2=>?_)
   obtain ⟨E2,hk,he2⟩:=hi2
   have Y:=wa Y E2
   refine wv (h:=?_)
   repeat first|intro _|refine ⟨eO,?_⟩
   refine wq (λh9=>?_) λh9=>?_
   .have hkb:k<b.tests.length:=aD
    have Y:=wa Y (wa h9 (wa (aA h9) (aA hkb)))
    refine wv (h:=?_)
    repeat first|intro _|refine ⟨eO,?_⟩
    refine wq (λh11=>?_) λh11=>?_
    .refine wv (h:=?_)
     have hne:a≠b:=by intro h;subst h;simp at h11
     exact hQ _ _ (by simp [go_sem,hne])
    .exact wo (h:=wx hI2 (k+1) ⟨wg,wj,(by rw [aE h9,aE hkb,he2,Iw h11])⟩)
   .have hT:a.tests=b.tests:=by rw [aG aD,aG aD] at he2;exact he2
    exact wv (h:=hQ _ _ (by simp [go_sem,OC,hab.1.1.1,hab.1.1.2,hS,hT]))
theorem L4:∀ a b:Cond,Pure Tryz.prog 95 [.agg a.c,.agg b.c] (.bool (decide (a=b))):=by
 refine i9 λa ih b=>?_
 simp only [Cond.c_eq]
 refine Tz.pK ⟨λ_=>false,λ_=>[]⟩ Tryz.func95 rfl (λQ hQ=>?_)
 have Y:=@Cond.c_eq
 refine wo (h:=aH (λhg=>tL a.map b.map) (λhg=>wl) ?_)
 refine wo (h:=aH (λhg=>yI a.pattern b.pattern) (λhg=>wl) ?_)
 refine wv (h:=?_)
 repeat first|intro _|refine ⟨eO,?_⟩
 refine wq (λh1=>?_) λh1=>?_
 .refine wv (h:=?_)
  have hne:a≠b:=by intro h;subst h;simp at h1
  exact hQ _ _ (by simp [go_sem,hne])
 .have hab:((a.kind=b.kind/\a.kids.length=b.kids.length)/\a.map=b.map)/\a.pattern=b.pattern:=by (try simp at h1);refine ⟨⟨⟨?_,?_⟩,?_⟩,?_⟩<;>first|(simp_all;done)|omega
  refine wv (h:=bD (λi e H=>(e 2=.adr a.c/\e 3=.adr b.c/\e 5=dI i)/\(i<=a.kids.length)/\(a.kids.take i=b.kids.take i)) (λi=>a.kids.length - i) 0 ⟨wg,wi,(by rfl)⟩ λI0 hI0 i e H hi0=>?_)
  obtain ⟨E0,hi,he⟩:=hi0
  have Y:=wa Y E0
  refine wv (h:=?_)
  repeat first|intro _|refine ⟨eO,?_⟩
  refine wq (λh4=>?_) λh4=>?_
  .have hib:i<b.kids.length:=aD
   have Y:=wa Y (wa h4 (wa (aA h4) (aA hib)))
   refine wo (h:=aI ((by have hz:=ih _ (aC h4) b.kids[i];rwa [Cond.c_eq,Cond.c_eq] at hz)) wl ?_)
   refine wv (h:=?_)
   repeat first|intro _|refine ⟨eO,?_⟩
   refine wq (λh6=>?_) λh6=>?_
   .refine wv (h:=?_)
    have hne:a≠b:=by intro h;subst h;simp at h6
    exact hQ _ _ (by simp [go_sem,hne])
   .exact wo (h:=wx hI0 (i+1) ⟨wg,wj,(by rw [aE h4,aE hib,he,h6])⟩)
  .have hK:a.kids=b.kids:=by rw [aG aD,aG aD] at he;exact he
   exact wv (h:=hQ _ _ (by simp [go_sem,P8,hab.1.1.1,hab.1.2,hab.2,hK]))
theorem LZ (a b:Rule):Pure Tryz.prog 32 [a.d,b.d] (.bool (decide (a=b))):=by
 have hc:=L4 a.cond b.cond
 rw [Cond.c_eq,Cond.c_eq] at hc
 refine Tz.pK ⟨λ_=>false,λ_=>[]⟩ Tryz.func32 rfl (λQ hQ=>?_)
 have Y:=trivial
 refine wo (h:=aH (λhg=>yI a.left b.left) (λhg=>wl) ?_)
 refine wo (h:=aH (λhg=>yI a.right b.right) (λhg=>wl) ?_)
 refine wo (h:=aH (λhg=>Mg a.keep b.keep) (λhg=>wl) ?_)
 refine wo (h:=aH (λhg=>tL a.into b.into) (λhg=>wl) ?_)
 refine wo (h:=aH (λhg=>hc) (λhg=>wl) ?_)
 have Y:=wa Y @Py
 exact wo (h:=hQ _ _ wy)
theorem DR (a b:Stp26)(h1:∀ i (h1:i<a.before.values.length) (h2:i<b.before.values.length),zO a.before.values[i] b.before.values[i])(h2:∀ i (h1:i<a.after.values.length) (h2:i<b.after.values.length),zO a.after.values[i] b.after.values[i]) :
  Pure Tryz.prog 17 [.agg a.c,.agg b.c] (.bool (decide (a=b))):=by
 refine Tz.pK ⟨λ_=>false,λ_=>[]⟩ Tryz.func17 rfl (λQ hQ=>?_)
 have Y:=wa @Stp26.c.eq_1 (wa @Rule.c.eq_1 (wa @Mat.c.eq_1 @Host.c.eq_1))
 refine Iq (h:=aB (tJ a.before b.before h1) wl ?_)
 refine Iq (h:=aH (λhg=>tJ a.after b.after h2) (λhg=>wl) ?_)
 refine Iq (h:=aH (λhg=>LZ a.rule b.rule) (λhg=>wl) ?_)
 refine Iq (h:=aH (λhg=>(by have hq:=C6 a.mat b.mat;unfold Mat.d Mat.c at hq;exact hq)) (λhg=>wl) ?_)
 refine Iq (h:=aH (λhg=>tL a.track b.track) (λhg=>wl) ?_)
 refine Iq (h:=aH (λhg=>tL a.comatch b.comatch) (λhg=>wl) ?_)
 exact Iq (h:=hQ _ _ (by rw [RU];simp [go_sem,Bool.and_comm,Bool.and_left_comm,lO]))
/-! ### the program -/
theorem mM (a b:Part):Pure Tryz.prog 72 [a.d,b.d] (.bool (decide (a=b))):=by
 refine Tz.pK ⟨λ_=>false,λ_=>[]⟩ Tryz.func72 rfl (λQ hQ=>?_)
 have Y:=trivial
 refine wo (h:=aB (lK a.nodes b.nodes) wl ?_)
 refine wo (h:=aH (λhg=>lK a.edges b.edges) (λhg=>wl) ?_)
 have Y:=wa Y @BY
 exact wo (h:=hQ _ _ wy)
theorem MY (a b:Graph):Pure Tryz.prog 257 [a.d,b.d] (.bool (decide (a=b))):=by
 refine Tz.pK ⟨λ_=>false,λ_=>[]⟩ Tryz.func257 rfl (λQ hQ=>?_)
 have Y:=trivial
 refine wo (h:=aB (lK a.nodes b.nodes) wl ?_)
 refine wo (h:=aH (λhg=>Be a.edges b.edges) (λhg=>wl) ?_)
 have Y:=wa Y @Cl
 exact wo (h:=hQ _ _ wy)
theorem tF (a b:Pattern):Pure Tryz.prog 160 [a.d,b.d] (.bool (decide (a=b))):=by
 refine Tz.pK ⟨λ_=>false,λ_=>[]⟩ Tryz.func160 rfl (λQ hQ=>?_)
 have Y:=trivial
 refine wo (h:=aB (MY a.graph b.graph) wl ?_)
 refine wo (h:=aH (λhg=>Bd a.slots b.slots) (λhg=>wl) ?_)
 refine wo (h:=aH (λhg=>GS a.tests b.tests) (λhg=>wl) ?_)
 have Y:=wa Y @OC
 exact wo (h:=hQ _ _ wy)
theorem GT (a b:List (List Int))(g:FuncId)(hg:∀ x y:List Int,Pure Tryz.prog g [dLI x,dLI y] (.bool (decide (x=y)))):Pure Tryz.prog 164 [.list (a.map cL),.list (b.map cL),.fn g []] (.bool (decide (a=b))):=by
 refine Tz.pK ⟨λ_=>false,λ_=>[]⟩ Tryz.func164 rfl (λQ hQ=>?_)
 have Y:=trivial
 refine wv (h:=?_)
 repeat first|intro _|refine ⟨eO,?_⟩
 refine wq (λh1=>?_) λh1=>?_
 .refine wv (h:=?_)
  have hne:a≠b:=by intro h;subst h;omega
  exact hQ _ _ (by simp [go_sem,hne])
 .refine wo (h:=bD (λi e H=>(e 0=.list (a.map cL)/\e 1=.list (b.map cL)/\e 2=.fn g []/\e 15=.list (a.map cL)/\e 16=dI a.length/\e 17=dI i)/\(i<=a.length)/\(a.take i=b.take i)) (λi=>a.length - i) 0 ⟨wg,wi,(by rfl)⟩ λI0 hI0 i e H hi0=>?_)
  obtain ⟨E0,hi,he⟩:=hi0
  have Y:=wa Y E0
  refine dP (λh4=>?_) λh4=>?_
  .have hib:i<b.length:=aD
   have Y:=wa Y (wa h4 (wa (aA h4) (wa (aA hib) @cL.eq_1)))
   refine wo (h:=aB (hg a[i] b[i]) wl ?_)
   refine wv (h:=?_)
   repeat first|intro _|refine ⟨eO,?_⟩
   refine wq (λh7=>?_) λh7=>?_
   .refine wv (h:=?_)
    have hne:a≠b:=by intro h;subst h;exact h7 rfl
    exact hQ _ _ (by simp [go_sem,hne])
   .exact wo (h:=wx hI0 (i+1) ⟨wg,wj,(by rw [aE h4,aE hib,he,h7])⟩)
  .have hab:a=b:=by rw [aG aD,aG aD] at he;exact he
   exact wv (h:=hQ _ _ (by simp [go_sem,hab]))
theorem GU (a b:List Cond)(g:FuncId)(hg:∀ x∈a,∀ y:Cond,Pure Tryz.prog g [.agg x.c,.agg y.c] (.bool (decide (x=y)))):Pure Tryz.prog 259 [.list (a.map Cond.c),.list (b.map Cond.c),.fn g []] (.bool (decide (a=b))):=by
 refine Tz.pK ⟨λt=>t==8||t==9,λ_=>[]⟩ Tryz.func259 rfl (λQ hQ=>?_)
 have Y:=@Cond.c_eq
 refine wv (h:=?_)
 repeat first|intro _|refine ⟨eO,?_⟩
 refine wq (λh1=>?_) λh1=>?_
 .refine wv (h:=?_)
  have hne:a≠b:=by intro h;subst h;omega
  exact hQ _ _ (by simp [go_sem,hne])
 .refine wo (h:=bD (λi e H=>(e 0=.list (a.map Cond.c)/\e 1=.list (b.map Cond.c)/\e 2=.fn g []/\e 15=.list (a.map Cond.c)/\e 16=dI a.length/\e 17=dI i)/\(i<=a.length)/\(a.take i=b.take i)) (λi=>a.length - i) 0 ⟨wg,wi,(by rfl)⟩ λI0 hI0 i e H hi0=>?_)
  obtain ⟨E0,hi,he⟩:=hi0
  have Y:=wa Y E0
  refine dP (λh4=>?_) λh4=>?_
  .have hib:i<b.length:=aD
   have Y:=wa Y (wa h4 (wa (aA h4) (aA hib)))
   refine wo (h:=aB ((by have hz:=hg _ (aC h4) b[i];rwa [Cond.c_eq,Cond.c_eq] at hz)) wl ?_)
   refine wv (h:=?_)
   repeat first|intro _|refine ⟨eO,?_⟩
   refine wq (λh7=>?_) λh7=>?_
   .refine wv (h:=?_)
    have hne:a≠b:=by intro h;subst h;exact h7 rfl
    exact hQ _ _ (by simp [go_sem,hne])
   .exact wo (h:=wx hI0 (i+1) ⟨wg,wj,(by rw [aE h4,aE hib,he,h7])⟩)
  .have hab:a=b:=by rw [aG aD,aG aD] at he;exact he
   exact wv (h:=hQ _ _ (by simp [go_sem,hab]))
theorem EJ:∀ a b:Cond,Pure Tryz.prog 162 [.agg a.c,.agg b.c] (.bool (decide (a=b))):=by
 refine i9 λa ih b=>?_
 simp only [Cond.c_eq]
 refine Tz.pK ⟨λt=>t==5||t==6,λr=>match r with|1=>[(0,4),(1,4),(2,4),(3,4),(0,5),(1,5),(2,5),(3,5),(4,5),(2,6),(3,6)]|_=>[]⟩ Tryz.func162 rfl (λQ hQ=>?_)
 have Y:=@Cond.c_eq
 refine wo (h:=aH (λhg=>mM a.map b.map) (λhg=>wl) ?_)
 refine wo (h:=aH (λhg=>lK a.pattern.graph.nodes b.pattern.graph.nodes) (λhg=>wl) ?_)
 refine wo (h:=aH (λhg=>Be a.pattern.graph.edges b.pattern.graph.edges) (λhg=>wl) ?_)
 refine fA (λh2=>?_) λh2=>?_
 .refine wv (h:=?_)
  have hne:a≠b:=by intro h;subst h;simp at h2
  exact hQ _ _ (by simp [go_sem,hne])
 .have hab:(((a.kind=b.kind/\a.map=b.map)/\a.pattern.vars=b.pattern.vars)/\a.pattern.graph.nodes=b.pattern.graph.nodes)/\a.pattern.graph.edges=b.pattern.graph.edges:=by (try simp at h2);refine ⟨⟨⟨⟨?_,?_⟩,?_⟩,?_⟩,?_⟩<;>first|(simp_all;done)|omega
  refine wo (h:=aB (Bd a.pattern.slots b.pattern.slots) wl ?_)
  refine wo (h:=aH (λhg=>GS a.pattern.tests b.pattern.tests) (λhg=>wl) ?_)
  refine wo (h:=aH (λhg=>GU a.kids b.kids 162 ih) (λhg=>wl) ?_)
  exact wo (h:=hQ _ _ (by rw [P8,OC,Cl];simp [go_sem,hab.1.1.1.1,hab.1.1.1.2,hab.1.1.2,hab.1.2,hab.2]))
theorem Og (a b:Rule):Pure Tryz.prog 69 [a.d,b.d] (.bool (decide (a=b))):=by
 have hc:=EJ a.cond b.cond
 rw [Cond.c_eq,Cond.c_eq] at hc
 refine Tz.pK ⟨λ_=>false,λ_=>[]⟩ Tryz.func69 rfl (λQ hQ=>?_)
 have Y:=trivial
 refine wo (h:=aH (λhg=>tF a.left b.left) (λhg=>wl) ?_)
 refine wo (h:=aH (λhg=>tF a.right b.right) (λhg=>wl) ?_)
 refine wo (h:=aH (λhg=>lK a.keep.nodes b.keep.nodes) (λhg=>wl) ?_)
 refine wo (h:=aH (λhg=>lK a.keep.edges b.keep.edges) (λhg=>wl) ?_)
 refine wo (h:=aH (λhg=>mM a.into b.into) (λhg=>wl) ?_)
 refine wo (h:=aH (λhg=>hc) (λhg=>wl) ?_)
 exact wo (h:=hQ _ _ (by rw [Py,BY a.keep b.keep];simp [go_sem,lO]))
theorem Eu (a b:Mat):Pure Tryz.prog 70 [a.d,b.d] (.bool (decide (a=b))):=by
 refine Tz.pK ⟨λ_=>false,λ_=>[]⟩ Tryz.func70 rfl (λQ hQ=>?_)
 have Y:=wa @Mat.d.eq_1 @Mat.c.eq_1
 refine wo (h:=aB (mM a.m b.m) wl ?_)
 refine wo (h:=aH (λhg=>lK a.vars b.vars) (λhg=>wl) ?_)
 have Y:=wa Y @Sf
 exact wo (h:=hQ _ _ wy)
theorem A8 (a b:Host):Pure Tryz.prog 71 [a.d,b.d] (.bool (decide (a=b))):=by
 refine Tz.pK ⟨λ_=>false,λ_=>[]⟩ Tryz.func71 rfl (λQ hQ=>?_)
 have Y:=wa @Host.d.eq_1 @Host.c.eq_1
 refine wo (h:=aB (lK a.graph.nodes b.graph.nodes) wl ?_)
 refine wo (h:=aH (λhg=>Be a.graph.edges b.graph.edges) (λhg=>wl) ?_)
 refine wo (h:=aH (λhg=>GT a.values b.values 161 lK) (λhg=>wl) ?_)
 have Y:=wa Y (wa @PX @Cl)
 exact wo (h:=hQ _ _ wy)
theorem N4 (a b:Stp26):Pure Tryz.prog 21 [.agg a.c,.agg b.c] (.bool (decide (a=b))):=by
 refine Tz.pK ⟨λ_=>false,λ_=>[]⟩ Tryz.func21 rfl (λQ hQ=>?_)
 have Y:=wa @Stp26.c.eq_1 (wa @Rule.c.eq_1 (wa @Mat.c.eq_1 @Host.c.eq_1))
 refine Iq (h:=aB (Og a.rule b.rule) wl ?_)
 refine Iq (h:=aH (λhg=>(by have hq:=Eu a.mat b.mat;unfold Mat.d Mat.c at hq;exact hq)) (λhg=>wl) ?_)
 refine Iq (h:=aH (λhg=>A8 a.before b.before) (λhg=>wl) ?_)
 refine Iq (h:=aH (λhg=>A8 a.after b.after) (λhg=>wl) ?_)
 refine Iq (h:=aH (λhg=>mM a.track b.track) (λhg=>wl) ?_)
 refine Iq (h:=aH (λhg=>mM a.comatch b.comatch) (λhg=>wl) ?_)
 exact Iq (h:=hQ _ _ (by rw [RU];simp [go_sem,lO]))
def fewM (m:Mat)(n:Int):Bool:=fewPart m.m n&&decide ((m.vars.length:Int)<=n)
theorem FU (m:Mat)(hm:m.m.le)(n:Int):Pure Tryz.prog 14 [m.d,dI n] (.bool (fewM m n)):=by
 refine Tz.pK ⟨λ_=>false,λ_=>[]⟩ Tryz.func14 rfl (λQ hQ=>?_)
 have Y:=wa @Mat.d.eq_1 @Mat.c.eq_1
 refine wo (h:=aB (u5 m.m hm n) wl ?_)
 have Y:=wa Y @fewM.eq_1
 exact wo (h:=hQ _ _ wy)
theorem DI (t:Types)(ht:t.ok)(s:Stp26)(hr:s.rule.ok){v:Stp26}{e:Int}(hv:v=fU t s.rule s.before s.mat)(he:e=nT t s.rule s.before s.mat) :
  Pure Tryz.prog 18 [t.d,.agg s.c] (.bool (decide (e=0)&&decide (v=s))):=by
 have cA:=BB t ht s.rule hr s.before s.mat hv he
 have cS:=N4 v s
 simp only [Stp26.c,Rule.c,Mat.c,Host.c,cX,cZ] at cA cS
 unfold Mat.d Mat.c Host.d Host.c dLI at cA
 refine Tz.pK ⟨λt=>t==5,λ_=>[]⟩ Tryz.func18 rfl (λQ hQ=>?_)
 have Y:=wa @Stp26.c.eq_1 (wa @Rule.c.eq_1 (wa @Mat.c.eq_1 @Host.c.eq_1))
 refine pM (h:=aB (cA) wl ?_)
 refine jM (h:=aH (λhg=>cS) (λhg=>wl) ?_)
 exact jM (h:=hQ _ _ wy)
theorem Kg (t:Types)(ht:t.ok)(s:Stp26)(hr:s.rule.ok){v:Stp26}{e:Int}(hv:v=fU t s.rule s.before s.mat)(he:e=nT t s.rule s.before s.mat)
  (h1:∀ i (h1:i<v.before.values.length) (h2:i<s.before.values.length),zO v.before.values[i] s.before.values[i]) (h2:∀ i (h1:i<v.after.values.length) (h2:i<s.after.values.length),zO v.after.values[i] s.after.values[i]) :
  Pure Tryz.prog 20 [t.d,.agg s.c] (.bool (decide (e=0)&&decide (v=s))):=by
 have cA:=Qi t ht s.rule hr s.before s.mat hv he
 have cS:=DR v s h1 h2
 simp only [Stp26.c,Rule.c,Mat.c,Host.c,cX,cZ] at cA cS
 unfold Mat.d Mat.c dLI at cA
 refine Tz.pK ⟨λt=>t==5,λ_=>[]⟩ Tryz.func20 rfl (λQ hQ=>?_)
 have Y:=wa @Stp26.c.eq_1 (wa @Rule.c.eq_1 (wa @Mat.c.eq_1 @Host.c.eq_1))
 refine pM (h:=aB (cA) wl ?_)
 refine jM (h:=aH (λhg=>cS) (λhg=>wl) ?_)
 exact jM (h:=hQ _ _ wy)
structure Stp26.le (s:Stp26):Prop where
 r:s.rule.le
 m:s.mat.m.le
 t:s.track.le
 c:s.comatch.le
def yY (t:Types)(s:Stp26):Bool:=light26 t s.rule s.before&&Co s.after&&fewM s.mat 140&&fewPart s.track 140&&fewPart s.comatch 140
theorem Ey (t:Types)(h1:∀ n∈t.nodes,n.attrs.length<=1000000000000000)(s:Stp26)(hs:s.le):Pure Tryz.prog 19 [t.d,.agg s.c] (.bool (yY t s)):=by
 have cL:=Kf t h1 s.rule hs.r s.before
 have cH:=C7 s.after
 have cM:=FU s.mat hs.m 140
 unfold Host.d Host.c at cL cH
 unfold Mat.d Mat.c at cM
 refine Tz.pK ⟨λ_=>false,λ_=>[]⟩ Tryz.func19 rfl (λQ hQ=>?_)
 have Y:=wa @Stp26.c.eq_1 (wa @Rule.c.eq_1 (wa @Mat.c.eq_1 @Host.c.eq_1))
 refine Iq (h:=aB (cL) wl ?_)
 refine Iq (h:=aH (λhg=>cH) (λhg=>wl) ?_)
 refine Iq (h:=aH (λhg=>cM) (λhg=>wl) ?_)
 refine Iq (h:=aH (λhg=>u5 s.track hs.t 140) (λhg=>wl) ?_)
 refine Iq (h:=aH (λhg=>u5 s.comatch hs.c 140) (λhg=>wl) ?_)
 exact Iq (h:=hQ _ _ (by simp [go_sem,yY,lO]))
section
variable {H:Type} {enc:TypeId × Value→H} {w:World} {base:Nat} {spare:Nat→Bool} {held:Bool} {bulk:DataW H→Nat} {B:Nat}
theorem aaU (hB:Bulk bulk):∀ n,Opens enc Tryz.prog w base spare held bulk B n 46 Mat.c (λm=>m.m.nodes.length<=B/\m.m.edges.length<=B)
 | 0=>Opens.zero
 | n+1=>(eG hB Tryz.underlying46 (by kernel_rfl) (aY (R7 hB n) (aY (Q1 hB n) (fO)))).map (λp=>⟨p.1,p.2.1⟩) (λp=>by simp [Mat.c,Part.c,dLI]) (λp h=>h.1)
theorem Vh {z:Int}(h:(Lit.int .i64 z).wf=true):JI z:=by
 have h1:IntKind.i64.min = -9223372036854775808:=by decide
 have h2:IntKind.i64.max=9223372036854775807:=by decide
 simp only [Lit.wf,aQ,decide_eq_true_eq,h1,h2] at h
 exact h
theorem aaW:∀ n,Opens enc Tryz.prog w base spare held bulk B n 3 cI JI:=λn=>(IO Tryz.underlying3).map id (λ_=>rfl) (λz h=>Vh h)
theorem Xu (hB:Bulk bulk):∀ n,Opens enc Tryz.prog w base spare held bulk B n 26 (λl:List Int=>[D.list (l.map cI)]) (λl=>l.length<=B/\∀ x∈l,JI x)
 | 0=>Opens.zero
 | n+1=>(gX hB Tryz.underlying26 (aaW n)).map id (λ_=>rfl) (λl h=>h)
theorem Xr (hB:Bulk bulk):∀ n,Opens enc Tryz.prog w base spare held bulk B n 42 (λl:List (List Int)=>[D.list (l.map cL)]) (λl=>∀ v∈l,v.length<=B/\∀ x∈v,JI x)
 | 0=>Opens.zero
 | n+1=>(gX hB Tryz.underlying42 (Xu hB n)).map id (λ_=>rfl) (λl h=>h.2)
theorem Ul (hB:Bulk bulk):∀ n,Opens enc Tryz.prog w base spare held bulk B n 44 Host.c (λh=>∀ v∈h.values,v.length<=B/\∀ x∈v,JI x)
 | 0=>Opens.zero
 | n+1=>(eG hB Tryz.underlying44 (by kernel_rfl) (aY (Xt hB n) (aY (Xr hB n) (fO)))).map (λp=>⟨p.1,p.2.1⟩) (λp=>by simp [Host.c,Graph.c]) (λp h=>h.2.1)
structure Stp26.bnd (B:Nat) (s:Stp26):Prop where
 r:s.rule.bnd B
 m:s.mat.m.nodes.length<=B/\s.mat.m.edges.length<=B
 b:∀ v∈s.before.values,v.length<=B/\∀ x∈v,JI x
 a:∀ v∈s.after.values,v.length<=B/\∀ x∈v,JI x
 t:s.track.nodes.length<=B/\s.track.edges.length<=B
 c:s.comatch.nodes.length<=B/\s.comatch.edges.length<=B
theorem aaT (hB:Bulk bulk):∀ n,Opens enc Tryz.prog w base spare held bulk B n 53 Stp26.c (λs=>s.bnd B)
 | 0=>Opens.zero
 | n+1=>(eG hB Tryz.underlying53 (by kernel_rfl) (aY (aaV hB n) (aY (aaU hB n) (aY (Ul hB n) (aY (Ul hB n) (aY (R7 hB n) (aY (R7 hB n) (fO)))))))).map (λp=>⟨p.1,p.2.1,p.2.2.1,p.2.2.2.1,p.2.2.2.2.1,p.2.2.2.2.2.1⟩) (λp=>by simp [Stp26.c,Part.c]) (λp h=>⟨h.1,h.2.1,h.2.2.1,h.2.2.2.1,h.2.2.2.2.1,h.2.2.2.2.2.1⟩)
end
theorem Stp26.bnd_le {B:Nat}(hB:B<=1000000000000000){s:Stp26}(h:s.bnd B):s.le:=⟨Rule.bnd_le hB h.r,⟨by have:=h.m.1;omega,by have:=h.m.2;omega⟩,⟨by have:=h.t.1;omega,by have:=h.t.2;omega⟩,⟨by have:=h.c.1;omega,by have:=h.c.2;omega⟩⟩
theorem Qg {l:List Int}(hd:l.Nodup){v:Int}(h0:0<=gA l l.length v):∃ p:Nat,∃ hp:p<l.length,l[p]=v/\gA l l.length v=p:=by
 by_cases hv:v∈l
 .obtain ⟨p,hp,rfl⟩:=aO hv
  exact ⟨p,hp,rfl,pG hd hp⟩
 .rw [p9 hv _ (bC _)] at h0;omega
section
variable {t:Types} {r:Rule} {h:Host} {m:Mat}
theorem StepOk.track_node (K:StepOk t r h m){i:Nat}(hi:i<h.graph.nodes.length)(h0:0<=iA (cO r h m).nodes i) :
  ∃ p:Nat,∃ hp:p<(bV r h m).nodes.length,(bV r h m).nodes[p]=(i:Int)/\iA (cO r h m).nodes i=p:=by
 have e:iA (cO r h m).nodes i=gA (bV r h m).nodes (bV r h m).nodes.length i:=by
  unfold iA cO nF
  simp only
  rw [show ((i:Int)).toNat=i by omega,oH _ hi,Option.getD_some]
 rw [e] at h0 ⊢
 obtain ⟨p,hp,h1,h2⟩:=Qg (qC K.S.nasc) h0
 exact ⟨p,hp,h1,h2⟩
theorem StepOk.track_edge (K:StepOk t r h m){i:Nat}(hi:i<h.graph.edges.length)(h0:0<=iA (cO r h m).edges i) :
  ∃ p:Nat,∃ hp:p<(bV r h m).edges.length,(bV r h m).edges[p]=(i:Int)/\iA (cO r h m).edges i=p:=by
 have e:iA (cO r h m).edges i=gA (bV r h m).edges (bV r h m).edges.length i:=by
  unfold iA cO nF
  simp only
  rw [show ((i:Int)).toNat=i by omega,oH _ hi,Option.getD_some]
 rw [e] at h0 ⊢
 obtain ⟨p,hp,h1,h2⟩:=Qg (qC K.S.easc) h0
 exact ⟨p,hp,h1,h2⟩
theorem StepOk.put_in (K:StepOk t r h m):∀ s∈r.right.slots,0<=lB (eY r h m) s/\fI (eY r h m) s<(bZ t r h m).values.length/\0<=s.attr/\s.attr<((bZ t r h m).values[fI (eY r h m) s]?.getD []).length:=λs hs=>by
 have P:=K.S.put
 have a:=(K.S.hR.slots s hs).2.1
 exact ⟨(P.spot s hs).1,(P.spot s hs).2.1,a.1,(P.attr s hs).1⟩
theorem StepOk.value (K:StepOk t r h m){n a:Nat}(hn:n<(bZ t r h m).values.length)(ha:a<((bZ t r h m).values[n]?.getD []).length) :
  ((cT t r h m).values[n]?.getD [])[a]?=some ((FA (eY r h m) m.vars r.right.slots n a).getD (((bZ t r h m).values[n]?.getD [])[a]?.getD 0)) :=
 Gd _ _ r.right.slots rfl K.put_in n a hn ha
theorem StepOk.rows (K:StepOk t r h m):(cT t r h m).values.length=(bZ t r h m).values.length/\∀ n:Nat,((cT t r h m).values[n]?.getD []).length=((bZ t r h m).values[n]?.getD []).length :=
 ⟨(oZ _ _ _ _).1,λn=>(oZ (eY r h m) m.vars r.right.slots (bZ t r h m).values).2 n⟩
theorem StepOk.eqK (K:StepOk t r h m):VV (eY r h m) m.vars r.right.slots:=by
 refine OZ ?_
 have:=K.put
 unfold s7 at this
 split at this
 .cases this
 .rename_i hc;simpa using hc
structure RemN (t:Types) (r:Rule) (h:Host) (m:Mat) (i:Nat) (k:Int):Prop where
 n1:k.toNat<(cT t r h m).graph.nodes.length
 n2:(cT t r h m).graph.nodes[k.toNat]?.getD 0=h.graph.nodes[i]?.getD 0
 v1:k.toNat<(cT t r h m).values.length
 v2:((cT t r h m).values[k.toNat]?.getD []).length=(h.values[i]?.getD []).length
 v3:∀ a:Nat,a<(h.values[i]?.getD []).length->(∀ s∈r.right.slots,¬ (lB (eY r h m) s=k/\s.attr=a))->((cT t r h m).values[k.toNat]?.getD [])[a]?.getD 0=(h.values[i]?.getD [])[a]?.getD 0
theorem StepOk.remN (K:StepOk t r h m){i:Nat}(hi:i<h.graph.nodes.length)(h0:0<=iA (cO r h m).nodes i):RemN t r h m i (iA (cO r h m).nodes i):=by
 obtain ⟨p,hp,h1,h2⟩:=K.track_node hi h0
 have hb:=K.S.bareN
 have hl:(bZ t r h m).graph.nodes.length=(bV r h m).nodes.length+r.freshN.length:=by rw [hb,aL,aV,aV]
 have hvl:=K.S.vlen
 have eg:(cT t r h m).graph=(bZ t r h m).graph:=rfl
 obtain ⟨r1,r2⟩:=K.rows
 have en:(bZ t r h m).graph.nodes[p]?.getD 0=h.graph.nodes[i]?.getD 0:=by
  rw [hb,aS (bX hp),aN,aA hp,dQ,Option.getD_some,h1]
  unfold gN
  rw [show ((i:Int)).toNat=i by omega]
 have ev:(bZ t r h m).values[p]?.getD []=h.values[i]?.getD []:=by
  rw [NF,aS (bX hp),aN,aA hp,dQ,Option.getD_some,h1]
  rw [show ((i:Int)).toNat=i by omega]
 rw [h2]
 have ep:((p:Nat):Int).toNat=p:=aD
 refine ⟨by rw [ep,eg];omega,by rw [ep,eg];exact en,by rw [ep];omega,by rw [ep,r2,ev],λa ha hn=>?_⟩
 rw [ep,K.value aD (by rw [ev];exact ha),Option.getD_some]
 have hF:FA (eY r h m) m.vars r.right.slots p a=none:=by
  cases hq:FA (eY r h m) m.vars r.right.slots p a with
  | none=>rfl
  | some x =>
   obtain ⟨s,hs,e1,e2,_⟩:=Ai hq
   exact absurd ⟨e1,e2⟩ (hn s hs)
 rw [hF,ev];rfl
theorem StepOk.remE (K:StepOk t r h m){i:Nat}(hi:i<h.graph.edges.length)(h0:0<=iA (cO r h m).edges i) :
  (iA (cO r h m).edges i).toNat<(cT t r h m).graph.edges.length/\eA (cT t r h m).graph (iA (cO r h m).edges i)=⟨(eA h.graph i).type,iA (cO r h m).nodes (eA h.graph i).from_,iA (cO r h m).nodes (eA h.graph i).to_⟩:=by
 obtain ⟨p,hp,h1,h2⟩:=K.track_edge hi h0
 have S:=K.S
 have hb:=S.bareE
 have hl:(bZ t r h m).graph.edges.length=(bV r h m).edges.length+r.freshE.length:=by rw [hb,aL,aV,aV]
 have eg:(cT t r h m).graph=(bZ t r h m).graph:=rfl
 rw [h2,eg]
 refine ⟨aD,?_⟩
 have e:eA (bZ t r h m).graph (p:Int)=gEd h.graph (bV r h m) (i:Int):=by
  unfold eA
  rw [show ((p:Nat):Int).toNat=p by omega,hb,aS (bX hp),aN,aA hp,dQ,Option.getD_some,h1]
 rw [e,Sz]
 have hm:(i:Int)∈(bV r h m).edges:=h1 ▸ aC hp
 obtain ⟨s1,s2⟩:=x9 S.sub hm
 have key:∀ v:Int,v∈(bV r h m).nodes->iA (cO r h m).nodes v=(uG (bV r h m).nodes v:Int):=λv hv=>by
  have hr:=S.nin v hv
  unfold iA cO nF
  simp only
  rw [oH _ aD,Option.getD_some,show ((v.toNat:Nat):Int)=v by omega,Du S.nasc,if_pos ((mem_iff _ _).2 hv)]
 rw [key _ s1,key _ s2]
end
structure Srt (keep into mm:List Int) (nL nR nH:Nat):Prop where
 kl:keep.length=into.length
 kr:∀ x∈keep,0<=x/\x<nL
 ir:∀ x∈into,0<=x/\x<nR
 inn:into.Nodup
 ml:mm.length=nL
 mr:∀ x∈mm,0<=x/\x<nH
 du:rP mm keep=[]
def l7 (keep mm:List Int)(nH:Nat):List Int:=bJ (jX mm keep) nH
def nG (keep mm:List Int)(nH:Nat):List Int:=nF (l7 keep mm nH) nH
def xN (keep into mm:List Int)(nR nH:Nat):List Int:=CQ keep into (oQ mm (nG keep mm nH)) nR (l7 keep mm nH).length
theorem lA {l:List Int}{i:Nat}(h:i<l.length):iA l i=l[i]:=by simp [iA,h]
theorem Su {l:List Int}{k:Int}(h:k.toNat<l.length):iA l k=l[k.toNat]:=by unfold iA;rw [aA h];rfl
theorem AL {l:List Int}{v:Int}(h:v∈l):∃ i:Nat,i<l.length/\iA l i=v:=by
 obtain ⟨i,hi,rfl⟩:=aO h
 exact ⟨i,hi,lA hi⟩
theorem OR {l:List Int}(hn:l.Nodup){i j:Nat}(hi:i<l.length)(hj:j<l.length)(h:iA l i=iA l j):i=j:=by
 rw [lA hi,lA hj] at h;exact (mF hn).1 h
section
variable {keep into mm:List Int} {nL nR nH:Nat}
theorem Srt.d_iff (S:Srt keep into mm nL nR nH){x:Int}:x∈l7 keep mm nH↔(0<=x/\x<nH)/\∀ k:Int,0<=k->k<nL->k∉keep->iA mm k≠x:=by
 have hl:=S.ml
 unfold l7
 rw [gW]
 refine and_congr_right λ_=>⟨λh k h0 h1 hk he=>h (vI.2 ⟨k.toNat,aD,?_,?_⟩),λh hg=>?_⟩
 .rw [show ((k.toNat:Nat):Int)=k by omega,bH];exact λhm=>hk ((mem_iff _ _).1 hm)
 .rw [<- he,aA (aD:k.toNat<mm.length)]
  unfold iA;rw [aA (aD:k.toNat<mm.length)];rfl
 .obtain ⟨i,hi,hm,he⟩:=vI.1 hg
  refine h i aD aD (λhk=>?_) (by unfold iA;rw [show ((i:Int)).toNat=i by omega,he];rfl)
  rw [(mem_iff _ _).2 hk] at hm;cases hm
theorem Srt.asc (S:Srt keep into mm nL nR nH):(l7 keep mm nH).Nodup:=qC (oC _ _)
theorem Srt.t_get (S:Srt keep into mm nL nR nH){x:Int}(h:0<=x/\x<nH):iA (nG keep mm nH) x=gA (l7 keep mm nH) (l7 keep mm nH).length x:=by
 unfold iA nG nF
 rw [oH _ aD,Option.getD_some,show ((x.toNat:Nat):Int)=x by omega]
theorem Srt.t_in (S:Srt keep into mm nL nR nH){x:Int}(hx:x∈l7 keep mm nH):∃ p:Nat,iA (nG keep mm nH) x=p/\p<(l7 keep mm nH).length/\iA (l7 keep mm nH) p=x:=by
 obtain ⟨p,hp,rfl⟩:=aO hx
 exact ⟨p,by rw [S.t_get (S.d_iff.1 hx).1,pG S.asc hp],hp,lA hp⟩
theorem Srt.t_at (S:Srt keep into mm nL nR nH){p:Nat}(hp:p<(l7 keep mm nH).length):iA (l7 keep mm nH) p∈l7 keep mm nH/\iA (nG keep mm nH) (iA (l7 keep mm nH) p)=p:=by
 have hm:iA (l7 keep mm nH) p∈l7 keep mm nH:=mN aD aD
 exact ⟨hm,by rw [S.t_get (S.d_iff.1 hm).1,lA hp,pG S.asc hp]⟩
theorem Srt.t_out (S:Srt keep into mm nL nR nH){x:Int}(h:0<=x/\x<nH)(hx:x∉l7 keep mm nH):iA (nG keep mm nH) x = -1:=by rw [S.t_get h,p9 hx _ (bC _)]
theorem Srt.t_inj (S:Srt keep into mm nL nR nH){x y:Int}(hx:x∈l7 keep mm nH)(hy:y∈l7 keep mm nH)(h:iA (nG keep mm nH) x=iA (nG keep mm nH) y):x=y:=by
 obtain ⟨p,h1,_,rfl⟩:=S.t_in hx
 obtain ⟨q,h2,_,rfl⟩:=S.t_in hy
 rw [(aD:p=q)]
theorem Srt.c_get (S:Srt keep into mm nL nR nH){j:Int}(h:0<=j/\j<nR):iA (xN keep into mm nR nH) j=G2 keep into (oQ mm (nG keep mm nH)) (l7 keep mm nH).length j.toNat:=by
 unfold iA xN CQ;simp [(aD:j.toNat<nR)]
theorem Srt.kept_in (S:Srt keep into mm nL nR nH){k:Int}(hk:k∈keep):iA mm k∈l7 keep mm nH:=by
 have hr:=S.kr k hk
 have hl:=S.ml
 exact gW.2 ⟨S.mr _ (mN hr.1 aD),vH S.du hr.1 aD hk⟩
theorem Srt.c_kept (S:Srt keep into mm nL nR nH){q:Nat}(hq:q<keep.length):iA (xN keep into mm nR nH) (iA into q)=iA (nG keep mm nH) (iA mm (iA keep q)):=by
 have hkl:=S.kl
 have hl:=S.ml
 have hj:iA into q∈into:=mN aD aD
 have hk:=S.kr _ (mN (l:=keep) (n:=(q:Int)) aD aD)
 rw [S.c_get (S.ir _ hj)]
 have hb:gA into into.length ((iA into q).toNat:Nat)=q:=by
  have:=S.ir _ hj
  rw [show (((iA into q).toNat:Nat):Int)=iA into q by omega,lA aD,pG S.inn aD]
 unfold G2
 rw [hb,if_pos aD,(aD:(q:Int).toNat=q)]
 unfold oQ
 have h1:(iA keep q).toNat<mm.length:=aD
 have h2:keep[q]?.getD 0=iA keep q:=by unfold iA;rw [(aD:(q:Int).toNat=q)]
 rw [h2,aN,aA h1,dQ,Option.getD_some]
 have h3:iA mm (iA keep q)=mm[(iA keep q).toNat]:=Su h1
 rw [h3];rfl
theorem Srt.c_fresh (S:Srt keep into mm nL nR nH){j:Int}(h:0<=j/\j<nR)(hj:j∉into):∃ f:Nat,f<(bJ into nR).length/\iA (bJ into nR) f=j/\iA (xN keep into mm nR nH) j=((l7 keep mm nH).length+f:Nat):=by
 have ho:=Da (l:=into) nR j.toNat aD (by rw [show ((j.toNat:Nat):Int)=j by omega,bH];exact λhm=>hj ((mem_iff _ _).1 hm))
 have hlt:=(aM.1 ho).1
 refine ⟨_,hlt,by unfold iA;rw [show ((((bJ into j.toNat).length:Nat):Int)).toNat=(bJ into j.toNat).length by omega,ho,Option.getD_some];omega,?_⟩
 rw [S.c_get h]
 unfold G2
 rw [show ((j.toNat:Nat):Int)=j by omega,p9 hj _ (bC _),if_neg aD,Kw S.inn]
theorem Srt.c_at (S:Srt keep into mm nL nR nH){f:Nat}(hf:f<(bJ into nR).length):∃ j:Int,(0<=j/\j<nR)/\j∉into/\iA (xN keep into mm nR nH) j=((l7 keep mm nH).length+f:Nat):=by
 have hm:iA (bJ into nR) f∈bJ into nR:=mN aD aD
 obtain ⟨h1,h2⟩:=gW.1 hm
 obtain ⟨g,g1,g2,g3⟩:=S.c_fresh h1 h2
 have:=OR (qC (oC _ _)) g1 hf g2
 subst this
 exact ⟨_,h1,h2,g3⟩
theorem Srt.c_in (S:Srt keep into mm nL nR nH){j:Int}(h:0<=j/\j<nR):0<=iA (xN keep into mm nR nH) j/\iA (xN keep into mm nR nH) j<((l7 keep mm nH).length+(bJ into nR).length:Nat):=by
 by_cases hj:j∈into
 .obtain ⟨q,hq,rfl⟩:=AL hj
  have hkl:=S.kl
  rw [S.c_kept aD]
  obtain ⟨p,h1,h2,_⟩:=S.t_in (S.kept_in (mN (l:=keep) (n:=(q:Int)) aD aD))
  omega
 .obtain ⟨f,h1,_,h3⟩:=S.c_fresh h hj
  omega
end
/-! ### undoing -/
def dW (part into keep:List Int):List Int:=part.map λx=>iA keep (idx into x)
structure Und (keep into mm m0 b mm':List Int) (nL nR nH N:Nat):Prop where
 S:Srt keep into mm nL nR nH
 n:N=(l7 keep mm nH).length+(bJ into nR).length
 to:∀ x:Int,0<=x->x<N->(0<=iA m0 x/\iA m0 x<N)/\iA b (iA m0 x)=x
 of:∀ y:Int,0<=y->y<N->(0<=iA b y/\iA b y<N)/\iA m0 (iA b y)=y
 m:∀ y:Int,0<=y->y<nR->iA mm' y=iA b (iA (xN keep into mm nR nH) y)
 S':Srt (fW into nR) (dW (fW into nR) into keep) mm' nR nL N
section
variable {keep into mm m0 b mm':List Int} {nL nR nH N:Nat}
def CL (keep into mm m0 mm':List Int)(nL nR nH N:Nat)(p v:Int):Prop :=
 (∃ x∈l7 (fW into nR) mm' N,iA (nG (fW into nR) mm' N) x=p/\v∈l7 keep mm nH/\iA (nG keep mm nH) v=iA m0 x) \/
 (∃ j:Int,(0<=j/\j<nL)/\iA (xN (fW into nR) (dW (fW into nR) into keep) mm' nL N) j=p/\iA mm j=v)
theorem OQ {l:List Int}(hn:l.Nodup){q:Nat}(hq:q<l.length):idx l (iA l q)=q:=by
 obtain ⟨h1,h2,h3⟩:=Dh ((mem_iff l _).2 (mN (l:=l) (n:=(q:Int)) aD aD))
 have e:iA l (((idx l (iA l q)).toNat:Nat):Int)=iA l q:=by
  rw [lA h2];rw [aA h2] at h3;exact Option.some.inj h3
 have:(idx l (iA l q)).toNat=q:=OR hn h2 hq e
 omega
theorem Und.kept (U:Und keep into mm m0 b mm' nL nR nH N){j:Int}(hj:j∈keep):∃ y:Int,(0<=y/\y<nR)/\y∈into/\j∈dW (fW into nR) into keep /\
  iA (xN (fW into nR) (dW (fW into nR) into keep) mm' nL N) j=iA (nG (fW into nR) mm' N) (iA mm' y)/\iA mm' y∈l7 (fW into nR) mm' N/\iA m0 (iA mm' y)=iA (nG keep mm nH) (iA mm j):=by
 have S:=U.S
 have hkl:=S.kl
 obtain ⟨q,hq,rfl⟩:=AL hj
 have hy:iA into q∈into:=mN aD aD
 have hyr:=S.ir _ hy
 have hyk:iA into q∈fW into nR:=tU.2 ⟨hyr,hy⟩
 obtain ⟨s,hs,hse⟩:=AL hyk
 have hll:(dW (fW into nR) into keep).length=(fW into nR).length:=by simp [dW]
 have hse':iA (dW (fW into nR) into keep) s=iA keep q:=by
  rw [lA aD]
  unfold dW
  rw [oR,<- lA hs,hse,OQ S.inn aD]
 have hc:=U.S'.c_kept hs
 rw [hse,hse'] at hc
 have hcr:=S.c_in hyr
 rw [<- U.n] at hcr
 refine ⟨_,hyr,hy,?_,hc,U.S'.kept_in hyk,?_⟩
 .rw [<- hse'];exact mN aD aD
 .rw [U.m _ hyr.1 hyr.2,(U.of _ hcr.1 hcr.2).2,S.c_kept hq]
theorem Und.turned (U:Und keep into mm m0 b mm' nL nR nH N){j:Int}(hj:j∈dW (fW into nR) into keep):j∈keep:=by
 unfold dW at hj
 obtain ⟨x,hx,rfl⟩:=bB.1 hj
 obtain ⟨h1,h2,_⟩:=Dh ((mem_iff _ _).2 (tU.1 hx).2)
 have:=U.S.kl
 exact mN h1 aD
theorem Und.left (U:Und keep into mm m0 b mm' nL nR nH N){x:Int}(hx:x∈l7 (fW into nR) mm' N):∃ v∈l7 keep mm nH,iA (nG keep mm nH) v=iA m0 x:=by
 obtain ⟨h1,h2⟩:=U.S'.d_iff.1 hx
 obtain ⟨h3,h4⟩:=U.to x h1.1 h1.2
 have hn:=U.n
 by_cases hlt:iA m0 x<(l7 keep mm nH).length
 .obtain ⟨a,b⟩:=U.S.t_at (p:=(iA m0 x).toNat) aD
  exact ⟨_,a,aD⟩
 .obtain ⟨j,hj,hji,hc⟩:=U.S.c_at (f:=(iA m0 x).toNat - (l7 keep mm nH).length) aD
  have he:iA (xN keep into mm nR nH) j=iA m0 x:=aD
  have:=h2 j hj.1 hj.2 (λhk=>hji (tU.1 hk).2)
  rw [U.m j hj.1 hj.2,he,h4] at this
  exact absurd rfl this
theorem Und.right (U:Und keep into mm m0 b mm' nL nR nH N){v:Int}(hv:v∈l7 keep mm nH):∃ x∈l7 (fW into nR) mm' N,iA (nG keep mm nH) v=iA m0 x:=by
 obtain ⟨p,h1,h2,_⟩:=U.S.t_in hv
 have hn:=U.n
 obtain ⟨h3,h4⟩:=U.of (iA (nG keep mm nH) v) aD aD
 refine ⟨_,U.S'.d_iff.2 ⟨h3,λk k0 k1 hk he=>?_⟩,h4.symm⟩
 obtain ⟨f,f1,f2,f3⟩:=U.S.c_fresh ⟨k0,k1⟩ (λhi=>hk (tU.2 ⟨⟨k0,k1⟩,hi⟩))
 rw [U.m k k0 k1] at he
 have hc:=U.S.c_in (j:=k) ⟨k0,k1⟩
 have:=(U.of (iA (xN keep into mm nR nH) k) aD aD).2
 rw [he,h4] at this
 omega
theorem Und.fresh (U:Und keep into mm m0 b mm' nL nR nH N){j:Int}(h:0<=j/\j<nL)(hj:j∉keep):∃ f:Nat,f<(bJ (dW (fW into nR) into keep) nL).length/\iA (bJ (dW (fW into nR) into keep) nL) f=j /\
 iA (xN (fW into nR) (dW (fW into nR) into keep) mm' nL N) j=((l7 (fW into nR) mm' N).length+f:Nat):=U.S'.c_fresh h λhi=>hj (U.turned hi)
theorem Und.uni (U:Und keep into mm m0 b mm' nL nR nH N){p v w:Int}(h1:CL keep into mm m0 mm' nL nR nH N p v)(h2:CL keep into mm m0 mm' nL nR nH N p w):v=w:=by
 have key:∀ {x:Int} {j u:Int},x∈l7 (fW into nR) mm' N->0<=j/\j<nL->iA (xN (fW into nR) (dW (fW into nR) into keep) mm' nL N) j=iA (nG (fW into nR) mm' N) x->u∈l7 keep mm nH->iA (nG keep mm nH) u=iA m0 x->iA mm j=u:=by
  intro x j u hx hj he hu hT
  by_cases hk:j∈keep
  .obtain ⟨y,hyr,hyi,_,hc,hd,hm⟩:=U.kept hk
   have hxy:iA mm' y=x:=U.S'.t_inj hd hx (by rw [<- hc,he])
   exact U.S.t_inj (U.S.kept_in hk) hu (by rw [<- hm,hxy,hT])
  .obtain ⟨f,_,_,hf⟩:=U.fresh hj hk
   obtain ⟨q,hq,hq2,_⟩:=U.S'.t_in hx
   omega
 rcases h1 with ⟨x,hx,rfl,hv,hT⟩|⟨j,hj,rfl,rfl⟩
 .rcases h2 with ⟨y,hy,he,hw,hS⟩|⟨j,hj,he,rfl⟩
  .have:=U.S'.t_inj hy hx he
   subst this
   exact U.S.t_inj hv hw (by rw [hT,hS])
  .exact (key hx hj he hv hT).symm
 .rcases h2 with ⟨y,hy,he,hw,hS⟩|⟨i,hi,he,rfl⟩
  .exact key hy hj he.symm hw hS
  .by_cases hk:j∈keep
   .obtain ⟨y,hyr,hyi,_,hc,hd,hm⟩:=U.kept hk
    exact (key hd hi (by rw [he,hc]) (U.S.kept_in hk) hm.symm).symm
   .by_cases hl:i∈keep
    .obtain ⟨y,hyr,hyi,_,hc,hd,hm⟩:=U.kept hl
     exact key hd hj (by rw [<- he,hc]) (U.S.kept_in hl) hm.symm
    .obtain ⟨f,_,hf1,hf⟩:=U.fresh hj hk
     obtain ⟨g,_,hg1,hg⟩:=U.fresh hi hl
     rw [<- hf1,<- hg1,(aD:f=g)]
theorem Und.inj (U:Und keep into mm m0 b mm' nL nR nH N){p q v:Int}(h1:CL keep into mm m0 mm' nL nR nH N p v)(h2:CL keep into mm m0 mm' nL nR nH N q v):p=q:=by
 have key:∀ {j:Int},0<=j/\j<nL->iA mm j∈l7 keep mm nH->∃ x∈l7 (fW into nR) mm' N,iA (nG (fW into nR) mm' N) x=iA (xN (fW into nR) (dW (fW into nR) into keep) mm' nL N) j/\iA (nG keep mm nH) (iA mm j)=iA m0 x:=by
  intro j hj hd
  by_cases hk:j∈keep
  .obtain ⟨y,hyr,hyi,_,hc,hd',hm⟩:=U.kept hk
   exact ⟨_,hd',hc.symm,hm.symm⟩
  .exact absurd rfl ((U.S.d_iff.1 hd).2 j hj.1 hj.2 hk)
 have one:∀ {x y v:Int},x∈l7 (fW into nR) mm' N->y∈l7 (fW into nR) mm' N->iA (nG keep mm nH) v=iA m0 x->iA (nG keep mm nH) v=iA m0 y->x=y:=by
  intro x y v hx hy h1 h2
  have a:=(U.S'.d_iff.1 hx).1
  have b:=(U.S'.d_iff.1 hy).1
  rw [<- (U.to x a.1 a.2).2,<- (U.to y b.1 b.2).2,<- h1,<- h2]
 rcases h1 with ⟨x,hx,rfl,hv,hT⟩|⟨j,hj,rfl,rfl⟩
 .rcases h2 with ⟨y,hy,rfl,_,hS⟩|⟨i,hi,rfl,rfl⟩
  .rw [one hx hy hT hS]
  .obtain ⟨z,hz,h3,h4⟩:=key hi hv
   rw [<- h3,one hx hz hT h4]
 .rcases h2 with ⟨y,hy,rfl,hv,hS⟩|⟨i,hi,rfl,he⟩
  .obtain ⟨z,hz,h3,h4⟩:=key hj hv
   rw [<- h3,one hz hy h4 hS]
  .by_cases hd:iA mm j∈l7 keep mm nH
   .obtain ⟨x,hx,h3,h4⟩:=key hj hd
    obtain ⟨y,hy,h5,h6⟩:=key hi (by rw [he];exact hd)
    rw [<- h3,<- h5,one hx hy h4 (by rw [<- he];exact h6)]
   .by_cases hij:i=j
    .rw [hij]
    .exfalso
     have hl:=U.S.ml
     have hdk:=Nb U.S.du (i:=i.toNat) (k:=j.toNat) aD aD aD he
     rw [show ((j.toNat:Nat):Int)=j by omega] at hdk
     exact hd (U.S.kept_in ((mem_iff _ _).1 hdk.2))
theorem Und.range (U:Und keep into mm m0 b mm' nL nR nH N){p v:Int}(h:CL keep into mm m0 mm' nL nR nH N p v):(0<=p/\p<((l7 (fW into nR) mm' N).length+(bJ (dW (fW into nR) into keep) nL).length:Nat))/\0<=v/\v<nH:=by
 rcases h with ⟨x,hx,rfl,hv,hT⟩|⟨j,hj,rfl,rfl⟩
 .obtain ⟨q,h1,h2,_⟩:=U.S'.t_in hx
  exact ⟨aD,(U.S.d_iff.1 hv).1⟩
 .have hl:=U.S.ml
  exact ⟨U.S'.c_in hj,U.S.mr _ (mN hj.1 aD)⟩
theorem Und.onto (U:Und keep into mm m0 b mm' nL nR nH N){v:Int}(h:0<=v/\v<nH):∃ p,CL keep into mm m0 mm' nL nR nH N p v:=by
 by_cases hd:v∈l7 keep mm nH
 .obtain ⟨x,hx,hT⟩:=U.right hd
  exact ⟨_,.inl ⟨x,hx,rfl,hd,hT⟩⟩
 .have:¬ ∀ k:Int,0<=k->k<nL->k∉keep->iA mm k≠v:=λhh=>hd (U.S.d_iff.2 ⟨h,hh⟩)
  have:∃ k:Int,0<=k/\k<nL/\iA mm k=v:=by
   refine bA λhc=>this λk k0 k1 _ he=>hc ⟨k,k0,k1,he⟩
  obtain ⟨k,k0,k1,he⟩:=this
  exact ⟨_,.inr ⟨k,⟨k0,k1⟩,rfl,he⟩⟩
end
def lF (ps:List (Int × Int))(l:List Int):List Int:=ps.foldl (λl p=>l.set p.1.toNat p.2) l
theorem gB:∀ (ps:List (Int × Int)) (l:List Int),(lF ps l).length=l.length
 | [],_=>rfl
 | p :: ps,l=>by
  have:=gB ps (l.set p.1.toNat p.2)
  simpa [lF] using this
theorem sB (ps:List (Int × Int))(p:Int × Int)(l:List Int):lF (ps++[p]) l=(lF ps l).set p.1.toNat p.2:=by simp [lF]
theorem IB (ps qs:List (Int × Int))(l:List Int):lF (ps++qs) l=lF qs (lF ps l):=by simp [lF]
theorem Vs {l:List Int}{a:Nat}(h:a<l.length)(v:Int)(p:Nat):iA (l.set a v) p=if a=p then v else iA l p:=by
 unfold iA
 rw [(aD:(p:Int).toNat=p),dZ]
 by_cases he:a=p
 .subst he;simp [h]
 .rw [if_neg he,if_neg he]
theorem EU {R:Int->Int->Prop}:∀ (ps:List (Int × Int)) (l:List Int),(∀ q∈ps,R q.1 q.2/\0<=q.1)->∀ p:Nat,p<l.length->(R p (iA l p)\/∃ v,((p:Int),v)∈ps)->R p (iA (lF ps l) p)
 | [],l,_,p,_,h=>by
  rcases h with h|⟨v,hv⟩
  .exact h
  .cases hv
 | (a,v) :: ps,l,hR,p,hp,h=>by
  have h0:=hR (a,v) (fN ..)
  refine EU ps (l.set a.toNat v) (λq hq=>hR q (dC _ hq)) p (bX hp) ?_
  by_cases he:a.toNat=p
  .left
   rw [Vs aD,if_pos he,<- he,show ((a.toNat:Nat):Int)=a by have:=h0.2;simp only at this;omega]
   exact h0.1
  .rcases h with h|⟨w,hw⟩
   .left
    have e:iA (l.set a.toNat v) p=iA l p:=by
     unfold iA;rw [dZ,if_neg aD]
    rw [e];exact h
   .right
    exact ⟨w,(aU.1 hw).resolve_left λe=>he (by have:=congrArg Prod.fst e;simp only at this;omega)⟩
theorem Si {l l':List Int}(h:l.length=l'.length)(he:∀ p:Nat,p<l.length->iA l p=iA l' p):l=l':=by
 refine fT h λi h1 h2=>?_
 have:=he i h1
 rwa [lA h1,lA h2] at this
def Ks (track undo:List Int)(k:Nat):List (Int × Int):=(List.range k).flatMap λ(i:Nat)=>if 0<=iA track i/\0<=iA undo (iA track i) then [(iA undo (iA track i),(i:Int))] else []
def OD (com mat:List Int)(k:Nat):List (Int × Int):=(List.range k).map λ(i:Nat)=>(iA com i,iA mat i)
def wJ (track undo com mat:List Int)(n:Nat):List Int:=lF (OD com mat com.length) (lF (Ks track undo track.length) (List.replicate n 0))
def Ig (iso undone track:List Int)(k:Nat):List (Int × Int):=(List.range k).flatMap λ(i:Nat)=>if 0<=iA undone i then [(iA undone i,idx track (iA iso i))] else []
def KW (com mat keep:List Int)(k:Nat):List (Int × Int):=(List.range k).flatMap λ(i:Nat)=>if mem keep i=true then [] else [(iA com i,iA mat i)]
def Bo (n:Nat)(iso undone track com mat keep:List Int):List Int:=lF (KW com mat keep com.length) (lF (Ig iso undone track undone.length) (List.replicate n 0))
def e8 (l by_:List Int):List Int:=l.map λn=>if 0<=n then iA by_ n else n
section
variable {keep into mm m0 b mm':List Int} {nL nR nH N:Nat}
theorem gS:(nG keep mm nH).length=nH:=lL _ _
theorem iU:(xN keep into mm nR nH).length=nR:=by simp [xN,CQ]
theorem LC {l by_:List Int}{i:Int}(h0:0<=i)(h:i<l.length):iA (e8 l by_) i=if 0<=iA l i then iA by_ (iA l i) else iA l i:=by
 have h':i.toNat<l.length:=aD
 have e:iA l i=l[i.toNat]:=by unfold iA;rw [aA h'];rfl
 rw [e];unfold iA e8
 rw [aN,aA h'];rfl
theorem Srt.t_pos (S:Srt keep into mm nL nR nH){x:Int}(h:0<=x/\x<nH)(ht:0<=iA (nG keep mm nH) x):x∈l7 keep mm nH:=by
 refine bA λhx=>?_
 rw [S.t_out h hx] at ht;omega
theorem Und.org (U:Und keep into mm m0 b mm' nL nR nH N){n:Nat}(hn:n=(l7 (fW into nR) mm' N).length+(bJ (dW (fW into nR) into keep) nL).length) :
  ∀ p:Nat,p<n->CL keep into mm m0 mm' nL nR nH N p (iA (wJ (e8 (nG keep mm nH) b) (nG (fW into nR) mm' N) (xN (fW into nR) (dW (fW into nR) into keep) mm' nL N) mm n) p):=by
 intro p hp
 unfold wJ
 rw [<- IB]
 have hN:=U.n
 have hlt:(e8 (nG keep mm nH) b).length=nH:=by unfold e8;rw [aV];exact gS
 refine EU _ _ (λq hq=>?_) p (bX hp) (.inr ?_)
 .rcases aW.1 hq with h|h
  .unfold Ks at h
   obtain ⟨i,hi,hq⟩:=bT.1 h
   have hi':=bK.1 hi
   rw [hlt] at hi'
   split at hq
   .rename_i hc
    obtain ⟨c1,c2⟩:=hc
    simp only [bL] at hq
    subst hq
    refine ⟨.inl ?_,c2⟩
    rw [LC aD (by rw [gS];omega)] at c1 c2 ⊢
    by_cases h0:0<=iA (nG keep mm nH) i
    .rw [if_pos h0] at c1 c2 ⊢
     have hd:=U.S.t_pos (x:=(i:Int)) aD h0
     obtain ⟨p',e1,e2,_⟩:=U.S.t_in hd
     obtain ⟨r1,r2⟩:=U.of (iA (nG keep mm nH) i) h0 aD
     exact ⟨_,U.S'.t_pos r1 c2,rfl,hd,r2.symm⟩
    .rw [if_neg h0] at c1;exact absurd c1 h0
   .cases hq
  .unfold OD at h
   obtain ⟨j,hj,rfl⟩:=bB.1 h
   have hj':=bK.1 hj
   rw [iU] at hj'
   exact ⟨.inr ⟨j,aD,rfl,rfl⟩,(U.S'.c_in (j:=(j:Int)) aD).1⟩
 .by_cases hd:p<(l7 (fW into nR) mm' N).length
  .obtain ⟨h1,h2⟩:=U.S'.t_at hd
   obtain ⟨v,hv,hT⟩:=U.left h1
   have hx:=(U.S'.d_iff.1 h1).1
   have hvr:=(U.S.d_iff.1 hv).1
   obtain ⟨x1,x2⟩:=U.to _ hx.1 hx.2
   refine ⟨v,aW.2 (.inl ?_)⟩
   unfold Ks
   have hvl:v.toNat<(e8 (nG keep mm nH) b).length:=by rw [hlt];omega
   refine bT.2 ⟨v.toNat,bK.2 hvl,?_⟩
   rw [show ((v.toNat:Nat):Int)=v by omega,LC aD (by rw [gS];omega),if_pos (by omega:0<=iA (nG keep mm nH) v),hT,x2,h2,if_pos aD]
   simp
  .obtain ⟨j,hj,_,hc⟩:=U.S'.c_at (f:=p - (l7 (fW into nR) mm' N).length) aD
   refine ⟨iA mm j,aW.2 (.inr ?_)⟩
   unfold OD
   have hjl:j.toNat<(xN (fW into nR) (dW (fW into nR) into keep) mm' nL N).length:=by rw [iU];omega
   refine bB.2 ⟨j.toNat,bK.2 hjl,?_⟩
   rw [show ((j.toNat:Nat):Int)=j by omega,hc]
   congr 1;omega
theorem Und.idx (U:Und keep into mm m0 b mm' nL nR nH N){x:Int}(hx:x∈l7 (fW into nR) mm' N):idx (nG keep mm nH) (iA m0 x)∈l7 keep mm nH/\iA (nG keep mm nH) (idx (nG keep mm nH) (iA m0 x))=iA m0 x:=by
 obtain ⟨v,hv,hT⟩:=U.left hx
 have hvr:=(U.S.d_iff.1 hv).1
 have hxr:=(U.S'.d_iff.1 hx).1
 have hm:iA m0 x∈nG keep mm nH:=by rw [<- hT];exact mN hvr.1 (by rw [gS];omega)
 obtain ⟨h1,h2,h3⟩:=Dh ((mem_iff _ _).2 hm)
 have he:iA (nG keep mm nH) (Go.Abs.idx (nG keep mm nH) (iA m0 x))=iA m0 x:=by unfold iA at h3 ⊢;rw [h3];rfl
 rw [gS] at h2
 exact ⟨U.S.t_pos aD (by rw [he];exact (U.to x hxr.1 hxr.2).1.1),he⟩
theorem Und.bak (U:Und keep into mm m0 b mm' nL nR nH N){n:Nat}(hn:n=(l7 (fW into nR) mm' N).length+(bJ (dW (fW into nR) into keep) nL).length) :
  ∀ p:Nat,p<n->CL keep into mm m0 mm' nL nR nH N p (iA (Bo n m0 (nG (fW into nR) mm' N) (nG keep mm nH) (xN (fW into nR) (dW (fW into nR) into keep) mm' nL N) mm keep) p):=by
 intro p hp
 unfold Bo
 rw [<- IB]
 refine EU _ _ (λq hq=>?_) p (bX hp) (.inr ?_)
 .rcases aW.1 hq with h|h
  .unfold Ig at h
   obtain ⟨i,hi,hq⟩:=bT.1 h
   have hi':=bK.1 hi
   rw [gS] at hi'
   split at hq
   .rename_i c
    simp only [bL] at hq
    subst hq
    have hd:=U.S'.t_pos (x:=(i:Int)) aD c
    obtain ⟨i1,i2⟩:=U.idx hd
    exact ⟨.inl ⟨_,hd,rfl,i1,i2⟩,c⟩
   .cases hq
  .unfold KW at h
   obtain ⟨j,hj,hq⟩:=bT.1 h
   have hj':=bK.1 hj
   rw [iU] at hj'
   split at hq
   .cases hq
   .simp only [bL] at hq
    subst hq
    exact ⟨.inr ⟨j,aD,rfl,rfl⟩,(U.S'.c_in (j:=(j:Int)) aD).1⟩
 .by_cases hd:p<(l7 (fW into nR) mm' N).length
  .obtain ⟨h1,h2⟩:=U.S'.t_at hd
   have hx:=(U.S'.d_iff.1 h1).1
   refine ⟨Go.Abs.idx (nG keep mm nH) (iA m0 (iA (l7 (fW into nR) mm' N) p)),aW.2 (.inl ?_)⟩
   unfold Ig
   have hxl:(iA (l7 (fW into nR) mm' N) p).toNat<(nG (fW into nR) mm' N).length:=by rw [gS];omega
   refine bT.2 ⟨(iA (l7 (fW into nR) mm' N) p).toNat,bK.2 hxl,?_⟩
   rw [show (((iA (l7 (fW into nR) mm' N) p).toNat:Nat):Int)=iA (l7 (fW into nR) mm' N) p by omega,h2,if_pos aD]
   simp
  .obtain ⟨j,hj,hji,hc⟩:=U.S'.c_at (f:=p - (l7 (fW into nR) mm' N).length) aD
   refine ⟨iA mm j,aW.2 (.inr ?_)⟩
   unfold KW
   have hjl:j.toNat<(xN (fW into nR) (dW (fW into nR) into keep) mm' nL N).length:=by rw [iU];omega
   refine bT.2 ⟨j.toNat,bK.2 hjl,?_⟩
   rw [show ((j.toNat:Nat):Int)=j by omega,hc,if_neg]
   .simp;omega
   .intro hk
    obtain ⟨_,_,_,h,_⟩:=U.kept ((mem_iff _ _).1 hk)
    exact hji h
theorem Und.same (U:Und keep into mm m0 b mm' nL nR nH N){n:Nat}(hn:n=(l7 (fW into nR) mm' N).length+(bJ (dW (fW into nR) into keep) nL).length) :
  Bo n m0 (nG (fW into nR) mm' N) (nG keep mm nH) (xN (fW into nR) (dW (fW into nR) into keep) mm' nL N) mm keep=wJ (e8 (nG keep mm nH) b) (nG (fW into nR) mm' N) (xN (fW into nR) (dW (fW into nR) into keep) mm' nL N) mm n:=by
 have h1:(Bo n m0 (nG (fW into nR) mm' N) (nG keep mm nH) (xN (fW into nR) (dW (fW into nR) into keep) mm' nL N) mm keep).length=n:=by unfold Bo;rw [gB,gB,dM]
 have h2:(wJ (e8 (nG keep mm nH) b) (nG (fW into nR) mm' N) (xN (fW into nR) (dW (fW into nR) into keep) mm' nL N) mm n).length=n:=by unfold wJ;rw [gB,gB,dM]
 exact Si (by rw [h1,h2]) λp hp=>U.uni (U.bak hn p aD) (U.org hn p aD)
theorem Und.perm (U:Und keep into mm m0 b mm' nL nR nH N){n:Nat}(hn:n=(l7 (fW into nR) mm' N).length+(bJ (dW (fW into nR) into keep) nL).length){l:List Int}(hl:l.length=n)(hR:∀ p:Nat,p<n->CL keep into mm m0 mm' nL nR nH N p (iA l p)) :
  (∀ x∈l,0<=x/\x<nH)/\l.Nodup/\n=nH:=by
 have hnd:l.Nodup:=by
  rw [q9,dH]
  intro i j hi hj hij he
  have h1:=hR i aD
  have h2:=hR j aD
  rw [lA hi] at h1
  rw [lA hj,<- he] at h2
  have:=U.inj h1 h2
  omega
 have hin:∀ x∈l,0<=x/\x<nH:=λx hx=>by
  obtain ⟨i,hi,rfl⟩:=AL hx
  exact (U.range (hR i aD)).2
 have h1:=B5 hin hnd
 have h2:bJ l nH=[]:=by
  refine n6.2 λx hx=>?_
  obtain ⟨h3,h4⟩:=gW.1 hx
  obtain ⟨p,hp⟩:=U.onto h3
  have hr:=(U.range hp).1
  have h5:=hR p.toNat aD
  rw [show ((p.toNat:Nat):Int)=p by omega] at h5
  refine h4 ?_
  rw [U.uni hp h5]
  exact mN hr.1 aD
 rw [h2] at h1
 simp at h1
 exact ⟨hin,hnd,aD⟩
theorem Und.cases (U:Und keep into mm m0 b mm' nL nR nH N){p v:Int}(h:CL keep into mm m0 mm' nL nR nH N p v) :
  (∃ x∈l7 (fW into nR) mm' N,iA (nG (fW into nR) mm' N) x=p/\v∈l7 keep mm nH/\iA (nG keep mm nH) v=iA m0 x) \/
  (∃ (j:Int) (f:Nat),(0<=j/\j<nL)/\j∉keep/\f<(bJ (dW (fW into nR) into keep) nL).length/\iA (bJ (dW (fW into nR) into keep) nL) f=j/\p=((l7 (fW into nR) mm' N).length+f:Nat)/\iA mm j=v):=by
 rcases h with h|⟨j,hj,rfl,rfl⟩
 .exact .inl h
 .by_cases hk:j∈keep
  .obtain ⟨y,hyr,hyi,_,hc,hd,hm⟩:=U.kept hk
   exact .inl ⟨_,hd,hc.symm,U.S.kept_in hk,hm.symm⟩
  .obtain ⟨f,h1,h2,h3⟩:=U.fresh hj hk
   exact .inr ⟨j,f,hj,hk,h1,h2,h3,rfl⟩
theorem Gh (track undo com mat:List Int)(n:Nat):(wJ track undo com mat n).length=n:=by unfold wJ;rw [gB,gB,dM]
theorem ST (n:Nat)(iso undone track com mat keep:List Int):(Bo n iso undone track com mat keep).length=n:=by unfold Bo;rw [gB,gB,dM]
end
def QY:Pattern:=⟨⟨[],[]⟩,[],0,[]⟩
def sG (s:Stp26)(i:Nat):List Int:=s.before.values[(iA s.mat.m.nodes i).toNat]?.getD []
def Dd (t:Types)(s:Stp26)(i k:Nat):Int :=
 if mem s.rule.keep.nodes i=true then (s.after.values[(iA s.track.nodes (iA s.mat.m.nodes i)).toNat]?.getD [])[k]?.getD 0 else ((bM t (gN s.before.graph (iA s.mat.m.nodes i)))[k]?.getD nO).low
def fV (t:Types)(s:Stp26)(i k:Nat):List Slot:=if (sG s i)[k]?.getD 0≠Dd t s i k then [⟨i,k,⟨-1,(sG s i)[k]?.getD 0⟩⟩] else []
def qZ (t:Types)(s:Stp26)(i n:Nat):List Slot:=(List.range n).flatMap (fV t s i)
def kP (t:Types)(s:Stp26)(n:Nat):List Slot:=(List.range n).flatMap λi=>qZ t s i (sG s i).length
def Lr (r:Rule):Part:=⟨fW r.into.nodes r.right.graph.nodes.length,fW r.into.edges r.right.graph.edges.length⟩
def RN (r:Rule):Part:=⟨dW (Lr r).nodes r.into.nodes r.keep.nodes,dW (Lr r).edges r.into.edges r.keep.edges⟩
def d8 (t:Types)(s:Stp26):Rule :=
 ⟨s.rule.name,⟨l4 s.rule.right.graph s.after.graph s.comatch,[],0,[]⟩,⟨l4 s.rule.left.graph s.before.graph s.mat.m,kP t s s.mat.m.nodes.length,0,[]⟩,Lr s.rule,RN s.rule,
  decide s.comatch.nodes.Nodup&&decide s.comatch.edges.Nodup,.mk 1 [] ⟨[],[]⟩ QY⟩
theorem Fw {t:Types}{s:Stp26}{n:Nat}{x:Slot}:x∈kP t s n↔∃ i,i<n/\∃ k,k<(sG s i).length/\(sG s i)[k]?.getD 0≠Dd t s i k/\x=⟨i,k,⟨-1,(sG s i)[k]?.getD 0⟩⟩:=by
 unfold kP qZ fV
 simp only [bT,bK]
 refine exists_congr λi=>and_congr_right λ_=>exists_congr λk=>and_congr_right λ_=>?_
 split
 .rename_i h;simp [h]
 .rename_i h;simp [h]
structure HIso (a b:Host) (s:Part):Prop where
 nl:s.nodes.length=a.graph.nodes.length
 el:s.edges.length=a.graph.edges.length
 nn:a.graph.nodes.length=b.graph.nodes.length
 en:a.graph.edges.length=b.graph.edges.length
 av:a.values.length=a.graph.nodes.length
 bv:b.values.length=b.graph.nodes.length
 ni:∀ x∈s.nodes,0<=x/\x<b.graph.nodes.length
 ei:∀ x∈s.edges,0<=x/\x<b.graph.edges.length
 nd:s.nodes.Nodup
 ed:s.edges.Nodup
 ty:∀ p:Int,0<=p->p<a.graph.nodes.length->gN a.graph p=gN b.graph (iA s.nodes p)
 eg:∀ p:Int,0<=p->p<a.graph.edges.length->eA b.graph (iA s.edges p)=⟨(eA a.graph p).type,iA s.nodes (eA a.graph p).from_,iA s.nodes (eA a.graph p).to_⟩
 va:∀ p:Int,0<=p->p<a.graph.nodes.length->a.values[p.toNat]?.getD []=b.values[(iA s.nodes p).toNat]?.getD []
def MQ (l:List Int)(k:Nat):List (Int × Int):=(List.range k).map λ(i:Nat)=>(iA l i,(i:Int))
def iY (l:List Int):List Int:=lF (MQ l l.length) (List.replicate l.length 0)
theorem QX {l:List Int}{n:Nat}(hl:l.length=n)(hr:∀ x∈l,0<=x/\x<n)(hd:l.Nodup){v:Int}(h:0<=v/\v<n):v∈l:=by
 have h1:=B5 hr hd
 refine bA λhv=>?_
 have h2:v∈bJ l n:=gW.2 ⟨h,hv⟩
 rw [bP (aD:(bJ l n).length=0)] at h2
 cases h2
theorem Cg {l:List Int}{n:Nat}(hl:l.length=n)(hr:∀ x∈l,0<=x/\x<n)(hd:l.Nodup){y:Int}(h0:0<=y)(h:y<n):(0<=iA (iY l) y/\iA (iY l) y<n)/\iA l (iA (iY l) y)=y:=by
 have:=EU (R:=λp v=>(0<=v/\v<n)/\iA l v=p) (MQ l l.length) (List.replicate l.length 0) (λq hq=>by
  unfold MQ at hq
  obtain ⟨i,hi,rfl⟩:=bB.1 hq
  have hi':=bK.1 hi
  exact ⟨⟨by simp only;omega,rfl⟩,(hr _ (mN aD aD)).1⟩) y.toNat (by simp;omega) (.inr (by
  obtain ⟨i,hi,he⟩:=AL (QX hl hr hd ⟨h0,h⟩)
  refine ⟨i,?_⟩
  unfold MQ
  exact bB.2 ⟨i,bK.2 hi,by rw [he];congr 1;omega⟩))
 rw [show ((y.toNat:Nat):Int)=y by omega] at this
 exact this
theorem KE {l:List Int}{n:Nat}(hl:l.length=n)(hr:∀ x∈l,0<=x/\x<n)(hd:l.Nodup){x:Int}(h0:0<=x)(h:x<n):(0<=iA l x/\iA l x<n)/\iA (iY l) (iA l x)=x:=by
 have h1:=hr _ (mN h0 (by omega:x<l.length))
 obtain ⟨h2,h3⟩:=Cg hl hr hd h1.1 h1.2
 refine ⟨h1,?_⟩
 have:=OR hd (i:=(iA (iY l) (iA l x)).toNat) (j:=x.toNat) aD aD (by
  rw [show (((iA (iY l) (iA l x)).toNat:Nat):Int)=iA (iY l) (iA l x) by omega,show ((x.toNat:Nat):Int)=x by omega];exact h3)
 omega
section
variable {t:Types} {r:Rule} {h:Host} {m:Mat}
theorem StepIn.srtN (S:StepIn t r h m):Srt r.keep.nodes r.into.nodes m.m.nodes r.left.graph.nodes.length r.right.graph.nodes.length h.graph.nodes.length :=
 ⟨S.hR.keep.1.1,S.hR.keep.2.1,S.hR.keep.2.2.2.1,S.intoN.1,S.hm.len,S.imN,S.dup.1⟩
theorem StepIn.srtE (S:StepIn t r h m):Srt r.keep.edges r.into.edges m.m.edges r.left.graph.edges.length r.right.graph.edges.length h.graph.edges.length :=
 ⟨S.hR.keep.1.2,S.hR.keep.2.2.1,S.hR.keep.2.2.2.2,S.intoN.2,S.hm.elen,S.imE,S.dup.2⟩
theorem StepIn.restN (S:StepIn t r h m):(bV r h m).nodes=l7 r.keep.nodes m.m.nodes h.graph.nodes.length:=by rw [S.rest];rfl
theorem StepIn.restE (S:StepIn t r h m):(bV r h m).edges=l7 r.keep.edges m.m.edges h.graph.edges.length:=by rw [S.rest];rfl
theorem StepIn.trN (S:StepIn t r h m):(cO r h m).nodes=nG r.keep.nodes m.m.nodes h.graph.nodes.length:=by unfold cO nG;rw [S.restN]
theorem StepIn.trE (S:StepIn t r h m):(cO r h m).edges=nG r.keep.edges m.m.edges h.graph.edges.length:=by unfold cO nG;rw [S.restE]
theorem StepIn.coN (S:StepIn t r h m):(eY r h m).nodes=xN r.keep.nodes r.into.nodes m.m.nodes r.right.graph.nodes.length h.graph.nodes.length:=by unfold eY xN;rw [S.restN,S.trN]
theorem StepIn.coE (S:StepIn t r h m):(eY r h m).edges=xN r.keep.edges r.into.edges m.m.edges r.right.graph.edges.length h.graph.edges.length:=by unfold eY xN;rw [S.restE,S.trE]
theorem StepIn.sizeN (S:StepIn t r h m):(cT t r h m).graph.nodes.length=(l7 r.keep.nodes m.m.nodes h.graph.nodes.length).length+(bJ r.into.nodes r.right.graph.nodes.length).length:=by
 show (bZ t r h m).graph.nodes.length=_
 rw [S.bareN,aL,aV,aV,S.restN];rfl
theorem StepIn.sizeE (S:StepIn t r h m):(cT t r h m).graph.edges.length=(l7 r.keep.edges m.m.edges h.graph.edges.length).length+(bJ r.into.edges r.right.graph.edges.length).length:=by
 show (bZ t r h m).graph.edges.length=_
 rw [S.bareE,aL,aV,aV,S.restE];rfl
end
structure Back (t:Types) (r:Rule) (h:Host) (m:Mat) (g:Host) (m0:Part) (m':Mat):Prop where
 K:StepOk t r h m
 I:HIso g (cT t r h m) m0
 bn:m'.m.nodes=(eY r h m).nodes.map λk=>iA (iY m0.nodes) k
 be:m'.m.edges=(eY r h m).edges.map λk=>iA (iY m0.edges) k
 K':StepOk t (d8 t (bG t r h m)) g m'
def XX (T T' c' mm:Part)(b:Part)(nn ne:Nat):Part:=⟨wJ (e8 T.nodes b.nodes) T'.nodes c'.nodes mm.nodes nn,wJ (e8 T.edges b.edges) T'.edges c'.edges mm.edges ne⟩
section
variable {t:Types} {r:Rule} {h g:Host} {m m':Mat} {m0:Part}
theorem Kx {l:List Int}(f:Int->Int){k:Int}(h0:0<=k)(h:k<l.length):iA (l.map f) k=f (iA l k):=by
 have h':k.toNat<l.length:=aD
 unfold iA;rw [aN,aA h'];rfl
theorem Back.undN (B:Back t r h m g m0 m'):Und r.keep.nodes r.into.nodes m.m.nodes m0.nodes (iY m0.nodes) m'.m.nodes r.left.graph.nodes.length r.right.graph.nodes.length h.graph.nodes.length g.graph.nodes.length where
 S:=B.K.S.srtN
 n:=by rw [B.I.nn];exact B.K.S.sizeN
 to x h0 h1:=KE B.I.nl (by rw [B.I.nn];exact B.I.ni) B.I.nd h0 h1
 of x h0 h1:=Cg B.I.nl (by rw [B.I.nn];exact B.I.ni) B.I.nd h0 h1
 m y h0 h1:=by rw [B.bn,Kx _ h0 (by rw [B.K.S.coN,iU];omega),B.K.S.coN]
 S':=by
  have hS:=B.K'.S.srtN
  have e1:(d8 t (bG t r h m)).left.graph.nodes.length=r.right.graph.nodes.length:=by show ((eY r h m).nodes.map _).length=_;rw [aV,B.K.S.coN,iU]
  have e2:(d8 t (bG t r h m)).right.graph.nodes.length=r.left.graph.nodes.length:=by show (m.m.nodes.map _).length=_;rw [aV];exact B.K.S.hm.len
  rw [e1,e2] at hS
  exact hS
theorem Back.undE (B:Back t r h m g m0 m'):Und r.keep.edges r.into.edges m.m.edges m0.edges (iY m0.edges) m'.m.edges r.left.graph.edges.length r.right.graph.edges.length h.graph.edges.length g.graph.edges.length where
 S:=B.K.S.srtE
 n:=by rw [B.I.en];exact B.K.S.sizeE
 to x h0 h1:=KE B.I.el (by rw [B.I.en];exact B.I.ei) B.I.ed h0 h1
 of x h0 h1:=Cg B.I.el (by rw [B.I.en];exact B.I.ei) B.I.ed h0 h1
 m y h0 h1:=by rw [B.be,Kx _ h0 (by rw [B.K.S.coE,iU];omega),B.K.S.coE]
 S':=B.K'.S.srtE
theorem Back.left_len (B:Back t r h m g m0 m'):(d8 t (bG t r h m)).left.graph.nodes.length=r.right.graph.nodes.length/\(d8 t (bG t r h m)).right.graph.nodes.length=r.left.graph.nodes.length :=
 ⟨by show ((eY r h m).nodes.map _).length=_;rw [aV,B.K.S.coN,iU],by show (m.m.nodes.map _).length=_;rw [aV];exact B.K.S.hm.len⟩
end
end Go.Abs
end
