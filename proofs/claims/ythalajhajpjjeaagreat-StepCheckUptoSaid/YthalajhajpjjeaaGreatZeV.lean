/- Plain law: made graphs, shuffled graphs, kept parts (what th -/
import Derived.Test.YthalajhajpjjeaaGreatZeT
import Derived.Test.YthalajhajpjjeaaGreatZeU
import Derived.Test.YthalajhajpjjeaaGreatZeQ
import Derived.Test.YthalajhajpjjeaaGreatZeF
import Derived.Test.YthalajhajpjjeaaGreatRows
import Derived.OpenShut
import Derived.Laws.BitsLemmas
set_option linter.unusedVariables false
set_option linter.unusedSimpArgs false
section
set_option maxRecDepth 100000
set_option maxHeartbeats 4000000
open Go Go.Proofs
namespace Go.Abs
section
variable {g:Graph} {p:Part} {more:Graph} {kept:Part} {im:List Int}
end
section
variable {t:Types} {a b:Rule} {o:Ovl}
end
section
variable {g:Graph} {p q:List Int}
end
section
variable {t:Types} {g:Graph} {d:Dr24}
structure GrOk (t:Types) (g G:Graph):Prop where
 ok:graphF G=0
 ty:f8 t G=true
 no:∀ i:Int,0≤i→i<g.nodes.length→gN G i=gN g i
 ed:∀ k:Int,0≤k→k<g.edges.length→eA G k=eA g k
 fi:∀ k:Int,g.edges.length≤k→k<G.edges.length→l9 t (eA G k).type (gN G (eA G k).from_) (gN G (eA G k).to_)=true
 ln:g.nodes.length≤G.nodes.length
 le:g.edges.length≤G.edges.length
end
/-! ### type graphs -/
structure MadeTy (t:Types):Prop where
 v:(b8 t).2=0
 fine:t.fine
 ne:t.edges.length≤5
 nn:t.nodes.length≤6
structure SlotIn (t:Types) (ns:List Int) (v:Int) (s:Slot):Prop where
 n0:0≤s.node
 n1:s.node<ns.length
 a0:0≤s.attr
 a1:s.attr<(bI t (ns[s.node.toNat]?.getD 0)).length
 v0 : -1≤s.term.var
 v1:s.term.var<v
 d0 : -1000000≤s.term.add
 d1:s.term.add≤1000000
theorem SlotIn.mono {t:Types}{ns:List Int}{v w:Int}{s:Slot}(h:SlotIn t ns v s)(hv:v≤w):SlotIn t ns w s:=⟨h.n0,h.n1,h.a0,h.a1,h.v0,by have:=h.v1;omega,h.d0,h.d1⟩
def H6 (t:Types)(d:Dr24):Part:=⟨(Mt (Ph t d).nodes.length d.order).take (RK t d).nodes.length,(Mt (Ph t d).edges.length d.order).take (RK t d).edges.length⟩
structure Core24 (t:Types) (d:Dr24):Prop where
 g0:graphF (wA t d.left.graph)=0
 t0:f8 t (wA t d.left.graph)=true
 gR:graphF (Lo t d)=0
 tR:f8 t (Lo t d)=true
 sub:subF (wA t d.left.graph) (H5 t d)=0
 mor:dV (bY (wA t d.left.graph) (H5 t d)) (Lo t d) (H6 t d)=0
 inj:Eg (bY (wA t d.left.graph) (H5 t d)) (Lo t d) (H6 t d)=true
 mkb:v8 t (Lo t d) (b5 (H6 t d).nodes (Lo t d).nodes.length) (b5 (H6 t d).edges (Lo t d).edges.length)=true
def US (l:List Int)(k:Nat):Nat:=((List.range k).filter fun i=>!mem (l.take i) (l[i]?.getD 0)).length
section
variable {t:Types} {r:Rule} {h:Host} {m:Mat}
end
structure StepOk (t:Types) (r:Rule) (h:Host) (m:Mat):Prop where
 S:StepIn t r h m
 pre:oT t r h m=0
 sol:dD t r.left h m.m=(m.vars,0)
 put:rY t (cJ t r h m).graph (nU r h m) m.vars r.right.slots=0
 nn:(cJ t r h m).graph.nodes.length≤40
 ne:(cJ t r h m).graph.edges.length≤80
theorem Rn {t:Types}{r:Rule}{h:Host}{m:Mat}(hR:RuleV t r)(ho:HostOk t h)(h0:gP t r h m=0):StepOk t r h m:=by
 unfold gP at h0
 split at h0
 ·contradiction
 ·rename_i h1
  have hp:jW t r h m=0:=by simpa using h1
  unfold jW at hp
  split at hp
  ·contradiction
  ·rename_i h2
   have h2':oT t r h m=0:=by simpa using h2
   have hsol:dD t r.left h m.m=(m.vars,0):=by
    unfold oT at h2'
    split at h2'
    ·cases h2'
    ·split at h2'
     ·contradiction
     ·rename_i h4
      split at h2'
      ·cases h2'
      ·rename_i h5
       exact Prod.ext (by simpa using h5) (by simpa using h4)
   split at h0
   ·contradiction
   ·rename_i h3
    split at h0
    ·cases h0
    ·rename_i h4
     exact ⟨Lb hR ho h2',h2',hsol,by simpa using h3,by omega,by omega⟩
theorem StepOk.after {t:Types}{r:Rule}{h:Host}{m:Mat}(S:StepOk t r h m):fW t (uF t r h m)=0:=S.S.after S.put S.nn S.ne
@[go_sem] theorem XY (o:Option UInt8)(a0:D):((Option.map cU o).getD [a0]).length=1:=by cases o<;>rfl
@[go_sem] theorem Xw (o:Option B3)(a0 a1 a2:D):((Option.map PV o).getD [a0,a1,a2]).length=3:=by cases o<;>rfl
@[go_sem] theorem XZ (o:Option B2)(a0 a1:D):((Option.map cP o).getD [a0,a1]).length=2:=by cases o<;>rfl
def small (d:Dr5)(a b:Nat):Dr5:=⟨d.nodes.take (min d.nodes.length a),d.edges.take (min d.edges.length b)⟩
structure Dr26 where
 types:List B2
 ends:List B2
 rule:Dr24
 host:Dr15
def Dr26.c (d:Dr26):List D:=[.list (d.types.map cP),.list (d.ends.map cP)]++d.rule.c++d.host.c
@[go_sem] theorem Dr26.cl (d:Dr26):D.clL d.c=true:=by simp [Dr26.c,zB,Dr24.cl,Dr15.c,D.clL,D.cl,PA,AJ]
def X4 (d:Dr26):Types:=Ut d.types d.ends
def GM (d:Dr26):Host:=RJ (X4 d) ⟨d.host.nodes.take (min d.host.nodes.length 6),d.host.edges.take (min d.host.edges.length 8)⟩
@[go_sem] theorem Xu (o:Option Mat)(a0 a1 a2:D):((Option.map Mat.c o).getD [a0,a1,a2]).length=3:=by cases o<;>rfl
/-! ### StepCounts -/
@[go_sem] theorem Sd (l:List Int):US l 0=0:=rfl
deriving instance DecidableEq for Term
deriving instance DecidableEq for Slot
deriving instance DecidableEq for Test
deriving instance DecidableEq for Pattern
mutual
def ON:Cond→Cond→Bool
 | .mk k l m p,.mk k' l' m' p'=>decide (k=k')&&decide (m=m')&&decide (p=p')&&yR l l'
def yR:List Cond→List Cond→Bool
 | [],[]=>true
 | [],_ :: _=>false
 | _ :: _,[]=>false
 | a :: l,b :: l'=>ON a b&&yR l l'
end
mutual
theorem Ge:∀ a b:Cond,ON a b=true↔a=b
 | .mk k l m p,.mk k' l' m' p'=>by
  have:=Dy l l'
  simp only [ON,aM,decide_eq_true_eq,this,Cond.mk.injEq]
  constructor
  ·rintro ⟨⟨⟨h1,h2⟩,h3⟩,h4⟩;exact ⟨h1,h4,h2,h3⟩
  ·rintro ⟨h1,h4,h2,h3⟩;exact ⟨⟨⟨h1,h2⟩,h3⟩,h4⟩
theorem Dy:∀ a b:List Cond,yR a b=true↔a=b
 | [],[]=>by simp [yR]
 | [],_ :: _=>by simp [yR]
 | _ :: _,[]=>by simp [yR]
 | a :: l,b :: l'=>by
  have h1:=Ge a b
  have h2:=Dy l l'
  simp [yR,h1,h2]
end
instance:DecidableEq Cond:=fun a b=>decidable_of_iff _ (Ge a b)
deriving instance DecidableEq for Rule
deriving instance DecidableEq for Stp26
theorem Gd {x y:Slot}(h:x.node=y.node∧x.attr=y.attr∧x.term.var=y.term.var∧x.term.add=y.term.add):x=y:=by
 obtain ⟨a,b,⟨c,d⟩⟩:=x;obtain ⟨e,f,⟨g,i⟩⟩:=y
 obtain ⟨rfl,rfl,rfl,rfl⟩:=h;rfl
theorem Ga {x y:Test}(h:x.kind=y.kind∧x.left.var=y.left.var∧x.left.add=y.left.add∧x.right.var=y.right.var∧x.right.add=y.right.add):x=y:=by
 obtain ⟨a,⟨b,c⟩,⟨d,e⟩⟩:=x;obtain ⟨f,⟨g,i⟩,⟨j,k⟩⟩:=y
 obtain ⟨rfl,rfl,rfl,rfl,rfl⟩:=h;rfl
theorem LE (a b:Pattern):decide (a=b)=(decide (a.graph=b.graph)&&decide (a.vars=b.vars)&&decide (a.slots=b.slots)&&decide (a.tests=b.tests)):=by
 rw [aQ];cases a;cases b;simp [Cond.kind,Cond.kids,Cond.map,Cond.pattern,and_comm,and_left_comm,and_assoc]
theorem M9 (a b:Cond):decide (a=b)=(decide (a.kind=b.kind)&&decide (a.map=b.map)&&decide (a.pattern=b.pattern)&&decide (a.kids=b.kids)):=by
 rw [aQ];simp only [aM,decide_eq_true_eq];cases a;cases b
 simp only [Cond.mk.injEq,Cond.kind,Cond.kids,Cond.map,Cond.pattern]
 constructor
 ·rintro ⟨h1,h2,h3,h4⟩;exact ⟨⟨⟨h1,h3⟩,h4⟩,h2⟩
 ·rintro ⟨⟨⟨h1,h3⟩,h4⟩,h2⟩;exact ⟨h1,h2,h3,h4⟩
theorem Mv (a b:Rule):decide (a=b)=(decide (a.name=b.name)&&decide (a.inj=b.inj)&&decide (a.left=b.left)&&decide (a.right=b.right)&&decide (a.keep=b.keep)&&decide (a.into=b.into)&&decide (a.cond=b.cond)):=by
 rw [aQ];cases a;cases b;simp [Cond.kind,Cond.kids,Cond.map,Cond.pattern,and_comm,and_left_comm,and_assoc]
theorem OJ (a b:Stp26):decide (a=b)=(decide (a.rule=b.rule)&&decide (a.mat=b.mat)&&decide (a.before=b.before)&&decide (a.after=b.after)&&decide (a.track=b.track)&&decide (a.comatch=b.comatch)):=by
 rw [aQ];cases a;cases b;simp [and_assoc]
theorem y7 (a b:List Edge):Pure Tryz.prog 163 [.list (a.map Edge.c),.list (b.map Edge.c)] (.bool (decide (a=b))):=by
 refine Tz.pK ⟨fun _=>false,fun _=>[]⟩ Tryz.func163 rfl (fun Q hQ=>?_)
 have Y:=trivial
 refine wv (h:=?_)
 repeat first|intro _|refine ⟨dR,?_⟩
 refine wq (fun h1=>?_) fun h1=>?_
 ·refine wv (h:=?_)
  have hne:a≠b:=by intro h;subst h;omega
  exact hQ _ _ (by simp [go_sem,hne])
 ·refine wo (h:=bA (fun i e H=>(e 0=.list (a.map Edge.c)∧e 1=.list (b.map Edge.c)∧e 12=dI a.length∧e 13=dI i)∧(i≤a.length)∧(a.take i=b.take i)) (fun i=>a.length - i) 0 ⟨wg,wi,(by rfl)⟩ fun I0 hI0 i e H hi0=>?_)
  obtain ⟨E0,hi,he⟩:=hi0
  have Y:=wa Y E0
  refine c4 (fun h4=>?_) fun h4=>?_
  ·have hib:i<b.length:=by omega
   have Y:=wa Y (wa h4 (wa (aA h4) (aA hib)))
   refine wv (h:=?_)
   repeat first|intro _|refine ⟨dR,?_⟩
   refine wq (fun h6=>?_) fun h6=>?_
   ·refine wv (h:=?_)
    have hne:a≠b:=by intro h;subst h;simp at h6
    exact hQ _ _ (by simp [go_sem,hne])
   ·exact wo (h:=wx hI0 (i+1) ⟨wg,wj,(by (rw [aE h4,aE hib,he,GX h6]))⟩)
  ·have hab:a=b:=by rw [aH (by omega),aH (by omega)] at he;exact he
   exact wv (h:=hQ _ _ (by simp [go_sem,hab]))
theorem ED (a b:List Slot):Pure Tryz.prog 85 [.list (a.map Slot.c),.list (b.map Slot.c)] (.bool (decide (a=b))):=by
 refine Tz.pK ⟨fun _=>false,fun _=>[]⟩ Tryz.func85 rfl (fun Q hQ=>?_)
 have Y:=trivial
 refine wv (h:=?_)
 repeat first|intro _|refine ⟨dR,?_⟩
 refine wq (fun h1=>?_) fun h1=>?_
 ·refine wv (h:=?_)
  have hne:a≠b:=by intro h;subst h;omega
  exact hQ _ _ (by simp [go_sem,hne])
 ·refine wo (h:=bA (fun i e H=>(e 0=.list (a.map Slot.c)∧e 1=.list (b.map Slot.c)∧e 12=dI a.length∧e 13=dI i)∧(i≤a.length)∧(a.take i=b.take i)) (fun i=>a.length - i) 0 ⟨wg,wi,(by rfl)⟩ fun I0 hI0 i e H hi0=>?_)
  obtain ⟨E0,hi,he⟩:=hi0
  have Y:=wa Y E0
  refine c4 (fun h4=>?_) fun h4=>?_
  ·have hib:i<b.length:=by omega
   have Y:=wa Y (wa h4 (wa (aA h4) (aA hib)))
   refine wv (h:=?_)
   repeat first|intro _|refine ⟨dR,?_⟩
   refine wq (fun h6=>?_) fun h6=>?_
   ·refine wv (h:=?_)
    have hne:a≠b:=by intro h;subst h;simp at h6
    exact hQ _ _ (by simp [go_sem,hne])
   ·exact wo (h:=wx hI0 (i+1) ⟨wg,wj,(by (rw [aE h4,aE hib,he,Gd h6]))⟩)
  ·have hab:a=b:=by rw [aH (by omega),aH (by omega)] at he;exact he
   exact wv (h:=hQ _ _ (by simp [go_sem,hab]))
theorem EC (a b:List Test):Pure Tryz.prog 258 [.list (a.map Test.c),.list (b.map Test.c)] (.bool (decide (a=b))):=by
 refine Tz.pK ⟨fun _=>false,fun _=>[]⟩ Tryz.func258 rfl (fun Q hQ=>?_)
 have Y:=trivial
 refine wv (h:=?_)
 repeat first|intro _|refine ⟨dR,?_⟩
 refine wq (fun h1=>?_) fun h1=>?_
 ·refine wv (h:=?_)
  have hne:a≠b:=by intro h;subst h;omega
  exact hQ _ _ (by simp [go_sem,hne])
 ·refine wo (h:=bA (fun i e H=>(e 0=.list (a.map Test.c)∧e 1=.list (b.map Test.c)∧e 12=dI a.length∧e 13=dI i)∧(i≤a.length)∧(a.take i=b.take i)) (fun i=>a.length - i) 0 ⟨wg,wi,(by rfl)⟩ fun I0 hI0 i e H hi0=>?_)
  obtain ⟨E0,hi,he⟩:=hi0
  have Y:=wa Y E0
  refine c4 (fun h4=>?_) fun h4=>?_
  ·have hib:i<b.length:=by omega
   have Y:=wa Y (wa h4 (wa (aA h4) (aA hib)))
   refine wv (h:=?_)
   repeat first|intro _|refine ⟨dR,?_⟩
   refine wq (fun h6=>?_) fun h6=>?_
   ·refine wv (h:=?_)
    have hne:a≠b:=by intro h;subst h;simp at h6
    exact hQ _ _ (by simp [go_sem,hne])
   ·exact wo (h:=wx hI0 (i+1) ⟨wg,wj,(by (rw [aE h4,aE hib,he,Ga h6]))⟩)
  ·have hab:a=b:=by rw [aH (by omega),aH (by omega)] at he;exact he
   exact wv (h:=hQ _ _ (by simp [go_sem,hab]))
theorem vQ (a b:Pattern):Pure Tryz.prog 93 [a.d,b.d] (.bool (decide (a=b))):=by
 refine Tz.pK ⟨fun _=>false,fun _=>[]⟩ Tryz.func93 rfl (fun Q hQ=>?_)
 have Y:=trivial
 refine wo (h:=aB (BX a.graph b.graph) wl ?_)
 refine wv (h:=?_)
 repeat first|intro _|refine ⟨dR,?_⟩
 refine wq (fun h1=>?_) fun h1=>?_
 ·refine wv (h:=?_)
  have hne:a≠b:=by intro h;subst h;simp at h1
  exact hQ _ _ (by simp [go_sem,hne])
 ·have hab:((a.graph=b.graph∧a.vars=b.vars)∧a.slots.length=b.slots.length)∧a.tests.length=b.tests.length:=by (try simp at h1);refine ⟨⟨⟨?_,?_⟩,?_⟩,?_⟩<;>first|(simp_all;done)|omega
  refine wv (h:=bA (fun i e H=>(e 2=.adr a.c∧e 3=.adr b.c∧e 5=dI i)∧(i≤a.slots.length)∧(a.slots.take i=b.slots.take i)) (fun i=>a.slots.length - i) 0 ⟨wg,wi,(by rfl)⟩ fun I0 hI0 i e H hi0=>?_)
  obtain ⟨E0,hi,he⟩:=hi0
  have Y:=wa Y E0
  refine wv (h:=?_)
  repeat first|intro _|refine ⟨dR,?_⟩
  refine wq (fun h4=>?_) fun h4=>?_
  ·have hib:i<b.slots.length:=by omega
   have Y:=wa Y (wa h4 (wa (aA h4) (aA hib)))
   refine wv (h:=?_)
   repeat first|intro _|refine ⟨dR,?_⟩
   refine wq (fun h6=>?_) fun h6=>?_
   ·refine wv (h:=?_)
    have hne:a≠b:=by intro h;subst h;simp at h6
    exact hQ _ _ (by simp [go_sem,hne])
   ·exact wo (h:=wx hI0 (i+1) ⟨wg,wj,(by (rw [aE h4,aE hib,he,Gd h6]))⟩)
  ·have hS:a.slots=b.slots:=by rw [aH (by omega),aH (by omega)] at he;exact he
   refine wv (h:=bA (fun k e H=>(e 2=.adr a.c∧e 3=.adr b.c∧e 6=dI k)∧(k≤a.tests.length)∧(a.tests.take k=b.tests.take k)) (fun k=>a.tests.length - k) 0 ⟨wg,wi,(by rfl)⟩ fun I2 hI2 k e H hi2=>?_)
   obtain ⟨E2,hk,he2⟩:=hi2
   have Y:=wa Y E2
   refine wv (h:=?_)
   repeat first|intro _|refine ⟨dR,?_⟩
   refine wq (fun h9=>?_) fun h9=>?_
   ·have hkb:k<b.tests.length:=by omega
    have Y:=wa Y (wa h9 (wa (aA h9) (aA hkb)))
    refine wv (h:=?_)
    repeat first|intro _|refine ⟨dR,?_⟩
    refine wq (fun h11=>?_) fun h11=>?_
    ·refine wv (h:=?_)
     have hne:a≠b:=by intro h;subst h;simp at h11
     exact hQ _ _ (by simp [go_sem,hne])
    ·exact wo (h:=wx hI2 (k+1) ⟨wg,wj,(by (rw [aE h9,aE hkb,he2,Ga h11]))⟩)
   ·have hT:a.tests=b.tests:=by rw [aH (by omega),aH (by omega)] at he2;exact he2
    exact wv (h:=hQ _ _ (by simp [go_sem,LE,hab.1.1.1,hab.1.1.2,hS,hT]))
theorem Jo:∀ a b:Cond,Pure Tryz.prog 95 [.agg a.c,.agg b.c] (.bool (decide (a=b))):=by
 refine iP fun a ih b=>?_
 simp only [Cond.c_eq]
 refine Tz.pK ⟨fun _=>false,fun _=>[]⟩ Tryz.func95 rfl (fun Q hQ=>?_)
 have Y:=@Cond.c_eq
 refine wo (h:=aG (fun hg=>rB a.map b.map) (fun hg=>wl) ?_)
 refine wo (h:=aG (fun hg=>vQ a.pattern b.pattern) (fun hg=>wl) ?_)
 refine wv (h:=?_)
 repeat first|intro _|refine ⟨dR,?_⟩
 refine wq (fun h1=>?_) fun h1=>?_
 ·refine wv (h:=?_)
  have hne:a≠b:=by intro h;subst h;simp at h1
  exact hQ _ _ (by simp [go_sem,hne])
 ·have hab:((a.kind=b.kind∧a.kids.length=b.kids.length)∧a.map=b.map)∧a.pattern=b.pattern:=by (try simp at h1);refine ⟨⟨⟨?_,?_⟩,?_⟩,?_⟩<;>first|(simp_all;done)|omega
  refine wv (h:=bA (fun i e H=>(e 2=.adr a.c∧e 3=.adr b.c∧e 5=dI i)∧(i≤a.kids.length)∧(a.kids.take i=b.kids.take i)) (fun i=>a.kids.length - i) 0 ⟨wg,wi,(by rfl)⟩ fun I0 hI0 i e H hi0=>?_)
  obtain ⟨E0,hi,he⟩:=hi0
  have Y:=wa Y E0
  refine wv (h:=?_)
  repeat first|intro _|refine ⟨dR,?_⟩
  refine wq (fun h4=>?_) fun h4=>?_
  ·have hib:i<b.kids.length:=by omega
   have Y:=wa Y (wa h4 (wa (aA h4) (aA hib)))
   refine wo (h:=aK ((by have hz:=ih _ (aC h4) b.kids[i];rwa [Cond.c_eq,Cond.c_eq] at hz)) wl ?_)
   refine wv (h:=?_)
   repeat first|intro _|refine ⟨dR,?_⟩
   refine wq (fun h6=>?_) fun h6=>?_
   ·refine wv (h:=?_)
    have hne:a≠b:=by intro h;subst h;simp at h6
    exact hQ _ _ (by simp [go_sem,hne])
   ·exact wo (h:=wx hI0 (i+1) ⟨wg,wj,(by (rw [aE h4,aE hib,he,h6]))⟩)
  ·have hK:a.kids=b.kids:=by rw [aH (by omega),aH (by omega)] at he;exact he
   exact wv (h:=hQ _ _ (by simp [go_sem,M9,hab.1.1.1,hab.1.2,hab.2,hK]))
theorem Jj (a b:Rule):Pure Tryz.prog 32 [a.d,b.d] (.bool (decide (a=b))):=by
 have hc:=Jo a.cond b.cond
 rw [Cond.c_eq,Cond.c_eq] at hc
 refine Tz.pK ⟨fun _=>false,fun _=>[]⟩ Tryz.func32 rfl (fun Q hQ=>?_)
 have Y:=trivial
 refine wo (h:=aG (fun hg=>vQ a.left b.left) (fun hg=>wl) ?_)
 refine wo (h:=aG (fun hg=>vQ a.right b.right) (fun hg=>wl) ?_)
 refine wo (h:=aG (fun hg=>JA a.keep b.keep) (fun hg=>wl) ?_)
 refine wo (h:=aG (fun hg=>rB a.into b.into) (fun hg=>wl) ?_)
 refine wo (h:=aG (fun hg=>hc) (fun hg=>wl) ?_)
 have Y:=wa Y @Mv
 exact wo (h:=hQ _ _ wy)
theorem vO (a b:Stp26)(h1:∀ i (h1:i<a.before.values.length) (h2:i<b.before.values.length),yL a.before.values[i] b.before.values[i])(h2:∀ i (h1:i<a.after.values.length) (h2:i<b.after.values.length),yL a.after.values[i] b.after.values[i]) :
  Pure Tryz.prog 17 [.agg a.c,.agg b.c] (.bool (decide (a=b))):=by
 refine Tz.pK ⟨fun _=>false,fun _=>[]⟩ Tryz.func17 rfl (fun Q hQ=>?_)
 have Y:=wa @Stp26.c.eq_1 (wa @Rule.c.eq_1 (wa @Mat.c.eq_1 @Host.c.eq_1))
 refine F3 (h:=aB (BV a.before b.before h1) wl ?_)
 refine F3 (h:=aG (fun hg=>BV a.after b.after h2) (fun hg=>wl) ?_)
 refine F3 (h:=aG (fun hg=>Jj a.rule b.rule) (fun hg=>wl) ?_)
 refine F3 (h:=aG (fun hg=>(by have hq:=Bc a.mat b.mat;unfold Mat.d Mat.c at hq;exact hq)) (fun hg=>wl) ?_)
 refine F3 (h:=aG (fun hg=>rB a.track b.track) (fun hg=>wl) ?_)
 refine F3 (h:=aG (fun hg=>rB a.comatch b.comatch) (fun hg=>wl) ?_)
 exact F3 (h:=hQ _ _ (by rw [OJ];simp [go_sem,Bool.and_comm,Bool.and_left_comm,jT]))
/-! ### the program -/
theorem kV (a b:Part):Pure Tryz.prog 72 [a.d,b.d] (.bool (decide (a=b))):=by
 refine Tz.pK ⟨fun _=>false,fun _=>[]⟩ Tryz.func72 rfl (fun Q hQ=>?_)
 have Y:=trivial
 refine wo (h:=aB (jQ a.nodes b.nodes) wl ?_)
 refine wo (h:=aG (fun hg=>jQ a.edges b.edges) (fun hg=>wl) ?_)
 have Y:=wa Y @Ac
 exact wo (h:=hQ _ _ wy)
theorem Ke (a b:Graph):Pure Tryz.prog 257 [a.d,b.d] (.bool (decide (a=b))):=by
 refine Tz.pK ⟨fun _=>false,fun _=>[]⟩ Tryz.func257 rfl (fun Q hQ=>?_)
 have Y:=trivial
 refine wo (h:=aB (jQ a.nodes b.nodes) wl ?_)
 refine wo (h:=aG (fun hg=>y7 a.edges b.edges) (fun hg=>wl) ?_)
 have Y:=wa Y @At
 exact wo (h:=hQ _ _ wy)
theorem q6 (a b:Pattern):Pure Tryz.prog 160 [a.d,b.d] (.bool (decide (a=b))):=by
 refine Tz.pK ⟨fun _=>false,fun _=>[]⟩ Tryz.func160 rfl (fun Q hQ=>?_)
 have Y:=trivial
 refine wo (h:=aB (Ke a.graph b.graph) wl ?_)
 refine wo (h:=aG (fun hg=>ED a.slots b.slots) (fun hg=>wl) ?_)
 refine wo (h:=aG (fun hg=>EC a.tests b.tests) (fun hg=>wl) ?_)
 have Y:=wa Y @LE
 exact wo (h:=hQ _ _ wy)
theorem EE (a b:List (List Int))(g:FuncId)(hg:∀ x y:List Int,Pure Tryz.prog g [dLI x,dLI y] (.bool (decide (x=y)))):Pure Tryz.prog 164 [.list (a.map cL),.list (b.map cL),.fn g []] (.bool (decide (a=b))):=by
 refine Tz.pK ⟨fun _=>false,fun _=>[]⟩ Tryz.func164 rfl (fun Q hQ=>?_)
 have Y:=trivial
 refine wv (h:=?_)
 repeat first|intro _|refine ⟨dR,?_⟩
 refine wq (fun h1=>?_) fun h1=>?_
 ·refine wv (h:=?_)
  have hne:a≠b:=by intro h;subst h;omega
  exact hQ _ _ (by simp [go_sem,hne])
 ·refine wo (h:=bA (fun i e H=>(e 0=.list (a.map cL)∧e 1=.list (b.map cL)∧e 2=.fn g []∧e 15=.list (a.map cL)∧e 16=dI a.length∧e 17=dI i)∧(i≤a.length)∧(a.take i=b.take i)) (fun i=>a.length - i) 0 ⟨wg,wi,(by rfl)⟩ fun I0 hI0 i e H hi0=>?_)
  obtain ⟨E0,hi,he⟩:=hi0
  have Y:=wa Y E0
  refine c4 (fun h4=>?_) fun h4=>?_
  ·have hib:i<b.length:=by omega
   have Y:=wa Y (wa h4 (wa (aA h4) (wa (aA hib) @cL.eq_1)))
   refine wo (h:=aB (hg a[i] b[i]) wl ?_)
   refine wv (h:=?_)
   repeat first|intro _|refine ⟨dR,?_⟩
   refine wq (fun h7=>?_) fun h7=>?_
   ·refine wv (h:=?_)
    have hne:a≠b:=by intro h;subst h;exact h7 rfl
    exact hQ _ _ (by simp [go_sem,hne])
   ·exact wo (h:=wx hI0 (i+1) ⟨wg,wj,(by (rw [aE h4,aE hib,he,h7]))⟩)
  ·have hab:a=b:=by rw [aH (by omega),aH (by omega)] at he;exact he
   exact wv (h:=hQ _ _ (by simp [go_sem,hab]))
theorem EF (a b:List Cond)(g:FuncId)(hg:∀ x∈a,∀ y:Cond,Pure Tryz.prog g [.agg x.c,.agg y.c] (.bool (decide (x=y)))):Pure Tryz.prog 259 [.list (a.map Cond.c),.list (b.map Cond.c),.fn g []] (.bool (decide (a=b))):=by
 refine Tz.pK ⟨fun t=>t==8||t==9,fun _=>[]⟩ Tryz.func259 rfl (fun Q hQ=>?_)
 have Y:=@Cond.c_eq
 refine wv (h:=?_)
 repeat first|intro _|refine ⟨dR,?_⟩
 refine wq (fun h1=>?_) fun h1=>?_
 ·refine wv (h:=?_)
  have hne:a≠b:=by intro h;subst h;omega
  exact hQ _ _ (by simp [go_sem,hne])
 ·refine wo (h:=bA (fun i e H=>(e 0=.list (a.map Cond.c)∧e 1=.list (b.map Cond.c)∧e 2=.fn g []∧e 15=.list (a.map Cond.c)∧e 16=dI a.length∧e 17=dI i)∧(i≤a.length)∧(a.take i=b.take i)) (fun i=>a.length - i) 0 ⟨wg,wi,(by rfl)⟩ fun I0 hI0 i e H hi0=>?_)
  obtain ⟨E0,hi,he⟩:=hi0
  have Y:=wa Y E0
  refine c4 (fun h4=>?_) fun h4=>?_
  ·have hib:i<b.length:=by omega
   have Y:=wa Y (wa h4 (wa (aA h4) (aA hib)))
   refine wo (h:=aB ((by have hz:=hg _ (aC h4) b[i];rwa [Cond.c_eq,Cond.c_eq] at hz)) wl ?_)
   refine wv (h:=?_)
   repeat first|intro _|refine ⟨dR,?_⟩
   refine wq (fun h7=>?_) fun h7=>?_
   ·refine wv (h:=?_)
    have hne:a≠b:=by intro h;subst h;exact h7 rfl
    exact hQ _ _ (by simp [go_sem,hne])
   ·exact wo (h:=wx hI0 (i+1) ⟨wg,wj,(by (rw [aE h4,aE hib,he,h7]))⟩)
  ·have hab:a=b:=by rw [aH (by omega),aH (by omega)] at he;exact he
   exact wv (h:=hQ _ _ (by simp [go_sem,hab]))
theorem CP:∀ a b:Cond,Pure Tryz.prog 162 [.agg a.c,.agg b.c] (.bool (decide (a=b))):=by
 refine iP fun a ih b=>?_
 simp only [Cond.c_eq]
 refine Tz.pK ⟨fun t=>t==5||t==6,fun r=>match r with|1=>[(0,4),(1,4),(2,4),(3,4),(0,5),(1,5),(2,5),(3,5),(4,5),(2,6),(3,6)]|_=>[]⟩ Tryz.func162 rfl (fun Q hQ=>?_)
 have Y:=@Cond.c_eq
 refine wo (h:=aG (fun hg=>kV a.map b.map) (fun hg=>wl) ?_)
 refine wo (h:=aG (fun hg=>jQ a.pattern.graph.nodes b.pattern.graph.nodes) (fun hg=>wl) ?_)
 refine wo (h:=aG (fun hg=>y7 a.pattern.graph.edges b.pattern.graph.edges) (fun hg=>wl) ?_)
 refine eF (fun h2=>?_) fun h2=>?_
 ·refine wv (h:=?_)
  have hne:a≠b:=by intro h;subst h;simp at h2
  exact hQ _ _ (by simp [go_sem,hne])
 ·have hab:(((a.kind=b.kind∧a.map=b.map)∧a.pattern.vars=b.pattern.vars)∧a.pattern.graph.nodes=b.pattern.graph.nodes)∧a.pattern.graph.edges=b.pattern.graph.edges:=by (try simp at h2);refine ⟨⟨⟨⟨?_,?_⟩,?_⟩,?_⟩,?_⟩<;>first|(simp_all;done)|omega
  refine wo (h:=aB (ED a.pattern.slots b.pattern.slots) wl ?_)
  refine wo (h:=aG (fun hg=>EC a.pattern.tests b.pattern.tests) (fun hg=>wl) ?_)
  refine wo (h:=aG (fun hg=>EF a.kids b.kids 162 ih) (fun hg=>wl) ?_)
  exact wo (h:=hQ _ _ (by rw [M9,LE,At];simp [go_sem,hab.1.1.1.1,hab.1.1.1.2,hab.1.1.2,hab.1.2,hab.2]))
theorem Ll (a b:Rule):Pure Tryz.prog 69 [a.d,b.d] (.bool (decide (a=b))):=by
 have hc:=CP a.cond b.cond
 rw [Cond.c_eq,Cond.c_eq] at hc
 refine Tz.pK ⟨fun _=>false,fun _=>[]⟩ Tryz.func69 rfl (fun Q hQ=>?_)
 have Y:=trivial
 refine wo (h:=aG (fun hg=>q6 a.left b.left) (fun hg=>wl) ?_)
 refine wo (h:=aG (fun hg=>q6 a.right b.right) (fun hg=>wl) ?_)
 refine wo (h:=aG (fun hg=>jQ a.keep.nodes b.keep.nodes) (fun hg=>wl) ?_)
 refine wo (h:=aG (fun hg=>jQ a.keep.edges b.keep.edges) (fun hg=>wl) ?_)
 refine wo (h:=aG (fun hg=>kV a.into b.into) (fun hg=>wl) ?_)
 refine wo (h:=aG (fun hg=>hc) (fun hg=>wl) ?_)
 exact wo (h:=hQ _ _ (by rw [Mv,Ac a.keep b.keep];simp [go_sem,jT]))
theorem Cz (a b:Mat):Pure Tryz.prog 70 [a.d,b.d] (.bool (decide (a=b))):=by
 refine Tz.pK ⟨fun _=>false,fun _=>[]⟩ Tryz.func70 rfl (fun Q hQ=>?_)
 have Y:=wa @Mat.d.eq_1 @Mat.c.eq_1
 refine wo (h:=aB (kV a.m b.m) wl ?_)
 refine wo (h:=aG (fun hg=>jQ a.vars b.vars) (fun hg=>wl) ?_)
 have Y:=wa Y @O3
 exact wo (h:=hQ _ _ wy)
theorem Eo (a b:Host):Pure Tryz.prog 71 [a.d,b.d] (.bool (decide (a=b))):=by
 refine Tz.pK ⟨fun _=>false,fun _=>[]⟩ Tryz.func71 rfl (fun Q hQ=>?_)
 have Y:=wa @Host.d.eq_1 @Host.c.eq_1
 refine wo (h:=aB (jQ a.graph.nodes b.graph.nodes) wl ?_)
 refine wo (h:=aG (fun hg=>y7 a.graph.edges b.graph.edges) (fun hg=>wl) ?_)
 refine wo (h:=aG (fun hg=>EE a.values b.values 161 jQ) (fun hg=>wl) ?_)
 have Y:=wa Y (wa @MU @At)
 exact wo (h:=hQ _ _ wy)
theorem yP (a b:Stp26):Pure Tryz.prog 21 [.agg a.c,.agg b.c] (.bool (decide (a=b))):=by
 refine Tz.pK ⟨fun _=>false,fun _=>[]⟩ Tryz.func21 rfl (fun Q hQ=>?_)
 have Y:=wa @Stp26.c.eq_1 (wa @Rule.c.eq_1 (wa @Mat.c.eq_1 @Host.c.eq_1))
 refine F3 (h:=aB (Ll a.rule b.rule) wl ?_)
 refine F3 (h:=aG (fun hg=>(by have hq:=Cz a.mat b.mat;unfold Mat.d Mat.c at hq;exact hq)) (fun hg=>wl) ?_)
 refine F3 (h:=aG (fun hg=>Eo a.before b.before) (fun hg=>wl) ?_)
 refine F3 (h:=aG (fun hg=>Eo a.after b.after) (fun hg=>wl) ?_)
 refine F3 (h:=aG (fun hg=>kV a.track b.track) (fun hg=>wl) ?_)
 refine F3 (h:=aG (fun hg=>kV a.comatch b.comatch) (fun hg=>wl) ?_)
 exact F3 (h:=hQ _ _ (by rw [OJ];simp [go_sem,jT]))
def fewM (m:Mat)(n:Int):Bool:=fewPart m.m n&&decide ((m.vars.length:Int)≤n)
theorem vP (m:Mat)(hm:m.m.le)(n:Int):Pure Tryz.prog 14 [m.d,dI n] (.bool (fewM m n)):=by
 refine Tz.pK ⟨fun _=>false,fun _=>[]⟩ Tryz.func14 rfl (fun Q hQ=>?_)
 have Y:=wa @Mat.d.eq_1 @Mat.c.eq_1
 refine wo (h:=aB (sM m.m hm n) wl ?_)
 have Y:=wa Y @fewM.eq_1
 exact wo (h:=hQ _ _ wy)
theorem BM (t:Types)(ht:t.ok)(s:Stp26)(hr:s.rule.ok){v:Stp26}{e:Int}(hv:v=iU t s.rule s.before s.mat)(he:e=qL t s.rule s.before s.mat) :
  Pure Tryz.prog 18 [t.d,.agg s.c] (.bool (decide (e=0)&&decide (v=s))):=by
 have cA:=zQ t ht s.rule hr s.before s.mat hv he
 have cS:=yP v s
 simp only [Stp26.c,Rule.c,Mat.c,Host.c,eL,eN] at cA cS
 unfold Mat.d Mat.c Host.d Host.c dLI at cA
 refine Tz.pK ⟨fun t=>t==5,fun _=>[]⟩ Tryz.func18 rfl (fun Q hQ=>?_)
 have Y:=wa @Stp26.c.eq_1 (wa @Rule.c.eq_1 (wa @Mat.c.eq_1 @Host.c.eq_1))
 refine KS (h:=aB (cA) wl ?_)
 refine CY (h:=aG (fun hg=>cS) (fun hg=>wl) ?_)
 exact CY (h:=hQ _ _ wy)
theorem HG (t:Types)(ht:t.ok)(s:Stp26)(hr:s.rule.ok){v:Stp26}{e:Int}(hv:v=iU t s.rule s.before s.mat)(he:e=qL t s.rule s.before s.mat)
  (h1:∀ i (h1:i<v.before.values.length) (h2:i<s.before.values.length),yL v.before.values[i] s.before.values[i]) (h2:∀ i (h1:i<v.after.values.length) (h2:i<s.after.values.length),yL v.after.values[i] s.after.values[i]) :
  Pure Tryz.prog 20 [t.d,.agg s.c] (.bool (decide (e=0)&&decide (v=s))):=by
 have cA:=Ng t ht s.rule hr s.before s.mat hv he
 have cS:=vO v s h1 h2
 simp only [Stp26.c,Rule.c,Mat.c,Host.c,eL,eN] at cA cS
 unfold Mat.d Mat.c dLI at cA
 refine Tz.pK ⟨fun t=>t==5,fun _=>[]⟩ Tryz.func20 rfl (fun Q hQ=>?_)
 have Y:=wa @Stp26.c.eq_1 (wa @Rule.c.eq_1 (wa @Mat.c.eq_1 @Host.c.eq_1))
 refine KS (h:=aB (cA) wl ?_)
 refine CY (h:=aG (fun hg=>cS) (fun hg=>wl) ?_)
 exact CY (h:=hQ _ _ wy)
theorem CH (t:Types)(h1:∀ n∈t.nodes,n.attrs.length≤1000000000000000)(r:Rule)(hr:r.le)(h:Host)(m:Mat)(hm:m.m.le):Pure Tryz.prog 3 [t.d,r.d,.agg (h.c++m.c)] (.bool true):=by
 obtain ⟨b,hb⟩:∃ b,b=light26 t r h:=⟨_,rfl⟩
 have hLg:=z1 t h1 r hr h
 rw [← hb] at hLg
 obtain ⟨b2,hb2⟩:∃ b,b=fewM m 140:=⟨_,rfl⟩
 have hFg:=vP m hm 140
 rw [← hb2] at hFg
 obtain ⟨v,hv⟩:∃ v,v=iU t r h m:=⟨_,rfl⟩
 obtain ⟨e,he⟩:∃ e,e=qL t r h m:=⟨_,rfl⟩
 have cS:=vO v v (fun i _ _=>EP _) (fun i _ _=>EP _)
 have hOk:b=true→t.ok∧r.ok:=fun hbt=>Eb (t:=t) (r:=r) (h:=h) (by rw [← hb];exact hbt)
 have cA:b=true→Pure Tryz.prog 15 [t.d,r.d,h.d,m.d] (.tup [.agg v.c,dI e]):=fun hbt=>zQ t (hOk hbt).1 r (hOk hbt).2 h m hv he
 have cB:b=true→Pure Tryz.prog 16 [t.d,r.d,h.d,m.d] (.tup [.agg v.c,dI e]):=fun hbt=>Ng t (hOk hbt).1 r (hOk hbt).2 h m hv he
 have cK:b=true→e=0→Pure Tryz.prog 18 [t.d,.agg v.c] (.bool true):=fun hbt he0=>by
  have hvo:v=yQ t r h m:=by rw [hv];unfold iU;rw [if_pos (by omega)]
  have e1:v.rule=r:=by rw [hvo];rfl
  have e2:v.before=h:=by rw [hvo];rfl
  have e3:v.mat=m:=by rw [hvo];rfl
  have hq:=BM t (hOk hbt).1 v (by rw [e1];exact (hOk hbt).2) (v:=v) (e:=e) (by rw [e1,e2,e3];exact hv) (by rw [e1,e2,e3];exact he)
  rw [he0] at hq
  simpa using hq
 simp only [Stp26.c,Rule.c,Mat.c,Host.c,eL,eN] at cA cB cS cK
 unfold Mat.d Mat.c Host.d Host.c dLI at cA
 unfold Mat.d Mat.c dLI at cB
 clear hb hb2 hv he hOk
 refine Tz.pK ⟨fun t=>t==7||t==9,fun _=>[]⟩ Tryz.func3 rfl (fun Q hQ=>?_)
 have Y:=wa @Stp26.c.eq_1 (wa @Rule.c.eq_1 (wa @Mat.c.eq_1 @Host.c.eq_1))
 refine CY (h:=aB (rH) wl ?_)
 refine CY (h:=aG (fun hg=>hLg) (fun hg=>wl) ?_)
 refine CY (h:=aG (fun hg=>(by unfold Mat.d Mat.c at hFg;exact hFg)) (fun hg=>wl) ?_)
 refine CY (h:=wq (fun h1=>?_) fun h1=>?_)
 ·refine KS (h:=aB (rH) wl ?_)
  have Y:=wa Y h1
  exact KS (h:=hQ _ _ wy)
 ·have hbt:b=true:=by cases hbb:b<;>simp [hbb] at h1 ⊢
  refine KS (h:=aB (cA hbt) wl ?_)
  refine KS (h:=aB (cB hbt) wl ?_)
  refine CY (h:=aG (fun hg=>cS) (fun hg=>wl) ?_)
  refine CY (h:=aG (fun hg=>cK hbt (by first|simpa using hg|(simp at hg;omega))) (fun hg=>wl) ?_)
  exact CY (h:=hQ _ _ (by by_cases he0:e=0<;>simp [go_sem,he0]))
structure Stp26.le (s:Stp26):Prop where
 r:s.rule.le
 m:s.mat.m.le
 t:s.track.le
 c:s.comatch.le
def Ea (t:Types)(s:Stp26):Bool:=light26 t s.rule s.before&&Av s.after&&fewM s.mat 140&&fewPart s.track 140&&fewPart s.comatch 140
theorem uJ (t:Types)(h1:∀ n∈t.nodes,n.attrs.length≤1000000000000000)(s:Stp26)(hs:s.le):Pure Tryz.prog 19 [t.d,.agg s.c] (.bool (Ea t s)):=by
 have cL:=z1 t h1 s.rule hs.r s.before
 have cH:=Bd s.after
 have cM:=vP s.mat hs.m 140
 unfold Host.d Host.c at cL cH
 unfold Mat.d Mat.c at cM
 refine Tz.pK ⟨fun _=>false,fun _=>[]⟩ Tryz.func19 rfl (fun Q hQ=>?_)
 have Y:=wa @Stp26.c.eq_1 (wa @Rule.c.eq_1 (wa @Mat.c.eq_1 @Host.c.eq_1))
 refine F3 (h:=aB (cL) wl ?_)
 refine F3 (h:=aG (fun hg=>cH) (fun hg=>wl) ?_)
 refine F3 (h:=aG (fun hg=>cM) (fun hg=>wl) ?_)
 refine F3 (h:=aG (fun hg=>sM s.track hs.t 140) (fun hg=>wl) ?_)
 refine F3 (h:=aG (fun hg=>sM s.comatch hs.c 140) (fun hg=>wl) ?_)
 exact F3 (h:=hQ _ _ (by simp [go_sem,Ea,jT]))
theorem Bj (t:Types)(h1:∀ n∈t.nodes,n.attrs.length≤1000000000000000)(s x:Stp26)(hs:s.le)(hx:x.le)
  (hC:t.ok∧s.rule.ok→∀ a:Stp26,a=iU t s.rule s.before s.mat∨a=s→∀ b:Stp26,b=s∨b=x→(∀ i (h1:i<a.before.values.length) (h2:i<b.before.values.length),yL a.before.values[i] b.before.values[i])∧(∀ i (h1:i<a.after.values.length) (h2:i<b.after.values.length),yL a.after.values[i] b.after.values[i])) :
  Pure Tryz.prog 4 [t.d,.agg s.c,.agg x.c] (.bool true):=by
 obtain ⟨b,hb⟩:∃ b,b=Ea t s:=⟨_,rfl⟩
 have cL:=uJ t h1 s hs
 rw [← hb] at cL
 obtain ⟨b2,hb2⟩:∃ b,b=Ea t x:=⟨_,rfl⟩
 have cX:=uJ t h1 x hx
 rw [← hb2] at cX
 have hOk:b=true→t.ok∧s.rule.ok:=fun hbt=>by
  rw [hb] at hbt
  unfold Ea at hbt
  simp only [aM] at hbt
  exact Eb hbt.1.1.1.1
 obtain ⟨v,hv⟩:∃ v,v=iU t s.rule s.before s.mat:=⟨_,rfl⟩
 obtain ⟨e,he⟩:∃ e,e=qL t s.rule s.before s.mat:=⟨_,rfl⟩
 have k1:=fun hb=>hC (hOk hb) v (.inl hv) s (.inl rfl)
 have k2:=fun hb=>hC (hOk hb) s (.inr rfl) x (.inr rfl)
 have cP:b=true→Pure Tryz.prog 18 [t.d,.agg s.c] (.bool (decide (e=0)&&decide (v=s))):=fun h=>BM t (hOk h).1 s (hOk h).2 hv he
 have cR:b=true→Pure Tryz.prog 20 [t.d,.agg s.c] (.bool (decide (e=0)&&decide (v=s))):=fun h=>HG t (hOk h).1 s (hOk h).2 hv he (k1 h).1 (k1 h).2
 obtain ⟨z,hz⟩:∃ z,z=(decide (e=0)&&decide (v=s)):=⟨_,rfl⟩
 rw [← hz] at cP cR
 have cS:=yP s x
 have cT:=fun h=>vO s x (k2 h).1 (k2 h).2
 obtain ⟨y,hy⟩:∃ y,y=decide (s=x):=⟨_,rfl⟩
 rw [← hy] at cS cT
 have cU:=yP s s
 rw [show decide (s=s)=true by simp] at cU
 simp only [Stp26.c,Rule.c,Mat.c,Host.c,eL,eN] at cL cX cP cR cS cT cU
 clear hb hb2 hv he hOk hC k1 k2 hz hy
 refine Tz.pK ⟨fun _=>false,fun _=>[]⟩ Tryz.func4 rfl (fun Q hQ=>?_)
 have Y:=wa @Stp26.c.eq_1 (wa @Rule.c.eq_1 (wa @Mat.c.eq_1 @Host.c.eq_1))
 refine CY (h:=aB (rH) wl ?_)
 refine CY (h:=aG (fun hg=>cL) (fun hg=>wl) ?_)
 refine CY (h:=aG (fun hg=>cX) (fun hg=>wl) ?_)
 refine CY (h:=wq (fun h1=>?_) fun h1=>?_)
 ·refine KS (h:=aB (rH) wl ?_)
  have Y:=wa Y h1
  exact KS (h:=hQ _ _ wy)
 ·have hbt:b=true:=by cases hbb:b<;>simp [hbb] at h1 ⊢
  refine CY (h:=aK (cP hbt) wl ?_)
  refine CY (h:=aK (cR hbt) wl ?_)
  refine CY (h:=dO (fun hg=>cS) (fun hg=>wl) ?_)
  refine CY (h:=dO (fun hg=>cT hbt) (fun hg=>wl) ?_)
  refine CY (h:=dO (fun hg=>cU) (fun hg=>wl) ?_)
  have Y:=wa Y h1
  exact CY (h:=hQ _ _ wy)
end Go.Abs
end
section
namespace Go.Proofs.YthalajhajpjjeaaGreat.bulks
open Go.Abs
theorem one_le {H:Type}(d:DataW H):1≤Rows.uptoBulk d:=by
 cases d with
 | lit l=>cases l<;>simp [Rows.uptoBulk]
 | _=>simp [Rows.uptoBulk]
theorem mem_le {H:Type}{d:DataW H}:∀ {l:List (DataW H)},d∈l→Rows.uptoBulk d≤Rows.uptoBulkAll l
 | [],h=>by cases h
 | x :: r,h=>by
  simp only [Rows.uptoBulkAll]
  rcases aT.1 h with rfl|h
  ·omega
  ·have:=mem_le h;omega
theorem len_le {H:Type}:∀ l:List (DataW H),l.length≤Rows.uptoBulkAll l
 | []=>by simp [Rows.uptoBulkAll]
 | x :: r=>by have:=one_le x;have:=len_le r;simp only [Rows.uptoBulkAll,eK];omega
theorem ok {H:Type}:Go.Abs.Bulk (Rows.uptoBulk (H:=H)) where
 len e s:=by have:=len_le e;simp only [Rows.uptoBulk];omega
 el e s d h:=by have:=mem_le h;simp only [Rows.uptoBulk];omega
 part l d h:=by have:=mem_le h;simp only [Rows.uptoBulk];omega
 str s:=by simp [Rows.uptoBulk]
theorem bound {H:Type}{l:List (DataW H)}(hk:Rows.uptoSmall H l=true):∀ d∈l,Rows.uptoBulk d≤1048576:=fun d hd=>by
 have h:=of_decide_eq_true hk
 have:=mem_le hd
 omega
end Go.Proofs.YthalajhajpjjeaaGreat.bulks
end
section
set_option maxRecDepth 100000
set_option maxHeartbeats 4000000
open Go Go.Proofs
namespace Go.Abs
section
variable {H:Type} {enc:TypeId × Value→H} {P:Program} {w:World} {base:Nat} {spare:Nat→Bool} {held:Bool} {bulk:DataW H→Nat} {B:Nat} {n:Nat} {t:TypeId}
end
section
variable {H:Type} {enc:TypeId × Value→H} {w:World} {base:Nat} {spare:Nat→Bool} {held:Bool} {bulk:DataW H→Nat} {B:Nat}
theorem XX:∀ n,Opens enc Tryz.prog w base spare held bulk B n 4 (fun b:Bool=>[D.bool b]) (fun _=>True):=fun n=>LF Tryz.underlying4
end
mutual
def Cond.bnd (B:Nat):Cond→Prop
 | .mk k l m p=>(m.nodes.length≤B∧m.edges.length≤B)∧Cond.bnds B l
def Cond.bnds (B:Nat):List Cond→Prop
 | []=>True
 | c :: l=>c.bnd B∧Cond.bnds B l
end
theorem FZ (B:Nat)(l:List Cond):Cond.bnds B l↔∀ c∈l,c.bnd B:=by
 induction l with
 | nil=>simp [Cond.bnds]
 | cons a l ih=>simp [Cond.bnds,ih]
theorem AU (B:Nat)(c:Cond):c.bnd B↔(c.map.nodes.length≤B∧c.map.edges.length≤B)∧∀ k∈c.kids,k.bnd B:=by cases c;simp [Cond.bnd,FZ,Cond.kids,Cond.map]
theorem Cond.bnd_le {B:Nat}(hB:B≤1000000000000000):∀ c:Cond,c.bnd B→c.le:=by
 refine iP fun c ih h=>?_
 obtain ⟨h1,h2⟩:=(AU B c).1 h
 exact (Cu c).2 ⟨⟨by omega,by omega⟩,fun k hk=>ih k hk (h2 k hk)⟩
def Rule.bnd (B:Nat)(x:Rule):Prop:=(x.keep.nodes.length≤B∧x.keep.edges.length≤B)∧(x.into.nodes.length≤B∧x.into.edges.length≤B)∧x.cond.bnd B
theorem Rule.bnd_le {B:Nat}(hB:B≤1000000000000000){r:Rule}(h:r.bnd B):r.le:=by
 obtain ⟨⟨h1,h2⟩,⟨h3,h4⟩,h5⟩:=h
 exact ⟨⟨by omega,by omega⟩,⟨by omega,by omega⟩,Cond.bnd_le hB _ h5⟩
section
variable {H:Type} {enc:TypeId × Value→H} {w:World} {base:Nat} {spare:Nat→Bool} {held:Bool} {bulk:DataW H→Nat} {B:Nat}
theorem T0 (hB:Bulk bulk):∀ n,Opens enc Tryz.prog w base spare held bulk B n 9 cS (fun _=>True):=fun n=>(HV hB Tryz.underlying9).map id (fun _=>rfl) (fun _ _=>trivial)
theorem Gt:∀ n,Opens enc Tryz.prog w base spare held bulk B n 3 cI (fun _=>True):=fun n=>(Gs Tryz.underlying3).map id (fun _=>rfl) (fun _ _=>trivial)
theorem Uf (hB:Bulk bulk):∀ n,Opens enc Tryz.prog w base spare held bulk B n 116 (fun l:List ByteArray=>[D.list (l.map cS)]) (fun l=>l.length≤B∧∀ a∈l,(fun _=>True) a)
 | 0=>Opens.zero
 | n+1=>fV hB Tryz.underlying116 (T0 hB n)
theorem Ue (hB:Bulk bulk):∀ n,Opens enc Tryz.prog w base spare held bulk B n 118 Attr.c (fun _=>True)
 | 0=>Opens.zero
 | n+1=>(dB hB Tryz.underlying118 (by kernel_rfl) (aU (T0 hB n) (aU (Gt n) (aU (Gt n) (aU (Uf hB n) d9))))).map (fun p=>⟨p.1,p.2.1,p.2.2.1,p.2.2.2.1⟩) (fun p=>rfl) (fun p h=>trivial)
theorem Ug (hB:Bulk bulk):∀ n,Opens enc Tryz.prog w base spare held bulk B n 113 (fun l:List Attr=>[D.list (l.map Attr.c)]) (fun l=>l.length≤B∧∀ a∈l,(fun _=>True) a)
 | 0=>Opens.zero
 | n+1=>fV hB Tryz.underlying113 (Ue hB n)
theorem Ub (hB:Bulk bulk):∀ n,Opens enc Tryz.prog w base spare held bulk B n 172 NodeTy.c (fun x=>x.attrs.length≤B)
 | 0=>Opens.zero
 | n+1=>(dB hB Tryz.underlying172 (by kernel_rfl) (aU (T0 hB n) (aU (Gt n) (aU (XX n) (aU (Ug hB n) d9))))).map (fun p=>⟨p.1,p.2.1,p.2.2.1,p.2.2.2.1⟩) (fun p=>rfl) (fun p h=>h.2.2.2.1.1)
theorem Xm (hB:Bulk bulk):∀ n,Opens enc Tryz.prog w base spare held bulk B n 22 (fun l:List NodeTy=>[D.list (l.map NodeTy.c)]) (fun l=>l.length≤B∧∀ a∈l,(fun x=>x.attrs.length≤B) a)
 | 0=>Opens.zero
 | n+1=>fV hB Tryz.underlying22 (Ub hB n)
theorem Ua (hB:Bulk bulk):∀ n,Opens enc Tryz.prog w base spare held bulk B n 174 EdgeTy.c (fun _=>True)
 | 0=>Opens.zero
 | n+1=>(dB hB Tryz.underlying174 (by kernel_rfl) (aU (T0 hB n) (aU (Gt n) (aU (Gt n) (aU (Gt n) (aU (Gt n) (aU (Gt n) (aU (Gt n) d9)))))))).map (fun p=>⟨p.1,p.2.1,p.2.2.1,p.2.2.2.1,p.2.2.2.2.1,p.2.2.2.2.2.1,p.2.2.2.2.2.2.1⟩) (fun p=>rfl) (fun p h=>trivial)
theorem Xl (hB:Bulk bulk):∀ n,Opens enc Tryz.prog w base spare held bulk B n 23 (fun l:List EdgeTy=>[D.list (l.map EdgeTy.c)]) (fun l=>l.length≤B∧∀ a∈l,(fun _=>True) a)
 | 0=>Opens.zero
 | n+1=>fV hB Tryz.underlying23 (Ua hB n)
theorem T9 (hB:Bulk bulk):∀ n,Opens enc Tryz.prog w base spare held bulk B n 25 Types.c (fun x=>x.nodes.length≤B∧x.edges.length≤B∧∀ n∈x.nodes,n.attrs.length≤B)
 | 0=>Opens.zero
 | n+1=>(dB hB Tryz.underlying25 (by kernel_rfl) (aU (Xm hB n) (aU (Xl hB n) d9))).map (fun p=>⟨p.1,p.2.1⟩) (fun p=>rfl) (fun p h=>⟨h.1.1,h.2.1.1,h.1.2⟩)
theorem LG (hB:Bulk bulk):∀ n,Opens enc Tryz.prog w base spare held bulk B n 26 (fun l:List Int=>[D.list (l.map cI)]) (fun l=>l.length≤B∧∀ a∈l,(fun _=>True) a)
 | 0=>Opens.zero
 | n+1=>fV hB Tryz.underlying26 (Gt n)
theorem Ud (hB:Bulk bulk):∀ n,Opens enc Tryz.prog w base spare held bulk B n 122 Edge.c (fun _=>True)
 | 0=>Opens.zero
 | n+1=>(dB hB Tryz.underlying122 (by kernel_rfl) (aU (Gt n) (aU (Gt n) (aU (Gt n) d9)))).map (fun p=>⟨p.1,p.2.1,p.2.2.1⟩) (fun p=>rfl) (fun p h=>trivial)
theorem Xk (hB:Bulk bulk):∀ n,Opens enc Tryz.prog w base spare held bulk B n 27 (fun l:List Edge=>[D.list (l.map Edge.c)]) (fun l=>l.length≤B∧∀ a∈l,(fun _=>True) a)
 | 0=>Opens.zero
 | n+1=>fV hB Tryz.underlying27 (Ud hB n)
theorem RE (hB:Bulk bulk):∀ n,Opens enc Tryz.prog w base spare held bulk B n 29 Graph.c (fun x=>x.nodes.length≤B∧x.edges.length≤B)
 | 0=>Opens.zero
 | n+1=>(dB hB Tryz.underlying29 (by kernel_rfl) (aU (LG hB n) (aU (Xk hB n) d9))).map (fun p=>⟨p.1,p.2.1⟩) (fun p=>rfl) (fun p h=>⟨h.1.1,h.2.1.1⟩)
theorem OY (hB:Bulk bulk):∀ n,Opens enc Tryz.prog w base spare held bulk B n 157 Term.c (fun _=>True)
 | 0=>Opens.zero
 | n+1=>(dB hB Tryz.underlying157 (by kernel_rfl) (aU (Gt n) (aU (Gt n) d9))).map (fun p=>⟨p.1,p.2.1⟩) (fun p=>rfl) (fun p h=>trivial)
theorem Uc (hB:Bulk bulk):∀ n,Opens enc Tryz.prog w base spare held bulk B n 159 Slot.c (fun _=>True)
 | 0=>Opens.zero
 | n+1=>(dB hB Tryz.underlying159 (by kernel_rfl) (aU (Gt n) (aU (Gt n) (aU (OY hB n) d9)))).map (fun p=>⟨p.1,p.2.1,p.2.2.1⟩) (fun p=>by simp [Slot.c,Term.c,cI,dI]) (fun p h=>trivial)
theorem Xj (hB:Bulk bulk):∀ n,Opens enc Tryz.prog w base spare held bulk B n 30 (fun l:List Slot=>[D.list (l.map Slot.c)]) (fun l=>l.length≤B∧∀ a∈l,(fun _=>True) a)
 | 0=>Opens.zero
 | n+1=>fV hB Tryz.underlying30 (Uc hB n)
theorem T8 (hB:Bulk bulk):∀ n,Opens enc Tryz.prog w base spare held bulk B n 254 Test.c (fun _=>True)
 | 0=>Opens.zero
 | n+1=>(dB hB Tryz.underlying254 (by kernel_rfl) (aU (Gt n) (aU (OY hB n) (aU (OY hB n) d9)))).map (fun p=>⟨p.1,p.2.1,p.2.2.1⟩) (fun p=>by simp [Test.c,Term.c,cI,dI]) (fun p h=>trivial)
theorem Xi (hB:Bulk bulk):∀ n,Opens enc Tryz.prog w base spare held bulk B n 31 (fun l:List Test=>[D.list (l.map Test.c)]) (fun l=>l.length≤B∧∀ a∈l,(fun _=>True) a)
 | 0=>Opens.zero
 | n+1=>fV hB Tryz.underlying31 (T8 hB n)
theorem RD (hB:Bulk bulk):∀ n,Opens enc Tryz.prog w base spare held bulk B n 33 Pattern.c (fun _=>True)
 | 0=>Opens.zero
 | n+1=>(dB hB Tryz.underlying33 (by kernel_rfl) (aU (RE hB n) (aU (Xj hB n) (aU (Gt n) (aU (Xi hB n) d9))))).map (fun p=>⟨p.1,p.2.1,p.2.2.1,p.2.2.2.1⟩) (fun p=>by simp [Pattern.c,Graph.c,cI,dI]) (fun p h=>trivial)
theorem Xh (hB:Bulk bulk):∀ n,Opens enc Tryz.prog w base spare held bulk B n 35 Part.c (fun x=>x.nodes.length≤B∧x.edges.length≤B)
 | 0=>Opens.zero
 | n+1=>(dB hB Tryz.underlying35 (by kernel_rfl) (aU (LG hB n) (aU (LG hB n) d9))).map (fun p=>⟨p.1,p.2.1⟩) (fun p=>rfl) (fun p h=>⟨h.1.1,h.2.1.1⟩)
theorem OX (hB:Bulk bulk):∀ n,Opens enc Tryz.prog w base spare held bulk B n 36 Part.c (fun x=>x.nodes.length≤B∧x.edges.length≤B)
 | 0=>Opens.zero
 | n+1=>(dB hB Tryz.underlying36 (by kernel_rfl) (aU (LG hB n) (aU (LG hB n) d9))).map (fun p=>⟨p.1,p.2.1⟩) (fun p=>rfl) (fun p h=>⟨h.1.1,h.2.1.1⟩)
theorem T6 (hB:Bulk bulk):∀ n,Opens enc Tryz.prog w base spare held bulk B n 39 Cond.c (fun c=>c.bnd B)
 | 0=>Opens.zero
 | n+1 =>
  have hk:Opens enc Tryz.prog w base spare held bulk B n 37 (fun l:List Cond=>[D.list (l.map Cond.c)]) (fun l=>l.length≤B∧∀ a∈l,Cond.bnd B a):=match n with
   | 0=>Opens.zero
   | m+1=>fV hB Tryz.underlying37 ((T6 hB (m+1)).mono (Nat.le_succ m))
  (dB hB Tryz.underlying39 (by kernel_rfl) (aU (Gt n) (aU hk (aU (OX hB n) (aU (RD hB n) d9))))).map (fun p=>Cond.mk p.1 p.2.1 p.2.2.1 p.2.2.2.1) (fun p=>by simp [Cond.c,Cond.cs_eq,Part.c,Pattern.c,cI,dI]) (fun p h=>(AU B _).2 ⟨h.2.2.1,h.2.1.2⟩)
theorem T5 (hB:Bulk bulk):∀ n,Opens enc Tryz.prog w base spare held bulk B n 41 Rule.c (fun x=>(x.keep.nodes.length≤B∧x.keep.edges.length≤B)∧(x.into.nodes.length≤B∧x.into.edges.length≤B)∧x.cond.bnd B)
 | 0=>Opens.zero
 | n+1=>(dB hB Tryz.underlying41 (by kernel_rfl) (aU (T0 hB n) (aU (RD hB n) (aU (RD hB n) (aU (Xh hB n) (aU (OX hB n) (aU (XX n) (aU (T6 hB n) d9)))))))).map (fun p=>⟨p.1,p.2.1,p.2.2.1,p.2.2.2.1,p.2.2.2.2.1,p.2.2.2.2.2.1,p.2.2.2.2.2.2.1⟩) (fun p=>by simp [Rule.c,Pattern.c,Part.c,Cond.c_eq,cS,cI,dI]) (fun p h=>⟨h.2.2.2.1,h.2.2.2.2.1,h.2.2.2.2.2.2.1⟩)
theorem Xf (hB:Bulk bulk):∀ n,Opens enc Tryz.prog w base spare held bulk B n 42 (fun l:List (List Int)=>[D.list (l.map (fun l:List Int=>[D.list (l.map cI)]))]) (fun l=>l.length≤B∧∀ a∈l,(fun l=>l.length≤B∧∀ a∈l,(fun _=>True) a) a)
 | 0=>Opens.zero
 | n+1=>fV hB Tryz.underlying42 (LG hB n)
theorem Xe (hB:Bulk bulk):∀ n,Opens enc Tryz.prog w base spare held bulk B n 44 Host.c (fun _=>True)
 | 0=>Opens.zero
 | n+1=>(dB hB Tryz.underlying44 (by kernel_rfl) (aU (RE hB n) (aU (Xf hB n) d9))).map (fun p=>⟨p.1,p.2.1⟩) (fun p=>rfl) (fun p h=>trivial)
end
def CR:List Int→List Int→Int
 | x :: l,y :: m=>if x≠y then IntKind.i64.wrap (x - y) else CR l m
 | l,m=>IntKind.i64.wrap ((l.length:Int) - m.length)
theorem EO {l m:List Int}(h:l=[]∨m=[]):CR l m=IntKind.i64.wrap ((l.length:Int) - m.length):=by
 rcases h with rfl|rfl
 ·cases m<;>simp [CR]
 ·cases l<;>simp [CR]
theorem G2 (x y:Int)(l m:List Int):CR (x :: l) (y :: m)=if x≠y then IntKind.i64.wrap (x - y) else CR l m:=by simp [CR]
def Iz (x:Int):Prop:=-9223372036854775808≤x∧x≤9223372036854775807
theorem PZ {x y:Int}(hx:Iz x)(hy:Iz y)(h:x≠y):IntKind.i64.wrap (x - y)≠0:=by
 rw [IntKind.wrap_i64];unfold Iz at hx hy;omega
theorem G1:∀ {a b:List Int},(∀ x∈a,Iz x)→(∀ x∈b,Iz x)→a.length≤1000000000000000→b.length≤1000000000000000→(CR a b=0↔a=b)
 | [],b,_,_,_,h2=>by
  rw [EO (.inl rfl),IntKind.wrap_i64]
  cases b with
  | nil=>simp
  | cons y m=>simp at h2 ⊢;omega
 | x :: l,[],_,_,h1,_=>by
  rw [EO (.inr rfl),IntKind.wrap_i64]
  simp at h1 ⊢;omega
 | x :: l,y :: m,ha,hb,h1,h2=>by
  have ih:=G1 (a:=l) (b:=m) (fun z hz=>ha z (dH _ hz)) (fun z hz=>hb z (dH _ hz)) (by simp at h1;omega) (by simp at h2;omega)
  rw [G2]
  by_cases h:x=y
  ·subst h
   rw [if_neg (by simp),ih];simp
  ·rw [if_pos h]
   have:=PZ (ha x (by simp)) (hb y (by simp)) h
   constructor
   ·intro h0;exact absurd h0 this
   ·intro h0;cases h0;exact absurd rfl h
theorem DN (a b:List Int):Pure Tryz.prog 107 [dLI a,dLI b] (dI (CR a b)):=by
 refine Tz.pK ⟨fun t=>t==2000000,fun _=>[]⟩ Tryz.func107 rfl (fun Q hQ=>?_)
 have Y:=trivial
 refine wv (h:=bA (fun i e H=>(e 0=dLI a∧e 1=dLI b∧e 5=dI i)∧(i≤a.length)∧(i≤b.length)∧(CR (a.drop i) (b.drop i)=CR a b)) (fun i=>a.length - i) 0 ⟨wg,wi,wi,(by rfl)⟩ fun I0 hI0 i e H hi0=>?_)
 obtain ⟨E0,hi,hi2,hc⟩:=hi0
 have Y:=wa Y E0
 refine wv (h:=?_)
 repeat first|intro _|refine ⟨dR,?_⟩
 refine wq (fun h2=>?_) fun h2=>?_
 ·have hia:i<a.length:=by omega
  have hib:i<b.length:=by omega
  have hst:=hc
  rw [eE hia,eE hib,G2] at hst
  have Y:=wa Y (wa h2 (wa (aA hia) (aA hib)))
  refine wv (h:=?_)
  repeat first|intro _|refine ⟨dR,?_⟩
  refine wq (fun h4=>?_) fun h4=>?_
  ·rw [if_pos h4] at hst
   exact wo (h:=hQ _ _ (by simp [go_sem,← hst]))
  ·rw [if_neg (by simpa using h4)] at hst
   exact wo (h:=wx hI0 (i+1) ⟨wg,wj,wj,(by exact hst)⟩)
 ·have hX:CR a b=IntKind.i64.wrap ((a.length:Int) - b.length):=by
   rw [← hc,EO]
   ·congr 1;rw [fK,fK];omega
   ·rcases bN i a.length with h|h
    ·right;rw [List.drop_eq_nil_iff];omega
    ·left;rw [List.drop_eq_nil_iff];omega
  exact wo (h:=hQ _ _ (by simp [go_sem,hX]))
theorem Kv {a b:List Int}(ha:∀ x∈a,Iz x)(hb:∀ x∈b,Iz x)(h1:a.length≤1000000000000000)(h2:b.length≤1000000000000000):yL a b:=⟨_,DN a b,G1 ha hb h1 h2⟩
section
variable {H:Type} {enc:TypeId × Value→H} {w:World} {base:Nat} {spare:Nat→Bool} {held:Bool} {bulk:DataW H→Nat} {B:Nat}
theorem T2 (hB:Bulk bulk):∀ n,Opens enc Tryz.prog w base spare held bulk B n 46 Mat.c (fun m=>m.m.nodes.length≤B∧m.m.edges.length≤B)
 | 0=>Opens.zero
 | n+1=>(dB hB Tryz.underlying46 (by kernel_rfl) (aU (OX hB n) (aU (LG hB n) (d9)))).map (fun p=>⟨p.1,p.2.1⟩) (fun p=>by simp [Mat.c,Part.c,dLI]) (fun p h=>h.1)
theorem Xd (hB:Bulk bulk):∀ n,Opens enc Tryz.prog w base spare held bulk B n 48 (fun x:Host × Mat=>x.1.c++x.2.c) (fun x=>x.2.m.nodes.length≤B∧x.2.m.edges.length≤B)
 | 0=>Opens.zero
 | n+1=>(dB hB Tryz.underlying48 (by kernel_rfl) (aU (Xe hB n) (aU (T2 hB n) (d9)))).map (fun p=>(p.1,p.2.1)) (fun p=>by simp) (fun p h=>h.2.1)
theorem RP {z:Int}(h:(Lit.int .i64 z).wf=true):Iz z:=by
 have h1:IntKind.i64.min = -9223372036854775808:=by decide
 have h2:IntKind.i64.max=9223372036854775807:=by decide
 simp only [Lit.wf,aM,decide_eq_true_eq,h1,h2] at h
 exact h
theorem Xg:∀ n,Opens enc Tryz.prog w base spare held bulk B n 3 cI Iz:=fun n=>(Gs Tryz.underlying3).map id (fun _=>rfl) (fun z h=>RP h)
theorem T7 (hB:Bulk bulk):∀ n,Opens enc Tryz.prog w base spare held bulk B n 26 (fun l:List Int=>[D.list (l.map cI)]) (fun l=>l.length≤B∧∀ x∈l,Iz x)
 | 0=>Opens.zero
 | n+1=>(fV hB Tryz.underlying26 (Xg n)).map id (fun _=>rfl) (fun l h=>h)
theorem T3 (hB:Bulk bulk):∀ n,Opens enc Tryz.prog w base spare held bulk B n 42 (fun l:List (List Int)=>[D.list (l.map cL)]) (fun l=>∀ v∈l,v.length≤B∧∀ x∈v,Iz x)
 | 0=>Opens.zero
 | n+1=>(fV hB Tryz.underlying42 (T7 hB n)).map id (fun _=>rfl) (fun l h=>h.2)
theorem QS (hB:Bulk bulk):∀ n,Opens enc Tryz.prog w base spare held bulk B n 44 Host.c (fun h=>∀ v∈h.values,v.length≤B∧∀ x∈v,Iz x)
 | 0=>Opens.zero
 | n+1=>(dB hB Tryz.underlying44 (by kernel_rfl) (aU (RE hB n) (aU (T3 hB n) (d9)))).map (fun p=>⟨p.1,p.2.1⟩) (fun p=>by simp [Host.c,Graph.c]) (fun p h=>h.2.1)
structure Stp26.bnd (B:Nat) (s:Stp26):Prop where
 r:s.rule.bnd B
 m:s.mat.m.nodes.length≤B∧s.mat.m.edges.length≤B
 b:∀ v∈s.before.values,v.length≤B∧∀ x∈v,Iz x
 a:∀ v∈s.after.values,v.length≤B∧∀ x∈v,Iz x
 t:s.track.nodes.length≤B∧s.track.edges.length≤B
 c:s.comatch.nodes.length≤B∧s.comatch.edges.length≤B
theorem T1 (hB:Bulk bulk):∀ n,Opens enc Tryz.prog w base spare held bulk B n 53 Stp26.c (fun s=>s.bnd B)
 | 0=>Opens.zero
 | n+1=>(dB hB Tryz.underlying53 (by kernel_rfl) (aU (T5 hB n) (aU (T2 hB n) (aU (QS hB n) (aU (QS hB n) (aU (OX hB n) (aU (OX hB n) (d9)))))))).map (fun p=>⟨p.1,p.2.1,p.2.2.1,p.2.2.2.1,p.2.2.2.2.1,p.2.2.2.2.2.1⟩) (fun p=>by simp [Stp26.c,Part.c]) (fun p h=>⟨h.1,h.2.1,h.2.2.1,h.2.2.2.1,h.2.2.2.2.1,h.2.2.2.2.2.1⟩)
end
theorem Stp26.bnd_le {B:Nat}(hB:B≤1000000000000000){s:Stp26}(h:s.bnd B):s.le:=⟨Rule.bnd_le hB h.r,⟨by have:=h.m.1;omega,by have:=h.m.2;omega⟩,⟨by have:=h.t.1;omega,by have:=h.t.2;omega⟩,⟨by have:=h.c.1;omega,by have:=h.c.2;omega⟩⟩
theorem CG (t:Types)(h1:∀ n∈t.nodes,n.attrs.length≤1000000000000000)(s x:Stp26){B:Nat}(hB:B≤1000000000000000)(hs:s.bnd B)(hx:x.bnd B):Pure Tryz.prog 4 [t.d,.agg s.c,.agg x.c] (.bool true):=by
 refine Bj t h1 s x (Stp26.bnd_le hB hs) (Stp26.bnd_le hB hx) fun hO a ha b hb=>?_
 have key:∀ {l m:List (List Int)},(∀ v∈l,v.length≤B∧∀ x∈v,Iz x)→(∀ v∈m,v.length≤B∧∀ x∈v,Iz x)→∀ i (h1:i<l.length) (h2:i<m.length),yL l[i] m[i]:=fun hl hm i h1 h2=>by
  have a1:=hl _ (aC h1)
  have a2:=hm _ (aC h2)
  exact Kv a1.2 a2.2 (by omega) (by omega)
 have hbb:(∀ v∈b.before.values,v.length≤B∧∀ x∈v,Iz x)∧∀ v∈b.after.values,v.length≤B∧∀ x∈v,Iz x:=by
  rcases hb with rfl|rfl
  ·exact ⟨hs.b,hs.a⟩
  ·exact ⟨hx.b,hx.a⟩
 rcases ha with rfl|rfl
 ·unfold iU
  split
  ·rename_i h0
   have hg:fC t s.rule s.before=0∧gP t s.rule s.before s.mat=0:=by
    unfold qL at h0
    split at h0
    ·contradiction
    ·rename_i hh;exact ⟨by simpa using hh,h0⟩
   have hz:=Bn hg.1
   have S:=Rn (OO hO.2 hz.1) (tZ hz.2) hg.2
   have hr:=(tZ S.after).row
   refine ⟨key hs.b hbb.1,fun i h1 h2=>?_⟩
   have a1:=hr _ (aC h1)
   have a2:=hbb.2 _ (aC h2)
   exact Kv (fun z hz=>by have:=a1.2 z hz;unfold Iz;omega) a2.2 (by have:=a1.1;omega) (by omega)
  ·exact ⟨fun i h1 _=>by simp [lI] at h1,fun i h1 _=>by simp [lI] at h1⟩
 ·exact ⟨key hs.b hbb.1,key hs.a hbb.2⟩
end Go.Abs
end
