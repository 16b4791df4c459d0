/- Layer 24: rules. · Layer 24: rules, continued. · Layer 24, t -/
import Derived.Test.YthalajhajpjjeaaGreatZeF
import Derived.Test.YthalajhajpjjeaaGreatZeJ
import Derived.Test.YthalajhajpjjeaaGreatZeA
import Derived.Test.YthalajhajpjjeaaGreatZeI
set_option linter.unusedVariables false
set_option linter.unusedSimpArgs false
section
set_option maxRecDepth 100000
set_option maxHeartbeats 4000000
open Go Go.Proofs
namespace Go.Abs
attribute [go_sem] Rule.c Rule.d
@[go_sem] theorem VY (o:Option Attr)(a0 a1 a2 a3:D):((Option.map Attr.c o).getD [a0,a1,a2,a3]).length=4:=by cases o<;>rfl
@[go_sem] theorem VW (o:Option NodeTy)(a0 a1 a2 a3:D):((Option.map NodeTy.c o).getD [a0,a1,a2,a3]).length=4:=by cases o<;>rfl
@[go_sem] theorem S4 (o:Option EdgeTy)(a0 a1 a2 a3 a4 a5 a6:D):((Option.map EdgeTy.c o).getD [a0,a1,a2,a3,a4,a5,a6]).length=7:=by cases o<;>rfl
@[go_sem] theorem UH (o:Option Edge)(a0 a1 a2:D):((Option.map Edge.c o).getD [a0,a1,a2]).length=3:=by cases o<;>rfl
@[go_sem] theorem VU (o:Option Slot)(a0 a1 a2 a3:D):((Option.map Slot.c o).getD [a0,a1,a2,a3]).length=4:=by cases o<;>rfl
@[go_sem] theorem VT (o:Option Test)(a0 a1 a2 a3 a4:D):((Option.map Test.c o).getD [a0,a1,a2,a3,a4]).length=5:=by cases o<;>rfl
@[go_sem] theorem UG (o:Option Stage)(a0 a1:D):((Option.map Stage.c o).getD [a0,a1]).length=2:=by cases o<;>rfl
@[go_sem] theorem Xv (o:Option Int)(a0:D):((Option.map cI o).getD [a0]).length=1:=by cases o<;>rfl
@[go_sem] theorem Xt (o:Option ByteArray)(a0:D):((Option.map cS o).getD [a0]).length=1:=by cases o<;>rfl
@[go_sem] theorem VX (o:Option Bool)(a0:D):((Option.map cB o).getD [a0]).length=1:=by cases o<;>rfl
theorem IZ (t:Types)(a:Int):Pure Tryz.prog 372 [dI a,.adr t.c] (.bool (decide ((t.nodes.length:Int)≤a))):=by
 refine Tz.pK ⟨fun _=>false,fun _=>[]⟩ Tryz.func372 rfl (fun Q hQ=>?_)
 have Y:=trivial
 exact wo (h:=hQ _ _ wy)
theorem IY (t:Types)(x:Edge):Pure Tryz.prog 373 [.agg x.c,.adr t.c] (.bool (decide ((t.edges.length:Int)≤x.type))):=by
 refine Tz.pK ⟨fun _=>false,fun _=>[]⟩ Tryz.func373 rfl (fun Q hQ=>?_)
 have Y:=trivial
 exact wo (h:=hQ _ _ wy)
theorem Lh (t:Types)(g:Graph):Pure Tryz.prog 312 [t.d,g.d] (.bool (f8 t g)):=by
 have h1:=fI g.nodes 372 [.adr t.c] (fun a=>decide ((t.nodes.length:Int)≤a)) (by simp [go_sem]) (by simp [go_sem]) (fun a _=>IZ t a)
 have h2:=j7 g.edges 373 [.adr t.c] (fun x=>decide ((t.edges.length:Int)≤x.type)) (by simp [go_sem]) (by simp [go_sem]) (fun x _=>IY t x)
 have he:f8 t g=((!(g.nodes.any fun n=>decide ((t.nodes.length:Int)≤n)))&&!(g.edges.any fun x=>decide ((t.edges.length:Int)≤x.type))):=rfl
 generalize (g.nodes.any fun n=>decide ((t.nodes.length:Int)≤n))=u at *
 generalize (g.edges.any fun x=>decide ((t.edges.length:Int)≤x.type))=v at *
 rw [he]
 refine Tz.pK ⟨fun _=>false,fun _=>[]⟩ Tryz.func312 rfl (fun Q hQ=>?_)
 have Y:=trivial
 refine wo (h:=aB (h1) wl ?_)
 refine wo (h:=aG (fun hg=>h2) (fun hg=>wl) ?_)
 exact wo (h:=hQ _ _ wy)
def sameSlot (x y:Slot):Bool:=decide (y.node=x.node)&&decide (y.attr=x.attr)
theorem Li (x y:Slot):Pure Tryz.prog 375 [.agg y.c,.adr x.c] (.bool (sameSlot x y)):=by
 refine Tz.pK ⟨fun _=>false,fun _=>[]⟩ Tryz.func375 rfl (fun Q hQ=>?_)
 have Y:=trivial
 have Y:=wa Y @sameSlot.eq_1
 exact wo (h:=hQ _ _ wy)
def tL (t:Types)(p:Pattern)(i:Nat):Int:=match p.slots[i]? with
 | some s=>if fN t p s≠0 then 6 else if ((p.slots.take i).any (sameSlot s))=true then 5 else 0
 | none=>0
theorem A5 {t:Types}{p:Pattern}{i:Nat}(h:i<p.slots.length):tL t p i=if fN t p p.slots[i]≠0 then 6 else if ((p.slots.take i).any (sameSlot p.slots[i]))=true then 5 else 0:=by
 unfold tL;rw [aA h]
theorem Nu (t:Types)(ht:t.ok)(r:Rule)(hr:r.right.graph.nodes.length≤1000)(i:Nat)(hi:i<r.right.slots.length):Pure Tryz.prog 313 [t.d,r.d,dI i] (dI (tL t r.right i)):=by
 have hS:=A5 (t:=t) hi
 have h8:=nX ht (r.right.kind r.right.slots[i].node)
 have hdup:=rO (r.right.slots.take i) 375 [.adr r.right.slots[i].c] (sameSlot r.right.slots[i]) (by simp [go_sem]) (by simp only [D.cl];exact Dq _) (fun y _=>Li r.right.slots[i] y)
 refine Tz.pK ⟨fun t=>t==7||t==10,fun _=>[]⟩ Tryz.func313 rfl (fun Q hQ=>?_)
 have Y:=wa (aA hi) hi
 refine eF (fun h2=>?_) fun h2=>?_
 ·have hE:fN t r.right r.right.slots[i]≠0:=by
   unfold fN;rw [if_neg];decide;intro h;simp [j5] at h;omega
  rw [if_pos hE] at hS
  exact wv (h:=hQ _ _ (by simp [go_sem,hS]))
 ·have hn:r.right.slots[i].node.toNat<r.right.graph.nodes.length:=by omega
  have hk:r.right.kind r.right.slots[i].node=r.right.graph.nodes[r.right.slots[i].node.toNat]:=by simp [Pattern.kind,hn]
  rw [hk] at h8
  have Y:=wa Y (wa (aA hn) hk)
  refine wo (h:=aK (oE t ht r.right.graph.nodes[r.right.slots[i].node.toNat]) wl ?_)
  refine eF (fun h6=>?_) fun h6=>?_
  ·have hE:fN t r.right r.right.slots[i]≠0:=by
    unfold fN;rw [if_neg];decide;intro h;simp [j5,inF,hk] at h;omega
   rw [if_pos hE] at hS
   exact wv (h:=hQ _ _ (by simp [go_sem,hS]))
  ·have hE:fN t r.right r.right.slots[i]=0:=by
    unfold fN;rw [if_pos];simp [j5,inF,hk];omega
   rw [if_neg (by omega)] at hS
   have hsl:(i:Int)≤r.right.slots.length:=by omega
   refine wo (h:=rP (hdup) wr wl rfl ?_)
   refine eF (fun h8=>?_) fun h8=>?_
   ·exact wv (h:=hQ _ _ (by rw [hS,if_pos (by rw [aW];exact h8)];simp [go_sem]))
   ·exact wv (h:=hQ _ _ (by rw [hS,if_neg (by rw [aW];rintro ⟨x,hx,hs⟩;have:=h8 x hx;rw [this] at hs;cases hs)];simp [go_sem]))
def gW (t:Types)(r:Rule):Int :=
 if graphF r.right.graph≠0 then graphF r.right.graph
 else if f8 t r.right.graph=false then 13
 else if r.right.vars≠r.left.vars∨0<r.right.tests.length then 1
 else if 10<r.right.slots.length then 3
 else bJ (tL t r.right) 0 r.right.slots.length
theorem Lj (t:Types)(ht:t.ok)(r:Rule):Pure Tryz.prog 223 [t.d,r.d] (dI (gW t r)):=by
 refine Tz.pK ⟨fun _=>false,fun _=>[]⟩ Tryz.func223 rfl (fun Q hQ=>?_)
 have Y:=trivial
 refine wv (h:=aB (kW r.right.graph) wl ?_)
 refine c4 (fun h2=>?_) fun h2=>?_
 ·exact wv (h:=hQ _ _ (.inl (by simp [go_sem,gW,h2])))
 ·have hg:=bK h2
  refine wo (h:=aB (Lh t r.right.graph) wl ?_)
  refine eF (fun h4=>?_) fun h4=>?_
  ·exact wv (h:=hQ _ _ (.inl (by simp [go_sem,gW,h2,h4])))
  ·refine eF (fun h6=>?_) fun h6=>?_
   ·have hR:gW t r=1:=by unfold gW;rw [if_neg (by omega),if_neg (by simp [h4]),if_pos (by omega)]
    exact wv (h:=hQ _ _ (.inl (by simp [go_sem,hR])))
   ·have h6':¬ (r.right.vars≠r.left.vars∨0<r.right.tests.length):=by
     rintro (h|h)
     ·exact h h6.1
     ·have:=h6.2;simp [this] at h
    refine eF (fun h8=>?_) fun h8=>?_
    ·have hR:gW t r=3:=by unfold gW;rw [if_neg (by omega),if_neg (by simp [h4]),if_neg h6',if_pos (by omega)]
     exact wv (h:=hQ _ _ (.inl (by simp [go_sem,hR])))
    ·have hR:gW t r=bJ (tL t r.right) 0 r.right.slots.length:=by unfold gW;rw [if_neg (by omega),if_neg (by simp [h4]),if_neg h6',if_neg (by omega)]
     refine wo (h:=bA (fun i e H=>(e 2=.adr t.c∧e 3=.adr r.c∧e 46=dI r.right.slots.length∧e 47=dI i)∧(i≤r.right.slots.length)∧(bJ (tL t r.right) i (r.right.slots.length - i)=gW t r)) (fun i=>r.right.slots.length - i) 0 ⟨wg,wi,(by (exact hR.symm))⟩ fun I1 hI1 i e H hi1=>?_)
     obtain ⟨E1,hi,hF⟩:=hi1
     have Y:=wa Y E1
     refine c4 (fun h11=>?_) fun h11=>?_
     ·have hst:=hF
      rw [d7 _ h11] at hst
      have Y:=wa Y h11
      refine wv (h:=aB (Nu t ht r (by omega) i h11) wl ?_)
      refine c4 (fun h14=>?_) fun h14=>?_
      ·rw [if_pos (by omega)] at hst
       exact wv (h:=hQ _ _ (.inl (by simp [go_sem,hst])))
      ·rw [if_neg (by omega)] at hst
       exact wo (h:=wx hI1 (i+1) ⟨wg,wj,(by exact hst)⟩)
     ·exact wv (h:=hQ _ _ (.inl (by rw [← hF,show r.right.slots.length - i=0 by omega];rfl)))
def b5 (l:List Int)(n:Nat):List Int:=((List.range n).filter fun (i:Nat)=>!mem l i).map fun (b:Nat)=>(b:Int)
theorem jX {l:List Int}{n:Nat}{x:Int}(h:x∈b5 l n):0≤x∧x<n:=by
 simp only [b5,bG,fZ,b6] at h
 obtain ⟨a,⟨h1,_⟩,rfl⟩:=h
 omega
theorem jY (l:List Int)(n:Nat):(b5 l n).length≤n:=by
 unfold b5;rw [bW];exact dW (oC _ _) (by simp)
theorem BQ (l:List Int)(n:Nat)(hn:n≤1000000):Pure Tryz.prog 280 [dLI l,dI n] (dLI (b5 l n)):=by
 refine Tz.pK ⟨fun t=>t==5,fun _=>[]⟩ Tryz.func280 rfl (fun Q hQ=>?_)
 have Y:=trivial
 refine wv (h:=bA (fun i e H=>∃ xs:List Int,(e 0=dLI l∧e 7=dI n∧e 5=.own 0 xs.length∧e 8=dI i)∧(H.get 0=some ⟨3,1,xs.map cI,false⟩)∧(0<H.next)∧(i≤n)∧(xs.length≤i)∧(xs=((List.range i).filter fun (b:Nat)=>!mem l b).map (fun (b:Nat)=>(b:Int)))) (fun i=>n - i) 0 ⟨([]),wg,wn,wn,wi,(by simp),(by rfl)⟩ fun I0 hI0 i e H hi0=>?_)
 obtain ⟨xs,E0,g0_0,n0_0,hi,hl,hx⟩:=hi0
 have Y:=wa Y (wa E0 (wa g0_0 (bZ n0_0)))
 refine c4 (fun h3=>?_) fun h3=>?_
 ·have Y:=wa Y h3
  refine wo (h:=aB (fT l i) wl ?_)
  refine eF (fun h5=>?_) fun h5=>?_
  ·have Y:=wa Y h5
   exact wo (h:=wx hI0 (i+1) ⟨(xs++(if (!mem l i)=true then [(i:Int)] else [])),wg,wn,wn,wj,(by (rw [aV];split<;>simp<;>omega)),(by (rw [cO,← hx]))⟩)
  ·have Y:=wa Y h5
   exact wo (h:=wx hI0 (i+1) ⟨(xs++(if (!mem l i)=true then [(i:Int)] else [])),wg,wn,wn,wj,(by (rw [aV];split<;>simp<;>omega)),(by (rw [cO,← hx]))⟩)
 ·exact wv (h:=hQ _ _ (by simp [go_sem,Y,b5];rw [hx,show i=n by omega];simp))
def keptF (r:Rule):Int :=
 if subF r.left.graph r.keep≠0 then subF r.left.graph r.keep
 else if dV (bY r.left.graph r.keep) r.right.graph r.into≠0 then dV (bY r.left.graph r.keep) r.right.graph r.into
 else if Eg (bY r.left.graph r.keep) r.right.graph r.into=false then 11 else 0
structure Rule.ok (r:Rule):Prop where
 name:r.name.size≤100000
 k1:r.keep.nodes.length≤1000000
 k2:r.keep.edges.length≤1000000
 i1:r.into.nodes.length≤1000000
 i2:r.into.edges.length≤1000000
 cond:r.cond.ok
 size:r.cond.size≤1000000
theorem Nv (r:Rule)(hr:r.ok):Pure Tryz.prog 224 [r.d] (dI (keptF r)):=by
 obtain ⟨_,hk1,hk2,hi1,hi2,_,_⟩:=hr
 refine Tz.pK ⟨fun t=>t==3||t==4,fun _=>[]⟩ Tryz.func224 rfl (fun Q hQ=>?_)
 have Y:=trivial
 refine wv (h:=aB (A2 r.left.graph r.keep hk1 hk2) wl ?_)
 refine c4 (fun h2=>?_) fun h2=>?_
 ·have Y:=wa Y (wa h2 @keptF.eq_1)
  exact wv (h:=hQ _ _ wy)
 ·refine wv (h:=aB (mS (bY r.left.graph r.keep) r.right.graph r.into) wl ?_)
  refine c4 (fun h5=>?_) fun h5=>?_
  ·have Y:=wa Y (wa h2 (wa h5 @keptF.eq_1))
   exact wv (h:=hQ _ _ wy)
  ·refine wo (h:=aB (p8 (bY r.left.graph r.keep) r.right.graph r.into hi1 hi2) wl ?_)
   refine eF (fun h7=>?_) fun h7=>?_
   ·have Y:=wa Y (wa h2 (wa h5 (wa h7 @keptF.eq_1)))
    exact wv (h:=hQ _ _ wy)
   ·have Y:=wa Y (wa h2 (wa h5 (wa h7 @keptF.eq_1)))
    exact wv (h:=hQ _ _ wy)
def absB (t:Types)(g:Graph)(i:Int):Bool:=((t.nodes[(gN g i).toNat]?).map (·.abs)).getD false
def unfitB (t:Types)(g:Graph)(k:Int):Bool:=!l9 t (g.edges[k.toNat]?.getD bS).type (gN g (g.edges[k.toNat]?.getD bS).from_) (gN g (g.edges[k.toNat]?.getD bS).to_)
def v8 (t:Types)(g:Graph)(nodes edges:List Int):Bool:=(!(nodes.any (absB t g)))&&!(edges.any (unfitB t g))
theorem l6 {t:Types}{g:Graph}(h0:graphF g=0)(h:f8 t g=true):(∀ a∈g.nodes,0≤a∧a<t.nodes.length)∧∀ x∈g.edges,(0≤x.type∧x.type<t.edges.length)∧(0≤x.from_∧x.from_<g.nodes.length)∧(0≤x.to_∧x.to_<g.nodes.length):=by
 obtain ⟨h1,h2⟩:=dP h0
 simp [f8] at h
 exact ⟨fun a ha=>⟨(h1 a ha).1,h.1 a ha⟩,fun x hx=>⟨⟨(h2 x hx).1.1,h.2 x hx⟩,(h2 x hx).2⟩⟩
theorem Fv (t:Types)(g:Graph)(h0:graphF g=0)(hT:f8 t g=true)(i:Int)(hi0:0≤i)(hi1:i<g.nodes.length):Pure Tryz.prog 282 [dI i,.adr t.c,.adr g.c] (.bool (absB t g i)):=by
 have hk:i.toNat<g.nodes.length:=by omega
 have hin:=(l6 h0 hT).1 _ (aC hk)
 have hn:g.nodes[i.toNat].toNat<t.nodes.length:=by omega
 refine Tz.pK ⟨fun _=>false,fun _=>[]⟩ Tryz.func282 rfl (fun Q hQ=>?_)
 have Y:=wa (aA hk) (aA hn)
 have Y:=wa Y (wa @absB.eq_1 @gN.eq_1)
 exact wo (h:=hQ _ _ wy)
theorem Fu (t:Types)(ht:t.ok)(g:Graph)(h0:graphF g=0)(hT:f8 t g=true)(k:Int)(hi0:0≤k)(hi1:k<g.edges.length):Pure Tryz.prog 283 [dI k,.adr g.c,.adr t.c] (.bool (unfitB t g k)):=by
 have hk:k.toNat<g.edges.length:=by omega
 have hin:=(l6 h0 hT).2 _ (aC hk)
 have hf:g.edges[k.toNat].from_.toNat<g.nodes.length:=by omega
 have hto:g.edges[k.toNat].to_.toNat<g.nodes.length:=by omega
 refine Tz.pK ⟨fun t=>t==5,fun _=>[]⟩ Tryz.func283 rfl (fun Q hQ=>?_)
 have Y:=wa (aA hk) (wa (aA hf) (aA hto))
 refine wo (h:=aK (De t ht _ _ _) wl ?_)
 have Y:=wa Y (wa @unfitB.eq_1 @gN.eq_1)
 exact wo (h:=hQ _ _ wy)
theorem HB (t:Types)(ht:t.ok)(g:Graph)(h0:graphF g=0)(hT:f8 t g=true)(nodes edges:List Int)(hn:∀ i∈nodes,0≤i∧i<g.nodes.length)(he:∀ k∈edges,0≤k∧k<g.edges.length):Pure Tryz.prog 201 [t.d,g.d,dLI nodes,dLI edges] (.bool (v8 t g nodes edges)):=by
 have h1:=fI nodes 282 [.adr t.c,.adr g.c] (absB t g) (by simp [go_sem]) (by simp [go_sem]) (fun i hi=>Fv t g h0 hT i (hn i hi).1 (hn i hi).2)
 have h2:=fI edges 283 [.adr g.c,.adr t.c] (unfitB t g) (by simp [go_sem]) (by simp [go_sem]) (fun k hk=>Fu t ht g h0 hT k (he k hk).1 (he k hk).2)
 have hM:v8 t g nodes edges=((!(nodes.any (absB t g)))&&!(edges.any (unfitB t g))):=rfl
 generalize nodes.any (absB t g)=u at *
 generalize edges.any (unfitB t g)=v at *
 rw [hM]
 refine Tz.pK ⟨fun _=>false,fun _=>[]⟩ Tryz.func201 rfl (fun Q hQ=>?_)
 have Y:=trivial
 refine wo (h:=aB (h1) wl ?_)
 refine wo (h:=aG (fun hg=>h2) (fun hg=>wl) ?_)
 exact wo (h:=hQ _ _ wy)
def Rule.freshN (r:Rule):List Int:=b5 r.into.nodes r.right.graph.nodes.length
def Rule.freshE (r:Rule):List Int:=b5 r.into.edges r.right.graph.edges.length
theorem HC (r:Rule)(h1:r.right.graph.nodes.length≤1000000)(h2:r.right.graph.edges.length≤1000000):Pure Tryz.prog 225 [r.d] (.tup [dLI r.freshN,dLI r.freshE]):=by
 refine Tz.pK ⟨fun _=>false,fun _=>[]⟩ Tryz.func225 rfl (fun Q hQ=>?_)
 have Y:=trivial
 refine wo (h:=aK (BQ r.into.nodes _ h1) wl ?_)
 refine wo (h:=aK (BQ r.into.edges _ h2) wl ?_)
 have Y:=wa Y (wa @Rule.freshN.eq_1 @Rule.freshE.eq_1)
 exact wo (h:=hQ _ _ wy)
def ruleF (t:Types)(r:Rule):Int :=
 if (b8 t).2≠0 then (b8 t).2
 else if kF r.name=false then 2
 else if bV t r.left≠0 then bV t r.left
 else if gW t r≠0 then gW t r
 else if keptF r≠0 then keptF r
 else if v8 t r.right.graph r.freshN r.freshE=false then 13
 else condF t r.left r.cond
theorem A9 {t:Types}{r:Rule}(h:gW t r=0):graphF r.right.graph=0∧f8 t r.right.graph=true:=by
 unfold gW at h
 split at h
 ·rename_i h1;exact absurd h h1
 ·rename_i h1
  split at h
  ·cases h
  ·rename_i h2;exact ⟨by omega,by simpa using h2⟩
theorem Lk (t:Types)(ht:t.ok)(r:Rule)(hr:r.ok):Pure Tryz.prog 136 [t.d,r.d] (dI (ruleF t r)):=by
 have hcv:=uQ t ht r.left r.cond hr.cond hr.size
 rw [Cond.c_eq] at hcv
 refine Tz.pK ⟨fun _=>false,fun _=>[]⟩ Tryz.func136 rfl (fun Q hQ=>?_)
 have Y:=trivial
 refine wv (h:=aB (l5 t ht) wl ?_)
 refine c4 (fun h2=>?_) fun h2=>?_
 ·have Y:=wa Y (wa h2 @ruleF.eq_1)
  exact wv (h:=hQ _ _ wy)
 ·refine wo (h:=aB (mK r.name hr.name) wl ?_)
  refine eF (fun h4=>?_) fun h4=>?_
  ·have Y:=wa Y (wa h2 (wa h4 @ruleF.eq_1))
   exact wv (h:=hQ _ _ wy)
  ·refine wv (h:=aB (lS t ht r.left) wl ?_)
   refine c4 (fun h7=>?_) fun h7=>?_
   ·have Y:=wa Y (wa h2 (wa h4 (wa h7 @ruleF.eq_1)))
    exact wv (h:=hQ _ _ wy)
   ·refine wv (h:=aB (Lj t ht r) wl ?_)
    refine c4 (fun h10=>?_) fun h10=>?_
    ·have Y:=wa Y (wa h2 (wa h4 (wa h7 (wa h10 @ruleF.eq_1))))
     exact wv (h:=hQ _ _ wy)
    ·have hg:=A9 h10
     have hgl:=bK hg.1
     refine wv (h:=aB (Nv r hr) wl ?_)
     refine c4 (fun h13=>?_) fun h13=>?_
     ·have Y:=wa Y (wa h2 (wa h4 (wa h7 (wa h10 (wa h13 @ruleF.eq_1)))))
      exact wv (h:=hQ _ _ wy)
     ·refine wv (h:=aB (HC r (by omega) (by omega)) wl ?_)
      refine wo (h:=aB (HB t ht r.right.graph hg.1 hg.2 r.freshN r.freshE (fun i hi=>jX hi) (fun i hi=>jX hi)) wl ?_)
      refine eF (fun h16=>?_) fun h16=>?_
      ·have Y:=wa Y (wa h2 (wa h4 (wa h7 (wa h10 (wa h13 (wa h16 @ruleF.eq_1))))))
       exact wv (h:=hQ _ _ wy)
      ·refine wv (h:=aB (hcv) wl ?_)
       have Y:=wa Y (wa h2 (wa h4 (wa h7 (wa h10 (wa h13 (wa h16 @ruleF.eq_1))))))
       exact wv (h:=hQ _ _ wy)
theorem Ap {l:List Int}{v:Int}(hs:l.Pairwise (· < ·))(hm:mem l v=true):IE l v=sQ l v:=by
 obtain ⟨i,hi,he⟩:=aO ((c6 l v).1 hm)
 have hpw:=eD.1 hs
 rw [sX (i:=i) (fun j hj h=>by
   have hjl:j<l.length:=by omega
   rw [aA hjl] at h
   have:=hpw j i hjl hi hj
   simp at h;omega) (by rw [aA hi,he])]
 rw [MF (n:=i) (fun j hj h=>by have:=hpw j i hj hi h;omega) (by omega) (fun _=>by omega)]
theorem nM {α:Type}{f:α→Int}:∀ {l:List α},fO f l=0→∀ x∈l,f x=0
 | [],_,x,hx=>by cases hx
 | a :: l,h,x,hx=>by
  unfold fO at h
  split at h
  ·rename_i h1;exact absurd h h1
  ·rename_i h1
   rcases aT.1 hx with h2|h2
   ·subst h2;omega
   ·exact nM h x h2
theorem A3 {g:Graph}{p:Part}(h:subF g p=0):∀ k∈p.edges,mem p.nodes (g.edges[k.toNat]?.getD bS).from_=true∧mem p.nodes (g.edges[k.toNat]?.getD bS).to_=true:=by
 unfold subF oY at h
 split at h
 ·rename_i h1;exact absurd h h1
 ·split at h
  ·rename_i h2;exact absurd h h2
  ·split at h
   ·rename_i h3;exact absurd h h3
   ·intro k hk
    have:=nM h k hk
    unfold wK at this
    split at this
    ·rename_i h4;simpa using h4
    ·cases this
theorem x8 (g:Graph)(p:Part)(hl:p.nodes.length≤1000000)(hle:p.edges.length≤1000000):Pure Tryz.prog 167 [g.d,p.d] (.tup [(bY g p).d,(yD g p).d,dI (subF g p)]):=by
 refine Tz.pK ⟨fun t=>t==4||t==5||t==8||t==11||t==76||t==80,fun r=>match r with|8=>[(0,11),(1,11)]|12=>[(0,9),(1,9),(2,9),(3,9),(5,9),(6,9),(7,9),(8,9)]|13=>[(0,15),(1,15)]|14=>[(0,1),(1,2),(1,3),(0,4),(0,5),(1,5),(2,5),(3,5),(4,5),(1,6),(4,6),(5,6),(1,7),(4,7),(5,7),(0,8)]|_=>[]⟩ Tryz.func167 rfl (fun Q hQ=>?_)
 try simp [go_sem,seval]
 refine aB (vV g p) ((by first|rfl|(simp [go_sem,← List.map_take,← List.map_drop];done))) ?_
 try simp [go_sem,seval]
 refine aP (fun h2=>?_) (fun h2=>?_)
 ·try simp [go_sem] at h2
  try simp [go_sem,seval]
  exact hQ _ _ (by first|(left;(simp [go_sem,bY,yD,h2]);done)|(right;(simp [go_sem,bY,yD,h2]);done))
 ·try simp [go_sem] at h2
  obtain ⟨hg,hs,hin,hie⟩:=wV h2
  have hends:=A3 h2
  try simp [go_sem,seval]
  obtain ⟨I0,hI0⟩:∃ I0:Nat→dA→AHeap→Prop,∀ (i:Nat) (e:dA) (H:AHeap),I0 i e H↔(∃ xs:List Int,(e 2=.adr g.c)∧(e 3=.adr p.c)∧(e 4=.ptr 0 1 0 0)∧(e 5=.ptr 1 1 0 0)∧(e 8=.ptr 2 1 0 0)∧(e 9=dI i)∧(H.get 0=some ⟨29,2,[[.nil,.nil]],false⟩)∧(0<H.next)∧(H.get 1=some ⟨36,2,[[.nil,.nil]],false⟩)∧(1<H.next)∧(H.get 2=some ⟨29,2,[[.own 3 xs.length,.nil]],false⟩)∧(2<H.next)∧(H.get 3=some ⟨3,1,xs.map cI,false⟩)∧(3<H.next)∧(i≤p.nodes.length)∧(xs=(p.nodes.take i).map (gN g))):=⟨fun i e H=>_,fun _ _ _=>Iff.rfl⟩
  refine LM (Ghosts.step (Ghosts.refl _) 2 0 0 3 1 _ _ (rfl) rfl rfl rfl) I0 (fun i=>p.nodes.length - i) (0) ((hI0 _ _ _).2 ⟨([]),?_,?_,?_,?_,?_,?_,?_,?_,?_,?_,?_,?_,?_,?_,(by first|assumption|omega|(simp [go_sem];done)|(simp_all;done)),(by rfl)⟩) ?_
  iterate 14 (first|omega|(simp [go_sem,seval]<;>omega))
  intro i e H hi0
  obtain ⟨xs,q2_0,q3_0,q4_0,q5_0,q8_0,q9_0,g0_0,n0_0,g1_0,n1_0,g2_0,n2_0,g3_0,n3_0,hi,hx⟩:=(hI0 _ _ _).1 hi0
  have x0:=bZ n0_0
  have x1:=bZ n1_0
  have x2:=bZ n2_0
  have x3:=bZ n3_0
  have F0:=And.intro q2_0 (And.intro q3_0 (And.intro q4_0 (And.intro q5_0 (And.intro q8_0 (And.intro q9_0 (And.intro g0_0 (And.intro g1_0 (And.intro g2_0 (And.intro g3_0 (And.intro x0 (And.intro x1 (And.intro x2 x3))))))))))))
  try simp [go_sem,seval,F0]
  repeat first|intro _|refine ⟨eZ,?_⟩
  refine aP (fun h6=>?_) (fun h6=>?_)
  ·try simp [go_sem] at h6
   have hin':=hin _ (aC h6)
   have hk:p.nodes[i].toNat<g.nodes.length:=by omega
   have hxl:xs.length=i:=by rw [hx];simp;omega
   try simp [go_sem,seval,F0,h6,aA hk,gN]
   repeat first|intro _|refine ⟨eZ,?_⟩
   refine fR (i+1) (by omega) ((hI0 _ _ _).2 ⟨(xs++[gN g p.nodes[i]]),?_,?_,?_,?_,?_,?_,?_,?_,?_,?_,?_,?_,?_,?_,(by first|assumption|omega|(simp [go_sem,F0,h6,aA hk,gN,h2];done)|(simp_all<;>omega)),(by (rw [jF _ h6,← hx]))⟩)<;>first|omega|(simp [go_sem,seval,F0,h6,aA hk,gN]<;>omega)
  ·try simp [go_sem] at h6
   have hX:xs=p.nodes.map (gN g):=by rw [hx,j6 _ (by omega)]
   try simp [go_sem,seval,F0]
   obtain ⟨I2,hI2⟩:∃ I2:Nat→dA→AHeap→Prop,∀ (k:Nat) (e:dA) (H:AHeap),I2 k e H↔(∃ j:Nat,∃ ys:List Edge,(e 2=.adr g.c)∧(e 3=.adr p.c)∧(e 4=.ptr 0 1 0 0)∧(e 5=.ptr 1 1 0 0)∧(e 8=.ptr 2 1 0 0)∧(e 10=dI k)∧(H.get 0=some ⟨29,2,[[.nil,.nil]],false⟩)∧(0<H.next)∧(H.get 1=some ⟨36,2,[[.nil,.nil]],false⟩)∧(1<H.next)∧(H.get 2=some ⟨29,2,[[.own 3 xs.length,.own j ys.length]],false⟩)∧(2<H.next)∧(H.get 3=some ⟨3,1,xs.map cI,false⟩)∧(3<H.next)∧(H.get j=some ⟨122,3,ys.map Edge.c,false⟩)∧(j<H.next)∧(k≤p.edges.length)∧(ys=(p.edges.take k).map (gEd g p))∧(j≠0)∧(j≠1)∧(j≠2)∧(j≠3)):=⟨fun k e H=>_,fun _ _ _=>Iff.rfl⟩
   refine LM (Ghosts.step (Ghosts.refl _) 2 0 1 122 3 _ _ (g2_0) rfl rfl rfl) I2 (fun k=>p.edges.length - k) (0) ((hI2 _ _ _).2 ⟨(H.next),([]),?_,?_,?_,?_,?_,?_,?_,?_,?_,?_,?_,?_,?_,?_,?_,?_,(by first|assumption|omega|(simp [go_sem,F0];done)|(simp_all;done)),(by rfl),(by omega),(by omega),(by omega),(by omega)⟩) ?_
   iterate 16 (first|omega|(simp [go_sem,seval,F0]<;>omega))
   intro k e H hi2
   obtain ⟨j,ys,q2_2,q3_2,q4_2,q5_2,q8_2,q10_2,g0_2,n0_2,g1_2,n1_2,g2_2,n2_2,g3_2,n3_2,gj_2,nj_2,hk,hy,j0,j1,j2,j3⟩:=(hI2 _ _ _).1 hi2
   have x0:=bZ n0_2
   have x1:=bZ n1_2
   have x2:=bZ n2_2
   have x3:=bZ n3_2
   have xj:=bZ nj_2
   have F2:=And.intro q2_2 (And.intro q3_2 (And.intro q4_2 (And.intro q5_2 (And.intro q8_2 (And.intro q10_2 (And.intro g0_2 (And.intro g1_2 (And.intro g2_2 (And.intro g3_2 (And.intro gj_2 (And.intro x0 (And.intro x1 (And.intro x2 (And.intro x3 xj))))))))))))))
   try simp [go_sem,seval,F2,j0,j1,j2,j3,j0.symm,j1.symm,j2.symm,j3.symm]
   repeat first|intro _|refine ⟨eZ,?_⟩
   refine aP (fun h10=>?_) (fun h10=>?_)
   ·try simp [go_sem] at h10
    have hie':=hie _ (aC h10)
    have hke:p.edges[k].toNat<g.edges.length:=by omega
    have hyl:ys.length=k:=by rw [hy];simp;omega
    have hen:=hends _ (aC h10)
    rw [aA hke,aD] at hen
    have hi1:=Ap hs hen.1
    have hi2:=Ap hs hen.2
    try simp [go_sem,seval,F2,j0,j1,j2,j3,j0.symm,j1.symm,j2.symm,j3.symm,h10,aA hke,gEd,hi1,hi2]
    repeat first|intro _|refine ⟨eZ,?_⟩
    refine aK (BW p.nodes _) ((by first|rfl|(simp [go_sem,← List.map_take,← List.map_drop,F2,j0,j1,j2,j3,j0.symm,j1.symm,j2.symm,j3.symm,h10,aA hke,gEd,hi1,hi2];done))) ?_
    try simp [go_sem,seval,F2,j0,j1,j2,j3,j0.symm,j1.symm,j2.symm,j3.symm,h10,aA hke,gEd,hi1,hi2]
    repeat first|intro _|refine ⟨eZ,?_⟩
    refine aK (BW p.nodes _) ((by first|rfl|(simp [go_sem,← List.map_take,← List.map_drop,F2,j0,j1,j2,j3,j0.symm,j1.symm,j2.symm,j3.symm,h10,aA hke,gEd,hi1,hi2];done))) ?_
    try simp [go_sem,seval,F2,j0,j1,j2,j3,j0.symm,j1.symm,j2.symm,j3.symm,h10,aA hke,gEd,hi1,hi2]
    repeat first|intro _|refine ⟨eZ,?_⟩
    refine fR (k+1) (by omega) ((hI2 _ _ _).2 ⟨(j),(ys++[gEd g p p.edges[k]]),?_,?_,?_,?_,?_,?_,?_,?_,?_,?_,?_,?_,?_,?_,?_,?_,(by first|assumption|omega|(simp [go_sem,F2,j0,j1,j2,j3,j0.symm,j1.symm,j2.symm,j3.symm,h10,aA hke,gEd,hi1,hi2,h2,h6];done)|(simp_all<;>omega)),(by (rw [jF _ h10,← hy])),(by first|assumption|omega|(simp [go_sem,F2,j0,j1,j2,j3,j0.symm,j1.symm,j2.symm,j3.symm,h10,aA hke,gEd,hi1,hi2,h2,h6];done)|(simp_all<;>omega)),(by first|assumption|omega|(simp [go_sem,F2,j0,j1,j2,j3,j0.symm,j1.symm,j2.symm,j3.symm,h10,aA hke,gEd,hi1,hi2,h2,h6];done)|(simp_all<;>omega)),(by first|assumption|omega|(simp [go_sem,F2,j0,j1,j2,j3,j0.symm,j1.symm,j2.symm,j3.symm,h10,aA hke,gEd,hi1,hi2,h2,h6];done)|(simp_all<;>omega)),(by first|assumption|omega|(simp [go_sem,F2,j0,j1,j2,j3,j0.symm,j1.symm,j2.symm,j3.symm,h10,aA hke,gEd,hi1,hi2,h2,h6];done)|(simp_all<;>omega))⟩)<;>first|omega|(simp [go_sem,seval,F2,j0,j1,j2,j3,j0.symm,j1.symm,j2.symm,j3.symm,h10,aA hke,gEd,hi1,hi2]<;>omega)
   ·try simp [go_sem] at h10
    have hY:ys=p.edges.map (gEd g p):=by rw [hy,j6 _ (by omega)]
    try simp [go_sem,seval,F2,j0,j1,j2,j3,j0.symm,j1.symm,j2.symm,j3.symm]
    repeat first|intro _|refine ⟨eZ,?_⟩
    exact hQ _ _ (by first|(left;(simp [go_sem,F2,j0,j1,j2,j3,j0.symm,j1.symm,j2.symm,j3.symm,bY,yD,h2,hX,hY]);done)|(right;(simp [go_sem,F2,j0,j1,j2,j3,j0.symm,j1.symm,j2.symm,j3.symm,bY,yD,h2,hX,hY]);done))
theorem Ls (t:Types)(ht:t.ok)(p:Pattern)(hr:p.graph.nodes.length≤1000)(hs1:p.slots.length≤1000)(i:Nat)(hi:i<p.slots.length):Pure Tryz.prog 292 [t.d,p.d,dI i] (dI (tL t p i)):=by
 have hS:=A5 (t:=t) hi
 have h8:=nX ht (p.kind p.slots[i].node)
 refine Tz.pK ⟨fun t=>t==7,fun _=>[]⟩ Tryz.func292 rfl (fun Q hQ=>?_)
 have Y:=wa (aA hi) hi
 refine eF (fun h2=>?_) fun h2=>?_
 ·have hE:fN t p p.slots[i]≠0:=by
   unfold fN;rw [if_neg];decide;intro h;simp [j5] at h;omega
  rw [if_pos hE] at hS
  exact wv (h:=hQ _ _ (by simp [go_sem,hS]))
 ·have hn:p.slots[i].node.toNat<p.graph.nodes.length:=by omega
  have hk:p.kind p.slots[i].node=p.graph.nodes[p.slots[i].node.toNat]:=by simp [Pattern.kind,hn]
  rw [hk] at h8
  have Y:=wa Y (wa (aA hn) hk)
  refine wo (h:=aK (oI t ht p.graph.nodes[p.slots[i].node.toNat]) wl ?_)
  refine eF (fun h5=>?_) fun h5=>?_
  ·have hE:fN t p p.slots[i]≠0:=by
    unfold fN;rw [if_neg];decide;intro h;simp [j5,inF,hk] at h;omega
   rw [if_pos hE] at hS
   exact wv (h:=hQ _ _ (by simp [go_sem,hS]))
  ·have hE:fN t p p.slots[i]=0:=by
    unfold fN;rw [if_pos];simp [j5,inF,hk];omega
   rw [if_neg (by omega)] at hS
   refine wv (h:=bA (fun k e H=>(e 4=.adr p.c∧e 2=dI i∧e 7=.ptr 0 1 0 0∧e 10=dI k)∧(H.get 0=some ⟨159,4,[p.slots[i].c],false⟩)∧(0<H.next)∧(k≤i)∧(((p.slots.take k).any (sameSlot p.slots[i]))=false)) (fun k=>i - k) 0 ⟨wg,wn,wn,wi,(by rfl)⟩ fun I0 hI0 k e H hi0=>?_)
   obtain ⟨E0,g0_0,n0_0,hk2,hne⟩:=hi0
   have Y:=wa Y (wa E0 (wa g0_0 (bZ n0_0)))
   refine c4 (fun h8=>?_) fun h8=>?_
   ·have hkl:k<p.slots.length:=by omega
    have Y:=wa Y (wa h8 hkl)
    refine eF (fun h10=>?_) fun h10=>?_
    ·refine wv (h:=?_)
     have hb:=rS (p:=sameSlot p.slots[i]) h8 hkl (by simp [sameSlot];omega)
     exact hQ _ _ (by rw [hS,if_pos hb];simp [go_sem])
    ·exact wo (h:=wx hI0 (k+1) ⟨wg,wn,wn,wj,(by (rw [c7 _ _ _ hkl,hne];simp [sameSlot];omega))⟩)
   ·have hb:=pH hne (show k=i by omega)
    exact wv (h:=hQ _ _ (by rw [hS,if_neg (by simp [hb])];simp [go_sem]))
theorem Jh (t:Types)(ht:t.ok)(r:Rule):Pure Tryz.prog 212 [t.d,r.d] (dI (gW t r)):=by
 refine Tz.pK ⟨fun _=>false,fun _=>[]⟩ Tryz.func212 rfl (fun Q hQ=>?_)
 have Y:=trivial
 refine wv (h:=aB (jU r.right.graph) wl ?_)
 refine c4 (fun h2=>?_) fun h2=>?_
 ·exact wv (h:=hQ _ _ (.inl (by simp [go_sem,gW,h2])))
 ·have hg:=bK h2
  refine wo (h:=aB (q9 t r.right.graph) wl ?_)
  refine eF (fun h4=>?_) fun h4=>?_
  ·rw [tI h2] at h4
   exact wv (h:=hQ _ _ (.inl (by simp [go_sem,gW,h2,h4])))
  ·rw [tI h2] at h4
   refine eF (fun h6=>?_) fun h6=>?_
   ·have hR:gW t r=1:=by unfold gW;rw [if_neg (by omega),if_neg (by simp [h4]),if_pos (by omega)]
    exact wv (h:=hQ _ _ (.inl (by simp [go_sem,hR])))
   ·have h6':¬ (r.right.vars≠r.left.vars∨0<r.right.tests.length):=by
     rintro (h|h)
     ·exact h h6.1
     ·have:=h6.2;simp [this] at h
    refine eF (fun h8=>?_) fun h8=>?_
    ·have hR:gW t r=3:=by unfold gW;rw [if_neg (by omega),if_neg (by simp [h4]),if_neg h6',if_pos (by omega)]
     exact wv (h:=hQ _ _ (.inl (by simp [go_sem,hR])))
    ·have hR:gW t r=bJ (tL t r.right) 0 r.right.slots.length:=by unfold gW;rw [if_neg (by omega),if_neg (by simp [h4]),if_neg h6',if_neg (by omega)]
     refine wv (h:=bA (fun i e H=>(e 2=.adr t.c∧e 3=.adr r.c∧e 6=dI i)∧(i≤r.right.slots.length)∧(bJ (tL t r.right) i (r.right.slots.length - i)=gW t r)) (fun i=>r.right.slots.length - i) 0 ⟨wg,wi,(by (exact hR.symm))⟩ fun I0 hI0 i e H hi0=>?_)
     obtain ⟨E0,hi,hF⟩:=hi0
     have Y:=wa Y E0
     refine eF (fun h11=>?_) fun h11=>?_
     ·have hst:=hF
      rw [d7 _ h11] at hst
      have Y:=wa Y h11
      refine wv (h:=aB (Ls t ht r.right (by omega) (by omega) i h11) wl ?_)
      refine c4 (fun h14=>?_) fun h14=>?_
      ·rw [if_pos (by omega)] at hst
       exact wv (h:=hQ _ _ (.inl (by simp [go_sem,hst])))
      ·rw [if_neg (by omega)] at hst
       exact wo (h:=wx hI0 (i+1) ⟨wg,wj,(by exact hst)⟩)
     ·exact wv (h:=hQ _ _ (.inl (by rw [← hF,show r.right.slots.length - i=0 by omega];rfl)))
theorem NE (l:List Int)(v:Int):Pure Tryz.prog 198 [dLI l,dI v] (.bool (mem l v)):=by
 refine Tz.pK ⟨fun _=>false,fun _=>[]⟩ Tryz.func198 rfl (fun Q hQ=>?_)
 have Y:=trivial
 refine wv (h:=bA (fun i e H=>(e 0=dLI l∧e 1=dI v∧e 5=dI i)∧(i≤l.length)∧(∀ j,j<i→l[j]?≠some v)) (fun i=>l.length - i) 0 ⟨wg,wi,(by (intro j hj;omega))⟩ fun I0 hI0 i e H hi0=>?_)
 obtain ⟨E0,hi,hne⟩:=hi0
 have Y:=wa Y E0
 refine wv (h:=?_)
 repeat first|intro _|refine ⟨dR,?_⟩
 refine wq (fun h2=>?_) fun h2=>?_
 ·have Y:=wa Y h2
  refine wv (h:=?_)
  repeat first|intro _|refine ⟨dR,?_⟩
  refine wq (fun h4=>?_) fun h4=>?_
  ·refine wv (h:=?_)
   have hm:mem l v=true:=(c6 l v).2 (h4 ▸ aC h2)
   exact hQ _ _ (by simp [go_sem,hm])
  ·exact wo (h:=wx hI0 (i+1) ⟨wg,wj,(by (exact jB hne (by rw [aA h2];simpa using h4)))⟩)
 ·refine wv (h:=?_)
  have hm:mem l v=false:=by rw [bH];intro h;obtain ⟨j,hj,he⟩:=aO ((c6 l v).1 h);exact hne j (by omega) (by rw [aA hj,he])
  exact hQ _ _ (by simp [go_sem,hm])
theorem DJ (l:List Int)(n:Nat)(hn:n≤1000000):Pure Tryz.prog 113 [dI n,dLI l] (dLI (b5 l n)):=by
 refine Tz.pK ⟨fun t=>t==5,fun _=>[]⟩ Tryz.func113 rfl (fun Q hQ=>?_)
 have Y:=trivial
 refine wv (h:=bA (fun i e H=>∃ xs:List Int,(e 1=dLI l∧e 0=dI n∧e 5=.own 0 xs.length∧e 6=dI i)∧(H.get 0=some ⟨3,1,xs.map cI,false⟩)∧(0<H.next)∧(i≤n)∧(xs.length≤i)∧(xs=((List.range i).filter fun (b:Nat)=>!mem l b).map (fun (b:Nat)=>(b:Int)))) (fun i=>n - i) 0 ⟨([]),wg,wn,wn,wi,(by simp),(by rfl)⟩ fun I0 hI0 i e H hi0=>?_)
 obtain ⟨xs,E0,g0_0,n0_0,hi,hl,hx⟩:=hi0
 have Y:=wa Y (wa E0 (wa g0_0 (bZ n0_0)))
 refine c4 (fun h3=>?_) fun h3=>?_
 ·have Y:=wa Y h3
  refine wo (h:=aB (NE l i) wl ?_)
  refine eF (fun h5=>?_) fun h5=>?_
  ·have Y:=wa Y h5
   exact wo (h:=wx hI0 (i+1) ⟨(xs++(if (!mem l i)=true then [(i:Int)] else [])),wg,wn,wn,wj,(by (rw [aV];split<;>simp<;>omega)),(by (rw [cO,← hx]))⟩)
  ·have Y:=wa Y h5
   exact wo (h:=wx hI0 (i+1) ⟨(xs++(if (!mem l i)=true then [(i:Int)] else [])),wg,wn,wn,wj,(by (rw [aV];split<;>simp<;>omega)),(by (rw [cO,← hx]))⟩)
 ·exact wv (h:=hQ _ _ (by simp [go_sem,Y,b5];rw [hx,show i=n by omega];simp))
theorem HI (t:Types)(ht:t.ok)(g:Graph)(h0:graphF g=0)(hT:f8 t g=true)(nodes edges:List Int)(hn:∀ i∈nodes,0≤i∧i<g.nodes.length)(he:∀ k∈edges,0≤k∧k<g.edges.length):Pure Tryz.prog 110 [t.d,g.d,dLI nodes,dLI edges] (.bool (v8 t g nodes edges)):=by
 have hin:=l6 h0 hT
 refine Tz.pK ⟨fun t=>t==11,fun r=>match r with|9=>[(0,8),(1,8),(4,8),(5,8),(6,8),(7,8)]|_=>[]⟩ Tryz.func110 rfl (fun Q hQ=>?_)
 have Y:=trivial
 refine wv (h:=bA (fun i e H=>(e 4=.adr t.c∧e 5=.adr g.c∧e 2=dLI nodes∧e 3=dLI edges∧e 9=dI i)∧(i≤nodes.length)∧(((nodes.take i).any (absB t g))=false)) (fun i=>nodes.length - i) 0 ⟨wg,wi,(by rfl)⟩ fun I0 hI0 i e H hi0=>?_)
 obtain ⟨E0,hi,ha⟩:=hi0
 have Y:=wa Y E0
 refine wv (h:=?_)
 repeat first|intro _|refine ⟨dR,?_⟩
 refine wq (fun h2=>?_) fun h2=>?_
 ·have hn':=hn _ (aC h2)
  have hk:nodes[i].toNat<g.nodes.length:=by omega
  have hin':=hin.1 _ (aC hk)
  have hkt:g.nodes[nodes[i].toNat].toNat<t.nodes.length:=by omega
  have hA:absB t g nodes[i]=t.nodes[g.nodes[nodes[i].toNat].toNat].abs:=by simp [absB,gN,aA hk,aA hkt]
  have Y:=wa Y (wa h2 (wa (aA hk) (aA hkt)))
  refine wv (h:=?_)
  repeat first|intro _|refine ⟨dR,?_⟩
  refine wq (fun h4=>?_) fun h4=>?_
  ·refine wv (h:=?_)
   have hb:nodes.any (absB t g)=true:=aW.2 ⟨_,aC h2,by rw [hA,h4]⟩
   exact hQ _ _ (.inl (by simp only [go_sem,v8,hb,Ff,Cv]))
  ·exact wo (h:=wx hI0 (i+1) ⟨wg,wj,(by (rw [c7 _ _ _ h2,ha,hA,h4];rfl))⟩)
 ·have hN:=lT ha h2
  refine wv (h:=bA (fun k e H=>(e 4=.adr t.c∧e 5=.adr g.c∧e 2=dLI nodes∧e 3=dLI edges∧e 10=dI k)∧(k≤edges.length)∧(((edges.take k).any (unfitB t g))=false)) (fun k=>edges.length - k) 0 ⟨wg,wi,(by rfl)⟩ fun I2 hI2 k e H hi2=>?_)
  obtain ⟨E2,hk,hb⟩:=hi2
  have Y:=wa Y E2
  refine wv (h:=?_)
  repeat first|intro _|refine ⟨dR,?_⟩
  refine wq (fun h7=>?_) fun h7=>?_
  ·have he':=he _ (aC h7)
   have hke:edges[k].toNat<g.edges.length:=by omega
   have hin':=hin.2 _ (aC hke)
   have hf:g.edges[edges[k].toNat].from_.toNat<g.nodes.length:=by omega
   have hto:g.edges[edges[k].toNat].to_.toNat<g.nodes.length:=by omega
   have hA:unfitB t g edges[k] = !l9 t g.edges[edges[k].toNat].type g.nodes[g.edges[edges[k].toNat].from_.toNat] g.nodes[g.edges[edges[k].toNat].to_.toNat]:=by simp [unfitB,gN,aA hke,aA hf,aA hto]
   have Y:=wa Y (wa h7 (wa (aA hke) (wa (aA hf) (aA hto))))
   refine wo (h:=aK (DT t ht _ _ _) wl ?_)
   refine wv (h:=?_)
   repeat first|intro _|refine ⟨dR,?_⟩
   refine wq (fun h10=>?_) fun h10=>?_
   ·refine wv (h:=?_)
    have hb':edges.any (unfitB t g)=true:=aW.2 ⟨_,aC h7,by rw [hA,h10];rfl⟩
    exact hQ _ _ (.inl (by simp only [go_sem,v8,hb',Ff,Bool.and_false]))
   ·exact wo (h:=wx hI2 (k+1) ⟨wg,wj,(by (rw [c7 _ _ _ h7,hb,hA,h10];rfl))⟩)
  ·refine wv (h:=?_)
   have hE:=lT hb h7
   exact hQ _ _ (.inl (by simp only [go_sem,v8,hN,hE,Bool.not_false,Bool.and_true]))
theorem Fx (r:Rule)(h1:r.right.graph.nodes.length≤1000000)(h2:r.right.graph.edges.length≤1000000):Pure Tryz.prog 112 [r.d] (.tup [dLI r.freshN,dLI r.freshE]):=by
 refine Tz.pK ⟨fun _=>false,fun _=>[]⟩ Tryz.func112 rfl (fun Q hQ=>?_)
 have Y:=trivial
 refine wo (h:=aK (DJ r.into.nodes _ h1) wl ?_)
 refine wo (h:=aK (DJ r.into.edges _ h2) wl ?_)
 have Y:=wa Y (wa @Rule.freshN.eq_1 @Rule.freshE.eq_1)
 exact wo (h:=hQ _ _ wy)
def spanF (r:Rule):Int :=
 if subF r.left.graph r.keep≠0 then subF r.left.graph r.keep
 else dV (bY r.left.graph r.keep) r.right.graph r.into
theorem Lr (r:Rule)(hr:r.ok):Pure Tryz.prog 213 [r.d] (dI (spanF r)):=by
 obtain ⟨_,hk1,hk2,hi1,hi2,_,_⟩:=hr
 refine Tz.pK ⟨fun t=>t==4||t==5,fun _=>[]⟩ Tryz.func213 rfl (fun Q hQ=>?_)
 have Y:=trivial
 refine wv (h:=aB (vV r.left.graph r.keep) wl ?_)
 refine c4 (fun h2=>?_) fun h2=>?_
 ·have Y:=wa Y (wa h2 @spanF.eq_1)
  exact wv (h:=hQ _ _ wy)
 ·refine wv (h:=aB (x8 r.left.graph r.keep hk1 hk2) wl ?_)
  refine wv (h:=aB (rA (bY r.left.graph r.keep) r.right.graph r.into) wl ?_)
  have Y:=wa Y (wa h2 @spanF.eq_1)
  exact wv (h:=hQ _ _ wy)
theorem LR (r:Rule):keptF r=if spanF r≠0 then spanF r else if (decide r.into.nodes.Nodup&&decide r.into.edges.Nodup)=true then 0 else 11:=by
 unfold keptF spanF Eg
 by_cases h1:subF r.left.graph r.keep=0
 ·by_cases h2:dV (bY r.left.graph r.keep) r.right.graph r.into=0
  ·simp only [h1,h2,ne_eq,not_true,if_false,decide_true,fQ]
   cases (decide r.into.nodes.Nodup&&decide r.into.edges.Nodup)<;>simp
  ·simp [h1,h2]
 ·simp [h1]
theorem Ji (t:Types)(ht:t.ok)(r:Rule)(hr:r.ok):Pure Tryz.prog 123 [t.d,r.d] (dI (ruleF t r)):=by
 have hcv:=BU t ht r.left r.cond hr.cond hr.size
 rw [Cond.c_eq] at hcv
 have hK:=LR r
 refine Tz.pK ⟨fun _=>false,fun _=>[]⟩ Tryz.func123 rfl (fun Q hQ=>?_)
 have Y:=trivial
 refine wv (h:=aB (oH t ht) wl ?_)
 refine c4 (fun h2=>?_) fun h2=>?_
 ·exact wv (h:=hQ _ _ (by simp [go_sem,ruleF,h2]))
 ·refine wo (h:=aB (mO r.name hr.name) wl ?_)
  refine eF (fun h4=>?_) fun h4=>?_
  ·exact wv (h:=hQ _ _ (by simp [go_sem,ruleF,h2,h4]))
  ·refine wv (h:=aB (q8 t ht r.left) wl ?_)
   refine c4 (fun h7=>?_) fun h7=>?_
   ·exact wv (h:=hQ _ _ (by simp [go_sem,ruleF,h2,h4,h7]))
   ·refine wv (h:=aB (Jh t ht r) wl ?_)
    refine c4 (fun h10=>?_) fun h10=>?_
    ·exact wv (h:=hQ _ _ (by simp [go_sem,ruleF,h2,h4,h7,h10]))
    ·have hg:=A9 h10
     have hgl:=bK hg.1
     refine wv (h:=aB (Lr r hr) wl ?_)
     refine c4 (fun h13=>?_) fun h13=>?_
     ·exact wv (h:=hQ _ _ (by simp [go_sem,ruleF,h2,h4,h7,h10,hK,h13]))
     ·refine wo (h:=aB (mN r.into.nodes) wl ?_)
      refine wo (h:=aG (fun hg=>mN r.into.edges) (fun hg=>wl) ?_)
      refine eF (fun h15=>?_) fun h15=>?_
      ·have hK':keptF r=11:=by rw [hK,if_neg (by omega),if_neg (fun h=>by rw [aM,decide_eq_true_eq,decide_eq_true_eq] at h;rcases h15 with h'|h';exact h' h.1;exact h' h.2)]
       exact wv (h:=hQ _ _ (by simp [go_sem,ruleF,h2,h4,h7,h10,hK']))
      ·have hK':keptF r=0:=by rw [hK,if_neg (by omega),if_pos (by rw [aM,decide_eq_true_eq,decide_eq_true_eq];exact h15)]
       refine wv (h:=aB (Fx r (by omega) (by omega)) wl ?_)
       refine wo (h:=aB (HI t ht r.right.graph hg.1 hg.2 r.freshN r.freshE (fun i hi=>jX hi) (fun i hi=>jX hi)) wl ?_)
       refine eF (fun h18=>?_) fun h18=>?_
       ·exact wv (h:=hQ _ _ (by simp [go_sem,ruleF,h2,h4,h7,h10,hK',h18]))
       ·refine wv (h:=aB (hcv) wl ?_)
        exact wv (h:=hQ _ _ (by simp [go_sem,ruleF,h2,h4,h7,h10,hK',h18]))
end Go.Abs
end
section
namespace Go.Abs
theorem RepV.both {M : Nat → Prop} {σ : Nat → Option Ow} {N : Nat → Prop} {w : World} {M' : Nat → Prop} {σ' : Nat → Option Ow} {N' : Nat → Prop} {w' : World} {v : Value} {d : D} (h : RepV M σ N w v d) :
    ∀ v', RepV M' σ' N' w' v' d → RepV M σ (fun i => N i ∧ N' i) w v d := by
  induction h with
  | int => exact fun _ _ => .int _ _
  | bool => exact fun _ _ => .bool _
  | str => exact fun _ _ => .str _
  | agg vs ds hl h1 hr ih =>
    intro v' h'
    cases h' with
    | agg vs' _ hl' h1' hr' =>
      exact .agg vs ds hl h1 fun j u x hu hx => by
        have hj : j < vs'.length := by rw [hl']; exact (aL.1 hx).1
        exact ih j u x hu hx vs'[j] (hr' j _ x (aA hj) hx)
  | tup vs ds hl hr ih =>
    intro v' h'
    cases h' with
    | tup vs' _ hl' hr' =>
      exact .tup vs ds hl fun j u x hu hx => by
        have hj : j < vs'.length := by rw [hl']; exact (aL.1 hx).1
        exact ih j u x hu hx vs'[j] (hr' j _ x (aA hj) hx)
  | nil => exact fun _ _ => .nil
  | listN => exact fun _ _ => .listN
  | list ad cap sz xs es hc hm hsz hl h1 hcell hr ih =>
    intro v' h'
    cases h' with
    | listN => exact .list ad cap sz xs [] hc hm hsz hl h1 hcell fun j u x hu hx => by simp at hx
    | list ad' cap' sz' xs' _ hc' hm' hsz' hl' h1' hcell' hr' =>
      exact .list ad cap sz xs es hc hm hsz hl h1 hcell fun j u x hu hx => by
        have hj : j < xs'.length := by rw [hl']; exact (aL.1 hx).1
        exact ih j u x hu hx xs'[j] (hr' j _ x (aA hj) hx)
  | adr ad xs ds hl h1 hcell hr ih =>
    intro v' h'
    cases h' with
    | adr ad' xs' _ hl' h1' hcell' hr' =>
      exact .adr ad xs ds hl h1 hcell fun j u x hu hx => by
        have hj : j < xs'.length := by rw [hl']; exact (aL.1 hx).1
        exact ih j u x hu hx xs'[j] (hr' j _ x (aA hj) hx)
  | ne ad cap hm => exact fun _ _ => .ne ad cap hm
  | nilp => exact fun _ _ => .nilp
  | ptr v id ver i off hN h1 h =>
    intro v' h'
    cases h' with
    | ptr _ _ _ _ _ hN' _ _ => exact .ptr v id ver i off ⟨hN, hN'⟩ h1 h
  | own v id n hN h1 h =>
    intro v' h'
    cases h' with
    | own _ _ _ hN' _ _ => exact .own v id n ⟨hN, hN'⟩ h1 h
  | win v id ver lo hi hN h1 hlh h =>
    intro v' h'
    cases h' with
    | win _ _ _ _ _ hN' _ _ _ => exact .win v id ver lo hi ⟨hN, hN'⟩ h1 hlh h
  | fn f vs ds hl hr ih =>
    intro v' h'
    cases h' with
    | fn _ vs' _ hl' hr' =>
      exact .fn f vs ds hl fun j u x hu hx => by
        have hj : j < vs'.length := by rw [hl']; exact (aL.1 hx).1
        exact ih j u x hu hx vs'[j] (hr' j _ x (aA hj) hx)
  | nilf => exact fun _ _ => .nilf
  | opt v g d hf h ih =>
    intro v' h'
    cases h' with
    | opt _ _ _ hf' h'' => exact .opt v g d hf fun hg => ih hg v' (h'' hg)
  | cst v => exact fun _ _ => .cst v
  | junk v => exact fun _ _ => .junk v
def yS (τ:Nat→Nat):D→D
 | .own id n=>.own (τ id) n
 | d=>d
def SW (A:Nat→Prop):D→Prop
 | .own id _=>A id
 | d=>d.cl=true
def OQ (τ:Nat→Nat):D→D
 | .agg cs=>.agg (cs.map (yS τ))
 | d=>yS τ d
def Vx (A:Nat→Prop):D→Prop
 | .agg cs=>∀ c∈cs,SW A c
 | d=>SW A d
theorem RepV.unren {M M':Nat→Prop}{σ1 σE:Nat→Option Ow}{N1 A:Nat→Prop}{w:World}{τ:Nat→Nat}{v:Value}{d:D}(h:RepV M σ1 N1 w v (yS τ d))(ho:SW A d)(hs:∀ j,A j→σE j=σ1 (τ j))(hM:∀ b,¬ M b→¬ M' b):RepV M' σE A w v d:=by
 by_cases hd:∃ id n,d=.own id n
 ·obtain ⟨id,n,rfl⟩:=hd
  cases h with
  | own _ _ _ hN h1 h=>exact .own v id n ho h1 fun o he=>h o (by rw [← hs id ho];exact he)
 ·have e:yS τ d=d:=by cases d<;>first|rfl|exact absurd ⟨_,_,rfl⟩ hd
  have hc:d.cl=true:=by cases d<;>first|exact ho|exact absurd ⟨_,_,rfl⟩ hd
  rw [e] at h
  exact h.closed (fun ad u hm hu=>⟨hM _ hm,hu⟩) hc
theorem RepV.unrenC {M M' : Nat → Prop} {σ1 σE : Nat → Option Ow} {N1 A : Nat → Prop} {w : World} {τ : Nat → Nat} {v : Value} {d : D} (h : RepV M σ1 N1 w v (OQ τ d)) (ho : Vx A d) (hs : ∀ j, A j → σE j = σ1 (τ j)) (hM : ∀ b, ¬ M b → ¬ M' b) : RepV M' σE A w v d := by
  by_cases hd : ∃ cs, d = .agg cs
  · obtain ⟨cs, rfl⟩ := hd
    cases h with
    | agg vs _ hl h1 hr =>
      exact .agg vs cs (by simpa using hl) h1 fun j u x hu hx => (hr j u (yS τ x) hu (by rw [aR, hx]; rfl)).unren (ho x (aJ hx)) hs hM
  · have e : OQ τ d = yS τ d := by cases d <;> first | rfl | exact absurd ⟨_, rfl⟩ hd
    have e2 : Vx A d = SW A d := by cases d <;> first | rfl | exact absurd ⟨_, rfl⟩ hd
    rw [e] at h; rw [e2] at ho
    exact h.unren ho hs hM
structure Exact (H H1 E:AHeap) (τ:Nat→Nat):Prop where
 nx:∀ j,E.al j→j<E.next
 inj:∀ i j,E.al i→E.al j→τ i=τ j→i=j
 old:∀ j,H.al j→E.al j∧τ j=j
 non:∀ j,¬ E.al j→E.get j=none
 blk:∀ j k,E.get j=some k→(H.al j∧H.get j=some k∧H1.get j=some k) ∨
  (∃ k0,H1.get (τ j)=some k0∧k0.ty=k.ty∧k0.sz=k.sz∧k0.fz=k.fz∧k0.es=k.es.map (·.map (yS τ))∧∀ c∈k.es,∀ y∈c,SW E.al y)
theorem ACalls.exact {P:Program}{f:FuncId}{args:List D}{H E:AHeap}{r:D}{Q:D→AHeap→Prop}(h:ACalls P f args H Q)
  (hQ:(∀ j,H.al j→j<H.next)→(∀ j,¬ H.al j→H.get j=none)→∀ d H1,Q d H1→∃ τ,Exact H H1 E τ∧d=OQ τ r∧Vx E.al r):ACalls P f args H fun d H1=>d=r∧H1=E :=
 ⟨h.1,fun M0 σ w vals hR ha=>(h.2 M0 σ w vals hR ha).mono fun e w' ⟨v,d,H1,σ1,he,hR1,hv,hst,hk,hq⟩=>by
  obtain ⟨τ,X,rfl,hok⟩:=hQ hR.nxt (fun j hj=>(hR.top j hj).2) d H1 hq
  classical
  obtain ⟨σE,hσ⟩:∃ σE:Nat→Option Ow,∀ j,σE j=if E.al j then σ1 (τ j) else none:=⟨fun j=>if E.al j then σ1 (τ j) else none,fun _=>rfl⟩
  have hs:∀ j,E.al j→σE j=σ1 (τ j):=fun j hj=>by rw [hσ,if_pos hj]
  have hsn:∀ j,¬ E.al j→σE j=none:=fun j hj=>by rw [hσ,if_neg hj]
  have hal:∀ j o,σE j=some o→E.al j:=fun j o ho=>bE fun hn=>by rw [hsn j hn] at ho;cases ho
  have halg:∀ j k,E.get j=some k→E.al j:=fun j k ho=>bE fun hn=>by rw [X.non j hn] at ho;cases ho
  have hmut:∀ b,¬ cF M0 H1 σ1 b→¬ cF M0 E σE b:=by
   rintro b hm (h0|⟨j,k,o,hk',hf,ho,hb⟩)
   ·exact hm (.inl h0)
   ·rw [hs j (halg j k hk')] at ho
    rcases X.blk j k hk' with ⟨h1,h2,h3⟩|⟨k0,h1,h2,h3,h4,_⟩
    ·rw [(X.old j h1).2] at ho
     exact hm (.inr ⟨j,k,o,h3,hf,ho,hb⟩)
    ·exact hm (.inr ⟨τ j,k0,o,h1,h4.trans hf,ho,hb⟩)
  have hkE:Keeps (cF M0 H σ) σ H.al w (cF M0 E σE) σE E.al w':=by
   refine ⟨fun ad u hm hu=>?_,fun id o' hid ho'=>?_,fun id hid=>(X.old id hid).1⟩
   ·obtain ⟨a1,a2⟩:=hk.cell ad u hm hu;exact ⟨hmut _ a1,a2⟩
   ·rw [hs id (X.old id hid).1,(X.old id hid).2] at ho';exact hk.own id o' hid ho'
  have hkS:Keeps (cF M0 H1 σ1) σ1 (fun i=>H1.al i∧H.al i) w' (cF M0 E σE) σE E.al w':=by
   refine ⟨fun ad u hm hu=>⟨hmut _ hm,hu⟩,fun id o' hid ho'=>?_,fun id hid=>(X.old id hid.2).1⟩
   rw [hs id (X.old id hid.2).1,(X.old id hid.2).2] at ho';exact ⟨o',ho',.inl rfl⟩
  have hRE:Rel M0 E σE w':=by
   refine ⟨fun j hj=>⟨hsn j hj,X.non j hj⟩,X.nx,fun j k hk'=>?_,fun i j o o' b hi hj hb hb'=>?_,fun i o b hi hb=>?_,hR1.m0⟩
   ·have hj:=halg j k hk'
    rcases X.blk j k hk' with ⟨h1,h2,h3⟩|⟨k0,h1,h2,h3,h4,h5,h6⟩
    ·obtain ⟨o,ho,l⟩:=hR1.lies j k h3
     obtain ⟨o0,ho0,l0⟩:=hR.lies j k h2
     obtain ⟨xs,a1,a2,a3⟩:=l.row
     obtain ⟨ys,b1,b2,b3⟩:=l0.row
     refine ⟨o,by rw [hs j hj,(X.old j h1).2];exact ho,l.ver,l.ty,l.sz,l.esz,xs,a1,a2,a3.len,fun q u d hu hd=>?_⟩
     have hq':q<ys.length:=by rw [b3.len];exact (aL.1 hd).1
     exact ((a3.rep q u d hu hd).both _ (b3.rep q ys[q] d (aA hq') hd)).keep hkS
    ·obtain ⟨o,ho,l⟩:=hR1.lies (τ j) k0 h1
     obtain ⟨xs,a1,a2,a3⟩:=l.row
     have hlen:k0.es.length=k.es.length:=by rw [h5,bW]
     have hfl:k0.es.flatten=k.es.flatten.map (yS τ):=by rw [h5];exact List.map_flatten.symm
     refine ⟨o,by rw [hs j hj];exact ho,by rw [l.ver,hlen],by rw [l.ty,h2],by rw [l.sz,h3],fun c hc=>?_,xs,by rw [← h2,← hlen];exact a1,a2,by rw [a3.len,hfl,bW],fun q u d hu hd=>?_⟩
     ·have:=l.esz (c.map (yS τ)) (by rw [h5];exact mD hc)
      rwa [bW] at this
     ·have hd2:k0.es.flatten[q]?=some (yS τ d):=by rw [hfl,aR,hd];rfl
      obtain ⟨c,hc,hdc⟩:=iD.1 (aJ hd)
      exact (a3.rep q u _ hu hd2).unren (h6 c hc d hdc) hs hmut
   ·have hi':=hal i o hi
    have hj':=hal j o' hj
    rw [hs i hi'] at hi;rw [hs j hj'] at hj
    exact X.inj i j hi' hj' (hR1.inj _ _ o o' b hi hj hb hb')
   ·rw [hs i (hal i o hi)] at hi
    exact hR1.lt (τ i) o b hi hb
  refine ⟨v,r,E,σE,he,hRE,hv.unrenC hok hs hmut,⟨hst.os,hst.tape,hst.output,hst.size,hst.old,fun i o' b ho hb=>?_⟩,hkE,rfl,rfl⟩
  rw [hs i (hal i o' ho)] at ho
  exact hst.new (τ i) o' b ho hb⟩
end Go.Abs
end
section
set_option maxRecDepth 100000
set_option maxHeartbeats 4000000
open Go Go.Proofs
namespace Go.Abs
def iS (s:ByteArray):Bool:=decide (40<(s.size:Int))
def rR (x:Attr):Bool:=iS x.name||decide (25<(x.names.length:Int))||x.names.any iS
def n9 (n:NodeTy):Bool:=iS n.name||n.attrs.any rR
def xF (x:EdgeTy):Bool:=iS x.name
def gU (l:List NodeTy):Nat:=(l.map fun n=>n.attrs.length).sum
def s5 (t:Types):Bool:=decide ((t.nodes.length:Int)≤20)&&decide ((t.edges.length:Int)≤30)&&decide (gU t.nodes≤30)&&!(t.nodes.any n9)&&!(t.edges.any xF)
@[go_sem,simp] theorem Rb:gU []=0:=rfl
theorem In (l:List NodeTy){i:Nat}(h:i<l.length):gU (l.take (i+1))=gU (l.take i)+l[i].attrs.length:=by
 unfold gU
 rw [aE h,List.map_append,List.sum_append];simp
theorem Mm (l:List NodeTy)(i:Nat):gU (l.take i)≤gU l:=by
 have:gU l=gU (l.take i)+gU (l.drop i):=by
  unfold gU
  rw [← List.sum_append,← List.map_append,List.take_append_drop]
 omega
theorem Ol {l:List NodeTy}{n:NodeTy}(h:n∈l):n.attrs.length≤gU l:=by
 induction l with
 | nil=>cases h
 | cons a l ih =>
  have e:gU (a :: l)=a.attrs.length+gU l:=by simp [gU]
  rcases aT.1 h with rfl|h
  ·omega
  ·have:=ih h;omega
theorem If {t:Types}(h:s5 t=true):t.ok:=by
 simp [s5] at h
 obtain ⟨⟨⟨⟨h1,h2⟩,h3⟩,h4⟩,h5⟩:=h
 refine ⟨fun n hn=>?_,fun x hx=>⟨?_⟩,by omega,by omega⟩
 ·have hl:=Ol hn
  have:=h4 n hn
  simp [n9,iS] at this
  refine ⟨by omega,fun x hx=>?_,by omega⟩
  have hb:=this.2 x hx
  simp [rR,iS] at hb
  refine ⟨by omega,fun s hs=>?_,by omega⟩
  have:=hb.2 s hs
  omega
 ·have:=h5 x hx
  simp [xF,iS] at this
  omega
theorem Gj (t:Types)(ht:∀ n∈t.nodes,n.attrs.length≤1000000000000000):Pure Tryz.prog 36 [t.d] (.bool (s5 t)):=by
 refine Tz.pK ⟨fun t=>t==6,fun _=>[]⟩ Tryz.func36 rfl (fun Q hQ=>?_)
 have Y:=trivial
 refine eF (fun h1=>?_) fun h1=>?_
 ·refine wv (h:=?_)
  have hb:s5 t=false:=by simp [s5];omega
  exact hQ _ _ (by simp [go_sem,hb])
 ·refine wv (h:=bA (fun i e H=>(e 1=.adr t.c∧e 3=dI (gU (t.nodes.take i))∧e 4=dI i)∧(i≤t.nodes.length)∧(gU (t.nodes.take i)≤30)∧((t.nodes.take i).any n9=false)) (fun i=>t.nodes.length - i) 0 ⟨wg,wi,(by (simp [gU])),(by rfl)⟩ fun I0 hI0 i e H hi0=>?_)
  obtain ⟨E0,hi,hs,ha⟩:=hi0
  have Y:=wa Y E0
  refine eF (fun h5=>?_) fun h5=>?_
  ·have hst:=In t.nodes h5
   have hle:=Mm t.nodes (i+1)
   have hn:=ht _ (aC h5)
   have Y:=wa Y (wa h5 hst)
   refine eF (fun h8=>?_) fun h8=>?_
   ·refine wv (h:=?_)
    have hb:s5 t=false:=by
     rcases h8 with h8|h8
     ·simp [s5];omega
     ·have:t.nodes.any n9=true:=aW.2 ⟨_,aC h5,by simp [n9,iS];omega⟩
      simp [s5,this]
    exact hQ _ _ (by simp [go_sem,hb])
   ·have hN:iS t.nodes[i].name=false:=by simp [iS];omega
    refine wv (h:=bA (fun k e H=>(e 1=.adr t.c∧e 3=dI (gU (t.nodes.take (i+1)))∧e 4=dI i∧e 5=dI k)∧(k≤t.nodes[i].attrs.length)∧((t.nodes[i].attrs.take k).any rR=false)) (fun k=>t.nodes[i].attrs.length - k) 0 ⟨wg,wi,(by rfl)⟩ fun I2 hI2 k e H hi2=>?_)
    obtain ⟨E2,hk,hb⟩:=hi2
    have Y:=wa Y E2
    refine eF (fun h11=>?_) fun h11=>?_
    ·have Y:=wa Y h11
     refine eF (fun h14=>?_) fun h14=>?_
     ·refine wv (h:=?_)
      have hbad:rR t.nodes[i].attrs[k]=true:=by simp [rR,iS];omega
      have hb2:t.nodes.any n9=true:=aW.2 ⟨_,aC h5,by unfold n9;rw [b7];right;exact aW.2 ⟨_,aC h11,hbad⟩⟩
      have hb3:s5 t=false:=by simp [s5,hb2]
      exact hQ _ _ (by simp [go_sem,hb3])
     ·have hM:iS t.nodes[i].attrs[k].name=false:=by simp [iS];omega
      refine wv (h:=bA (fun m e H=>∃ j:Nat,(e 1=.adr t.c∧e 3=dI (gU (t.nodes.take (i+1)))∧e 4=dI i∧e 5=dI k∧e 6=.ptr j 1 0 0∧e 7=dI m)∧(H.get j=some ⟨118,4,[t.nodes[i].attrs[k].c],false⟩)∧(j<H.next)∧(m≤t.nodes[i].attrs[k].names.length)∧((t.nodes[i].attrs[k].names.take m).any iS=false)) (fun m=>t.nodes[i].attrs[k].names.length - m) 0 ⟨H.next,wg,wn,wn,wi,(by rfl)⟩ fun I4 hI4 m e H hi4=>?_)
      obtain ⟨j,E4,gj_4,nj_4,hm,hc⟩:=hi4
      have Y:=wa Y (wa E4 (wa gj_4 (bZ nj_4)))
      refine eF (fun h17=>?_) fun h17=>?_
      ·have Y:=wa Y h17
       refine eF (fun h19=>?_) fun h19=>?_
       ·refine wv (h:=?_)
        have hbad:rR t.nodes[i].attrs[k]=true:=by unfold rR;rw [b7];right;exact aW.2 ⟨_,aC h17,by simp [iS];omega⟩
        have hb2:t.nodes.any n9=true:=aW.2 ⟨_,aC h5,by unfold n9;rw [b7];right;exact aW.2 ⟨_,aC h11,hbad⟩⟩
        have hb3:s5 t=false:=by simp [s5,hb2]
        exact hQ _ _ (by simp [go_sem,hb3])
       ·exact wo (h:=wx hI4 (m+1) ⟨j,wg,wn,wn,wj,(by (rw [c7 _ _ _ h17,hc];simp [iS];omega))⟩)
      ·have hZ:=lT hc h17
       exact wo (h:=wx hI2 (k+1) ⟨wg,wj,(by (rw [c7 _ _ _ h11,hb];simp [rR,hM,hZ];omega))⟩)
    ·have hA:=lT hb h11
     exact wo (h:=wx hI0 (i+1) ⟨wg,wj,(by omega),(by (rw [c7 _ _ _ h5,ha];simp [n9,hN,hA]))⟩)
  ·have hNn:=lT ha h5
   rw [aH (by omega)] at hs
   refine wv (h:=bA (fun q e H=>(e 1=.adr t.c∧e 8=dI q)∧(q≤t.edges.length)∧((t.edges.take q).any xF=false)) (fun q=>t.edges.length - q) 0 ⟨wg,wi,(by rfl)⟩ fun I6 hI6 q e H hi6=>?_)
   obtain ⟨E6,hj,hd⟩:=hi6
   have Y:=wa Y E6
   refine eF (fun h22=>?_) fun h22=>?_
   ·have Y:=wa Y h22
    refine eF (fun h24=>?_) fun h24=>?_
    ·refine wv (h:=?_)
     have hb2:t.edges.any xF=true:=aW.2 ⟨_,aC h22,by simp [xF,iS];omega⟩
     have hb3:s5 t=false:=by simp [s5,hb2]
     exact hQ _ _ (by simp [go_sem,hb3])
    ·exact wo (h:=wx hI6 (q+1) ⟨wg,wj,(by (rw [c7 _ _ _ h22,hd];simp [xF,iS];omega))⟩)
   ·have hEe:=lT hd h22
    refine wv (h:=?_)
    have hb3:s5 t=true:=by simp only [s5,hNn,hEe];simp;omega
    exact hQ _ _ (by simp [go_sem,hb3])
def fewG (g:Graph):Bool:=decide ((g.nodes.length:Int)≤45)&&decide ((g.edges.length:Int)≤90)
def fewP (p:Pattern):Bool:=fewG p.graph&&decide ((p.slots.length:Int)≤15)&&decide ((p.tests.length:Int)≤15)
def fewPart (p:Part)(n:Int):Bool:=decide ((p.nodes.length:Int)+p.edges.length≤n)
structure Part.le (p:Part):Prop where
 n:p.nodes.length≤1000000000000000
 e:p.edges.length≤1000000000000000
theorem wZ (g:Graph):Pure Tryz.prog 159 [g.d] (.bool (fewG g)):=by
 refine Tz.pK ⟨fun _=>false,fun _=>[]⟩ Tryz.func159 rfl (fun Q hQ=>?_)
 have Y:=trivial
 have Y:=wa Y @fewG.eq_1
 exact wo (h:=hQ _ _ wy)
theorem sK (p:Pattern):Pure Tryz.prog 128 [p.d] (.bool (fewP p)):=by
 refine Tz.pK ⟨fun _=>false,fun _=>[]⟩ Tryz.func128 rfl (fun Q hQ=>?_)
 have Y:=trivial
 refine wo (h:=aB (wZ p.graph) wl ?_)
 have Y:=wa Y @fewP.eq_1
 exact wo (h:=hQ _ _ wy)
theorem sM (p:Part)(hp:p.le)(n:Int):Pure Tryz.prog 56 [p.d,dI n] (.bool (fewPart p n)):=by
 obtain ⟨h1,h2⟩:=hp
 refine Tz.pK ⟨fun _=>false,fun _=>[]⟩ Tryz.func56 rfl (fun Q hQ=>?_)
 have Y:=trivial
 have Y:=wa Y @fewPart.eq_1
 exact wo (h:=hQ _ _ wy)
theorem NH (p:Part)(hp:p.le)(n:Int):Pure Tryz.prog 129 [p.d,dI n] (.bool (fewPart p n)):=by
 obtain ⟨h1,h2⟩:=hp
 refine Tz.pK ⟨fun _=>false,fun _=>[]⟩ Tryz.func129 rfl (fun Q hQ=>?_)
 have Y:=trivial
 have Y:=wa Y @fewPart.eq_1
 exact wo (h:=hQ _ _ wy)
mutual
def nG:Cond→Int→Int
 | .mk k l m p,b=>if (!fewP p||!fewPart m 140)=true then -1 else nF l (b - 1)
def nF:List Cond→Int→Int
 | [],b=>b
 | c :: l,b=>if 0≤b then nF l (nG c b) else b
end
theorem O6 (c:Cond)(b:Int):nG c b=if (!fewP c.pattern||!fewPart c.map 140)=true then -1 else nF c.kids (b - 1):=by cases c;rw [nG];rfl
mutual
theorem Ee:∀ (c:Cond) (b:Int),0≤b→-1≤nG c b∧nG c b≤b - 1
 | .mk k l m p,b,h=>by
  rw [nG];split
  ·omega
  ·exact Ec l (b - 1) (by omega)
theorem Ec:∀ (l:List Cond) (b:Int),-1≤b→-1≤nF l b∧nF l b≤b
 | [],b,h=>by rw [nF];omega
 | c :: l,b,h=>by
  rw [nF];split
  ·rename_i h0
   have h1:=Ee c b h0
   have h2:=Ec l (nG c b) h1.1
   omega
  ·omega
end
mutual
def Cond.le:Cond→Prop
 | .mk k l m p=>m.le∧Cond.les l
def Cond.les:List Cond→Prop
 | []=>True
 | c :: l=>c.le∧Cond.les l
end
theorem IC (l:List Cond):Cond.les l↔∀ c∈l,c.le:=by
 induction l with
 | nil=>simp [Cond.les]
 | cons a l ih=>simp [Cond.les,ih]
theorem Cu (c:Cond):c.le↔c.map.le∧∀ k∈c.kids,k.le:=by cases c;simp [Cond.le,IC,Cond.kids,Cond.map]
mutual
theorem Ed:∀ (c:Cond) (b:Int),0≤b→0≤nG c b→c.ok∧(c.size:Int)≤b - nG c b
 | .mk k l m p,b,h,h0=>by
  rw [nG] at h0 ⊢
  split at h0
  ·omega
  ·rename_i h1
   rw [if_neg h1]
   have h2:=J6 l (b - 1) (by omega) h0
   simp [fewP,fewG,fewPart] at h1
   refine ⟨⟨⟨?_,?_,?_,?_,?_,?_⟩,h2.1⟩,?_⟩<;>simp only [Cond.map,Cond.pattern,Cond.size]<;>omega
theorem J6:∀ (l:List Cond) (b:Int),-1≤b→0≤nF l b→Cond.oks l∧(Cond.sizes l:Int)≤b - nF l b
 | [],b,h,h0=>by simp [Cond.oks,Cond.sizes,nF]
 | c :: l,b,h,h0=>by
  rw [nF] at h0 ⊢
  split at h0
  ·rename_i hb
   rw [if_pos hb]
   have h1:=Ee c b hb
   have h2:=Ec l (nG c b) h1.1
   have h3:=Ed c b hb (by omega)
   have h4:=J6 l (nG c b) h1.1 h0
   refine ⟨⟨h3.1,h4.1⟩,?_⟩
   simp only [Cond.sizes];omega
  ·omega
end
theorem LP {l:List Cond}{i:Nat}(h:i<l.length){b:Int}(hb:0≤b):nF (l.drop i) b=nF (l.drop (i+1)) (nG l[i] b):=by
 rw [eE h,nF,if_pos hb]
theorem N3 {l:List Cond}{i:Nat}{b:Int}(h:¬ (i<l.length∧0≤b)):nF (l.drop i) b=b:=by
 by_cases hi:i<l.length
 ·rw [eE hi,nF,if_neg (by omega)]
 ·rw [fX (by omega),nF]
theorem Lu:∀ c:Cond,c.le→∀ b:Int,0≤b→b≤1000→Pure Tryz.prog 215 [.agg c.c,dI b] (dI (nG c b)):=by
 refine iP fun c ih hc b0 hb0 hb1=>?_
 obtain ⟨hs,hk⟩:=(Cu c).1 hc
 have hL0:=O6 c b0
 refine Tz.pK ⟨fun _=>false,fun _=>[]⟩ Tryz.func215 rfl (fun Q hQ=>?_)
 have Y:=@Cond.c_eq
 refine wo (h:=aB (sK c.pattern) wl ?_)
 refine wo (h:=aG (fun hg=>sM c.map hs 140) (fun hg=>wl) ?_)
 refine wv (h:=?_)
 repeat first|intro _|refine ⟨dR,?_⟩
 refine wq (fun h2=>?_) fun h2=>?_
 ·rw [if_pos (by simpa using h2)] at hL0
  exact wv (h:=hQ _ _ (by simp [go_sem,hL0]))
 ·rw [if_neg (by simpa using h2)] at hL0
  refine wv (h:=bA (fun i e H=>∃ b:Int,(e 2=.adr c.c∧e 1=dI b∧e 5=dI i)∧(i≤c.kids.length)∧(-1≤b∧b<b0)∧(nF (c.kids.drop i) b=nG c b0)) (fun i=>c.kids.length - i) 0 ⟨((b0 - 1)),wg,wi,(by omega),(by (exact hL0.symm))⟩ fun I0 hI0 i e H hi0=>?_)
  obtain ⟨b,E0,hi,hb,hL⟩:=hi0
  have Y:=wa Y E0
  refine wv (h:=?_)
  repeat first|intro _|refine ⟨dR,?_⟩
  refine wq (fun h5=>?_) fun h5=>?_
  ·have h5':i<c.kids.length∧0≤b:=by omega
   have Y:=wa Y (wa h5 h5'.1)
   refine wo (h:=aB ((by have:=ih _ (aC h5'.1) (hk _ (aC h5'.1)) b h5'.2 (by omega);rwa [Cond.c_eq] at this)) wl ?_)
   exact wo (h:=wx hI0 (i+1) ⟨(nG c.kids[i] b),wg,wj,(by (have:=Ee c.kids[i] b h5'.2;omega)),(by (rw [← hL,LP h5'.1 h5'.2]))⟩)
  ·have h5':¬ (i<c.kids.length∧0≤b):=by omega
   refine wv (h:=?_)
   have hE:nG c b0=b:=by rw [← hL,N3 h5']
   exact hQ _ _ (by simp [go_sem,hE])
def fewC (c:Cond):Bool:=decide (0≤nG c 40)
theorem Gh (c:Cond)(hc:c.le):Pure Tryz.prog 130 [.agg c.c] (.bool (fewC c)):=by
 refine Tz.pK ⟨fun _=>false,fun _=>[]⟩ Tryz.func130 rfl (fun Q hQ=>?_)
 have Y:=@Cond.c_eq
 refine wv (h:=aB ((by have:=Lu c hc 40 (by omega) (by omega);rwa [Cond.c_eq] at this)) wl ?_)
 have Y:=wa Y @fewC.eq_1
 exact wv (h:=hQ _ _ wy)
def fewR (r:Rule):Bool:=decide ((r.name.size:Int)≤60)&&fewP r.left&&fewP r.right&&fewPart r.keep 140&&fewPart r.into 140&&fewC r.cond
structure Rule.le (r:Rule):Prop where
 keep:r.keep.le
 into:r.into.le
 cond:r.cond.le
theorem NF (r:Rule)(hr:r.le):Pure Tryz.prog 54 [r.d] (.bool (fewR r)):=by
 refine Tz.pK ⟨fun _=>false,fun _=>[]⟩ Tryz.func54 rfl (fun Q hQ=>?_)
 have Y:=trivial
 refine wo (h:=aG (fun hg=>sK r.left) (fun hg=>wl) ?_)
 refine wo (h:=aG (fun hg=>sK r.right) (fun hg=>wl) ?_)
 refine wo (h:=aG (fun hg=>NH r.keep hr.keep 140) (fun hg=>wl) ?_)
 refine wo (h:=aG (fun hg=>sM r.into hr.into 140) (fun hg=>wl) ?_)
 refine wo (h:=aG (fun hg=>(by have:=Gh r.cond hr.cond;rwa [Cond.c_eq] at this)) (fun hg=>wl) ?_)
 have Y:=wa Y @fewR.eq_1
 exact wo (h:=hQ _ _ wy)
structure Ovl where
 graph:Graph
 left:Part
 right:Part
def Ovl.c (o:Ovl):List D:=[dLI o.graph.nodes,.list (o.graph.edges.map Edge.c),dLI o.left.nodes,dLI o.left.edges,dLI o.right.nodes,dLI o.right.edges]
def Ovl.d (o:Ovl):D:=.agg o.c
@[go_sem] theorem Ovl.cl (o:Ovl):D.clL o.c=true:=by simp [Ovl.c,D.clL,D.cl,mV,s7]
@[go_sem] theorem Wc (o:Ovl):o.d.cl=true:=by simp only [Ovl.d,D.cl];exact Ovl.cl o
@[go_sem] theorem Vw (l:List Ovl):D.clLL (l.map Ovl.c)=true:=cQ _ Ovl.cl l
def D2 (n:Nat):List Int:=(List.range n).map fun (k:Nat)=>(k:Int)
theorem NU (i:Nat):D2 (i+1)=D2 i++[(i:Int)]:=by simp [D2,fG]
theorem JS (n:Nat):(D2 n).length=n:=by simp [D2]
theorem z8 (n:Nat)(hn:n≤100000):Pure Tryz.prog 127 [dI n] (dLI (D2 n)):=by
 refine Tz.pK ⟨fun t=>t==3,fun _=>[]⟩ Tryz.func127 rfl (fun Q hQ=>?_)
 have Y:=trivial
 refine wv (h:=bA (fun i e H=>(e 0=dI n∧e 3=.own 0 i∧e 4=dI i)∧(H.get 0=some ⟨3,1,(D2 i).map cI,false⟩)∧(0<H.next)∧(i≤n)∧((D2 i).length=i)) (fun i=>n - i) 0 ⟨wg,(by rfl),wn,wi,(by (exact JS _))⟩ fun I0 hI0 i e H hi0=>?_)
 obtain ⟨E0,g0_0,n0_0,hi,hl⟩:=hi0
 have Y:=wa Y (wa E0 (wa g0_0 (wa (bZ n0_0) hl)))
 refine c4 (fun h3=>?_) fun h3=>?_
 ·have Y:=wa Y h3
  exact wo (h:=wx hI0 (i+1) ⟨wg,(by (simp [go_sem,Y,NU])),wn,wj,(by (exact JS _))⟩)
 ·have hie:i=n:=by omega
  subst hie
  have Y:=wa Y h3
  exact wv (h:=hQ _ _ wy)
theorem OS (g:Graph)(hn:g.nodes.length≤100000)(he:g.edges.length≤100000):Pure Tryz.prog 53 [g.d] (Part.d ⟨D2 g.nodes.length,D2 g.edges.length⟩):=by
 refine Tz.pK ⟨fun t=>t==2,fun _=>[]⟩ Tryz.func53 rfl (fun Q hQ=>?_)
 have Y:=trivial
 refine wo (h:=aK (z8 g.nodes.length hn) wl ?_)
 refine wo (h:=aK (z8 g.edges.length he) wl ?_)
 exact wo (h:=hQ _ _ wy)
theorem Ky:Own Tryz.prog 234 [.nil] 122 3 []:=by
 refine Tz.oK ⟨fun t=>t==2||t==5,fun _=>[]⟩ Tryz.func234 rfl (fun Q hQ=>?_)
 have Y:=trivial
 refine wv (h:=?_)
 exact hQ _ _ _ (by simp [go_sem]<;>first|omega|(rw [aQ];simp<;>omega)|(simp_all<;>omega)) (by simp [go_sem]<;>first|omega|(rw [aQ];simp<;>omega)|(simp_all<;>omega))
theorem Kw:Own Tryz.prog 234 [.ne] 122 3 []:=by
 refine Tz.oK ⟨fun t=>t==2||t==5,fun _=>[]⟩ Tryz.func234 rfl (fun Q hQ=>?_)
 have Y:=trivial
 refine wo (h:=?_)
 exact hQ _ _ _ (by simp [go_sem]<;>first|omega|(rw [aQ];simp<;>omega)|(simp_all<;>omega)) (by simp [go_sem]<;>first|omega|(rw [aQ];simp<;>omega)|(simp_all<;>omega))
theorem Kx (l:List Edge)(hl:l.length≤1000000)(hne:l≠[]):Own Tryz.prog 234 [.list (l.map Edge.c)] 122 3 (l.map Edge.c):=by
 refine Tz.oK ⟨fun t=>t==2||t==5,fun _=>[]⟩ Tryz.func234 rfl (fun Q hQ=>?_)
 have Y:=hne
 refine wo (h:=?_)
 exact hQ _ _ _ (by simp [go_sem,hne]<;>first|omega|(rw [aQ];simp<;>omega)|(simp_all<;>omega)) (by simp [go_sem,hne]<;>first|omega|(rw [aQ];simp<;>omega)|(simp_all<;>omega))
theorem ER (l:List Edge)(hl:l.length≤1000000):Own Tryz.prog 234 [.list (l.map Edge.c)] 122 3 (l.map Edge.c):=by
 by_cases hne:l=[]
 ·subst hne;exact Be Ky Kw
 ·exact Kx l hl hne
end Go.Abs
end
