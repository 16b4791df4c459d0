/- Layer 24: rules, continued. · The bound on types. · Layer 22 -/
import Derived.Test.YtjfaalokjnmdoaaGreatZaF
import Derived.Test.YtjfaalokjnmdoaaGreatZaA
import Derived.Test.YtjfaalokjnmdoaaGreatZaJ
set_option linter.unusedVariables false
set_option linter.unusedSimpArgs false
section
set_option maxRecDepth 100000
set_option maxHeartbeats 4000000
open Go Go.Proofs
namespace Go.Abs
def gI (t:Types)(r:Rule):Int :=
 if graphF r.right.graph≠0 then graphF r.right.graph
 else if gU t r.right.graph=false then 13
 else if r.right.vars≠r.left.vars∨0<r.right.tests.length then 1
 else if 10<r.right.slots.length then 3
 else bI (s9 t r.right) 0 r.right.slots.length
theorem Kg (t:Types)(ht:t.ok)(r:Rule):Pure Tryz.prog 215 [t.d,r.d] (dI (gI t r)):=by
 refine Tz.pK ⟨fun _=>false,fun _=>[]⟩ Tryz.func215 rfl (fun Q hQ=>?_)
 have Y:=trivial
 refine wv (h:=aB (kM r.right.graph) wl ?_)
 refine cT (fun h2=>?_) fun h2=>?_
 ·exact wv (h:=hQ _ _ (.inl (by simp [go_sem,gI,h2])))
 ·have hg:=bJ h2
  refine wo (h:=aB (Ke t r.right.graph) wl ?_)
  refine dV (fun h4=>?_) fun h4=>?_
  ·exact wv (h:=hQ _ _ (.inl (by simp [go_sem,gI,h2,h4])))
  ·refine dV (fun h6=>?_) fun h6=>?_
   ·have hR:gI t r=1:=by unfold gI;rw [if_neg (by omega),if_neg (by simp [h4]),if_pos (by omega)]
    exact wv (h:=hQ _ _ (.inl (by simp [go_sem,hR])))
   ·have h6':¬ (r.right.vars≠r.left.vars∨0<r.right.tests.length):=by
     rintro (h|h)
     ·exact h h6.1
     ·have:=h6.2;simp [this] at h
    refine dV (fun h8=>?_) fun h8=>?_
    ·have hR:gI t r=3:=by unfold gI;rw [if_neg (by omega),if_neg (by simp [h4]),if_neg h6',if_pos (by omega)]
     exact wv (h:=hQ _ _ (.inl (by simp [go_sem,hR])))
    ·have hR:gI t r=bI (s9 t r.right) 0 r.right.slots.length:=by unfold gI;rw [if_neg (by omega),if_neg (by simp [h4]),if_neg h6',if_neg (by omega)]
     refine wo (h:=bB (fun i e H=>(e 2=.adr t.c∧e 3=.adr r.c∧e 46=dI r.right.slots.length∧e 47=dI i)∧(i≤r.right.slots.length)∧(bI (s9 t r.right) i (r.right.slots.length - i)=gI t r)) (fun i=>r.right.slots.length - i) 0 ⟨wg,wi,(by (exact hR.symm))⟩ fun I1 hI1 i e H hi1=>?_)
     obtain ⟨E1,hi,hF⟩:=hi1
     have Y:=wa Y E1
     refine cT (fun h11=>?_) fun h11=>?_
     ·have hst:=hF
      rw [dQ _ h11] at hst
      have Y:=wa Y h11
      refine wv (h:=aB (Mj t ht r (by omega) i h11) wl ?_)
      refine cT (fun h14=>?_) fun h14=>?_
      ·rw [if_pos (by omega)] at hst
       exact wv (h:=hQ _ _ (.inl (by simp [go_sem,hst])))
      ·rw [if_neg (by omega)] at hst
       exact wo (h:=wx hI1 (i+1) ⟨wg,wj,(by exact hst)⟩)
     ·exact wv (h:=hQ _ _ (.inl (by rw [← hF,show r.right.slots.length - i=0 by omega];rfl)))
def b5 (l:List Int)(n:Nat):List Int:=((List.range n).filter fun (i:Nat)=>!mem l i).map fun (b:Nat)=>(b:Int)
theorem jK {l:List Int}{n:Nat}{x:Int}(h:x∈b5 l n):0≤x∧x<n:=by
 simp only [b5,bG,fQ,bZ] at h
 obtain ⟨a,⟨h1,_⟩,rfl⟩:=h
 omega
theorem jL (l:List Int)(n:Nat):(b5 l n).length≤n:=by
 unfold b5;rw [bW];exact dM (kD _ _) (by simp)
theorem Bn (l:List Int)(n:Nat)(hn:n≤1000000):Pure Tryz.prog 312 [dLI l,dI n] (dLI (b5 l n)):=by
 refine Tz.pK ⟨fun t=>t==5,fun _=>[]⟩ Tryz.func312 rfl (fun Q hQ=>?_)
 have Y:=trivial
 refine wv (h:=bB (fun i e H=>∃ xs:List Int,(e 0=dLI l∧e 7=dI n∧e 5=.own 0 xs.length∧e 8=dI i)∧(H.get 0=some ⟨3,1,xs.map cI,false⟩)∧(0<H.next)∧(i≤n)∧(xs.length≤i)∧(xs=((List.range i).filter fun (b:Nat)=>!mem l b).map (fun (b:Nat)=>(b:Int)))) (fun i=>n - i) 0 ⟨([]),wg,wn,wn,wi,(by simp),(by rfl)⟩ fun I0 hI0 i e H hi0=>?_)
 obtain ⟨xs,E0,g0_0,n0_0,hi,hl,hx⟩:=hi0
 have Y:=wa Y (wa E0 (wa g0_0 (bY n0_0)))
 refine cT (fun h3=>?_) fun h3=>?_
 ·have Y:=wa Y h3
  refine wo (h:=aB (fK l i) wl ?_)
  refine dV (fun h5=>?_) fun h5=>?_
  ·have Y:=wa Y h5
   exact wo (h:=wx hI0 (i+1) ⟨(xs++(if (!mem l i)=true then [(i:Int)] else [])),wg,wn,wn,wj,(by (rw [aT];split<;>simp<;>omega)),(by (rw [cH,← hx]))⟩)
  ·have Y:=wa Y h5
   exact wo (h:=wx hI0 (i+1) ⟨(xs++(if (!mem l i)=true then [(i:Int)] else [])),wg,wn,wn,wj,(by (rw [aT];split<;>simp<;>omega)),(by (rw [cH,← hx]))⟩)
 ·exact wv (h:=hQ _ _ (by simp [go_sem,Y,b5];rw [hx,show i=n by omega];simp))
def keptF (r:Rule):Int :=
 if subF r.left.graph r.keep≠0 then subF r.left.graph r.keep
 else if dS (b7 r.left.graph r.keep) r.right.graph r.into≠0 then dS (b7 r.left.graph r.keep) r.right.graph r.into
 else if ET (b7 r.left.graph r.keep) r.right.graph r.into=false then 11 else 0
structure Rule.ok (r:Rule):Prop where
 name:r.name.size≤100000
 k1:r.keep.nodes.length≤1000000
 k2:r.keep.edges.length≤1000000
 i1:r.into.nodes.length≤1000000
 i2:r.into.edges.length≤1000000
 cond:r.cond.ok
 size:r.cond.size≤1000000
theorem Mk (r:Rule)(hr:r.ok):Pure Tryz.prog 216 [r.d] (dI (keptF r)):=by
 obtain ⟨_,hk1,hk2,hi1,hi2,_,_⟩:=hr
 refine Tz.pK ⟨fun t=>t==3||t==4,fun _=>[]⟩ Tryz.func216 rfl (fun Q hQ=>?_)
 have Y:=trivial
 refine wv (h:=aB (AC r.left.graph r.keep hk1 hk2) wl ?_)
 refine cT (fun h2=>?_) fun h2=>?_
 ·have Y:=wa Y (wa h2 @keptF.eq_1)
  exact wv (h:=hQ _ _ wy)
 ·refine wv (h:=aB (mL (b7 r.left.graph r.keep) r.right.graph r.into) wl ?_)
  refine cT (fun h5=>?_) fun h5=>?_
  ·have Y:=wa Y (wa h2 (wa h5 @keptF.eq_1))
   exact wv (h:=hQ _ _ wy)
  ·refine wo (h:=aB (pU (b7 r.left.graph r.keep) r.right.graph r.into hi1 hi2) wl ?_)
   refine dV (fun h7=>?_) fun h7=>?_
   ·have Y:=wa Y (wa h2 (wa h5 (wa h7 @keptF.eq_1)))
    exact wv (h:=hQ _ _ wy)
   ·have Y:=wa Y (wa h2 (wa h5 (wa h7 @keptF.eq_1)))
    exact wv (h:=hQ _ _ wy)
def absB (t:Types)(g:Graph)(i:Int):Bool:=((t.nodes[(gN g i).toNat]?).map (·.abs)).getD false
def unfitB (t:Types)(g:Graph)(k:Int):Bool:=!mN t (g.edges[k.toNat]?.getD bQ).type (gN g (g.edges[k.toNat]?.getD bQ).from_) (gN g (g.edges[k.toNat]?.getD bQ).to_)
def xL (t:Types)(g:Graph)(nodes edges:List Int):Bool:=(!(nodes.any (absB t g)))&&!(edges.any (unfitB t g))
theorem lW {t:Types}{g:Graph}(h0:graphF g=0)(h:gU t g=true):(∀ a∈g.nodes,0≤a∧a<t.nodes.length)∧∀ x∈g.edges,(0≤x.type∧x.type<t.edges.length)∧(0≤x.from_∧x.from_<g.nodes.length)∧(0≤x.to_∧x.to_<g.nodes.length):=by
 obtain ⟨h1,h2⟩:=dF h0
 simp [gU] at h
 exact ⟨fun a ha=>⟨(h1 a ha).1,h.1 a ha⟩,fun x hx=>⟨⟨(h2 x hx).1.1,h.2 x hx⟩,(h2 x hx).2⟩⟩
theorem EH (t:Types)(g:Graph)(h0:graphF g=0)(hT:gU t g=true)(i:Int)(hi0:0≤i)(hi1:i<g.nodes.length):Pure Tryz.prog 313 [dI i,.adr t.c,.adr g.c] (.bool (absB t g i)):=by
 have hk:i.toNat<g.nodes.length:=by omega
 have hin:=(lW h0 hT).1 _ (aC hk)
 have hn:g.nodes[i.toNat].toNat<t.nodes.length:=by omega
 refine Tz.pK ⟨fun _=>false,fun _=>[]⟩ Tryz.func313 rfl (fun Q hQ=>?_)
 have Y:=wa (aA hk) (aA hn)
 have Y:=wa Y (wa @absB.eq_1 @gN.eq_1)
 exact wo (h:=hQ _ _ wy)
theorem EG (t:Types)(ht:t.ok)(g:Graph)(h0:graphF g=0)(hT:gU t g=true)(k:Int)(hi0:0≤k)(hi1:k<g.edges.length):Pure Tryz.prog 314 [dI k,.adr g.c,.adr t.c] (.bool (unfitB t g k)):=by
 have hk:k.toNat<g.edges.length:=by omega
 have hin:=(lW h0 hT).2 _ (aC hk)
 have hf:g.edges[k.toNat].from_.toNat<g.nodes.length:=by omega
 have hto:g.edges[k.toNat].to_.toNat<g.nodes.length:=by omega
 refine Tz.pK ⟨fun t=>t==5,fun _=>[]⟩ Tryz.func314 rfl (fun Q hQ=>?_)
 have Y:=wa (aA hk) (wa (aA hf) (aA hto))
 refine wo (h:=aI (CJ t ht _ _ _) wl ?_)
 have Y:=wa Y (wa @unfitB.eq_1 @gN.eq_1)
 exact wo (h:=hQ _ _ wy)
theorem GP (t:Types)(ht:t.ok)(g:Graph)(h0:graphF g=0)(hT:gU t g=true)(nodes edges:List Int)(hn:∀ i∈nodes,0≤i∧i<g.nodes.length)(he:∀ k∈edges,0≤k∧k<g.edges.length):Pure Tryz.prog 218 [t.d,g.d,dLI nodes,dLI edges] (.bool (xL t g nodes edges)):=by
 have h1:=fB nodes 313 [.adr t.c,.adr g.c] (absB t g) (by simp [go_sem]) (by simp [go_sem]) (fun i hi=>EH t g h0 hT i (hn i hi).1 (hn i hi).2)
 have h2:=fB edges 314 [.adr g.c,.adr t.c] (unfitB t g) (by simp [go_sem]) (by simp [go_sem]) (fun k hk=>EG t ht g h0 hT k (he k hk).1 (he k hk).2)
 have hM:xL t g nodes edges=((!(nodes.any (absB t g)))&&!(edges.any (unfitB t g))):=rfl
 generalize nodes.any (absB t g)=u at *
 generalize edges.any (unfitB t g)=v at *
 rw [hM]
 refine Tz.pK ⟨fun _=>false,fun _=>[]⟩ Tryz.func218 rfl (fun Q hQ=>?_)
 have Y:=trivial
 refine wo (h:=aB (h1) wl ?_)
 refine wo (h:=aK (fun hg=>h2) (fun hg=>wl) ?_)
 exact wo (h:=hQ _ _ wy)
def Rule.freshN (r:Rule):List Int:=b5 r.into.nodes r.right.graph.nodes.length
def Rule.freshE (r:Rule):List Int:=b5 r.into.edges r.right.graph.edges.length
theorem GQ (r:Rule)(h1:r.right.graph.nodes.length≤1000000)(h2:r.right.graph.edges.length≤1000000):Pure Tryz.prog 217 [r.d] (.tup [dLI r.freshN,dLI r.freshE]):=by
 refine Tz.pK ⟨fun _=>false,fun _=>[]⟩ Tryz.func217 rfl (fun Q hQ=>?_)
 have Y:=trivial
 refine wo (h:=aI (Bn r.into.nodes _ h1) wl ?_)
 refine wo (h:=aI (Bn r.into.edges _ h2) wl ?_)
 have Y:=wa Y (wa @Rule.freshN.eq_1 @Rule.freshE.eq_1)
 exact wo (h:=hQ _ _ wy)
def ruleF (t:Types)(r:Rule):Int :=
 if (cA t).2≠0 then (cA t).2
 else if jY r.name=false then 2
 else if bT t r.left≠0 then bT t r.left
 else if gI t r≠0 then gI t r
 else if keptF r≠0 then keptF r
 else if xL t r.right.graph r.freshN r.freshE=false then 13
 else condF t r.left r.cond
theorem AK {t:Types}{r:Rule}(h:gI t r=0):graphF r.right.graph=0∧gU t r.right.graph=true:=by
 unfold gI at h
 split at h
 ·rename_i h1;exact absurd h h1
 ·rename_i h1
  split at h
  ·cases h
  ·rename_i h2;exact ⟨by omega,by simpa using h2⟩
theorem Kh (t:Types)(ht:t.ok)(r:Rule)(hr:r.ok):Pure Tryz.prog 130 [t.d,r.d] (dI (ruleF t r)):=by
 have hcv:=uC t ht r.left r.cond hr.cond hr.size
 rw [Cond.c_eq] at hcv
 refine Tz.pK ⟨fun _=>false,fun _=>[]⟩ Tryz.func130 rfl (fun Q hQ=>?_)
 have Y:=trivial
 refine wv (h:=aB (lV t ht) wl ?_)
 refine cT (fun h2=>?_) fun h2=>?_
 ·have Y:=wa Y (wa h2 @ruleF.eq_1)
  exact wv (h:=hQ _ _ wy)
 ·refine wo (h:=aB (mD r.name hr.name) wl ?_)
  refine dV (fun h4=>?_) fun h4=>?_
  ·have Y:=wa Y (wa h2 (wa h4 @ruleF.eq_1))
   exact wv (h:=hQ _ _ wy)
  ·refine wv (h:=aB (lL t ht r.left) wl ?_)
   refine cT (fun h7=>?_) fun h7=>?_
   ·have Y:=wa Y (wa h2 (wa h4 (wa h7 @ruleF.eq_1)))
    exact wv (h:=hQ _ _ wy)
   ·refine wv (h:=aB (Kg t ht r) wl ?_)
    refine cT (fun h10=>?_) fun h10=>?_
    ·have Y:=wa Y (wa h2 (wa h4 (wa h7 (wa h10 @ruleF.eq_1))))
     exact wv (h:=hQ _ _ wy)
    ·have hg:=AK h10
     have hgl:=bJ hg.1
     refine wv (h:=aB (Mk r hr) wl ?_)
     refine cT (fun h13=>?_) fun h13=>?_
     ·have Y:=wa Y (wa h2 (wa h4 (wa h7 (wa h10 (wa h13 @ruleF.eq_1)))))
      exact wv (h:=hQ _ _ wy)
     ·refine wv (h:=aB (GQ r (by omega) (by omega)) wl ?_)
      refine wo (h:=aB (GP t ht r.right.graph hg.1 hg.2 r.freshN r.freshE (fun i hi=>jK hi) (fun i hi=>jK hi)) wl ?_)
      refine dV (fun h16=>?_) fun h16=>?_
      ·have Y:=wa Y (wa h2 (wa h4 (wa h7 (wa h10 (wa h13 (wa h16 @ruleF.eq_1))))))
       exact wv (h:=hQ _ _ wy)
      ·refine wv (h:=aB (hcv) wl ?_)
       have Y:=wa Y (wa h2 (wa h4 (wa h7 (wa h10 (wa h13 (wa h16 @ruleF.eq_1))))))
       exact wv (h:=hQ _ _ wy)
def iK (s:ByteArray):Bool:=decide (40<(s.size:Int))
def rJ (x:Attr):Bool:=iK x.name||decide (25<(x.names.length:Int))||x.names.any iK
def nX (n:NodeTy):Bool:=iK n.name||n.attrs.any rJ
def wT (x:EdgeTy):Bool:=iK x.name
def gH (l:List NodeTy):Nat:=(l.map fun n=>n.attrs.length).sum
def sO (t:Types):Bool:=decide ((t.nodes.length:Int)≤20)&&decide ((t.edges.length:Int)≤30)&&decide (gH t.nodes≤30)&&!(t.nodes.any nX)&&!(t.edges.any wT)
@[go_sem,simp] theorem PY:gH []=0:=rfl
theorem Ht (l:List NodeTy){i:Nat}(h:i<l.length):gH (l.take (i+1))=gH (l.take i)+l[i].attrs.length:=by
 unfold gH
 rw [aF h,List.map_append,List.sum_append];simp
theorem Lm (l:List NodeTy)(i:Nat):gH (l.take i)≤gH l:=by
 have:gH l=gH (l.take i)+gH (l.drop i):=by
  unfold gH
  rw [← List.sum_append,← List.map_append,List.take_append_drop]
 omega
theorem Ng {l:List NodeTy}{n:NodeTy}(h:n∈l):n.attrs.length≤gH l:=by
 induction l with
 | nil=>cases h
 | cons a l ih =>
  have e:gH (a :: l)=a.attrs.length+gH l:=by simp [gH]
  rcases aS.1 h with rfl|h
  ·omega
  ·have:=ih h;omega
theorem Hk {t:Types}(h:sO t=true):t.ok:=by
 simp [sO] at h
 obtain ⟨⟨⟨⟨h1,h2⟩,h3⟩,h4⟩,h5⟩:=h
 refine ⟨fun n hn=>?_,fun x hx=>⟨?_⟩,by omega,by omega⟩
 ·have hl:=Ng hn
  have:=h4 n hn
  simp [nX,iK] at this
  refine ⟨by omega,fun x hx=>?_,by omega⟩
  have hb:=this.2 x hx
  simp [rJ,iK] at hb
  refine ⟨by omega,fun s hs=>?_,by omega⟩
  have:=hb.2 s hs
  omega
 ·have:=h5 x hx
  simp [wT,iK] at this
  omega
theorem Fx (t:Types)(ht:∀ n∈t.nodes,n.attrs.length≤1000000000000000):Pure Tryz.prog 59 [t.d] (.bool (sO t)):=by
 refine Tz.pK ⟨fun t=>t==6,fun _=>[]⟩ Tryz.func59 rfl (fun Q hQ=>?_)
 have Y:=trivial
 refine dV (fun h1=>?_) fun h1=>?_
 ·refine wv (h:=?_)
  have hb:sO t=false:=by simp [sO];omega
  exact hQ _ _ (by simp [go_sem,hb])
 ·refine wv (h:=bB (fun i e H=>(e 1=.adr t.c∧e 3=dI (gH (t.nodes.take i))∧e 4=dI i)∧(i≤t.nodes.length)∧(gH (t.nodes.take i)≤30)∧((t.nodes.take i).any nX=false)) (fun i=>t.nodes.length - i) 0 ⟨wg,wi,(by (simp [gH])),(by rfl)⟩ fun I0 hI0 i e H hi0=>?_)
  obtain ⟨E0,hi,hs,ha⟩:=hi0
  have Y:=wa Y E0
  refine dV (fun h5=>?_) fun h5=>?_
  ·have hst:=Ht t.nodes h5
   have hle:=Lm t.nodes (i+1)
   have hn:=ht _ (aC h5)
   have Y:=wa Y (wa h5 hst)
   refine dV (fun h8=>?_) fun h8=>?_
   ·refine wv (h:=?_)
    have hb:sO t=false:=by
     rcases h8 with h8|h8
     ·simp [sO];omega
     ·have:t.nodes.any nX=true:=aU.2 ⟨_,aC h5,by simp [nX,iK];omega⟩
      simp [sO,this]
    exact hQ _ _ (by simp [go_sem,hb])
   ·have hN:iK t.nodes[i].name=false:=by simp [iK];omega
    refine wv (h:=bB (fun k e H=>(e 1=.adr t.c∧e 3=dI (gH (t.nodes.take (i+1)))∧e 4=dI i∧e 5=dI k)∧(k≤t.nodes[i].attrs.length)∧((t.nodes[i].attrs.take k).any rJ=false)) (fun k=>t.nodes[i].attrs.length - k) 0 ⟨wg,wi,(by rfl)⟩ fun I2 hI2 k e H hi2=>?_)
    obtain ⟨E2,hk,hb⟩:=hi2
    have Y:=wa Y E2
    refine dV (fun h11=>?_) fun h11=>?_
    ·have Y:=wa Y h11
     refine dV (fun h14=>?_) fun h14=>?_
     ·refine wv (h:=?_)
      have hbad:rJ t.nodes[i].attrs[k]=true:=by simp [rJ,iK];omega
      have hb2:t.nodes.any nX=true:=aU.2 ⟨_,aC h5,by unfold nX;rw [b6];right;exact aU.2 ⟨_,aC h11,hbad⟩⟩
      have hb3:sO t=false:=by simp [sO,hb2]
      exact hQ _ _ (by simp [go_sem,hb3])
     ·have hM:iK t.nodes[i].attrs[k].name=false:=by simp [iK];omega
      refine wv (h:=bB (fun m e H=>∃ j:Nat,(e 1=.adr t.c∧e 3=dI (gH (t.nodes.take (i+1)))∧e 4=dI i∧e 5=dI k∧e 6=.ptr j 1 0 0∧e 7=dI m)∧(H.get j=some ⟨186,4,[t.nodes[i].attrs[k].c],false⟩)∧(j<H.next)∧(m≤t.nodes[i].attrs[k].names.length)∧((t.nodes[i].attrs[k].names.take m).any iK=false)) (fun m=>t.nodes[i].attrs[k].names.length - m) 0 ⟨H.next,wg,wn,wn,wi,(by rfl)⟩ fun I4 hI4 m e H hi4=>?_)
      obtain ⟨j,E4,gj_4,nj_4,hm,hc⟩:=hi4
      have Y:=wa Y (wa E4 (wa gj_4 (bY nj_4)))
      refine dV (fun h17=>?_) fun h17=>?_
      ·have Y:=wa Y h17
       refine dV (fun h19=>?_) fun h19=>?_
       ·refine wv (h:=?_)
        have hbad:rJ t.nodes[i].attrs[k]=true:=by unfold rJ;rw [b6];right;exact aU.2 ⟨_,aC h17,by simp [iK];omega⟩
        have hb2:t.nodes.any nX=true:=aU.2 ⟨_,aC h5,by unfold nX;rw [b6];right;exact aU.2 ⟨_,aC h11,hbad⟩⟩
        have hb3:sO t=false:=by simp [sO,hb2]
        exact hQ _ _ (by simp [go_sem,hb3])
       ·exact wo (h:=wx hI4 (m+1) ⟨j,wg,wn,wn,wj,(by (rw [cX _ _ _ h17,hc];simp [iK];omega))⟩)
      ·have hZ:=lM hc h17
       exact wo (h:=wx hI2 (k+1) ⟨wg,wj,(by (rw [cX _ _ _ h11,hb];simp [rJ,hM,hZ];omega))⟩)
    ·have hA:=lM hb h11
     exact wo (h:=wx hI0 (i+1) ⟨wg,wj,(by omega),(by (rw [cX _ _ _ h5,ha];simp [nX,hN,hA]))⟩)
  ·have hNn:=lM ha h5
   rw [aJ (by omega)] at hs
   refine wv (h:=bB (fun q e H=>(e 1=.adr t.c∧e 8=dI q)∧(q≤t.edges.length)∧((t.edges.take q).any wT=false)) (fun q=>t.edges.length - q) 0 ⟨wg,wi,(by rfl)⟩ fun I6 hI6 q e H hi6=>?_)
   obtain ⟨E6,hj,hd⟩:=hi6
   have Y:=wa Y E6
   refine dV (fun h22=>?_) fun h22=>?_
   ·have Y:=wa Y h22
    refine dV (fun h24=>?_) fun h24=>?_
    ·refine wv (h:=?_)
     have hb2:t.edges.any wT=true:=aU.2 ⟨_,aC h22,by simp [wT,iK];omega⟩
     have hb3:sO t=false:=by simp [sO,hb2]
     exact hQ _ _ (by simp [go_sem,hb3])
    ·exact wo (h:=wx hI6 (q+1) ⟨wg,wj,(by (rw [cX _ _ _ h22,hd];simp [wT,iK];omega))⟩)
   ·have hEe:=lM hd h22
    refine wv (h:=?_)
    have hb3:sO t=true:=by simp only [sO,hNn,hEe];simp;omega
    exact hQ _ _ (by simp [go_sem,hb3])
theorem Ca (a b:Graph)(m:Part):Pure Tryz.prog 300 [a.d,b.d,m.d] (.bool (ET a b m)):=by
 refine Tz.pK ⟨fun _=>false,fun _=>[]⟩ Tryz.func300 rfl (fun Q hQ=>?_)
 have Y:=trivial
 refine wo (h:=aB (qX a b m) wl ?_)
 refine wo (h:=aK (fun hg=>mG m.nodes) (fun hg=>wl) ?_)
 refine wo (h:=aK (fun hg=>mG m.edges) (fun hg=>wl) ?_)
 exact wo (h:=hQ _ _ (by simp [go_sem,ET,uR]))
theorem GW (c:Cond)(hc:c.short):Pure Tryz.prog 406 [.agg c.c] (.bool (bareB c)):=by
 obtain ⟨h1,h2,h3,h4,h5,h6⟩:=hc
 refine Tz.pK ⟨fun _=>false,fun _=>[]⟩ Tryz.func406 rfl (fun Q hQ=>?_)
 have Y:=@Cond.c_eq
 exact wo (h:=hQ _ _ (by simp [go_sem,bareB];rw [aV];simp;omega))
theorem Im (c:Cond)(hc:c.short):Pure Tryz.prog 363 [.agg c.c] (.bool (oT c)):=by
 have hbare:∀ k':Int,k'=c.kind→Pure Tryz.prog 406 [.agg [dI k',.list (c.kids.map Cond.c),dLI c.map.nodes,dLI c.map.edges,dLI c.pattern.graph.nodes,.list (c.pattern.graph.edges.map Edge.c),.list (c.pattern.slots.map Slot.c),dI c.pattern.vars,.list (c.pattern.tests.map Test.c)]] (.bool (bareB c)):=by
  intro k' hk'
  have:=GW c hc
  rwa [Cond.c_eq,← hk'] at this
 refine Tz.pK ⟨fun _=>false,fun _=>[]⟩ Tryz.func363 rfl (fun Q hQ=>?_)
 have Y:=@Cond.c_eq
 refine cT (fun h2=>?_) fun h2=>?_
 ·have Y:=wa Y h2
  refine wo (h:=aK (fun hg=>(hbare _ (by omega))) (fun hg=>wl) ?_)
  exact wo (h:=hQ _ _ (by simp [go_sem,oT,Y]))
 ·have Y:=wa Y h2
  refine cT (fun h4=>?_) fun h4=>?_
  ·have Y:=wa Y h4
   refine wo (h:=aK (fun hg=>(hbare _ (by omega))) (fun hg=>wl) ?_)
   exact wo (h:=hQ _ _ (by simp [go_sem,oT,Y]))
  ·have Y:=wa Y h4
   refine cT (fun h6=>?_) fun h6=>?_
   ·have Y:=wa Y h6
    refine wo (h:=aK (fun hg=>(hbare _ (by omega))) (fun hg=>wl) ?_)
    exact wo (h:=hQ _ _ (by simp [go_sem,oT,Y];rw [aV];simp;omega))
   ·have Y:=wa Y h6
    refine cT (fun h7=>?_) fun h7=>?_
    ·have Y:=wa Y h7
     refine wo (h:=aK (fun hg=>(hbare _ (by omega))) (fun hg=>wl) ?_)
     exact wo (h:=hQ _ _ (by simp [go_sem,oT,Y];rw [aV];simp;omega))
    ·have Y:=wa Y h7
     refine cT (fun h9=>?_) fun h9=>?_
     ·have Y:=wa Y h9
      exact wo (h:=hQ _ _ (by simp [go_sem,oT,Y];rw [aV];simp))
     ·have Y:=wa Y h9
      exact wv (h:=hQ _ _ (by simp [go_sem,oT,Y]))
theorem Dd:∀ c:Cond,c.ok→Pure Tryz.prog 296 [.agg c.c] (.bool (HL c)):=by
 refine jH fun c ih hc=>?_
 obtain ⟨hs,hk⟩:=(rL c).1 hc
 have hW:=rM c
 refine Tz.pK ⟨fun _=>false,fun _=>[]⟩ Tryz.func296 rfl (fun Q hQ=>?_)
 have Y:=@Cond.c_eq
 refine wo (h:=aB ((by have:=Im c hs;rwa [Cond.c_eq] at this)) wl ?_)
 refine wv (h:=?_)
 repeat first|intro _|refine ⟨eP,?_⟩
 refine wq (fun h1=>?_) fun h1=>?_
 ·exact wv (h:=hQ _ _ (.inl (by simp [go_sem,hW,h1])))
 ·refine wv (h:=bB (fun i e H=>(e 1=.adr c.c∧e 3=dI i)∧(i≤c.kids.length)∧(((c.kids.take i).any fun k=>!HL k)=false)) (fun i=>c.kids.length - i) 0 ⟨wg,wi,(by rfl)⟩ fun I0 hI0 i e H hi0=>?_)
  obtain ⟨E0,hi,ha⟩:=hi0
  have Y:=wa Y E0
  refine wv (h:=?_)
  repeat first|intro _|refine ⟨eP,?_⟩
  refine wq (fun h4=>?_) fun h4=>?_
  ·have Y:=wa Y h4
   refine wo (h:=aB ((by have:=ih _ (aC h4) (hk _ (aC h4));rwa [Cond.c_eq] at this)) wl ?_)
   refine wv (h:=?_)
   repeat first|intro _|refine ⟨eP,?_⟩
   refine wq (fun h6=>?_) fun h6=>?_
   ·refine wv (h:=?_)
    have hb':c.kids.all HL=false:=by rw [bH];intro h;rw [bV] at h;have:=h _ (aC h4);rw [h6] at this;cases this
    exact hQ _ _ (.inl (by simp only [go_sem,hW,h1,hb',Bool.and_false]))
   ·exact wo (h:=wx hI0 (i+1) ⟨wg,wj,(by (rw [cX _ _ _ h4,ha];simp [h6]))⟩)
  ·refine wv (h:=?_)
   have hb:=lM ha h4
   have hb':c.kids.all HL=true:=by simp at hb ⊢;exact hb
   exact hQ _ _ (.inl (by simp only [go_sem,hW,h1,hb',Bool.and_true]))
theorem EK:∀ c:Cond,c.size≤1000000→Pure Tryz.prog 297 [.agg c.c] (.tup [dI c.size,dI c.dep]):=by
 refine jH fun c ih hc=>?_
 have hse:=tA c
 have hde:=Oc c
 have hle:=wP c.kids
 refine Tz.pK ⟨fun _=>false,fun _=>[]⟩ Tryz.func297 rfl (fun Q hQ=>?_)
 try simp [go_sem,seval,Cond.c_eq]
 obtain ⟨I0,hI0⟩:∃ I0:Nat→cZ→AHeap→Prop,∀ (i:Nat) (e:cZ) (H:AHeap),I0 i e H↔((e 1=.adr c.c)∧(e 4=dI ((1+Cond.sizes (c.kids.take i):Nat):Int))∧(e 5=dI (Cond.deps (c.kids.take i):Nat))∧(e 6=dI i)∧(i≤c.kids.length)):=⟨fun i e H=>_,fun _ _ _=>Iff.rfl⟩
 refine q9 I0 (fun i=>c.kids.length - i) (0) ((hI0 _ _ _).2 ⟨?_,?_,?_,?_,(by first|assumption|omega|(simp [go_sem,Cond.c_eq];done)|(simp_all;done))⟩) ?_
 iterate 4 (first|omega|(simp [go_sem,seval,Cond.c_eq]<;>omega))
 intro i e H hi0
 obtain ⟨q1_0,q4_0,q5_0,q6_0,hi⟩:=(hI0 _ _ _).1 hi0
 have F0:=And.intro q1_0 q6_0
 try simp [go_sem,seval,Cond.c_eq,F0,q4_0,q5_0]
 repeat first|intro _|refine ⟨eP,?_⟩
 refine aO (fun h3=>?_) (fun h3=>?_)
 ·try simp [go_sem] at h3
  have hsm:=y5 (aC h3)
  have hdm:=KW c.kids[i]
  have hts:=aF h3
  have h1s:=CX (c.kids.take i) c.kids[i]
  have h1d:=Ge (c.kids.take i) c.kids[i]
  have hst:=CW c.kids (i+1)
  have hS:Cond.sizes (c.kids.take (i+1))=Cond.sizes (c.kids.take i)+c.kids[i].size:=by rw [hts,h1s]
  have hD:Cond.deps (c.kids.take (i+1))=max (Cond.deps (c.kids.take i)) c.kids[i].dep:=by rw [hts,h1d]
  have hdt:=wP (c.kids.take i)
  try simp [go_sem,seval,Cond.c_eq,F0,q4_0,q5_0,h3,hS,hD,ES]
  repeat first|intro _|refine ⟨eP,?_⟩
  refine aB ((by have:=ih _ (aC h3) (by omega);rwa [Cond.c_eq] at this)) ((by first|rfl|(simp [go_sem,← List.map_take,← List.map_drop,Cond.c_eq,F0,q4_0,q5_0,h3,hS,hD,ES];done))) ?_
  try simp [go_sem,seval,Cond.c_eq,F0,q4_0,q5_0,h3,hS,hD,ES]
  repeat first|intro _|refine ⟨eP,?_⟩
  refine eV (i+1) (by omega) ((hI0 _ _ _).2 ⟨?_,?_,?_,?_,(by first|assumption|omega|(simp [go_sem,Cond.c_eq,F0,q4_0,q5_0,h3,hS,hD,ES];done)|(simp_all<;>omega))⟩)<;>first|omega|(simp [go_sem,seval,Cond.c_eq,F0,q4_0,q5_0,h3,hS,hD,ES]<;>omega)
 ·try simp [go_sem] at h3
  have hU:c.kids.take i=c.kids:=aJ h3
  rw [hU] at q4_0 q5_0
  try simp [go_sem,seval,Cond.c_eq,F0,q4_0,q5_0]
  refine aO (fun h7=>?_) (fun h7=>?_)
  ·try simp [go_sem] at h7
   try simp [go_sem,seval,Cond.c_eq,F0,q4_0,q5_0]
   repeat first|intro _|refine ⟨eP,?_⟩
   exact hQ _ _ (by first|(left;(simp [go_sem,hse,hde,h7]);done)|(right;(simp [go_sem,hse,hde,h7]);done))
  ·try simp [go_sem] at h7
   try simp [go_sem,seval,Cond.c_eq,F0,q4_0,q5_0]
   exact hQ _ _ (by first|(left;(simp [go_sem,hse,hde,h7]);done)|(right;(simp [go_sem,hse,hde,h7]);done))
theorem Ip (c:Cond)(hc:c.ok)(hs:c.size≤1000000):Pure Tryz.prog 210 [.agg c.c] (dI (pP c)):=by
 refine Tz.pK ⟨fun _=>false,fun _=>[]⟩ Tryz.func210 rfl (fun Q hQ=>?_)
 have Y:=@Cond.c_eq
 refine wo (h:=aB ((by have:=Dd c hc;rwa [Cond.c_eq] at this)) wl ?_)
 refine dV (fun h1=>?_) fun h1=>?_
 ·exact wv (h:=hQ _ _ (by simp [go_sem,pP,h1]))
 ·refine wv (h:=aB ((by have:=EK c hs;rwa [Cond.c_eq] at this)) wl ?_)
  refine dV (fun h4=>?_) fun h4=>?_
  ·exact wv (h:=hQ _ _ (by simp [go_sem,pP,h1];omega))
  ·exact wv (h:=hQ _ _ (by simp [go_sem,pP,h1];omega))
theorem GX (p:Pattern)(v:Int):Pure Tryz.prog 364 [p.d,dI v] (.bool (iI p v)):=by
 refine Tz.pK ⟨fun _=>false,fun _=>[]⟩ Tryz.func364 rfl (fun Q hQ=>?_)
 have Y:=trivial
 refine wv (h:=bB (fun i e H=>(e 2=.adr p.c∧e 1=dI v∧e 5=dI i)∧(i≤p.slots.length)∧(((p.slots.take i).any fun s=>decide (s.term.var=v))=false)) (fun i=>p.slots.length - i) 0 ⟨wg,wi,(by rfl)⟩ fun I0 hI0 i e H hi0=>?_)
 obtain ⟨E0,hi,ha⟩:=hi0
 have Y:=wa Y E0
 refine wv (h:=?_)
 repeat first|intro _|refine ⟨eP,?_⟩
 refine wq (fun h2=>?_) fun h2=>?_
 ·have Y:=wa Y h2
  refine wv (h:=?_)
  repeat first|intro _|refine ⟨eP,?_⟩
  refine wq (fun h4=>?_) fun h4=>?_
  ·refine wv (h:=?_)
   have hb:iI p v=true:=aU.2 ⟨_,aC h2,by simpa using h4⟩
   exact hQ _ _ (.inl (by simp only [go_sem,hb]))
  ·exact wo (h:=wx hI0 (i+1) ⟨wg,wj,(by (rw [cX _ _ _ h2,ha];simpa using h4))⟩)
 ·refine wv (h:=?_)
  have hb:iI p v=false:=lM ha h2
  exact hQ _ _ (.inl (by simp only [go_sem,hb]))
def rB (t:Types)(o:Int)(q:Pattern):Int:=if q.vars<o then 20 else lT t q o
theorem In (t:Types)(ht:t.ok)(o:Int)(h0:0≤o)(q:Pattern):Pure Tryz.prog 298 [t.d,dI o,q.d] (dI (rB t o q)):=by
 refine Tz.pK ⟨fun _=>false,fun _=>[]⟩ Tryz.func298 rfl (fun Q hQ=>?_)
 have Y:=trivial
 refine cT (fun h1=>?_) fun h1=>?_
 ·exact wv (h:=hQ _ _ (by simp [go_sem,rB,h1]))
 ·refine wv (h:=aB (qU t ht q) wl ?_)
  refine cT (fun h4=>?_) fun h4=>?_
  ·exact wv (h:=hQ _ _ (by simp [go_sem,rB,lT,h4];omega))
  ·have hv:=iZ (.inl h4)
   have hI:rB t o q=lT t q o:=by unfold rB;rw [if_neg (by omega)]
   refine wv (h:=bB (fun v e H=>(e 5=.adr q.c∧e 7=dI 9∧e 8=dI (o+v))∧(∀ u:Int,o≤u→u<o+v→iI q u=true)) (fun v=>(q.vars - o).toNat - v) 0 ⟨wg,(by (intro u hu hv;omega))⟩ fun I0 hI0 v e H hi0=>?_)
   obtain ⟨E0,ho⟩:=hi0
   have Y:=wa Y E0
   refine cT (fun h7=>?_) fun h7=>?_
   ·have Y:=wa Y h7
    refine wo (h:=aB (GX q _) wl ?_)
    refine dV (fun h9=>?_) fun h9=>?_
    ·exact wv (h:=hQ _ _ (by rw [hI,BI h4 h0 (v:=o+v) (by omega) h7 (by simpa using h9)];simp [go_sem]))
    ·have ho':∀ u:Int,o≤u→u<o+((v+1:Nat):Int)→iI q u=true:=fun u hu hv=>by
      by_cases hc:u<o+v
      ·exact ho u hu hc
      ·rw [show u=o+v by omega];simpa using h9
     exact wo (h:=wx hI0 (v+1) ⟨wg,(by exact ho')⟩)
   ·exact wv (h:=hQ _ _ (by rw [hI,BG h4 h0 fun u hu hv=>ho u hu (by omega)];simp [go_sem]))
theorem Ko (t:Types)(ht:t.ok):∀ (c:Cond) (p:Pattern),0≤p.vars→p.vars≤12→Pure Tryz.prog 211 [t.d,p.d,.agg c.c] (dI (oC t p c)):=by
 refine jH fun c ih p hp0 hp1=>?_
 have hF:=Cz t p c
 refine Tz.pK ⟨fun t=>t==7,fun _=>[]⟩ Tryz.func211 rfl (fun Q hQ=>?_)
 have Y:=@Cond.c_eq
 refine cT (fun h2=>?_) fun h2=>?_
 ·rw [if_pos h2,if_pos h2] at hF
  refine wv (h:=aB (In t ht p.vars hp0 c.pattern) wl ?_)
  refine cT (fun h4=>?_) fun h4=>?_
  ·have hE:iJ t p c.map c.pattern=rB t p.vars c.pattern:=by
    unfold iJ;unfold rB at h4 ⊢
    split
    ·rfl
    ·rename_i h';rw [if_neg h'] at h4;rw [if_pos h4]
   exact wv (h:=hQ _ _ (by rw [hF,hE,if_pos (by omega)];simp [go_sem]))
  ·have hv0:¬ c.pattern.vars<p.vars∧lT t c.pattern p.vars=0:=by
    unfold rB at h4
    split at h4
    ·omega
    ·exact ⟨by assumption,h4⟩
   have hv1:=hv0.1
   have h6:=hv0.2
   refine wv (h:=aB (qX p.graph c.pattern.graph c.map) wl ?_)
   refine cT (fun h7=>?_) fun h7=>?_
   ·exact wv (h:=hQ _ _ (by simp [go_sem,hF,iJ,h6,h7];omega))
   ·refine wo (h:=aB (Ca p.graph c.pattern.graph c.map) wl ?_)
    refine wv (h:=?_)
    repeat first|intro _|refine ⟨eP,?_⟩
    refine wq (fun h9=>?_) fun h9=>?_
    ·exact wv (h:=hQ _ _ (by simp [go_sem,hF,iJ,h6,h7,h9];omega))
    ·have hE0:iJ t p c.map c.pattern=0:=by simp [iJ,h6,h7,h9];omega
     rw [hE0,if_neg (by omega)] at hF
     obtain ⟨w,hw⟩:∃ w:Pattern,w=c.pattern:=⟨_,rfl⟩
     have hv:=BH h6
     have hw0:0≤w.vars:=by rw [hw];exact hv.1
     have hw1:w.vars≤12:=by rw [hw];exact hv.2
     have hF':oC t p c=fG (oC t w) c.kids:=by rw [hF,hw]
     refine wv (h:=bB (fun i e H=>(e 3=.adr t.c∧e 5=.adr c.c∧e 7=.ptr 0 1 0 0∧e 10=dI i)∧(H.get 0=some ⟨53,5,[w.c],false⟩)∧(0<H.next)∧(i≤c.kids.length)∧(fG (oC t w) (c.kids.drop i)=oC t p c)) (fun i=>c.kids.length - i) 0 ⟨wg,(by (simp [go_sem,hw])),wn,wi,(by (exact hF'.symm))⟩ fun I0 hI0 i e H hi0=>?_)
     obtain ⟨E0,g0_0,n0_0,hi,hL⟩:=hi0
     have Y:=wa Y (wa E0 (wa g0_0 (bY n0_0)))
     refine wv (h:=?_)
     repeat first|intro _|refine ⟨eP,?_⟩
     refine wq (fun h13=>?_) fun h13=>?_
     ·have hst:=hL
      rw [i6 _ h13] at hst
      have Y:=wa Y h13
      refine wo (h:=aI ((by have:=ih _ (aC h13) w hw0 hw1;rwa [Cond.c_eq] at this)) wl ?_)
      refine wv (h:=?_)
      repeat first|intro _|refine ⟨eP,?_⟩
      refine wq (fun h16=>?_) fun h16=>?_
      ·rw [if_pos (by omega)] at hst
       exact wv (h:=hQ _ _ (by simp [go_sem,hst]))
      ·rw [if_neg (by omega)] at hst
       exact wo (h:=wx hI0 (i+1) ⟨wg,(by (simp [go_sem,Y])),wn,wj,(by exact hst)⟩)
     ·exact wv (h:=hQ _ _ (by rw [← hL,jU _ (by omega)];simp [go_sem]))
 ·rw [if_neg h2,if_neg (by omega),if_neg h2] at hF
  obtain ⟨w,hw⟩:∃ w:Pattern,w=p:=⟨_,rfl⟩
  have hw0:0≤w.vars:=by rw [hw];exact hp0
  have hw1:w.vars≤12:=by rw [hw];exact hp1
  have hF':oC t p c=fG (oC t w) c.kids:=by rw [hF,hw]
  refine wv (h:=bB (fun i e H=>(e 3=.adr t.c∧e 5=.adr c.c∧e 7=.ptr 0 1 0 0∧e 10=dI i)∧(H.get 0=some ⟨53,5,[w.c],false⟩)∧(0<H.next)∧(i≤c.kids.length)∧(fG (oC t w) (c.kids.drop i)=oC t p c)) (fun i=>c.kids.length - i) 0 ⟨wg,(by (simp [go_sem,hw])),wn,wi,(by (exact hF'.symm))⟩ fun I0 hI0 i e H hi0=>?_)
  obtain ⟨E0,g0_0,n0_0,hi,hL⟩:=hi0
  have Y:=wa Y (wa E0 (wa g0_0 (bY n0_0)))
  refine wv (h:=?_)
  repeat first|intro _|refine ⟨eP,?_⟩
  refine wq (fun h13=>?_) fun h13=>?_
  ·have hst:=hL
   rw [i6 _ h13] at hst
   have Y:=wa Y h13
   refine wo (h:=aI ((by have:=ih _ (aC h13) w hw0 hw1;rwa [Cond.c_eq] at this)) wl ?_)
   refine wv (h:=?_)
   repeat first|intro _|refine ⟨eP,?_⟩
   refine wq (fun h16=>?_) fun h16=>?_
   ·rw [if_pos (by omega)] at hst
    exact wv (h:=hQ _ _ (by simp [go_sem,hst]))
   ·rw [if_neg (by omega)] at hst
    exact wo (h:=wx hI0 (i+1) ⟨wg,(by (simp [go_sem,Y])),wn,wj,(by exact hst)⟩)
  ·exact wv (h:=hQ _ _ (by rw [← hL,jU _ (by omega)];simp [go_sem]))
theorem Bs (t:Types)(ht:t.ok)(p:Pattern)(c:Cond)(hc:c.ok)(hs:c.size≤1000000):Pure Tryz.prog 126 [t.d,p.d,.agg c.c] (dI (condF t p c)):=by
 refine Tz.pK ⟨fun _=>false,fun _=>[]⟩ Tryz.func126 rfl (fun Q hQ=>?_)
 have Y:=@Cond.c_eq
 refine wv (h:=aB (qU t ht p) wl ?_)
 refine cT (fun h2=>?_) fun h2=>?_
 ·have Y:=wa Y (wa h2 @condF.eq_1)
  exact wv (h:=hQ _ _ wy)
 ·have hv:=iZ (.inr h2)
  refine wv (h:=aB ((by have:=Ip c hc hs;rwa [Cond.c_eq] at this)) wl ?_)
  refine cT (fun h5=>?_) fun h5=>?_
  ·have Y:=wa Y (wa h2 (wa h5 @condF.eq_1))
   exact wv (h:=hQ _ _ wy)
  ·refine wv (h:=aB ((by have:=Ko t ht c p hv.1 hv.2;rwa [Cond.c_eq] at this)) wl ?_)
   have Y:=wa Y (wa h2 (wa h5 @condF.eq_1))
   exact wv (h:=hQ _ _ wy)
theorem zY {l:List Int}{v:Int}(hs:l.Pairwise (· < ·))(hm:mem l v=true):HJ l v=sE l v:=by
 obtain ⟨i,hi,he⟩:=aN ((cW l v).1 hm)
 have hpw:=dX.1 hs
 rw [sK (i:=i) (fun j hj h=>by
   have hjl:j<l.length:=by omega
   rw [aA hjl] at h
   have:=hpw j i hjl hi hj
   simp at h;omega) (by rw [aA hi,he])]
 rw [LD (n:=i) (fun j hj h=>by have:=hpw j i hj hi h;omega) (by omega) (fun _=>by omega)]
theorem nF {α:Type}{f:α→Int}:∀ {l:List α},fG f l=0→∀ x∈l,f x=0
 | [],_,x,hx=>by cases hx
 | a :: l,h,x,hx=>by
  unfold fG at h
  split at h
  ·rename_i h1;exact absurd h h1
  ·rename_i h1
   rcases aS.1 hx with h2|h2
   ·subst h2;omega
   ·exact nF h x h2
theorem AD {g:Graph}{p:Part}(h:subF g p=0):∀ k∈p.edges,mem p.nodes (g.edges[k.toNat]?.getD bQ).from_=true∧mem p.nodes (g.edges[k.toNat]?.getD bQ).to_=true:=by
 unfold subF oQ at h
 split at h
 ·rename_i h1;exact absurd h h1
 ·split at h
  ·rename_i h2;exact absurd h h2
  ·split at h
   ·rename_i h3;exact absurd h h3
   ·intro k hk
    have:=nF h k hk
    unfold vV at this
    split at this
    ·rename_i h4;simpa using h4
    ·cases this
theorem xG (g:Graph)(p:Part)(hl:p.nodes.length≤1000000)(hle:p.edges.length≤1000000):Pure Tryz.prog 150 [g.d,p.d] (.tup [(b7 g p).d,(xK g p).d,dI (subF g p)]):=by
 refine Tz.pK ⟨fun t=>t==4||t==5||t==8||t==11||t==76||t==80,fun r=>match r with|8=>[(0,11),(1,11)]|12=>[(0,9),(1,9),(2,9),(3,9),(5,9),(6,9),(7,9),(8,9)]|13=>[(0,15),(1,15)]|14=>[(0,1),(1,2),(1,3),(0,4),(0,5),(1,5),(2,5),(3,5),(4,5),(1,6),(4,6),(5,6),(1,7),(4,7),(5,7),(0,8)]|_=>[]⟩ Tryz.func150 rfl (fun Q hQ=>?_)
 try simp [go_sem,seval]
 refine aB (vC g p) ((by first|rfl|(simp [go_sem,← List.map_take,← List.map_drop];done))) ?_
 try simp [go_sem,seval]
 refine aO (fun h2=>?_) (fun h2=>?_)
 ·try simp [go_sem] at h2
  try simp [go_sem,seval]
  exact hQ _ _ (by first|(left;(simp [go_sem,b7,xK,h2]);done)|(right;(simp [go_sem,b7,xK,h2]);done))
 ·try simp [go_sem] at h2
  obtain ⟨hg,hs,hin,hie⟩:=wD h2
  have hends:=AD h2
  try simp [go_sem,seval]
  obtain ⟨I0,hI0⟩:∃ I0:Nat→cZ→AHeap→Prop,∀ (i:Nat) (e:cZ) (H:AHeap),I0 i e H↔(∃ xs:List Int,(e 2=.adr g.c)∧(e 3=.adr p.c)∧(e 4=.ptr 0 1 0 0)∧(e 5=.ptr 1 1 0 0)∧(e 8=.ptr 2 1 0 0)∧(e 9=dI i)∧(H.get 0=some ⟨37,2,[[.nil,.nil]],false⟩)∧(0<H.next)∧(H.get 1=some ⟨56,2,[[.nil,.nil]],false⟩)∧(1<H.next)∧(H.get 2=some ⟨37,2,[[.own 3 xs.length,.nil]],false⟩)∧(2<H.next)∧(H.get 3=some ⟨3,1,xs.map cI,false⟩)∧(3<H.next)∧(i≤p.nodes.length)∧(xs=(p.nodes.take i).map (gN g))):=⟨fun i e H=>_,fun _ _ _=>Iff.rfl⟩
  refine KG (Ghosts.step (Ghosts.refl _) 2 0 0 3 1 _ _ (rfl) rfl rfl rfl) I0 (fun i=>p.nodes.length - i) (0) ((hI0 _ _ _).2 ⟨([]),?_,?_,?_,?_,?_,?_,?_,?_,?_,?_,?_,?_,?_,?_,(by first|assumption|omega|(simp [go_sem];done)|(simp_all;done)),(by rfl)⟩) ?_
  iterate 14 (first|omega|(simp [go_sem,seval]<;>omega))
  intro i e H hi0
  obtain ⟨xs,q2_0,q3_0,q4_0,q5_0,q8_0,q9_0,g0_0,n0_0,g1_0,n1_0,g2_0,n2_0,g3_0,n3_0,hi,hx⟩:=(hI0 _ _ _).1 hi0
  have x0:=bY n0_0
  have x1:=bY n1_0
  have x2:=bY n2_0
  have x3:=bY n3_0
  have F0:=And.intro q2_0 (And.intro q3_0 (And.intro q4_0 (And.intro q5_0 (And.intro q8_0 (And.intro q9_0 (And.intro g0_0 (And.intro g1_0 (And.intro g2_0 (And.intro g3_0 (And.intro x0 (And.intro x1 (And.intro x2 x3))))))))))))
  try simp [go_sem,seval,F0]
  repeat first|intro _|refine ⟨eM,?_⟩
  refine aO (fun h6=>?_) (fun h6=>?_)
  ·try simp [go_sem] at h6
   have hin':=hin _ (aC h6)
   have hk:p.nodes[i].toNat<g.nodes.length:=by omega
   have hxl:xs.length=i:=by rw [hx];simp;omega
   try simp [go_sem,seval,F0,h6,aA hk,gN]
   repeat first|intro _|refine ⟨eM,?_⟩
   refine eV (i+1) (by omega) ((hI0 _ _ _).2 ⟨(xs++[gN g p.nodes[i]]),?_,?_,?_,?_,?_,?_,?_,?_,?_,?_,?_,?_,?_,?_,(by first|assumption|omega|(simp [go_sem,F0,h6,aA hk,gN,h2];done)|(simp_all<;>omega)),(by (rw [i5 _ h6,← hx]))⟩)<;>first|omega|(simp [go_sem,seval,F0,h6,aA hk,gN]<;>omega)
  ·try simp [go_sem] at h6
   have hX:xs=p.nodes.map (gN g):=by rw [hx,jP _ (by omega)]
   try simp [go_sem,seval,F0]
   obtain ⟨I2,hI2⟩:∃ I2:Nat→cZ→AHeap→Prop,∀ (k:Nat) (e:cZ) (H:AHeap),I2 k e H↔(∃ j:Nat,∃ ys:List Edge,(e 2=.adr g.c)∧(e 3=.adr p.c)∧(e 4=.ptr 0 1 0 0)∧(e 5=.ptr 1 1 0 0)∧(e 8=.ptr 2 1 0 0)∧(e 10=dI k)∧(H.get 0=some ⟨37,2,[[.nil,.nil]],false⟩)∧(0<H.next)∧(H.get 1=some ⟨56,2,[[.nil,.nil]],false⟩)∧(1<H.next)∧(H.get 2=some ⟨37,2,[[.own 3 xs.length,.own j ys.length]],false⟩)∧(2<H.next)∧(H.get 3=some ⟨3,1,xs.map cI,false⟩)∧(3<H.next)∧(H.get j=some ⟨101,3,ys.map Edge.c,false⟩)∧(j<H.next)∧(k≤p.edges.length)∧(ys=(p.edges.take k).map (gEd g p))∧(j≠0)∧(j≠1)∧(j≠2)∧(j≠3)):=⟨fun k e H=>_,fun _ _ _=>Iff.rfl⟩
   refine KG (Ghosts.step (Ghosts.refl _) 2 0 1 101 3 _ _ (g2_0) rfl rfl rfl) I2 (fun k=>p.edges.length - k) (0) ((hI2 _ _ _).2 ⟨(H.next),([]),?_,?_,?_,?_,?_,?_,?_,?_,?_,?_,?_,?_,?_,?_,?_,?_,(by first|assumption|omega|(simp [go_sem,F0];done)|(simp_all;done)),(by rfl),(by omega),(by omega),(by omega),(by omega)⟩) ?_
   iterate 16 (first|omega|(simp [go_sem,seval,F0]<;>omega))
   intro k e H hi2
   obtain ⟨j,ys,q2_2,q3_2,q4_2,q5_2,q8_2,q10_2,g0_2,n0_2,g1_2,n1_2,g2_2,n2_2,g3_2,n3_2,gj_2,nj_2,hk,hy,j0,j1,j2,j3⟩:=(hI2 _ _ _).1 hi2
   have x0:=bY n0_2
   have x1:=bY n1_2
   have x2:=bY n2_2
   have x3:=bY n3_2
   have xj:=bY nj_2
   have F2:=And.intro q2_2 (And.intro q3_2 (And.intro q4_2 (And.intro q5_2 (And.intro q8_2 (And.intro q10_2 (And.intro g0_2 (And.intro g1_2 (And.intro g2_2 (And.intro g3_2 (And.intro gj_2 (And.intro x0 (And.intro x1 (And.intro x2 (And.intro x3 xj))))))))))))))
   try simp [go_sem,seval,F2,j0,j1,j2,j3,j0.symm,j1.symm,j2.symm,j3.symm]
   repeat first|intro _|refine ⟨eM,?_⟩
   refine aO (fun h10=>?_) (fun h10=>?_)
   ·try simp [go_sem] at h10
    have hie':=hie _ (aC h10)
    have hke:p.edges[k].toNat<g.edges.length:=by omega
    have hyl:ys.length=k:=by rw [hy];simp;omega
    have hen:=hends _ (aC h10)
    rw [aA hke,aD] at hen
    have hi1:=zY hs hen.1
    have hi2:=zY hs hen.2
    try simp [go_sem,seval,F2,j0,j1,j2,j3,j0.symm,j1.symm,j2.symm,j3.symm,h10,aA hke,gEd,hi1,hi2]
    repeat first|intro _|refine ⟨eM,?_⟩
    refine aI (Bu p.nodes _) ((by first|rfl|(simp [go_sem,← List.map_take,← List.map_drop,F2,j0,j1,j2,j3,j0.symm,j1.symm,j2.symm,j3.symm,h10,aA hke,gEd,hi1,hi2];done))) ?_
    try simp [go_sem,seval,F2,j0,j1,j2,j3,j0.symm,j1.symm,j2.symm,j3.symm,h10,aA hke,gEd,hi1,hi2]
    repeat first|intro _|refine ⟨eM,?_⟩
    refine aI (Bu p.nodes _) ((by first|rfl|(simp [go_sem,← List.map_take,← List.map_drop,F2,j0,j1,j2,j3,j0.symm,j1.symm,j2.symm,j3.symm,h10,aA hke,gEd,hi1,hi2];done))) ?_
    try simp [go_sem,seval,F2,j0,j1,j2,j3,j0.symm,j1.symm,j2.symm,j3.symm,h10,aA hke,gEd,hi1,hi2]
    repeat first|intro _|refine ⟨eM,?_⟩
    refine eV (k+1) (by omega) ((hI2 _ _ _).2 ⟨(j),(ys++[gEd g p p.edges[k]]),?_,?_,?_,?_,?_,?_,?_,?_,?_,?_,?_,?_,?_,?_,?_,?_,(by first|assumption|omega|(simp [go_sem,F2,j0,j1,j2,j3,j0.symm,j1.symm,j2.symm,j3.symm,h10,aA hke,gEd,hi1,hi2,h2,h6];done)|(simp_all<;>omega)),(by (rw [i5 _ h10,← hy])),(by first|assumption|omega|(simp [go_sem,F2,j0,j1,j2,j3,j0.symm,j1.symm,j2.symm,j3.symm,h10,aA hke,gEd,hi1,hi2,h2,h6];done)|(simp_all<;>omega)),(by first|assumption|omega|(simp [go_sem,F2,j0,j1,j2,j3,j0.symm,j1.symm,j2.symm,j3.symm,h10,aA hke,gEd,hi1,hi2,h2,h6];done)|(simp_all<;>omega)),(by first|assumption|omega|(simp [go_sem,F2,j0,j1,j2,j3,j0.symm,j1.symm,j2.symm,j3.symm,h10,aA hke,gEd,hi1,hi2,h2,h6];done)|(simp_all<;>omega)),(by first|assumption|omega|(simp [go_sem,F2,j0,j1,j2,j3,j0.symm,j1.symm,j2.symm,j3.symm,h10,aA hke,gEd,hi1,hi2,h2,h6];done)|(simp_all<;>omega))⟩)<;>first|omega|(simp [go_sem,seval,F2,j0,j1,j2,j3,j0.symm,j1.symm,j2.symm,j3.symm,h10,aA hke,gEd,hi1,hi2]<;>omega)
   ·try simp [go_sem] at h10
    have hY:ys=p.edges.map (gEd g p):=by rw [hy,jP _ (by omega)]
    try simp [go_sem,seval,F2,j0,j1,j2,j3,j0.symm,j1.symm,j2.symm,j3.symm]
    repeat first|intro _|refine ⟨eM,?_⟩
    exact hQ _ _ (by first|(left;(simp [go_sem,F2,j0,j1,j2,j3,j0.symm,j1.symm,j2.symm,j3.symm,b7,xK,h2,hX,hY]);done)|(right;(simp [go_sem,F2,j0,j1,j2,j3,j0.symm,j1.symm,j2.symm,j3.symm,b7,xK,h2,hX,hY]);done))
theorem Kn (t:Types)(ht:t.ok)(p:Pattern)(hr:p.graph.nodes.length≤1000)(hs1:p.slots.length≤1000)(i:Nat)(hi:i<p.slots.length):Pure Tryz.prog 334 [t.d,p.d,dI i] (dI (s9 t p i)):=by
 have hS:=AG (t:=t) hi
 have h8:=nO ht (p.kind p.slots[i].node)
 refine Tz.pK ⟨fun t=>t==7,fun _=>[]⟩ Tryz.func334 rfl (fun Q hQ=>?_)
 have Y:=wa (aA hi) hi
 refine dV (fun h2=>?_) fun h2=>?_
 ·have hE:fF t p p.slots[i]≠0:=by
   unfold fF;rw [if_neg];decide;intro h;simp [jO] at h;omega
  rw [if_pos hE] at hS
  exact wv (h:=hQ _ _ (by simp [go_sem,hS]))
 ·have hn:p.slots[i].node.toNat<p.graph.nodes.length:=by omega
  have hk:p.kind p.slots[i].node=p.graph.nodes[p.slots[i].node.toNat]:=by simp [Pattern.kind,hn]
  rw [hk] at h8
  have Y:=wa Y (wa (aA hn) hk)
  refine wo (h:=aI (n9 t ht p.graph.nodes[p.slots[i].node.toNat]) wl ?_)
  refine dV (fun h5=>?_) fun h5=>?_
  ·have hE:fF t p p.slots[i]≠0:=by
    unfold fF;rw [if_neg];decide;intro h;simp [jO,inF,hk] at h;omega
   rw [if_pos hE] at hS
   exact wv (h:=hQ _ _ (by simp [go_sem,hS]))
  ·have hE:fF t p p.slots[i]=0:=by
    unfold fF;rw [if_pos];simp [jO,inF,hk];omega
   rw [if_neg (by omega)] at hS
   refine wv (h:=bB (fun k e H=>(e 4=.adr p.c∧e 2=dI i∧e 7=.ptr 0 1 0 0∧e 10=dI k)∧(H.get 0=some ⟨99,4,[p.slots[i].c],false⟩)∧(0<H.next)∧(k≤i)∧(((p.slots.take k).any (sameSlot p.slots[i]))=false)) (fun k=>i - k) 0 ⟨wg,wn,wn,wi,(by rfl)⟩ fun I0 hI0 k e H hi0=>?_)
   obtain ⟨E0,g0_0,n0_0,hk2,hne⟩:=hi0
   have Y:=wa Y (wa E0 (wa g0_0 (bY n0_0)))
   refine cT (fun h8=>?_) fun h8=>?_
   ·have hkl:k<p.slots.length:=by omega
    have Y:=wa Y (wa h8 hkl)
    refine dV (fun h10=>?_) fun h10=>?_
    ·refine wv (h:=?_)
     have hb:=rK (p:=sameSlot p.slots[i]) h8 hkl (by simp [sameSlot];omega)
     exact hQ _ _ (by rw [hS,if_pos hb];simp [go_sem])
    ·exact wo (h:=wx hI0 (k+1) ⟨wg,wn,wn,wj,(by (rw [cX _ _ _ hkl,hne];simp [sameSlot];omega))⟩)
   ·have hb:=o8 hne (show k=i by omega)
    exact wv (h:=hQ _ _ (by rw [hS,if_neg (by simp [hb])];simp [go_sem]))
theorem Ik (t:Types)(ht:t.ok)(r:Rule):Pure Tryz.prog 238 [t.d,r.d] (dI (gI t r)):=by
 refine Tz.pK ⟨fun _=>false,fun _=>[]⟩ Tryz.func238 rfl (fun Q hQ=>?_)
 have Y:=trivial
 refine wv (h:=aB (jJ r.right.graph) wl ?_)
 refine cT (fun h2=>?_) fun h2=>?_
 ·exact wv (h:=hQ _ _ (.inl (by simp [go_sem,gI,h2])))
 ·have hg:=bJ h2
  refine wo (h:=aB (qW t r.right.graph) wl ?_)
  refine dV (fun h4=>?_) fun h4=>?_
  ·rw [s6 h2] at h4
   exact wv (h:=hQ _ _ (.inl (by simp [go_sem,gI,h2,h4])))
  ·rw [s6 h2] at h4
   refine dV (fun h6=>?_) fun h6=>?_
   ·have hR:gI t r=1:=by unfold gI;rw [if_neg (by omega),if_neg (by simp [h4]),if_pos (by omega)]
    exact wv (h:=hQ _ _ (.inl (by simp [go_sem,hR])))
   ·have h6':¬ (r.right.vars≠r.left.vars∨0<r.right.tests.length):=by
     rintro (h|h)
     ·exact h h6.1
     ·have:=h6.2;simp [this] at h
    refine dV (fun h8=>?_) fun h8=>?_
    ·have hR:gI t r=3:=by unfold gI;rw [if_neg (by omega),if_neg (by simp [h4]),if_neg h6',if_pos (by omega)]
     exact wv (h:=hQ _ _ (.inl (by simp [go_sem,hR])))
    ·have hR:gI t r=bI (s9 t r.right) 0 r.right.slots.length:=by unfold gI;rw [if_neg (by omega),if_neg (by simp [h4]),if_neg h6',if_neg (by omega)]
     refine wv (h:=bB (fun i e H=>(e 2=.adr t.c∧e 3=.adr r.c∧e 6=dI i)∧(i≤r.right.slots.length)∧(bI (s9 t r.right) i (r.right.slots.length - i)=gI t r)) (fun i=>r.right.slots.length - i) 0 ⟨wg,wi,(by (exact hR.symm))⟩ fun I0 hI0 i e H hi0=>?_)
     obtain ⟨E0,hi,hF⟩:=hi0
     have Y:=wa Y E0
     refine dV (fun h11=>?_) fun h11=>?_
     ·have hst:=hF
      rw [dQ _ h11] at hst
      have Y:=wa Y h11
      refine wv (h:=aB (Kn t ht r.right (by omega) (by omega) i h11) wl ?_)
      refine cT (fun h14=>?_) fun h14=>?_
      ·rw [if_pos (by omega)] at hst
       exact wv (h:=hQ _ _ (.inl (by simp [go_sem,hst])))
      ·rw [if_neg (by omega)] at hst
       exact wo (h:=wx hI0 (i+1) ⟨wg,wj,(by exact hst)⟩)
     ·exact wv (h:=hQ _ _ (.inl (by rw [← hF,show r.right.slots.length - i=0 by omega];rfl)))
theorem Mt (l:List Int)(v:Int):Pure Tryz.prog 389 [dLI l,dI v] (.bool (mem l v)):=by
 refine Tz.pK ⟨fun _=>false,fun _=>[]⟩ Tryz.func389 rfl (fun Q hQ=>?_)
 have Y:=trivial
 refine wv (h:=bB (fun i e H=>(e 0=dLI l∧e 1=dI v∧e 5=dI i)∧(i≤l.length)∧(∀ j,j<i→l[j]?≠some v)) (fun i=>l.length - i) 0 ⟨wg,wi,(by (intro j hj;omega))⟩ fun I0 hI0 i e H hi0=>?_)
 obtain ⟨E0,hi,hne⟩:=hi0
 have Y:=wa Y E0
 refine wv (h:=?_)
 repeat first|intro _|refine ⟨eP,?_⟩
 refine wq (fun h2=>?_) fun h2=>?_
 ·have Y:=wa Y h2
  refine wv (h:=?_)
  repeat first|intro _|refine ⟨eP,?_⟩
  refine wq (fun h4=>?_) fun h4=>?_
  ·refine wv (h:=?_)
   have hm:mem l v=true:=(cW l v).2 (h4 ▸ aC h2)
   exact hQ _ _ (by simp [go_sem,hm])
  ·exact wo (h:=wx hI0 (i+1) ⟨wg,wj,(by (exact iX hne (by rw [aA h2];simpa using h4)))⟩)
 ·refine wv (h:=?_)
  have hm:mem l v=false:=by rw [bH];intro h;obtain ⟨j,hj,he⟩:=aN ((cW l v).1 h);exact hne j (by omega) (by rw [aA hj,he])
  exact hQ _ _ (by simp [go_sem,hm])
theorem Dc (l:List Int)(n:Nat)(hn:n≤1000000):Pure Tryz.prog 335 [dI n,dLI l] (dLI (b5 l n)):=by
 refine Tz.pK ⟨fun t=>t==5,fun _=>[]⟩ Tryz.func335 rfl (fun Q hQ=>?_)
 have Y:=trivial
 refine wv (h:=bB (fun i e H=>∃ xs:List Int,(e 1=dLI l∧e 0=dI n∧e 5=.own 0 xs.length∧e 6=dI i)∧(H.get 0=some ⟨3,1,xs.map cI,false⟩)∧(0<H.next)∧(i≤n)∧(xs.length≤i)∧(xs=((List.range i).filter fun (b:Nat)=>!mem l b).map (fun (b:Nat)=>(b:Int)))) (fun i=>n - i) 0 ⟨([]),wg,wn,wn,wi,(by simp),(by rfl)⟩ fun I0 hI0 i e H hi0=>?_)
 obtain ⟨xs,E0,g0_0,n0_0,hi,hl,hx⟩:=hi0
 have Y:=wa Y (wa E0 (wa g0_0 (bY n0_0)))
 refine cT (fun h3=>?_) fun h3=>?_
 ·have Y:=wa Y h3
  refine wo (h:=aB (Mt l i) wl ?_)
  refine dV (fun h5=>?_) fun h5=>?_
  ·have Y:=wa Y h5
   exact wo (h:=wx hI0 (i+1) ⟨(xs++(if (!mem l i)=true then [(i:Int)] else [])),wg,wn,wn,wj,(by (rw [aT];split<;>simp<;>omega)),(by (rw [cH,← hx]))⟩)
  ·have Y:=wa Y h5
   exact wo (h:=wx hI0 (i+1) ⟨(xs++(if (!mem l i)=true then [(i:Int)] else [])),wg,wn,wn,wj,(by (rw [aT];split<;>simp<;>omega)),(by (rw [cH,← hx]))⟩)
 ·exact wv (h:=hQ _ _ (by simp [go_sem,Y,b5];rw [hx,show i=n by omega];simp))
theorem GV (t:Types)(ht:t.ok)(g:Graph)(h0:graphF g=0)(hT:gU t g=true)(nodes edges:List Int)(hn:∀ i∈nodes,0≤i∧i<g.nodes.length)(he:∀ k∈edges,0≤k∧k<g.edges.length):Pure Tryz.prog 241 [t.d,g.d,dLI nodes,dLI edges] (.bool (xL t g nodes edges)):=by
 have hin:=lW h0 hT
 refine Tz.pK ⟨fun t=>t==11,fun r=>match r with|9=>[(0,8),(1,8),(4,8),(5,8),(6,8),(7,8)]|_=>[]⟩ Tryz.func241 rfl (fun Q hQ=>?_)
 have Y:=trivial
 refine wv (h:=bB (fun i e H=>(e 4=.adr t.c∧e 5=.adr g.c∧e 2=dLI nodes∧e 3=dLI edges∧e 9=dI i)∧(i≤nodes.length)∧(((nodes.take i).any (absB t g))=false)) (fun i=>nodes.length - i) 0 ⟨wg,wi,(by rfl)⟩ fun I0 hI0 i e H hi0=>?_)
 obtain ⟨E0,hi,ha⟩:=hi0
 have Y:=wa Y E0
 refine wv (h:=?_)
 repeat first|intro _|refine ⟨eP,?_⟩
 refine wq (fun h2=>?_) fun h2=>?_
 ·have hn':=hn _ (aC h2)
  have hk:nodes[i].toNat<g.nodes.length:=by omega
  have hin':=hin.1 _ (aC hk)
  have hkt:g.nodes[nodes[i].toNat].toNat<t.nodes.length:=by omega
  have hA:absB t g nodes[i]=t.nodes[g.nodes[nodes[i].toNat].toNat].abs:=by simp [absB,gN,aA hk,aA hkt]
  have Y:=wa Y (wa h2 (wa (aA hk) (aA hkt)))
  refine wv (h:=?_)
  repeat first|intro _|refine ⟨eP,?_⟩
  refine wq (fun h4=>?_) fun h4=>?_
  ·refine wv (h:=?_)
   have hb:nodes.any (absB t g)=true:=aU.2 ⟨_,aC h2,by rw [hA,h4]⟩
   exact hQ _ _ (.inl (by simp only [go_sem,xL,hb,Es,B1]))
  ·exact wo (h:=wx hI0 (i+1) ⟨wg,wj,(by (rw [cX _ _ _ h2,ha,hA,h4];rfl))⟩)
 ·have hN:=lM ha h2
  refine wv (h:=bB (fun k e H=>(e 4=.adr t.c∧e 5=.adr g.c∧e 2=dLI nodes∧e 3=dLI edges∧e 10=dI k)∧(k≤edges.length)∧(((edges.take k).any (unfitB t g))=false)) (fun k=>edges.length - k) 0 ⟨wg,wi,(by rfl)⟩ fun I2 hI2 k e H hi2=>?_)
  obtain ⟨E2,hk,hb⟩:=hi2
  have Y:=wa Y E2
  refine wv (h:=?_)
  repeat first|intro _|refine ⟨eP,?_⟩
  refine wq (fun h7=>?_) fun h7=>?_
  ·have he':=he _ (aC h7)
   have hke:edges[k].toNat<g.edges.length:=by omega
   have hin':=hin.2 _ (aC hke)
   have hf:g.edges[edges[k].toNat].from_.toNat<g.nodes.length:=by omega
   have hto:g.edges[edges[k].toNat].to_.toNat<g.nodes.length:=by omega
   have hA:unfitB t g edges[k] = !mN t g.edges[edges[k].toNat].type g.nodes[g.edges[edges[k].toNat].from_.toNat] g.nodes[g.edges[edges[k].toNat].to_.toNat]:=by simp [unfitB,gN,aA hke,aA hf,aA hto]
   have Y:=wa Y (wa h7 (wa (aA hke) (wa (aA hf) (aA hto))))
   refine wo (h:=aI (Dk t ht _ _ _) wl ?_)
   refine wv (h:=?_)
   repeat first|intro _|refine ⟨eP,?_⟩
   refine wq (fun h10=>?_) fun h10=>?_
   ·refine wv (h:=?_)
    have hb':edges.any (unfitB t g)=true:=aU.2 ⟨_,aC h7,by rw [hA,h10];rfl⟩
    exact hQ _ _ (.inl (by simp only [go_sem,xL,hb',Es,Bool.and_false]))
   ·exact wo (h:=wx hI2 (k+1) ⟨wg,wj,(by (rw [cX _ _ _ h7,hb,hA,h10];rfl))⟩)
  ·refine wv (h:=?_)
   have hE:=lM hb h7
   exact hQ _ _ (.inl (by simp only [go_sem,xL,hN,hE,Bool.not_false,Bool.and_true]))
theorem EJ (r:Rule)(h1:r.right.graph.nodes.length≤1000000)(h2:r.right.graph.edges.length≤1000000):Pure Tryz.prog 240 [r.d] (.tup [dLI r.freshN,dLI r.freshE]):=by
 refine Tz.pK ⟨fun _=>false,fun _=>[]⟩ Tryz.func240 rfl (fun Q hQ=>?_)
 have Y:=trivial
 refine wo (h:=aI (Dc r.into.nodes _ h1) wl ?_)
 refine wo (h:=aI (Dc r.into.edges _ h2) wl ?_)
 have Y:=wa Y (wa @Rule.freshN.eq_1 @Rule.freshE.eq_1)
 exact wo (h:=hQ _ _ wy)
def spanF (r:Rule):Int :=
 if subF r.left.graph r.keep≠0 then subF r.left.graph r.keep
 else dS (b7 r.left.graph r.keep) r.right.graph r.into
theorem Km (r:Rule)(hr:r.ok):Pure Tryz.prog 239 [r.d] (dI (spanF r)):=by
 obtain ⟨_,hk1,hk2,hi1,hi2,_,_⟩:=hr
 refine Tz.pK ⟨fun t=>t==4||t==5,fun _=>[]⟩ Tryz.func239 rfl (fun Q hQ=>?_)
 have Y:=trivial
 refine wv (h:=aB (vC r.left.graph r.keep) wl ?_)
 refine cT (fun h2=>?_) fun h2=>?_
 ·have Y:=wa Y (wa h2 @spanF.eq_1)
  exact wv (h:=hQ _ _ wy)
 ·refine wv (h:=aB (xG r.left.graph r.keep hk1 hk2) wl ?_)
  refine wv (h:=aB (qX (b7 r.left.graph r.keep) r.right.graph r.into) wl ?_)
  have Y:=wa Y (wa h2 @spanF.eq_1)
  exact wv (h:=hQ _ _ wy)
theorem KL (r:Rule):keptF r=if spanF r≠0 then spanF r else if (decide r.into.nodes.Nodup&&decide r.into.edges.Nodup)=true then 0 else 11:=by
 unfold keptF spanF ET
 by_cases h1:subF r.left.graph r.keep=0
 ·by_cases h2:dS (b7 r.left.graph r.keep) r.right.graph r.into=0
  ·simp only [h1,h2,ne_eq,not_true,if_false,decide_true,fI]
   cases (decide r.into.nodes.Nodup&&decide r.into.edges.Nodup)<;>simp
  ·simp [h1,h2]
 ·simp [h1]
theorem Il (t:Types)(ht:t.ok)(r:Rule)(hr:r.ok):Pure Tryz.prog 144 [t.d,r.d] (dI (ruleF t r)):=by
 have hcv:=Bs t ht r.left r.cond hr.cond hr.size
 rw [Cond.c_eq] at hcv
 have hK:=KL r
 refine Tz.pK ⟨fun _=>false,fun _=>[]⟩ Tryz.func144 rfl (fun Q hQ=>?_)
 have Y:=trivial
 refine wv (h:=aB (n8 t ht) wl ?_)
 refine cT (fun h2=>?_) fun h2=>?_
 ·exact wv (h:=hQ _ _ (by simp [go_sem,ruleF,h2]))
 ·refine wo (h:=aB (mH r.name hr.name) wl ?_)
  refine dV (fun h4=>?_) fun h4=>?_
  ·exact wv (h:=hQ _ _ (by simp [go_sem,ruleF,h2,h4]))
  ·refine wv (h:=aB (qU t ht r.left) wl ?_)
   refine cT (fun h7=>?_) fun h7=>?_
   ·exact wv (h:=hQ _ _ (by simp [go_sem,ruleF,h2,h4,h7]))
   ·refine wv (h:=aB (Ik t ht r) wl ?_)
    refine cT (fun h10=>?_) fun h10=>?_
    ·exact wv (h:=hQ _ _ (by simp [go_sem,ruleF,h2,h4,h7,h10]))
    ·have hg:=AK h10
     have hgl:=bJ hg.1
     refine wv (h:=aB (Km r hr) wl ?_)
     refine cT (fun h13=>?_) fun h13=>?_
     ·exact wv (h:=hQ _ _ (by simp [go_sem,ruleF,h2,h4,h7,h10,hK,h13]))
     ·refine wo (h:=aB (mG r.into.nodes) wl ?_)
      refine wo (h:=aK (fun hg=>mG r.into.edges) (fun hg=>wl) ?_)
      refine dV (fun h15=>?_) fun h15=>?_
      ·have hK':keptF r=11:=by rw [hK,if_neg (by omega),if_neg (fun h=>by rw [aP,decide_eq_true_eq,decide_eq_true_eq] at h;rcases h15 with h'|h';exact h' h.1;exact h' h.2)]
       exact wv (h:=hQ _ _ (by simp [go_sem,ruleF,h2,h4,h7,h10,hK']))
      ·have hK':keptF r=0:=by rw [hK,if_neg (by omega),if_pos (by rw [aP,decide_eq_true_eq,decide_eq_true_eq];exact h15)]
       refine wv (h:=aB (EJ r (by omega) (by omega)) wl ?_)
       refine wo (h:=aB (GV t ht r.right.graph hg.1 hg.2 r.freshN r.freshE (fun i hi=>jK hi) (fun i hi=>jK hi)) wl ?_)
       refine dV (fun h18=>?_) fun h18=>?_
       ·exact wv (h:=hQ _ _ (by simp [go_sem,ruleF,h2,h4,h7,h10,hK',h18]))
       ·refine wv (h:=aB (hcv) wl ?_)
        exact wv (h:=hQ _ _ (by simp [go_sem,ruleF,h2,h4,h7,h10,hK',h18]))
def fewG (g:Graph):Bool:=decide ((g.nodes.length:Int)≤45)&&decide ((g.edges.length:Int)≤90)
def fewP (p:Pattern):Bool:=fewG p.graph&&decide ((p.slots.length:Int)≤15)&&decide ((p.tests.length:Int)≤15)
def fewPart (p:Part)(n:Int):Bool:=decide ((p.nodes.length:Int)+p.edges.length≤n)
structure Part.le (p:Part):Prop where
 n:p.nodes.length≤1000000000000000
 e:p.edges.length≤1000000000000000
theorem wH (g:Graph):Pure Tryz.prog 179 [g.d] (.bool (fewG g)):=by
 refine Tz.pK ⟨fun _=>false,fun _=>[]⟩ Tryz.func179 rfl (fun Q hQ=>?_)
 have Y:=trivial
 have Y:=wa Y @fewG.eq_1
 exact wo (h:=hQ _ _ wy)
theorem r8 (p:Pattern):Pure Tryz.prog 123 [p.d] (.bool (fewP p)):=by
 refine Tz.pK ⟨fun _=>false,fun _=>[]⟩ Tryz.func123 rfl (fun Q hQ=>?_)
 have Y:=trivial
 refine wo (h:=aB (wH p.graph) wl ?_)
 have Y:=wa Y @fewP.eq_1
 exact wo (h:=hQ _ _ wy)
theorem Fw (p:Part)(hp:p.le)(n:Int):Pure Tryz.prog 81 [p.d,dI n] (.bool (fewPart p n)):=by
 obtain ⟨h1,h2⟩:=hp
 refine Tz.pK ⟨fun _=>false,fun _=>[]⟩ Tryz.func81 rfl (fun Q hQ=>?_)
 have Y:=trivial
 have Y:=wa Y @fewPart.eq_1
 exact wo (h:=hQ _ _ wy)
theorem Mx (p:Part)(hp:p.le)(n:Int):Pure Tryz.prog 124 [p.d,dI n] (.bool (fewPart p n)):=by
 obtain ⟨h1,h2⟩:=hp
 refine Tz.pK ⟨fun _=>false,fun _=>[]⟩ Tryz.func124 rfl (fun Q hQ=>?_)
 have Y:=trivial
 have Y:=wa Y @fewPart.eq_1
 exact wo (h:=hQ _ _ wy)
mutual
def nA:Cond→Int→Int
 | .mk k l m p,b=>if (!fewP p||!fewPart m 140)=true then -1 else mZ l (b - 1)
def mZ:List Cond→Int→Int
 | [],b=>b
 | c :: l,b=>if 0≤b then mZ l (nA c b) else b
end
theorem NS (c:Cond)(b:Int):nA c b=if (!fewP c.pattern||!fewPart c.map 140)=true then -1 else mZ c.kids (b - 1):=by cases c;rw [nA];rfl
mutual
theorem DE:∀ (c:Cond) (b:Int),0≤b→-1≤nA c b∧nA c b≤b - 1
 | .mk k l m p,b,h=>by
  rw [nA];split
  ·omega
  ·exact DC l (b - 1) (by omega)
theorem DC:∀ (l:List Cond) (b:Int),-1≤b→-1≤mZ l b∧mZ l b≤b
 | [],b,h=>by rw [mZ];omega
 | c :: l,b,h=>by
  rw [mZ];split
  ·rename_i h0
   have h1:=DE c b h0
   have h2:=DC l (nA c b) h1.1
   omega
  ·omega
end
mutual
def Cond.le:Cond→Prop
 | .mk k l m p=>m.le∧Cond.les l
def Cond.les:List Cond→Prop
 | []=>True
 | c :: l=>c.le∧Cond.les l
end
theorem HG (l:List Cond):Cond.les l↔∀ c∈l,c.le:=by
 induction l with
 | nil=>simp [Cond.les]
 | cons a l ih=>simp [Cond.les,ih]
theorem B0 (c:Cond):c.le↔c.map.le∧∀ k∈c.kids,k.le:=by cases c;simp [Cond.le,HG,Cond.kids,Cond.map]
mutual
theorem DD:∀ (c:Cond) (b:Int),0≤b→0≤nA c b→c.ok∧(c.size:Int)≤b - nA c b
 | .mk k l m p,b,h,h0=>by
  rw [nA] at h0 ⊢
  split at h0
  ·omega
  ·rename_i h1
   rw [if_neg h1]
   have h2:=Jb l (b - 1) (by omega) h0
   simp [fewP,fewG,fewPart] at h1
   refine ⟨⟨⟨?_,?_,?_,?_,?_,?_⟩,h2.1⟩,?_⟩<;>simp only [Cond.map,Cond.pattern,Cond.size]<;>omega
theorem Jb:∀ (l:List Cond) (b:Int),-1≤b→0≤mZ l b→Cond.oks l∧(Cond.sizes l:Int)≤b - mZ l b
 | [],b,h,h0=>by simp [Cond.oks,Cond.sizes,mZ]
 | c :: l,b,h,h0=>by
  rw [mZ] at h0 ⊢
  split at h0
  ·rename_i hb
   rw [if_pos hb]
   have h1:=DE c b hb
   have h2:=DC l (nA c b) h1.1
   have h3:=DD c b hb (by omega)
   have h4:=Jb l (nA c b) h1.1 h0
   refine ⟨⟨h3.1,h4.1⟩,?_⟩
   simp only [Cond.sizes];omega
  ·omega
end
theorem KK {l:List Cond}{i:Nat}(h:i<l.length){b:Int}(hb:0≤b):mZ (l.drop i) b=mZ (l.drop (i+1)) (nA l[i] b):=by
 rw [fR h,mZ,if_pos hb]
theorem MW {l:List Cond}{i:Nat}{b:Int}(h:¬ (i<l.length∧0≤b)):mZ (l.drop i) b=b:=by
 by_cases hi:i<l.length
 ·rw [fR hi,mZ,if_neg (by omega)]
 ·rw [fN (by omega),mZ]
theorem Kp:∀ c:Cond,c.le→∀ b:Int,0≤b→b≤1000→Pure Tryz.prog 208 [.agg c.c,dI b] (dI (nA c b)):=by
 refine jH fun c ih hc b0 hb0 hb1=>?_
 obtain ⟨hs,hk⟩:=(B0 c).1 hc
 have hL0:=NS c b0
 refine Tz.pK ⟨fun _=>false,fun _=>[]⟩ Tryz.func208 rfl (fun Q hQ=>?_)
 have Y:=@Cond.c_eq
 refine wo (h:=aB (r8 c.pattern) wl ?_)
 refine wo (h:=aK (fun hg=>Fw c.map hs 140) (fun hg=>wl) ?_)
 refine wv (h:=?_)
 repeat first|intro _|refine ⟨eP,?_⟩
 refine wq (fun h2=>?_) fun h2=>?_
 ·rw [if_pos (by simpa using h2)] at hL0
  exact wv (h:=hQ _ _ (by simp [go_sem,hL0]))
 ·rw [if_neg (by simpa using h2)] at hL0
  refine wv (h:=bB (fun i e H=>∃ b:Int,(e 2=.adr c.c∧e 1=dI b∧e 5=dI i)∧(i≤c.kids.length)∧(-1≤b∧b<b0)∧(mZ (c.kids.drop i) b=nA c b0)) (fun i=>c.kids.length - i) 0 ⟨((b0 - 1)),wg,wi,(by omega),(by (exact hL0.symm))⟩ fun I0 hI0 i e H hi0=>?_)
  obtain ⟨b,E0,hi,hb,hL⟩:=hi0
  have Y:=wa Y E0
  refine wv (h:=?_)
  repeat first|intro _|refine ⟨eP,?_⟩
  refine wq (fun h5=>?_) fun h5=>?_
  ·have h5':i<c.kids.length∧0≤b:=by omega
   have Y:=wa Y (wa h5 h5'.1)
   refine wo (h:=aB ((by have:=ih _ (aC h5'.1) (hk _ (aC h5'.1)) b h5'.2 (by omega);rwa [Cond.c_eq] at this)) wl ?_)
   exact wo (h:=wx hI0 (i+1) ⟨(nA c.kids[i] b),wg,wj,(by (have:=DE c.kids[i] b h5'.2;omega)),(by (rw [← hL,KK h5'.1 h5'.2]))⟩)
  ·have h5':¬ (i<c.kids.length∧0≤b):=by omega
   refine wv (h:=?_)
   have hE:nA c b0=b:=by rw [← hL,MW h5']
   exact hQ _ _ (by simp [go_sem,hE])
def fewC (c:Cond):Bool:=decide (0≤nA c 40)
theorem Ft (c:Cond)(hc:c.le):Pure Tryz.prog 125 [.agg c.c] (.bool (fewC c)):=by
 refine Tz.pK ⟨fun _=>false,fun _=>[]⟩ Tryz.func125 rfl (fun Q hQ=>?_)
 have Y:=@Cond.c_eq
 refine wv (h:=aB ((by have:=Kp c hc 40 (by omega) (by omega);rwa [Cond.c_eq] at this)) wl ?_)
 have Y:=wa Y @fewC.eq_1
 exact wv (h:=hQ _ _ wy)
def fewR (r:Rule):Bool:=decide ((r.name.size:Int)≤60)&&fewP r.left&&fewP r.right&&fewPart r.keep 140&&fewPart r.into 140&&fewC r.cond
structure Rule.le (r:Rule):Prop where
 keep:r.keep.le
 into:r.into.le
 cond:r.cond.le
theorem Mu (r:Rule)(hr:r.le):Pure Tryz.prog 60 [r.d] (.bool (fewR r)):=by
 refine Tz.pK ⟨fun _=>false,fun _=>[]⟩ Tryz.func60 rfl (fun Q hQ=>?_)
 have Y:=trivial
 refine wo (h:=aK (fun hg=>r8 r.left) (fun hg=>wl) ?_)
 refine wo (h:=aK (fun hg=>r8 r.right) (fun hg=>wl) ?_)
 refine wo (h:=aK (fun hg=>Mx r.keep hr.keep 140) (fun hg=>wl) ?_)
 refine wo (h:=aK (fun hg=>Fw r.into hr.into 140) (fun hg=>wl) ?_)
 refine wo (h:=aK (fun hg=>(by have:=Ft r.cond hr.cond;rwa [Cond.c_eq] at this)) (fun hg=>wl) ?_)
 have Y:=wa Y @fewR.eq_1
 exact wo (h:=hQ _ _ wy)
structure Ovl where
 graph:Graph
 left:Part
 right:Part
def Ovl.c (o:Ovl):List D:=[dLI o.graph.nodes,.list (o.graph.edges.map Edge.c),dLI o.left.nodes,dLI o.left.edges,dLI o.right.nodes,dLI o.right.edges]
def Ovl.d (o:Ovl):D:=.agg o.c
@[go_sem] theorem Ovl.cl (o:Ovl):D.clL o.c=true:=by simp [Ovl.c,D.clL,D.cl,mP,sQ]
@[go_sem] theorem Uu (o:Ovl):o.d.cl=true:=by simp only [Ovl.d,D.cl];exact Ovl.cl o
@[go_sem] theorem TQ (l:List Ovl):D.clLL (l.map Ovl.c)=true:=cJ _ Ovl.cl l
def ER (n:Nat):List Int:=(List.range n).map fun (k:Nat)=>(k:Int)
theorem MM (i:Nat):ER (i+1)=ER i++[(i:Int)]:=by simp [ER,e9]
theorem IR (n:Nat):(ER n).length=n:=by simp [ER]
theorem zJ (n:Nat)(hn:n≤100000):Pure Tryz.prog 77 [dI n] (dLI (ER n)):=by
 refine Tz.pK ⟨fun t=>t==3,fun _=>[]⟩ Tryz.func77 rfl (fun Q hQ=>?_)
 have Y:=trivial
 refine wv (h:=bB (fun i e H=>(e 0=dI n∧e 3=.own 0 i∧e 4=dI i)∧(H.get 0=some ⟨3,1,(ER i).map cI,false⟩)∧(0<H.next)∧(i≤n)∧((ER i).length=i)) (fun i=>n - i) 0 ⟨wg,(by rfl),wn,wi,(by (exact IR _))⟩ fun I0 hI0 i e H hi0=>?_)
 obtain ⟨E0,g0_0,n0_0,hi,hl⟩:=hi0
 have Y:=wa Y (wa E0 (wa g0_0 (wa (bY n0_0) hl)))
 refine cT (fun h3=>?_) fun h3=>?_
 ·have Y:=wa Y h3
  exact wo (h:=wx hI0 (i+1) ⟨wg,(by (simp [go_sem,Y,MM])),wn,wj,(by (exact IR _))⟩)
 ·have hie:i=n:=by omega
  subst hie
  have Y:=wa Y h3
  exact wv (h:=hQ _ _ wy)
theorem NI (g:Graph)(hn:g.nodes.length≤100000)(he:g.edges.length≤100000):Pure Tryz.prog 29 [g.d] (Part.d ⟨ER g.nodes.length,ER g.edges.length⟩):=by
 refine Tz.pK ⟨fun t=>t==2,fun _=>[]⟩ Tryz.func29 rfl (fun Q hQ=>?_)
 have Y:=trivial
 refine wo (h:=aI (zJ g.nodes.length hn) wl ?_)
 refine wo (h:=aI (zJ g.edges.length he) wl ?_)
 exact wo (h:=hQ _ _ wy)
theorem JB:Own Tryz.prog 227 [.nil] 101 3 []:=by
 refine Tz.oK ⟨fun t=>t==2||t==5,fun _=>[]⟩ Tryz.func227 rfl (fun Q hQ=>?_)
 have Y:=trivial
 refine wv (h:=?_)
 exact hQ _ _ _ (by simp [go_sem]<;>first|omega|(rw [aV];simp<;>omega)|(simp_all<;>omega)) (by simp [go_sem]<;>first|omega|(rw [aV];simp<;>omega)|(simp_all<;>omega))
theorem Jz:Own Tryz.prog 227 [.ne] 101 3 []:=by
 refine Tz.oK ⟨fun t=>t==2||t==5,fun _=>[]⟩ Tryz.func227 rfl (fun Q hQ=>?_)
 have Y:=trivial
 refine wo (h:=?_)
 exact hQ _ _ _ (by simp [go_sem]<;>first|omega|(rw [aV];simp<;>omega)|(simp_all<;>omega)) (by simp [go_sem]<;>first|omega|(rw [aV];simp<;>omega)|(simp_all<;>omega))
theorem JA (l:List Edge)(hl:l.length≤1000000)(hne:l≠[]):Own Tryz.prog 227 [.list (l.map Edge.c)] 101 3 (l.map Edge.c):=by
 refine Tz.oK ⟨fun t=>t==2||t==5,fun _=>[]⟩ Tryz.func227 rfl (fun Q hQ=>?_)
 have Y:=hne
 refine wo (h:=?_)
 exact hQ _ _ _ (by simp [go_sem,hne]<;>first|omega|(rw [aV];simp<;>omega)|(simp_all<;>omega)) (by simp [go_sem,hne]<;>first|omega|(rw [aV];simp<;>omega)|(simp_all<;>omega))
theorem D7 (l:List Edge)(hl:l.length≤1000000):Own Tryz.prog 227 [.list (l.map Edge.c)] 101 3 (l.map Edge.c):=by
 by_cases hne:l=[]
 ·subst hne;exact AP JB Jz
 ·exact JA l hl hne
end Go.Abs
end
