/- Hosts and matches of the reference: Valid, Back, distinct, m -/
import Derived.Test.YtjfaalokjnmdoaaGreatZaF
import Derived.Test.YtjfaalokjnmdoaaGreatZaL
import Derived.Test.YtjfaalokjnmdoaaGreatZaA
import Derived.Test.YtjfaalokjnmdoaaGreatZaK
set_option linter.unusedVariables false
set_option linter.unusedSimpArgs false
section
set_option maxRecDepth 100000
set_option maxHeartbeats 4000000
open Go Go.Proofs
namespace Go.Abs
def zU (l:List Attr)(vs:List Int)(k:Nat):Int:=if vs[k]?.getD 0<(l[k]?.getD mA).low∨(l[k]?.getD mA).high<vs[k]?.getD 0 then 6 else 0
def fW (t:Types)(kind:Int)(vs:List Int):Int :=
 if (t.nodes.length:Int)≤kind then 6 else if uI t kind.toNat=true then 13 else if vs.length≠(bK t kind).length then 20 else bI (zU (bK t kind) vs) 0 (bK t kind).length
theorem Kt (t:Types)(ht:t.ok)(kind:Int)(hk:0≤kind)(vs:List Int):Pure Tryz.prog 242 [t.d,dI kind,dLI vs] (dI (fW t kind vs)):=by
 refine Tz.pK ⟨fun _=>false,fun _=>[]⟩ Tryz.func242 rfl (fun Q hQ=>?_)
 have Y:=trivial
 refine wv (h:=?_)
 repeat first|intro _|refine ⟨eP,?_⟩
 refine wq (fun h1=>?_) fun h1=>?_
 ·have hE:fW t kind vs=6:=by unfold fW;rw [if_pos (by omega)]
  exact wv (h:=hQ _ _ (by simp [go_sem,hE]))
 ·have hkn:kind.toNat<t.nodes.length:=by omega
  have hA:uI t kind.toNat=t.nodes[kind.toNat].abs:=by simp [uI,aA hkn]
  have hE0:fW t kind vs=if uI t kind.toNat=true then 13 else if vs.length≠(bK t kind).length then 20 else bI (zU (bK t kind) vs) 0 (bK t kind).length:=by unfold fW;rw [if_neg (by omega)]
  rw [hA] at hE0
  have Y:=wa Y (wa (aA hkn) @NodeTy.c.eq_1)
  refine wv (h:=?_)
  repeat first|intro _|refine ⟨eP,?_⟩
  refine wq (fun h3=>?_) fun h3=>?_
  ·rw [if_pos (by simpa using h3)] at hE0
   exact wv (h:=hQ _ _ (by simp [go_sem,hE0]))
  ·rw [if_neg (by simpa using h3)] at hE0
   refine wv (h:=aB (n9 t ht kind) wl ?_)
   refine wv (h:=?_)
   repeat first|intro _|refine ⟨eP,?_⟩
   refine wq (fun h6=>?_) fun h6=>?_
   ·rw [if_pos (by omega)] at hE0
    exact wv (h:=hQ _ _ (by simp [go_sem,hE0]))
   ·rw [if_neg (by omega)] at hE0
    have hln:vs.length=(bK t kind).length:=by omega
    refine wv (h:=bB (fun k e H=>(e 3=.adr t.c∧e 2=dLI vs∧e 7=.list ((bK t kind).map Attr.c)∧e 9=dI k)∧(k≤(bK t kind).length)∧(bI (zU (bK t kind) vs) k ((bK t kind).length - k)=fW t kind vs)) (fun k=>(bK t kind).length - k) 0 ⟨wg,wi,(by exact hE0.symm)⟩ fun I0 hI0 k e H hi0=>?_)
    obtain ⟨E0,hkl,hF⟩:=hi0
    have Y:=wa Y E0
    refine wv (h:=?_)
    repeat first|intro _|refine ⟨eP,?_⟩
    refine wq (fun h9=>?_) fun h9=>?_
    ·have hv:k<vs.length:=by omega
     have hst:=dQ (zU (bK t kind) vs) h9
     rw [hF] at hst
     have hLE:zU (bK t kind) vs k=if vs[k]<(bK t kind)[k].low∨(bK t kind)[k].high<vs[k] then 6 else 0:=by simp only [zU,aA hv,aA h9,aD]
     have Y:=wa Y (wa h9 (wa (aA hv) (wa (aA h9) @Attr.c.eq_1)))
     refine wv (h:=?_)
     repeat first|intro _|refine ⟨eP,?_⟩
     refine wq (fun h11=>?_) fun h11=>?_
     ·rw [if_pos (by omega)] at hLE
      rw [hLE,if_pos (by omega)] at hst
      exact wv (h:=hQ _ _ (by simp [go_sem,hst]))
     ·rw [if_neg (by omega)] at hLE
      rw [hLE,if_neg (by omega)] at hst
      exact wo (h:=wx hI0 (k+1) ⟨wg,wj,(by exact hst.symm)⟩)
    ·have hZ:fW t kind vs=0:=by rw [← hF,show (bK t kind).length - k=0 by omega];rfl
     exact wv (h:=hQ _ _ (by simp [go_sem,hZ]))
def fJ (f:Nat→Int):Nat→Nat→Int × Int
 | k,0=>(-1,0)
 | k,n+1=>if f k≠0 then ((k:Int),f k) else fJ f (k+1) n
theorem o7 (f:Nat→Int){k n:Nat}(h:k<n):fJ f k (n - k)=if f k≠0 then ((k:Int),f k) else fJ f (k+1) (n - (k+1)):=by
 obtain ⟨m,hm⟩:∃ m,n - k=m+1:=⟨n - k - 1,by omega⟩
 rw [hm,show n - (k+1)=m by omega];rfl
theorem rD (f:Nat→Int):∀ n k,(fJ f k n).2=bI f k n
 | 0,k=>rfl
 | n+1,k=>by simp only [fJ,bI];split<;>simp_all [rD f n]
def DN (t:Types)(h:Host)(i:Nat):Int:=fW t (h.graph.nodes[i]?.getD 0) (h.values[i]?.getD [])
def M3 (t:Types)(h:Host)(i:Nat):Int:=if (t.edges.length:Int)≤(h.graph.edges[i]?.getD bQ).type then 6 else
 if mN t (h.graph.edges[i]?.getD bQ).type (gN h.graph (h.graph.edges[i]?.getD bQ).from_) (gN h.graph (h.graph.edges[i]?.getD bQ).to_)=true then 0 else 13
def lY (t:Types)(h:Host):Int × Int :=
 if (cA t).2≠0 then (-1,(cA t).2) else if graphF h.graph≠0 then (-1,graphF h.graph) else if h.values.length≠h.graph.nodes.length then (-1,20)
 else if (fJ (DN t h) 0 h.graph.nodes.length).2≠0 then fJ (DN t h) 0 h.graph.nodes.length else fJ (M3 t h) 0 h.graph.edges.length
def fM (t:Types)(h:Host):Int:=(lY t h).2
theorem vB (t:Types)(ht:t.ok)(h:Host):Pure Tryz.prog 145 [t.d,h.d] (.tup [dI (lY t h).1,dI (lY t h).2]):=by
 refine Tz.pK ⟨fun t=>t==12,fun _=>[]⟩ Tryz.func145 rfl (fun Q hQ=>?_)
 have Y:=wa @Host.d.eq_1 @Host.c.eq_1
 refine wv (h:=aB (n8 t ht) wl ?_)
 refine cT (fun h2=>?_) fun h2=>?_
 ·have hE:lY t h=(-1,(cA t).2):=by unfold lY;rw [if_pos (by simpa using h2)]
  exact wv (h:=hQ _ _ (by simp [go_sem,hE]))
 ·have hE0:lY t h=if graphF h.graph≠0 then (-1,graphF h.graph) else if h.values.length≠h.graph.nodes.length then (-1,20) else if (fJ (DN t h) 0 h.graph.nodes.length).2≠0 then fJ (DN t h) 0 h.graph.nodes.length else fJ (M3 t h) 0 h.graph.edges.length:=by unfold lY;rw [if_neg (by simpa using h2)]
  refine wv (h:=aB (jJ h.graph) wl ?_)
  refine cT (fun h5=>?_) fun h5=>?_
  ·rw [if_pos (by simpa using h5)] at hE0
   exact wv (h:=hQ _ _ (by simp [go_sem,hE0]))
  ·rw [if_neg (by simpa using h5)] at hE0
   have hg0:graphF h.graph=0:=by simpa using h5
   have hgi:=dF hg0
   have hgl:=bJ hg0
   refine dV (fun h7=>?_) fun h7=>?_
   ·rw [if_pos (by omega)] at hE0
    exact wv (h:=hQ _ _ (by simp [go_sem,hE0]))
   ·rw [if_neg (by omega)] at hE0
    refine wv (h:=bB (fun i e H=>(e 2=.adr t.c∧e 3=.adr h.c∧e 9=dI i)∧(i≤h.graph.nodes.length)∧(fJ (DN t h) i (h.graph.nodes.length - i)=fJ (DN t h) 0 h.graph.nodes.length)) (fun i=>h.graph.nodes.length - i) 0 ⟨wg,wi,(by rfl)⟩ fun I0 hI0 i e H hi0=>?_)
    obtain ⟨E0,hi,hF⟩:=hi0
    have Y:=wa Y E0
    refine dV (fun h10=>?_) fun h10=>?_
    ·have hv:i<h.values.length:=by omega
     have hn0:0≤h.graph.nodes[i]:=(hgi.1 _ (aC h10)).1
     have hst:=o7 (DN t h) h10
     rw [hF] at hst
     have hNE:DN t h i=fW t h.graph.nodes[i] h.values[i]:=by simp only [DN,aA hv,aA h10,aD]
     have Y:=wa Y (wa h10 (wa (aA hv) (wa (aA h10) @cL.eq_1)))
     refine wo (h:=aI (Kt t ht h.graph.nodes[i] hn0 h.values[i]) wl ?_)
     refine dV (fun h13=>?_) fun h13=>?_
     ·rw [hNE,if_pos (by simpa using h13)] at hst
      rw [hst,if_pos (by simpa using h13)] at hE0
      exact wv (h:=hQ _ _ (by simp [go_sem,hE0]))
     ·rw [hNE,if_neg (by simpa using h13)] at hst
      exact wo (h:=wx hI0 (i+1) ⟨wg,wj,(by exact hst.symm)⟩)
    ·have hN0:fJ (DN t h) 0 h.graph.nodes.length=(-1,0):=by rw [← hF,show h.graph.nodes.length - i=0 by omega];rfl
     rw [hN0,if_neg (by simp)] at hE0
     refine wv (h:=bB (fun j e H=>(e 2=.adr t.c∧e 3=.adr h.c∧e 11=dI j)∧(j≤h.graph.edges.length)∧(fJ (M3 t h) j (h.graph.edges.length - j)=lY t h)) (fun j=>h.graph.edges.length - j) 0 ⟨wg,wi,(by exact hE0.symm)⟩ fun I2 hI2 j e H hi2=>?_)
     obtain ⟨E2,hj,hG⟩:=hi2
     have Y:=wa Y E2
     refine dV (fun h16=>?_) fun h16=>?_
     ·obtain ⟨x,hx⟩:∃ x,x=h.graph.edges[j]:=⟨_,rfl⟩
      have hxi:=(hgi.2 _ (aC h16)).2
      rw [← hx] at hxi
      have hxf:x.from_.toNat<h.graph.nodes.length:=by omega
      have hxt:x.to_.toNat<h.graph.nodes.length:=by omega
      have hst:=o7 (M3 t h) h16
      rw [hG] at hst
      have hEE:M3 t h j=if (t.edges.length:Int)≤x.type then 6 else if mN t x.type h.graph.nodes[x.from_.toNat] h.graph.nodes[x.to_.toNat]=true then 0 else 13:=by simp only [M3,gN,aA h16,aD,← hx,aA hxf,aA hxt]
      have Y:=wa Y (wa h16 (wa (aA h16) (wa (Eq.symm hx) (wa (aA hxf) (aA hxt)))))
      refine dV (fun h19=>?_) fun h19=>?_
      ·rw [if_pos (by omega)] at hEE
       rw [hEE,if_pos (by omega)] at hst
       exact wv (h:=hQ _ _ (by simp [go_sem,hst]))
      ·rw [if_neg (by omega)] at hEE
       refine wo (h:=aI (Dk t ht x.type h.graph.nodes[x.from_.toNat] h.graph.nodes[x.to_.toNat]) wl ?_)
       refine dV (fun h21=>?_) fun h21=>?_
       ·rw [if_neg (by simpa using h21)] at hEE
        rw [hEE,if_pos (by omega)] at hst
        exact wv (h:=hQ _ _ (by simp [go_sem,hst]))
       ·rw [if_pos (by simpa using h21)] at hEE
        rw [hEE,if_neg (by omega)] at hst
        exact wo (h:=wx hI2 (j+1) ⟨wg,wj,(by exact hst.symm)⟩)
     ·have hZ:lY t h=(-1,0):=by rw [← hG,show h.graph.edges.length - j=0 by omega];rfl
      exact wv (h:=hQ _ _ (by simp [go_sem,hZ]))
theorem u9 (l:List Int):Pure Tryz.prog 347 [dLI l] (.bool (decide l.Nodup)):=by
 refine Tz.pK ⟨fun _=>false,fun _=>[]⟩ Tryz.func347 rfl (fun Q hQ=>?_)
 have Y:=trivial
 refine wv (h:=bB (fun i e H=>(e 0=dLI l∧e 3=dI i)∧(i≤l.length)∧((l.take i).Nodup)) (fun i=>l.length - i) 0 ⟨wg,wi,(by (simp))⟩ fun I0 hI0 i e H hi0=>?_)
 obtain ⟨E0,hi,hD⟩:=hi0
 have Y:=wa Y E0
 refine wv (h:=?_)
 repeat first|intro _|refine ⟨eP,?_⟩
 refine wq (fun h2=>?_) fun h2=>?_
 ·have Y:=wa Y (wa h2 (aA h2))
  refine wv (h:=bB (fun k e H=>(e 0=dLI l∧e 3=dI i∧e 4=dI k)∧(k≤i)∧(∀ j,j<k→∀ hj:j<l.length,l[j]≠l[i])) (fun k=>i - k) 0 ⟨wg,wi,(by (intro j hj;omega))⟩ fun I2 hI2 k e H hi2=>?_)
  obtain ⟨E2,hk,hne⟩:=hi2
  have Y:=wa Y E2
  refine cT (fun h5=>?_) fun h5=>?_
  ·have hkl:k<l.length:=by omega
   have Y:=wa Y (wa h5 (aA hkl))
   refine wv (h:=?_)
   repeat first|intro _|refine ⟨eP,?_⟩
   refine wq (fun h7=>?_) fun h7=>?_
   ·have hnd:¬ l.Nodup:=fun hN=>by
     have:=(qG (h₀:=h2) (h₁:=hkl) hN).1 h7
     omega
    exact wv (h:=hQ _ _ (by simp [go_sem,hnd]))
   ·exact wo (h:=wx hI2 (k+1) ⟨wg,wj,(by (intro j hj hjl;rcases bN j k with hjk|hjk;exact hne j hjk hjl;(obtain rfl:j=k:=(by omega);exact fun he=>h7 he.symm)))⟩)
  ·have hD2:(l.take (i+1)).Nodup:=by
    rw [aF h2,oJ]
    refine ⟨hD,by simp,fun a ha b hb=>?_⟩
    rw [bL] at hb;subst hb
    obtain ⟨j,hj,rfl⟩:=BZ.1 ha
    exact hne j (by omega) _
   exact wo (h:=wx hI0 (i+1) ⟨wg,wj,(by exact hD2)⟩)
 ·have hN:l.Nodup:=by rw [aJ (by omega)] at hD;exact hD
  exact wv (h:=hQ _ _ (by simp [go_sem,hN]))
structure G17 (t:Types) (p g:Graph):Prop where
 v:t.valid
 gp:graphF p=0
 gg:graphF g=0
 tp:∀ a∈p.nodes,0≤a∧a<t.nodes.length
 tg:∀ a∈g.nodes,0≤a∧a<t.nodes.length
theorem CK {t:Types}{g:Graph}(h:j5 t g=true):∀ a∈g.nodes,0≤a∧a<t.nodes.length:=fun a ha=>by
 simp only [j5,aP,cD,uM,insideF,Bool.not_eq_true,Bool.not_eq_false',decide_eq_true_eq] at h
 have:=h.1 a ha
 simpa using this
theorem kO {t:Types}{p g:Graph}(h:dY t p g=0):G17 t p g:=by
 unfold dY at h
 split at h
 ·exact absurd h (by assumption)
 ·rename_i h1
  split at h
  ·exact absurd h (by assumption)
  ·rename_i h2
   split at h
   ·exact absurd h (by assumption)
   ·rename_i h3
    split at h
    ·cases h
    ·rename_i h4
     simp only [b6,cD,not_or,Bool.not_eq_false] at h4
     exact ⟨lG (by simpa using h1),by simpa using h2,by simpa using h3,CK h4.1,CK h4.2⟩
def FS (t:Types)(p g:Graph)(m:Part)(i:Nat):Int :=
 if m.nodes[i]?.getD 0<0∨(g.nodes.length:Int)≤m.nodes[i]?.getD 0 then 6
 else if tT t (p.nodes[i]?.getD 0) (g.nodes[(m.nodes[i]?.getD 0).toNat]?.getD 0)=true then 0 else 13
def gJ (t:Types)(p g:Graph)(m:Part)(inj:Bool):Int :=
 if m.nodes.length≠p.nodes.length∨m.edges.length≠p.edges.length then 20
 else if bI (FS t p g m) 0 p.nodes.length≠0 then bI (FS t p g m) 0 p.nodes.length
 else if bI (gB p g m) 0 p.edges.length≠0 then bI (gB p g m) 0 p.edges.length
 else if inj=true∧(¬ m.nodes.Nodup∨¬ m.edges.Nodup) then 5 else 0
def eG (t:Types)(p g:Graph)(m:Part)(inj:Bool):Int:=if dY t p g≠0 then dY t p g else gJ t p g m inj
theorem xJ (t:Types)(hv:t.valid)(a b:Int)(h0:0≤a)(h1:a<t.nodes.length)(hb:0≤b):Pure Tryz.prog 192 [t.d,dI a,dI b] (.bool (tT t b a)):=by
 have:=tG t hv b hb a.toNat (by omega)
 rw [Int.toNat_of_nonneg h0] at this;exact this
theorem Iv (t:Types)(p g:Graph)(hG:G17 t p g)(m:Part)(inj:Bool):Pure Tryz.prog 264 [t.d,p.d,g.d,m.d,.bool inj] (dI (gJ t p g m inj)):=by
 have hga:=bJ hG.gp
 have hgb:=bJ hG.gg
 have hia:=(dF hG.gp).2
 refine Tz.pK ⟨fun t=>t==13||t==14,fun r=>match r with|15=>[(0,14),(1,14),(3,14),(4,14),(5,14),(6,14),(7,14),(8,14),(10,14),(11,14),(12,14),(13,14),(0,15),(1,15),(3,15),(4,15),(5,15),(6,15),(7,15),(8,15),(10,15),(11,15),(12,15),(13,15),(14,15),(5,16),(6,16),(7,16),(8,16),(10,16),(11,16),(12,16),(13,16)]|_=>[]⟩ Tryz.func264 rfl (fun Q hQ=>?_)
 have Y:=trivial
 refine dV (fun h1=>?_) fun h1=>?_
 ·have hM:gJ t p g m inj=20:=by unfold gJ;rw [if_pos (by omega)]
  exact wv (h:=hQ _ _ (by simp [go_sem,hM]))
 ·have hM:gJ t p g m inj=(if bI (FS t p g m) 0 p.nodes.length≠0 then bI (FS t p g m) 0 p.nodes.length else if bI (gB p g m) 0 p.edges.length≠0 then bI (gB p g m) 0 p.edges.length else if inj=true∧(¬ m.nodes.Nodup∨¬ m.edges.Nodup) then 5 else 0):=by unfold gJ;rw [if_neg (by omega)]
  have hl1:m.nodes.length=p.nodes.length:=by omega
  have hl2:m.edges.length=p.edges.length:=by omega
  refine wv (h:=bB (fun i e H=>(e 5=.adr t.c∧e 6=.adr p.c∧e 7=.adr g.c∧e 8=.adr m.c∧e 4=.bool inj∧e 11=dI i)∧(i≤m.nodes.length)∧(bI (FS t p g m) i (p.nodes.length - i)=bI (FS t p g m) 0 p.nodes.length)) (fun i=>m.nodes.length - i) 0 ⟨wg,wi,(by rfl)⟩ fun I0 hI0 i e H hi0=>?_)
  obtain ⟨E0,hi,hF⟩:=hi0
  have Y:=wa Y E0
  refine dV (fun h4=>?_) fun h4=>?_
  ·have hn:i<p.nodes.length:=by omega
   have hst:=dQ (FS t p g m) hn
   rw [hF] at hst
   have hNE:FS t p g m i=(if m.nodes[i]<0∨(g.nodes.length:Int)≤m.nodes[i] then 6 else if tT t p.nodes[i] (g.nodes[m.nodes[i].toNat]?.getD 0)=true then 0 else 13):=by simp only [FS,aA h4,aA hn,aD]
   have hbp:=hG.tp _ (aC hn)
   have Y:=wa Y (wa h4 (wa (aA h4) (aA hn)))
   refine dV (fun h6=>?_) fun h6=>?_
   ·rw [if_pos (by omega)] at hNE
    rw [hNE,if_pos (by omega)] at hst
    rw [hst,if_pos (by omega)] at hM
    exact wv (h:=hQ _ _ (by simp [go_sem,hM]))
   ·have hkb:m.nodes[i].toNat<g.nodes.length:=by omega
    rw [if_neg (by omega),aA hkb,aD] at hNE
    have hbg:=hG.tg _ (aC hkb)
    have Y:=wa Y (aA hkb)
    refine wo (h:=aI ((xJ t hG.v g.nodes[m.nodes[i].toNat] p.nodes[i] hbg.1 hbg.2 hbp.1)) wl ?_)
    refine dV (fun h8=>?_) fun h8=>?_
    ·rw [if_neg (by simpa using h8)] at hNE
     rw [hNE,if_pos (by omega)] at hst
     rw [hst,if_pos (by omega)] at hM
     exact wv (h:=hQ _ _ (by simp [go_sem,hM]))
    ·rw [if_pos (by simpa using h8)] at hNE
     rw [hNE,if_neg (by omega)] at hst
     exact wo (h:=wx hI0 (i+1) ⟨wg,wj,(by exact hst.symm)⟩)
  ·have hN0:bI (FS t p g m) 0 p.nodes.length=0:=by rw [← hF,show p.nodes.length - i=0 by omega];rfl
   rw [hN0,if_neg (by omega)] at hM
   refine wv (h:=bB (fun k e H=>(e 5=.adr t.c∧e 6=.adr p.c∧e 7=.adr g.c∧e 8=.adr m.c∧e 4=.bool inj∧e 12=dI k)∧(k≤m.edges.length)∧(bI (gB p g m) k (p.edges.length - k)=bI (gB p g m) 0 p.edges.length)) (fun k=>m.edges.length - k) 0 ⟨wg,wi,(by rfl)⟩ fun I2 hI2 k e H hi2=>?_)
   obtain ⟨E2,hk,hE⟩:=hi2
   have Y:=wa Y E2
   refine dV (fun h11=>?_) fun h11=>?_
   ·have hn:k<p.edges.length:=by omega
    have hst:=dQ (gB p g m) hn
    rw [hE] at hst
    have hx:=hia _ (aC hn)
    have hxf:p.edges[k].from_.toNat<m.nodes.length:=by omega
    have hxt:p.edges[k].to_.toNat<m.nodes.length:=by omega
    have hEE:gB p g m k=(if m.edges[k]<0∨(g.edges.length:Int)≤m.edges[k] then 6 else if p.edges[k].type≠(g.edges[m.edges[k].toNat]?.getD bQ).type then 13 else if m.nodes[p.edges[k].from_.toNat]≠(g.edges[m.edges[k].toNat]?.getD bQ).from_∨m.nodes[p.edges[k].to_.toNat]≠(g.edges[m.edges[k].toNat]?.getD bQ).to_ then 11 else 0):=by
     simp only [gB,aA h11,aA hn,aD,aA hxf,aA hxt]
    have Y:=wa Y (wa h11 (wa (aA h11) (wa (aA hn) (wa (aA hxf) (aA hxt)))))
    refine dV (fun h13=>?_) fun h13=>?_
    ·rw [if_pos (by omega)] at hEE
     rw [hEE,if_pos (by omega)] at hst
     rw [hst,if_pos (by omega)] at hM
     exact wv (h:=hQ _ _ (by simp [go_sem,hM]))
    ·have hkb:m.edges[k].toNat<g.edges.length:=by omega
     rw [if_neg (by omega),aA hkb,aD] at hEE
     have Y:=wa Y (aA hkb)
     refine dV (fun h16=>?_) fun h16=>?_
     ·rw [if_pos h16] at hEE
      rw [hEE,if_pos (by omega)] at hst
      rw [hst,if_pos (by omega)] at hM
      exact wv (h:=hQ _ _ (by simp [go_sem,hM]))
     ·rw [if_neg (by simpa using h16)] at hEE
      refine dV (fun h18=>?_) fun h18=>?_
      ·rw [if_pos (by omega)] at hEE
       rw [hEE,if_pos (by omega)] at hst
       rw [hst,if_pos (by omega)] at hM
       exact wv (h:=hQ _ _ (by simp [go_sem,hM]))
      ·rw [if_neg (by omega)] at hEE
       rw [hEE,if_neg (by omega)] at hst
       exact wo (h:=wx hI2 (k+1) ⟨wg,wj,(by exact hst.symm)⟩)
   ·have hE0:bI (gB p g m) 0 p.edges.length=0:=by rw [← hE,show p.edges.length - k=0 by omega];rfl
    rw [hE0,if_neg (by omega)] at hM
    refine wo (h:=aK (fun hg=>u9 m.nodes) (fun hg=>wl) ?_)
    refine wo (h:=aK (fun hg=>u9 m.edges) (fun hg=>wl) ?_)
    refine dV (fun h20=>?_) fun h20=>?_
    ·rw [if_pos (by simpa [l9] using h20)] at hM
     exact wv (h:=hQ _ _ (by simp [go_sem,hM]))
    ·rw [if_neg (by simpa [l9] using h20)] at hM
     exact wv (h:=hQ _ _ (by simp [go_sem,hM]))
theorem vA (t:Types)(ht:t.ok)(p g:Graph)(m:Part)(inj:Bool):Pure Tryz.prog 166 [t.d,p.d,g.d,m.d,.bool inj] (dI (eG t p g m inj)):=by
 refine Tz.pK ⟨fun _=>false,fun _=>[]⟩ Tryz.func166 rfl (fun Q hQ=>?_)
 have Y:=trivial
 refine wv (h:=aB (qV t ht p g) wl ?_)
 refine cT (fun h2=>?_) fun h2=>?_
 ·exact wv (h:=hQ _ _ (by simp [go_sem,eG,h2]))
 ·refine wv (h:=aB (Iv t p g (kO (by simpa using h2)) m inj) wl ?_)
  exact wv (h:=hQ _ _ (by simp [go_sem,eG,h2]))
/-! ### the search -/
def Srch.cells (S:Srch)(most:Int)(fd:D):List D:=[.list (S.t.nodes.map NodeTy.c),.list (S.t.edges.map EdgeTy.c),dLI S.p.nodes,.list (S.p.edges.map Edge.c),dLI S.g.nodes,.list (S.g.edges.map Edge.c),dLI S.pn,dLI S.pe,.bool S.inj,dI most,fd]
theorem De (S:Srch)(most:Int)(fd:D)(hfd:fd.cl=true)(l:List Int)(n:Int):Pure Tryz.prog 392 [.adr (S.cells most fd),dLI l,dI n] (.bool (S.inj&&mem l n)):=by
 refine Tz.pK ⟨fun _=>false,fun _=>[]⟩ Tryz.func392 rfl (fun Q hQ=>?_)
 have hcl:∀ b:Bool,D.clL (S.cells most fd)=true:=fun _=>by simp [go_sem,Srch.cells,hfd]
 have Y:=@Srch.cells.eq_1
 refine wv (h:=bB (fun i e H=>(e 0=.adr (S.cells most fd)∧e 1=dLI l∧e 2=dI n∧e 7=dI i)∧(i≤l.length)∧(∀ j,j<i→∀ hj:j<l.length,l[j]≠n)) (fun i=>l.length - i) 0 ⟨wg,wi,(by (intro j hj;omega))⟩ fun I0 hI0 i e H hi0=>?_)
 obtain ⟨E0,hi,hN⟩:=hi0
 have Y:=wa Y E0
 refine wv (h:=?_)
 repeat first|intro _|refine ⟨eP,?_⟩
 refine wq (fun h2=>?_) fun h2=>?_
 ·have hil:i<l.length:=h2.1
  have Y:=wa Y (wa h2 (aA hil))
  refine wv (h:=?_)
  repeat first|intro _|refine ⟨eP,?_⟩
  refine wq (fun h4=>?_) fun h4=>?_
  ·have hm:mem l n=true:=(cW _ _).2 (h4 ▸ aC hil)
   have hI:S.inj=true:=h2.2
   exact wv (h:=hQ _ _ (by simp [go_sem,hm,hI]))
  ·exact wo (h:=wx hI0 (i+1) ⟨wg,wj,(by (intro j hj hjl;rcases bN j i with hji|hji;exact hN j hji hjl;(obtain rfl:j=i:=(by omega);exact h4)))⟩)
 ·have hR:(S.inj&&mem l n)=false:=by
   cases hI:S.inj
   ·rfl
   ·simp [hI] at h2
    rw [fI,bH]
    intro hm
    obtain ⟨j,hj,he⟩:=aN ((cW _ _).1 hm)
    exact hN j (by omega) hj he
  exact wv (h:=hQ _ _ (by simp [go_sem,hR]))
theorem zX (a b:Int):(a==b)=decide (a=b):=by rw [aV];simp
theorem v7 (f:Nat→Bool)(k:Nat):(List.range (k+1)).any f=((List.range k).any f||f k):=by rw [e9,yU];simp
theorem Ks (S:Srch)(hp:graphF S.p=0)(hg:graphF S.g=0)(most:Int)(fd:D)(hfd:fd.cl=true)(l:List Int):Pure Tryz.prog 390 [.adr (S.cells most fd),dLI l] (.bool (rP S l)):=by
 have hpi:=(dF hp).2
 have hla:=bJ hp
 have hlb:=bJ hg
 refine Tz.pK ⟨fun t=>t==6||t==9,fun _=>[]⟩ Tryz.func390 rfl (fun Q hQ=>?_)
 have Y:=@Srch.cells.eq_1
 refine wv (h:=bB (fun i e H=>(e 0=.adr (S.cells most fd)∧e 1=dLI l∧e 5=dI i)∧(i≤S.p.edges.length)∧(∀ j,j<i→yD S l j=true)) (fun i=>S.p.edges.length - i) 0 ⟨wg,wi,(by (intro j hj;omega))⟩ fun I0 hI0 i e H hi0=>?_)
 obtain ⟨E0,hi,hK⟩:=hi0
 have Y:=wa Y E0
 refine dV (fun h2=>?_) fun h2=>?_
 ·obtain ⟨x,hx⟩:∃ x,x=S.p.edges[i]:=⟨_,rfl⟩
  have hxi:=(hpi _ (aC h2)).2
  rw [← hx] at hxi
  have hKe:yD S l i=(decide ((l.length:Int)≤x.from_)||decide ((l.length:Int)≤x.to_)||(List.range S.g.edges.length).any (vP S l i)):=by unfold yD;rw [aA h2,aD,← hx]
  have Y:=wa Y (wa h2 (wa (aA h2) (wa (Eq.symm hx) @Edge.c.eq_1)))
  refine dV (fun h5=>?_) fun h5=>?_
  ·have hKi:yD S l i=true:=by rw [hKe];rcases h5 with h|h<;>simp<;>omega
   exact wo (h:=wx hI0 (i+1) ⟨wg,wj,(by (intro j hj;rcases bN j i with hji|hji;exact hK j hji;(obtain rfl:j=i:=(by omega);exact hKi)))⟩)
  ·have hf:x.from_.toNat<l.length:=by omega
   have hft:x.to_.toNat<l.length:=by omega
   have hH:∀ k (hk:k<S.g.edges.length),vP S l i k=(decide (x.type=S.g.edges[k].type)&&(decide (S.g.edges[k].from_=l[x.from_.toNat])&&decide (S.g.edges[k].to_=l[x.to_.toNat]))):=fun k hk=>by
    simp only [vP,QN,N9,aA hk,aA h2,aD,← hx,aA hf,aA hft]
    simp [eq_comm (a:=x.type)]
   have Y:=wa Y (wa h5 (wa (aA hf) (aA hft)))
   refine wv (h:=bB (fun k e H=>∃ q:Nat,∃ b:Bool,(e 0=.adr (S.cells most fd)∧e 1=dLI l∧e 5=dI i∧e 6=.ptr q 1 0 0∧e 7=.bool b∧e 8=dI k)∧(H.get q=some ⟨101,3,[[dI x.type,dI x.from_,dI x.to_]],false⟩)∧(q<H.next)∧(k≤S.g.edges.length)∧(b=(List.range k).any (vP S l i))) (fun k=>S.g.edges.length - k) 0 ⟨H.next,false,wg,wn,wn,wi,(by rfl)⟩ fun I2 hI2 k e H hi2=>?_)
   obtain ⟨q,b,E2,gq_2,nq_2,hk,hb⟩:=hi2
   have Y:=wa Y (wa E2 (wa gq_2 (bY nq_2)))
   refine dV (fun h8=>?_) fun h8=>?_
   ·have hHk:=hH k h8
    have Y:=wa Y (wa h8 (wa (aA h8) (wa hHk (wa @zX @uR))))
    exact wo (h:=wx hI2 (k+1) ⟨q,((b||vP S l i k)),wg,wn,wn,wj,(by (rw [v7,← hb]))⟩)
   ·refine dV (fun h12=>?_) fun h12=>?_
    ·have hR:rP S l=false:=by
      simp only [rP,CE,bZ]
      refine ⟨i,h2,?_⟩
      rw [hKe,← show k=S.g.edges.length by omega,← hb]
      simp [h12];omega
     exact wv (h:=hQ _ _ (by simp [go_sem,hR]))
    ·have hKi:yD S l i=true:=by rw [hKe,← show k=S.g.edges.length by omega,← hb];simp [h12]
     exact wo (h:=wx hI0 (i+1) ⟨wg,wj,(by (intro j hj;rcases bN j i with hji|hji;exact hK j hji;(obtain rfl:j=i:=(by omega);exact hKi)))⟩)
 ·have hR:rP S l=true:=by
   simp only [rP,bV,bZ]
   exact fun j hj=>hK j (by omega)
  exact wv (h:=hQ _ _ (by simp [go_sem,hR]))
structure SrS (f o:Nat) (S:Srch) (most:Nat) (out:List Part) (H:AHeap):Prop where
 bf:H.get f=some ⟨385,11,[S.cells most (.own o out.length)],false⟩
 bo:H.get o=some ⟨56,2,out.map Part.c,false⟩
 le:out.length≤most+1
@[go_sem] theorem sF (l:List Part):D.clLL (l.map Part.c)=true:=cJ _ (fun p=>by simp [Part.c,D.clL,mP]) l
theorem Iw (S:Srch)(hp:graphF S.p=0)(hg:graphF S.g=0)(hpe:S.pe.length=S.p.edges.length)(most:Nat)(hmo:most≤5000)(ns:List Int)(hns:ns.length=S.p.nodes.length)(f o:Nat)(hd:f≠o) :
  ∀ (d:Nat) (es:List Int) (out:List Part) (G:AHeap) (Q:D→AHeap→Prop),es.length+d=S.p.edges.length→f<G.next→o<G.next→SrS f o S most out G →
  (∀ H',SrS f o S most (Ez S (most+1) ns d es out) H'→(∀ j,j≠f→j≠o→j<G.next→H'.get j=G.get j)→G.next≤H'.next→Q (.tup []) H')→ACalls Tryz.prog 391 [.ptr f 1 0 0,dLI ns,dLI es] G Q:=by
 have hla:=bJ hp
 have hlb:=bJ hg
 have hib:∀ x∈S.p.edges,(0≤x.from_∧x.from_<S.p.nodes.length)∧(0≤x.to_∧x.to_<S.p.nodes.length):=fun x hx=>((dF hp).2 x hx).2
 intro d
 induction d using Nat.strongRecOn with
 | _ d ih =>
 intro es out G Q hk hfN hoN hF hQ
 obtain ⟨gf,go,hle⟩:=hF
 have hds:=hd.symm
 have ff:=bY hfN
 have fo:=bY hoN
 refine (aG (cfg:=⟨fun t=>t==7||t==9||t==35||t==38||t==128,fun r=>match r with|3=>[(2,5),(3,5),(4,5),(2,7),(3,7),(4,7),(2,8),(3,8),(4,8),(5,8),(7,8),(2,10),(3,10),(4,10),(2,12),(3,12),(4,12)]|_=>[]⟩) Tz.mixed Tryz.func391 rfl rfl (aE rfl) (by kernel_rfl) ?_)
 have Y:=wa gf (wa go (wa hd (wa hds (wa ff (wa fo (wa @Part.c.eq_1 @Srch.cells.eq_1))))))
 refine qP (fun h0=>?_) fun h0=>?_
 ·have hfull:most+1≤out.length:=by omega
  refine wv (h:=?_)
  exact hQ _ (by rw [CT _ _ _ hfull];exact ⟨gf,go,hle⟩) (by intro j _ _ _;rfl) (by first|exact bC _|exact Nat.le_add_right _ _)
 ·have hnf:¬ most+1≤out.length:=by omega
  refine qP (fun h2=>?_) fun h2=>?_
  ·have hk0:d=0:=by omega
   subst hk0
   refine wp (h:=?_)
   exact hQ _ (by simp only [Ez];rw [if_neg hnf];exact ⟨by simp [go_sem,Y],by simp [go_sem,Y],by simp;omega⟩) (by intro j h1 h2 h3;simp [go_sem,h1,h2,bY h3]) (by first|exact bC _|(simp [go_sem]<;>omega)|(simp only [go_sem];split<;>omega))
  ·obtain ⟨k',rfl⟩:∃ k',d=k'+1:=⟨d - 1,by omega⟩
   have hel:es.length<S.p.edges.length:=by omega
   have hpl:es.length<S.pe.length:=by omega
   have hbx:=hib _ (aC hel)
   have hf1:S.p.edges[es.length].from_.toNat<ns.length:=by omega
   have hft:S.p.edges[es.length].to_.toNat<ns.length:=by omega
   have hokE:∀ j (hj:j<S.g.edges.length),LI S ns es j=((decide (S.pe[es.length]<0)||decide (S.pe[es.length]=(j:Int)))&&(!(S.inj&&mem es j)&&(decide (S.p.edges[es.length].type=S.g.edges[j].type)&&(decide (S.g.edges[j].from_=ns[S.p.edges[es.length].from_.toNat])&&decide (S.g.edges[j].to_=ns[S.p.edges[es.length].to_.toNat]))))):=fun j hj=>by
    simp only [LI,vS,vP,QN,N9,aA hj,aA hel,aA hpl,aD,aA hf1,aA hft]
    simp [eq_comm (a:=S.p.edges[es.length].type)]
   have Y:=wa Y (wa (aA hel) (wa (aA hpl) (wa (aA hf1) (aA hft))))
   refine wp (h:=bB (fun j e H=>∃ w7:Nat,∃ ou:List Part,(e 0=.ptr f 1 0 0∧e 1=dLI ns∧e 2=dLI es∧e 6=dI es.length∧e 7=.ptr w7 1 0 0∧e 8=dI j)∧(H.get f=some ⟨385,11,[S.cells most (.own o ou.length)],false⟩)∧(f<H.next)∧(H.get o=some ⟨56,2,ou.map Part.c,false⟩)∧(o<H.next)∧(H.get w7=some ⟨101,3,[S.p.edges[es.length].c],false⟩)∧(w7<H.next)∧(w7=G.next+10)∧(j≤S.g.edges.length)∧(ou.length≤most+1)∧(ou=(List.range j).foldl (fun ou k=>if LI S ns es k=true then Ez S (most+1) ns k' (es++[(k:Int)]) ou else ou) out)∧(∀ q,q≠f→q≠o→q<G.next→H.get q=G.get q)∧(G.next+1≤H.next)) (fun j=>S.g.edges.length - j) 0 ⟨(G.next+10),out,wg,wn,wn,wn,wn,wn,wn,(by rfl),wi,(by (exact hle)),(by rfl),(by (intro q h1 h2 h3;simp [go_sem,h1,h2,bY h3])),(by (simp [go_sem]))⟩ fun I0 hI0 j e H hi0=>?_)
   obtain ⟨w7,ou,E0,gf_0,nf_0,go_0,no_0,gw7_0,nw7_0,hw7,hj,hou,hst,hfr,hnx⟩:=hi0
   have di1:=And.intro (cO (show w7≠o by omega)) (And.intro (cO (show w7≠f by omega)) (cO (show o≠f by omega)))
   have Y:=wa Y (wa E0 (wa gf_0 (wa (bY nf_0) (wa go_0 (wa (bY no_0) (wa gw7_0 (wa (bY nw7_0) (wa @Edge.c.eq_1 di1))))))))
   refine qP (fun h6=>?_) fun h6=>?_
   ·have hEj:=hokE j h6
    have hbf:=hbx.1
    have hbt:=hbx.2
    have o1:(0≤S.pe[es.length]→S.pe[es.length]=(j:Int))→(S.inj=true→mem es (j:Int)=false)→(S.pe[es.length]<0∨S.pe[es.length]=(j:Int))∧(S.inj=false∨mem es (j:Int)=false):=fun a b=>⟨by omega,by cases hI:S.inj;exact .inl rfl;exact .inr (b hI)⟩
    have o2:(S.pe[es.length]<0∨S.pe[es.length]=(j:Int))→(S.inj=false∨mem es (j:Int)=false)→S.p.edges[es.length].type=S.g.edges[j].type→0≤S.p.edges[es.length].from_∧S.p.edges[es.length].from_<(ns.length:Int):=fun _ _ _=>by omega
    have o3:(0≤S.pe[es.length]→S.pe[es.length]=(j:Int))→(S.inj=true→mem es (j:Int)=false)→S.p.edges[es.length].type=S.g.edges[j].type→((S.pe[es.length]<0∨S.pe[es.length]=(j:Int))∧(S.inj=false∨mem es (j:Int)=false))∧S.p.edges[es.length].type=S.g.edges[j].type:=fun a b c=>⟨o1 a b,c⟩
    have o4:(S.pe[es.length]<0∨S.pe[es.length]=(j:Int))→(S.inj=false∨mem es (j:Int)=false)→S.p.edges[es.length].type=S.g.edges[j].type→S.g.edges[j].from_=ns[S.p.edges[es.length].from_.toNat]→0≤S.p.edges[es.length].to_∧S.p.edges[es.length].to_<(ns.length:Int):=fun _ _ _ _=>by omega
    have o5:(0≤S.pe[es.length]→S.pe[es.length]=(j:Int))→(S.inj=true→mem es (j:Int)=false)→S.p.edges[es.length].type=S.g.edges[j].type→S.g.edges[j].from_=ns[S.p.edges[es.length].from_.toNat]→(((S.pe[es.length]<0∨S.pe[es.length]=(j:Int))∧(S.inj=false∨mem es (j:Int)=false))∧S.p.edges[es.length].type=S.g.edges[j].type)∧S.g.edges[j].from_=ns[S.p.edges[es.length].from_.toNat]:=fun a b c d=>⟨⟨o1 a b,c⟩,d⟩
    have Y:=wa Y (wa h6 (aA h6))
    refine wp (h:=rR (fun hg=>De S most (.list (ou.map Part.c)) (by simp [D.cl,sF]) es j) RP (fun hg=>wl) (fun hg=> rfl) rfl Uw ?_)
    refine qP (fun h9=>?_) fun h9=>?_
    ·have hE:LI S ns es j=false:=by
      rw [hEj,bH];intro hT;simp at hT
      obtain ⟨a,b,c,d,e⟩:=hT
      rcases h9 with (((h|h)|h)|h)|h
      ·omega
      ·rcases b with b|b
       ·rw [b] at h;cases h.1
       ·rw [b] at h;cases h.2
      ·exact h c
      ·exact h d
      ·exact h e
     obtain ⟨ou2,hou2⟩:∃ x,x=ou:=⟨_,rfl⟩
     have Y:=wa Y (wa @Part.c.eq_1 (wa @Edge.c.eq_1 hou2))
     exact wp (h:=wx hI0 (j+1) ⟨w7,ou2,wg,wn,wn,wn,wn,wn,wn,(by (exact hw7)),wj,(by (rw [hou2];first|exact hou|exact AF _ _ _ _ _ hou|exact AF _ _ _ _ hou)),(by (rw [dB,← hst];first|exact hou2|(rw [hou2];first|rw [if_pos hE]|rw [if_neg (by rw [hE];simp)]))),(by (first|exact hfr3|(intro q h1 h2 h3;simp [go_sem,h1,h2,bY (show q<H.next by omega)];exact hfr q h1 h2 h3))),(by (first|omega|(simp [go_sem];omega)))⟩)
    ·have hE:LI S ns es j=true:=by
      obtain ⟨⟨⟨⟨a,b⟩,c⟩,d⟩,e⟩:=h9
      rw [hEj];simp [c,d,e]
      exact ⟨by omega,by cases hI:S.inj;exact .inl rfl;exact .inr (b hI)⟩
     obtain ⟨ou2,hou2⟩:∃ x,x=Ez S (most+1) ns k' (es++[(j:Int)]) ou:=⟨_,rfl⟩
     have Y:=wa Y (wa @Part.c.eq_1 (wa @Edge.c.eq_1 h9))
     refine wp (h:=?_)
     refine Gj (args':=[.ptr f 1 0 0,dLI ns,dLI (es++[(j:Int)])]) (by simp [go_sem,Y,dLI]) rfl ?_
     unfold eY
     refine ih k' (by omega) (es++[(j:Int)]) ou _ _ (by simp;omega) (by simp [go_sem];omega) (by simp [go_sem];omega) ⟨by simp [go_sem,Y],by simp [go_sem,Y],hou⟩ (fun H3 hF3 hf3 hn3=>?_)
     rw [← hou2] at hF3
     obtain ⟨gf3,go3,hle3⟩:=hF3
     have gw3:=hf3 w7 (by omega) (by omega) (by simp [go_sem];omega)
     simp [go_sem,Y] at gw3
     simp [go_sem] at hn3
     have hfr3:∀ j,j≠f→j≠o→j<G.next→H3.get j=G.get j:=fun j h1 h2 h3=>by
      have e1:=bY (show j<H.next by omega)
      rw [hf3 j h1 h2 (by simp [go_sem];omega)]
      simp [go_sem,h1,h2,e1]
      exact hfr j h1 h2 h3
     have fr2:=And.intro (bY (show f<H3.next by omega)) (And.intro (bY (show o<H3.next by omega)) (bY (show w7<H3.next by omega)))
     have Y:=wa Y (wa gf3 (wa go3 (wa gw3 fr2)))
     exact wp (h:=wx hI0 (j+1) ⟨w7,ou2,wg,wn,wn,wn,wn,wn,wn,(by (exact hw7)),wj,(by (rw [hou2];first|exact hou|exact AF _ _ _ _ _ hou|exact AF _ _ _ _ hou)),(by (rw [dB,← hst];first|exact hou2|(rw [hou2];first|rw [if_pos hE]|rw [if_neg (by rw [hE];simp)]))),(by (first|exact hfr3|(intro q h1 h2 h3;simp [go_sem,h1,h2,bY (show q<H.next by omega)];exact hfr q h1 h2 h3))),(by (first|omega|(simp [go_sem];omega)))⟩)
   ·have hJ:j=S.g.edges.length:=by omega
    have hOV:Ez S (most+1) ns (k'+1) es out=ou:=by simp only [Ez];rw [if_neg hnf,hst,hJ]
    refine wv (h:=?_)
    exact hQ _ (by rw [hOV];exact ⟨by assumption,by assumption,hou⟩) hfr (by omega)
theorem Iu (S:Srch)(hG:G17 S.t S.p S.g)(hpn:S.pn.length=S.p.nodes.length)(hpe:S.pe.length=S.p.edges.length)(most:Nat)(hmo:most≤5000)(f o:Nat)(hd:f≠o) :
  ∀ (d:Nat) (ns:List Int) (out:List Part) (G:AHeap) (Q:D→AHeap→Prop),ns.length+d=S.p.nodes.length→f<G.next→o<G.next→SrS f o S most out G →
  (∀ H',SrS f o S most (J9 S (most+1) d ns out) H'→(∀ j,j≠f→j≠o→j<G.next→H'.get j=G.get j)→G.next≤H'.next→Q (.tup []) H')→ACalls Tryz.prog 336 [.ptr f 1 0 0,dLI ns] G Q:=by
 have hla:=bJ hG.gp
 have hlb:=bJ hG.gg
 intro d
 induction d using Nat.strongRecOn with
 | _ d ih =>
 intro ns out G Q hk hfN hoN hF hQ
 obtain ⟨gf,go,hle⟩:=hF
 have hds:=hd.symm
 have ff:=bY hfN
 have fo:=bY hoN
 refine (aG (cfg:=⟨fun t=>t==97,fun _=>[]⟩) Tz.mixed Tryz.func336 rfl rfl (aE rfl) (by kernel_rfl) ?_)
 have Y:=wa gf (wa go (wa hd (wa hds (wa ff (wa fo (wa @Part.c.eq_1 @Srch.cells.eq_1))))))
 refine wp (h:=rR (fun hg=>Ks S hG.gp hG.gg most (.list (out.map Part.c)) (by simp [D.cl,sF]) ns) RP (fun hg=>wl) (fun hg=> rfl) rfl Uw ?_)
 refine qP (fun h0=>?_) fun h0=>?_
 ·have hX:J9 S (most+1) d ns out=out:=by
   cases d<;>(simp only [J9];rw [if_pos];rcases h0 with h|h;exact .inl (by omega);exact .inr (by simpa using h))
  refine wv (h:=?_)
  exact hQ _ (by rw [hX];exact ⟨gf,go,hle⟩) (by intro j _ _ _;rfl) (by first|exact bC _|exact Nat.le_add_right _ _)
 ·have hnf:¬ (most+1≤out.length∨rP S ns=false):=by rintro (h|h);(omega);(simp [h] at h0)
  refine qP (fun h2=>?_) fun h2=>?_
  ·have hk0:d=0:=by omega
   subst hk0
   refine wv (h:=?_)
   refine JD (args':=[.ptr f 1 0 0,dLI ns,dLI []]) (by simp [go_sem,Y,dLI,ML]) ?_
   unfold eY
   refine Iw S hG.gp hG.gg hpe most hmo ns (by omega) f o hd S.p.edges.length [] out _ _ (by simp) (by first|exact hfN|exact Nat.lt_add_right _ hfN) (by first|exact hoN|exact Nat.lt_add_right _ hoN) ⟨gf,go,hle⟩ (fun H3 hF3 hf3 hn3=>?_)
   refine wv (h:=?_)
   exact hQ _ (by simp only [J9];rw [if_neg hnf];exact hF3) (fun j h1 h2 h3=>hf3 j h1 h2 (by first|exact h3|exact Nat.lt_add_right _ h3)) (by first|exact hn3|exact dM (Nat.le_add_right _ _) hn3)
  ·obtain ⟨k',rfl⟩:∃ k',d=k'+1:=⟨d - 1,by omega⟩
   have hel:ns.length<S.p.nodes.length:=by omega
   have hpl:ns.length<S.pn.length:=by omega
   have hbp:=hG.tp _ (aC hel)
   have hokN:∀ j (hj:j<S.g.nodes.length),FG S ns j=((decide (S.pn[ns.length]<0)||decide (S.pn[ns.length]=(j:Int)))&&(!(S.inj&&mem ns j)&&tT S.t S.p.nodes[ns.length] S.g.nodes[j])):=fun j hj=>by
    simp only [FG,vS,aA hj,aA hel,aA hpl,aD]
   have Y:=wa Y (wa (aA hel) (aA hpl))
   refine wv (h:=bB (fun j e H=>∃ ou:List Part,(e 0=.ptr f 1 0 0∧e 1=dLI ns∧e 4=dI ns.length∧e 5=dI j)∧(H.get f=some ⟨385,11,[S.cells most (.own o ou.length)],false⟩)∧(f<H.next)∧(H.get o=some ⟨56,2,ou.map Part.c,false⟩)∧(o<H.next)∧(j≤S.g.nodes.length)∧(ou.length≤most+1)∧(ou=(List.range j).foldl (fun ou k=>if FG S ns k=true then J9 S (most+1) k' (ns++[(k:Int)]) ou else ou) out)∧(∀ q,q≠f→q≠o→q<G.next→H.get q=G.get q)∧(G.next≤H.next)) (fun j=>S.g.nodes.length - j) 0 ⟨out,wg,wn,wn,wn,wn,wi,(by (exact hle)),(by rfl),(by (intro q h1 h2 h3;rfl)),(by (simp [go_sem]))⟩ fun I0 hI0 j e H hi0=>?_)
   obtain ⟨ou,E0,gf_0,nf_0,go_0,no_0,hj,hou,hst,hfr,hnx⟩:=hi0
   have di1:=cO (show o≠f by omega)
   have Y:=wa Y (wa E0 (wa gf_0 (wa (bY nf_0) (wa go_0 (wa (bY no_0) di1)))))
   refine qP (fun h5=>?_) fun h5=>?_
   ·have hEj:=hokN j h5
    have o1:(0≤S.pn[ns.length]→S.pn[ns.length]=(j:Int))→(S.inj=true→mem ns (j:Int)=false)→(S.pn[ns.length]<0∨S.pn[ns.length]=(j:Int))∧(S.inj=false∨mem ns (j:Int)=false):=fun a b=>⟨by omega,by cases hI:S.inj;exact .inl rfl;exact .inr (b hI)⟩
    have hbg:=hG.tg _ (aC h5)
    have Y:=wa Y (wa h5 (aA h5))
    refine wp (h:=rR (fun hg=>De S most (.list (ou.map Part.c)) (by simp [D.cl,sF]) ns j) RP (fun hg=>wl) (fun hg=> rfl) rfl Uw ?_)
    refine wp (h:=eK (fun hg=>(by have hq:=xJ S.t hG.v S.g.nodes[j] S.p.nodes[ns.length] hbg.1 hbg.2 hbp.1;unfold Types.d Types.c dI at hq;exact hq)) (fun hg=>wl) ?_)
    refine qP (fun h7=>?_) fun h7=>?_
    ·have hE:FG S ns j=false:=by
      rw [hEj,bH];intro hT;simp at hT
      obtain ⟨a,b,c⟩:=hT
      rcases h7 with (h|h)|h
      ·omega
      ·rcases b with b|b
       ·rw [b] at h;cases h.1
       ·rw [b] at h;cases h.2
      ·rw [c] at h;cases h
     obtain ⟨ou2,hou2⟩:∃ x,x=ou:=⟨_,rfl⟩
     have Y:=wa Y (wa @Part.c.eq_1 hou2)
     exact wp (h:=wx hI0 (j+1) ⟨ou2,wg,wn,wn,wn,wn,wj,(by (rw [hou2];first|exact hou|exact NC hG.gp _ _ hou)),(by (rw [dB,← hst,hou2];first|rw [if_pos hE]|rw [if_neg (by rw [hE];simp)])),(by (first|exact hfr3|exact hfr|(intro q h1 h2 h3;simp [go_sem,h1,h2,bY (show q<H.next by omega)];exact hfr q h1 h2 h3))),(by (first|omega|(simp [go_sem];omega)))⟩)
    ·have hE:FG S ns j=true:=by
      obtain ⟨⟨a,b⟩,c⟩:=h7
      rw [hEj];simp [c]
      exact ⟨by omega,by cases hI:S.inj;exact .inl rfl;exact .inr (b hI)⟩
     obtain ⟨ou2,hou2⟩:∃ x,x=J9 S (most+1) k' (ns++[(j:Int)]) ou:=⟨_,rfl⟩
     have Y:=wa Y (wa @Part.c.eq_1 h7)
     refine wp (h:=?_)
     refine Gj (args':=[.ptr f 1 0 0,dLI (ns++[(j:Int)])]) (by simp [go_sem,Y,dLI]) rfl ?_
     unfold eY
     refine ih k' (by omega) (ns++[(j:Int)]) ou _ _ (by simp;omega) (by simp [go_sem];omega) (by simp [go_sem];omega) ⟨by simp [go_sem,Y],by simp [go_sem,Y],hou⟩ (fun H3 hF3 hf3 hn3=>?_)
     rw [← hou2] at hF3
     obtain ⟨gf3,go3,hle3⟩:=hF3
     simp [go_sem] at hn3
     have hfr3:∀ j,j≠f→j≠o→j<G.next→H3.get j=G.get j:=fun j h1 h2 h3=>by
      have e1:=bY (show j<H.next by omega)
      rw [hf3 j h1 h2 (by simp [go_sem];omega)]
      simp [go_sem,h1,h2,e1]
      exact hfr j h1 h2 h3
     have fr2:=And.intro (bY (show f<H3.next by omega)) (bY (show o<H3.next by omega))
     have Y:=wa Y (wa gf3 (wa go3 fr2))
     exact wp (h:=wx hI0 (j+1) ⟨ou2,wg,wn,wn,wn,wn,wj,(by (rw [hou2];first|exact hou|exact NC hG.gp _ _ hou)),(by (rw [dB,← hst,hou2];first|rw [if_pos hE]|rw [if_neg (by rw [hE];simp)])),(by (first|exact hfr3|exact hfr|(intro q h1 h2 h3;simp [go_sem,h1,h2,bY (show q<H.next by omega)];exact hfr q h1 h2 h3))),(by (first|omega|(simp [go_sem];omega)))⟩)
   ·have hJ:j=S.g.nodes.length:=by omega
    have hOV:J9 S (most+1) (k'+1) ns out=ou:=by simp only [J9];rw [if_neg hnf,hst,hJ]
    refine wv (h:=?_)
    exact hQ _ (by rw [hOV];exact ⟨by assumption,by assumption,hou⟩) hfr hnx
@[go_sem] theorem Td {n:Nat}{c:List D}(h:D.clL c=true):D.clLL (List.replicate n c)=true:=by
 induction n with
 | zero=>rfl
 | succ n ih=>simp [l5,D.clLL,h,ih]
def JU (n i:Nat):List Int:=List.replicate i (-1)++List.replicate (n - i) 0
theorem Cw {n i:Nat}(h:i≤n):(JU n i).length=n:=by simp [JU];omega
theorem LG {n i:Nat}(h:i<n):(JU n i).set i (-1)=JU n (i+1):=by
 unfold JU
 rw [kB _ _ (by simp),nY,qN,show n - i=(n - (i+1))+1 by omega,l5,w8]
 simp
theorem LH (n:Nat):JU n n=List.replicate n (-1):=by simp [JU]
theorem IP (n:Nat):JU n 0=List.replicate n 0:=by simp [JU]
theorem Kr (p:Graph)(hn:p.nodes.length≤100000)(he:p.edges.length≤100000):Pure Tryz.prog 245 [p.d] (.agg [dLI (List.replicate p.nodes.length (-1)),dLI (List.replicate p.edges.length (-1))]):=by
 refine Tz.pK ⟨fun t=>t==2||t==3,fun r=>match r with|1=>[(3,4),(3,5),(3,6),(0,7),(1,7),(2,7),(3,7),(0,9),(1,9),(2,9),(3,9),(4,9),(5,9),(6,9),(7,9)]|_=>[]⟩ Tryz.func245 rfl (fun Q hQ=>?_)
 try simp [go_sem,seval]
 repeat first|intro _|refine ⟨eM,?_⟩
 obtain ⟨I0,hI0⟩:∃ I0:Nat→cZ→AHeap→Prop,∀ (i:Nat) (e:cZ) (H:AHeap),I0 i e H↔((e 1=.adr p.c)∧(e 2=.ptr 0 1 0 0)∧(e 3=.ptr 10 1 0 0)∧(e 4=dI i)∧(H.get 0=some ⟨56,2,[[.nil,.nil]],false⟩)∧(0<H.next)∧(H.get 10=some ⟨56,2,[[.own 4 p.nodes.length,.own 8 p.edges.length]],false⟩)∧(10<H.next)∧(H.get 4=some ⟨3,1,(JU p.nodes.length i).map cI,false⟩)∧(4<H.next)∧(H.get 8=some ⟨3,1,(JU p.edges.length 0).map cI,false⟩)∧(8<H.next)∧(i≤p.nodes.length)∧((JU p.nodes.length i).length=p.nodes.length)):=⟨fun i e H=>_,fun _ _ _=>Iff.rfl⟩
 refine q9 I0 (fun i=>p.nodes.length - i) (0) ((hI0 _ _ _).2 ⟨?_,?_,?_,?_,?_,?_,?_,?_,(by (simp [go_sem,IP,cI])),?_,(by (simp [go_sem,IP,cI])),?_,(by first|assumption|omega|(simp [go_sem];done)|(simp_all;done)),(by (exact Cw (by omega)))⟩) ?_
 iterate 10 (first|omega|(simp [go_sem,seval]<;>omega))
 intro i e H hi0
 obtain ⟨q1_0,q2_0,q3_0,q4_0,g0_0,n0_0,g10_0,n10_0,g4_0,n4_0,g8_0,n8_0,hi,hl⟩:=(hI0 _ _ _).1 hi0
 have x0:=bY n0_0
 have x10:=bY n10_0
 have x4:=bY n4_0
 have x8:=bY n8_0
 have F0:=And.intro q1_0 (And.intro q2_0 (And.intro q3_0 (And.intro q4_0 (And.intro g0_0 (And.intro g10_0 (And.intro g8_0 (And.intro x0 (And.intro x10 (And.intro x4 x8)))))))))
 try simp [go_sem,seval,F0,g4_0,hl]
 repeat first|intro _|refine ⟨eM,?_⟩
 refine aO (fun h3=>?_) (fun h3=>?_)
 ·try simp [go_sem] at h3
  have hS:=LG h3
  have hil:i<(JU p.nodes.length i).length:=by omega
  try simp [go_sem,seval,F0,g4_0,hl,h3,aA hil]
  repeat first|intro _|refine ⟨eM,?_⟩
  refine eV (i+1) (by omega) ((hI0 _ _ _).2 ⟨?_,?_,?_,?_,?_,?_,?_,?_,(by (simp [go_sem,F0,g4_0,hl,h3,aA hil,← hS,cG,cI])),?_,(by (simp [go_sem,F0,g4_0,hl,h3,aA hil])),?_,(by first|assumption|omega|(simp [go_sem,F0,g4_0,hl,h3,aA hil];done)|(simp_all<;>omega)),(by (exact Cw (by omega)))⟩)<;>first|omega|(simp [go_sem,seval,F0,g4_0,hl,h3,aA hil]<;>omega)
 ·try simp [go_sem] at h3
  have hie:i=p.nodes.length:=by omega
  rw [hie,LH] at g4_0
  try simp [go_sem,seval,F0,g4_0,hl,g4_0]
  obtain ⟨I2,hI2⟩:∃ I2:Nat→cZ→AHeap→Prop,∀ (k:Nat) (e:cZ) (H:AHeap),I2 k e H↔((e 1=.adr p.c)∧(e 2=.ptr 0 1 0 0)∧(e 3=.ptr 10 1 0 0)∧(e 5=dI k)∧(H.get 0=some ⟨56,2,[[.nil,.nil]],false⟩)∧(0<H.next)∧(H.get 10=some ⟨56,2,[[.own 4 p.nodes.length,.own 8 p.edges.length]],false⟩)∧(10<H.next)∧(H.get 4=some ⟨3,1,(List.replicate p.nodes.length (-1:Int)).map cI,false⟩)∧(4<H.next)∧(H.get 8=some ⟨3,1,(JU p.edges.length k).map cI,false⟩)∧(8<H.next)∧(k≤p.edges.length)∧((JU p.edges.length k).length=p.edges.length)):=⟨fun k e H=>_,fun _ _ _=>Iff.rfl⟩
  refine q9 I2 (fun k=>p.edges.length - k) (0) ((hI2 _ _ _).2 ⟨?_,?_,?_,?_,?_,?_,?_,?_,?_,?_,(by (simp [go_sem,F0,g4_0,hl,g4_0])),?_,(by first|assumption|omega|(simp [go_sem,F0,g4_0,hl,g4_0];done)|(simp_all;done)),(by (exact Cw (by omega)))⟩) ?_
  iterate 11 (first|omega|(simp [go_sem,seval,F0,g4_0,hl,g4_0]<;>omega))
  intro k e H hi2
  obtain ⟨q1_2,q2_2,q3_2,q5_2,g0_2,n0_2,g10_2,n10_2,g4_2,n4_2,g8_2,n8_2,hk,hl2⟩:=(hI2 _ _ _).1 hi2
  have x0:=bY n0_2
  have x10:=bY n10_2
  have x4:=bY n4_2
  have x8:=bY n8_2
  have F2:=And.intro q1_2 (And.intro q2_2 (And.intro q3_2 (And.intro q5_2 (And.intro g0_2 (And.intro g10_2 (And.intro g4_2 (And.intro x0 (And.intro x10 (And.intro x4 x8)))))))))
  try simp [go_sem,seval,hl,F2,g8_2,hl2]
  repeat first|intro _|refine ⟨eM,?_⟩
  refine aO (fun h7=>?_) (fun h7=>?_)
  ·try simp [go_sem] at h7
   have hS:=LG h7
   have hil:k<(JU p.edges.length k).length:=by omega
   try simp [go_sem,seval,hl,F2,g8_2,hl2,h7,aA hil]
   repeat first|intro _|refine ⟨eM,?_⟩
   refine eV (k+1) (by omega) ((hI2 _ _ _).2 ⟨?_,?_,?_,?_,?_,?_,?_,?_,?_,?_,(by (simp [go_sem,hl,F2,g8_2,hl2,h7,aA hil,← hS,cG,cI])),?_,(by first|assumption|omega|(simp [go_sem,hl,F2,g8_2,hl2,h7,aA hil,h3];done)|(simp_all<;>omega)),(by (exact Cw (by omega)))⟩)<;>first|omega|(simp [go_sem,seval,hl,F2,g8_2,hl2,h7,aA hil]<;>omega)
  ·try simp [go_sem] at h7
   have hke:k=p.edges.length:=by omega
   rw [hke,LH] at g8_2
   try simp [go_sem,seval,hl,F2,g8_2,hl2,g8_2]
   exact hQ _ _ (by first|(left;(simp [go_sem,hl,F2,g8_2,hl2,g8_2,dLI]);done)|(right;(simp [go_sem,hl,F2,g8_2,hl2,g8_2,dLI]);done))
theorem IQ (l:List Part):eE (l.map Part.c)=l.map Part.c:=sH fun c hc=>by
 rw [bG] at hc;obtain ⟨x,_,rfl⟩:=hc
 simp [Part.c,i4,lK,dLI,eH]
theorem Mv (S:Srch)(hG:G17 S.t S.p S.g)(hpn:S.pn.length=S.p.nodes.length)(hpe:S.pe.length=S.p.edges.length)(most:Nat)(hmo:most≤5000) :
  Pure Tryz.prog 244 [S.t.d,S.p.d,S.g.d,.agg [dLI S.pn,dLI S.pe],.bool S.inj,dI most] (.list (((tV S).take (most+1)).map Part.c)):=by
 have hRn:J9 S (most+1) S.p.nodes.length [] []=(tV S).take (most+1):=by rw [J8 hG.gp (most+1) _ _ _ (by simp)];simp [tV]
 obtain ⟨L,hL⟩:∃ L,L=(tV S).take (most+1):=⟨_,rfl⟩
 rw [← hL] at hRn ⊢
 refine vF (by first|rfl|(simp [go_sem];done)) (fun Q hQ=>(aG (cfg:=⟨fun t=>t==21,fun _=>[]⟩) Tz.mixed Tryz.func244 rfl rfl (aE rfl) (by kernel_rfl) ?_))
 have Y:=trivial
 refine wv (h:=?_)
 refine tS (.step (.refl _) 0 0 10 56 2 _ _ (by simp [go_sem];rfl) rfl rfl rfl) ?_
 simp [go_sem]
 refine JD (args':=[.ptr 0 1 0 0,dLI []]) (by simp [go_sem,dLI,ML]) ?_
 unfold eY
 refine Iu S hG hpn hpe most hmo 0 1 (by omega) S.p.nodes.length [] [] _ _ (by simp) (by simp [go_sem]) (by simp [go_sem]) ⟨by simp [go_sem,Srch.cells,Types.c,Graph.c,dLI,dI],by simp [go_sem],by simp⟩ (fun H3 hF3 hf3 hn3=>?_)
 rw [hRn] at hF3
 obtain ⟨gf3,go3,hle3⟩:=hF3
 have Y:=wa Y (wa gf3 (wa go3 @Srch.cells.eq_1))
 refine wv (h:=?_)
 exact hQ _ _ (by simp [go_sem,Y,lK,IQ])
def cC (x:Term)(vs:List Int):Int:=if x.var<0 then x.add else vs[x.var.toNat]?.getD 0+x.add
def Sm (vs:List Int):Prop:=∀ v∈vs,-4000000≤v∧v≤4000000
theorem Sm.get {vs:List Int}(h:Sm vs){k:Nat}(hk:k<vs.length) : -4000000≤vs[k]∧vs[k]≤4000000:=h _ (aC hk)
def mV (x:Term)(n:Nat):Prop:=(-1≤x.var∧x.var<n)∧(-1000000≤x.add∧x.add≤1000000)
theorem n7 (x:Term)(vs:List Int)(hx:mV x vs.length)(hs:Sm vs):Pure Tryz.prog 75 [.agg x.c,dLI vs] (dI (cC x vs)):=by
 have hx0:=hx
 obtain ⟨⟨a1,a2⟩,a3,a4⟩:=hx0
 refine Tz.pK ⟨fun _=>false,fun _=>[]⟩ Tryz.func75 rfl (fun Q hQ=>?_)
 have Y:=@Term.c.eq_1
 refine cT (fun h1=>?_) fun h1=>?_
 ·exact wv (h:=hQ _ _ (by simp [go_sem,cC,h1]))
 ·have hk:x.var.toNat<vs.length:=by omega
  have hb:=hs.get hk
  have Y:=wa Y (aA hk)
  exact wo (h:=hQ _ _ (by simp [go_sem,cC,show ¬ x.var<0 by omega,aA hk]))
theorem iF (x:Term)(vs:List Int)(hx:mV x vs.length)(hs:Sm vs):Pure Tryz.prog 27 [.agg x.c,dLI vs] (.tup [dI (cC x vs),dI 0]):=by
 have hx0:=hx
 obtain ⟨⟨a1,a2⟩,a3,a4⟩:=hx0
 refine Tz.pK ⟨fun _=>false,fun _=>[]⟩ Tryz.func27 rfl (fun Q hQ=>?_)
 have Y:=@Term.c.eq_1
 refine dV (fun h1=>?_) fun h1=>?_
 ·have Y:=wa Y h1
  exact wv (h:=hQ _ _ wy)
 ·refine wv (h:=aB (n7 x vs hx hs) wl ?_)
  have Y:=wa Y h1
  exact wv (h:=hQ _ _ wy)
theorem By (x:Term)(vs:List Int)(hx:mV x vs.length)(hs:Sm vs):Pure Tryz.prog 337 [.agg x.c,dLI vs] (.tup [dI (cC x vs),.bool true]):=by
 have hx0:=hx
 obtain ⟨⟨a1,a2⟩,a3,a4⟩:=hx0
 refine Tz.pK ⟨fun _=>false,fun _=>[]⟩ Tryz.func337 rfl (fun Q hQ=>?_)
 have Y:=@Term.c.eq_1
 refine cT (fun h1=>?_) fun h1=>?_
 ·exact wv (h:=hQ _ _ (by simp [go_sem,cC,h1]))
 ·refine dV (fun h3=>?_) fun h3=>?_
  ·have Y:=wa Y (wa h1 h3)
   exact wv (h:=hQ _ _ wy)
  ·have hk:x.var.toNat<vs.length:=by omega
   have hb:=hs.get hk
   have Y:=wa Y (aA hk)
   exact wo (h:=hQ _ _ (by simp [go_sem,cC,aA hk];omega))
def wY (x:Test)(vs:List Int):Bool:=(decide (x.kind=1)&&decide (cC x.left vs≤cC x.right vs))||(decide (x.kind=2)&&decide (cC x.left vs=cC x.right vs))
def El (x:Test)(n:Nat):Prop:=(x.kind=1∨x.kind=2)∧mV x.left n∧mV x.right n
theorem IE (x:Test)(vs:List Int)(hx:El x vs.length)(hs:Sm vs):Pure Tryz.prog 246 [.agg x.c,dLI vs] (.bool (wY x vs)):=by
 obtain ⟨hk,hl,hr⟩:=hx
 refine Tz.pK ⟨fun _=>false,fun _=>[]⟩ Tryz.func246 rfl (fun Q hQ=>?_)
 have Y:=@Test.c.eq_1
 refine wv (h:=?_)
 refine aB (By x.left vs hl hs) wl ?_
 refine wv (h:=?_)
 refine aB (By x.right vs hr hs) wl ?_
 refine wv (h:=?_)
 repeat first|intro _|refine ⟨eP,?_⟩
 exact hQ _ _ (by simp [go_sem,wY,zX])
def jM (h:Host)(m:Part)(s:Slot):Int:=(h.values[(m.nodes[s.node.toNat]?.getD 0).toNat]?.getD [])[s.attr.toNat]?.getD 0
def i7 (st:List Int × List Bool)(s:Slot):Bool:=decide (0≤s.term.var)&&!(st.2[s.term.var.toNat]?.getD false)
def jS (h:Host)(m:Part)(st:List Int × List Bool)(s:Slot):List Int × List Bool :=
 if i7 st s=true then (st.1.set s.term.var.toNat (jM h m s - s.term.add),st.2.set s.term.var.toNat true) else st
def gW (h:Host)(m:Part):List Int × List Bool→List Slot→Option (List Int × List Bool)
 | st,[]=>some st
 | st,s :: l=>if cC s.term (jS h m st s).1=jM h m s then gW h m (jS h m st s) l else none
theorem u0 (h:Host)(m:Part)(s:Slot):∀ (l:List Slot) (st:List Int × List Bool),gW h m st (l++[s])=(gW h m st l).bind fun q=>if cC s.term (jS h m q s).1=jM h m s then some (jS h m q s) else none
 | [],st=>by simp [gW]
 | a :: l,st=>by
  simp only [fV,gW]
  split
  ·exact u0 h m s l _
  ·rfl
theorem Bk (h:Host)(m:Part):∀ (l r:List Slot) (st:List Int × List Bool),gW h m st l=none→gW h m st (l++r)=none
 | [],r,st,hn=>by simp [gW] at hn
 | a :: l,r,st,hn=>by
  simp only [fV,gW] at hn ⊢
  split at hn
  ·rename_i he;rw [if_pos he];exact Bk h m l r _ hn
  ·rename_i he;rw [if_neg he]
theorem qS {h:Host}{m:Part}{l:List Slot}{i:Nat}(hi:i<l.length){st q:List Int × List Bool}(hq:gW h m st (l.take i)=some q) :
  (cC l[i].term (jS h m q l[i]).1=jM h m l[i]→gW h m st (l.take (i+1))=some (jS h m q l[i]))∧(cC l[i].term (jS h m q l[i]).1≠jM h m l[i]→gW h m st l=none):=by
 have e:l.take (i+1)=l.take i++[l[i]]:=aF hi
 refine ⟨fun h1=>?_,fun h1=>?_⟩
 ·rw [e,u0,hq];simp [h1]
 ·have hn:gW h m st (l.take (i+1))=none:=by rw [e,u0,hq];simp [h1]
  have:=Bk h m _ (l.drop (i+1)) st hn
  rw [List.take_append_drop] at this;exact this
def dH (p:Pattern)(h:Host)(m:Part)(vs:List Int):List Int × Int :=
 match gW h m (vs++List.replicate (p.vars.toNat - vs.length) 0,List.replicate vs.length true++List.replicate (p.vars.toNat - vs.length) false) p.slots with
 | none=>([],11)
 | some q=>if p.tests.all (fun x=>wY x q.1)=true then (q.1,0) else ([],16)
structure SmallA (x:Attr):Prop where
 lo : -1000000≤x.low
 hi:x.high≤1000000
 le:x.low≤x.high
theorem Cm {x:Attr}{b:List Attr}(h:cQ x b=0):SmallA x:=by
 unfold cQ at h
 split at h<;>try (cases h;done)
 split at h<;>try (cases h;done)
 split at h
 ·exact absurd h (by assumption)
 ·rename_i h3
  split at h
  ·rename_i h4
   split at h
   ·rename_i h5
    have hl:x.names.length≤20:=by
     refine bD fun hc=>h3 ?_
     unfold lQ;rw [if_pos (by omega)];decide
    simp at h5
    exact ⟨by omega,by omega,by omega⟩
   ·cases h
  ·split at h
   ·rename_i h5
    simp at h5
    exact ⟨by omega,by omega,by omega⟩
   ·cases h
theorem IS {t:Types}{a:Nat}(ha:a<t.nodes.length)(h:fS t a=0):∀ k,(t.attrs a).length - t.nodes[a].attrs.length≤k→∀ hk:k<(t.attrs a).length,SmallA (t.attrs a)[k]:=by
 rw [zR t a ha] at h
 split at h<;>try (cases h;done)
 split at h<;>try (cases h;done)
 split at h<;>try (cases h;done)
 split at h<;>try (cases h;done)
 split at h<;>try (cases h;done)
 intro k h1 hk
 have:=dP _ _ h k h1 (by omega)
 unfold xQ at this
 rw [aA hk] at this
 exact Cm this
theorem JJ {t:Types}(hv:(cA t).2=0):∀ a:Nat,a<t.nodes.length→∀ x∈t.attrs a,SmallA x:=by
 have hval:=lG hv
 have hN:∀ j,j<t.nodes.length→fS t j=0:=by
  have h:=hv
  unfold cA at h
  split at h
  ·simp at h
  ·split at h
   ·simp at h
   ·obtain ⟨hN,_⟩:=o6 _ _ h
    exact fun j hj=>hN j (by omega) (by omega)
 intro a
 induction a using Nat.strongRecOn with
 | _ a ih =>
 intro ha x hx
 have hrec:=A6 t a ha (hval.parentsOK a)
 have hpar:=hval.parent a _ (aA ha)
 obtain ⟨k,hk,rfl⟩:=aN hx
 by_cases h0:k<(t.attrs a).length - t.nodes[a].attrs.length
 ·by_cases hp:0≤t.nodes[a].parent
  ·rw [if_pos hp] at hrec
   have hl:(t.attrs a).length=(t.attrs t.nodes[a].parent.toNat).length+t.nodes[a].attrs.length:=by rw [hrec];simp
   have hkp:k<(t.attrs t.nodes[a].parent.toNat).length:=by omega
   have he:(t.attrs a)[k]=(t.attrs t.nodes[a].parent.toNat)[k]:=by
    have:(t.attrs a)[k]?=(t.attrs t.nodes[a].parent.toNat)[k]?:=by rw [hrec,aR hkp]
    rw [aA hk,aA hkp] at this
    exact Option.some.inj this
   rw [he]
   exact ih _ (by omega) (by omega) _ (aC hkp)
  ·rw [if_neg hp] at hrec
   have hl:(t.attrs a).length=t.nodes[a].attrs.length:=by rw [hrec];simp
   omega
 ·exact IS ha (hN a ha) k (by omega) hk
theorem Gp {t:Types}(hv:t.valid):∀ b:Nat,b<t.nodes.length→∀ a:Nat,mem (t.line b) (a:Int)=true→∃ r,t.attrs b=t.attrs a++r:=by
 intro b
 induction b using Nat.strongRecOn with
 | _ b ih =>
 intro hb a hm
 have hpar:=hv.parent b _ (aA hb)
 rw [vL t b hb (hv.parentsOK b),sJ,b6] at hm
 rcases hm with hm|hm
 ·by_cases h0:0≤t.nodes[b].parent
  ·rw [if_pos h0] at hm
   obtain ⟨r,hr⟩:=ih t.nodes[b].parent.toNat (by omega) (by omega) a hm
   exact ⟨r++t.nodes[b].attrs,by rw [A6 t b hb (hv.parentsOK b),if_pos h0,hr,List.append_assoc]⟩
  ·rw [if_neg h0,zT] at hm;cases hm
 ·simp at hm
  have:a=b:=by omega
  subst this
  exact ⟨[],by simp⟩
structure SOk (p:Pattern) (h:Host) (m:Part):Prop where
 vars:0≤p.vars∧p.vars≤12
 node:∀ s∈p.slots,0≤s.node∧s.node<m.nodes.length
 img:∀ k∈m.nodes,0≤k∧k<h.values.length
 attr:∀ s∈p.slots,0≤s.attr∧s.attr<(h.values[(m.nodes[s.node.toNat]?.getD 0).toNat]?.getD []).length
 small:∀ l∈h.values,∀ v∈l,-1000000≤v∧v≤1000000
 term:∀ s∈p.slots,mV s.term p.vars.toNat
 test:∀ x∈p.tests,El x p.vars.toNat
def iW (im keep:List Int):List Int:=((List.range im.length).filter fun (i:Nat)=>!mem keep i).map fun i=>im[i]?.getD 0
def vW (g:Graph)(me gone:List Int)(k:Nat):Bool:=!mem me k&&(mem gone (g.edges[k]?.getD bQ).from_||mem gone (g.edges[k]?.getD bQ).to_)
def xP (g:Graph)(me gone:List Int):List Int:=((List.range g.edges.length).filter (vW g me gone)).map fun (b:Nat)=>(b:Int)
def rQ (im keep:List Int)(i k:Nat):Bool:=decide (im[i]?.getD 0=im[k]?.getD 0)&&(!mem keep i||!mem keep k)
def jZ (im keep:List Int)(i j:Nat):List (Nat × Nat):=((List.range j).filter fun b=>rQ im keep i (i+1+b)).map fun b=>(i,i+1+b)
def DZ (im keep:List Int)(n:Nat):List (Nat × Nat):=(List.range n).flatMap fun i=>jZ im keep i (im.length - (i+1))
def pY (im keep:List Int):List (Nat × Nat):=DZ im keep im.length
def cPr (p:Nat × Nat):List D:=[dI p.1,dI p.2]
@[go_sem] theorem QW (p:Nat × Nat):D.clL (cPr p)=true:=rfl
@[go_sem] theorem Vf (l:List (Nat × Nat)):D.clLL (l.map cPr)=true:=cJ _ QW l
theorem Jq (im keep:List Int)(i j:Nat):jZ im keep i (j+1)=jZ im keep i j++(if rQ im keep i (i+1+j)=true then [(i,i+1+j)] else []):=by
 unfold jZ
 rw [e9,gM,List.map_append]
 congr 1
 by_cases h:rQ im keep i (i+1+j)=true<;>simp [h]
theorem AZ (im keep:List Int)(n:Nat):DZ im keep (n+1)=DZ im keep n++jZ im keep n (im.length - (n+1)):=by
 unfold DZ;rw [e9,List.flatMap_append];simp
theorem yL (im keep:List Int)(i j:Nat):(jZ im keep i j).length≤j:=by
 unfold jZ;rw [bW];exact dM (kD _ _) (by simp)
theorem sR (im keep:List Int):∀ n,(DZ im keep n).length≤n * im.length
 | 0=>by simp [DZ]
 | n+1=>by
  have h1:=sR im keep n
  have h2:=yL im keep n (im.length - (n+1))
  rw [AZ,aT,Nat.add_mul]
  omega
theorem nI (im keep:List Int){i:Nat}(h:i<im.length):((List.range (i+1)).filter fun (i:Nat)=>!mem keep i).map (fun i=>im[i]?.getD 0)=((List.range i).filter fun (i:Nat)=>!mem keep i).map (fun i=>im[i]?.getD 0)++(if (!mem keep i)=true then [im[i]] else []):=by
 rw [e9,gM,List.map_append]
 congr 1
 by_cases hm:(!mem keep i)=true
 ·rw [if_pos hm];simp at hm;simp [hm,h]
 ·rw [if_neg hm];simp at hm;simp [hm]
theorem AW {im keep:List Int}{x:Int}:x∈iW im keep↔∃ i:Nat,i<im.length∧mem keep i=false∧im[i]?=some x:=by
 unfold iW
 simp only [bG,fQ,bZ,cD]
 constructor
 ·rintro ⟨i,⟨h1,h2⟩,h3⟩
  rw [aA h1] at h3
  exact ⟨i,h1,h2,by rw [aA h1];exact congrArg some h3⟩
 ·rintro ⟨i,h1,h2,h3⟩
  exact ⟨i,⟨h1,h2⟩,by rw [h3];rfl⟩
def compG (l g:Graph)(keep m:Part):Int:=if dS l g m≠0 then dS l g m else subF l keep
def oU (l g:Graph)(keep m:Part):Int :=
 if compG l g keep m≠0 then compG l g keep m
 else if 0<(pY m.nodes keep.nodes).length+(pY m.edges keep.edges).length then 15
 else if 0<(xP g m.edges (iW m.nodes keep.nodes)).length then 14 else 0
def p5 (l g:Graph)(keep m:Part):Part:=if oU l g keep m=0 then ⟨b5 (iW m.nodes keep.nodes) g.nodes.length,b5 (iW m.edges keep.edges) g.edges.length⟩ else ⟨[],[]⟩
theorem nD (l:List Int)(v:Int):Pure Tryz.prog 348 [dLI l,dI v] (.bool (mem l v)):=by
 refine Tz.pK ⟨fun _=>false,fun _=>[]⟩ Tryz.func348 rfl (fun Q hQ=>?_)
 have Y:=trivial
 refine wv (h:=bB (fun i e H=>(e 0=dLI l∧e 1=dI v∧e 5=dI i)∧(i≤l.length)∧(∀ j,j<i→l[j]?≠some v)) (fun i=>l.length - i) 0 ⟨wg,wi,(by (intro j hj;omega))⟩ fun I0 hI0 i e H hi0=>?_)
 obtain ⟨E0,hi,hne⟩:=hi0
 have Y:=wa Y E0
 refine wv (h:=?_)
 repeat first|intro _|refine ⟨eP,?_⟩
 refine wq (fun h2=>?_) fun h2=>?_
 ·have Y:=wa Y h2
  refine wv (h:=?_)
  repeat first|intro _|refine ⟨eP,?_⟩
  refine wq (fun h4=>?_) fun h4=>?_
  ·refine wv (h:=?_)
   have hm:mem l v=true:=(cW l v).2 (h4 ▸ aC h2)
   exact hQ _ _ (by simp [go_sem,hm])
  ·exact wo (h:=wx hI0 (i+1) ⟨wg,wj,(by (exact iX hne (by rw [aA h2];simpa using h4)))⟩)
 ·refine wv (h:=?_)
  have hm:mem l v=false:=by rw [bH];intro h;obtain ⟨j,hj,he⟩:=aN ((cW l v).1 h);exact hne j (by omega) (by rw [aA hj,he])
  exact hQ _ _ (by simp [go_sem,hm])
theorem Dg (l:List Int)(n:Nat)(hn:n≤1000000):Pure Tryz.prog 268 [dI n,dLI l] (dLI (b5 l n)):=by
 refine Tz.pK ⟨fun t=>t==5,fun _=>[]⟩ Tryz.func268 rfl (fun Q hQ=>?_)
 have Y:=trivial
 refine wv (h:=bB (fun i e H=>∃ xs:List Int,(e 1=dLI l∧e 0=dI n∧e 5=.own 0 xs.length∧e 6=dI i)∧(H.get 0=some ⟨3,1,xs.map cI,false⟩)∧(0<H.next)∧(i≤n)∧(xs.length≤i)∧(xs=((List.range i).filter fun (b:Nat)=>!mem l b).map (fun (b:Nat)=>(b:Int)))) (fun i=>n - i) 0 ⟨([]),wg,wn,wn,wi,(by simp),(by rfl)⟩ fun I0 hI0 i e H hi0=>?_)
 obtain ⟨xs,E0,g0_0,n0_0,hi,hl,hx⟩:=hi0
 have Y:=wa Y (wa E0 (wa g0_0 (bY n0_0)))
 refine cT (fun h3=>?_) fun h3=>?_
 ·have Y:=wa Y h3
  refine wo (h:=aB (nD l i) wl ?_)
  refine dV (fun h5=>?_) fun h5=>?_
  ·have Y:=wa Y h5
   exact wo (h:=wx hI0 (i+1) ⟨(xs++(if (!mem l i)=true then [(i:Int)] else [])),wg,wn,wn,wj,(by (rw [aT];split<;>simp<;>omega)),(by (rw [cH,← hx]))⟩)
  ·have Y:=wa Y h5
   exact wo (h:=wx hI0 (i+1) ⟨(xs++(if (!mem l i)=true then [(i:Int)] else [])),wg,wn,wn,wj,(by (rw [aT];split<;>simp<;>omega)),(by (rw [cH,← hx]))⟩)
 ·exact wv (h:=hQ _ _ (by simp [go_sem,Y,b5];rw [hx,show i=n by omega];simp))
theorem x9 (im keep:List Int)(hn:im.length≤1000000):Pure Tryz.prog 269 [dLI im,dLI keep] (dLI (iW im keep)):=by
 refine Tz.pK ⟨fun t=>t==5,fun _=>[]⟩ Tryz.func269 rfl (fun Q hQ=>?_)
 have Y:=trivial
 refine wv (h:=bB (fun i e H=>∃ xs:List Int,(e 0=dLI im∧e 1=dLI keep∧e 5=.own 0 xs.length∧e 6=dI i)∧(H.get 0=some ⟨3,1,xs.map cI,false⟩)∧(0<H.next)∧(i≤im.length)∧(xs.length≤i)∧(xs=((List.range i).filter fun (b:Nat)=>!mem keep b).map (fun i=>im[i]?.getD 0))) (fun i=>im.length - i) 0 ⟨([]),wg,wn,wn,wi,(by simp),(by rfl)⟩ fun I0 hI0 i e H hi0=>?_)
 obtain ⟨xs,E0,g0_0,n0_0,hi,hl,hx⟩:=hi0
 have Y:=wa Y (wa E0 (wa g0_0 (bY n0_0)))
 refine dV (fun h3=>?_) fun h3=>?_
 ·have Y:=wa Y (wa h3 (aA h3))
  refine wo (h:=aB (nD keep i) wl ?_)
  refine dV (fun h5=>?_) fun h5=>?_
  ·have Y:=wa Y h5
   exact wo (h:=wx hI0 (i+1) ⟨(xs++(if (!mem keep i)=true then [im[i]] else [])),wg,wn,wn,wj,(by (rw [aT];split<;>simp<;>omega)),(by (rw [nI _ _ h3,← hx]))⟩)
  ·have Y:=wa Y h5
   exact wo (h:=wx hI0 (i+1) ⟨(xs++(if (!mem keep i)=true then [im[i]] else [])),wg,wn,wn,wj,(by (rw [aT];split<;>simp<;>omega)),(by (rw [nI _ _ h3,← hx]))⟩)
 ·refine wv (h:=?_)
  have hX:iW im keep=xs:=by rw [hx,show i=im.length by omega];rfl
  exact hQ _ _ (by simp [go_sem,Y,hX])
theorem Js {g:Graph}{me gone:List Int}{k:Nat}(h:k<g.edges.length):vW g me gone k=(!mem me k&&(mem gone g.edges[k].from_||mem gone g.edges[k].to_)):=by
 unfold vW;rw [aA h];rfl
theorem Dh (l g:Graph)(keep m:Part)(hn:m.nodes.length≤1000000)(hg:g.edges.length≤1000000):Pure Tryz.prog 267 [l.d,g.d,keep.d,m.d] (dLI (xP g m.edges (iW m.nodes keep.nodes))):=by
 obtain ⟨go,hgo⟩:∃ go,iW m.nodes keep.nodes=go:=⟨_,rfl⟩
 refine Tz.pK ⟨fun t=>t==9,fun _=>[]⟩ Tryz.func267 rfl (fun Q hQ=>?_)
 have Y:=hgo
 refine wv (h:=aB (x9 m.nodes keep.nodes hn) wl ?_)
 refine wv (h:=bB (fun k e H=>∃ xs:List Int,(e 5=.adr g.c∧e 7=.adr m.c∧e 10=dLI go∧e 9=.own 0 xs.length∧e 11=dI k)∧(H.get 0=some ⟨3,1,xs.map cI,false⟩)∧(0<H.next)∧(k≤g.edges.length)∧(xs.length≤k)∧(xs=((List.range k).filter (vW g m.edges go)).map (fun (b:Nat)=>(b:Int)))) (fun k=>g.edges.length - k) 0 ⟨([]),wg,wn,wn,wi,(by simp),(by rfl)⟩ fun I0 hI0 k e H hi0=>?_)
 obtain ⟨xs,E0,g0_0,n0_0,hi,hl,hx⟩:=hi0
 have Y:=wa Y (wa E0 (wa g0_0 (bY n0_0)))
 refine dV (fun h4=>?_) fun h4=>?_
 ·have hdb:=Js (me:=m.edges) (gone:=go) h4
  have c1:=nD go g.edges[k].from_
  have c2:=nD go g.edges[k].to_
  have Y:=wa Y (wa h4 (wa (aA h4) hdb))
  refine wo (h:=aB (nD m.edges k) wl ?_)
  refine wo (h:=aK (fun hg=>c1) (fun hg=>wl) ?_)
  refine wo (h:=aK (fun hg=>c2) (fun hg=>wl) ?_)
  refine dV (fun h6=>?_) fun h6=>?_
  ·have Y:=wa Y h6
   exact wo (h:=wx hI0 (k+1) ⟨(xs++(if vW g m.edges go k=true then [(k:Int)] else [])),wg,wn,wn,wj,(by (rw [aT];split<;>simp<;>omega)),(by (rw [cH,← hx]))⟩)
  ·have Y:=wa Y h6
   exact wo (h:=wx hI0 (k+1) ⟨(xs++(if vW g m.edges go k=true then [(k:Int)] else [])),wg,wn,wn,wj,(by (rw [aT];split<;>simp<;>omega)),(by (rw [cH,← hx]))⟩)
 ·refine wv (h:=?_)
  have hX:xP g m.edges go=xs:=by rw [hx,show k=g.edges.length by omega];rfl
  exact hQ _ _ (by simp [go_sem,Y,hX])
theorem Iy (l g:Graph)(keep m:Part)(hk:keep.nodes.length≤1000000):Pure Tryz.prog 265 [l.d,g.d,keep.d,m.d] (dI (compG l g keep m)):=by
 refine Tz.pK ⟨fun _=>false,fun _=>[]⟩ Tryz.func265 rfl (fun Q hQ=>?_)
 have Y:=trivial
 refine wv (h:=aB (qX l g m) wl ?_)
 refine cT (fun h2=>?_) fun h2=>?_
 ·have Y:=wa Y (wa h2 @compG.eq_1)
  exact wv (h:=hQ _ _ wy)
 ·refine wv (h:=aB (vC l keep) wl ?_)
  have Y:=wa Y (wa h2 @compG.eq_1)
  exact wv (h:=hQ _ _ wy)
end Go.Abs
end
