/- Hosts and matches of the reference: Valid, Back, distinct, m -/
import Derived.Test.YthalajhajpjjeaaGreatZeF
import Derived.Test.YthalajhajpjjeaaGreatZeL
import Derived.Test.YthalajhajpjjeaaGreatZeA
import Derived.Test.YthalajhajpjjeaaGreatZeK
set_option linter.unusedVariables false
set_option linter.unusedSimpArgs false
section
set_option maxRecDepth 100000
set_option maxHeartbeats 4000000
open Go Go.Proofs
namespace Go.Abs
def Al (l:List Attr)(vs:List Int)(k:Nat):Int:=if vs[k]?.getD 0<(l[k]?.getD mH).low∨(l[k]?.getD mH).high<vs[k]?.getD 0 then 6 else 0
def f9 (t:Types)(kind:Int)(vs:List Int):Int :=
 if (t.nodes.length:Int)≤kind then 6 else if uW t kind.toNat=true then 13 else if vs.length≠(bI t kind).length then 20 else bJ (Al (bI t kind) vs) 0 (bI t kind).length
theorem Lx (t:Types)(ht:t.ok)(kind:Int)(hk:0≤kind)(vs:List Int):Pure Tryz.prog 207 [t.d,dI kind,dLI vs] (dI (f9 t kind vs)):=by
 refine Tz.pK ⟨fun _=>false,fun _=>[]⟩ Tryz.func207 rfl (fun Q hQ=>?_)
 have Y:=trivial
 refine wv (h:=?_)
 repeat first|intro _|refine ⟨dR,?_⟩
 refine wq (fun h1=>?_) fun h1=>?_
 ·have hE:f9 t kind vs=6:=by unfold f9;rw [if_pos (by omega)]
  exact wv (h:=hQ _ _ (by simp [go_sem,hE]))
 ·have hkn:kind.toNat<t.nodes.length:=by omega
  have hA:uW t kind.toNat=t.nodes[kind.toNat].abs:=by simp [uW,aA hkn]
  have hE0:f9 t kind vs=if uW t kind.toNat=true then 13 else if vs.length≠(bI t kind).length then 20 else bJ (Al (bI t kind) vs) 0 (bI t kind).length:=by unfold f9;rw [if_neg (by omega)]
  rw [hA] at hE0
  have Y:=wa Y (wa (aA hkn) @NodeTy.c.eq_1)
  refine wv (h:=?_)
  repeat first|intro _|refine ⟨dR,?_⟩
  refine wq (fun h3=>?_) fun h3=>?_
  ·rw [if_pos (by simpa using h3)] at hE0
   exact wv (h:=hQ _ _ (by simp [go_sem,hE0]))
  ·rw [if_neg (by simpa using h3)] at hE0
   refine wv (h:=aB (oI t ht kind) wl ?_)
   refine wv (h:=?_)
   repeat first|intro _|refine ⟨dR,?_⟩
   refine wq (fun h6=>?_) fun h6=>?_
   ·rw [if_pos (by omega)] at hE0
    exact wv (h:=hQ _ _ (by simp [go_sem,hE0]))
   ·rw [if_neg (by omega)] at hE0
    have hln:vs.length=(bI t kind).length:=by omega
    refine wv (h:=bA (fun k e H=>(e 3=.adr t.c∧e 2=dLI vs∧e 7=.list ((bI t kind).map Attr.c)∧e 9=dI k)∧(k≤(bI t kind).length)∧(bJ (Al (bI t kind) vs) k ((bI t kind).length - k)=f9 t kind vs)) (fun k=>(bI t kind).length - k) 0 ⟨wg,wi,(by exact hE0.symm)⟩ fun I0 hI0 k e H hi0=>?_)
    obtain ⟨E0,hkl,hF⟩:=hi0
    have Y:=wa Y E0
    refine wv (h:=?_)
    repeat first|intro _|refine ⟨dR,?_⟩
    refine wq (fun h9=>?_) fun h9=>?_
    ·have hv:k<vs.length:=by omega
     have hst:=d7 (Al (bI t kind) vs) h9
     rw [hF] at hst
     have hLE:Al (bI t kind) vs k=if vs[k]<(bI t kind)[k].low∨(bI t kind)[k].high<vs[k] then 6 else 0:=by simp only [Al,aA hv,aA h9,aD]
     have Y:=wa Y (wa h9 (wa (aA hv) (wa (aA h9) @Attr.c.eq_1)))
     refine wv (h:=?_)
     repeat first|intro _|refine ⟨dR,?_⟩
     refine wq (fun h11=>?_) fun h11=>?_
     ·rw [if_pos (by omega)] at hLE
      rw [hLE,if_pos (by omega)] at hst
      exact wv (h:=hQ _ _ (by simp [go_sem,hst]))
     ·rw [if_neg (by omega)] at hLE
      rw [hLE,if_neg (by omega)] at hst
      exact wo (h:=wx hI0 (k+1) ⟨wg,wj,(by exact hst.symm)⟩)
    ·have hZ:f9 t kind vs=0:=by rw [← hF,show (bI t kind).length - k=0 by omega];rfl
     exact wv (h:=hQ _ _ (by simp [go_sem,hZ]))
def fS (f:Nat→Int):Nat→Nat→Int × Int
 | k,0=>(-1,0)
 | k,n+1=>if f k≠0 then ((k:Int),f k) else fS f (k+1) n
theorem pF (f:Nat→Int){k n:Nat}(h:k<n):fS f k (n - k)=if f k≠0 then ((k:Int),f k) else fS f (k+1) (n - (k+1)):=by
 obtain ⟨m,hm⟩:∃ m,n - k=m+1:=⟨n - k - 1,by omega⟩
 rw [hm,show n - (k+1)=m by omega];rfl
theorem rL (f:Nat→Int):∀ n k,(fS f k n).2=bJ f k n
 | 0,k=>rfl
 | n+1,k=>by simp only [fS,bJ];split<;>simp_all [rL f n]
def Ep (t:Types)(h:Host)(i:Nat):Int:=f9 t (h.graph.nodes[i]?.getD 0) (h.values[i]?.getD [])
def N9 (t:Types)(h:Host)(i:Nat):Int:=if (t.edges.length:Int)≤(h.graph.edges[i]?.getD bS).type then 6 else
 if l9 t (h.graph.edges[i]?.getD bS).type (gN h.graph (h.graph.edges[i]?.getD bS).from_) (gN h.graph (h.graph.edges[i]?.getD bS).to_)=true then 0 else 13
def l8 (t:Types)(h:Host):Int × Int :=
 if (b8 t).2≠0 then (-1,(b8 t).2) else if graphF h.graph≠0 then (-1,graphF h.graph) else if h.values.length≠h.graph.nodes.length then (-1,20)
 else if (fS (Ep t h) 0 h.graph.nodes.length).2≠0 then fS (Ep t h) 0 h.graph.nodes.length else fS (N9 t h) 0 h.graph.edges.length
def fW (t:Types)(h:Host):Int:=(l8 t h).2
theorem vU (t:Types)(ht:t.ok)(h:Host):Pure Tryz.prog 120 [t.d,h.d] (.tup [dI (l8 t h).1,dI (l8 t h).2]):=by
 refine Tz.pK ⟨fun t=>t==12,fun _=>[]⟩ Tryz.func120 rfl (fun Q hQ=>?_)
 have Y:=wa @Host.d.eq_1 @Host.c.eq_1
 refine wv (h:=aB (oH t ht) wl ?_)
 refine c4 (fun h2=>?_) fun h2=>?_
 ·have hE:l8 t h=(-1,(b8 t).2):=by unfold l8;rw [if_pos (by simpa using h2)]
  exact wv (h:=hQ _ _ (by simp [go_sem,hE]))
 ·have hE0:l8 t h=if graphF h.graph≠0 then (-1,graphF h.graph) else if h.values.length≠h.graph.nodes.length then (-1,20) else if (fS (Ep t h) 0 h.graph.nodes.length).2≠0 then fS (Ep t h) 0 h.graph.nodes.length else fS (N9 t h) 0 h.graph.edges.length:=by unfold l8;rw [if_neg (by simpa using h2)]
  refine wv (h:=aB (jU h.graph) wl ?_)
  refine c4 (fun h5=>?_) fun h5=>?_
  ·rw [if_pos (by simpa using h5)] at hE0
   exact wv (h:=hQ _ _ (by simp [go_sem,hE0]))
  ·rw [if_neg (by simpa using h5)] at hE0
   have hg0:graphF h.graph=0:=by simpa using h5
   have hgi:=dP hg0
   have hgl:=bK hg0
   refine eF (fun h7=>?_) fun h7=>?_
   ·rw [if_pos (by omega)] at hE0
    exact wv (h:=hQ _ _ (by simp [go_sem,hE0]))
   ·rw [if_neg (by omega)] at hE0
    refine wv (h:=bA (fun i e H=>(e 2=.adr t.c∧e 3=.adr h.c∧e 9=dI i)∧(i≤h.graph.nodes.length)∧(fS (Ep t h) i (h.graph.nodes.length - i)=fS (Ep t h) 0 h.graph.nodes.length)) (fun i=>h.graph.nodes.length - i) 0 ⟨wg,wi,(by rfl)⟩ fun I0 hI0 i e H hi0=>?_)
    obtain ⟨E0,hi,hF⟩:=hi0
    have Y:=wa Y E0
    refine eF (fun h10=>?_) fun h10=>?_
    ·have hv:i<h.values.length:=by omega
     have hn0:0≤h.graph.nodes[i]:=(hgi.1 _ (aC h10)).1
     have hst:=pF (Ep t h) h10
     rw [hF] at hst
     have hNE:Ep t h i=f9 t h.graph.nodes[i] h.values[i]:=by simp only [Ep,aA hv,aA h10,aD]
     have Y:=wa Y (wa h10 (wa (aA hv) (wa (aA h10) @cL.eq_1)))
     refine wo (h:=aK (Lx t ht h.graph.nodes[i] hn0 h.values[i]) wl ?_)
     refine eF (fun h13=>?_) fun h13=>?_
     ·rw [hNE,if_pos (by simpa using h13)] at hst
      rw [hst,if_pos (by simpa using h13)] at hE0
      exact wv (h:=hQ _ _ (by simp [go_sem,hE0]))
     ·rw [hNE,if_neg (by simpa using h13)] at hst
      exact wo (h:=wx hI0 (i+1) ⟨wg,wj,(by exact hst.symm)⟩)
    ·have hN0:fS (Ep t h) 0 h.graph.nodes.length=(-1,0):=by rw [← hF,show h.graph.nodes.length - i=0 by omega];rfl
     rw [hN0,if_neg (by simp)] at hE0
     refine wv (h:=bA (fun j e H=>(e 2=.adr t.c∧e 3=.adr h.c∧e 11=dI j)∧(j≤h.graph.edges.length)∧(fS (N9 t h) j (h.graph.edges.length - j)=l8 t h)) (fun j=>h.graph.edges.length - j) 0 ⟨wg,wi,(by exact hE0.symm)⟩ fun I2 hI2 j e H hi2=>?_)
     obtain ⟨E2,hj,hG⟩:=hi2
     have Y:=wa Y E2
     refine eF (fun h16=>?_) fun h16=>?_
     ·obtain ⟨x,hx⟩:∃ x,x=h.graph.edges[j]:=⟨_,rfl⟩
      have hxi:=(hgi.2 _ (aC h16)).2
      rw [← hx] at hxi
      have hxf:x.from_.toNat<h.graph.nodes.length:=by omega
      have hxt:x.to_.toNat<h.graph.nodes.length:=by omega
      have hst:=pF (N9 t h) h16
      rw [hG] at hst
      have hEE:N9 t h j=if (t.edges.length:Int)≤x.type then 6 else if l9 t x.type h.graph.nodes[x.from_.toNat] h.graph.nodes[x.to_.toNat]=true then 0 else 13:=by simp only [N9,gN,aA h16,aD,← hx,aA hxf,aA hxt]
      have Y:=wa Y (wa h16 (wa (aA h16) (wa (Eq.symm hx) (wa (aA hxf) (aA hxt)))))
      refine eF (fun h19=>?_) fun h19=>?_
      ·rw [if_pos (by omega)] at hEE
       rw [hEE,if_pos (by omega)] at hst
       exact wv (h:=hQ _ _ (by simp [go_sem,hst]))
      ·rw [if_neg (by omega)] at hEE
       refine wo (h:=aK (DT t ht x.type h.graph.nodes[x.from_.toNat] h.graph.nodes[x.to_.toNat]) wl ?_)
       refine eF (fun h21=>?_) fun h21=>?_
       ·rw [if_neg (by simpa using h21)] at hEE
        rw [hEE,if_pos (by omega)] at hst
        exact wv (h:=hQ _ _ (by simp [go_sem,hst]))
       ·rw [if_pos (by simpa using h21)] at hEE
        rw [hEE,if_neg (by omega)] at hst
        exact wo (h:=wx hI2 (j+1) ⟨wg,wj,(by exact hst.symm)⟩)
     ·have hZ:l8 t h=(-1,0):=by rw [← hG,show h.graph.edges.length - j=0 by omega];rfl
      exact wv (h:=hQ _ _ (by simp [go_sem,hZ]))
theorem vS (l:List Int):Pure Tryz.prog 338 [dLI l] (.bool (decide l.Nodup)):=by
 refine Tz.pK ⟨fun _=>false,fun _=>[]⟩ Tryz.func338 rfl (fun Q hQ=>?_)
 have Y:=trivial
 refine wv (h:=bA (fun i e H=>(e 0=dLI l∧e 3=dI i)∧(i≤l.length)∧((l.take i).Nodup)) (fun i=>l.length - i) 0 ⟨wg,wi,(by (simp))⟩ fun I0 hI0 i e H hi0=>?_)
 obtain ⟨E0,hi,hD⟩:=hi0
 have Y:=wa Y E0
 refine wv (h:=?_)
 repeat first|intro _|refine ⟨dR,?_⟩
 refine wq (fun h2=>?_) fun h2=>?_
 ·have Y:=wa Y (wa h2 (aA h2))
  refine wv (h:=bA (fun k e H=>(e 0=dLI l∧e 3=dI i∧e 4=dI k)∧(k≤i)∧(∀ j,j<k→∀ hj:j<l.length,l[j]≠l[i])) (fun k=>i - k) 0 ⟨wg,wi,(by (intro j hj;omega))⟩ fun I2 hI2 k e H hi2=>?_)
  obtain ⟨E2,hk,hne⟩:=hi2
  have Y:=wa Y E2
  refine c4 (fun h5=>?_) fun h5=>?_
  ·have hkl:k<l.length:=by omega
   have Y:=wa Y (wa h5 (aA hkl))
   refine wv (h:=?_)
   repeat first|intro _|refine ⟨dR,?_⟩
   refine wq (fun h7=>?_) fun h7=>?_
   ·have hnd:¬ l.Nodup:=fun hN=>by
     have:=(qQ (h₀:=h2) (h₁:=hkl) hN).1 h7
     omega
    exact wv (h:=hQ _ _ (by simp [go_sem,hnd]))
   ·exact wo (h:=wx hI2 (k+1) ⟨wg,wj,(by (intro j hj hjl;rcases bN j k with hjk|hjk;exact hne j hjk hjl;(obtain rfl:j=k:=(by omega);exact fun he=>h7 he.symm)))⟩)
  ·have hD2:(l.take (i+1)).Nodup:=by
    rw [aE h2,oS]
    refine ⟨hD,by simp,fun a ha b hb=>?_⟩
    rw [bL] at hb;subst hb
    obtain ⟨j,hj,rfl⟩:=Ct.1 ha
    exact hne j (by omega) _
   exact wo (h:=wx hI0 (i+1) ⟨wg,wj,(by exact hD2)⟩)
 ·have hN:l.Nodup:=by rw [aH (by omega)] at hD;exact hD
  exact wv (h:=hQ _ _ (by simp [go_sem,hN]))
structure G17 (t:Types) (p g:Graph):Prop where
 v:t.valid
 gp:graphF p=0
 gg:graphF g=0
 tp:∀ a∈p.nodes,0≤a∧a<t.nodes.length
 tg:∀ a∈g.nodes,0≤a∧a<t.nodes.length
theorem Df {t:Types}{g:Graph}(h:kI t g=true):∀ a∈g.nodes,0≤a∧a<t.nodes.length:=fun a ha=>by
 simp only [kI,aM,cE,u0,insideF,Bool.not_eq_true,Bool.not_eq_false',decide_eq_true_eq] at h
 have:=h.1 a ha
 simpa using this
theorem l3 {t:Types}{p g:Graph}(h:eP t p g=0):G17 t p g:=by
 unfold eP at h
 split at h
 ·exact absurd h (by assumption)
 ·rename_i h1
  split at h
  ·exact absurd h (by assumption)
  ·rename_i h2
   split at h
   ·exact absurd h (by assumption)
   ·rename_i h3
    split at h
    ·cases h
    ·rename_i h4
     simp only [b7,cE,not_or,Bool.not_eq_false] at h4
     exact ⟨lN (by simpa using h1),by simpa using h2,by simpa using h3,Df h4.1,Df h4.2⟩
def GF (t:Types)(p g:Graph)(m:Part)(i:Nat):Int :=
 if m.nodes[i]?.getD 0<0∨(g.nodes.length:Int)≤m.nodes[i]?.getD 0 then 6
 else if uD t (p.nodes[i]?.getD 0) (g.nodes[(m.nodes[i]?.getD 0).toNat]?.getD 0)=true then 0 else 13
def gX (t:Types)(p g:Graph)(m:Part)(inj:Bool):Int :=
 if m.nodes.length≠p.nodes.length∨m.edges.length≠p.edges.length then 20
 else if bJ (GF t p g m) 0 p.nodes.length≠0 then bJ (GF t p g m) 0 p.nodes.length
 else if bJ (gL p g m) 0 p.edges.length≠0 then bJ (gL p g m) 0 p.edges.length
 else if inj=true∧(¬ m.nodes.Nodup∨¬ m.edges.Nodup) then 5 else 0
def eR (t:Types)(p g:Graph)(m:Part)(inj:Bool):Int:=if eP t p g≠0 then eP t p g else gX t p g m inj
theorem yB (t:Types)(hv:t.valid)(a b:Int)(h0:0≤a)(h1:a<t.nodes.length)(hb:0≤b):Pure Tryz.prog 266 [t.d,dI a,dI b] (.bool (uD t b a)):=by
 have:=tT t hv b hb a.toNat (by omega)
 rw [Int.toNat_of_nonneg h0] at this;exact this
theorem Jv (t:Types)(p g:Graph)(hG:G17 t p g)(m:Part)(inj:Bool):Pure Tryz.prog 247 [t.d,p.d,g.d,m.d,.bool inj] (dI (gX t p g m inj)):=by
 have hga:=bK hG.gp
 have hgb:=bK hG.gg
 have hia:=(dP hG.gp).2
 refine Tz.pK ⟨fun t=>t==13||t==14,fun r=>match r with|15=>[(0,14),(1,14),(3,14),(4,14),(5,14),(6,14),(7,14),(8,14),(10,14),(11,14),(12,14),(13,14),(0,15),(1,15),(3,15),(4,15),(5,15),(6,15),(7,15),(8,15),(10,15),(11,15),(12,15),(13,15),(14,15),(5,16),(6,16),(7,16),(8,16),(10,16),(11,16),(12,16),(13,16)]|_=>[]⟩ Tryz.func247 rfl (fun Q hQ=>?_)
 have Y:=trivial
 refine eF (fun h1=>?_) fun h1=>?_
 ·have hM:gX t p g m inj=20:=by unfold gX;rw [if_pos (by omega)]
  exact wv (h:=hQ _ _ (by simp [go_sem,hM]))
 ·have hM:gX t p g m inj=(if bJ (GF t p g m) 0 p.nodes.length≠0 then bJ (GF t p g m) 0 p.nodes.length else if bJ (gL p g m) 0 p.edges.length≠0 then bJ (gL p g m) 0 p.edges.length else if inj=true∧(¬ m.nodes.Nodup∨¬ m.edges.Nodup) then 5 else 0):=by unfold gX;rw [if_neg (by omega)]
  have hl1:m.nodes.length=p.nodes.length:=by omega
  have hl2:m.edges.length=p.edges.length:=by omega
  refine wv (h:=bA (fun i e H=>(e 5=.adr t.c∧e 6=.adr p.c∧e 7=.adr g.c∧e 8=.adr m.c∧e 4=.bool inj∧e 11=dI i)∧(i≤m.nodes.length)∧(bJ (GF t p g m) i (p.nodes.length - i)=bJ (GF t p g m) 0 p.nodes.length)) (fun i=>m.nodes.length - i) 0 ⟨wg,wi,(by rfl)⟩ fun I0 hI0 i e H hi0=>?_)
  obtain ⟨E0,hi,hF⟩:=hi0
  have Y:=wa Y E0
  refine eF (fun h4=>?_) fun h4=>?_
  ·have hn:i<p.nodes.length:=by omega
   have hst:=d7 (GF t p g m) hn
   rw [hF] at hst
   have hNE:GF t p g m i=(if m.nodes[i]<0∨(g.nodes.length:Int)≤m.nodes[i] then 6 else if uD t p.nodes[i] (g.nodes[m.nodes[i].toNat]?.getD 0)=true then 0 else 13):=by simp only [GF,aA h4,aA hn,aD]
   have hbp:=hG.tp _ (aC hn)
   have Y:=wa Y (wa h4 (wa (aA h4) (aA hn)))
   refine eF (fun h6=>?_) fun h6=>?_
   ·rw [if_pos (by omega)] at hNE
    rw [hNE,if_pos (by omega)] at hst
    rw [hst,if_pos (by omega)] at hM
    exact wv (h:=hQ _ _ (by simp [go_sem,hM]))
   ·have hkb:m.nodes[i].toNat<g.nodes.length:=by omega
    rw [if_neg (by omega),aA hkb,aD] at hNE
    have hbg:=hG.tg _ (aC hkb)
    have Y:=wa Y (aA hkb)
    refine wo (h:=aK ((yB t hG.v g.nodes[m.nodes[i].toNat] p.nodes[i] hbg.1 hbg.2 hbp.1)) wl ?_)
    refine eF (fun h8=>?_) fun h8=>?_
    ·rw [if_neg (by simpa using h8)] at hNE
     rw [hNE,if_pos (by omega)] at hst
     rw [hst,if_pos (by omega)] at hM
     exact wv (h:=hQ _ _ (by simp [go_sem,hM]))
    ·rw [if_pos (by simpa using h8)] at hNE
     rw [hNE,if_neg (by omega)] at hst
     exact wo (h:=wx hI0 (i+1) ⟨wg,wj,(by exact hst.symm)⟩)
  ·have hN0:bJ (GF t p g m) 0 p.nodes.length=0:=by rw [← hF,show p.nodes.length - i=0 by omega];rfl
   rw [hN0,if_neg (by omega)] at hM
   refine wv (h:=bA (fun k e H=>(e 5=.adr t.c∧e 6=.adr p.c∧e 7=.adr g.c∧e 8=.adr m.c∧e 4=.bool inj∧e 12=dI k)∧(k≤m.edges.length)∧(bJ (gL p g m) k (p.edges.length - k)=bJ (gL p g m) 0 p.edges.length)) (fun k=>m.edges.length - k) 0 ⟨wg,wi,(by rfl)⟩ fun I2 hI2 k e H hi2=>?_)
   obtain ⟨E2,hk,hE⟩:=hi2
   have Y:=wa Y E2
   refine eF (fun h11=>?_) fun h11=>?_
   ·have hn:k<p.edges.length:=by omega
    have hst:=d7 (gL p g m) hn
    rw [hE] at hst
    have hx:=hia _ (aC hn)
    have hxf:p.edges[k].from_.toNat<m.nodes.length:=by omega
    have hxt:p.edges[k].to_.toNat<m.nodes.length:=by omega
    have hEE:gL p g m k=(if m.edges[k]<0∨(g.edges.length:Int)≤m.edges[k] then 6 else if p.edges[k].type≠(g.edges[m.edges[k].toNat]?.getD bS).type then 13 else if m.nodes[p.edges[k].from_.toNat]≠(g.edges[m.edges[k].toNat]?.getD bS).from_∨m.nodes[p.edges[k].to_.toNat]≠(g.edges[m.edges[k].toNat]?.getD bS).to_ then 11 else 0):=by
     simp only [gL,aA h11,aA hn,aD,aA hxf,aA hxt]
    have Y:=wa Y (wa h11 (wa (aA h11) (wa (aA hn) (wa (aA hxf) (aA hxt)))))
    refine eF (fun h13=>?_) fun h13=>?_
    ·rw [if_pos (by omega)] at hEE
     rw [hEE,if_pos (by omega)] at hst
     rw [hst,if_pos (by omega)] at hM
     exact wv (h:=hQ _ _ (by simp [go_sem,hM]))
    ·have hkb:m.edges[k].toNat<g.edges.length:=by omega
     rw [if_neg (by omega),aA hkb,aD] at hEE
     have Y:=wa Y (aA hkb)
     refine eF (fun h16=>?_) fun h16=>?_
     ·rw [if_pos h16] at hEE
      rw [hEE,if_pos (by omega)] at hst
      rw [hst,if_pos (by omega)] at hM
      exact wv (h:=hQ _ _ (by simp [go_sem,hM]))
     ·rw [if_neg (by simpa using h16)] at hEE
      refine eF (fun h18=>?_) fun h18=>?_
      ·rw [if_pos (by omega)] at hEE
       rw [hEE,if_pos (by omega)] at hst
       rw [hst,if_pos (by omega)] at hM
       exact wv (h:=hQ _ _ (by simp [go_sem,hM]))
      ·rw [if_neg (by omega)] at hEE
       rw [hEE,if_neg (by omega)] at hst
       exact wo (h:=wx hI2 (k+1) ⟨wg,wj,(by exact hst.symm)⟩)
   ·have hE0:bJ (gL p g m) 0 p.edges.length=0:=by rw [← hE,show p.edges.length - k=0 by omega];rfl
    rw [hE0,if_neg (by omega)] at hM
    refine wo (h:=aG (fun hg=>vS m.nodes) (fun hg=>wl) ?_)
    refine wo (h:=aG (fun hg=>vS m.edges) (fun hg=>wl) ?_)
    refine eF (fun h20=>?_) fun h20=>?_
    ·rw [if_pos (by simpa [mG] using h20)] at hM
     exact wv (h:=hQ _ _ (by simp [go_sem,hM]))
    ·rw [if_neg (by simpa [mG] using h20)] at hM
     exact wv (h:=hQ _ _ (by simp [go_sem,hM]))
theorem vT (t:Types)(ht:t.ok)(p g:Graph)(m:Part)(inj:Bool):Pure Tryz.prog 148 [t.d,p.d,g.d,m.d,.bool inj] (dI (eR t p g m inj)):=by
 refine Tz.pK ⟨fun _=>false,fun _=>[]⟩ Tryz.func148 rfl (fun Q hQ=>?_)
 have Y:=trivial
 refine wv (h:=aB (vR t ht p g) wl ?_)
 refine c4 (fun h2=>?_) fun h2=>?_
 ·exact wv (h:=hQ _ _ (by simp [go_sem,eR,h2]))
 ·refine wv (h:=aB (Jv t p g (l3 (by simpa using h2)) m inj) wl ?_)
  exact wv (h:=hQ _ _ (by simp [go_sem,eR,h2]))
/-! ### the search -/
def Srch.cells (S:Srch)(most:Int)(fd:D):List D:=[.list (S.t.nodes.map NodeTy.c),.list (S.t.edges.map EdgeTy.c),dLI S.p.nodes,.list (S.p.edges.map Edge.c),dLI S.g.nodes,.list (S.g.edges.map Edge.c),dLI S.pn,dLI S.pe,.bool S.inj,dI most,fd]
theorem DL (S:Srch)(most:Int)(fd:D)(hfd:fd.cl=true)(l:List Int)(n:Int):Pure Tryz.prog 451 [.adr (S.cells most fd),dLI l,dI n] (.bool (S.inj&&mem l n)):=by
 refine Tz.pK ⟨fun _=>false,fun _=>[]⟩ Tryz.func451 rfl (fun Q hQ=>?_)
 have hcl:∀ b:Bool,D.clL (S.cells most fd)=true:=fun _=>by simp [go_sem,Srch.cells,hfd]
 have Y:=@Srch.cells.eq_1
 refine wv (h:=bA (fun i e H=>(e 0=.adr (S.cells most fd)∧e 1=dLI l∧e 2=dI n∧e 7=dI i)∧(i≤l.length)∧(∀ j,j<i→∀ hj:j<l.length,l[j]≠n)) (fun i=>l.length - i) 0 ⟨wg,wi,(by (intro j hj;omega))⟩ fun I0 hI0 i e H hi0=>?_)
 obtain ⟨E0,hi,hN⟩:=hi0
 have Y:=wa Y E0
 refine wv (h:=?_)
 repeat first|intro _|refine ⟨dR,?_⟩
 refine wq (fun h2=>?_) fun h2=>?_
 ·have hil:i<l.length:=h2.1
  have Y:=wa Y (wa h2 (aA hil))
  refine wv (h:=?_)
  repeat first|intro _|refine ⟨dR,?_⟩
  refine wq (fun h4=>?_) fun h4=>?_
  ·have hm:mem l n=true:=(c6 _ _).2 (h4 ▸ aC hil)
   have hI:S.inj=true:=h2.2
   exact wv (h:=hQ _ _ (by simp [go_sem,hm,hI]))
  ·exact wo (h:=wx hI0 (i+1) ⟨wg,wj,(by (intro j hj hjl;rcases bN j i with hji|hji;exact hN j hji hjl;(obtain rfl:j=i:=(by omega);exact h4)))⟩)
 ·have hR:(S.inj&&mem l n)=false:=by
   cases hI:S.inj
   ·rfl
   ·simp [hI] at h2
    rw [fQ,bH]
    intro hm
    obtain ⟨j,hj,he⟩:=aO ((c6 _ _).1 hm)
    exact hN j (by omega) hj he
  exact wv (h:=hQ _ _ (by simp [go_sem,hR]))
theorem Ao (a b:Int):(a==b)=decide (a=b):=by rw [aQ];simp
theorem wQ (f:Nat→Bool)(k:Nat):(List.range (k+1)).any f=((List.range k).any f||f k):=by rw [fG,zH];simp
theorem Lw (S:Srch)(hp:graphF S.p=0)(hg:graphF S.g=0)(most:Int)(fd:D)(hfd:fd.cl=true)(l:List Int):Pure Tryz.prog 449 [.adr (S.cells most fd),dLI l] (.bool (rZ S l)):=by
 have hpi:=(dP hp).2
 have hla:=bK hp
 have hlb:=bK hg
 refine Tz.pK ⟨fun t=>t==6||t==9,fun _=>[]⟩ Tryz.func449 rfl (fun Q hQ=>?_)
 have Y:=@Srch.cells.eq_1
 refine wv (h:=bA (fun i e H=>(e 0=.adr (S.cells most fd)∧e 1=dLI l∧e 5=dI i)∧(i≤S.p.edges.length)∧(∀ j,j<i→yX S l j=true)) (fun i=>S.p.edges.length - i) 0 ⟨wg,wi,(by (intro j hj;omega))⟩ fun I0 hI0 i e H hi0=>?_)
 obtain ⟨E0,hi,hK⟩:=hi0
 have Y:=wa Y E0
 refine eF (fun h2=>?_) fun h2=>?_
 ·obtain ⟨x,hx⟩:∃ x,x=S.p.edges[i]:=⟨_,rfl⟩
  have hxi:=(hpi _ (aC h2)).2
  rw [← hx] at hxi
  have hKe:yX S l i=(decide ((l.length:Int)≤x.from_)||decide ((l.length:Int)≤x.to_)||(List.range S.g.edges.length).any (wE S l i)):=by unfold yX;rw [aA h2,aD,← hx]
  have Y:=wa Y (wa h2 (wa (aA h2) (wa (Eq.symm hx) @Edge.c.eq_1)))
  refine eF (fun h5=>?_) fun h5=>?_
  ·have hKi:yX S l i=true:=by rw [hKe];rcases h5 with h|h<;>simp<;>omega
   exact wo (h:=wx hI0 (i+1) ⟨wg,wj,(by (intro j hj;rcases bN j i with hji|hji;exact hK j hji;(obtain rfl:j=i:=(by omega);exact hKi)))⟩)
  ·have hf:x.from_.toNat<l.length:=by omega
   have hft:x.to_.toNat<l.length:=by omega
   have hH:∀ k (hk:k<S.g.edges.length),wE S l i k=(decide (x.type=S.g.edges[k].type)&&(decide (S.g.edges[k].from_=l[x.from_.toNat])&&decide (S.g.edges[k].to_=l[x.to_.toNat]))):=fun k hk=>by
    simp only [wE,Sa,Pm,aA hk,aA h2,aD,← hx,aA hf,aA hft]
    simp [eq_comm (a:=x.type)]
   have Y:=wa Y (wa h5 (wa (aA hf) (aA hft)))
   refine wv (h:=bA (fun k e H=>∃ q:Nat,∃ b:Bool,(e 0=.adr (S.cells most fd)∧e 1=dLI l∧e 5=dI i∧e 6=.ptr q 1 0 0∧e 7=.bool b∧e 8=dI k)∧(H.get q=some ⟨122,3,[[dI x.type,dI x.from_,dI x.to_]],false⟩)∧(q<H.next)∧(k≤S.g.edges.length)∧(b=(List.range k).any (wE S l i))) (fun k=>S.g.edges.length - k) 0 ⟨H.next,false,wg,wn,wn,wi,(by rfl)⟩ fun I2 hI2 k e H hi2=>?_)
   obtain ⟨q,b,E2,gq_2,nq_2,hk,hb⟩:=hi2
   have Y:=wa Y (wa E2 (wa gq_2 (bZ nq_2)))
   refine eF (fun h8=>?_) fun h8=>?_
   ·have hHk:=hH k h8
    have Y:=wa Y (wa h8 (wa (aA h8) (wa hHk (wa @Ao @jT))))
    exact wo (h:=wx hI2 (k+1) ⟨q,((b||wE S l i k)),wg,wn,wn,wj,(by (rw [wQ,← hb]))⟩)
   ·refine eF (fun h12=>?_) fun h12=>?_
    ·have hR:rZ S l=false:=by
      simp only [rZ,C9,b6]
      refine ⟨i,h2,?_⟩
      rw [hKe,← show k=S.g.edges.length by omega,← hb]
      simp [h12];omega
     exact wv (h:=hQ _ _ (by simp [go_sem,hR]))
    ·have hKi:yX S l i=true:=by rw [hKe,← show k=S.g.edges.length by omega,← hb];simp [h12]
     exact wo (h:=wx hI0 (i+1) ⟨wg,wj,(by (intro j hj;rcases bN j i with hji|hji;exact hK j hji;(obtain rfl:j=i:=(by omega);exact hKi)))⟩)
 ·have hR:rZ S l=true:=by
   simp only [rZ,bX,b6]
   exact fun j hj=>hK j (by omega)
  exact wv (h:=hQ _ _ (by simp [go_sem,hR]))
structure SrS (f o:Nat) (S:Srch) (most:Nat) (out:List Part) (H:AHeap):Prop where
 bf:H.get f=some ⟨414,11,[S.cells most (.own o out.length)],false⟩
 bo:H.get o=some ⟨36,2,out.map Part.c,false⟩
 le:out.length≤most+1
@[go_sem] theorem sR (l:List Part):D.clLL (l.map Part.c)=true:=cQ _ (fun p=>by simp [Part.c,D.clL,mV]) l
theorem Jw (S:Srch)(hp:graphF S.p=0)(hg:graphF S.g=0)(hpe:S.pe.length=S.p.edges.length)(most:Nat)(hmo:most≤5000)(ns:List Int)(hns:ns.length=S.p.nodes.length)(f o:Nat)(hd:f≠o) :
  ∀ (d:Nat) (es:List Int) (out:List Part) (G:AHeap) (Q:D→AHeap→Prop),es.length+d=S.p.edges.length→f<G.next→o<G.next→SrS f o S most out G →
  (∀ H',SrS f o S most (Fm S (most+1) ns d es out) H'→(∀ j,j≠f→j≠o→j<G.next→H'.get j=G.get j)→G.next≤H'.next→Q (.tup []) H')→ACalls Tryz.prog 450 [.ptr f 1 0 0,dLI ns,dLI es] G Q:=by
 have hla:=bK hp
 have hlb:=bK hg
 have hib:∀ x∈S.p.edges,(0≤x.from_∧x.from_<S.p.nodes.length)∧(0≤x.to_∧x.to_<S.p.nodes.length):=fun x hx=>((dP hp).2 x hx).2
 intro d
 induction d using Nat.strongRecOn with
 | _ d ih =>
 intro es out G Q hk hfN hoN hF hQ
 obtain ⟨gf,go,hle⟩:=hF
 have hds:=hd.symm
 have ff:=bZ hfN
 have fo:=bZ hoN
 refine (aI (cfg:=⟨fun t=>t==7||t==9||t==35||t==38||t==128,fun r=>match r with|3=>[(2,5),(3,5),(4,5),(2,7),(3,7),(4,7),(2,8),(3,8),(4,8),(5,8),(7,8),(2,10),(3,10),(4,10),(2,12),(3,12),(4,12)]|_=>[]⟩) Tz.mixed Tryz.func450 rfl rfl (aF rfl) (by kernel_rfl) ?_)
 have Y:=wa gf (wa go (wa hd (wa hds (wa ff (wa fo (wa @Part.c.eq_1 @Srch.cells.eq_1))))))
 refine tG (fun h0=>?_) fun h0=>?_
 ·have hfull:most+1≤out.length:=by omega
  refine wv (h:=?_)
  exact hQ _ (by rw [Dp _ _ _ hfull];exact ⟨gf,go,hle⟩) (by intro j _ _ _;rfl) (by first|exact bC _|exact Nat.le_add_right _ _)
 ·have hnf:¬ most+1≤out.length:=by omega
  refine tG (fun h2=>?_) fun h2=>?_
  ·have hk0:d=0:=by omega
   subst hk0
   refine wp (h:=?_)
   exact hQ _ (by simp only [Fm];rw [if_neg hnf];exact ⟨by simp [go_sem,Y],by simp [go_sem,Y],by simp;omega⟩) (by intro j h1 h2 h3;simp [go_sem,h1,h2,bZ h3]) (by first|exact bC _|(simp [go_sem]<;>omega)|(simp only [go_sem];split<;>omega))
  ·obtain ⟨k',rfl⟩:∃ k',d=k'+1:=⟨d - 1,by omega⟩
   have hel:es.length<S.p.edges.length:=by omega
   have hpl:es.length<S.pe.length:=by omega
   have hbx:=hib _ (aC hel)
   have hf1:S.p.edges[es.length].from_.toNat<ns.length:=by omega
   have hft:S.p.edges[es.length].to_.toNat<ns.length:=by omega
   have hokE:∀ j (hj:j<S.g.edges.length),MJ S ns es j=((decide (S.pe[es.length]<0)||decide (S.pe[es.length]=(j:Int)))&&(!(S.inj&&mem es j)&&(decide (S.p.edges[es.length].type=S.g.edges[j].type)&&(decide (S.g.edges[j].from_=ns[S.p.edges[es.length].from_.toNat])&&decide (S.g.edges[j].to_=ns[S.p.edges[es.length].to_.toNat]))))):=fun j hj=>by
    simp only [MJ,wH,wE,Sa,Pm,aA hj,aA hel,aA hpl,aD,aA hf1,aA hft]
    simp [eq_comm (a:=S.p.edges[es.length].type)]
   have Y:=wa Y (wa (aA hel) (wa (aA hpl) (wa (aA hf1) (aA hft))))
   refine wp (h:=bA (fun j e H=>∃ w7:Nat,∃ ou:List Part,(e 0=.ptr f 1 0 0∧e 1=dLI ns∧e 2=dLI es∧e 6=dI es.length∧e 7=.ptr w7 1 0 0∧e 8=dI j)∧(H.get f=some ⟨414,11,[S.cells most (.own o ou.length)],false⟩)∧(f<H.next)∧(H.get o=some ⟨36,2,ou.map Part.c,false⟩)∧(o<H.next)∧(H.get w7=some ⟨122,3,[S.p.edges[es.length].c],false⟩)∧(w7<H.next)∧(w7=G.next+10)∧(j≤S.g.edges.length)∧(ou.length≤most+1)∧(ou=(List.range j).foldl (fun ou k=>if MJ S ns es k=true then Fm S (most+1) ns k' (es++[(k:Int)]) ou else ou) out)∧(∀ q,q≠f→q≠o→q<G.next→H.get q=G.get q)∧(G.next+1≤H.next)) (fun j=>S.g.edges.length - j) 0 ⟨(G.next+10),out,wg,wn,wn,wn,wn,wn,wn,(by rfl),wi,(by (exact hle)),(by rfl),(by (intro q h1 h2 h3;simp [go_sem,h1,h2,bZ h3])),(by (simp [go_sem]))⟩ fun I0 hI0 j e H hi0=>?_)
   obtain ⟨w7,ou,E0,gf_0,nf_0,go_0,no_0,gw7_0,nw7_0,hw7,hj,hou,hst,hfr,hnx⟩:=hi0
   have di1:=And.intro (cW (show w7≠o by omega)) (And.intro (cW (show w7≠f by omega)) (cW (show o≠f by omega)))
   have Y:=wa Y (wa E0 (wa gf_0 (wa (bZ nf_0) (wa go_0 (wa (bZ no_0) (wa gw7_0 (wa (bZ nw7_0) (wa @Edge.c.eq_1 di1))))))))
   refine tG (fun h6=>?_) fun h6=>?_
   ·have hEj:=hokE j h6
    have hbf:=hbx.1
    have hbt:=hbx.2
    have o1:(0≤S.pe[es.length]→S.pe[es.length]=(j:Int))→(S.inj=true→mem es (j:Int)=false)→(S.pe[es.length]<0∨S.pe[es.length]=(j:Int))∧(S.inj=false∨mem es (j:Int)=false):=fun a b=>⟨by omega,by cases hI:S.inj;exact .inl rfl;exact .inr (b hI)⟩
    have o2:(S.pe[es.length]<0∨S.pe[es.length]=(j:Int))→(S.inj=false∨mem es (j:Int)=false)→S.p.edges[es.length].type=S.g.edges[j].type→0≤S.p.edges[es.length].from_∧S.p.edges[es.length].from_<(ns.length:Int):=fun _ _ _=>by omega
    have o3:(0≤S.pe[es.length]→S.pe[es.length]=(j:Int))→(S.inj=true→mem es (j:Int)=false)→S.p.edges[es.length].type=S.g.edges[j].type→((S.pe[es.length]<0∨S.pe[es.length]=(j:Int))∧(S.inj=false∨mem es (j:Int)=false))∧S.p.edges[es.length].type=S.g.edges[j].type:=fun a b c=>⟨o1 a b,c⟩
    have o4:(S.pe[es.length]<0∨S.pe[es.length]=(j:Int))→(S.inj=false∨mem es (j:Int)=false)→S.p.edges[es.length].type=S.g.edges[j].type→S.g.edges[j].from_=ns[S.p.edges[es.length].from_.toNat]→0≤S.p.edges[es.length].to_∧S.p.edges[es.length].to_<(ns.length:Int):=fun _ _ _ _=>by omega
    have o5:(0≤S.pe[es.length]→S.pe[es.length]=(j:Int))→(S.inj=true→mem es (j:Int)=false)→S.p.edges[es.length].type=S.g.edges[j].type→S.g.edges[j].from_=ns[S.p.edges[es.length].from_.toNat]→(((S.pe[es.length]<0∨S.pe[es.length]=(j:Int))∧(S.inj=false∨mem es (j:Int)=false))∧S.p.edges[es.length].type=S.g.edges[j].type)∧S.g.edges[j].from_=ns[S.p.edges[es.length].from_.toNat]:=fun a b c d=>⟨⟨o1 a b,c⟩,d⟩
    have Y:=wa Y (wa h6 (aA h6))
    refine wp (h:=r5 (fun hg=>DL S most (.list (ou.map Part.c)) (by simp [D.cl,sR]) es j) Th (fun hg=>wl) (fun hg=> rfl) rfl Wd ?_)
    refine tG (fun h9=>?_) fun h9=>?_
    ·have hE:MJ S ns es j=false:=by
      rw [hEj,bH];intro hT;simp at hT
      obtain ⟨a,b,c,d,e⟩:=hT
      rcases h9 with (((h|h)|h)|h)|h
      ·omega
      ·rcases b with b|b
       ·rw [b] at h;cases h.1
       ·rw [b] at h;cases h.2
      ·exact h c
      ·exact h d
      ·exact h e
     obtain ⟨ou2,hou2⟩:∃ x,x=ou:=⟨_,rfl⟩
     have Y:=wa Y (wa @Part.c.eq_1 (wa @Edge.c.eq_1 hou2))
     exact wp (h:=wx hI0 (j+1) ⟨w7,ou2,wg,wn,wn,wn,wn,wn,wn,(by (exact hw7)),wj,(by (rw [hou2];first|exact hou|exact A4 _ _ _ _ _ hou|exact A4 _ _ _ _ hou)),(by (rw [dK,← hst];first|exact hou2|(rw [hou2];first|rw [if_pos hE]|rw [if_neg (by rw [hE];simp)]))),(by (first|exact hfr3|(intro q h1 h2 h3;simp [go_sem,h1,h2,bZ (show q<H.next by omega)];exact hfr q h1 h2 h3))),(by (first|omega|(simp [go_sem];omega)))⟩)
    ·have hE:MJ S ns es j=true:=by
      obtain ⟨⟨⟨⟨a,b⟩,c⟩,d⟩,e⟩:=h9
      rw [hEj];simp [c,d,e]
      exact ⟨by omega,by cases hI:S.inj;exact .inl rfl;exact .inr (b hI)⟩
     obtain ⟨ou2,hou2⟩:∃ x,x=Fm S (most+1) ns k' (es++[(j:Int)]) ou:=⟨_,rfl⟩
     have Y:=wa Y (wa @Part.c.eq_1 (wa @Edge.c.eq_1 h9))
     refine wp (h:=?_)
     refine G5 (args':=[.ptr f 1 0 0,dLI ns,dLI (es++[(j:Int)])]) (by simp [go_sem,Y,dLI]) rfl ?_
     unfold fE
     refine ih k' (by omega) (es++[(j:Int)]) ou _ _ (by simp;omega) (by simp [go_sem];omega) (by simp [go_sem];omega) ⟨by simp [go_sem,Y],by simp [go_sem,Y],hou⟩ (fun H3 hF3 hf3 hn3=>?_)
     rw [← hou2] at hF3
     obtain ⟨gf3,go3,hle3⟩:=hF3
     have gw3:=hf3 w7 (by omega) (by omega) (by simp [go_sem];omega)
     simp [go_sem,Y] at gw3
     simp [go_sem] at hn3
     have hfr3:∀ j,j≠f→j≠o→j<G.next→H3.get j=G.get j:=fun j h1 h2 h3=>by
      have e1:=bZ (show j<H.next by omega)
      rw [hf3 j h1 h2 (by simp [go_sem];omega)]
      simp [go_sem,h1,h2,e1]
      exact hfr j h1 h2 h3
     have fr2:=And.intro (bZ (show f<H3.next by omega)) (And.intro (bZ (show o<H3.next by omega)) (bZ (show w7<H3.next by omega)))
     have Y:=wa Y (wa gf3 (wa go3 (wa gw3 fr2)))
     exact wp (h:=wx hI0 (j+1) ⟨w7,ou2,wg,wn,wn,wn,wn,wn,wn,(by (exact hw7)),wj,(by (rw [hou2];first|exact hou|exact A4 _ _ _ _ _ hou|exact A4 _ _ _ _ hou)),(by (rw [dK,← hst];first|exact hou2|(rw [hou2];first|rw [if_pos hE]|rw [if_neg (by rw [hE];simp)]))),(by (first|exact hfr3|(intro q h1 h2 h3;simp [go_sem,h1,h2,bZ (show q<H.next by omega)];exact hfr q h1 h2 h3))),(by (first|omega|(simp [go_sem];omega)))⟩)
   ·have hJ:j=S.g.edges.length:=by omega
    have hOV:Fm S (most+1) ns (k'+1) es out=ou:=by simp only [Fm];rw [if_neg hnf,hst,hJ]
    refine wv (h:=?_)
    exact hQ _ (by rw [hOV];exact ⟨by assumption,by assumption,hou⟩) hfr (by omega)
theorem Ju (S:Srch)(hG:G17 S.t S.p S.g)(hpn:S.pn.length=S.p.nodes.length)(hpe:S.pe.length=S.p.edges.length)(most:Nat)(hmo:most≤5000)(f o:Nat)(hd:f≠o) :
  ∀ (d:Nat) (ns:List Int) (out:List Part) (G:AHeap) (Q:D→AHeap→Prop),ns.length+d=S.p.nodes.length→f<G.next→o<G.next→SrS f o S most out G →
  (∀ H',SrS f o S most (Ld S (most+1) d ns out) H'→(∀ j,j≠f→j≠o→j<G.next→H'.get j=G.get j)→G.next≤H'.next→Q (.tup []) H')→ACalls Tryz.prog 411 [.ptr f 1 0 0,dLI ns] G Q:=by
 have hla:=bK hG.gp
 have hlb:=bK hG.gg
 intro d
 induction d using Nat.strongRecOn with
 | _ d ih =>
 intro ns out G Q hk hfN hoN hF hQ
 obtain ⟨gf,go,hle⟩:=hF
 have hds:=hd.symm
 have ff:=bZ hfN
 have fo:=bZ hoN
 refine (aI (cfg:=⟨fun t=>t==97,fun _=>[]⟩) Tz.mixed Tryz.func411 rfl rfl (aF rfl) (by kernel_rfl) ?_)
 have Y:=wa gf (wa go (wa hd (wa hds (wa ff (wa fo (wa @Part.c.eq_1 @Srch.cells.eq_1))))))
 refine wp (h:=r5 (fun hg=>Lw S hG.gp hG.gg most (.list (out.map Part.c)) (by simp [D.cl,sR]) ns) Th (fun hg=>wl) (fun hg=> rfl) rfl Wd ?_)
 refine tG (fun h0=>?_) fun h0=>?_
 ·have hX:Ld S (most+1) d ns out=out:=by
   cases d<;>(simp only [Ld];rw [if_pos];rcases h0 with h|h;exact .inl (by omega);exact .inr (by simpa using h))
  refine wv (h:=?_)
  exact hQ _ (by rw [hX];exact ⟨gf,go,hle⟩) (by intro j _ _ _;rfl) (by first|exact bC _|exact Nat.le_add_right _ _)
 ·have hnf:¬ (most+1≤out.length∨rZ S ns=false):=by rintro (h|h);(omega);(simp [h] at h0)
  refine tG (fun h2=>?_) fun h2=>?_
  ·have hk0:d=0:=by omega
   subst hk0
   refine wv (h:=?_)
   refine KA (args':=[.ptr f 1 0 0,dLI ns,dLI []]) (by simp [go_sem,Y,dLI,NT]) ?_
   unfold fE
   refine Jw S hG.gp hG.gg hpe most hmo ns (by omega) f o hd S.p.edges.length [] out _ _ (by simp) (by first|exact hfN|exact Nat.lt_add_right _ hfN) (by first|exact hoN|exact Nat.lt_add_right _ hoN) ⟨gf,go,hle⟩ (fun H3 hF3 hf3 hn3=>?_)
   refine wv (h:=?_)
   exact hQ _ (by simp only [Ld];rw [if_neg hnf];exact hF3) (fun j h1 h2 h3=>hf3 j h1 h2 (by first|exact h3|exact Nat.lt_add_right _ h3)) (by first|exact hn3|exact dW (Nat.le_add_right _ _) hn3)
  ·obtain ⟨k',rfl⟩:∃ k',d=k'+1:=⟨d - 1,by omega⟩
   have hel:ns.length<S.p.nodes.length:=by omega
   have hpl:ns.length<S.pn.length:=by omega
   have hbp:=hG.tp _ (aC hel)
   have hokN:∀ j (hj:j<S.g.nodes.length),Gu S ns j=((decide (S.pn[ns.length]<0)||decide (S.pn[ns.length]=(j:Int)))&&(!(S.inj&&mem ns j)&&uD S.t S.p.nodes[ns.length] S.g.nodes[j])):=fun j hj=>by
    simp only [Gu,wH,aA hj,aA hel,aA hpl,aD]
   have Y:=wa Y (wa (aA hel) (aA hpl))
   refine wv (h:=bA (fun j e H=>∃ ou:List Part,(e 0=.ptr f 1 0 0∧e 1=dLI ns∧e 4=dI ns.length∧e 5=dI j)∧(H.get f=some ⟨414,11,[S.cells most (.own o ou.length)],false⟩)∧(f<H.next)∧(H.get o=some ⟨36,2,ou.map Part.c,false⟩)∧(o<H.next)∧(j≤S.g.nodes.length)∧(ou.length≤most+1)∧(ou=(List.range j).foldl (fun ou k=>if Gu S ns k=true then Ld S (most+1) k' (ns++[(k:Int)]) ou else ou) out)∧(∀ q,q≠f→q≠o→q<G.next→H.get q=G.get q)∧(G.next≤H.next)) (fun j=>S.g.nodes.length - j) 0 ⟨out,wg,wn,wn,wn,wn,wi,(by (exact hle)),(by rfl),(by (intro q h1 h2 h3;rfl)),(by (simp [go_sem]))⟩ fun I0 hI0 j e H hi0=>?_)
   obtain ⟨ou,E0,gf_0,nf_0,go_0,no_0,hj,hou,hst,hfr,hnx⟩:=hi0
   have di1:=cW (show o≠f by omega)
   have Y:=wa Y (wa E0 (wa gf_0 (wa (bZ nf_0) (wa go_0 (wa (bZ no_0) di1)))))
   refine tG (fun h5=>?_) fun h5=>?_
   ·have hEj:=hokN j h5
    have o1:(0≤S.pn[ns.length]→S.pn[ns.length]=(j:Int))→(S.inj=true→mem ns (j:Int)=false)→(S.pn[ns.length]<0∨S.pn[ns.length]=(j:Int))∧(S.inj=false∨mem ns (j:Int)=false):=fun a b=>⟨by omega,by cases hI:S.inj;exact .inl rfl;exact .inr (b hI)⟩
    have hbg:=hG.tg _ (aC h5)
    have Y:=wa Y (wa h5 (aA h5))
    refine wp (h:=r5 (fun hg=>DL S most (.list (ou.map Part.c)) (by simp [D.cl,sR]) ns j) Th (fun hg=>wl) (fun hg=> rfl) rfl Wd ?_)
    refine wp (h:=dO (fun hg=>(by have hq:=yB S.t hG.v S.g.nodes[j] S.p.nodes[ns.length] hbg.1 hbg.2 hbp.1;unfold Types.d Types.c dI at hq;exact hq)) (fun hg=>wl) ?_)
    refine tG (fun h7=>?_) fun h7=>?_
    ·have hE:Gu S ns j=false:=by
      rw [hEj,bH];intro hT;simp at hT
      obtain ⟨a,b,c⟩:=hT
      rcases h7 with (h|h)|h
      ·omega
      ·rcases b with b|b
       ·rw [b] at h;cases h.1
       ·rw [b] at h;cases h.2
      ·rw [c] at h;cases h
     obtain ⟨ou2,hou2⟩:∃ x,x=ou:=⟨_,rfl⟩
     have Y:=wa Y (wa @Part.c.eq_1 hou2)
     exact wp (h:=wx hI0 (j+1) ⟨ou2,wg,wn,wn,wn,wn,wj,(by (rw [hou2];first|exact hou|exact OL hG.gp _ _ hou)),(by (rw [dK,← hst,hou2];first|rw [if_pos hE]|rw [if_neg (by rw [hE];simp)])),(by (first|exact hfr3|exact hfr|(intro q h1 h2 h3;simp [go_sem,h1,h2,bZ (show q<H.next by omega)];exact hfr q h1 h2 h3))),(by (first|omega|(simp [go_sem];omega)))⟩)
    ·have hE:Gu S ns j=true:=by
      obtain ⟨⟨a,b⟩,c⟩:=h7
      rw [hEj];simp [c]
      exact ⟨by omega,by cases hI:S.inj;exact .inl rfl;exact .inr (b hI)⟩
     obtain ⟨ou2,hou2⟩:∃ x,x=Ld S (most+1) k' (ns++[(j:Int)]) ou:=⟨_,rfl⟩
     have Y:=wa Y (wa @Part.c.eq_1 h7)
     refine wp (h:=?_)
     refine G5 (args':=[.ptr f 1 0 0,dLI (ns++[(j:Int)])]) (by simp [go_sem,Y,dLI]) rfl ?_
     unfold fE
     refine ih k' (by omega) (ns++[(j:Int)]) ou _ _ (by simp;omega) (by simp [go_sem];omega) (by simp [go_sem];omega) ⟨by simp [go_sem,Y],by simp [go_sem,Y],hou⟩ (fun H3 hF3 hf3 hn3=>?_)
     rw [← hou2] at hF3
     obtain ⟨gf3,go3,hle3⟩:=hF3
     simp [go_sem] at hn3
     have hfr3:∀ j,j≠f→j≠o→j<G.next→H3.get j=G.get j:=fun j h1 h2 h3=>by
      have e1:=bZ (show j<H.next by omega)
      rw [hf3 j h1 h2 (by simp [go_sem];omega)]
      simp [go_sem,h1,h2,e1]
      exact hfr j h1 h2 h3
     have fr2:=And.intro (bZ (show f<H3.next by omega)) (bZ (show o<H3.next by omega))
     have Y:=wa Y (wa gf3 (wa go3 fr2))
     exact wp (h:=wx hI0 (j+1) ⟨ou2,wg,wn,wn,wn,wn,wj,(by (rw [hou2];first|exact hou|exact OL hG.gp _ _ hou)),(by (rw [dK,← hst,hou2];first|rw [if_pos hE]|rw [if_neg (by rw [hE];simp)])),(by (first|exact hfr3|exact hfr|(intro q h1 h2 h3;simp [go_sem,h1,h2,bZ (show q<H.next by omega)];exact hfr q h1 h2 h3))),(by (first|omega|(simp [go_sem];omega)))⟩)
   ·have hJ:j=S.g.nodes.length:=by omega
    have hOV:Ld S (most+1) (k'+1) ns out=ou:=by simp only [Ld];rw [if_neg hnf,hst,hJ]
    refine wv (h:=?_)
    exact hQ _ (by rw [hOV];exact ⟨by assumption,by assumption,hou⟩) hfr hnx
@[go_sem] theorem UV {n:Nat}{c:List D}(h:D.clL c=true):D.clLL (List.replicate n c)=true:=by
 induction n with
 | zero=>rfl
 | succ n ih=>simp [qS,D.clLL,h,ih]
theorem JR (l:List Part):eO (l.map Part.c)=l.map Part.c:=sU fun c hc=>by
 rw [bG] at hc;obtain ⟨x,_,rfl⟩:=hc
 simp [Part.c,jE,lR,dLI,eT]
theorem NG (S:Srch)(hG:G17 S.t S.p S.g)(hpn:S.pn.length=S.p.nodes.length)(hpe:S.pe.length=S.p.edges.length)(most:Nat)(hmo:most≤5000) :
  Pure Tryz.prog 356 [S.t.d,S.p.d,S.g.d,.agg [dLI S.pn,dLI S.pe],.bool S.inj,dI most] (.list (((wR S).take (most+1)).map Part.c)):=by
 have hRn:Ld S (most+1) S.p.nodes.length [] []=(wR S).take (most+1):=by rw [Lc hG.gp (most+1) _ _ _ (by simp)];simp [wR]
 obtain ⟨L,hL⟩:∃ L,L=(wR S).take (most+1):=⟨_,rfl⟩
 rw [← hL] at hRn ⊢
 refine vY (by first|rfl|(simp [go_sem];done)) (fun Q hQ=>(aI (cfg:=⟨fun t=>t==21,fun _=>[]⟩) Tz.mixed Tryz.func356 rfl rfl (aF rfl) (by kernel_rfl) ?_))
 have Y:=trivial
 refine wv (h:=?_)
 refine uC (.step (.refl _) 0 0 10 36 2 _ _ (by simp [go_sem];rfl) rfl rfl rfl) ?_
 simp [go_sem]
 refine KA (args':=[.ptr 0 1 0 0,dLI []]) (by simp [go_sem,dLI,NT]) ?_
 unfold fE
 refine Ju S hG hpn hpe most hmo 0 1 (by omega) S.p.nodes.length [] [] _ _ (by simp) (by simp [go_sem]) (by simp [go_sem]) ⟨by simp [go_sem,Srch.cells,Types.c,Graph.c,dLI,dI],by simp [go_sem],by simp⟩ (fun H3 hF3 hf3 hn3=>?_)
 rw [hRn] at hF3
 obtain ⟨gf3,go3,hle3⟩:=hF3
 have Y:=wa Y (wa gf3 (wa go3 @Srch.cells.eq_1))
 refine wv (h:=?_)
 exact hQ _ _ (by simp [go_sem,Y,lR,JR])
def cD (x:Term)(vs:List Int):Int:=if x.var<0 then x.add else vs[x.var.toNat]?.getD 0+x.add
def Sm (vs:List Int):Prop:=∀ v∈vs,-4000000≤v∧v≤4000000
theorem Sm.get {vs:List Int}(h:Sm vs){k:Nat}(hk:k<vs.length) : -4000000≤vs[k]∧vs[k]≤4000000:=h _ (aC hk)
def nB (x:Term)(n:Nat):Prop:=(-1≤x.var∧x.var<n)∧(-1000000≤x.add∧x.add≤1000000)
theorem oG (x:Term)(vs:List Int)(hx:nB x vs.length)(hs:Sm vs):Pure Tryz.prog 256 [.agg x.c,dLI vs] (dI (cD x vs)):=by
 have hx0:=hx
 obtain ⟨⟨a1,a2⟩,a3,a4⟩:=hx0
 refine Tz.pK ⟨fun _=>false,fun _=>[]⟩ Tryz.func256 rfl (fun Q hQ=>?_)
 have Y:=@Term.c.eq_1
 refine c4 (fun h1=>?_) fun h1=>?_
 ·exact wv (h:=hQ _ _ (by simp [go_sem,cD,h1]))
 ·have hk:x.var.toNat<vs.length:=by omega
  have hb:=hs.get hk
  have Y:=wa Y (aA hk)
  exact wo (h:=hQ _ _ (by simp [go_sem,cD,show ¬ x.var<0 by omega,aA hk]))
theorem iM (x:Term)(vs:List Int)(hx:nB x vs.length)(hs:Sm vs):Pure Tryz.prog 158 [.agg x.c,dLI vs] (.tup [dI (cD x vs),dI 0]):=by
 have hx0:=hx
 obtain ⟨⟨a1,a2⟩,a3,a4⟩:=hx0
 refine Tz.pK ⟨fun _=>false,fun _=>[]⟩ Tryz.func158 rfl (fun Q hQ=>?_)
 have Y:=@Term.c.eq_1
 refine eF (fun h1=>?_) fun h1=>?_
 ·have Y:=wa Y h1
  exact wv (h:=hQ _ _ wy)
 ·refine wv (h:=aB (oG x vs hx hs) wl ?_)
  have Y:=wa Y h1
  exact wv (h:=hQ _ _ wy)
theorem B1 (x:Term)(vs:List Int)(hx:nB x vs.length)(hs:Sm vs):Pure Tryz.prog 392 [.agg x.c,dLI vs] (.tup [dI (cD x vs),.bool true]):=by
 have hx0:=hx
 obtain ⟨⟨a1,a2⟩,a3,a4⟩:=hx0
 refine Tz.pK ⟨fun _=>false,fun _=>[]⟩ Tryz.func392 rfl (fun Q hQ=>?_)
 have Y:=@Term.c.eq_1
 refine c4 (fun h1=>?_) fun h1=>?_
 ·exact wv (h:=hQ _ _ (by simp [go_sem,cD,h1]))
 ·refine eF (fun h3=>?_) fun h3=>?_
  ·have Y:=wa Y (wa h1 h3)
   exact wv (h:=hQ _ _ wy)
  ·have hk:x.var.toNat<vs.length:=by omega
   have hb:=hs.get hk
   have Y:=wa Y (aA hk)
   exact wo (h:=hQ _ _ (by simp [go_sem,cD,aA hk];omega))
def xK (x:Test)(vs:List Int):Bool:=(decide (x.kind=1)&&decide (cD x.left vs≤cD x.right vs))||(decide (x.kind=2)&&decide (cD x.left vs=cD x.right vs))
def Fb (x:Test)(n:Nat):Prop:=(x.kind=1∨x.kind=2)∧nB x.left n∧nB x.right n
theorem JG (x:Test)(vs:List Int)(hx:Fb x vs.length)(hs:Sm vs):Pure Tryz.prog 339 [.agg x.c,dLI vs] (.bool (xK x vs)):=by
 obtain ⟨hk,hl,hr⟩:=hx
 refine Tz.pK ⟨fun _=>false,fun _=>[]⟩ Tryz.func339 rfl (fun Q hQ=>?_)
 have Y:=@Test.c.eq_1
 refine wv (h:=?_)
 refine aB (B1 x.left vs hl hs) wl ?_
 refine wv (h:=?_)
 refine aB (B1 x.right vs hr hs) wl ?_
 refine wv (h:=?_)
 repeat first|intro _|refine ⟨dR,?_⟩
 exact hQ _ _ (by simp [go_sem,xK,Ao])
def jZ (h:Host)(m:Part)(s:Slot):Int:=(h.values[(m.nodes[s.node.toNat]?.getD 0).toNat]?.getD [])[s.attr.toNat]?.getD 0
def jH (st:List Int × List Bool)(s:Slot):Bool:=decide (0≤s.term.var)&&!(st.2[s.term.var.toNat]?.getD false)
def j9 (h:Host)(m:Part)(st:List Int × List Bool)(s:Slot):List Int × List Bool :=
 if jH st s=true then (st.1.set s.term.var.toNat (jZ h m s - s.term.add),st.2.set s.term.var.toNat true) else st
def g9 (h:Host)(m:Part):List Int × List Bool→List Slot→Option (List Int × List Bool)
 | st,[]=>some st
 | st,s :: l=>if cD s.term (j9 h m st s).1=jZ h m s then g9 h m (j9 h m st s) l else none
theorem vI (h:Host)(m:Part)(s:Slot):∀ (l:List Slot) (st:List Int × List Bool),g9 h m st (l++[s])=(g9 h m st l).bind fun q=>if cD s.term (j9 h m q s).1=jZ h m s then some (j9 h m q s) else none
 | [],st=>by simp [g9]
 | a :: l,st=>by
  simp only [eL,g9]
  split
  ·exact vI h m s l _
  ·rfl
theorem BN (h:Host)(m:Part):∀ (l r:List Slot) (st:List Int × List Bool),g9 h m st l=none→g9 h m st (l++r)=none
 | [],r,st,hn=>by simp [g9] at hn
 | a :: l,r,st,hn=>by
  simp only [eL,g9] at hn ⊢
  split at hn
  ·rename_i he;rw [if_pos he];exact BN h m l r _ hn
  ·rename_i he;rw [if_neg he]
theorem qZ {h:Host}{m:Part}{l:List Slot}{i:Nat}(hi:i<l.length){st q:List Int × List Bool}(hq:g9 h m st (l.take i)=some q) :
  (cD l[i].term (j9 h m q l[i]).1=jZ h m l[i]→g9 h m st (l.take (i+1))=some (j9 h m q l[i]))∧(cD l[i].term (j9 h m q l[i]).1≠jZ h m l[i]→g9 h m st l=none):=by
 have e:l.take (i+1)=l.take i++[l[i]]:=aE hi
 refine ⟨fun h1=>?_,fun h1=>?_⟩
 ·rw [e,vI,hq];simp [h1]
 ·have hn:g9 h m st (l.take (i+1))=none:=by rw [e,vI,hq];simp [h1]
  have:=BN h m _ (l.drop (i+1)) st hn
  rw [List.take_append_drop] at this;exact this
def d8 (p:Pattern)(h:Host)(m:Part)(vs:List Int):List Int × Int :=
 match g9 h m (vs++List.replicate (p.vars.toNat - vs.length) 0,List.replicate vs.length true++List.replicate (p.vars.toNat - vs.length) false) p.slots with
 | none=>([],11)
 | some q=>if p.tests.all (fun x=>xK x q.1)=true then (q.1,0) else ([],16)
structure SmallA (x:Attr):Prop where
 lo : -1000000≤x.low
 hi:x.high≤1000000
 le:x.low≤x.high
theorem CS {x:Attr}{b:List Attr}(h:cY x b=0):SmallA x:=by
 unfold cY at h
 split at h<;>try (cases h;done)
 split at h<;>try (cases h;done)
 split at h
 ·exact absurd h (by assumption)
 ·rename_i h3
  split at h
  ·rename_i h4
   split at h
   ·rename_i h5
    have hl:x.names.length≤20:=by
     refine bE fun hc=>h3 ?_
     unfold lW;rw [if_pos (by omega)];decide
    simp at h5
    exact ⟨by omega,by omega,by omega⟩
   ·cases h
  ·split at h
   ·rename_i h5
    simp at h5
    exact ⟨by omega,by omega,by omega⟩
   ·cases h
theorem JT {t:Types}{a:Nat}(ha:a<t.nodes.length)(h:f5 t a=0):∀ k,(t.attrs a).length - t.nodes[a].attrs.length≤k→∀ hk:k<(t.attrs a).length,SmallA (t.attrs a)[k]:=by
 rw [Ai t a ha] at h
 split at h<;>try (cases h;done)
 split at h<;>try (cases h;done)
 split at h<;>try (cases h;done)
 split at h<;>try (cases h;done)
 split at h<;>try (cases h;done)
 intro k h1 hk
 have:=dZ _ _ h k h1 (by omega)
 unfold yI at this
 rw [aA hk] at this
 exact CS this
theorem KG {t:Types}(hv:(b8 t).2=0):∀ a:Nat,a<t.nodes.length→∀ x∈t.attrs a,SmallA x:=by
 have hval:=lN hv
 have hN:∀ j,j<t.nodes.length→f5 t j=0:=by
  have h:=hv
  unfold b8 at h
  split at h
  ·simp at h
  ·split at h
   ·simp at h
   ·obtain ⟨hN,_⟩:=pE _ _ h
    exact fun j hj=>hN j (by omega) (by omega)
 intro a
 induction a using Nat.strongRecOn with
 | _ a ih =>
 intro ha x hx
 have hrec:=Bx t a ha (hval.parentsOK a)
 have hpar:=hval.parent a _ (aA ha)
 obtain ⟨k,hk,rfl⟩:=aO hx
 by_cases h0:k<(t.attrs a).length - t.nodes[a].attrs.length
 ·by_cases hp:0≤t.nodes[a].parent
  ·rw [if_pos hp] at hrec
   have hl:(t.attrs a).length=(t.attrs t.nodes[a].parent.toNat).length+t.nodes[a].attrs.length:=by rw [hrec];simp
   have hkp:k<(t.attrs t.nodes[a].parent.toNat).length:=by omega
   have he:(t.attrs a)[k]=(t.attrs t.nodes[a].parent.toNat)[k]:=by
    have:(t.attrs a)[k]?=(t.attrs t.nodes[a].parent.toNat)[k]?:=by rw [hrec,aS hkp]
    rw [aA hk,aA hkp] at this
    exact Option.some.inj this
   rw [he]
   exact ih _ (by omega) (by omega) _ (aC hkp)
  ·rw [if_neg hp] at hrec
   have hl:(t.attrs a).length=t.nodes[a].attrs.length:=by rw [hrec];simp
   omega
 ·exact JT ha (hN a ha) k (by omega) hk
theorem Ha {t:Types}(hv:t.valid):∀ b:Nat,b<t.nodes.length→∀ a:Nat,mem (t.line b) (a:Int)=true→∃ r,t.attrs b=t.attrs a++r:=by
 intro b
 induction b using Nat.strongRecOn with
 | _ b ih =>
 intro hb a hm
 have hpar:=hv.parent b _ (aA hb)
 rw [wC t b hb (hv.parentsOK b),sW,b7] at hm
 rcases hm with hm|hm
 ·by_cases h0:0≤t.nodes[b].parent
  ·rw [if_pos h0] at hm
   obtain ⟨r,hr⟩:=ih t.nodes[b].parent.toNat (by omega) (by omega) a hm
   exact ⟨r++t.nodes[b].attrs,by rw [Bx t b hb (hv.parentsOK b),if_pos h0,hr,List.append_assoc]⟩
  ·rw [if_neg h0,Ak] at hm;cases hm
 ·simp at hm
  have:a=b:=by omega
  subst this
  exact ⟨[],by simp⟩
structure SOk (p:Pattern) (h:Host) (m:Part):Prop where
 vars:0≤p.vars∧p.vars≤12
 node:∀ s∈p.slots,0≤s.node∧s.node<m.nodes.length
 img:∀ k∈m.nodes,0≤k∧k<h.values.length
 attr:∀ s∈p.slots,0≤s.attr∧s.attr<(h.values[(m.nodes[s.node.toNat]?.getD 0).toNat]?.getD []).length
 small:∀ l∈h.values,∀ v∈l,-1000000≤v∧v≤1000000
 term:∀ s∈p.slots,nB s.term p.vars.toNat
 test:∀ x∈p.tests,Fb x p.vars.toNat
def jA (im keep:List Int):List Int:=((List.range im.length).filter fun (i:Nat)=>!mem keep i).map fun i=>im[i]?.getD 0
def wL (g:Graph)(me gone:List Int)(k:Nat):Bool:=!mem me k&&(mem gone (g.edges[k]?.getD bS).from_||mem gone (g.edges[k]?.getD bS).to_)
def yH (g:Graph)(me gone:List Int):List Int:=((List.range g.edges.length).filter (wL g me gone)).map fun (b:Nat)=>(b:Int)
def r4 (im keep:List Int)(i k:Nat):Bool:=decide (im[i]?.getD 0=im[k]?.getD 0)&&(!mem keep i||!mem keep k)
def kG (im keep:List Int)(i j:Nat):List (Nat × Nat):=((List.range j).filter fun b=>r4 im keep i (i+1+b)).map fun b=>(i,i+1+b)
def EG (im keep:List Int)(n:Nat):List (Nat × Nat):=(List.range n).flatMap fun i=>kG im keep i (im.length - (i+1))
def qC (im keep:List Int):List (Nat × Nat):=EG im keep im.length
def cPr (p:Nat × Nat):List D:=[dI p.1,dI p.2]
@[go_sem] theorem Sj (p:Nat × Nat):D.clL (cPr p)=true:=rfl
@[go_sem] theorem W1 (l:List (Nat × Nat)):D.clLL (l.map cPr)=true:=cQ _ Sj l
theorem Kn (im keep:List Int)(i j:Nat):kG im keep i (j+1)=kG im keep i j++(if r4 im keep i (i+1+j)=true then [(i,i+1+j)] else []):=by
 unfold kG
 rw [fG,kM,List.map_append]
 congr 1
 by_cases h:r4 im keep i (i+1+j)=true<;>simp [h]
theorem Bq (im keep:List Int)(n:Nat):EG im keep (n+1)=EG im keep n++kG im keep n (im.length - (n+1)):=by
 unfold EG;rw [fG,List.flatMap_append];simp
theorem y8 (im keep:List Int)(i j:Nat):(kG im keep i j).length≤j:=by
 unfold kG;rw [bW];exact dW (oC _ _) (by simp)
theorem s8 (im keep:List Int):∀ n,(EG im keep n).length≤n * im.length
 | 0=>by simp [EG]
 | n+1=>by
  have h1:=s8 im keep n
  have h2:=y8 im keep n (im.length - (n+1))
  rw [Bq,aV,Nat.add_mul]
  omega
theorem nQ (im keep:List Int){i:Nat}(h:i<im.length):((List.range (i+1)).filter fun (i:Nat)=>!mem keep i).map (fun i=>im[i]?.getD 0)=((List.range i).filter fun (i:Nat)=>!mem keep i).map (fun i=>im[i]?.getD 0)++(if (!mem keep i)=true then [im[i]] else []):=by
 rw [fG,kM,List.map_append]
 congr 1
 by_cases hm:(!mem keep i)=true
 ·rw [if_pos hm];simp at hm;simp [hm,h]
 ·rw [if_neg hm];simp at hm;simp [hm]
theorem Bm {im keep:List Int}{x:Int}:x∈jA im keep↔∃ i:Nat,i<im.length∧mem keep i=false∧im[i]?=some x:=by
 unfold jA
 simp only [bG,fZ,b6,cE]
 constructor
 ·rintro ⟨i,⟨h1,h2⟩,h3⟩
  rw [aA h1] at h3
  exact ⟨i,h1,h2,by rw [aA h1];exact congrArg some h3⟩
 ·rintro ⟨i,h1,h2,h3⟩
  exact ⟨i,⟨h1,h2⟩,by rw [h3];rfl⟩
def compG (l g:Graph)(keep m:Part):Int:=if dV l g m≠0 then dV l g m else subF l keep
def o8 (l g:Graph)(keep m:Part):Int :=
 if compG l g keep m≠0 then compG l g keep m
 else if 0<(qC m.nodes keep.nodes).length+(qC m.edges keep.edges).length then 15
 else if 0<(yH g m.edges (jA m.nodes keep.nodes)).length then 14 else 0
def qE (l g:Graph)(keep m:Part):Part:=if o8 l g keep m=0 then ⟨b5 (jA m.nodes keep.nodes) g.nodes.length,b5 (jA m.edges keep.edges) g.edges.length⟩ else ⟨[],[]⟩
theorem nK (l:List Int)(v:Int):Pure Tryz.prog 340 [dLI l,dI v] (.bool (mem l v)):=by
 refine Tz.pK ⟨fun _=>false,fun _=>[]⟩ Tryz.func340 rfl (fun Q hQ=>?_)
 have Y:=trivial
 refine wv (h:=bA (fun i e H=>(e 0=dLI l∧e 1=dI v∧e 5=dI i)∧(i≤l.length)∧(∀ j,j<i→l[j]?≠some v)) (fun i=>l.length - i) 0 ⟨wg,wi,(by (intro j hj;omega))⟩ fun I0 hI0 i e H hi0=>?_)
 obtain ⟨E0,hi,hne⟩:=hi0
 have Y:=wa Y E0
 refine wv (h:=?_)
 repeat first|intro _|refine ⟨dR,?_⟩
 refine wq (fun h2=>?_) fun h2=>?_
 ·have Y:=wa Y h2
  refine wv (h:=?_)
  repeat first|intro _|refine ⟨dR,?_⟩
  refine wq (fun h4=>?_) fun h4=>?_
  ·refine wv (h:=?_)
   have hm:mem l v=true:=(c6 l v).2 (h4 ▸ aC h2)
   exact hQ _ _ (by simp [go_sem,hm])
  ·exact wo (h:=wx hI0 (i+1) ⟨wg,wj,(by (exact jB hne (by rw [aA h2];simpa using h4)))⟩)
 ·refine wv (h:=?_)
  have hm:mem l v=false:=by rw [bH];intro h;obtain ⟨j,hj,he⟩:=aO ((c6 l v).1 h);exact hne j (by omega) (by rw [aA hj,he])
  exact hQ _ _ (by simp [go_sem,hm])
theorem DP (l:List Int)(n:Nat)(hn:n≤1000000):Pure Tryz.prog 253 [dI n,dLI l] (dLI (b5 l n)):=by
 refine Tz.pK ⟨fun t=>t==5,fun _=>[]⟩ Tryz.func253 rfl (fun Q hQ=>?_)
 have Y:=trivial
 refine wv (h:=bA (fun i e H=>∃ xs:List Int,(e 1=dLI l∧e 0=dI n∧e 5=.own 0 xs.length∧e 6=dI i)∧(H.get 0=some ⟨3,1,xs.map cI,false⟩)∧(0<H.next)∧(i≤n)∧(xs.length≤i)∧(xs=((List.range i).filter fun (b:Nat)=>!mem l b).map (fun (b:Nat)=>(b:Int)))) (fun i=>n - i) 0 ⟨([]),wg,wn,wn,wi,(by simp),(by rfl)⟩ fun I0 hI0 i e H hi0=>?_)
 obtain ⟨xs,E0,g0_0,n0_0,hi,hl,hx⟩:=hi0
 have Y:=wa Y (wa E0 (wa g0_0 (bZ n0_0)))
 refine c4 (fun h3=>?_) fun h3=>?_
 ·have Y:=wa Y h3
  refine wo (h:=aB (nK l i) wl ?_)
  refine eF (fun h5=>?_) fun h5=>?_
  ·have Y:=wa Y h5
   exact wo (h:=wx hI0 (i+1) ⟨(xs++(if (!mem l i)=true then [(i:Int)] else [])),wg,wn,wn,wj,(by (rw [aV];split<;>simp<;>omega)),(by (rw [cO,← hx]))⟩)
  ·have Y:=wa Y h5
   exact wo (h:=wx hI0 (i+1) ⟨(xs++(if (!mem l i)=true then [(i:Int)] else [])),wg,wn,wn,wj,(by (rw [aV];split<;>simp<;>omega)),(by (rw [cO,← hx]))⟩)
 ·exact wv (h:=hQ _ _ (by simp [go_sem,Y,b5];rw [hx,show i=n by omega];simp))
theorem yT (im keep:List Int)(hn:im.length≤1000000):Pure Tryz.prog 254 [dLI im,dLI keep] (dLI (jA im keep)):=by
 refine Tz.pK ⟨fun t=>t==5,fun _=>[]⟩ Tryz.func254 rfl (fun Q hQ=>?_)
 have Y:=trivial
 refine wv (h:=bA (fun i e H=>∃ xs:List Int,(e 0=dLI im∧e 1=dLI keep∧e 5=.own 0 xs.length∧e 6=dI i)∧(H.get 0=some ⟨3,1,xs.map cI,false⟩)∧(0<H.next)∧(i≤im.length)∧(xs.length≤i)∧(xs=((List.range i).filter fun (b:Nat)=>!mem keep b).map (fun i=>im[i]?.getD 0))) (fun i=>im.length - i) 0 ⟨([]),wg,wn,wn,wi,(by simp),(by rfl)⟩ fun I0 hI0 i e H hi0=>?_)
 obtain ⟨xs,E0,g0_0,n0_0,hi,hl,hx⟩:=hi0
 have Y:=wa Y (wa E0 (wa g0_0 (bZ n0_0)))
 refine eF (fun h3=>?_) fun h3=>?_
 ·have Y:=wa Y (wa h3 (aA h3))
  refine wo (h:=aB (nK keep i) wl ?_)
  refine eF (fun h5=>?_) fun h5=>?_
  ·have Y:=wa Y h5
   exact wo (h:=wx hI0 (i+1) ⟨(xs++(if (!mem keep i)=true then [im[i]] else [])),wg,wn,wn,wj,(by (rw [aV];split<;>simp<;>omega)),(by (rw [nQ _ _ h3,← hx]))⟩)
  ·have Y:=wa Y h5
   exact wo (h:=wx hI0 (i+1) ⟨(xs++(if (!mem keep i)=true then [im[i]] else [])),wg,wn,wn,wj,(by (rw [aV];split<;>simp<;>omega)),(by (rw [nQ _ _ h3,← hx]))⟩)
 ·refine wv (h:=?_)
  have hX:jA im keep=xs:=by rw [hx,show i=im.length by omega];rfl
  exact hQ _ _ (by simp [go_sem,Y,hX])
theorem Kp {g:Graph}{me gone:List Int}{k:Nat}(h:k<g.edges.length):wL g me gone k=(!mem me k&&(mem gone g.edges[k].from_||mem gone g.edges[k].to_)):=by
 unfold wL;rw [aA h];rfl
theorem DQ (l g:Graph)(keep m:Part)(hn:m.nodes.length≤1000000)(hg:g.edges.length≤1000000):Pure Tryz.prog 252 [l.d,g.d,keep.d,m.d] (dLI (yH g m.edges (jA m.nodes keep.nodes))):=by
 obtain ⟨go,hgo⟩:∃ go,jA m.nodes keep.nodes=go:=⟨_,rfl⟩
 refine Tz.pK ⟨fun t=>t==9,fun _=>[]⟩ Tryz.func252 rfl (fun Q hQ=>?_)
 have Y:=hgo
 refine wv (h:=aB (yT m.nodes keep.nodes hn) wl ?_)
 refine wv (h:=bA (fun k e H=>∃ xs:List Int,(e 5=.adr g.c∧e 7=.adr m.c∧e 10=dLI go∧e 9=.own 0 xs.length∧e 11=dI k)∧(H.get 0=some ⟨3,1,xs.map cI,false⟩)∧(0<H.next)∧(k≤g.edges.length)∧(xs.length≤k)∧(xs=((List.range k).filter (wL g m.edges go)).map (fun (b:Nat)=>(b:Int)))) (fun k=>g.edges.length - k) 0 ⟨([]),wg,wn,wn,wi,(by simp),(by rfl)⟩ fun I0 hI0 k e H hi0=>?_)
 obtain ⟨xs,E0,g0_0,n0_0,hi,hl,hx⟩:=hi0
 have Y:=wa Y (wa E0 (wa g0_0 (bZ n0_0)))
 refine eF (fun h4=>?_) fun h4=>?_
 ·have hdb:=Kp (me:=m.edges) (gone:=go) h4
  have c1:=nK go g.edges[k].from_
  have c2:=nK go g.edges[k].to_
  have Y:=wa Y (wa h4 (wa (aA h4) hdb))
  refine wo (h:=aB (nK m.edges k) wl ?_)
  refine wo (h:=aG (fun hg=>c1) (fun hg=>wl) ?_)
  refine wo (h:=aG (fun hg=>c2) (fun hg=>wl) ?_)
  refine eF (fun h6=>?_) fun h6=>?_
  ·have Y:=wa Y h6
   exact wo (h:=wx hI0 (k+1) ⟨(xs++(if wL g m.edges go k=true then [(k:Int)] else [])),wg,wn,wn,wj,(by (rw [aV];split<;>simp<;>omega)),(by (rw [cO,← hx]))⟩)
  ·have Y:=wa Y h6
   exact wo (h:=wx hI0 (k+1) ⟨(xs++(if wL g m.edges go k=true then [(k:Int)] else [])),wg,wn,wn,wj,(by (rw [aV];split<;>simp<;>omega)),(by (rw [cO,← hx]))⟩)
 ·refine wv (h:=?_)
  have hX:yH g m.edges go=xs:=by rw [hx,show k=g.edges.length by omega];rfl
  exact hQ _ _ (by simp [go_sem,Y,hX])
theorem Jz (l g:Graph)(keep m:Part)(hk:keep.nodes.length≤1000000):Pure Tryz.prog 250 [l.d,g.d,keep.d,m.d] (dI (compG l g keep m)):=by
 refine Tz.pK ⟨fun _=>false,fun _=>[]⟩ Tryz.func250 rfl (fun Q hQ=>?_)
 have Y:=trivial
 refine wv (h:=aB (rA l g m) wl ?_)
 refine c4 (fun h2=>?_) fun h2=>?_
 ·have Y:=wa Y (wa h2 @compG.eq_1)
  exact wv (h:=hQ _ _ wy)
 ·refine wv (h:=aB (vV l keep) wl ?_)
  have Y:=wa Y (wa h2 @compG.eq_1)
  exact wv (h:=hQ _ _ wy)
structure Mat where
 m:Part
 vars:List Int
def Mat.c (x:Mat):List D:=[dLI x.m.nodes,dLI x.m.edges,dLI x.vars]
def Mat.d (x:Mat):D:=.agg x.c
@[go_sem] theorem Mat.cl (x:Mat):D.clL x.c=true:=by simp [Mat.c,D.clL,mV]
@[go_sem] theorem VL (l:List Mat):D.clLL (l.map Mat.c)=true:=cQ _ Mat.cl l
def EI (l:List Part):List Part × Int:=if 5000<(l.take 5001).length then ([],3) else (l.take 5001,0)
def oQ (t:Types)(p g:Graph)(inj:Bool):List Part × Int:=if eP t p g≠0 then ([],eP t p g) else EI (wR ⟨t,p,g,List.replicate p.nodes.length (-1),List.replicate p.edges.length (-1),inj⟩)
def Ag (n:Int)(l:List Int)(i:Nat):Int:=if l[i]?.getD 0 < -1∨n≤l[i]?.getD 0 then 6 else 0
def lG (l:List Int)(n:Int):Int:=bJ (Ag n l) 0 l.length
def lK (t:Types)(p g:Graph)(q:Part)(inj:Bool):List Part × Int :=
 if eP t p g≠0 then ([],eP t p g)
 else if q.nodes.length≠p.nodes.length∨q.edges.length≠p.edges.length then ([],20)
 else if lG q.nodes g.nodes.length≠0 then ([],lG q.nodes g.nodes.length)
 else if lG q.edges g.edges.length≠0 then ([],lG q.edges g.edges.length)
 else EI (wR ⟨t,p,g,q.nodes,q.edges,inj⟩)
def vZ (n:Nat)(at_ im:List Int):List Int:=(List.range at_.length).foldl (fun acc i=>acc.set (at_[i]?.getD 0).toNat (im[i]?.getD 0)) (List.replicate n (-1))
def mP (c:Part)(q:Pattern)(m:Part):Part:=⟨vZ q.graph.nodes.length c.nodes m.nodes,vZ q.graph.edges.length c.edges m.edges⟩
def sE (q:Pattern)(h:Host)(vars:List Int)(l:List Part):List Mat:=l.filterMap fun x=>if (d8 q h x vars).2=0 then some ⟨x,(d8 q h x vars).1⟩ else none
def u5 (t:Types)(c:Part)(q:Pattern)(h:Host)(m:Mat)(inj:Bool):List Mat × Int :=
 if (lK t q.graph h.graph (mP c q m.m) inj).2≠0 then ([],(lK t q.graph h.graph (mP c q m.m) inj).2)
 else (sE q h m.vars (lK t q.graph h.graph (mP c q m.m) inj).1,0)
/-! ### conditions: the first witness -/
inductive Prf where
 | mk (choice:Int) (m:Mat) (kids:List Prf)
mutual
def Prf.c:Prf→List D
 | .mk ch m l=>[dI ch,dLI m.m.nodes,dLI m.m.edges,dLI m.vars,.list (Prf.cs l)]
def Prf.cs:List Prf→List (List D)
 | []=>[]
 | p :: l=>p.c :: Prf.cs l
end
theorem Prf.cs_eq (l:List Prf):Prf.cs l=l.map Prf.c:=by
 induction l with
 | nil=>simp [Prf.cs]
 | cons a l ih=>simp [Prf.cs,ih]
theorem Prf.c_eq (ch:Int)(m:Mat)(l:List Prf):(Prf.mk ch m l).c=[dI ch,dLI m.m.nodes,dLI m.m.edges,dLI m.vars,.list (l.map Prf.c)]:=by simp [Prf.c,Prf.cs_eq]
mutual
theorem Prf.cl:∀ x:Prf,D.clL x.c=true
 | .mk ch m l=>by
  have:=Prf.cls l
  simp [Prf.c,D.clL,D.cl,dI,mV,this]
theorem Prf.cls:∀ l:List Prf,D.clLL (Prf.cs l)=true
 | []=>by simp [Prf.cs,D.clLL]
 | c :: l=>by simp [Prf.cs,D.clLL,Prf.cl c,Prf.cls l]
end
attribute [go_sem] Prf.cl
@[go_sem] theorem Vv (l:List Prf):D.clLL (l.map Prf.c)=true:=by rw [← Prf.cs_eq];exact Prf.cls l
mutual
theorem Su:∀ x:Prf,jE x.c=x.c
 | .mk ch m l=>by
  have:=Ix l
  simp [Prf.c,jE,lR,dI,dLI,eT,this]
theorem Ix:∀ l:List Prf,eO (Prf.cs l)=Prf.cs l
 | []=>by simp [Prf.cs,eO]
 | c :: l=>by simp [Prf.cs,eO,Su c,Ix l]
end
theorem e8 (l:List Prf):eO (l.map Prf.c)=l.map Prf.c:=by rw [← Prf.cs_eq];exact Ix l
def iB:Mat:=⟨⟨[],[]⟩,[]⟩
def iN:Prf:=.mk 0 iB []
def Qi (e:Int):Int:=if e=0 then 10 else if e=10 then 0 else e
def Iq:List (Prf × Int)→List Prf→Prf × Int
 | [],acc=>(.mk 0 iB acc,0)
 | (p,e) :: l,acc=>if e≠0 then (iN,e) else Iq l (acc++[p])
def Qe:List (Prf × Int)→Nat→Prf × Int
 | [],_=>(iN,10)
 | (p,e) :: l,i=>if e≠10 then (.mk i iB [p],e) else Qe l (i+1)
def Qw:List (Mat × (Prf × Int))→Prf × Int
 | []=>(iN,10)
 | (m,(p,e)) :: l=>if e≠10 then (.mk 0 m [p],e) else Qw l
def Kd (fs:List (Mat→Prf × Int)):Mat→Prf × Int:=fs.head?.getD fun _=>(iN,0)
mutual
def mF (t:Types)(h:Host)(inj:Bool):Cond→Mat→Prf × Int
 | .mk k l mp q=>fun m =>
  if k=2 then (iN,Qi (Kd (BI t h inj l) m).2)
  else if k=3 then Iq ((BI t h inj l).map fun f=>f m) []
  else if k=4 then Qe ((BI t h inj l).map fun f=>f m) 0
  else if k=5 then (if (u5 t mp q h m inj).2≠0 then (iN,(u5 t mp q h m inj).2) else Qw ((u5 t mp q h m inj).1.map fun x=>(x,Kd (BI t h inj l) x)))
  else (iN,0)
def BI (t:Types)(h:Host)(inj:Bool):List Cond→List (Mat→Prf × Int)
 | []=>[]
 | c :: l=>mF t h inj c :: BI t h inj l
end
theorem OC (t:Types)(h:Host)(inj:Bool)(l:List Cond):BI t h inj l=l.map (mF t h inj):=by
 induction l with
 | nil=>simp [BI]
 | cons a l ih=>simp [BI,ih]
theorem Hh (t:Types)(h:Host)(inj:Bool)(c:Cond)(m:Mat):mF t h inj c m =
  if c.kind=2 then (iN,Qi (Kd (c.kids.map (mF t h inj)) m).2)
  else if c.kind=3 then Iq (c.kids.map fun k=>mF t h inj k m) []
  else if c.kind=4 then Qe (c.kids.map fun k=>mF t h inj k m) 0
  else if c.kind=5 then (if (u5 t c.map c.pattern h m inj).2≠0 then (iN,(u5 t c.map c.pattern h m inj).2) else Qw ((u5 t c.map c.pattern h m inj).1.map fun x=>(x,Kd (c.kids.map (mF t h inj)) x)))
  else (iN,0):=by
 cases c;simp only [mF,OC,Cond.kind,Cond.kids,Cond.map,Cond.pattern,List.map_map];rfl
def OD (t:Types)(h:Host)(inj:Bool)(c:Cond)(m:Mat):Int:=(mF t h inj c m).2
def lP (t:Types)(h:Host)(inj:Bool)(c:Cond)(m:Mat):Bool × Int:=if OD t h inj c m=10 then (false,0) else (decide (OD t h inj c m=0),OD t h inj c m)
/-! ### a step -/
def dD (t:Types)(p:Pattern)(h:Host)(m:Part):List Int × Int :=
 if bV t p≠0 then ([],bV t p) else if fW t h≠0 then ([],fW t h) else if eR t p.graph h.graph m false≠0 then ([],eR t p.graph h.graph m false) else d8 p h m []
def g7 (t:Types)(p:Pattern)(h:Host)(inj:Bool):List Mat × Int :=
 if bV t p≠0 then ([],bV t p) else if fW t h≠0 then ([],fW t h)
 else if (oQ t p.graph h.graph inj).2≠0 then ([],(oQ t p.graph h.graph inj).2) else (sE p h [] (oQ t p.graph h.graph inj).1,0)
def oL (p g:Graph)(m:Part):Graph:=⟨m.nodes.map (gN g),p.edges⟩
def oT (t:Types)(r:Rule)(h:Host)(m:Mat):Int :=
 if eR t r.left.graph h.graph m.m r.inj≠0 then 1
 else if (dD t r.left h m.m).2≠0 then (dD t r.left h m.m).2
 else if (dD t r.left h m.m).1≠m.vars then 11
 else o8 (oL r.left.graph h.graph m.m) h.graph r.keep m.m
def jW (t:Types)(r:Rule)(h:Host)(m:Mat):Int :=
 if oT t r h m≠0 then oT t r h m
 else if (lP t h r.inj r.cond m).2≠0 then (lP t h r.inj r.cond m).2
 else if (lP t h r.inj r.cond m).1=false then 16 else 0
def b4 (r:Rule)(h:Host)(m:Mat):Part:=qE (oL r.left.graph h.graph m.m) h.graph r.keep m.m
def gF (l:List Int)(n:Nat)(v:Int):Int:=(List.range n).foldl (fun acc (k:Nat)=>if l[k]?.getD (-1)=v then (k:Int) else acc) (-1)
def jR (l:List Int)(n:Nat):List Int:=(List.range n).map fun (v:Nat)=>gF l l.length v
def yU (into:List Int)(i:Nat):Nat:=((List.range i).filter fun (j:Nat)=>decide (gF into into.length j<0)).length
def G0 (keep into at_:List Int)(remain:Nat)(i:Nat):Int:=if 0≤gF into into.length i then at_[(keep[(gF into into.length i).toNat]?.getD 0).toNat]?.getD 0 else ((remain+yU into i:Nat):Int)
def CQ (keep into at_:List Int)(right remain:Nat):List Int:=(List.range right).map (G0 keep into at_ remain)
def pV (d:List Int)(n:Nat):List Int:=jR d n
def lU (r:Rule)(h:Host)(m:Mat):Part:=⟨pV (b4 r h m).nodes h.graph.nodes.length,pV (b4 r h m).edges h.graph.edges.length⟩
def nD (l tr:List Int):List Int:=l.map fun k=>tr[k.toNat]?.getD 0
def nU (r:Rule)(h:Host)(m:Mat):Part :=
 ⟨CQ r.keep.nodes r.into.nodes (nD m.m.nodes (lU r h m).nodes) r.right.graph.nodes.length (b4 r h m).nodes.length,CQ r.keep.edges r.into.edges (nD m.m.edges (lU r h m).edges) r.right.graph.edges.length (b4 r h m).edges.length⟩
def lY (t:Types)(k:Int):List Int:=(bI t k).map fun a=>a.low
def freshE (c:Part)(y:Edge):Edge:=⟨y.type,c.nodes[y.from_.toNat]?.getD 0,c.nodes[y.to_.toNat]?.getD 0⟩
def iO (t:Types)(r:Rule)(c:Part)(x:Host):Host :=
 ⟨⟨x.graph.nodes++r.freshN.map (gN r.right.graph),x.graph.edges++r.freshE.map (fun k=>freshE c (r.right.graph.edges[k.toNat]?.getD bS))⟩,x.values++r.freshN.map (fun k=>lY t (gN r.right.graph k))⟩
def cJ (t:Types)(r:Rule)(h:Host)(m:Mat):Host:=iO t r (nU r h m) ⟨bY h.graph (b4 r h m),(b4 r h m).nodes.map fun k=>h.values[k.toNat]?.getD []⟩
def eU (c:Part)(s:Slot):Nat:=(c.nodes[s.node.toNat]?.getD 0).toNat
def Bu (c:Part)(vs:List Int)(a b:Slot):Bool:=decide (eU c a=eU c b)&&(decide (a.attr=b.attr)&&decide (cD a.term vs≠cD b.term vs))
def uB (c:Part)(vs:List Int)(l:List Slot):Bool:=(List.range l.length).any fun i=>(List.range i).any fun k=>match l[k]?,l[i]? with|some a,some b=>Bu c vs a b|_,_=>false
def v6 (t:Types)(g:Graph)(c:Part)(vs:List Int)(s:Slot):Bool :=
 let a:=(bI t (g.nodes[eU c s]?.getD 0))[s.attr.toNat]?.getD mH
 decide (cD s.term vs<a.low)||decide (a.high<cD s.term vs)
def rY (t:Types)(g:Graph)(c:Part)(vs:List Int)(l:List Slot):Int:=if uB c vs l=true then 11 else if l.any (v6 t g c vs)=true then 6 else 0
def rX (c:Part)(vs:List Int)(l:List Slot)(vals:List (List Int)):List (List Int):=l.foldl (fun vals s=>vals.set (eU c s) ((vals[eU c s]?.getD []).set s.attr.toNat (cD s.term vs))) vals
def uF (t:Types)(r:Rule)(h:Host)(m:Mat):Host:=⟨(cJ t r h m).graph,rX (nU r h m) m.vars r.right.slots (cJ t r h m).values⟩
def gP (t:Types)(r:Rule)(h:Host)(m:Mat):Int :=
 if jW t r h m≠0 then jW t r h m
 else if rY t (cJ t r h m).graph (nU r h m) m.vars r.right.slots≠0 then rY t (cJ t r h m).graph (nU r h m) m.vars r.right.slots
 else if 40<(cJ t r h m).graph.nodes.length∨80<(cJ t r h m).graph.edges.length then 3 else 0
structure Stp26 where
 rule:Rule
 mat:Mat
 before:Host
 after:Host
 track:Part
 comatch:Part
def Stp26.c (s:Stp26):List D:=s.rule.c++s.mat.c++s.before.c++s.after.c++[dLI s.track.nodes,dLI s.track.edges,dLI s.comatch.nodes,dLI s.comatch.edges]
def fC (t:Types)(r:Rule)(h:Host):Int:=if ruleF t r≠0 then ruleF t r else fW t h
def qL (t:Types)(r:Rule)(h:Host)(m:Mat):Int:=if fC t r h≠0 then fC t r h else gP t r h m
def yQ (t:Types)(r:Rule)(h:Host)(m:Mat):Stp26:=⟨r,m,h,uF t r h m,lU r h m,nU r h m⟩
def EY (t:Types)(r:Rule)(h:Host):List Mat × Int :=
 if fC t r h≠0 then ([],fC t r h) else if (g7 t r.left h r.inj).2≠0 then ([],(g7 t r.left h r.inj).2) else ((g7 t r.left h r.inj).1.filter fun m=>decide (gP t r h m=0),0)
end Go.Abs
end
