/- Layer 6: morphisms. · Layers 6 (the reference) and 7: morphi -/
import Derived.Test.YtjfaalokjnmdoaaGreatZaF
import Derived.Test.YtjfaalokjnmdoaaGreatZaI
import Derived.Test.YtjfaalokjnmdoaaGreatZaA
set_option linter.unusedVariables false
set_option linter.unusedSimpArgs false
section
set_option maxRecDepth 100000
set_option maxHeartbeats 4000000
open Go Go.Proofs
namespace Go.Abs
theorem Mi (xs:List Int):(nB xs).Pairwise (·≤·):=by
 have:=List.pairwise_mergeSort (le:=fun (x y:Int)=>decide (x≤y)) (fun a b c h1 h2=>by simp at *;omega) (fun a b=>by simp;omega) xs
 exact this.imp fun h=>by simpa using h
theorem BJ (xs:List Int):imagesN xs=xs.length↔xs.Nodup:=by
 have hp:(nB xs).Perm xs:=List.mergeSort_perm xs _
 rw [← hp.nodup_iff,← kI xs]
 unfold imagesN Lib.compact Lib.compactUpTo
 rw [bW]
 have hpw:=dX.1 (Mi xs)
 generalize nB xs=s at *
 have key:(List.filter (Lib.keeps s.toArray) (List.range s.length)).length=s.length↔∀ j,j<s.length→Lib.keeps s.toArray j=true:=by
  have:=List.length_filter_eq_length_iff (p:=Lib.keeps s.toArray) (l:=List.range s.length)
  rw [List.length_range] at this
  rw [this];simp
 rw [key]
 have hk:∀ j (hj:j<s.length),Lib.keeps s.toArray j=true↔(j=0∨s[j]≠s[j - 1]'(by omega)):=fun j hj=>by
  simp only [Lib.keeps,decide_eq_true_eq]
  rw [getElem!_pos _ j (by simpa using hj),getElem!_pos _ (j - 1) (by simp;omega)]
  simp
 constructor
 ·intro h
  rw [List.nodup_iff_pairwise_ne,dX]
  intro i j hi hj hij
  rcases (hk j hj).1 (h j hj) with h0|h0
  ·omega
  ·have h1:=hpw (j - 1) j (by omega) hj (by omega)
   by_cases hij':i=j - 1
   ·subst hij';omega
   ·have h2:=hpw i (j - 1) hi (by omega) (by omega)
    omega
 ·intro h j hj
  rw [hk j hj]
  by_cases h0:j=0
  ·exact .inl h0
  ·right
   intro he
   have:=(qG h).1 he
   omega
def bQ:Edge:=⟨0,0,0⟩
def jE (a b:Graph)(m:Part)(i:Nat):Int :=
 if m.nodes[i]?.getD 0<0∨(b.nodes.length:Int)≤m.nodes[i]?.getD 0 then 6
 else if b.nodes[(m.nodes[i]?.getD 0).toNat]?.getD 0≠a.nodes[i]?.getD 0 then 13 else 0
def gB (a b:Graph)(m:Part)(i:Nat):Int :=
 if m.edges[i]?.getD 0<0∨(b.edges.length:Int)≤m.edges[i]?.getD 0 then 6
 else if (a.edges[i]?.getD bQ).type≠(b.edges[(m.edges[i]?.getD 0).toNat]?.getD bQ).type then 13
 else if m.nodes[(a.edges[i]?.getD bQ).from_.toNat]?.getD 0≠(b.edges[(m.edges[i]?.getD 0).toNat]?.getD bQ).from_∨m.nodes[(a.edges[i]?.getD bQ).to_.toNat]?.getD 0≠(b.edges[(m.edges[i]?.getD 0).toNat]?.getD bQ).to_ then 11 else 0
def dS (a b:Graph)(m:Part):Int :=
 if graphF a≠0 then graphF a
 else if graphF b≠0 then graphF b
 else if m.nodes.length≠a.nodes.length∨m.edges.length≠a.edges.length then 20
 else if bI (jE a b m) 0 a.nodes.length≠0 then bI (jE a b m) 0 a.nodes.length
 else bI (gB a b m) 0 a.edges.length
theorem mL (a b:Graph)(m:Part):Pure Tryz.prog 310 [a.d,b.d,m.d] (dI (dS a b m)):=by
 refine Tz.pK ⟨fun t=>t==13||t==14,fun r=>match r with|22=>[(0,10),(1,10),(3,10),(4,10),(5,10),(6,10),(8,10),(9,10),(0,11),(1,11),(3,11),(4,11),(5,11),(6,11),(8,11),(9,11),(10,11),(5,12),(6,12),(8,12),(9,12)]|_=>[]⟩ Tryz.func310 rfl (fun Q hQ=>?_)
 have Y:=trivial
 refine wv (h:=aB (kM a) wl ?_)
 refine cT (fun h2=>?_) fun h2=>?_
 ·exact wv (h:=hQ _ _ (.inl (by simp [go_sem,dS,h2])))
 ·refine wv (h:=aB (kM b) wl ?_)
  refine cT (fun h5=>?_) fun h5=>?_
  ·exact wv (h:=hQ _ _ (.inl (by simp [go_sem,dS,h2,h5])))
  ·refine dV (fun h7=>?_) fun h7=>?_
   ·exact wv (h:=hQ _ _ (.inl (by simp [go_sem,dS,h2,h5,show m.nodes.length≠a.nodes.length∨m.edges.length≠a.edges.length by omega])))
   ·have hM:dS a b m=(if bI (jE a b m) 0 a.nodes.length≠0 then bI (jE a b m) 0 a.nodes.length else bI (gB a b m) 0 a.edges.length):=by
     unfold dS;rw [if_neg (by simp [h2]),if_neg (by simp [h5]),if_neg (by omega)]
    have hga:=bJ h2
    have hgb:=bJ h5
    have hia:=(dF h2).2
    refine wo (h:=bB (fun i e H=>(e 3=.adr a.c∧e 4=.adr b.c∧e 5=.adr m.c∧e 42=dLI m.nodes∧e 43=dI m.nodes.length∧e 44=dI i)∧(i≤m.nodes.length)∧(bI (jE a b m) i (a.nodes.length - i)=bI (jE a b m) 0 a.nodes.length)) (fun i=>m.nodes.length - i) 0 ⟨wg,wi,(by rfl)⟩ fun I0 hI0 i e H hi0=>?_)
    obtain ⟨E0,hi,hF⟩:=hi0
    have Y:=wa Y E0
    refine cT (fun h10=>?_) fun h10=>?_
    ·have hn:i<a.nodes.length:=by omega
     have hst:=dQ (jE a b m) hn
     rw [hF] at hst
     have hNE:jE a b m i=(if m.nodes[i]<0∨(b.nodes.length:Int)≤m.nodes[i] then 6 else if b.nodes[m.nodes[i].toNat]?.getD 0≠a.nodes[i] then 13 else 0):=by simp only [jE,aA h10,aA hn,aD]
     have Y:=wa Y (wa h10 hn)
     refine dV (fun h12=>?_) fun h12=>?_
     ·rw [if_pos (by omega)] at hNE
      rw [hNE,if_pos (by omega)] at hst
      exact wv (h:=hQ _ _ (.inl (by simp [go_sem,hM,hst])))
     ·have hkb:m.nodes[i].toNat<b.nodes.length:=by omega
      rw [if_neg (by omega),aA hkb,aD] at hNE
      have Y:=wa Y (aA hkb)
      refine dV (fun h14=>?_) fun h14=>?_
      ·rw [if_pos h14] at hNE
       rw [hNE,if_pos (by omega)] at hst
       exact wv (h:=hQ _ _ (.inl (by simp [go_sem,hM,hst])))
      ·rw [if_neg (by simpa using h14)] at hNE
       rw [hNE,if_neg (by omega)] at hst
       exact wo (h:=wx hI0 (i+1) ⟨wg,wj,(by exact hst.symm)⟩)
    ·have hN0:bI (jE a b m) 0 a.nodes.length=0:=by rw [← hF,show a.nodes.length - i=0 by omega];rfl
     rw [hN0,if_neg (by omega)] at hM
     refine wo (h:=bB (fun k e H=>(e 3=.adr a.c∧e 4=.adr b.c∧e 5=.adr m.c∧e 71=dLI m.edges∧e 72=dI m.edges.length∧e 73=dI k)∧(k≤m.edges.length)∧(bI (gB a b m) k (a.edges.length - k)=dS a b m)) (fun k=>m.edges.length - k) 0 ⟨wg,wi,(by (exact hM.symm))⟩ fun I2 hI2 k e H hi2=>?_)
     obtain ⟨E2,hk,hE⟩:=hi2
     have Y:=wa Y E2
     refine cT (fun h18=>?_) fun h18=>?_
     ·have hn:k<a.edges.length:=by omega
      have hst:=dQ (gB a b m) hn
      rw [hE] at hst
      have hx:=hia _ (aC hn)
      have hxf:a.edges[k].from_.toNat<m.nodes.length:=by omega
      have hxt:a.edges[k].to_.toNat<m.nodes.length:=by omega
      have hEE:gB a b m k=(if m.edges[k]<0∨(b.edges.length:Int)≤m.edges[k] then 6 else if a.edges[k].type≠(b.edges[m.edges[k].toNat]?.getD bQ).type then 13 else if m.nodes[a.edges[k].from_.toNat]≠(b.edges[m.edges[k].toNat]?.getD bQ).from_∨m.nodes[a.edges[k].to_.toNat]≠(b.edges[m.edges[k].toNat]?.getD bQ).to_ then 11 else 0):=by
       simp only [gB,aA h18,aA hn,aD,aA hxf,aA hxt]
      have Y:=wa Y (wa h18 (wa hn (wa (aA hxf) (aA hxt))))
      refine dV (fun h20=>?_) fun h20=>?_
      ·rw [if_pos (by omega)] at hEE
       rw [hEE,if_pos (by omega)] at hst
       exact wv (h:=hQ _ _ (.inl (by simp [go_sem,← hst])))
      ·have hkb:m.edges[k].toNat<b.edges.length:=by omega
       rw [if_neg (by omega),aA hkb,aD] at hEE
       have Y:=wa Y (aA hkb)
       refine dV (fun h23=>?_) fun h23=>?_
       ·rw [if_pos h23] at hEE
        rw [hEE,if_pos (by omega)] at hst
        exact wv (h:=hQ _ _ (.inl (by simp [go_sem,← hst])))
       ·rw [if_neg (by simpa using h23)] at hEE
        refine dV (fun h25=>?_) fun h25=>?_
        ·rw [if_pos (by omega)] at hEE
         rw [hEE,if_pos (by omega)] at hst
         exact wv (h:=hQ _ _ (.inl (by simp [go_sem,← hst])))
        ·rw [if_neg (by omega)] at hEE
         rw [hEE,if_neg (by omega)] at hst
         exact wo (h:=wx hI2 (k+1) ⟨wg,wj,(by exact hst.symm)⟩)
     ·exact wv (h:=hQ _ _ (.inl (by rw [← hE,show a.edges.length - k=0 by omega];rfl)))
def ET (a b:Graph)(m:Part):Bool:=decide (dS a b m=0)&&(decide m.nodes.Nodup&&decide m.edges.Nodup)
theorem lR {a b:Graph}{m:Part}(h:dS a b m=0):graphF a=0∧graphF b=0∧m.nodes.length=a.nodes.length∧m.edges.length=a.edges.length:=by
 unfold dS at h
 split at h
 ·rename_i h1;exact absurd h h1
 ·rename_i h1
  split at h
  ·rename_i h2;exact absurd h h2
  ·rename_i h2
   split at h
   ·cases h
   ·omega
theorem FX (xs:List Int):((imagesN xs:Int)==(xs.length:Int))=decide xs.Nodup:=by
 rw [aV]
 simp only [beq_iff_eq,decide_eq_true_eq]
 rw [← BJ]
 omega
theorem pU (a b:Graph)(m:Part)(h1:m.nodes.length≤1000000)(h2:m.edges.length≤1000000):Pure Tryz.prog 311 [a.d,b.d,m.d] (.bool (ET a b m)):=by
 refine Tz.pK ⟨fun _=>false,fun _=>[]⟩ Tryz.func311 rfl (fun Q hQ=>?_)
 have Y:=@FX
 refine wo (h:=aI (mL a b m) wl ?_)
 refine wo (h:=eK (fun hg=>t8 m.nodes h1) (fun hg=>wl) ?_)
 refine wo (h:=eK (fun hg=>t8 m.edges h2) (fun hg=>wl) ?_)
 exact wo (h:=hQ _ _ (by simp [go_sem,ET,FX,uR]))
theorem qX (a b:Graph)(m:Part):Pure Tryz.prog 299 [a.d,b.d,m.d] (dI (dS a b m)):=by
 refine Tz.pK ⟨fun t=>t==11||t==12,fun r=>match r with|21=>[(0,14),(1,14),(3,14),(4,14),(5,14),(6,14),(7,14),(8,14),(10,14),(11,14),(12,14),(13,14),(0,15),(1,15),(3,15),(4,15),(5,15),(6,15),(7,15),(8,15),(10,15),(11,15),(12,15),(13,15),(14,15),(5,16),(6,16),(7,16),(8,16),(10,16),(11,16),(12,16),(13,16)]|_=>[]⟩ Tryz.func299 rfl (fun Q hQ=>?_)
 have Y:=trivial
 refine wv (h:=?_)
 refine aB (jJ a) wl ?_
 refine wv (h:=?_)
 refine wq (fun h2=>?_) fun h2=>?_
 ·refine wv (h:=?_)
  exact hQ _ _ (.inl (by simp [go_sem,dS,h2]))
 ·refine wv (h:=?_)
  refine aB (jJ b) wl ?_
  refine wv (h:=?_)
  refine wq (fun h5=>?_) fun h5=>?_
  ·refine wv (h:=?_)
   exact hQ _ _ (.inl (by simp [go_sem,dS,h2,h5]))
  ·refine wv (h:=?_)
   repeat first|intro _|refine ⟨eP,?_⟩
   refine wq (fun h7=>?_) fun h7=>?_
   ·refine wv (h:=?_)
    exact hQ _ _ (.inl (by simp [go_sem,dS,h2,h5,show m.nodes.length≠a.nodes.length∨m.edges.length≠a.edges.length by omega]))
   ·have hM:dS a b m=(if bI (jE a b m) 0 a.nodes.length≠0 then bI (jE a b m) 0 a.nodes.length else bI (gB a b m) 0 a.edges.length):=by
     unfold dS;rw [if_neg (by simp [h2]),if_neg (by simp [h5]),if_neg (by omega)]
    have hga:=bJ h2
    have hgb:=bJ h5
    have hia:=(dF h2).2
    refine wv (h:=?_)
    refine bB (fun i e H=>(e 3=.adr a.c∧e 4=.adr b.c∧e 5=.adr m.c∧e 9=dI i)∧(i≤a.nodes.length)∧(bI (jE a b m) i (a.nodes.length - i)=bI (jE a b m) 0 a.nodes.length)) (fun i=>a.nodes.length - i) 0 ⟨wg,wi,(by rfl)⟩ fun I0 hI0 i e H hi0=>?_
    obtain ⟨E0,hi,hF⟩:=hi0
    have Y:=wa Y E0
    refine wv (h:=?_)
    repeat first|intro _|refine ⟨eP,?_⟩
    refine wq (fun h10=>?_) fun h10=>?_
    ·have hn:i<m.nodes.length:=by omega
     have hst:=dQ (jE a b m) h10
     rw [hF] at hst
     have hNE:jE a b m i=(if m.nodes[i]<0∨(b.nodes.length:Int)≤m.nodes[i] then 6 else if b.nodes[m.nodes[i].toNat]?.getD 0≠a.nodes[i] then 13 else 0):=by simp only [jE,aA h10,aA hn,aD]
     have Y:=wa Y (wa h10 hn)
     refine wv (h:=?_)
     repeat first|intro _|refine ⟨eP,?_⟩
     refine wq (fun h12=>?_) fun h12=>?_
     ·rw [if_pos (by omega)] at hNE
      rw [hNE,if_pos (by omega)] at hst
      refine wv (h:=?_)
      exact hQ _ _ (.inl (by simp [go_sem,hM,hst]))
     ·have hkb:m.nodes[i].toNat<b.nodes.length:=by omega
      rw [if_neg (by omega),aA hkb,aD] at hNE
      have Y:=wa Y (aA hkb)
      refine wv (h:=?_)
      repeat first|intro _|refine ⟨eP,?_⟩
      refine wq (fun h14=>?_) fun h14=>?_
      ·rw [if_pos h14] at hNE
       rw [hNE,if_pos (by omega)] at hst
       refine wv (h:=?_)
       exact hQ _ _ (.inl (by simp [go_sem,hM,hst]))
      ·rw [if_neg (by simpa using h14)] at hNE
       rw [hNE,if_neg (by omega)] at hst
       refine wv (h:=?_)
       repeat first|intro _|refine ⟨eP,?_⟩
       exact wx hI0 (i+1) ⟨wg,wj,(by exact hst.symm)⟩
    ·have hN0:bI (jE a b m) 0 a.nodes.length=0:=by rw [← hF,show a.nodes.length - i=0 by omega];rfl
     rw [hN0,if_neg (by omega)] at hM
     refine wv (h:=?_)
     refine bB (fun k e H=>(e 3=.adr a.c∧e 4=.adr b.c∧e 5=.adr m.c∧e 10=dI k)∧(k≤a.edges.length)∧(bI (gB a b m) k (a.edges.length - k)=dS a b m)) (fun k=>a.edges.length - k) 0 ⟨wg,wi,(by (exact hM.symm))⟩ fun I2 hI2 k e H hi2=>?_
     obtain ⟨E2,hk,hE⟩:=hi2
     have Y:=wa Y E2
     refine wv (h:=?_)
     repeat first|intro _|refine ⟨eP,?_⟩
     refine wq (fun h17=>?_) fun h17=>?_
     ·have hn:k<m.edges.length:=by omega
      have hst:=dQ (gB a b m) h17
      rw [hE] at hst
      have hx:=hia _ (aC h17)
      have hxf:a.edges[k].from_.toNat<m.nodes.length:=by omega
      have hxt:a.edges[k].to_.toNat<m.nodes.length:=by omega
      have hEE:gB a b m k=(if m.edges[k]<0∨(b.edges.length:Int)≤m.edges[k] then 6 else if a.edges[k].type≠(b.edges[m.edges[k].toNat]?.getD bQ).type then 13 else if m.nodes[a.edges[k].from_.toNat]≠(b.edges[m.edges[k].toNat]?.getD bQ).from_∨m.nodes[a.edges[k].to_.toNat]≠(b.edges[m.edges[k].toNat]?.getD bQ).to_ then 11 else 0):=by
       simp only [gB,aA h17,aA hn,aD,aA hxf,aA hxt]
      have Y:=wa Y (wa h17 (wa hn (wa (aA hxf) (aA hxt))))
      refine wv (h:=?_)
      repeat first|intro _|refine ⟨eP,?_⟩
      refine wq (fun h19=>?_) fun h19=>?_
      ·rw [if_pos (by omega)] at hEE
       rw [hEE,if_pos (by omega)] at hst
       refine wv (h:=?_)
       exact hQ _ _ (.inl (by simp [go_sem,← hst]))
      ·have hkb:m.edges[k].toNat<b.edges.length:=by omega
       rw [if_neg (by omega),aA hkb,aD] at hEE
       have Y:=wa Y (aA hkb)
       refine wv (h:=?_)
       repeat first|intro _|refine ⟨eP,?_⟩
       refine wq (fun h22=>?_) fun h22=>?_
       ·rw [if_pos h22] at hEE
        rw [hEE,if_pos (by omega)] at hst
        refine wv (h:=?_)
        exact hQ _ _ (.inl (by simp [go_sem,← hst]))
       ·rw [if_neg (by simpa using h22)] at hEE
        refine wv (h:=?_)
        repeat first|intro _|refine ⟨eP,?_⟩
        refine wq (fun h24=>?_) fun h24=>?_
        ·rw [if_pos (by omega)] at hEE
         rw [hEE,if_pos (by omega)] at hst
         refine wv (h:=?_)
         exact hQ _ _ (.inl (by simp [go_sem,← hst]))
        ·rw [if_neg (by omega)] at hEE
         rw [hEE,if_neg (by omega)] at hst
         refine wv (h:=?_)
         repeat first|intro _|refine ⟨eP,?_⟩
         exact wx hI2 (k+1) ⟨wg,wj,(by exact hst.symm)⟩
     ·refine wv (h:=?_)
      exact hQ _ _ (.inl (by rw [← hE,show a.edges.length - k=0 by omega];rfl))
theorem mG (l:List Int):Pure Tryz.prog 70 [dLI l] (.bool (decide l.Nodup)):=by
 refine Tz.pK ⟨fun _=>false,fun _=>[]⟩ Tryz.func70 rfl (fun Q hQ=>?_)
 have Y:=trivial
 refine wv (h:=bB (fun i e H=>(e 0=dLI l∧e 3=dI i)∧(i≤l.length)∧(∀ (a b:Nat) (hb:b<l.length),b<i→(hab:a<b)→l[a]≠l[b])) (fun i=>l.length - i) 0 ⟨wg,wi,(by (intro a b hb h;omega))⟩ fun I0 hI0 i e H hi0=>?_)
 obtain ⟨E0,hi,hd⟩:=hi0
 have Y:=wa Y E0
 refine wv (h:=?_)
 repeat first|intro _|refine ⟨eP,?_⟩
 refine wq (fun h2=>?_) fun h2=>?_
 ·have Y:=wa Y h2
  refine wv (h:=bB (fun k e H=>(e 0=dLI l∧e 3=dI i∧e 4=dI k)∧(k≤i)∧(∀ a,a<k→l[a]?≠some l[i])) (fun k=>i - k) 0 ⟨wg,wi,(by (intro a h;omega))⟩ fun I2 hI2 k e H hi2=>?_)
  obtain ⟨E2,hk,hn⟩:=hi2
  have Y:=wa Y E2
  refine cT (fun h5=>?_) fun h5=>?_
  ·have hkl:k<l.length:=by omega
   have Y:=wa Y (wa h5 hkl)
   refine wv (h:=?_)
   repeat first|intro _|refine ⟨eP,?_⟩
   refine wq (fun h7=>?_) fun h7=>?_
   ·refine wv (h:=?_)
    have hx:¬ l.Nodup:=fun h=>by
     have:=(qG h).1 h7
     omega
    exact hQ _ _ (by simp [go_sem,hx])
   ·exact wo (h:=wx hI2 (k+1) ⟨wg,wj,(by (exact iX hn (by rw [aA hkl];simpa using fun he=>h7 he.symm)))⟩)
  ·have hd':∀ (a b:Nat) (hb:b<l.length),b<i+1→(hab:a<b)→l[a]≠l[b]:=fun a b hb h hab=>by
    rcases bN b i with h'|h'
    ·exact hd a b hb h' hab
    ·have:b=i:=by omega
     subst this;exact fun he=>hn a (by omega) (by rw [aA (by omega),he])
   exact wo (h:=wx hI0 (i+1) ⟨wg,wj,(by exact hd')⟩)
 ·refine wv (h:=?_)
  have hx:l.Nodup:=by
   rw [List.nodup_iff_pairwise_ne,dX]
   exact fun a b ha hb hab=>hd a b hb (by omega) hab
  exact hQ _ _ (by simp [go_sem,hx])
def Ee (l:List Int)(n:Int)(i:Nat):Int :=
 if l[i]?.getD 0<0∨n≤l[i]?.getD 0 then 6 else if 0<i∧l[i]?.getD 0≤l[i - 1]?.getD 0 then 12 else 0
def Cn (l:List Int)(n:Int):Int:=bI (Ee l n) 0 l.length
theorem dP {f:Nat→Int}:∀ (n k:Nat),bI f k n=0→∀ j,k≤j→j<k+n→f j=0
 | 0,k,_=>fun j h1 h2=>by omega
 | n+1,k,h=>fun j h1 h2=>by
  unfold bI at h
  split at h
  ·rename_i hne;exact absurd h hne
  ·rename_i hz
   rcases Nat.eq_or_lt_of_le h1 with h3|h3
   ·subst h3;exact bD fun hne=>hz hne
   ·exact dP n (k+1) h j h3 (by omega)
theorem A9 {l : List Int} {n : Int} (h : Cn l n = 0) : (∀ x ∈ l, 0 ≤ x ∧ x < n) ∧ l.Pairwise (· < ·) := by
  have hz := dP _ _ h
  have h1 : ∀ i (hi : i < l.length), (0 ≤ l[i] ∧ l[i] < n) ∧ (∀ h0 : 0 < i, l[i - 1] < l[i]) := fun i hi => by
    have := hz i (by omega) (by omega)
    unfold Ee at this
    rw [aA hi, aD] at this
    split at this
    · cases this
    · rename_i h2
      split at this
      · cases this
      · rename_i h3
        refine ⟨by omega, fun h0 => ?_⟩
        rw [aA (show i - 1 < l.length by omega), aD] at h3
        omega
  refine ⟨fun x hx => ?_, dX.2 fun i j hi hj hij => ?_⟩
  · obtain ⟨i, hi, rfl⟩ := aN hx; exact (h1 i hi).1
  · induction j with
    | zero => omega
    | succ j ih =>
      have h2 := (h1 (j + 1) hj).2 (by omega)
      simp only [Nat.add_sub_cancel] at h2
      rcases bN i j with h3 | h3
      · have := ih (by omega) h3; omega
      · have : i = j := by omega
        subst this; exact h2
theorem xC (l:List Int)(n:Int):Pure Tryz.prog 425 [dLI l,dI n] (dI (Cn l n)):=by
 refine Tz.pK ⟨fun _=>false,fun _=>[]⟩ Tryz.func425 rfl (fun Q hQ=>?_)
 have Y:=trivial
 refine wv (h:=?_)
 repeat first|intro _|refine ⟨eP,?_⟩
 refine bB (fun i e H=>(e 0=dLI l∧e 1=dI n∧e 7=dLI l∧e 8=dI l.length∧e 9=dI i)∧(i≤l.length)∧(bI (Ee l n) i (l.length - i)=Cn l n)) (fun i=>l.length - i) 0 ⟨wg,wi,(by rfl)⟩ fun I0 hI0 i e H hi0=>?_
 obtain ⟨E0,hi,hF⟩:=hi0
 have Y:=wa Y E0
 refine wv (h:=?_)
 refine wq (fun h2=>?_) fun h2=>?_
 ·have hst:=dQ (Ee l n) h2
  rw [hF] at hst
  have hA:Ee l n i=(if l[i]<0∨n≤l[i] then 6 else if 0<i∧l[i]≤l[i - 1]?.getD 0 then 12 else 0):=by simp only [Ee,aA h2,aD]
  have hi1:i - 1<l.length:=by omega
  rw [aA hi1,aD] at hA
  have htn:((i:Int) - 1).toNat=i - 1:=by omega
  have Y:=wa Y (wa h2 (wa htn (aA hi1)))
  refine wv (h:=?_)
  repeat first|intro _|refine ⟨eP,?_⟩
  refine wq (fun h4=>?_) fun h4=>?_
  ·rw [if_pos (by omega)] at hA
   rw [hA,if_pos (by omega)] at hst
   refine wv (h:=?_)
   exact hQ _ _ (.inl (by simp [go_sem,hst]))
  ·rw [if_neg (by omega)] at hA
   refine wv (h:=?_)
   repeat first|intro _|refine ⟨eP,?_⟩
   refine wq (fun h6=>?_) fun h6=>?_
   ·rw [if_pos (by omega)] at hA
    rw [hA,if_pos (by omega)] at hst
    refine wv (h:=?_)
    exact hQ _ _ (.inl (by simp [go_sem,hst]))
   ·rw [if_neg (by omega)] at hA
    rw [hA,if_neg (by omega)] at hst
    refine wv (h:=?_)
    repeat first|intro _|refine ⟨eP,?_⟩
    exact wx hI0 (i+1) ⟨wg,wj,(by exact hst.symm)⟩
 ·refine wv (h:=?_)
  exact hQ _ _ (.inl (by rw [← hF,show l.length - i=0 by omega];rfl))
theorem t6 (l:List Int)(n:Int):Pure Tryz.prog 393 [dLI l,dI n] (dI (Cn l n)):=by
 refine Tz.pK ⟨fun _=>false,fun _=>[]⟩ Tryz.func393 rfl (fun Q hQ=>?_)
 have Y:=trivial
 refine wv (h:=?_)
 refine bB (fun i e H=>(e 0=dLI l∧e 1=dI n∧e 5=dI i)∧(i≤l.length)∧(bI (Ee l n) i (l.length - i)=Cn l n)) (fun i=>l.length - i) 0 ⟨wg,wi,(by rfl)⟩ fun I0 hI0 i e H hi0=>?_
 obtain ⟨E0,hi,hF⟩:=hi0
 have Y:=wa Y E0
 refine wv (h:=?_)
 repeat first|intro _|refine ⟨eP,?_⟩
 refine wq (fun h2=>?_) fun h2=>?_
 ·have hst:=dQ (Ee l n) h2
  rw [hF] at hst
  have hA:Ee l n i=(if l[i]<0∨n≤l[i] then 6 else if 0<i∧l[i]≤l[i - 1]?.getD 0 then 12 else 0):=by simp only [Ee,aA h2,aD]
  have hi1:i - 1<l.length:=by omega
  rw [aA hi1,aD] at hA
  have htn:((i:Int) - 1).toNat=i - 1:=by omega
  have Y:=wa Y (wa h2 (wa htn (aA hi1)))
  refine wv (h:=?_)
  repeat first|intro _|refine ⟨eP,?_⟩
  refine wq (fun h4=>?_) fun h4=>?_
  ·rw [if_pos (by omega)] at hA
   rw [hA,if_pos (by omega)] at hst
   refine wv (h:=?_)
   exact hQ _ _ (.inl (by simp [go_sem,hst]))
  ·rw [if_neg (by omega)] at hA
   refine wv (h:=?_)
   repeat first|intro _|refine ⟨eP,?_⟩
   refine wq (fun h6=>?_) fun h6=>?_
   ·rw [if_pos (by omega)] at hA
    rw [hA,if_pos (by omega)] at hst
    refine wv (h:=?_)
    exact hQ _ _ (.inl (by simp [go_sem,hst]))
   ·rw [if_neg (by omega)] at hA
    rw [hA,if_neg (by omega)] at hst
    refine wv (h:=?_)
    repeat first|intro _|refine ⟨eP,?_⟩
    exact wx hI0 (i+1) ⟨wg,wj,(by exact hst.symm)⟩
 ·refine wv (h:=?_)
  exact hQ _ _ (.inl (by rw [← hF,show l.length - i=0 by omega];rfl))
theorem Fv (l:List Int)(v:Int):Pure Tryz.prog 394 [dLI l,dI v] (.bool (mem l v)):=by
 refine Tz.pK ⟨fun _=>false,fun _=>[]⟩ Tryz.func394 rfl (fun Q hQ=>?_)
 have Y:=trivial
 refine wv (h:=bB (fun i e H=>(e 0=dLI l∧e 1=dI v∧e 5=dI i)∧(i≤l.length)∧(∀ j,j<i→l[j]?≠some v)) (fun i=>l.length - i) 0 ⟨wg,wi,(by (intro j hj;omega))⟩ fun I0 hI0 i e H hi0=>?_)
 obtain ⟨E0,hi,hne⟩:=hi0
 have Y:=wa Y E0
 refine wv (h:=?_)
 repeat first|intro _|refine ⟨eP,?_⟩
 refine wq (fun h2=>?_) fun h2=>?_
 ·have Y:=wa Y h2
  refine wv (h:=?_)
  repeat first|intro _|refine ⟨eP,?_⟩
  refine wq (fun h4=>?_) fun h4=>?_
  ·refine wv (h:=?_)
   have hm:mem l v=true:=(cW l v).2 (h4 ▸ aC h2)
   exact hQ _ _ (by simp [go_sem,hm])
  ·exact wo (h:=wx hI0 (i+1) ⟨wg,wj,(by (exact iX hne (by rw [aA h2];simpa using h4)))⟩)
 ·refine wv (h:=?_)
  have hm:mem l v=false:=by rw [bH];intro h;obtain ⟨j,hj,he⟩:=aN ((cW l v).1 h);exact hne j (by omega) (by rw [aA hj,he])
  exact hQ _ _ (by simp [go_sem,hm])
theorem Bu (l:List Int)(v:Int):Pure Tryz.prog 250 [dLI l,dI v] (dI (HJ l v)):=by
 refine Tz.pK ⟨fun _=>false,fun _=>[]⟩ Tryz.func250 rfl (fun Q hQ=>?_)
 have Y:=trivial
 refine wv (h:=bB (fun i e H=>(e 0=dLI l∧e 1=dI v∧e 5=dI i)∧(i≤l.length)∧(∀ j,j<i→l[j]?≠some v)) (fun i=>l.length - i) 0 ⟨wg,wi,(by (intro j hj;omega))⟩ fun I0 hI0 i e H hi0=>?_)
 obtain ⟨E0,hi,hne⟩:=hi0
 have Y:=wa Y E0
 refine wv (h:=?_)
 repeat first|intro _|refine ⟨eP,?_⟩
 refine wq (fun h2=>?_) fun h2=>?_
 ·have Y:=wa Y h2
  refine wv (h:=?_)
  repeat first|intro _|refine ⟨eP,?_⟩
  refine wq (fun h4=>?_) fun h4=>?_
  ·exact wv (h:=hQ _ _ (by rw [sK hne (by rw [aA h2,h4])];simp [go_sem]))
  ·exact wo (h:=wx hI0 (i+1) ⟨wg,wj,(by (exact iX hne (by rw [aA h2];simpa using h4)))⟩)
 ·exact wv (h:=hQ _ _ (by rw [zZ fun j hj=>hne j (by omega)];simp [go_sem]))
theorem oV (a:Int):Pure Tryz.prog 330 [dI a] (.bool false):=by
 refine Tz.pK ⟨fun _=>false,fun _=>[]⟩ Tryz.func330 rfl (fun Q hQ=>?_)
 have Y:=trivial
 exact wv (h:=hQ _ _ wy)
theorem wQ (a:Int):Pure Tryz.prog 122 [dI a] (.bool false):=by
 refine Tz.pK ⟨fun _=>false,fun _=>[]⟩ Tryz.func122 rfl (fun Q hQ=>?_)
 have Y:=trivial
 exact wv (h:=hQ _ _ wy)
theorem Og (a b:Int):Pure Tryz.prog 329 [dI a,dI b] (.bool (decide (a<b))):=by
 refine Tz.pK ⟨fun _=>false,fun _=>[]⟩ Tryz.func329 rfl (fun Q hQ=>?_)
 have Y:=trivial
 refine wo (h:=aB (wQ a) wl ?_)
 refine wo (h:=aK (fun hg=>wQ b) (fun hg=>wl) ?_)
 exact wo (h:=hQ _ _ wy)
def sE (l:List Int)(v:Int):Nat:=(l.takeWhile fun y=>decide (y<v)).length
theorem LD {l:List Int}{v:Int}{n:Nat}(h1:∀ j (hj:j<l.length),j<n→l[j]<v)(h2:n≤l.length)(h3:∀ hn:n<l.length,¬ l[n]<v):sE l v=n :=
 rN _ l n (fun j x hj hx=>by
  obtain ⟨hjl,rfl⟩:=aL.1 hx
  simpa using h1 j hjl hj) h2 fun x hx=>by
  obtain ⟨hjl,rfl⟩:=aL.1 hx
  simpa using h3 hjl
theorem S4 (a b:Nat):((a:Int)+(b:Int)).fdiv 2=(((a+b) / 2:Nat):Int):=by
 rw [Int.fdiv_eq_ediv_of_nonneg _ (by omega)];omega
theorem rI (l:List Int)(v:Int)(hs:l.Pairwise (· < ·))(hl:l.length≤1000000):Pure Tryz.prog 233 [dLI l,dI v] (.tup [dI (sE l v),.bool (mem l v)]):=by
 have hpw:=dX.1 hs
 refine Tz.pK ⟨fun _=>false,fun _=>[]⟩ Tryz.func233 rfl (fun Q hQ=>?_)
 have Y:=@S4
 refine wo (h:=bB (fun m e H=>∃ i:Nat,∃ j:Nat,(e 0=dLI l∧e 1=dI v∧e 6=dI l.length∧e 7=dI i∧e 8=dI j)∧(i≤j)∧(j≤l.length)∧(j - i≤m)∧(∀ a (h:a<l.length),a<i→l[a]<v)∧(∀ a (h:a<l.length),j≤a→¬ l[a]<v)) (fun m=>m) l.length ⟨0,l.length,wg,(by omega),(by omega),(by omega),(by (intro a h h';omega)),(by (intro a h h';omega))⟩ fun I0 hI0 m e H hi0=>?_)
 obtain ⟨i,j,E0,hj,hjl,hjm,ha,hb⟩:=hi0
 have Y:=wa Y E0
 refine cT (fun h3=>?_) fun h3=>?_
 ·have hk:(i+j) / 2<l.length:=by omega
  have htn:(((i:Int)+(j:Int)) / 2).toNat=(i+j) / 2:=by omega
  have hu:=LO (show 0≤(i:Int)+(j:Int) by omega) (show (i:Int)+(j:Int)≤18446744073709551615 by omega)
  have Y:=wa Y (wa h3 (wa htn (aA hk)))
  refine wo (h:=aB (Og _ _) wl ?_)
  refine dV (fun h5=>?_) fun h5=>?_
  ·obtain ⟨i',hi'⟩:∃ i':Nat,i'=(i+j) / 2+1:=⟨_,rfl⟩
   obtain ⟨j',hj'⟩:∃ j':Nat,j'=j:=⟨_,rfl⟩
   have ha':∀ a (h:a<l.length),a<i'→l[a]<v:=fun a h h'=>by
    rcases bN a ((i+j) / 2) with h1|h1
    ·have:=hpw a _ h hk h1;omega
    ·have:a=(i+j) / 2:=by omega
     subst this;exact h5
   have hb':∀ a (h:a<l.length),j'≤a→¬ l[a]<v:=fun a h h'=>hb a h (by omega)
   exact wo (h:=wx hI0 (m - 1) ⟨i',j',wg,(by omega),(by omega),(by omega),(by exact ha'),(by exact hb')⟩)
  ·obtain ⟨i',hi'⟩:∃ i':Nat,i'=i:=⟨_,rfl⟩
   obtain ⟨j',hj'⟩:∃ j':Nat,j'=(i+j) / 2:=⟨_,rfl⟩
   have ha':∀ a (h:a<l.length),a<i'→l[a]<v:=fun a h h'=>ha a h (by omega)
   have hb':∀ a (h:a<l.length),j'≤a→¬ l[a]<v:=fun a h h'=>by
    rcases bN ((i+j) / 2) a with h1|h1
    ·have:=hpw _ a hk h h1;omega
    ·have:a=(i+j) / 2:=by omega
     subst this;omega
   exact wv (h:=wx hI0 (m - 1) ⟨i',j',wg,(by omega),(by omega),(by omega),(by exact ha'),(by exact hb')⟩)
 ·have hij:j=i:=by omega
  have hp:sE l v=i:=LD (fun a h h'=>ha a h h') (by omega) (fun h=>hb i h (by omega))
  have hm:mem l v=(decide (i<l.length)&&(l[i]?.getD 0==v)):=by
   rw [aV,cW]
   constructor
   ·intro h
    obtain ⟨a,h1,h2⟩:=aN h
    have h3:i≤a:=Nat.le_of_not_lt fun h'=>by have:=ha a h1 h';omega
    have h4:a=i:=by
     rcases Nat.eq_or_lt_of_le h3 with h5|h5
     ·exact h5.symm
     ·have:=hpw i a (by omega) h1 h5
      exact absurd (by omega) (hb i (by omega) (by omega))
    subst h4
    simp [h1,h2]
   ·intro h
    simp only [aP,decide_eq_true_eq,beq_iff_eq] at h
    rw [aA h.1,aD] at h
    rw [← h.2];exact aC h.1
  by_cases hil:i<l.length
  ·have Y:=wa Y (wa (aA hil) hil)
   refine wo (h:=aK (fun hg=>oV _) (fun hg=>wl) ?_)
   refine wo (h:=aK (fun hg=>oV _) (fun hg=>wl) ?_)
   exact wo (h:=hQ _ _ (by rw [hp,hm];simp [go_sem,Y];rw [aV];simp))
  ·have Y:=wa Y hil
   refine wo (h:=aK (fun hg=>oV _) (fun hg=>wl) ?_)
   refine wo (h:=aK (fun hg=>oV _) (fun hg=>wl) ?_)
   exact wo (h:=hQ _ _ (by rw [hp,hm];simp [go_sem,Y]))
theorem yY (l:List Int)(v:Int)(hs:l.Pairwise (· < ·))(hl:l.length≤1000000):Pure Tryz.prog 426 [dLI l,dI v] (.bool (mem l v)):=by
 refine Tz.pK ⟨fun _=>false,fun _=>[]⟩ Tryz.func426 rfl (fun Q hQ=>?_)
 have Y:=trivial
 refine wv (h:=aB (rI l v hs hl) wl ?_)
 exact wv (h:=hQ _ _ wy)
def vV (g:Graph)(p:Part)(k:Int):Int:=if (mem p.nodes (g.edges[k.toNat]?.getD bQ).from_&&mem p.nodes (g.edges[k.toNat]?.getD bQ).to_)=true then 0 else 14
def oQ (g:Graph)(p:Part):Int :=
 if Cn p.nodes g.nodes.length≠0 then Cn p.nodes g.nodes.length
 else if Cn p.edges g.edges.length≠0 then Cn p.edges g.edges.length
 else fG (vV g p) p.edges
def subF (g:Graph)(p:Part):Int:=if graphF g≠0 then graphF g else oQ g p
theorem Ew (g:Graph)(p:Part)(hl:p.nodes.length≤1000000):Pure Tryz.prog 383 [g.d,p.d] (dI (oQ g p)):=by
 refine Tz.pK ⟨fun _=>false,fun _=>[]⟩ Tryz.func383 rfl (fun Q hQ=>?_)
 have Y:=trivial
 refine wv (h:=?_)
 repeat first|intro _|refine ⟨eP,?_⟩
 refine aB (xC p.nodes _) wl ?_
 refine wv (h:=?_)
 repeat first|intro _|refine ⟨eP,?_⟩
 refine wq (fun h2=>?_) fun h2=>?_
 ·exact wv (h:=hQ _ _ (by simp [go_sem,oQ,h2]))
 ·refine wv (h:=?_)
  repeat first|intro _|refine ⟨eP,?_⟩
  refine aB (xC p.edges _) wl ?_
  refine wv (h:=?_)
  repeat first|intro _|refine ⟨eP,?_⟩
  refine wq (fun h5=>?_) fun h5=>?_
  ·exact wv (h:=hQ _ _ (by simp [go_sem,oQ,h2,h5]))
  ·have hP:oQ g p=fG (vV g p) p.edges:=by unfold oQ;rw [if_neg (by simp [h2]),if_neg (by simp [h5])]
   have hs:=(A9 h2).2
   have hin:=(A9 h5).1
   refine wv (h:=?_)
   repeat first|intro _|refine ⟨eP,?_⟩
   refine bB (fun i e H=>(e 2=.adr g.c∧e 3=.adr p.c∧e 28=dLI p.edges∧e 29=dI p.edges.length∧e 30=dI i)∧(i≤p.edges.length)∧(fG (vV g p) (p.edges.drop i)=oQ g p)) (fun i=>p.edges.length - i) 0 ⟨wg,wi,(by (exact hP.symm))⟩ fun I0 hI0 i e H hi0=>?_
   obtain ⟨E0,hi,hF⟩:=hi0
   have Y:=wa Y E0
   refine cT (fun h8=>?_) fun h8=>?_
   ·have hst:=hF
    rw [i6 _ h8] at hst
    have hin':=hin _ (aC h8)
    have hk:p.edges[i].toNat<g.edges.length:=by omega
    have hD:vV g p p.edges[i]=if (mem p.nodes g.edges[p.edges[i].toNat].from_&&mem p.nodes g.edges[p.edges[i].toNat].to_)=true then 0 else 14:=by simp only [vV,aA hk,aD]
    have Y:=wa Y (wa h8 (aA hk))
    refine wv (h:=?_)
    repeat first|intro _|refine ⟨eP,?_⟩
    refine aI (yY p.nodes _ hs hl) wl ?_
    refine wv (h:=?_)
    repeat first|intro _|refine ⟨eP,?_⟩
    refine eK (fun hg=>yY p.nodes _ hs hl) (fun hg=>wl) ?_
    refine wv (h:=?_)
    repeat first|intro _|refine ⟨eP,?_⟩
    refine wq (fun h10=>?_) fun h10=>?_
    ·rw [if_neg (by rcases h10 with h|h<;>simp [h])] at hD
     rw [hD,if_pos (by omega)] at hst
     exact wv (h:=hQ _ _ (by simp [go_sem,← hst]))
    ·rw [if_pos (by simp [h10])] at hD
     rw [hD,if_neg (by omega)] at hst
     refine wv (h:=?_)
     repeat first|intro _|refine ⟨eP,?_⟩
     exact wx hI0 (i+1) ⟨wg,wj,(by exact hst)⟩
   ·exact wv (h:=hQ _ _ (by rw [← hF,jU _ (by omega)];simp [go_sem]))
theorem uZ (g:Graph)(p:Part)(hl:p.nodes.length≤1000000):Pure Tryz.prog 324 [g.d,p.d] (dI (subF g p)):=by
 refine Tz.pK ⟨fun _=>false,fun _=>[]⟩ Tryz.func324 rfl (fun Q hQ=>?_)
 have Y:=trivial
 refine wv (h:=aB (kM g) wl ?_)
 refine cT (fun h2=>?_) fun h2=>?_
 ·have Y:=wa Y (wa h2 @subF.eq_1)
  exact wv (h:=hQ _ _ wy)
 ·refine wv (h:=aB (Ew g p hl) wl ?_)
  have Y:=wa Y (wa h2 @subF.eq_1)
  exact wv (h:=hQ _ _ wy)
theorem Iz (g:Graph)(p:Part):Pure Tryz.prog 340 [g.d,p.d] (dI (oQ g p)):=by
 refine Tz.pK ⟨fun t=>t==8,fun r=>match r with|10=>[(0,9),(1,9),(2,9),(3,9),(5,9),(6,9),(7,9),(8,9)]|_=>[]⟩ Tryz.func340 rfl (fun Q hQ=>?_)
 have Y:=trivial
 refine wo (h:=aB (t6 p.nodes _) wl ?_)
 refine wv (h:=?_)
 repeat first|intro _|refine ⟨eP,?_⟩
 refine wq (fun h2=>?_) fun h2=>?_
 ·exact wv (h:=hQ _ _ (by simp [go_sem,oQ,h2]))
 ·refine wo (h:=aB (t6 p.edges _) wl ?_)
  refine wv (h:=?_)
  repeat first|intro _|refine ⟨eP,?_⟩
  refine wq (fun h5=>?_) fun h5=>?_
  ·exact wv (h:=hQ _ _ (by simp [go_sem,oQ,h2,h5]))
  ·have hP:oQ g p=fG (vV g p) p.edges:=by unfold oQ;rw [if_neg (by simp [h2]),if_neg (by simp [h5])]
   have hin:=(A9 h5).1
   refine wv (h:=bB (fun i e H=>(e 2=.adr g.c∧e 3=.adr p.c∧e 7=dI i)∧(i≤p.edges.length)∧(fG (vV g p) (p.edges.drop i)=oQ g p)) (fun i=>p.edges.length - i) 0 ⟨wg,wi,(by (exact hP.symm))⟩ fun I0 hI0 i e H hi0=>?_)
   obtain ⟨E0,hi,hF⟩:=hi0
   have Y:=wa Y E0
   refine wv (h:=?_)
   repeat first|intro _|refine ⟨eP,?_⟩
   refine wq (fun h8=>?_) fun h8=>?_
   ·have hst:=hF
    rw [i6 _ h8] at hst
    have hin':=hin _ (aC h8)
    have hk:p.edges[i].toNat<g.edges.length:=by omega
    have hD:vV g p p.edges[i]=if (mem p.nodes g.edges[p.edges[i].toNat].from_&&mem p.nodes g.edges[p.edges[i].toNat].to_)=true then 0 else 14:=by simp only [vV,aA hk,aD]
    have Y:=wa Y (wa h8 (aA hk))
    refine wo (h:=aB (Fv p.nodes _) wl ?_)
    refine wo (h:=aK (fun hg=>Fv p.nodes _) (fun hg=>wl) ?_)
    refine wv (h:=?_)
    repeat first|intro _|refine ⟨eP,?_⟩
    refine wq (fun h11=>?_) fun h11=>?_
    ·rw [if_neg (by rcases h11 with h|h<;>simp [h])] at hD
     rw [hD,if_pos (by omega)] at hst
     exact wv (h:=hQ _ _ (by simp [go_sem,← hst]))
    ·rw [if_pos (by simp [h11])] at hD
     rw [hD,if_neg (by omega)] at hst
     exact wo (h:=wx hI0 (i+1) ⟨wg,wj,(by exact hst)⟩)
   ·exact wv (h:=hQ _ _ (by rw [← hF,jU _ (by omega)];simp [go_sem]))
theorem vC (g:Graph)(p:Part):Pure Tryz.prog 249 [g.d,p.d] (dI (subF g p)):=by
 refine Tz.pK ⟨fun _=>false,fun _=>[]⟩ Tryz.func249 rfl (fun Q hQ=>?_)
 have Y:=trivial
 refine wv (h:=aB (jJ g) wl ?_)
 refine cT (fun h2=>?_) fun h2=>?_
 ·have Y:=wa Y (wa h2 @subF.eq_1)
  exact wv (h:=hQ _ _ wy)
 ·refine wv (h:=aB (Iz g p) wl ?_)
  have Y:=wa Y (wa h2 @subF.eq_1)
  exact wv (h:=hQ _ _ wy)
def gN (g:Graph)(n:Int):Int:=g.nodes[n.toNat]?.getD 0
def gEd (g:Graph)(p:Part)(k:Int):Edge:=⟨(g.edges[k.toNat]?.getD bQ).type,sE p.nodes (g.edges[k.toNat]?.getD bQ).from_,sE p.nodes (g.edges[k.toNat]?.getD bQ).to_⟩
def b7 (g:Graph)(p:Part):Graph:=if subF g p=0 then ⟨p.nodes.map (gN g),p.edges.map (gEd g p)⟩ else ⟨[],[]⟩
def xK (g:Graph)(p:Part):Part:=if subF g p=0 then p else ⟨[],[]⟩
theorem wD {g:Graph}{p:Part}(h:subF g p=0):graphF g=0∧p.nodes.Pairwise (· < ·)∧(∀ n∈p.nodes,0≤n∧n<g.nodes.length)∧∀ k∈p.edges,0≤k∧k<g.edges.length:=by
 unfold subF oQ at h
 split at h
 ·rename_i h1;exact absurd h h1
 ·rename_i h1
  split at h
  ·rename_i h2;exact absurd h h2
  ·rename_i h2
   split at h
   ·rename_i h3;exact absurd h h3
   ·rename_i h3
    have h2':Cn p.nodes g.nodes.length=0:=by omega
    have h3':Cn p.edges g.edges.length=0:=by omega
    exact ⟨by omega,(A9 h2').2,(A9 h2').1,(A9 h3').1⟩
theorem i5 {α β:Type}(f:α→β){l:List α}{i:Nat}(h:i<l.length):(l.take (i+1)).map f=(l.take i).map f++[f l[i]]:=by
 rw [aF h,List.map_append];rfl
theorem jP {α β:Type}(f:α→β){l:List α}{i:Nat}(h:l.length≤i):(l.take i).map f=l.map f:=by
 rw [aJ h]
theorem AC (g:Graph)(p:Part)(hl:p.nodes.length≤1000000)(hle:p.edges.length≤1000000):Pure Tryz.prog 309 [g.d,p.d] (.tup [(b7 g p).d,(xK g p).d,dI (subF g p)]):=by
 refine Tz.pK ⟨fun t=>t==4||t==5||t==8||t==13,fun r=>match r with|8=>[(0,7),(1,7)]|_=>[]⟩ Tryz.func309 rfl (fun Q hQ=>?_)
 have Y:=trivial
 refine wv (h:=aB (uZ g p hl) wl ?_)
 refine cT (fun h2=>?_) fun h2=>?_
 ·exact wv (h:=hQ _ _ (by simp [go_sem,b7,xK,h2]))
 ·obtain ⟨hg,hs,hin,hie⟩:=wD h2
  refine wo (h:=vK (Ghosts.step (Ghosts.refl _) 2 0 0 3 1 _ _ (rfl) rfl rfl rfl) (fun i e H=>∃ xs:List Int,(e 2=.adr g.c∧e 3=.adr p.c∧e 4=.ptr 0 1 0 0∧e 5=.ptr 1 1 0 0∧e 8=.ptr 2 1 0 0∧e 23=dLI p.nodes∧e 24=dI p.nodes.length∧e 25=dI i)∧(H.get 0=some ⟨37,2,[[.nil,.nil]],false⟩)∧(0<H.next)∧(H.get 1=some ⟨56,2,[[.nil,.nil]],false⟩)∧(1<H.next)∧(H.get 2=some ⟨37,2,[[.own 3 xs.length,.nil]],false⟩)∧(2<H.next)∧(H.get 3=some ⟨3,1,xs.map cI,false⟩)∧(3<H.next)∧(i≤p.nodes.length)∧(xs=(p.nodes.take i).map (gN g))) (fun i=>p.nodes.length - i) 0 ⟨([]),wg,wn,wn,wn,wn,wn,wn,wn,wn,wi,(by rfl)⟩ fun I0 hI0 i e H hi0=>?_)
  obtain ⟨xs,E0,g0_0,n0_0,g1_0,n1_0,g2_0,n2_0,g3_0,n3_0,hi,hx⟩:=hi0
  have Y:=wa Y (wa E0 (wa g0_0 (wa (bY n0_0) (wa g1_0 (wa (bY n1_0) (wa g2_0 (wa (bY n2_0) (wa g3_0 (bY n3_0)))))))))
  refine cT (fun h6=>?_) fun h6=>?_
  ·have hin':=hin _ (aC h6)
   have hk:p.nodes[i].toNat<g.nodes.length:=by omega
   have hxl:xs.length=i:=by rw [hx];simp;omega
   have Y:=wa Y (wa h6 (wa (aA hk) @gN.eq_1))
   exact wo (h:=wx hI0 (i+1) ⟨(xs++[gN g p.nodes[i]]),wg,wn,wn,wn,wn,wn,wn,wn,wn,wj,(by (rw [i5 _ h6,← hx]))⟩)
  ·have hX:xs=p.nodes.map (gN g):=by rw [hx,jP _ (by omega)]
   refine wo (h:=vK (Ghosts.step (Ghosts.refl _) 2 0 1 101 3 _ _ (g2_0) rfl rfl rfl) (fun k e H=>∃ j:Nat,∃ ys:List Edge,(e 2=.adr g.c∧e 3=.adr p.c∧e 4=.ptr 0 1 0 0∧e 5=.ptr 1 1 0 0∧e 8=.ptr 2 1 0 0∧e 41=dLI p.edges∧e 42=dI p.edges.length∧e 43=dI k)∧(H.get 0=some ⟨37,2,[[.nil,.nil]],false⟩)∧(0<H.next)∧(H.get 1=some ⟨56,2,[[.nil,.nil]],false⟩)∧(1<H.next)∧(H.get 2=some ⟨37,2,[[.own 3 xs.length,.own j ys.length]],false⟩)∧(2<H.next)∧(H.get 3=some ⟨3,1,xs.map cI,false⟩)∧(3<H.next)∧(H.get j=some ⟨101,3,ys.map Edge.c,false⟩)∧(j<H.next)∧(k≤p.edges.length)∧(ys=(p.edges.take k).map (gEd g p))∧(j≠0)∧(j≠1)∧(j≠2)∧(j≠3)) (fun k=>p.edges.length - k) 0 ⟨H.next,([]),wg,wn,wn,wn,wn,wn,wn,wn,wn,wn,wn,wi,(by rfl),(by omega),(by omega),(by omega),(by omega)⟩ fun I2 hI2 k e H hi2=>?_)
   obtain ⟨j,ys,E2,g0_2,n0_2,g1_2,n1_2,g2_2,n2_2,g3_2,n3_2,gj_2,nj_2,hk,hy,j0,j1,j2,j3⟩:=hi2
   have Y:=wa Y (wa E2 (wa g0_2 (wa (bY n0_2) (wa g1_2 (wa (bY n1_2) (wa g2_2 (wa (bY n2_2) (wa g3_2 (wa (bY n3_2) (wa gj_2 (wa (bY nj_2) (wa j0 (wa j1 (wa j2 (wa j3 (wa j0.symm (wa j1.symm (wa j2.symm j3.symm))))))))))))))))))
   refine cT (fun h11=>?_) fun h11=>?_
   ·have hie':=hie _ (aC h11)
    have hke:p.edges[k].toNat<g.edges.length:=by omega
    have hyl:ys.length=k:=by rw [hy];simp;omega
    have Y:=wa Y (wa h11 (wa (aA hke) @gEd.eq_1))
    refine wo (h:=aB (rI p.nodes _ hs hl) wl ?_)
    refine wo (h:=aB (rI p.nodes _ hs hl) wl ?_)
    exact wo (h:=wx hI2 (k+1) ⟨j,(ys++[gEd g p p.edges[k]]),wg,wn,wn,wn,wn,wn,wn,wn,wn,wn,wn,wj,(by (rw [i5 _ h11,← hy])),wj,wj,wj,wj⟩)
   ·have hY:ys=p.edges.map (gEd g p):=by rw [hy,jP _ (by omega)]
    refine wv (h:=aI ((jW p.nodes hl).pure) wl ?_)
    refine wv (h:=aI ((jW p.edges hle).pure) wl ?_)
    exact wv (h:=hQ _ _ (by simp [go_sem,Y,b7,xK,h2,hX,hY]))
mutual
theorem jH {p:Cond→Prop}(h:∀ c:Cond,(∀ k∈c.kids,p k)→p c):∀ c:Cond,p c
 | .mk k l m q=>h _ (Gv h l)
theorem Gv {p:Cond→Prop}(h:∀ c:Cond,(∀ k∈c.kids,p k)→p c):∀ l:List Cond,∀ k∈l,p k
 | []=>fun k hk=>absurd hk (by simp)
 | c :: l=>fun k hk=>by
  rcases aS.1 hk with h1|h1
  ·rw [h1];exact jH h c
  ·exact Gv h l k h1
end
def bareB (c:Cond):Bool:=decide ((c.map.nodes.length:Int)+c.map.edges.length+c.pattern.graph.nodes.length+c.pattern.graph.edges.length+c.pattern.slots.length+c.pattern.tests.length=0)&&decide (c.pattern.vars=0)
structure Cond.short (c:Cond):Prop where
 m1:c.map.nodes.length≤1000000
 m2:c.map.edges.length≤1000000
 p1:c.pattern.graph.nodes.length≤1000000
 p2:c.pattern.graph.edges.length≤1000000
 p3:c.pattern.slots.length≤1000000
 p4:c.pattern.tests.length≤1000000
theorem D2 (c:Cond)(hc:c.short):Pure Tryz.prog 416 [.agg c.c] (.bool (bareB c)):=by
 obtain ⟨h1,h2,h3,h4,h5,h6⟩:=hc
 refine Tz.pK ⟨fun t=>t==3,fun _=>[]⟩ Tryz.func416 rfl (fun Q hQ=>?_)
 have Y:=@Cond.c_eq
 have Y:=wa Y @bareB.eq_1
 exact wo (h:=hQ _ _ wy)
theorem DJ (xs:List Cond)(g:FuncId)(caps:List D)(p:Cond→Bool)(hc:D.clL caps=true)(hg:∀ x∈xs,Pure Tryz.prog g (.agg x.c :: caps) (.bool (p x))) :
  Pure Tryz.prog 447 [.list (xs.map Cond.c),.fn g caps] (dI (AV xs p)):=by
 refine aM (aG (cfg:=⟨fun _=>false,fun _=>[]⟩) Tz.mixed Tryz.func447 rfl rfl (aE rfl) (by kernel_rfl) ?_)
 simp [go_sem,seval,dI,dLI]
 intro hlen
 refine eN (ι:=Nat) (fun i e H=>H=.emp∧i≤xs.length∧e 0=.list (xs.map Cond.c)∧e 1=.fn g caps∧e 7=dI xs.length∧e 8=dI i∧(∀ j x,j<i→xs[j]?=some x→p x=false)) (fun i=>xs.length - i) 0 (by simp [go_sem,seval,dI,dLI]) ?_
 intro i e H ⟨hH,hi,h0,h1,h7,h8,hn⟩
 subst hH
 simp [go_sem,seval,h0,h1,h7,h8,dI,dLI]
 refine eU (fun hlt=>?_) (fun hge=>?_)
 ·have hgx:=hg xs[i] (aC hlt)
  simp [go_sem,seval,h0,h1,h7,h8,dI,dLI,hlt,Cond.c_eq] at hgx ⊢
  refine aB hgx (by simp [go_sem,hc]) ?_
  simp [go_sem,seval,h0,h1,h7,h8,dI,dLI]
  refine aO (fun h=>?_) (fun h=>?_)
  ·simp [go_sem,seval,h0,h1,h7,h8,dI,dLI]
   rw [nG hn hlt h]
  ·simp [go_sem,seval,h0,h1,h7,h8,dI,dLI]
   refine ⟨cF (by omega) (by omega),i+1,by omega,by omega,by omega,fun j x hj hx=>?_⟩
   rcases bN j i with hj'|hj'
   ·exact hn j x hj' hx
   ·have:j=i:=by omega
    subst this
    rw [aA hlt] at hx
    cases hx;exact h
 ·simp [go_sem,seval,h0,h1,h7,h8,dI,dLI]
  rw [nH fun j x hj=>hn j x (by omega)]
theorem Ae (xs:List Cond)(g:FuncId)(caps:List D)(p:Cond→Bool)(hc:D.clL caps=true)(hl:D.cl (.list (xs.map Cond.c))=true)(hg:∀ x∈xs,Pure Tryz.prog g (.agg x.c :: caps) (.bool (p x))) :
  Pure Tryz.prog 417 [.list (xs.map Cond.c),.fn g caps] (.bool (xs.any p)):=by
 refine aM (aG (cfg:=⟨fun _=>false,fun _=>[]⟩) Tz.mixed Tryz.func417 rfl rfl (aE rfl) (by kernel_rfl) ?_)
 simp [go_sem,seval]
 refine aB (DJ xs g caps p hc hg) (by simp only [D.clL,hl,fI];simp [D.cl,hc]) ?_
 simp [go_sem,seval,dI,pX]
def oT (c:Cond):Bool :=
 if c.kind=1 then decide ((c.kids.length:Int)=0)&&bareB c
 else if c.kind=2 then decide ((c.kids.length:Int)=1)&&bareB c
 else if c.kind=3∨c.kind=4 then decide (1≤(c.kids.length:Int))&&bareB c
 else decide (c.kind=5)&&decide ((c.kids.length:Int)=1)
mutual
def HL:Cond→Bool
 | .mk k l m p=>oT (.mk k l m p)&&ON l
def ON:List Cond→Bool
 | []=>true
 | c :: l=>HL c&&ON l
end
theorem OM (l:List Cond):ON l=l.all HL:=by
 induction l with
 | nil=>rfl
 | cons a l ih=>simp [ON,ih]
theorem rM (c:Cond):HL c=(oT c&&c.kids.all HL):=by cases c;simp [HL,OM,Cond.kids]
mutual
def Cond.ok:Cond→Prop
 | .mk k l m p=>(Cond.mk k l m p).short∧Cond.oks l
def Cond.oks:List Cond→Prop
 | []=>True
 | c :: l=>c.ok∧Cond.oks l
end
theorem HF (l:List Cond):Cond.oks l↔∀ c∈l,c.ok:=by
 induction l with
 | nil=>simp [Cond.oks]
 | cons a l ih=>simp [Cond.oks,ih]
theorem rL (c:Cond):c.ok↔c.short∧∀ k∈c.kids,k.ok:=by cases c;simp [Cond.ok,HF,Cond.kids]
theorem V4 (c:Cond)(h:Pure Tryz.prog 372 [.agg c.c] (.bool (HL c))):Pure Tryz.prog 418 [.agg c.c] (.bool (!HL c)):=by
 refine Tz.pK ⟨fun _=>false,fun _=>[]⟩ Tryz.func418 rfl (fun Q hQ=>?_)
 have Y:=@Cond.c_eq
 refine wo (h:=aB ((by simpa [Cond.c_eq,go_sem] using h)) wl ?_)
 exact wo (h:=hQ _ _ wy)
theorem vY:∀ c:Cond,c.ok→Pure Tryz.prog 372 [.agg c.c] (.bool (HL c)):=by
 refine jH fun c ih hc=>?_
 obtain ⟨hs,hk⟩:=(rL c).1 hc
 have hkids:=Ae c.kids 418 [] (fun k=>!HL k) rfl (by simp [go_sem]) (fun k hm=>V4 k (ih k hm (hk k hm)))
 have hbare:∀ k':Int,k'=c.kind→Pure Tryz.prog 416 [.agg [dI k',.list (c.kids.map Cond.c),dLI c.map.nodes,dLI c.map.edges,dLI c.pattern.graph.nodes,.list (c.pattern.graph.edges.map Edge.c),.list (c.pattern.slots.map Slot.c),dI c.pattern.vars,.list (c.pattern.tests.map Test.c)]] (.bool (bareB c)):=by
  intro k' hk'
  have:=D2 c hs
  rwa [Cond.c_eq,← hk'] at this
 have hall:(!(c.kids.any fun k=>!HL k))=c.kids.all HL:=by simp [List.not_any_eq_all_not]
 refine Tz.pK ⟨fun _=>false,fun _=>[]⟩ Tryz.func372 rfl (fun Q hQ=>?_)
 have Y:=@Cond.c_eq
 refine dV (fun h4=>?_) fun h4=>?_
 ·have Y:=wa Y h4
  refine wo (h:=aK (fun hg=>(hbare _ (by omega))) (fun hg=>wl) ?_)
  refine wo (h:=aK (fun hg=>hkids) (fun hg=>wl) ?_)
  exact wo (h:=hQ _ _ (by simp [go_sem,rM,← hall,oT,Y]))
 ·have Y:=wa Y h4
  refine cT (fun h6=>?_) fun h6=>?_
  ·have Y:=wa Y h6
   refine wo (h:=aK (fun hg=>(hbare _ (by omega))) (fun hg=>wl) ?_)
   refine wo (h:=aK (fun hg=>hkids) (fun hg=>wl) ?_)
   exact wo (h:=hQ _ _ (by simp [go_sem,rM,← hall,oT,Y]))
  ·have Y:=wa Y h6
   refine cT (fun h8=>?_) fun h8=>?_
   ·have Y:=wa Y h8
    refine wo (h:=aK (fun hg=>(hbare _ (by omega))) (fun hg=>wl) ?_)
    refine wo (h:=aK (fun hg=>hkids) (fun hg=>wl) ?_)
    exact wo (h:=hQ _ _ (by simp [go_sem,rM,← hall,oT,Y]))
   ·have Y:=wa Y h8
    refine cT (fun h9=>?_) fun h9=>?_
    ·have Y:=wa Y h9
     refine wo (h:=aK (fun hg=>(hbare _ (by omega))) (fun hg=>wl) ?_)
     refine wo (h:=aK (fun hg=>hkids) (fun hg=>wl) ?_)
     exact wo (h:=hQ _ _ (by simp [go_sem,rM,← hall,oT,Y]))
    ·have Y:=wa Y h9
     refine cT (fun h11=>?_) fun h11=>?_
     ·have Y:=wa Y h11
      refine wo (h:=aK (fun hg=>hkids) (fun hg=>wl) ?_)
      exact wo (h:=hQ _ _ (by simp [go_sem,rM,← hall,oT,Y]))
     ·have Y:=wa Y h11
      refine wo (h:=aK (fun hg=>hkids) (fun hg=>wl) ?_)
      exact wo (h:=hQ _ _ (by simp [go_sem,rM,← hall,oT,Y]))
mutual
def Cond.size:Cond→Nat
 | .mk _ l _ _=>1+Cond.sizes l
def Cond.sizes:List Cond→Nat
 | []=>0
 | c :: l=>c.size+Cond.sizes l
end
mutual
def Cond.dep:Cond→Nat
 | .mk k l _ _=>Cond.deps l+(if k=5 then 1 else 0)
def Cond.deps:List Cond→Nat
 | []=>0
 | c :: l=>max c.dep (Cond.deps l)
end
theorem CX (l:List Cond)(c:Cond):Cond.sizes (l++[c])=Cond.sizes l+c.size:=by
 induction l with
 | nil=>simp [Cond.sizes]
 | cons a l ih=>simp [Cond.sizes,ih];omega
theorem Ge (l:List Cond)(c:Cond):Cond.deps (l++[c])=max (Cond.deps l) c.dep:=by
 induction l with
 | nil=>simp [Cond.deps]
 | cons a l ih=>simp only [fV,Cond.deps,ih];omega
theorem tA (c:Cond):c.size=1+Cond.sizes c.kids:=by cases c;simp [Cond.size,Cond.kids]
theorem Oc (c:Cond):c.dep=Cond.deps c.kids+(if c.kind=5 then 1 else 0):=by cases c;rw [Cond.dep];rfl
@[go_sem] theorem Q8:Cond.sizes []=0:=by simp [Cond.sizes]
@[go_sem] theorem Tb:Cond.deps []=0:=by simp [Cond.deps]
theorem y5 {l:List Cond}{c:Cond}(h:c∈l):c.size≤Cond.sizes l:=by
 induction l with
 | nil=>cases h
 | cons a l ih =>
  rcases aS.1 h with h1|h1
  ·subst h1;simp only [Cond.sizes];omega
  ·have:=ih h1;simp only [Cond.sizes];omega
theorem CW (l:List Cond)(i:Nat):Cond.sizes (l.take i)≤Cond.sizes l:=by
 induction l generalizing i with
 | nil=>simp
 | cons a l ih=>cases i with
  | zero=>simp [Cond.sizes]
  | succ i=>have:=ih i;simp only [qH,Cond.sizes];omega
mutual
theorem KW:∀ c:Cond,c.dep≤c.size
 | .mk k l m p=>by have:=wP l;simp only [Cond.dep,Cond.size];split<;>omega
theorem wP:∀ l:List Cond,Cond.deps l≤Cond.sizes l
 | []=>by simp [Cond.deps]
 | c :: l=>by have:=KW c;have:=wP l;simp only [Cond.deps,Cond.sizes];omega
end
theorem ES (a b:Nat):(if (a:Int)<(b:Int) then (b:Int) else (a:Int))=((max a b:Nat):Int):=by split<;>omega
theorem Ah:∀ c:Cond,c.size≤1000000→Pure Tryz.prog 373 [.agg c.c] (.tup [dI c.size,dI c.dep]):=by
 refine jH fun c ih hc=>?_
 have hse:=tA c
 have hde:=Oc c
 have hle:=wP c.kids
 refine Tz.pK ⟨fun t=>t==7,fun _=>[]⟩ Tryz.func373 rfl (fun Q hQ=>?_)
 try simp [go_sem,seval,Cond.c_eq]
 repeat first|intro _|refine ⟨eP,?_⟩
 obtain ⟨I0,hI0⟩:∃ I0:Nat→cZ→AHeap→Prop,∀ (i:Nat) (e:cZ) (H:AHeap),I0 i e H↔((e 1=.adr c.c)∧(e 11=.list (c.kids.map Cond.c))∧(e 12=dI c.kids.length)∧(e 4=dI ((1+Cond.sizes (c.kids.take i):Nat):Int))∧(e 5=dI (Cond.deps (c.kids.take i):Nat))∧(e 13=dI i)∧(i≤c.kids.length)):=⟨fun i e H=>_,fun _ _ _=>Iff.rfl⟩
 refine q9 I0 (fun i=>c.kids.length - i) (0) ((hI0 _ _ _).2 ⟨?_,?_,?_,?_,?_,?_,(by first|assumption|omega|(simp [go_sem,Cond.c_eq];done)|(simp_all;done))⟩) ?_
 iterate 6 (first|omega|(simp [go_sem,seval,Cond.c_eq]<;>omega))
 intro i e H hi0
 obtain ⟨q1_0,q11_0,q12_0,q4_0,q5_0,q13_0,hi⟩:=(hI0 _ _ _).1 hi0
 have F0:=And.intro q1_0 (And.intro q11_0 (And.intro q12_0 q13_0))
 try simp [go_sem,seval,Cond.c_eq,F0,q4_0,q5_0]
 refine aO (fun h3=>?_) (fun h3=>?_)
 ·try simp [go_sem] at h3
  have hsm:=y5 (aC h3)
  have hdm:=KW c.kids[i]
  have hts:=aF h3
  have h1s:=CX (c.kids.take i) c.kids[i]
  have h1d:=Ge (c.kids.take i) c.kids[i]
  have hst:=CW c.kids (i+1)
  have hS:Cond.sizes (c.kids.take (i+1))=Cond.sizes (c.kids.take i)+c.kids[i].size:=by rw [hts,h1s]
  have hD:Cond.deps (c.kids.take (i+1))=max (Cond.deps (c.kids.take i)) c.kids[i].dep:=by rw [hts,h1d]
  have hdt:=wP (c.kids.take i)
  try simp [go_sem,seval,Cond.c_eq,F0,q4_0,q5_0,h3,hS,hD,ES]
  repeat first|intro _|refine ⟨eP,?_⟩
  refine aB ((by have:=ih _ (aC h3) (by omega);rwa [Cond.c_eq] at this)) ((by first|rfl|(simp [go_sem,← List.map_take,← List.map_drop,Cond.c_eq,F0,q4_0,q5_0,h3,hS,hD,ES];done))) ?_
  try simp [go_sem,seval,Cond.c_eq,F0,q4_0,q5_0,h3,hS,hD,ES]
  repeat first|intro _|refine ⟨eP,?_⟩
  refine eV (i+1) (by omega) ((hI0 _ _ _).2 ⟨?_,?_,?_,?_,?_,?_,(by first|assumption|omega|(simp [go_sem,Cond.c_eq,F0,q4_0,q5_0,h3,hS,hD,ES];done)|(simp_all<;>omega))⟩)<;>first|omega|(simp [go_sem,seval,Cond.c_eq,F0,q4_0,q5_0,h3,hS,hD,ES]<;>omega)
 ·try simp [go_sem] at h3
  have hU:c.kids.take i=c.kids:=aJ h3
  rw [hU] at q4_0 q5_0
  try simp [go_sem,seval,Cond.c_eq,F0,q4_0,q5_0]
  refine aO (fun h8=>?_) (fun h8=>?_)
  ·try simp [go_sem] at h8
   try simp [go_sem,seval,Cond.c_eq,F0,q4_0,q5_0]
   repeat first|intro _|refine ⟨eP,?_⟩
   exact hQ _ _ (by first|(left;(simp [go_sem,hse,hde,h8]);done)|(right;(simp [go_sem,hse,hde,h8]);done))
  ·try simp [go_sem] at h8
   try simp [go_sem,seval,Cond.c_eq,F0,q4_0,q5_0]
   exact hQ _ _ (by first|(left;(simp [go_sem,hse,hde,h8]);done)|(right;(simp [go_sem,hse,hde,h8]);done))
def pP (c:Cond):Int:=if HL c=false then 1 else if 12<c.size∨3<c.dep then 3 else 0
theorem Cj (c:Cond)(hc:c.ok)(hs:c.size≤1000000):Pure Tryz.prog 315 [.agg c.c] (dI (pP c)):=by
 refine Tz.pK ⟨fun _=>false,fun _=>[]⟩ Tryz.func315 rfl (fun Q hQ=>?_)
 have Y:=@Cond.c_eq
 refine wo (h:=aB ((by have:=vY c hc;rwa [Cond.c_eq] at this)) wl ?_)
 refine dV (fun h1=>?_) fun h1=>?_
 ·exact wv (h:=hQ _ _ (by simp [go_sem,pP,h1]))
 ·refine wv (h:=aB ((by have:=Ah c hs;rwa [Cond.c_eq] at this)) wl ?_)
  refine dV (fun h4=>?_) fun h4=>?_
  ·exact wv (h:=hQ _ _ (by simp [go_sem,pP,h1];omega))
  ·exact wv (h:=hQ _ _ (by simp [go_sem,pP,h1];omega))
def lT (t:Types)(q:Pattern)(outer:Int):Int :=
 if bT t q≠9 then bT t q
 else if ((List.range q.vars.toNat).all fun (v:Nat)=>decide ((v:Int)<outer)||iI q v)=true then 0 else 9
theorem BG {t:Types}{q:Pattern}{outer:Int}(h:bT t q=9)(h0:0≤outer)(ho:∀ v:Int,outer≤v→v<q.vars→iI q v=true):lT t q outer=0:=by
 unfold lT
 rw [if_neg (by omega),if_pos]
 rw [bV]
 intro v hv
 simp at hv ⊢
 by_cases hlt:(v:Int)<outer
 ·exact .inl hlt
 ·exact .inr (ho v (by omega) (by omega))
theorem BI {t:Types}{q:Pattern}{outer:Int}(h:bT t q=9)(h0:0≤outer){v:Int}(h1:outer≤v)(h2:v<q.vars)(h3:iI q v=false):lT t q outer=9:=by
 unfold lT
 rw [if_neg (by omega),if_neg]
 intro ha
 rw [bV] at ha
 have:=ha v.toNat (by simp;omega)
 simp at this
 rw [show max v 0=v by omega,h3] at this
 simp at this;omega
theorem Gb {f:Nat→Int}{m:Int}(h0:(0:Int)≠m)(h:∀ j,f j≠m):∀ n k,bI f k n≠m
 | 0,k=>h0
 | n+1,k=>by unfold bI;split;exact h k;exact Gb h0 h n (k+1)
theorem yJ {f:Nat→Int}{nm:Nat→ByteArray}{last:ByteArray × Int}{m:Int}(h0:last.2≠m)(h:∀ j,f j≠m):∀ n k,(dJ f nm last k n).2≠m
 | 0,k=>h0
 | n+1,k=>by unfold dJ;split;exact h k;exact yJ h0 h n (k+1)
theorem FO:∀ (r l:List ByteArray),lB l r≠9
 | [],l=>by simp [lB]
 | s :: r,l=>by
  unfold lB
  split
  ·decide
  ·split
   ·decide
   ·exact FO r _
theorem MP (l:List ByteArray):lQ l≠9:=by unfold lQ;split;decide;exact FO l []
theorem Fb (x:Attr)(l:List Attr):cQ x l≠9:=by
 have:=MP x.names
 unfold cQ
 repeat' split
 all_goals first|assumption|decide
theorem NQ (t:Types)(i:Nat):fS t i≠9:=by
 unfold fS
 split
 ·decide
 ·repeat' split
  all_goals first|decide|skip
  refine Gb (by decide) (fun j=>?_) _ _
  split
  ·exact Fb _ _
  ·decide
theorem N8 (t:Types)(i:Nat):iN t i≠9:=by
 unfold iN
 split
 ·decide
 ·repeat' split
  all_goals decide
theorem Fk (t:Types):(cA t).2≠9:=by
 unfold cA
 split
 ·decide
 ·split
  ·decide
  ·exact yJ (yJ (by decide) (N8 t) _ _) (NQ t) _ _
theorem yM (s:Slot)(v:Int):Pure Tryz.prog 419 [.agg s.c,.adr [dI v]] (.bool (decide (s.term.var=v))):=by
 refine Tz.pK ⟨fun _=>false,fun _=>[]⟩ Tryz.func419 rfl (fun Q hQ=>?_)
 have Y:=trivial
 exact wv (h:=hQ _ _ wy)
theorem DG (xs:List Slot)(g:FuncId)(caps:List D)(p:Slot→Bool)(hc:D.clL caps=true)(hg:∀ x∈xs,Pure Tryz.prog g (.agg x.c :: caps) (.bool (p x))) :
  Pure Tryz.prog 415 [.list (xs.map Slot.c),.fn g caps] (dI (AV xs p)):=by
 refine aM (aG (cfg:=⟨fun _=>false,fun _=>[]⟩) Tz.mixed Tryz.func415 rfl rfl (aE rfl) (by kernel_rfl) ?_)
 simp [go_sem,seval,dI,dLI]
 intro hlen
 refine eN (ι:=Nat) (fun i e H=>H=.emp∧i≤xs.length∧e 0=.list (xs.map Slot.c)∧e 1=.fn g caps∧e 7=dI xs.length∧e 8=dI i∧(∀ j x,j<i→xs[j]?=some x→p x=false)) (fun i=>xs.length - i) 0 (by simp [go_sem,seval,dI,dLI]) ?_
 intro i e H ⟨hH,hi,h0,h1,h7,h8,hn⟩
 subst hH
 simp [go_sem,seval,h0,h1,h7,h8,dI,dLI]
 refine eU (fun hlt=>?_) (fun hge=>?_)
 ·have hgx:=hg xs[i] (aC hlt)
  simp [go_sem,seval,h0,h1,h7,h8,dI,dLI,hlt,Slot.c] at hgx ⊢
  refine aB hgx (by simp [go_sem,hc]) ?_
  simp [go_sem,seval,h0,h1,h7,h8,dI,dLI]
  refine aO (fun h=>?_) (fun h=>?_)
  ·simp [go_sem,seval,h0,h1,h7,h8,dI,dLI]
   rw [nG hn hlt h]
  ·simp [go_sem,seval,h0,h1,h7,h8,dI,dLI]
   refine ⟨cF (by omega) (by omega),i+1,by omega,by omega,by omega,fun j x hj hx=>?_⟩
   rcases bN j i with hj'|hj'
   ·exact hn j x hj' hx
   ·have:j=i:=by omega
    subst this
    rw [aA hlt] at hx
    cases hx;exact h
 ·simp [go_sem,seval,h0,h1,h7,h8,dI,dLI]
  rw [nH fun j x hj=>hn j x (by omega)]
theorem rG (xs:List Slot)(g:FuncId)(caps:List D)(p:Slot→Bool)(hc:D.clL caps=true)(hl:D.cl (.list (xs.map Slot.c))=true)(hg:∀ x∈xs,Pure Tryz.prog g (.agg x.c :: caps) (.bool (p x))) :
  Pure Tryz.prog 369 [.list (xs.map Slot.c),.fn g caps] (.bool (xs.any p)):=by
 refine aM (aG (cfg:=⟨fun _=>false,fun _=>[]⟩) Tz.mixed Tryz.func369 rfl rfl (aE rfl) (by kernel_rfl) ?_)
 simp [go_sem,seval]
 refine aB (DG xs g caps p hc hg) (by simp only [D.clL,hl,fI];simp [D.cl,hc]) ?_
 simp [go_sem,seval,dI,pX]
theorem iZ {t : Types} {q : Pattern} (h : bT t q = 9 ∨ bT t q = 0) : 0 ≤ q.vars ∧ q.vars ≤ 12 := by
  have hne := Fk t
  unfold bT at h
  by_cases h1 : (cA t).2 = 0
  · rw [if_neg (by omega)] at h
    by_cases h2 : graphF q.graph = 0
    · rw [if_neg (by omega)] at h
      split at h
      · omega
      · split at h
        · omega
        · rename_i h3; simp [inF] at h3; omega
    · rw [if_pos h2] at h
      have h3 : graphF q.graph ≠ 9 := by unfold graphF; repeat' split
                                         all_goals decide
      omega
  · rw [if_pos h1] at h
    omega
theorem Ag (t:Types)(ht:t.ok)(q:Pattern)(outer:Int)(h0:0≤outer):Pure Tryz.prog 374 [t.d,q.d,dI outer] (dI (lT t q outer)):=by
 refine Tz.pK ⟨fun t=>t==8,fun _=>[]⟩ Tryz.func374 rfl (fun Q hQ=>?_)
 have Y:=trivial
 refine wv (h:=aB (lL t ht q) wl ?_)
 refine cT (fun h2=>?_) fun h2=>?_
 ·exact wv (h:=hQ _ _ (by simp [go_sem,lT,h2]))
 ·have hv:=iZ (.inl h2)
  refine wv (h:=bB (fun v e H=>∃ id:Nat,(e 4=.adr q.c∧e 7=dI 9∧e 8=.ptr id 1 0 0)∧(H.get id=some ⟨3,1,[[dI (outer+v)]],false⟩)∧(id<H.next)∧(∀ u:Int,outer≤u→u<outer+v→iI q u=true)) (fun v=>(q.vars - outer).toNat - v) 0 ⟨0,wg,wn,wn,(by (intro u hu hv;omega))⟩ fun I0 hI0 v e H hi0=>?_)
  obtain ⟨id,E0,gid_0,nid_0,ho⟩:=hi0
  have Y:=wa Y (wa E0 (wa gid_0 (bY nid_0)))
  refine cT (fun h5=>?_) fun h5=>?_
  ·have hOv:(q.slots.any fun s=>decide (s.term.var=outer+v))=iI q (outer+v):=rfl
   have Y:=wa Y (wa h5 hOv)
   refine wo (h:=rH ((rG q.slots 419 [.adr [dI (outer+v)]] (fun s=>decide (s.term.var=outer+v)) (by simp [go_sem]) (by simp [go_sem]) (fun s _=>yM s (outer+v)))) wr wl rfl ?_)
   refine dV (fun h7=>?_) fun h7=>?_
   ·exact wv (h:=hQ _ _ (by rw [BI h2 h0 (v:=outer+v) (by omega) h5 (by simpa using h7)];simp [go_sem]))
   ·have ho':∀ u:Int,outer≤u→u<outer+((v+1:Nat):Int)→iI q u=true:=fun u hu hv=>by
     by_cases hc:u<outer+v
     ·exact ho u hu hc
     ·rw [show u=outer+v by omega];simpa using h7
    exact wo (h:=wx hI0 (v+1) ⟨H.next,wg,wn,wn,(by exact ho')⟩)
  ·exact wv (h:=hQ _ _ (by rw [BG h2 h0 fun u hu hv=>ho u hu (by omega)];simp [go_sem]))
def iJ (t:Types)(p:Pattern)(m:Part)(q:Pattern):Int :=
 if q.vars<p.vars then 20
 else if lT t q p.vars≠0 then lT t q p.vars
 else if dS p.graph q.graph m≠0 then dS p.graph q.graph m
 else if ET p.graph q.graph m=false then 1 else 0
mutual
def oC (t:Types):Pattern→Cond→Int
 | p,.mk k l m q=>if (if k=5 then iJ t p m q else 0)≠0 then (if k=5 then iJ t p m q else 0) else NX t (if k=5 then q else p) l
def NX (t:Types):Pattern→List Cond→Int
 | _,[]=>0
 | p,c :: l=>if oC t p c≠0 then oC t p c else NX t p l
end
theorem Pa (t:Types)(p:Pattern)(l:List Cond):NX t p l=fG (oC t p) l:=by
 induction l with
 | nil=>simp [NX,fG]
 | cons a l ih=>simp only [NX,fG,ih]
theorem Cz (t:Types)(p:Pattern)(c:Cond):oC t p c=if (if c.kind=5 then iJ t p c.map c.pattern else 0)≠0 then (if c.kind=5 then iJ t p c.map c.pattern else 0) else fG (oC t (if c.kind=5 then c.pattern else p)) c.kids:=by
 cases c;simp only [oC,Pa];rfl
theorem BH {t:Types}{q:Pattern}{o:Int}(h:lT t q o=0):0≤q.vars∧q.vars≤12:=by
 unfold lT at h
 split at h
 ·exact iZ (.inr h)
 ·rename_i h1;exact iZ (t:=t) (.inl (by omega))
theorem A1 (t:Types)(ht:t.ok):∀ (c:Cond) (p:Pattern),0≤p.vars→p.vars≤12→Pure Tryz.prog 316 [t.d,p.d,.agg c.c] (dI (oC t p c)):=by
 refine jH fun c ih p hp0 hp1=>?_
 have hF:=Cz t p c
 refine Tz.pK ⟨fun t=>t==4||t==7||t==11,fun _=>[]⟩ Tryz.func316 rfl (fun Q hQ=>?_)
 have Y:=@Cond.c_eq
 refine cT (fun h1=>?_) fun h1=>?_
 ·rw [if_pos h1,if_pos h1] at hF
  refine cT (fun h3=>?_) fun h3=>?_
  ·exact wv (h:=hQ _ _ (by simp [go_sem,hF,iJ,h3]))
  ·refine wv (h:=aB (Ag t ht c.pattern p.vars hp0) wl ?_)
   refine cT (fun h6=>?_) fun h6=>?_
   ·exact wv (h:=hQ _ _ (by simp [go_sem,hF,iJ,h6];omega))
   ·refine wv (h:=aB (mL p.graph c.pattern.graph c.map) wl ?_)
    refine cT (fun h9=>?_) fun h9=>?_
    ·exact wv (h:=hQ _ _ (by simp [go_sem,hF,iJ,h6,h9];omega))
    ·have hm:=lR h9
     have hga:=bJ hm.1
     refine wv (h:=?_)
     repeat first|intro _|refine ⟨eP,?_⟩
     refine aB (pU p.graph c.pattern.graph c.map (by omega) (by omega)) wl ?_
     refine wv (h:=?_)
     repeat first|intro _|refine ⟨eP,?_⟩
     refine wq (fun h11=>?_) fun h11=>?_
     ·exact wv (h:=hQ _ _ (by simp [go_sem,hF,iJ,h6,h9,h11];omega))
     ·have hE0:iJ t p c.map c.pattern=0:=by simp [iJ,h6,h9,h11];omega
      rw [hE0,if_neg (by omega)] at hF
      obtain ⟨w,hw⟩:∃ w:Pattern,w=c.pattern:=⟨_,rfl⟩
      have hv:=BH h6
      have hw0:0≤w.vars:=by rw [hw];exact hv.1
      have hw1:w.vars≤12:=by rw [hw];exact hv.2
      have hF':oC t p c=fG (oC t w) c.kids:=by rw [hF,hw]
      refine wv (h:=?_)
      repeat first|intro _|refine ⟨eP,?_⟩
      refine bB (fun i e H=>(e 3=.adr t.c∧e 5=.adr c.c∧e 51=.list (c.kids.map Cond.c)∧e 52=dI c.kids.length∧e 4=.ptr 0 1 0 0∧e 53=dI i)∧(H.get 0=some ⟨53,5,[w.c],false⟩)∧(0<H.next)∧(i≤c.kids.length)∧(fG (oC t w) (c.kids.drop i)=oC t p c)) (fun i=>c.kids.length - i) 0 ⟨wg,(by (simp [go_sem,hw])),wn,wi,(by (exact hF'.symm))⟩ fun I0 hI0 i e H hi0=>?_
      obtain ⟨E0,g0_0,n0_0,hi,hL⟩:=hi0
      have Y:=wa Y (wa E0 (wa g0_0 (bY n0_0)))
      refine cT (fun h15=>?_) fun h15=>?_
      ·have hst:=hL
       rw [i6 _ h15] at hst
       have Y:=wa Y h15
       refine wv (h:=?_)
       repeat first|intro _|refine ⟨eP,?_⟩
       refine aB ((by have:=ih _ (aC h15) w hw0 hw1;rwa [Cond.c_eq] at this)) wl ?_
       refine wv (h:=?_)
       repeat first|intro _|refine ⟨eP,?_⟩
       refine wq (fun h18=>?_) fun h18=>?_
       ·rw [if_pos (by omega)] at hst
        exact wv (h:=hQ _ _ (by simp [go_sem,hst]))
       ·rw [if_neg (by omega)] at hst
        refine wv (h:=?_)
        repeat first|intro _|refine ⟨eP,?_⟩
        exact wx hI0 (i+1) ⟨wg,(by (simp [go_sem,Y])),wn,wj,(by exact hst)⟩
      ·exact wv (h:=hQ _ _ (by rw [← hL,jU _ (by omega)];simp [go_sem]))
 ·rw [if_neg h1,if_neg (by omega),if_neg h1] at hF
  obtain ⟨w,hw⟩:∃ w:Pattern,w=p:=⟨_,rfl⟩
  have hw0:0≤w.vars:=by rw [hw];exact hp0
  have hw1:w.vars≤12:=by rw [hw];exact hp1
  have hF':oC t p c=fG (oC t w) c.kids:=by rw [hF,hw]
  refine wv (h:=?_)
  repeat first|intro _|refine ⟨eP,?_⟩
  refine bB (fun i e H=>(e 3=.adr t.c∧e 5=.adr c.c∧e 51=.list (c.kids.map Cond.c)∧e 52=dI c.kids.length∧e 4=.ptr 0 1 0 0∧e 53=dI i)∧(H.get 0=some ⟨53,5,[w.c],false⟩)∧(0<H.next)∧(i≤c.kids.length)∧(fG (oC t w) (c.kids.drop i)=oC t p c)) (fun i=>c.kids.length - i) 0 ⟨wg,(by (simp [go_sem,hw])),wn,wi,(by (exact hF'.symm))⟩ fun I0 hI0 i e H hi0=>?_
  obtain ⟨E0,g0_0,n0_0,hi,hL⟩:=hi0
  have Y:=wa Y (wa E0 (wa g0_0 (bY n0_0)))
  refine cT (fun h15=>?_) fun h15=>?_
  ·have hst:=hL
   rw [i6 _ h15] at hst
   have Y:=wa Y h15
   refine wv (h:=?_)
   repeat first|intro _|refine ⟨eP,?_⟩
   refine aB ((by have:=ih _ (aC h15) w hw0 hw1;rwa [Cond.c_eq] at this)) wl ?_
   refine wv (h:=?_)
   repeat first|intro _|refine ⟨eP,?_⟩
   refine wq (fun h18=>?_) fun h18=>?_
   ·rw [if_pos (by omega)] at hst
    exact wv (h:=hQ _ _ (by simp [go_sem,hst]))
   ·rw [if_neg (by omega)] at hst
    refine wv (h:=?_)
    repeat first|intro _|refine ⟨eP,?_⟩
    exact wx hI0 (i+1) ⟨wg,(by (simp [go_sem,Y])),wn,wj,(by exact hst)⟩
  ·exact wv (h:=hQ _ _ (by rw [← hL,jU _ (by omega)];simp [go_sem]))
def condF (t:Types)(p:Pattern)(c:Cond):Int :=
 if bT t p≠0 then bT t p else if pP c≠0 then pP c else oC t p c
theorem uC (t:Types)(ht:t.ok)(p:Pattern)(c:Cond)(hc:c.ok)(hs:c.size≤1000000):Pure Tryz.prog 219 [t.d,p.d,.agg c.c] (dI (condF t p c)):=by
 refine Tz.pK ⟨fun _=>false,fun _=>[]⟩ Tryz.func219 rfl (fun Q hQ=>?_)
 have Y:=@Cond.c_eq
 refine wv (h:=aB (lL t ht p) wl ?_)
 refine cT (fun h2=>?_) fun h2=>?_
 ·have Y:=wa Y (wa h2 @condF.eq_1)
  exact wv (h:=hQ _ _ wy)
 ·have hv:=iZ (.inr h2)
  refine wv (h:=aB ((by have:=Cj c hc hs;rwa [Cond.c_eq] at this)) wl ?_)
  refine cT (fun h5=>?_) fun h5=>?_
  ·have Y:=wa Y (wa h2 (wa h5 @condF.eq_1))
   exact wv (h:=hQ _ _ wy)
  ·refine wv (h:=aB ((by have:=A1 t ht c p hv.1 hv.2;rwa [Cond.c_eq] at this)) wl ?_)
   have Y:=wa Y (wa h2 (wa h5 @condF.eq_1))
   exact wv (h:=hQ _ _ wy)
attribute [go_sem] Rule.c Rule.d
@[go_sem] theorem Uh (o:Option Attr)(a0 a1 a2 a3:D):((Option.map Attr.c o).getD [a0,a1,a2,a3]).length=4:=by cases o<;>rfl
@[go_sem] theorem Uf (o:Option NodeTy)(a0 a1 a2 a3:D):((Option.map NodeTy.c o).getD [a0,a1,a2,a3]).length=4:=by cases o<;>rfl
@[go_sem] theorem RC (o:Option EdgeTy)(a0 a1 a2 a3 a4 a5 a6:D):((Option.map EdgeTy.c o).getD [a0,a1,a2,a3,a4,a5,a6]).length=7:=by cases o<;>rfl
@[go_sem] theorem S0 (o:Option Edge)(a0 a1 a2:D):((Option.map Edge.c o).getD [a0,a1,a2]).length=3:=by cases o<;>rfl
@[go_sem] theorem Ud (o:Option Slot)(a0 a1 a2 a3:D):((Option.map Slot.c o).getD [a0,a1,a2,a3]).length=4:=by cases o<;>rfl
@[go_sem] theorem Uc (o:Option Test)(a0 a1 a2 a3 a4:D):((Option.map Test.c o).getD [a0,a1,a2,a3,a4]).length=5:=by cases o<;>rfl
@[go_sem] theorem SZ (o:Option Stage)(a0 a1:D):((Option.map Stage.c o).getD [a0,a1]).length=2:=by cases o<;>rfl
@[go_sem] theorem VD (o:Option Int)(a0:D):((Option.map cI o).getD [a0]).length=1:=by cases o<;>rfl
@[go_sem] theorem VC (o:Option ByteArray)(a0:D):((Option.map cS o).getD [a0]).length=1:=by cases o<;>rfl
@[go_sem] theorem Ug (o:Option Bool)(a0:D):((Option.map cB o).getD [a0]).length=1:=by cases o<;>rfl
theorem Ia (t:Types)(a:Int):Pure Tryz.prog 367 [dI a,.adr t.c] (.bool (decide ((t.nodes.length:Int)≤a))):=by
 refine Tz.pK ⟨fun _=>false,fun _=>[]⟩ Tryz.func367 rfl (fun Q hQ=>?_)
 have Y:=trivial
 exact wo (h:=hQ _ _ wy)
theorem H9 (t:Types)(x:Edge):Pure Tryz.prog 368 [.agg x.c,.adr t.c] (.bool (decide ((t.edges.length:Int)≤x.type))):=by
 refine Tz.pK ⟨fun _=>false,fun _=>[]⟩ Tryz.func368 rfl (fun Q hQ=>?_)
 have Y:=trivial
 exact wo (h:=hQ _ _ wy)
theorem Ke (t:Types)(g:Graph):Pure Tryz.prog 307 [t.d,g.d] (.bool (gU t g)):=by
 have h1:=fB g.nodes 367 [.adr t.c] (fun a=>decide ((t.nodes.length:Int)≤a)) (by simp [go_sem]) (by simp [go_sem]) (fun a _=>Ia t a)
 have h2:=jQ g.edges 368 [.adr t.c] (fun x=>decide ((t.edges.length:Int)≤x.type)) (by simp [go_sem]) (by simp [go_sem]) (fun x _=>H9 t x)
 have he:gU t g=((!(g.nodes.any fun n=>decide ((t.nodes.length:Int)≤n)))&&!(g.edges.any fun x=>decide ((t.edges.length:Int)≤x.type))):=rfl
 generalize (g.nodes.any fun n=>decide ((t.nodes.length:Int)≤n))=u at *
 generalize (g.edges.any fun x=>decide ((t.edges.length:Int)≤x.type))=v at *
 rw [he]
 refine Tz.pK ⟨fun _=>false,fun _=>[]⟩ Tryz.func307 rfl (fun Q hQ=>?_)
 have Y:=trivial
 refine wo (h:=aB (h1) wl ?_)
 refine wo (h:=aK (fun hg=>h2) (fun hg=>wl) ?_)
 exact wo (h:=hQ _ _ wy)
def sameSlot (x y:Slot):Bool:=decide (y.node=x.node)&&decide (y.attr=x.attr)
theorem Kf (x y:Slot):Pure Tryz.prog 370 [.agg y.c,.adr x.c] (.bool (sameSlot x y)):=by
 refine Tz.pK ⟨fun _=>false,fun _=>[]⟩ Tryz.func370 rfl (fun Q hQ=>?_)
 have Y:=trivial
 have Y:=wa Y @sameSlot.eq_1
 exact wo (h:=hQ _ _ wy)
def s9 (t:Types)(p:Pattern)(i:Nat):Int:=match p.slots[i]? with
 | some s=>if fF t p s≠0 then 6 else if ((p.slots.take i).any (sameSlot s))=true then 5 else 0
 | none=>0
theorem AG {t:Types}{p:Pattern}{i:Nat}(h:i<p.slots.length):s9 t p i=if fF t p p.slots[i]≠0 then 6 else if ((p.slots.take i).any (sameSlot p.slots[i]))=true then 5 else 0:=by
 unfold s9;rw [aA h]
theorem Mj (t:Types)(ht:t.ok)(r:Rule)(hr:r.right.graph.nodes.length≤1000)(i:Nat)(hi:i<r.right.slots.length):Pure Tryz.prog 308 [t.d,r.d,dI i] (dI (s9 t r.right i)):=by
 have hS:=AG (t:=t) hi
 have h8:=nO ht (r.right.kind r.right.slots[i].node)
 have hdup:=rG (r.right.slots.take i) 370 [.adr r.right.slots[i].c] (sameSlot r.right.slots[i]) (by simp [go_sem]) (by simp only [D.cl];exact CU _) (fun y _=>Kf r.right.slots[i] y)
 refine Tz.pK ⟨fun t=>t==7||t==10,fun _=>[]⟩ Tryz.func308 rfl (fun Q hQ=>?_)
 have Y:=wa (aA hi) hi
 refine dV (fun h2=>?_) fun h2=>?_
 ·have hE:fF t r.right r.right.slots[i]≠0:=by
   unfold fF;rw [if_neg];decide;intro h;simp [jO] at h;omega
  rw [if_pos hE] at hS
  exact wv (h:=hQ _ _ (by simp [go_sem,hS]))
 ·have hn:r.right.slots[i].node.toNat<r.right.graph.nodes.length:=by omega
  have hk:r.right.kind r.right.slots[i].node=r.right.graph.nodes[r.right.slots[i].node.toNat]:=by simp [Pattern.kind,hn]
  rw [hk] at h8
  have Y:=wa Y (wa (aA hn) hk)
  refine wo (h:=aI (n4 t ht r.right.graph.nodes[r.right.slots[i].node.toNat]) wl ?_)
  refine dV (fun h6=>?_) fun h6=>?_
  ·have hE:fF t r.right r.right.slots[i]≠0:=by
    unfold fF;rw [if_neg];decide;intro h;simp [jO,inF,hk] at h;omega
   rw [if_pos hE] at hS
   exact wv (h:=hQ _ _ (by simp [go_sem,hS]))
  ·have hE:fF t r.right r.right.slots[i]=0:=by
    unfold fF;rw [if_pos];simp [jO,inF,hk];omega
   rw [if_neg (by omega)] at hS
   have hsl:(i:Int)≤r.right.slots.length:=by omega
   refine wo (h:=rH (hdup) wr wl rfl ?_)
   refine dV (fun h8=>?_) fun h8=>?_
   ·exact wv (h:=hQ _ _ (by rw [hS,if_pos (by rw [aU];exact h8)];simp [go_sem]))
   ·exact wv (h:=hQ _ _ (by rw [hS,if_neg (by rw [aU];rintro ⟨x,hx,hs⟩;have:=h8 x hx;rw [this] at hs;cases hs)];simp [go_sem]))
end Go.Abs
end
