/- Layers 6 (the reference) and 7: morphisms, parts. · Layer 22 -/
import Derived.Test.YthalajhajpjjeaaGreatZeF
import Derived.Test.YthalajhajpjjeaaGreatZeI
import Derived.Test.YthalajhajpjjeaaGreatZeA
set_option linter.unusedVariables false
set_option linter.unusedSimpArgs false
section
set_option maxRecDepth 100000
set_option maxHeartbeats 4000000
open Go Go.Proofs
namespace Go.Abs
theorem rA (a b:Graph)(m:Part):Pure Tryz.prog 188 [a.d,b.d,m.d] (dI (dV a b m)):=by
 refine Tz.pK ⟨fun t=>t==11||t==12,fun r=>match r with|21=>[(0,14),(1,14),(3,14),(4,14),(5,14),(6,14),(7,14),(8,14),(10,14),(11,14),(12,14),(13,14),(0,15),(1,15),(3,15),(4,15),(5,15),(6,15),(7,15),(8,15),(10,15),(11,15),(12,15),(13,15),(14,15),(5,16),(6,16),(7,16),(8,16),(10,16),(11,16),(12,16),(13,16)]|_=>[]⟩ Tryz.func188 rfl (fun Q hQ=>?_)
 have Y:=trivial
 refine wv (h:=?_)
 refine aB (jU a) wl ?_
 refine wv (h:=?_)
 refine wq (fun h2=>?_) fun h2=>?_
 ·refine wv (h:=?_)
  exact hQ _ _ (.inl (by simp [go_sem,dV,h2]))
 ·refine wv (h:=?_)
  refine aB (jU b) wl ?_
  refine wv (h:=?_)
  refine wq (fun h5=>?_) fun h5=>?_
  ·refine wv (h:=?_)
   exact hQ _ _ (.inl (by simp [go_sem,dV,h2,h5]))
  ·refine wv (h:=?_)
   repeat first|intro _|refine ⟨dR,?_⟩
   refine wq (fun h7=>?_) fun h7=>?_
   ·refine wv (h:=?_)
    exact hQ _ _ (.inl (by simp [go_sem,dV,h2,h5,show m.nodes.length≠a.nodes.length∨m.edges.length≠a.edges.length by omega]))
   ·have hM:dV a b m=(if bJ (jP a b m) 0 a.nodes.length≠0 then bJ (jP a b m) 0 a.nodes.length else bJ (gL a b m) 0 a.edges.length):=by
     unfold dV;rw [if_neg (by simp [h2]),if_neg (by simp [h5]),if_neg (by omega)]
    have hga:=bK h2
    have hgb:=bK h5
    have hia:=(dP h2).2
    refine wv (h:=?_)
    refine bA (fun i e H=>(e 3=.adr a.c∧e 4=.adr b.c∧e 5=.adr m.c∧e 9=dI i)∧(i≤a.nodes.length)∧(bJ (jP a b m) i (a.nodes.length - i)=bJ (jP a b m) 0 a.nodes.length)) (fun i=>a.nodes.length - i) 0 ⟨wg,wi,(by rfl)⟩ fun I0 hI0 i e H hi0=>?_
    obtain ⟨E0,hi,hF⟩:=hi0
    have Y:=wa Y E0
    refine wv (h:=?_)
    repeat first|intro _|refine ⟨dR,?_⟩
    refine wq (fun h10=>?_) fun h10=>?_
    ·have hn:i<m.nodes.length:=by omega
     have hst:=d7 (jP a b m) h10
     rw [hF] at hst
     have hNE:jP a b m i=(if m.nodes[i]<0∨(b.nodes.length:Int)≤m.nodes[i] then 6 else if b.nodes[m.nodes[i].toNat]?.getD 0≠a.nodes[i] then 13 else 0):=by simp only [jP,aA h10,aA hn,aD]
     have Y:=wa Y (wa h10 hn)
     refine wv (h:=?_)
     repeat first|intro _|refine ⟨dR,?_⟩
     refine wq (fun h12=>?_) fun h12=>?_
     ·rw [if_pos (by omega)] at hNE
      rw [hNE,if_pos (by omega)] at hst
      refine wv (h:=?_)
      exact hQ _ _ (.inl (by simp [go_sem,hM,hst]))
     ·have hkb:m.nodes[i].toNat<b.nodes.length:=by omega
      rw [if_neg (by omega),aA hkb,aD] at hNE
      have Y:=wa Y (aA hkb)
      refine wv (h:=?_)
      repeat first|intro _|refine ⟨dR,?_⟩
      refine wq (fun h14=>?_) fun h14=>?_
      ·rw [if_pos h14] at hNE
       rw [hNE,if_pos (by omega)] at hst
       refine wv (h:=?_)
       exact hQ _ _ (.inl (by simp [go_sem,hM,hst]))
      ·rw [if_neg (by simpa using h14)] at hNE
       rw [hNE,if_neg (by omega)] at hst
       refine wv (h:=?_)
       repeat first|intro _|refine ⟨dR,?_⟩
       exact wx hI0 (i+1) ⟨wg,wj,(by exact hst.symm)⟩
    ·have hN0:bJ (jP a b m) 0 a.nodes.length=0:=by rw [← hF,show a.nodes.length - i=0 by omega];rfl
     rw [hN0,if_neg (by omega)] at hM
     refine wv (h:=?_)
     refine bA (fun k e H=>(e 3=.adr a.c∧e 4=.adr b.c∧e 5=.adr m.c∧e 10=dI k)∧(k≤a.edges.length)∧(bJ (gL a b m) k (a.edges.length - k)=dV a b m)) (fun k=>a.edges.length - k) 0 ⟨wg,wi,(by (exact hM.symm))⟩ fun I2 hI2 k e H hi2=>?_
     obtain ⟨E2,hk,hE⟩:=hi2
     have Y:=wa Y E2
     refine wv (h:=?_)
     repeat first|intro _|refine ⟨dR,?_⟩
     refine wq (fun h17=>?_) fun h17=>?_
     ·have hn:k<m.edges.length:=by omega
      have hst:=d7 (gL a b m) h17
      rw [hE] at hst
      have hx:=hia _ (aC h17)
      have hxf:a.edges[k].from_.toNat<m.nodes.length:=by omega
      have hxt:a.edges[k].to_.toNat<m.nodes.length:=by omega
      have hEE:gL a b m k=(if m.edges[k]<0∨(b.edges.length:Int)≤m.edges[k] then 6 else if a.edges[k].type≠(b.edges[m.edges[k].toNat]?.getD bS).type then 13 else if m.nodes[a.edges[k].from_.toNat]≠(b.edges[m.edges[k].toNat]?.getD bS).from_∨m.nodes[a.edges[k].to_.toNat]≠(b.edges[m.edges[k].toNat]?.getD bS).to_ then 11 else 0):=by
       simp only [gL,aA h17,aA hn,aD,aA hxf,aA hxt]
      have Y:=wa Y (wa h17 (wa hn (wa (aA hxf) (aA hxt))))
      refine wv (h:=?_)
      repeat first|intro _|refine ⟨dR,?_⟩
      refine wq (fun h19=>?_) fun h19=>?_
      ·rw [if_pos (by omega)] at hEE
       rw [hEE,if_pos (by omega)] at hst
       refine wv (h:=?_)
       exact hQ _ _ (.inl (by simp [go_sem,← hst]))
      ·have hkb:m.edges[k].toNat<b.edges.length:=by omega
       rw [if_neg (by omega),aA hkb,aD] at hEE
       have Y:=wa Y (aA hkb)
       refine wv (h:=?_)
       repeat first|intro _|refine ⟨dR,?_⟩
       refine wq (fun h22=>?_) fun h22=>?_
       ·rw [if_pos h22] at hEE
        rw [hEE,if_pos (by omega)] at hst
        refine wv (h:=?_)
        exact hQ _ _ (.inl (by simp [go_sem,← hst]))
       ·rw [if_neg (by simpa using h22)] at hEE
        refine wv (h:=?_)
        repeat first|intro _|refine ⟨dR,?_⟩
        refine wq (fun h24=>?_) fun h24=>?_
        ·rw [if_pos (by omega)] at hEE
         rw [hEE,if_pos (by omega)] at hst
         refine wv (h:=?_)
         exact hQ _ _ (.inl (by simp [go_sem,← hst]))
        ·rw [if_neg (by omega)] at hEE
         rw [hEE,if_neg (by omega)] at hst
         refine wv (h:=?_)
         repeat first|intro _|refine ⟨dR,?_⟩
         exact wx hI2 (k+1) ⟨wg,wj,(by exact hst.symm)⟩
     ·refine wv (h:=?_)
      exact hQ _ _ (.inl (by rw [← hE,show a.edges.length - k=0 by omega];rfl))
theorem mN (l:List Int):Pure Tryz.prog 185 [dLI l] (.bool (decide l.Nodup)):=by
 refine Tz.pK ⟨fun _=>false,fun _=>[]⟩ Tryz.func185 rfl (fun Q hQ=>?_)
 have Y:=trivial
 refine wv (h:=bA (fun i e H=>(e 0=dLI l∧e 3=dI i)∧(i≤l.length)∧(∀ (a b:Nat) (hb:b<l.length),b<i→(hab:a<b)→l[a]≠l[b])) (fun i=>l.length - i) 0 ⟨wg,wi,(by (intro a b hb h;omega))⟩ fun I0 hI0 i e H hi0=>?_)
 obtain ⟨E0,hi,hd⟩:=hi0
 have Y:=wa Y E0
 refine wv (h:=?_)
 repeat first|intro _|refine ⟨dR,?_⟩
 refine wq (fun h2=>?_) fun h2=>?_
 ·have Y:=wa Y h2
  refine wv (h:=bA (fun k e H=>(e 0=dLI l∧e 3=dI i∧e 4=dI k)∧(k≤i)∧(∀ a,a<k→l[a]?≠some l[i])) (fun k=>i - k) 0 ⟨wg,wi,(by (intro a h;omega))⟩ fun I2 hI2 k e H hi2=>?_)
  obtain ⟨E2,hk,hn⟩:=hi2
  have Y:=wa Y E2
  refine c4 (fun h5=>?_) fun h5=>?_
  ·have hkl:k<l.length:=by omega
   have Y:=wa Y (wa h5 hkl)
   refine wv (h:=?_)
   repeat first|intro _|refine ⟨dR,?_⟩
   refine wq (fun h7=>?_) fun h7=>?_
   ·refine wv (h:=?_)
    have hx:¬ l.Nodup:=fun h=>by
     have:=(qQ h).1 h7
     omega
    exact hQ _ _ (by simp [go_sem,hx])
   ·exact wo (h:=wx hI2 (k+1) ⟨wg,wj,(by (exact jB hn (by rw [aA hkl];simpa using fun he=>h7 he.symm)))⟩)
  ·have hd':∀ (a b:Nat) (hb:b<l.length),b<i+1→(hab:a<b)→l[a]≠l[b]:=fun a b hb h hab=>by
    rcases bN b i with h'|h'
    ·exact hd a b hb h' hab
    ·have:b=i:=by omega
     subst this;exact fun he=>hn a (by omega) (by rw [aA (by omega),he])
   exact wo (h:=wx hI0 (i+1) ⟨wg,wj,(by exact hd')⟩)
 ·refine wv (h:=?_)
  have hx:l.Nodup:=by
   rw [List.nodup_iff_pairwise_ne,eD]
   exact fun a b ha hb hab=>hd a b hb (by omega) hab
  exact hQ _ _ (by simp [go_sem,hx])
def EX (l:List Int)(n:Int)(i:Nat):Int :=
 if l[i]?.getD 0<0∨n≤l[i]?.getD 0 then 6 else if 0<i∧l[i]?.getD 0≤l[i - 1]?.getD 0 then 12 else 0
def CT (l:List Int)(n:Int):Int:=bJ (EX l n) 0 l.length
theorem dZ {f:Nat→Int}:∀ (n k:Nat),bJ f k n=0→∀ j,k≤j→j<k+n→f j=0
 | 0,k,_=>fun j h1 h2=>by omega
 | n+1,k,h=>fun j h1 h2=>by
  unfold bJ at h
  split at h
  ·rename_i hne;exact absurd h hne
  ·rename_i hz
   rcases Nat.eq_or_lt_of_le h1 with h3|h3
   ·subst h3;exact bE fun hne=>hz hne
   ·exact dZ n (k+1) h j h3 (by omega)
theorem BA {l : List Int} {n : Int} (h : CT l n = 0) : (∀ x ∈ l, 0 ≤ x ∧ x < n) ∧ l.Pairwise (· < ·) := by
  have hz := dZ _ _ h
  have h1 : ∀ i (hi : i < l.length), (0 ≤ l[i] ∧ l[i] < n) ∧ (∀ h0 : 0 < i, l[i - 1] < l[i]) := fun i hi => by
    have := hz i (by omega) (by omega)
    unfold EX at this
    rw [aA hi, aD] at this
    split at this
    · cases this
    · rename_i h2
      split at this
      · cases this
      · rename_i h3
        refine ⟨by omega, fun h0 => ?_⟩
        rw [aA (show i - 1 < l.length by omega), aD] at h3
        omega
  refine ⟨fun x hx => ?_, eD.2 fun i j hi hj hij => ?_⟩
  · obtain ⟨i, hi, rfl⟩ := aO hx; exact (h1 i hi).1
  · induction j with
    | zero => omega
    | succ j ih =>
      have h2 := (h1 (j + 1) hj).2 (by omega)
      simp only [Nat.add_sub_cancel] at h2
      rcases bN i j with h3 | h3
      · have := ih (by omega) h3; omega
      · have : i = j := by omega
        subst this; exact h2
theorem xU (l:List Int)(n:Int):Pure Tryz.prog 437 [dLI l,dI n] (dI (CT l n)):=by
 refine Tz.pK ⟨fun _=>false,fun _=>[]⟩ Tryz.func437 rfl (fun Q hQ=>?_)
 have Y:=trivial
 refine wv (h:=?_)
 repeat first|intro _|refine ⟨dR,?_⟩
 refine bA (fun i e H=>(e 0=dLI l∧e 1=dI n∧e 7=dLI l∧e 8=dI l.length∧e 9=dI i)∧(i≤l.length)∧(bJ (EX l n) i (l.length - i)=CT l n)) (fun i=>l.length - i) 0 ⟨wg,wi,(by rfl)⟩ fun I0 hI0 i e H hi0=>?_
 obtain ⟨E0,hi,hF⟩:=hi0
 have Y:=wa Y E0
 refine wv (h:=?_)
 refine wq (fun h2=>?_) fun h2=>?_
 ·have hst:=d7 (EX l n) h2
  rw [hF] at hst
  have hA:EX l n i=(if l[i]<0∨n≤l[i] then 6 else if 0<i∧l[i]≤l[i - 1]?.getD 0 then 12 else 0):=by simp only [EX,aA h2,aD]
  have hi1:i - 1<l.length:=by omega
  rw [aA hi1,aD] at hA
  have htn:((i:Int) - 1).toNat=i - 1:=by omega
  have Y:=wa Y (wa h2 (wa htn (aA hi1)))
  refine wv (h:=?_)
  repeat first|intro _|refine ⟨dR,?_⟩
  refine wq (fun h4=>?_) fun h4=>?_
  ·rw [if_pos (by omega)] at hA
   rw [hA,if_pos (by omega)] at hst
   refine wv (h:=?_)
   exact hQ _ _ (.inl (by simp [go_sem,hst]))
  ·rw [if_neg (by omega)] at hA
   refine wv (h:=?_)
   repeat first|intro _|refine ⟨dR,?_⟩
   refine wq (fun h6=>?_) fun h6=>?_
   ·rw [if_pos (by omega)] at hA
    rw [hA,if_pos (by omega)] at hst
    refine wv (h:=?_)
    exact hQ _ _ (.inl (by simp [go_sem,hst]))
   ·rw [if_neg (by omega)] at hA
    rw [hA,if_neg (by omega)] at hst
    refine wv (h:=?_)
    repeat first|intro _|refine ⟨dR,?_⟩
    exact wx hI0 (i+1) ⟨wg,wj,(by exact hst.symm)⟩
 ·refine wv (h:=?_)
  exact hQ _ _ (.inl (by rw [← hF,show l.length - i=0 by omega];rfl))
theorem uK (l:List Int)(n:Int):Pure Tryz.prog 396 [dLI l,dI n] (dI (CT l n)):=by
 refine Tz.pK ⟨fun _=>false,fun _=>[]⟩ Tryz.func396 rfl (fun Q hQ=>?_)
 have Y:=trivial
 refine wv (h:=?_)
 refine bA (fun i e H=>(e 0=dLI l∧e 1=dI n∧e 5=dI i)∧(i≤l.length)∧(bJ (EX l n) i (l.length - i)=CT l n)) (fun i=>l.length - i) 0 ⟨wg,wi,(by rfl)⟩ fun I0 hI0 i e H hi0=>?_
 obtain ⟨E0,hi,hF⟩:=hi0
 have Y:=wa Y E0
 refine wv (h:=?_)
 repeat first|intro _|refine ⟨dR,?_⟩
 refine wq (fun h2=>?_) fun h2=>?_
 ·have hst:=d7 (EX l n) h2
  rw [hF] at hst
  have hA:EX l n i=(if l[i]<0∨n≤l[i] then 6 else if 0<i∧l[i]≤l[i - 1]?.getD 0 then 12 else 0):=by simp only [EX,aA h2,aD]
  have hi1:i - 1<l.length:=by omega
  rw [aA hi1,aD] at hA
  have htn:((i:Int) - 1).toNat=i - 1:=by omega
  have Y:=wa Y (wa h2 (wa htn (aA hi1)))
  refine wv (h:=?_)
  repeat first|intro _|refine ⟨dR,?_⟩
  refine wq (fun h4=>?_) fun h4=>?_
  ·rw [if_pos (by omega)] at hA
   rw [hA,if_pos (by omega)] at hst
   refine wv (h:=?_)
   exact hQ _ _ (.inl (by simp [go_sem,hst]))
  ·rw [if_neg (by omega)] at hA
   refine wv (h:=?_)
   repeat first|intro _|refine ⟨dR,?_⟩
   refine wq (fun h6=>?_) fun h6=>?_
   ·rw [if_pos (by omega)] at hA
    rw [hA,if_pos (by omega)] at hst
    refine wv (h:=?_)
    exact hQ _ _ (.inl (by simp [go_sem,hst]))
   ·rw [if_neg (by omega)] at hA
    rw [hA,if_neg (by omega)] at hst
    refine wv (h:=?_)
    repeat first|intro _|refine ⟨dR,?_⟩
    exact wx hI0 (i+1) ⟨wg,wj,(by exact hst.symm)⟩
 ·refine wv (h:=?_)
  exact hQ _ _ (.inl (by rw [← hF,show l.length - i=0 by omega];rfl))
theorem Gi (l:List Int)(v:Int):Pure Tryz.prog 397 [dLI l,dI v] (.bool (mem l v)):=by
 refine Tz.pK ⟨fun _=>false,fun _=>[]⟩ Tryz.func397 rfl (fun Q hQ=>?_)
 have Y:=trivial
 refine wv (h:=bA (fun i e H=>(e 0=dLI l∧e 1=dI v∧e 5=dI i)∧(i≤l.length)∧(∀ j,j<i→l[j]?≠some v)) (fun i=>l.length - i) 0 ⟨wg,wi,(by (intro j hj;omega))⟩ fun I0 hI0 i e H hi0=>?_)
 obtain ⟨E0,hi,hne⟩:=hi0
 have Y:=wa Y E0
 refine wv (h:=?_)
 repeat first|intro _|refine ⟨dR,?_⟩
 refine wq (fun h2=>?_) fun h2=>?_
 ·have Y:=wa Y h2
  refine wv (h:=?_)
  repeat first|intro _|refine ⟨dR,?_⟩
  refine wq (fun h4=>?_) fun h4=>?_
  ·refine wv (h:=?_)
   have hm:mem l v=true:=(c6 l v).2 (h4 ▸ aC h2)
   exact hQ _ _ (by simp [go_sem,hm])
  ·exact wo (h:=wx hI0 (i+1) ⟨wg,wj,(by (exact jB hne (by rw [aA h2];simpa using h4)))⟩)
 ·refine wv (h:=?_)
  have hm:mem l v=false:=by rw [bH];intro h;obtain ⟨j,hj,he⟩:=aO ((c6 l v).1 h);exact hne j (by omega) (by rw [aA hj,he])
  exact hQ _ _ (by simp [go_sem,hm])
theorem BW (l:List Int)(v:Int):Pure Tryz.prog 264 [dLI l,dI v] (dI (IE l v)):=by
 refine Tz.pK ⟨fun _=>false,fun _=>[]⟩ Tryz.func264 rfl (fun Q hQ=>?_)
 have Y:=trivial
 refine wv (h:=bA (fun i e H=>(e 0=dLI l∧e 1=dI v∧e 5=dI i)∧(i≤l.length)∧(∀ j,j<i→l[j]?≠some v)) (fun i=>l.length - i) 0 ⟨wg,wi,(by (intro j hj;omega))⟩ fun I0 hI0 i e H hi0=>?_)
 obtain ⟨E0,hi,hne⟩:=hi0
 have Y:=wa Y E0
 refine wv (h:=?_)
 repeat first|intro _|refine ⟨dR,?_⟩
 refine wq (fun h2=>?_) fun h2=>?_
 ·have Y:=wa Y h2
  refine wv (h:=?_)
  repeat first|intro _|refine ⟨dR,?_⟩
  refine wq (fun h4=>?_) fun h4=>?_
  ·exact wv (h:=hQ _ _ (by rw [sX hne (by rw [aA h2,h4])];simp [go_sem]))
  ·exact wo (h:=wx hI0 (i+1) ⟨wg,wj,(by (exact jB hne (by rw [aA h2];simpa using h4)))⟩)
 ·exact wv (h:=hQ _ _ (by rw [Aq fun j hj=>hne j (by omega)];simp [go_sem]))
mutual
theorem iP {p:Cond→Prop}(h:∀ c:Cond,(∀ k∈c.kids,p k)→p c):∀ c:Cond,p c
 | .mk k l m q=>h _ (Hf h l)
theorem Hf {p:Cond→Prop}(h:∀ c:Cond,(∀ k∈c.kids,p k)→p c):∀ l:List Cond,∀ k∈l,p k
 | []=>fun k hk=>absurd hk (by simp)
 | c :: l=>fun k hk=>by
  rcases aT.1 hk with h1|h1
  ·rw [h1];exact iP h c
  ·exact Hf h l k h1
end
def bareB (c:Cond):Bool:=decide ((c.map.nodes.length:Int)+c.map.edges.length+c.pattern.graph.nodes.length+c.pattern.graph.edges.length+c.pattern.slots.length+c.pattern.tests.length=0)&&decide (c.pattern.vars=0)
structure Cond.short (c:Cond):Prop where
 m1:c.map.nodes.length≤1000000
 m2:c.map.edges.length≤1000000
 p1:c.pattern.graph.nodes.length≤1000000
 p2:c.pattern.graph.edges.length≤1000000
 p3:c.pattern.slots.length≤1000000
 p4:c.pattern.tests.length≤1000000
theorem EK (c:Cond)(hc:c.short):Pure Tryz.prog 430 [.agg c.c] (.bool (bareB c)):=by
 obtain ⟨h1,h2,h3,h4,h5,h6⟩:=hc
 refine Tz.pK ⟨fun t=>t==3,fun _=>[]⟩ Tryz.func430 rfl (fun Q hQ=>?_)
 have Y:=@Cond.c_eq
 have Y:=wa Y @bareB.eq_1
 exact wo (h:=hQ _ _ wy)
theorem Ek (xs:List Cond)(g:FuncId)(caps:List D)(p:Cond→Bool)(hc:D.clL caps=true)(hg:∀ x∈xs,Pure Tryz.prog g (.agg x.c :: caps) (.bool (p x))) :
  Pure Tryz.prog 455 [.list (xs.map Cond.c),.fn g caps] (dI (Bl xs p)):=by
 refine aN (aI (cfg:=⟨fun _=>false,fun _=>[]⟩) Tz.mixed Tryz.func455 rfl rfl (aF rfl) (by kernel_rfl) ?_)
 simp [go_sem,seval,dI,dLI]
 intro hlen
 refine eX (ι:=Nat) (fun i e H=>H=.emp∧i≤xs.length∧e 0=.list (xs.map Cond.c)∧e 1=.fn g caps∧e 7=dI xs.length∧e 8=dI i∧(∀ j x,j<i→xs[j]?=some x→p x=false)) (fun i=>xs.length - i) 0 (by simp [go_sem,seval,dI,dLI]) ?_
 intro i e H ⟨hH,hi,h0,h1,h7,h8,hn⟩
 subst hH
 simp [go_sem,seval,h0,h1,h7,h8,dI,dLI]
 refine fB (fun hlt=>?_) (fun hge=>?_)
 ·have hgx:=hg xs[i] (aC hlt)
  simp [go_sem,seval,h0,h1,h7,h8,dI,dLI,hlt,Cond.c_eq] at hgx ⊢
  refine aB hgx (by simp [go_sem,hc]) ?_
  simp [go_sem,seval,h0,h1,h7,h8,dI,dLI]
  refine aP (fun h=>?_) (fun h=>?_)
  ·simp [go_sem,seval,h0,h1,h7,h8,dI,dLI]
   rw [nO hn hlt h]
  ·simp [go_sem,seval,h0,h1,h7,h8,dI,dLI]
   refine ⟨cG (by omega) (by omega),i+1,by omega,by omega,by omega,fun j x hj hx=>?_⟩
   rcases bN j i with hj'|hj'
   ·exact hn j x hj' hx
   ·have:j=i:=by omega
    subst this
    rw [aA hlt] at hx
    cases hx;exact h
 ·simp [go_sem,seval,h0,h1,h7,h8,dI,dLI]
  rw [nP fun j x hj=>hn j x (by omega)]
theorem AC (xs:List Cond)(g:FuncId)(caps:List D)(p:Cond→Bool)(hc:D.clL caps=true)(hl:D.cl (.list (xs.map Cond.c))=true)(hg:∀ x∈xs,Pure Tryz.prog g (.agg x.c :: caps) (.bool (p x))) :
  Pure Tryz.prog 431 [.list (xs.map Cond.c),.fn g caps] (.bool (xs.any p)):=by
 refine aN (aI (cfg:=⟨fun _=>false,fun _=>[]⟩) Tz.mixed Tryz.func431 rfl rfl (aF rfl) (by kernel_rfl) ?_)
 simp [go_sem,seval]
 refine aB (Ek xs g caps p hc hg) (by simp only [D.clL,hl,fQ];simp [D.cl,hc]) ?_
 simp [go_sem,seval,dI,qB]
def o7 (c:Cond):Bool :=
 if c.kind=1 then decide ((c.kids.length:Int)=0)&&bareB c
 else if c.kind=2 then decide ((c.kids.length:Int)=1)&&bareB c
 else if c.kind=3∨c.kind=4 then decide (1≤(c.kids.length:Int))&&bareB c
 else decide (c.kind=5)&&decide ((c.kids.length:Int)=1)
mutual
def IG:Cond→Bool
 | .mk k l m p=>o7 (.mk k l m p)&&P1 l
def P1:List Cond→Bool
 | []=>true
 | c :: l=>IG c&&P1 l
end
theorem P0 (l:List Cond):P1 l=l.all IG:=by
 induction l with
 | nil=>rfl
 | cons a l ih=>simp [P1,ih]
theorem rU (c:Cond):IG c=(o7 c&&c.kids.all IG):=by cases c;simp [IG,P0,Cond.kids]
mutual
def Cond.ok:Cond→Prop
 | .mk k l m p=>(Cond.mk k l m p).short∧Cond.oks l
def Cond.oks:List Cond→Prop
 | []=>True
 | c :: l=>c.ok∧Cond.oks l
end
theorem IB (l:List Cond):Cond.oks l↔∀ c∈l,c.ok:=by
 induction l with
 | nil=>simp [Cond.oks]
 | cons a l ih=>simp [Cond.oks,ih]
theorem rT (c:Cond):c.ok↔c.short∧∀ k∈c.kids,k.ok:=by cases c;simp [Cond.ok,IB,Cond.kids]
theorem X2 (c:Cond)(h:Pure Tryz.prog 377 [.agg c.c] (.bool (IG c))):Pure Tryz.prog 432 [.agg c.c] (.bool (!IG c)):=by
 refine Tz.pK ⟨fun _=>false,fun _=>[]⟩ Tryz.func432 rfl (fun Q hQ=>?_)
 have Y:=@Cond.c_eq
 refine wo (h:=aB ((by simpa [Cond.c_eq,go_sem] using h)) wl ?_)
 exact wo (h:=hQ _ _ wy)
theorem wN:∀ c:Cond,c.ok→Pure Tryz.prog 377 [.agg c.c] (.bool (IG c)):=by
 refine iP fun c ih hc=>?_
 obtain ⟨hs,hk⟩:=(rT c).1 hc
 have hkids:=AC c.kids 432 [] (fun k=>!IG k) rfl (by simp [go_sem]) (fun k hm=>X2 k (ih k hm (hk k hm)))
 have hbare:∀ k':Int,k'=c.kind→Pure Tryz.prog 430 [.agg [dI k',.list (c.kids.map Cond.c),dLI c.map.nodes,dLI c.map.edges,dLI c.pattern.graph.nodes,.list (c.pattern.graph.edges.map Edge.c),.list (c.pattern.slots.map Slot.c),dI c.pattern.vars,.list (c.pattern.tests.map Test.c)]] (.bool (bareB c)):=by
  intro k' hk'
  have:=EK c hs
  rwa [Cond.c_eq,← hk'] at this
 have hall:(!(c.kids.any fun k=>!IG k))=c.kids.all IG:=by simp [List.not_any_eq_all_not]
 refine Tz.pK ⟨fun _=>false,fun _=>[]⟩ Tryz.func377 rfl (fun Q hQ=>?_)
 have Y:=@Cond.c_eq
 refine eF (fun h4=>?_) fun h4=>?_
 ·have Y:=wa Y h4
  refine wo (h:=aG (fun hg=>(hbare _ (by omega))) (fun hg=>wl) ?_)
  refine wo (h:=aG (fun hg=>hkids) (fun hg=>wl) ?_)
  exact wo (h:=hQ _ _ (by simp [go_sem,rU,← hall,o7,Y]))
 ·have Y:=wa Y h4
  refine c4 (fun h6=>?_) fun h6=>?_
  ·have Y:=wa Y h6
   refine wo (h:=aG (fun hg=>(hbare _ (by omega))) (fun hg=>wl) ?_)
   refine wo (h:=aG (fun hg=>hkids) (fun hg=>wl) ?_)
   exact wo (h:=hQ _ _ (by simp [go_sem,rU,← hall,o7,Y]))
  ·have Y:=wa Y h6
   refine c4 (fun h8=>?_) fun h8=>?_
   ·have Y:=wa Y h8
    refine wo (h:=aG (fun hg=>(hbare _ (by omega))) (fun hg=>wl) ?_)
    refine wo (h:=aG (fun hg=>hkids) (fun hg=>wl) ?_)
    exact wo (h:=hQ _ _ (by simp [go_sem,rU,← hall,o7,Y]))
   ·have Y:=wa Y h8
    refine c4 (fun h9=>?_) fun h9=>?_
    ·have Y:=wa Y h9
     refine wo (h:=aG (fun hg=>(hbare _ (by omega))) (fun hg=>wl) ?_)
     refine wo (h:=aG (fun hg=>hkids) (fun hg=>wl) ?_)
     exact wo (h:=hQ _ _ (by simp [go_sem,rU,← hall,o7,Y]))
    ·have Y:=wa Y h9
     refine c4 (fun h11=>?_) fun h11=>?_
     ·have Y:=wa Y h11
      refine wo (h:=aG (fun hg=>hkids) (fun hg=>wl) ?_)
      exact wo (h:=hQ _ _ (by simp [go_sem,rU,← hall,o7,Y]))
     ·have Y:=wa Y h11
      refine wo (h:=aG (fun hg=>hkids) (fun hg=>wl) ?_)
      exact wo (h:=hQ _ _ (by simp [go_sem,rU,← hall,o7,Y]))
mutual
def Cond.size:Cond→Nat
 | .mk _ l _ _=>1+Cond.sizes l
def Cond.sizes:List Cond→Nat
 | []=>0
 | c :: l=>c.size+Cond.sizes l
end
mutual
def Cond.dep:Cond→Nat
 | .mk k l _ _=>Cond.deps l+(if k=5 then 1 else 0)
def Cond.deps:List Cond→Nat
 | []=>0
 | c :: l=>max c.dep (Cond.deps l)
end
theorem Dt (l:List Cond)(c:Cond):Cond.sizes (l++[c])=Cond.sizes l+c.size:=by
 induction l with
 | nil=>simp [Cond.sizes]
 | cons a l ih=>simp [Cond.sizes,ih];omega
theorem GY (l:List Cond)(c:Cond):Cond.deps (l++[c])=max (Cond.deps l) c.dep:=by
 induction l with
 | nil=>simp [Cond.deps]
 | cons a l ih=>simp only [eL,Cond.deps,ih];omega
theorem tM (c:Cond):c.size=1+Cond.sizes c.kids:=by cases c;simp [Cond.size,Cond.kids]
theorem Pp (c:Cond):c.dep=Cond.deps c.kids+(if c.kind=5 then 1 else 0):=by cases c;rw [Cond.dep];rfl
@[go_sem] theorem Sz:Cond.sizes []=0:=by simp [Cond.sizes]
@[go_sem] theorem UT:Cond.deps []=0:=by simp [Cond.deps]
theorem zR {l:List Cond}{c:Cond}(h:c∈l):c.size≤Cond.sizes l:=by
 induction l with
 | nil=>cases h
 | cons a l ih =>
  rcases aT.1 h with h1|h1
  ·subst h1;simp only [Cond.sizes];omega
  ·have:=ih h1;simp only [Cond.sizes];omega
theorem Ds (l:List Cond)(i:Nat):Cond.sizes (l.take i)≤Cond.sizes l:=by
 induction l generalizing i with
 | nil=>simp
 | cons a l ih=>cases i with
  | zero=>simp [Cond.sizes]
  | succ i=>have:=ih i;simp only [qR,Cond.sizes];omega
mutual
theorem L2:∀ c:Cond,c.dep≤c.size
 | .mk k l m p=>by have:=xB l;simp only [Cond.dep,Cond.size];split<;>omega
theorem xB:∀ l:List Cond,Cond.deps l≤Cond.sizes l
 | []=>by simp [Cond.deps]
 | c :: l=>by have:=L2 c;have:=xB l;simp only [Cond.deps,Cond.sizes];omega
end
theorem FE (a b:Nat):(if (a:Int)<(b:Int) then (b:Int) else (a:Int))=((max a b:Nat):Int):=by split<;>omega
theorem AF:∀ c:Cond,c.size≤1000000→Pure Tryz.prog 378 [.agg c.c] (.tup [dI c.size,dI c.dep]):=by
 refine iP fun c ih hc=>?_
 have hse:=tM c
 have hde:=Pp c
 have hle:=xB c.kids
 refine Tz.pK ⟨fun t=>t==7,fun _=>[]⟩ Tryz.func378 rfl (fun Q hQ=>?_)
 try simp [go_sem,seval,Cond.c_eq]
 repeat first|intro _|refine ⟨dR,?_⟩
 obtain ⟨I0,hI0⟩:∃ I0:Nat→dA→AHeap→Prop,∀ (i:Nat) (e:dA) (H:AHeap),I0 i e H↔((e 1=.adr c.c)∧(e 11=.list (c.kids.map Cond.c))∧(e 12=dI c.kids.length)∧(e 4=dI ((1+Cond.sizes (c.kids.take i):Nat):Int))∧(e 5=dI (Cond.deps (c.kids.take i):Nat))∧(e 13=dI i)∧(i≤c.kids.length)):=⟨fun i e H=>_,fun _ _ _=>Iff.rfl⟩
 refine uN I0 (fun i=>c.kids.length - i) (0) ((hI0 _ _ _).2 ⟨?_,?_,?_,?_,?_,?_,(by first|assumption|omega|(simp [go_sem,Cond.c_eq];done)|(simp_all;done))⟩) ?_
 iterate 6 (first|omega|(simp [go_sem,seval,Cond.c_eq]<;>omega))
 intro i e H hi0
 obtain ⟨q1_0,q11_0,q12_0,q4_0,q5_0,q13_0,hi⟩:=(hI0 _ _ _).1 hi0
 have F0:=And.intro q1_0 (And.intro q11_0 (And.intro q12_0 q13_0))
 try simp [go_sem,seval,Cond.c_eq,F0,q4_0,q5_0]
 refine aP (fun h3=>?_) (fun h3=>?_)
 ·try simp [go_sem] at h3
  have hsm:=zR (aC h3)
  have hdm:=L2 c.kids[i]
  have hts:=aE h3
  have h1s:=Dt (c.kids.take i) c.kids[i]
  have h1d:=GY (c.kids.take i) c.kids[i]
  have hst:=Ds c.kids (i+1)
  have hS:Cond.sizes (c.kids.take (i+1))=Cond.sizes (c.kids.take i)+c.kids[i].size:=by rw [hts,h1s]
  have hD:Cond.deps (c.kids.take (i+1))=max (Cond.deps (c.kids.take i)) c.kids[i].dep:=by rw [hts,h1d]
  have hdt:=xB (c.kids.take i)
  try simp [go_sem,seval,Cond.c_eq,F0,q4_0,q5_0,h3,hS,hD,FE]
  repeat first|intro _|refine ⟨dR,?_⟩
  refine aB ((by have:=ih _ (aC h3) (by omega);rwa [Cond.c_eq] at this)) ((by first|rfl|(simp [go_sem,← List.map_take,← List.map_drop,Cond.c_eq,F0,q4_0,q5_0,h3,hS,hD,FE];done))) ?_
  try simp [go_sem,seval,Cond.c_eq,F0,q4_0,q5_0,h3,hS,hD,FE]
  repeat first|intro _|refine ⟨dR,?_⟩
  refine fR (i+1) (by omega) ((hI0 _ _ _).2 ⟨?_,?_,?_,?_,?_,?_,(by first|assumption|omega|(simp [go_sem,Cond.c_eq,F0,q4_0,q5_0,h3,hS,hD,FE];done)|(simp_all<;>omega))⟩)<;>first|omega|(simp [go_sem,seval,Cond.c_eq,F0,q4_0,q5_0,h3,hS,hD,FE]<;>omega)
 ·try simp [go_sem] at h3
  have hU:c.kids.take i=c.kids:=aH h3
  rw [hU] at q4_0 q5_0
  try simp [go_sem,seval,Cond.c_eq,F0,q4_0,q5_0]
  refine aP (fun h8=>?_) (fun h8=>?_)
  ·try simp [go_sem] at h8
   try simp [go_sem,seval,Cond.c_eq,F0,q4_0,q5_0]
   repeat first|intro _|refine ⟨dR,?_⟩
   exact hQ _ _ (by first|(left;(simp [go_sem,hse,hde,h8]);done)|(right;(simp [go_sem,hse,hde,h8]);done))
  ·try simp [go_sem] at h8
   try simp [go_sem,seval,Cond.c_eq,F0,q4_0,q5_0]
   exact hQ _ _ (by first|(left;(simp [go_sem,hse,hde,h8]);done)|(right;(simp [go_sem,hse,hde,h8]);done))
def pX (c:Cond):Int:=if IG c=false then 1 else if 12<c.size∨3<c.dep then 3 else 0
theorem CN (c:Cond)(hc:c.ok)(hs:c.size≤1000000):Pure Tryz.prog 317 [.agg c.c] (dI (pX c)):=by
 refine Tz.pK ⟨fun _=>false,fun _=>[]⟩ Tryz.func317 rfl (fun Q hQ=>?_)
 have Y:=@Cond.c_eq
 refine wo (h:=aB ((by have:=wN c hc;rwa [Cond.c_eq] at this)) wl ?_)
 refine eF (fun h1=>?_) fun h1=>?_
 ·exact wv (h:=hQ _ _ (by simp [go_sem,pX,h1]))
 ·refine wv (h:=aB ((by have:=AF c hs;rwa [Cond.c_eq] at this)) wl ?_)
  refine eF (fun h4=>?_) fun h4=>?_
  ·exact wv (h:=hQ _ _ (by simp [go_sem,pX,h1];omega))
  ·exact wv (h:=hQ _ _ (by simp [go_sem,pX,h1];omega))
def lZ (t:Types)(q:Pattern)(outer:Int):Int :=
 if bV t q≠9 then bV t q
 else if ((List.range q.vars.toNat).all fun (v:Nat)=>decide ((v:Int)<outer)||iQ q v)=true then 0 else 9
theorem Cb {t:Types}{q:Pattern}{outer:Int}(h:bV t q=9)(h0:0≤outer)(ho:∀ v:Int,outer≤v→v<q.vars→iQ q v=true):lZ t q outer=0:=by
 unfold lZ
 rw [if_neg (by omega),if_pos]
 rw [bX]
 intro v hv
 simp at hv ⊢
 by_cases hlt:(v:Int)<outer
 ·exact .inl hlt
 ·exact .inr (ho v (by omega) (by omega))
theorem Cd {t:Types}{q:Pattern}{outer:Int}(h:bV t q=9)(h0:0≤outer){v:Int}(h1:outer≤v)(h2:v<q.vars)(h3:iQ q v=false):lZ t q outer=9:=by
 unfold lZ
 rw [if_neg (by omega),if_neg]
 intro ha
 rw [bX] at ha
 have:=ha v.toNat (by simp;omega)
 simp at this
 rw [show max v 0=v by omega,h3] at this
 simp at this;omega
theorem GV {f:Nat→Int}{m:Int}(h0:(0:Int)≠m)(h:∀ j,f j≠m):∀ n k,bJ f k n≠m
 | 0,k=>h0
 | n+1,k=>by unfold bJ;split;exact h k;exact GV h0 h n (k+1)
theorem y5 {f:Nat→Int}{nm:Nat→ByteArray}{last:ByteArray × Int}{m:Int}(h0:last.2≠m)(h:∀ j,f j≠m):∀ n k,(dS f nm last k n).2≠m
 | 0,k=>h0
 | n+1,k=>by unfold dS;split;exact h k;exact y5 h0 h n (k+1)
theorem GB:∀ (r l:List ByteArray),lJ l r≠9
 | [],l=>by simp [lJ]
 | s :: r,l=>by
  unfold lJ
  split
  ·decide
  ·split
   ·decide
   ·exact GB r _
theorem NW (l:List ByteArray):lW l≠9:=by unfold lW;split;decide;exact GB l []
theorem FS (x:Attr)(l:List Attr):cY x l≠9:=by
 have:=NW x.names
 unfold cY
 repeat' split
 all_goals first|assumption|decide
theorem O2 (t:Types)(i:Nat):f5 t i≠9:=by
 unfold f5
 split
 ·decide
 ·repeat' split
  all_goals first|decide|skip
  refine GV (by decide) (fun j=>?_) _ _
  split
  ·exact FS _ _
  ·decide
theorem Pl (t:Types)(i:Nat):iW t i≠9:=by
 unfold iW
 split
 ·decide
 ·repeat' split
  all_goals decide
theorem F5 (t:Types):(b8 t).2≠9:=by
 unfold b8
 split
 ·decide
 ·split
  ·decide
  ·exact y5 (y5 (by decide) (Pl t) _ _) (O2 t) _ _
theorem y9 (s:Slot)(v:Int):Pure Tryz.prog 433 [.agg s.c,.adr [dI v]] (.bool (decide (s.term.var=v))):=by
 refine Tz.pK ⟨fun _=>false,fun _=>[]⟩ Tryz.func433 rfl (fun Q hQ=>?_)
 have Y:=trivial
 exact wv (h:=hQ _ _ wy)
theorem Eh (xs:List Slot)(g:FuncId)(caps:List D)(p:Slot→Bool)(hc:D.clL caps=true)(hg:∀ x∈xs,Pure Tryz.prog g (.agg x.c :: caps) (.bool (p x))) :
  Pure Tryz.prog 429 [.list (xs.map Slot.c),.fn g caps] (dI (Bl xs p)):=by
 refine aN (aI (cfg:=⟨fun _=>false,fun _=>[]⟩) Tz.mixed Tryz.func429 rfl rfl (aF rfl) (by kernel_rfl) ?_)
 simp [go_sem,seval,dI,dLI]
 intro hlen
 refine eX (ι:=Nat) (fun i e H=>H=.emp∧i≤xs.length∧e 0=.list (xs.map Slot.c)∧e 1=.fn g caps∧e 7=dI xs.length∧e 8=dI i∧(∀ j x,j<i→xs[j]?=some x→p x=false)) (fun i=>xs.length - i) 0 (by simp [go_sem,seval,dI,dLI]) ?_
 intro i e H ⟨hH,hi,h0,h1,h7,h8,hn⟩
 subst hH
 simp [go_sem,seval,h0,h1,h7,h8,dI,dLI]
 refine fB (fun hlt=>?_) (fun hge=>?_)
 ·have hgx:=hg xs[i] (aC hlt)
  simp [go_sem,seval,h0,h1,h7,h8,dI,dLI,hlt,Slot.c] at hgx ⊢
  refine aB hgx (by simp [go_sem,hc]) ?_
  simp [go_sem,seval,h0,h1,h7,h8,dI,dLI]
  refine aP (fun h=>?_) (fun h=>?_)
  ·simp [go_sem,seval,h0,h1,h7,h8,dI,dLI]
   rw [nO hn hlt h]
  ·simp [go_sem,seval,h0,h1,h7,h8,dI,dLI]
   refine ⟨cG (by omega) (by omega),i+1,by omega,by omega,by omega,fun j x hj hx=>?_⟩
   rcases bN j i with hj'|hj'
   ·exact hn j x hj' hx
   ·have:j=i:=by omega
    subst this
    rw [aA hlt] at hx
    cases hx;exact h
 ·simp [go_sem,seval,h0,h1,h7,h8,dI,dLI]
  rw [nP fun j x hj=>hn j x (by omega)]
theorem rO (xs:List Slot)(g:FuncId)(caps:List D)(p:Slot→Bool)(hc:D.clL caps=true)(hl:D.cl (.list (xs.map Slot.c))=true)(hg:∀ x∈xs,Pure Tryz.prog g (.agg x.c :: caps) (.bool (p x))) :
  Pure Tryz.prog 374 [.list (xs.map Slot.c),.fn g caps] (.bool (xs.any p)):=by
 refine aN (aI (cfg:=⟨fun _=>false,fun _=>[]⟩) Tz.mixed Tryz.func374 rfl rfl (aF rfl) (by kernel_rfl) ?_)
 simp [go_sem,seval]
 refine aB (Eh xs g caps p hc hg) (by simp only [D.clL,hl,fQ];simp [D.cl,hc]) ?_
 simp [go_sem,seval,dI,qB]
theorem jD {t : Types} {q : Pattern} (h : bV t q = 9 ∨ bV t q = 0) : 0 ≤ q.vars ∧ q.vars ≤ 12 := by
  have hne := F5 t
  unfold bV at h
  by_cases h1 : (b8 t).2 = 0
  · rw [if_neg (by omega)] at h
    by_cases h2 : graphF q.graph = 0
    · rw [if_neg (by omega)] at h
      split at h
      · omega
      · split at h
        · omega
        · rename_i h3; simp [inF] at h3; omega
    · rw [if_pos h2] at h
      have h3 : graphF q.graph ≠ 9 := by unfold graphF; repeat' split
                                         all_goals decide
      omega
  · rw [if_pos h1] at h
    omega
theorem AE (t:Types)(ht:t.ok)(q:Pattern)(outer:Int)(h0:0≤outer):Pure Tryz.prog 379 [t.d,q.d,dI outer] (dI (lZ t q outer)):=by
 refine Tz.pK ⟨fun t=>t==8,fun _=>[]⟩ Tryz.func379 rfl (fun Q hQ=>?_)
 have Y:=trivial
 refine wv (h:=aB (lS t ht q) wl ?_)
 refine c4 (fun h2=>?_) fun h2=>?_
 ·exact wv (h:=hQ _ _ (by simp [go_sem,lZ,h2]))
 ·have hv:=jD (.inl h2)
  refine wv (h:=bA (fun v e H=>∃ id:Nat,(e 4=.adr q.c∧e 7=dI 9∧e 8=.ptr id 1 0 0)∧(H.get id=some ⟨3,1,[[dI (outer+v)]],false⟩)∧(id<H.next)∧(∀ u:Int,outer≤u→u<outer+v→iQ q u=true)) (fun v=>(q.vars - outer).toNat - v) 0 ⟨0,wg,wn,wn,(by (intro u hu hv;omega))⟩ fun I0 hI0 v e H hi0=>?_)
  obtain ⟨id,E0,gid_0,nid_0,ho⟩:=hi0
  have Y:=wa Y (wa E0 (wa gid_0 (bZ nid_0)))
  refine c4 (fun h5=>?_) fun h5=>?_
  ·have hOv:(q.slots.any fun s=>decide (s.term.var=outer+v))=iQ q (outer+v):=rfl
   have Y:=wa Y (wa h5 hOv)
   refine wo (h:=rP ((rO q.slots 433 [.adr [dI (outer+v)]] (fun s=>decide (s.term.var=outer+v)) (by simp [go_sem]) (by simp [go_sem]) (fun s _=>y9 s (outer+v)))) wr wl rfl ?_)
   refine eF (fun h7=>?_) fun h7=>?_
   ·exact wv (h:=hQ _ _ (by rw [Cd h2 h0 (v:=outer+v) (by omega) h5 (by simpa using h7)];simp [go_sem]))
   ·have ho':∀ u:Int,outer≤u→u<outer+((v+1:Nat):Int)→iQ q u=true:=fun u hu hv=>by
     by_cases hc:u<outer+v
     ·exact ho u hu hc
     ·rw [show u=outer+v by omega];simpa using h7
    exact wo (h:=wx hI0 (v+1) ⟨H.next,wg,wn,wn,(by exact ho')⟩)
  ·exact wv (h:=hQ _ _ (by rw [Cb h2 h0 fun u hu hv=>ho u hu (by omega)];simp [go_sem]))
def iR (t:Types)(p:Pattern)(m:Part)(q:Pattern):Int :=
 if q.vars<p.vars then 20
 else if lZ t q p.vars≠0 then lZ t q p.vars
 else if dV p.graph q.graph m≠0 then dV p.graph q.graph m
 else if Eg p.graph q.graph m=false then 1 else 0
mutual
def oM (t:Types):Pattern→Cond→Int
 | p,.mk k l m q=>if (if k=5 then iR t p m q else 0)≠0 then (if k=5 then iR t p m q else 0) else Pb t (if k=5 then q else p) l
def Pb (t:Types):Pattern→List Cond→Int
 | _,[]=>0
 | p,c :: l=>if oM t p c≠0 then oM t p c else Pb t p l
end
theorem Qp (t:Types)(p:Pattern)(l:List Cond):Pb t p l=fO (oM t p) l:=by
 induction l with
 | nil=>simp [Pb,fO]
 | cons a l ih=>simp only [Pb,fO,ih]
theorem C5 (t:Types)(p:Pattern)(c:Cond):oM t p c=if (if c.kind=5 then iR t p c.map c.pattern else 0)≠0 then (if c.kind=5 then iR t p c.map c.pattern else 0) else fO (oM t (if c.kind=5 then c.pattern else p)) c.kids:=by
 cases c;simp only [oM,Qp];rfl
theorem Cc {t:Types}{q:Pattern}{o:Int}(h:lZ t q o=0):0≤q.vars∧q.vars≤12:=by
 unfold lZ at h
 split at h
 ·exact jD (.inr h)
 ·rename_i h1;exact jD (t:=t) (.inl (by omega))
theorem Bs (t:Types)(ht:t.ok):∀ (c:Cond) (p:Pattern),0≤p.vars→p.vars≤12→Pure Tryz.prog 318 [t.d,p.d,.agg c.c] (dI (oM t p c)):=by
 refine iP fun c ih p hp0 hp1=>?_
 have hF:=C5 t p c
 refine Tz.pK ⟨fun t=>t==4||t==7||t==11,fun _=>[]⟩ Tryz.func318 rfl (fun Q hQ=>?_)
 have Y:=@Cond.c_eq
 refine c4 (fun h1=>?_) fun h1=>?_
 ·rw [if_pos h1,if_pos h1] at hF
  refine c4 (fun h3=>?_) fun h3=>?_
  ·exact wv (h:=hQ _ _ (by simp [go_sem,hF,iR,h3]))
  ·refine wv (h:=aB (AE t ht c.pattern p.vars hp0) wl ?_)
   refine c4 (fun h6=>?_) fun h6=>?_
   ·exact wv (h:=hQ _ _ (by simp [go_sem,hF,iR,h6];omega))
   ·refine wv (h:=aB (mS p.graph c.pattern.graph c.map) wl ?_)
    refine c4 (fun h9=>?_) fun h9=>?_
    ·exact wv (h:=hQ _ _ (by simp [go_sem,hF,iR,h6,h9];omega))
    ·have hm:=lX h9
     have hga:=bK hm.1
     refine wv (h:=?_)
     repeat first|intro _|refine ⟨dR,?_⟩
     refine aB (p8 p.graph c.pattern.graph c.map (by omega) (by omega)) wl ?_
     refine wv (h:=?_)
     repeat first|intro _|refine ⟨dR,?_⟩
     refine wq (fun h11=>?_) fun h11=>?_
     ·exact wv (h:=hQ _ _ (by simp [go_sem,hF,iR,h6,h9,h11];omega))
     ·have hE0:iR t p c.map c.pattern=0:=by simp [iR,h6,h9,h11];omega
      rw [hE0,if_neg (by omega)] at hF
      obtain ⟨w,hw⟩:∃ w:Pattern,w=c.pattern:=⟨_,rfl⟩
      have hv:=Cc h6
      have hw0:0≤w.vars:=by rw [hw];exact hv.1
      have hw1:w.vars≤12:=by rw [hw];exact hv.2
      have hF':oM t p c=fO (oM t w) c.kids:=by rw [hF,hw]
      refine wv (h:=?_)
      repeat first|intro _|refine ⟨dR,?_⟩
      refine bA (fun i e H=>(e 3=.adr t.c∧e 5=.adr c.c∧e 51=.list (c.kids.map Cond.c)∧e 52=dI c.kids.length∧e 4=.ptr 0 1 0 0∧e 53=dI i)∧(H.get 0=some ⟨33,5,[w.c],false⟩)∧(0<H.next)∧(i≤c.kids.length)∧(fO (oM t w) (c.kids.drop i)=oM t p c)) (fun i=>c.kids.length - i) 0 ⟨wg,(by (simp [go_sem,hw])),wn,wi,(by (exact hF'.symm))⟩ fun I0 hI0 i e H hi0=>?_
      obtain ⟨E0,g0_0,n0_0,hi,hL⟩:=hi0
      have Y:=wa Y (wa E0 (wa g0_0 (bZ n0_0)))
      refine c4 (fun h15=>?_) fun h15=>?_
      ·have hst:=hL
       rw [jG _ h15] at hst
       have Y:=wa Y h15
       refine wv (h:=?_)
       repeat first|intro _|refine ⟨dR,?_⟩
       refine aB ((by have:=ih _ (aC h15) w hw0 hw1;rwa [Cond.c_eq] at this)) wl ?_
       refine wv (h:=?_)
       repeat first|intro _|refine ⟨dR,?_⟩
       refine wq (fun h18=>?_) fun h18=>?_
       ·rw [if_pos (by omega)] at hst
        exact wv (h:=hQ _ _ (by simp [go_sem,hst]))
       ·rw [if_neg (by omega)] at hst
        refine wv (h:=?_)
        repeat first|intro _|refine ⟨dR,?_⟩
        exact wx hI0 (i+1) ⟨wg,(by (simp [go_sem,Y])),wn,wj,(by exact hst)⟩
      ·exact wv (h:=hQ _ _ (by rw [← hL,kB _ (by omega)];simp [go_sem]))
 ·rw [if_neg h1,if_neg (by omega),if_neg h1] at hF
  obtain ⟨w,hw⟩:∃ w:Pattern,w=p:=⟨_,rfl⟩
  have hw0:0≤w.vars:=by rw [hw];exact hp0
  have hw1:w.vars≤12:=by rw [hw];exact hp1
  have hF':oM t p c=fO (oM t w) c.kids:=by rw [hF,hw]
  refine wv (h:=?_)
  repeat first|intro _|refine ⟨dR,?_⟩
  refine bA (fun i e H=>(e 3=.adr t.c∧e 5=.adr c.c∧e 51=.list (c.kids.map Cond.c)∧e 52=dI c.kids.length∧e 4=.ptr 0 1 0 0∧e 53=dI i)∧(H.get 0=some ⟨33,5,[w.c],false⟩)∧(0<H.next)∧(i≤c.kids.length)∧(fO (oM t w) (c.kids.drop i)=oM t p c)) (fun i=>c.kids.length - i) 0 ⟨wg,(by (simp [go_sem,hw])),wn,wi,(by (exact hF'.symm))⟩ fun I0 hI0 i e H hi0=>?_
  obtain ⟨E0,g0_0,n0_0,hi,hL⟩:=hi0
  have Y:=wa Y (wa E0 (wa g0_0 (bZ n0_0)))
  refine c4 (fun h15=>?_) fun h15=>?_
  ·have hst:=hL
   rw [jG _ h15] at hst
   have Y:=wa Y h15
   refine wv (h:=?_)
   repeat first|intro _|refine ⟨dR,?_⟩
   refine aB ((by have:=ih _ (aC h15) w hw0 hw1;rwa [Cond.c_eq] at this)) wl ?_
   refine wv (h:=?_)
   repeat first|intro _|refine ⟨dR,?_⟩
   refine wq (fun h18=>?_) fun h18=>?_
   ·rw [if_pos (by omega)] at hst
    exact wv (h:=hQ _ _ (by simp [go_sem,hst]))
   ·rw [if_neg (by omega)] at hst
    refine wv (h:=?_)
    repeat first|intro _|refine ⟨dR,?_⟩
    exact wx hI0 (i+1) ⟨wg,(by (simp [go_sem,Y])),wn,wj,(by exact hst)⟩
  ·exact wv (h:=hQ _ _ (by rw [← hL,kB _ (by omega)];simp [go_sem]))
def condF (t:Types)(p:Pattern)(c:Cond):Int :=
 if bV t p≠0 then bV t p else if pX c≠0 then pX c else oM t p c
theorem uQ (t:Types)(ht:t.ok)(p:Pattern)(c:Cond)(hc:c.ok)(hs:c.size≤1000000):Pure Tryz.prog 226 [t.d,p.d,.agg c.c] (dI (condF t p c)):=by
 refine Tz.pK ⟨fun _=>false,fun _=>[]⟩ Tryz.func226 rfl (fun Q hQ=>?_)
 have Y:=@Cond.c_eq
 refine wv (h:=aB (lS t ht p) wl ?_)
 refine c4 (fun h2=>?_) fun h2=>?_
 ·have Y:=wa Y (wa h2 @condF.eq_1)
  exact wv (h:=hQ _ _ wy)
 ·have hv:=jD (.inr h2)
  refine wv (h:=aB ((by have:=CN c hc hs;rwa [Cond.c_eq] at this)) wl ?_)
  refine c4 (fun h5=>?_) fun h5=>?_
  ·have Y:=wa Y (wa h2 (wa h5 @condF.eq_1))
   exact wv (h:=hQ _ _ wy)
  ·refine wv (h:=aB ((by have:=Bs t ht c p hv.1 hv.2;rwa [Cond.c_eq] at this)) wl ?_)
   have Y:=wa Y (wa h2 (wa h5 @condF.eq_1))
   exact wv (h:=hQ _ _ wy)
theorem CD (a b:Graph)(m:Part):Pure Tryz.prog 97 [a.d,b.d,m.d] (.bool (Eg a b m)):=by
 refine Tz.pK ⟨fun _=>false,fun _=>[]⟩ Tryz.func97 rfl (fun Q hQ=>?_)
 have Y:=trivial
 refine wo (h:=aB (rA a b m) wl ?_)
 refine wo (h:=aG (fun hg=>mN m.nodes) (fun hg=>wl) ?_)
 refine wo (h:=aG (fun hg=>mN m.edges) (fun hg=>wl) ?_)
 exact wo (h:=hQ _ _ (by simp [go_sem,Eg,jT]))
theorem HJ (c:Cond)(hc:c.short):Pure Tryz.prog 418 [.agg c.c] (.bool (bareB c)):=by
 obtain ⟨h1,h2,h3,h4,h5,h6⟩:=hc
 refine Tz.pK ⟨fun _=>false,fun _=>[]⟩ Tryz.func418 rfl (fun Q hQ=>?_)
 have Y:=@Cond.c_eq
 exact wo (h:=hQ _ _ (by simp [go_sem,bareB];rw [aQ];simp;omega))
theorem Jk (c:Cond)(hc:c.short):Pure Tryz.prog 361 [.agg c.c] (.bool (o7 c)):=by
 have hbare:∀ k':Int,k'=c.kind→Pure Tryz.prog 418 [.agg [dI k',.list (c.kids.map Cond.c),dLI c.map.nodes,dLI c.map.edges,dLI c.pattern.graph.nodes,.list (c.pattern.graph.edges.map Edge.c),.list (c.pattern.slots.map Slot.c),dI c.pattern.vars,.list (c.pattern.tests.map Test.c)]] (.bool (bareB c)):=by
  intro k' hk'
  have:=HJ c hc
  rwa [Cond.c_eq,← hk'] at this
 refine Tz.pK ⟨fun _=>false,fun _=>[]⟩ Tryz.func361 rfl (fun Q hQ=>?_)
 have Y:=@Cond.c_eq
 refine c4 (fun h2=>?_) fun h2=>?_
 ·have Y:=wa Y h2
  refine wo (h:=aG (fun hg=>(hbare _ (by omega))) (fun hg=>wl) ?_)
  exact wo (h:=hQ _ _ (by simp [go_sem,o7,Y]))
 ·have Y:=wa Y h2
  refine c4 (fun h4=>?_) fun h4=>?_
  ·have Y:=wa Y h4
   refine wo (h:=aG (fun hg=>(hbare _ (by omega))) (fun hg=>wl) ?_)
   exact wo (h:=hQ _ _ (by simp [go_sem,o7,Y]))
  ·have Y:=wa Y h4
   refine c4 (fun h6=>?_) fun h6=>?_
   ·have Y:=wa Y h6
    refine wo (h:=aG (fun hg=>(hbare _ (by omega))) (fun hg=>wl) ?_)
    exact wo (h:=hQ _ _ (by simp [go_sem,o7,Y];rw [aQ];simp;omega))
   ·have Y:=wa Y h6
    refine c4 (fun h7=>?_) fun h7=>?_
    ·have Y:=wa Y h7
     refine wo (h:=aG (fun hg=>(hbare _ (by omega))) (fun hg=>wl) ?_)
     exact wo (h:=hQ _ _ (by simp [go_sem,o7,Y];rw [aQ];simp;omega))
    ·have Y:=wa Y h7
     refine c4 (fun h9=>?_) fun h9=>?_
     ·have Y:=wa Y h9
      exact wo (h:=hQ _ _ (by simp [go_sem,o7,Y];rw [aQ];simp))
     ·have Y:=wa Y h9
      exact wv (h:=hQ _ _ (by simp [go_sem,o7,Y]))
theorem DK:∀ c:Cond,c.ok→Pure Tryz.prog 293 [.agg c.c] (.bool (IG c)):=by
 refine iP fun c ih hc=>?_
 obtain ⟨hs,hk⟩:=(rT c).1 hc
 have hW:=rU c
 refine Tz.pK ⟨fun _=>false,fun _=>[]⟩ Tryz.func293 rfl (fun Q hQ=>?_)
 have Y:=@Cond.c_eq
 refine wo (h:=aB ((by have:=Jk c hs;rwa [Cond.c_eq] at this)) wl ?_)
 refine wv (h:=?_)
 repeat first|intro _|refine ⟨dR,?_⟩
 refine wq (fun h1=>?_) fun h1=>?_
 ·exact wv (h:=hQ _ _ (.inl (by simp [go_sem,hW,h1])))
 ·refine wv (h:=bA (fun i e H=>(e 1=.adr c.c∧e 3=dI i)∧(i≤c.kids.length)∧(((c.kids.take i).any fun k=>!IG k)=false)) (fun i=>c.kids.length - i) 0 ⟨wg,wi,(by rfl)⟩ fun I0 hI0 i e H hi0=>?_)
  obtain ⟨E0,hi,ha⟩:=hi0
  have Y:=wa Y E0
  refine wv (h:=?_)
  repeat first|intro _|refine ⟨dR,?_⟩
  refine wq (fun h4=>?_) fun h4=>?_
  ·have Y:=wa Y h4
   refine wo (h:=aB ((by have:=ih _ (aC h4) (hk _ (aC h4));rwa [Cond.c_eq] at this)) wl ?_)
   refine wv (h:=?_)
   repeat first|intro _|refine ⟨dR,?_⟩
   refine wq (fun h6=>?_) fun h6=>?_
   ·refine wv (h:=?_)
    have hb':c.kids.all IG=false:=by rw [bH];intro h;rw [bX] at h;have:=h _ (aC h4);rw [h6] at this;cases this
    exact hQ _ _ (.inl (by simp only [go_sem,hW,h1,hb',Bool.and_false]))
   ·exact wo (h:=wx hI0 (i+1) ⟨wg,wj,(by (rw [c7 _ _ _ h4,ha];simp [h6]))⟩)
  ·refine wv (h:=?_)
   have hb:=lT ha h4
   have hb':c.kids.all IG=true:=by simp at hb ⊢;exact hb
   exact hQ _ _ (.inl (by simp only [go_sem,hW,h1,hb',Bool.and_true]))
theorem Fy:∀ c:Cond,c.size≤1000000→Pure Tryz.prog 294 [.agg c.c] (.tup [dI c.size,dI c.dep]):=by
 refine iP fun c ih hc=>?_
 have hse:=tM c
 have hde:=Pp c
 have hle:=xB c.kids
 refine Tz.pK ⟨fun _=>false,fun _=>[]⟩ Tryz.func294 rfl (fun Q hQ=>?_)
 try simp [go_sem,seval,Cond.c_eq]
 obtain ⟨I0,hI0⟩:∃ I0:Nat→dA→AHeap→Prop,∀ (i:Nat) (e:dA) (H:AHeap),I0 i e H↔((e 1=.adr c.c)∧(e 4=dI ((1+Cond.sizes (c.kids.take i):Nat):Int))∧(e 5=dI (Cond.deps (c.kids.take i):Nat))∧(e 6=dI i)∧(i≤c.kids.length)):=⟨fun i e H=>_,fun _ _ _=>Iff.rfl⟩
 refine uN I0 (fun i=>c.kids.length - i) (0) ((hI0 _ _ _).2 ⟨?_,?_,?_,?_,(by first|assumption|omega|(simp [go_sem,Cond.c_eq];done)|(simp_all;done))⟩) ?_
 iterate 4 (first|omega|(simp [go_sem,seval,Cond.c_eq]<;>omega))
 intro i e H hi0
 obtain ⟨q1_0,q4_0,q5_0,q6_0,hi⟩:=(hI0 _ _ _).1 hi0
 have F0:=And.intro q1_0 q6_0
 try simp [go_sem,seval,Cond.c_eq,F0,q4_0,q5_0]
 repeat first|intro _|refine ⟨dR,?_⟩
 refine aP (fun h3=>?_) (fun h3=>?_)
 ·try simp [go_sem] at h3
  have hsm:=zR (aC h3)
  have hdm:=L2 c.kids[i]
  have hts:=aE h3
  have h1s:=Dt (c.kids.take i) c.kids[i]
  have h1d:=GY (c.kids.take i) c.kids[i]
  have hst:=Ds c.kids (i+1)
  have hS:Cond.sizes (c.kids.take (i+1))=Cond.sizes (c.kids.take i)+c.kids[i].size:=by rw [hts,h1s]
  have hD:Cond.deps (c.kids.take (i+1))=max (Cond.deps (c.kids.take i)) c.kids[i].dep:=by rw [hts,h1d]
  have hdt:=xB (c.kids.take i)
  try simp [go_sem,seval,Cond.c_eq,F0,q4_0,q5_0,h3,hS,hD,FE]
  repeat first|intro _|refine ⟨dR,?_⟩
  refine aB ((by have:=ih _ (aC h3) (by omega);rwa [Cond.c_eq] at this)) ((by first|rfl|(simp [go_sem,← List.map_take,← List.map_drop,Cond.c_eq,F0,q4_0,q5_0,h3,hS,hD,FE];done))) ?_
  try simp [go_sem,seval,Cond.c_eq,F0,q4_0,q5_0,h3,hS,hD,FE]
  repeat first|intro _|refine ⟨dR,?_⟩
  refine fR (i+1) (by omega) ((hI0 _ _ _).2 ⟨?_,?_,?_,?_,(by first|assumption|omega|(simp [go_sem,Cond.c_eq,F0,q4_0,q5_0,h3,hS,hD,FE];done)|(simp_all<;>omega))⟩)<;>first|omega|(simp [go_sem,seval,Cond.c_eq,F0,q4_0,q5_0,h3,hS,hD,FE]<;>omega)
 ·try simp [go_sem] at h3
  have hU:c.kids.take i=c.kids:=aH h3
  rw [hU] at q4_0 q5_0
  try simp [go_sem,seval,Cond.c_eq,F0,q4_0,q5_0]
  refine aP (fun h7=>?_) (fun h7=>?_)
  ·try simp [go_sem] at h7
   try simp [go_sem,seval,Cond.c_eq,F0,q4_0,q5_0]
   repeat first|intro _|refine ⟨dR,?_⟩
   exact hQ _ _ (by first|(left;(simp [go_sem,hse,hde,h7]);done)|(right;(simp [go_sem,hse,hde,h7]);done))
  ·try simp [go_sem] at h7
   try simp [go_sem,seval,Cond.c_eq,F0,q4_0,q5_0]
   exact hQ _ _ (by first|(left;(simp [go_sem,hse,hde,h7]);done)|(right;(simp [go_sem,hse,hde,h7]);done))
theorem Jn (c:Cond)(hc:c.ok)(hs:c.size≤1000000):Pure Tryz.prog 216 [.agg c.c] (dI (pX c)):=by
 refine Tz.pK ⟨fun _=>false,fun _=>[]⟩ Tryz.func216 rfl (fun Q hQ=>?_)
 have Y:=@Cond.c_eq
 refine wo (h:=aB ((by have:=DK c hc;rwa [Cond.c_eq] at this)) wl ?_)
 refine eF (fun h1=>?_) fun h1=>?_
 ·exact wv (h:=hQ _ _ (by simp [go_sem,pX,h1]))
 ·refine wv (h:=aB ((by have:=Fy c hs;rwa [Cond.c_eq] at this)) wl ?_)
  refine eF (fun h4=>?_) fun h4=>?_
  ·exact wv (h:=hQ _ _ (by simp [go_sem,pX,h1];omega))
  ·exact wv (h:=hQ _ _ (by simp [go_sem,pX,h1];omega))
theorem HK (p:Pattern)(v:Int):Pure Tryz.prog 362 [p.d,dI v] (.bool (iQ p v)):=by
 refine Tz.pK ⟨fun _=>false,fun _=>[]⟩ Tryz.func362 rfl (fun Q hQ=>?_)
 have Y:=trivial
 refine wv (h:=bA (fun i e H=>(e 2=.adr p.c∧e 1=dI v∧e 5=dI i)∧(i≤p.slots.length)∧(((p.slots.take i).any fun s=>decide (s.term.var=v))=false)) (fun i=>p.slots.length - i) 0 ⟨wg,wi,(by rfl)⟩ fun I0 hI0 i e H hi0=>?_)
 obtain ⟨E0,hi,ha⟩:=hi0
 have Y:=wa Y E0
 refine wv (h:=?_)
 repeat first|intro _|refine ⟨dR,?_⟩
 refine wq (fun h2=>?_) fun h2=>?_
 ·have Y:=wa Y h2
  refine wv (h:=?_)
  repeat first|intro _|refine ⟨dR,?_⟩
  refine wq (fun h4=>?_) fun h4=>?_
  ·refine wv (h:=?_)
   have hb:iQ p v=true:=aW.2 ⟨_,aC h2,by simpa using h4⟩
   exact hQ _ _ (.inl (by simp only [go_sem,hb]))
  ·exact wo (h:=wx hI0 (i+1) ⟨wg,wj,(by (rw [c7 _ _ _ h2,ha];simpa using h4))⟩)
 ·refine wv (h:=?_)
  have hb:iQ p v=false:=lT ha h2
  exact hQ _ _ (.inl (by simp only [go_sem,hb]))
def rJ (t:Types)(o:Int)(q:Pattern):Int:=if q.vars<o then 20 else lZ t q o
theorem Jl (t:Types)(ht:t.ok)(o:Int)(h0:0≤o)(q:Pattern):Pure Tryz.prog 295 [t.d,dI o,q.d] (dI (rJ t o q)):=by
 refine Tz.pK ⟨fun _=>false,fun _=>[]⟩ Tryz.func295 rfl (fun Q hQ=>?_)
 have Y:=trivial
 refine c4 (fun h1=>?_) fun h1=>?_
 ·exact wv (h:=hQ _ _ (by simp [go_sem,rJ,h1]))
 ·refine wv (h:=aB (q8 t ht q) wl ?_)
  refine c4 (fun h4=>?_) fun h4=>?_
  ·exact wv (h:=hQ _ _ (by simp [go_sem,rJ,lZ,h4];omega))
  ·have hv:=jD (.inl h4)
   have hI:rJ t o q=lZ t q o:=by unfold rJ;rw [if_neg (by omega)]
   refine wv (h:=bA (fun v e H=>(e 5=.adr q.c∧e 7=dI 9∧e 8=dI (o+v))∧(∀ u:Int,o≤u→u<o+v→iQ q u=true)) (fun v=>(q.vars - o).toNat - v) 0 ⟨wg,(by (intro u hu hv;omega))⟩ fun I0 hI0 v e H hi0=>?_)
   obtain ⟨E0,ho⟩:=hi0
   have Y:=wa Y E0
   refine c4 (fun h7=>?_) fun h7=>?_
   ·have Y:=wa Y h7
    refine wo (h:=aB (HK q _) wl ?_)
    refine eF (fun h9=>?_) fun h9=>?_
    ·exact wv (h:=hQ _ _ (by rw [hI,Cd h4 h0 (v:=o+v) (by omega) h7 (by simpa using h9)];simp [go_sem]))
    ·have ho':∀ u:Int,o≤u→u<o+((v+1:Nat):Int)→iQ q u=true:=fun u hu hv=>by
      by_cases hc:u<o+v
      ·exact ho u hu hc
      ·rw [show u=o+v by omega];simpa using h9
     exact wo (h:=wx hI0 (v+1) ⟨wg,(by exact ho')⟩)
   ·exact wv (h:=hQ _ _ (by rw [hI,Cb h4 h0 fun u hu hv=>ho u hu (by omega)];simp [go_sem]))
theorem Lt (t:Types)(ht:t.ok):∀ (c:Cond) (p:Pattern),0≤p.vars→p.vars≤12→Pure Tryz.prog 217 [t.d,p.d,.agg c.c] (dI (oM t p c)):=by
 refine iP fun c ih p hp0 hp1=>?_
 have hF:=C5 t p c
 refine Tz.pK ⟨fun t=>t==7,fun _=>[]⟩ Tryz.func217 rfl (fun Q hQ=>?_)
 have Y:=@Cond.c_eq
 refine c4 (fun h2=>?_) fun h2=>?_
 ·rw [if_pos h2,if_pos h2] at hF
  refine wv (h:=aB (Jl t ht p.vars hp0 c.pattern) wl ?_)
  refine c4 (fun h4=>?_) fun h4=>?_
  ·have hE:iR t p c.map c.pattern=rJ t p.vars c.pattern:=by
    unfold iR;unfold rJ at h4 ⊢
    split
    ·rfl
    ·rename_i h';rw [if_neg h'] at h4;rw [if_pos h4]
   exact wv (h:=hQ _ _ (by rw [hF,hE,if_pos (by omega)];simp [go_sem]))
  ·have hv0:¬ c.pattern.vars<p.vars∧lZ t c.pattern p.vars=0:=by
    unfold rJ at h4
    split at h4
    ·omega
    ·exact ⟨by assumption,h4⟩
   have hv1:=hv0.1
   have h6:=hv0.2
   refine wv (h:=aB (rA p.graph c.pattern.graph c.map) wl ?_)
   refine c4 (fun h7=>?_) fun h7=>?_
   ·exact wv (h:=hQ _ _ (by simp [go_sem,hF,iR,h6,h7];omega))
   ·refine wo (h:=aB (CD p.graph c.pattern.graph c.map) wl ?_)
    refine wv (h:=?_)
    repeat first|intro _|refine ⟨dR,?_⟩
    refine wq (fun h9=>?_) fun h9=>?_
    ·exact wv (h:=hQ _ _ (by simp [go_sem,hF,iR,h6,h7,h9];omega))
    ·have hE0:iR t p c.map c.pattern=0:=by simp [iR,h6,h7,h9];omega
     rw [hE0,if_neg (by omega)] at hF
     obtain ⟨w,hw⟩:∃ w:Pattern,w=c.pattern:=⟨_,rfl⟩
     have hv:=Cc h6
     have hw0:0≤w.vars:=by rw [hw];exact hv.1
     have hw1:w.vars≤12:=by rw [hw];exact hv.2
     have hF':oM t p c=fO (oM t w) c.kids:=by rw [hF,hw]
     refine wv (h:=bA (fun i e H=>(e 3=.adr t.c∧e 5=.adr c.c∧e 7=.ptr 0 1 0 0∧e 10=dI i)∧(H.get 0=some ⟨33,5,[w.c],false⟩)∧(0<H.next)∧(i≤c.kids.length)∧(fO (oM t w) (c.kids.drop i)=oM t p c)) (fun i=>c.kids.length - i) 0 ⟨wg,(by (simp [go_sem,hw])),wn,wi,(by (exact hF'.symm))⟩ fun I0 hI0 i e H hi0=>?_)
     obtain ⟨E0,g0_0,n0_0,hi,hL⟩:=hi0
     have Y:=wa Y (wa E0 (wa g0_0 (bZ n0_0)))
     refine wv (h:=?_)
     repeat first|intro _|refine ⟨dR,?_⟩
     refine wq (fun h13=>?_) fun h13=>?_
     ·have hst:=hL
      rw [jG _ h13] at hst
      have Y:=wa Y h13
      refine wo (h:=aK ((by have:=ih _ (aC h13) w hw0 hw1;rwa [Cond.c_eq] at this)) wl ?_)
      refine wv (h:=?_)
      repeat first|intro _|refine ⟨dR,?_⟩
      refine wq (fun h16=>?_) fun h16=>?_
      ·rw [if_pos (by omega)] at hst
       exact wv (h:=hQ _ _ (by simp [go_sem,hst]))
      ·rw [if_neg (by omega)] at hst
       exact wo (h:=wx hI0 (i+1) ⟨wg,(by (simp [go_sem,Y])),wn,wj,(by exact hst)⟩)
     ·exact wv (h:=hQ _ _ (by rw [← hL,kB _ (by omega)];simp [go_sem]))
 ·rw [if_neg h2,if_neg (by omega),if_neg h2] at hF
  obtain ⟨w,hw⟩:∃ w:Pattern,w=p:=⟨_,rfl⟩
  have hw0:0≤w.vars:=by rw [hw];exact hp0
  have hw1:w.vars≤12:=by rw [hw];exact hp1
  have hF':oM t p c=fO (oM t w) c.kids:=by rw [hF,hw]
  refine wv (h:=bA (fun i e H=>(e 3=.adr t.c∧e 5=.adr c.c∧e 7=.ptr 0 1 0 0∧e 10=dI i)∧(H.get 0=some ⟨33,5,[w.c],false⟩)∧(0<H.next)∧(i≤c.kids.length)∧(fO (oM t w) (c.kids.drop i)=oM t p c)) (fun i=>c.kids.length - i) 0 ⟨wg,(by (simp [go_sem,hw])),wn,wi,(by (exact hF'.symm))⟩ fun I0 hI0 i e H hi0=>?_)
  obtain ⟨E0,g0_0,n0_0,hi,hL⟩:=hi0
  have Y:=wa Y (wa E0 (wa g0_0 (bZ n0_0)))
  refine wv (h:=?_)
  repeat first|intro _|refine ⟨dR,?_⟩
  refine wq (fun h13=>?_) fun h13=>?_
  ·have hst:=hL
   rw [jG _ h13] at hst
   have Y:=wa Y h13
   refine wo (h:=aK ((by have:=ih _ (aC h13) w hw0 hw1;rwa [Cond.c_eq] at this)) wl ?_)
   refine wv (h:=?_)
   repeat first|intro _|refine ⟨dR,?_⟩
   refine wq (fun h16=>?_) fun h16=>?_
   ·rw [if_pos (by omega)] at hst
    exact wv (h:=hQ _ _ (by simp [go_sem,hst]))
   ·rw [if_neg (by omega)] at hst
    exact wo (h:=wx hI0 (i+1) ⟨wg,(by (simp [go_sem,Y])),wn,wj,(by exact hst)⟩)
  ·exact wv (h:=hQ _ _ (by rw [← hL,kB _ (by omega)];simp [go_sem]))
theorem BU (t:Types)(ht:t.ok)(p:Pattern)(c:Cond)(hc:c.ok)(hs:c.size≤1000000):Pure Tryz.prog 131 [t.d,p.d,.agg c.c] (dI (condF t p c)):=by
 refine Tz.pK ⟨fun _=>false,fun _=>[]⟩ Tryz.func131 rfl (fun Q hQ=>?_)
 have Y:=@Cond.c_eq
 refine wv (h:=aB (q8 t ht p) wl ?_)
 refine c4 (fun h2=>?_) fun h2=>?_
 ·have Y:=wa Y (wa h2 @condF.eq_1)
  exact wv (h:=hQ _ _ wy)
 ·have hv:=jD (.inr h2)
  refine wv (h:=aB ((by have:=Jn c hc hs;rwa [Cond.c_eq] at this)) wl ?_)
  refine c4 (fun h5=>?_) fun h5=>?_
  ·have Y:=wa Y (wa h2 (wa h5 @condF.eq_1))
   exact wv (h:=hQ _ _ wy)
  ·refine wv (h:=aB ((by have:=Lt t ht c p hv.1 hv.2;rwa [Cond.c_eq] at this)) wl ?_)
   have Y:=wa Y (wa h2 (wa h5 @condF.eq_1))
   exact wv (h:=hQ _ _ wy)
theorem o9 (a:Int):Pure Tryz.prog 334 [dI a] (.bool false):=by
 refine Tz.pK ⟨fun _=>false,fun _=>[]⟩ Tryz.func334 rfl (fun Q hQ=>?_)
 have Y:=trivial
 exact wv (h:=hQ _ _ wy)
theorem xC (a:Int):Pure Tryz.prog 389 [dI a] (.bool false):=by
 refine Tz.pK ⟨fun _=>false,fun _=>[]⟩ Tryz.func389 rfl (fun Q hQ=>?_)
 have Y:=trivial
 exact wv (h:=hQ _ _ wy)
theorem Pt (a b:Int):Pure Tryz.prog 333 [dI a,dI b] (.bool (decide (a<b))):=by
 refine Tz.pK ⟨fun _=>false,fun _=>[]⟩ Tryz.func333 rfl (fun Q hQ=>?_)
 have Y:=trivial
 refine wo (h:=aB (xC a) wl ?_)
 refine wo (h:=aG (fun hg=>xC b) (fun hg=>wl) ?_)
 exact wo (h:=hQ _ _ wy)
def sQ (l:List Int)(v:Int):Nat:=(l.takeWhile fun y=>decide (y<v)).length
theorem MF {l:List Int}{v:Int}{n:Nat}(h1:∀ j (hj:j<l.length),j<n→l[j]<v)(h2:n≤l.length)(h3:∀ hn:n<l.length,¬ l[n]<v):sQ l v=n :=
 rW _ l n (fun j x hj hx=>by
  obtain ⟨hjl,rfl⟩:=aL.1 hx
  simpa using h1 j hjl hj) h2 fun x hx=>by
  obtain ⟨hjl,rfl⟩:=aL.1 hx
  simpa using h3 hjl
theorem UL (a b:Nat):((a:Int)+(b:Int)).fdiv 2=(((a+b) / 2:Nat):Int):=by
 rw [Int.fdiv_eq_ediv_of_nonneg _ (by omega)];omega
theorem rQ (l:List Int)(v:Int)(hs:l.Pairwise (· < ·))(hl:l.length≤1000000):Pure Tryz.prog 241 [dLI l,dI v] (.tup [dI (sQ l v),.bool (mem l v)]):=by
 have hpw:=eD.1 hs
 refine Tz.pK ⟨fun _=>false,fun _=>[]⟩ Tryz.func241 rfl (fun Q hQ=>?_)
 have Y:=@UL
 refine wo (h:=bA (fun m e H=>∃ i:Nat,∃ j:Nat,(e 0=dLI l∧e 1=dI v∧e 6=dI l.length∧e 7=dI i∧e 8=dI j)∧(i≤j)∧(j≤l.length)∧(j - i≤m)∧(∀ a (h:a<l.length),a<i→l[a]<v)∧(∀ a (h:a<l.length),j≤a→¬ l[a]<v)) (fun m=>m) l.length ⟨0,l.length,wg,(by omega),(by omega),(by omega),(by (intro a h h';omega)),(by (intro a h h';omega))⟩ fun I0 hI0 m e H hi0=>?_)
 obtain ⟨i,j,E0,hj,hjl,hjm,ha,hb⟩:=hi0
 have Y:=wa Y E0
 refine c4 (fun h3=>?_) fun h3=>?_
 ·have hk:(i+j) / 2<l.length:=by omega
  have htn:(((i:Int)+(j:Int)) / 2).toNat=(i+j) / 2:=by omega
  have hu:=MR (show 0≤(i:Int)+(j:Int) by omega) (show (i:Int)+(j:Int)≤18446744073709551615 by omega)
  have Y:=wa Y (wa h3 (wa htn (aA hk)))
  refine wo (h:=aB (Pt _ _) wl ?_)
  refine eF (fun h5=>?_) fun h5=>?_
  ·obtain ⟨i',hi'⟩:∃ i':Nat,i'=(i+j) / 2+1:=⟨_,rfl⟩
   obtain ⟨j',hj'⟩:∃ j':Nat,j'=j:=⟨_,rfl⟩
   have ha':∀ a (h:a<l.length),a<i'→l[a]<v:=fun a h h'=>by
    rcases bN a ((i+j) / 2) with h1|h1
    ·have:=hpw a _ h hk h1;omega
    ·have:a=(i+j) / 2:=by omega
     subst this;exact h5
   have hb':∀ a (h:a<l.length),j'≤a→¬ l[a]<v:=fun a h h'=>hb a h (by omega)
   exact wo (h:=wx hI0 (m - 1) ⟨i',j',wg,(by omega),(by omega),(by omega),(by exact ha'),(by exact hb')⟩)
  ·obtain ⟨i',hi'⟩:∃ i':Nat,i'=i:=⟨_,rfl⟩
   obtain ⟨j',hj'⟩:∃ j':Nat,j'=(i+j) / 2:=⟨_,rfl⟩
   have ha':∀ a (h:a<l.length),a<i'→l[a]<v:=fun a h h'=>ha a h (by omega)
   have hb':∀ a (h:a<l.length),j'≤a→¬ l[a]<v:=fun a h h'=>by
    rcases bN ((i+j) / 2) a with h1|h1
    ·have:=hpw _ a hk h h1;omega
    ·have:a=(i+j) / 2:=by omega
     subst this;omega
   exact wv (h:=wx hI0 (m - 1) ⟨i',j',wg,(by omega),(by omega),(by omega),(by exact ha'),(by exact hb')⟩)
 ·have hij:j=i:=by omega
  have hp:sQ l v=i:=MF (fun a h h'=>ha a h h') (by omega) (fun h=>hb i h (by omega))
  have hm:mem l v=(decide (i<l.length)&&(l[i]?.getD 0==v)):=by
   rw [aQ,c6]
   constructor
   ·intro h
    obtain ⟨a,h1,h2⟩:=aO h
    have h3:i≤a:=Nat.le_of_not_lt fun h'=>by have:=ha a h1 h';omega
    have h4:a=i:=by
     rcases Nat.eq_or_lt_of_le h3 with h5|h5
     ·exact h5.symm
     ·have:=hpw i a (by omega) h1 h5
      exact absurd (by omega) (hb i (by omega) (by omega))
    subst h4
    simp [h1,h2]
   ·intro h
    simp only [aM,decide_eq_true_eq,beq_iff_eq] at h
    rw [aA h.1,aD] at h
    rw [← h.2];exact aC h.1
  by_cases hil:i<l.length
  ·have Y:=wa Y (wa (aA hil) hil)
   refine wo (h:=aG (fun hg=>o9 _) (fun hg=>wl) ?_)
   refine wo (h:=aG (fun hg=>o9 _) (fun hg=>wl) ?_)
   exact wo (h:=hQ _ _ (by rw [hp,hm];simp [go_sem,Y];rw [aQ];simp))
  ·have Y:=wa Y hil
   refine wo (h:=aG (fun hg=>o9 _) (fun hg=>wl) ?_)
   refine wo (h:=aG (fun hg=>o9 _) (fun hg=>wl) ?_)
   exact wo (h:=hQ _ _ (by rw [hp,hm];simp [go_sem,Y]))
theorem zL (l:List Int)(v:Int)(hs:l.Pairwise (· < ·))(hl:l.length≤1000000):Pure Tryz.prog 438 [dLI l,dI v] (.bool (mem l v)):=by
 refine Tz.pK ⟨fun _=>false,fun _=>[]⟩ Tryz.func438 rfl (fun Q hQ=>?_)
 have Y:=trivial
 refine wv (h:=aB (rQ l v hs hl) wl ?_)
 exact wv (h:=hQ _ _ wy)
def wK (g:Graph)(p:Part)(k:Int):Int:=if (mem p.nodes (g.edges[k.toNat]?.getD bS).from_&&mem p.nodes (g.edges[k.toNat]?.getD bS).to_)=true then 0 else 14
def oY (g:Graph)(p:Part):Int :=
 if CT p.nodes g.nodes.length≠0 then CT p.nodes g.nodes.length
 else if CT p.edges g.edges.length≠0 then CT p.edges g.edges.length
 else fO (wK g p) p.edges
def subF (g:Graph)(p:Part):Int:=if graphF g≠0 then graphF g else oY g p
theorem Fj (g:Graph)(p:Part)(hl:p.nodes.length≤1000000):Pure Tryz.prog 387 [g.d,p.d] (dI (oY g p)):=by
 refine Tz.pK ⟨fun _=>false,fun _=>[]⟩ Tryz.func387 rfl (fun Q hQ=>?_)
 have Y:=trivial
 refine wv (h:=?_)
 repeat first|intro _|refine ⟨dR,?_⟩
 refine aB (xU p.nodes _) wl ?_
 refine wv (h:=?_)
 repeat first|intro _|refine ⟨dR,?_⟩
 refine wq (fun h2=>?_) fun h2=>?_
 ·exact wv (h:=hQ _ _ (by simp [go_sem,oY,h2]))
 ·refine wv (h:=?_)
  repeat first|intro _|refine ⟨dR,?_⟩
  refine aB (xU p.edges _) wl ?_
  refine wv (h:=?_)
  repeat first|intro _|refine ⟨dR,?_⟩
  refine wq (fun h5=>?_) fun h5=>?_
  ·exact wv (h:=hQ _ _ (by simp [go_sem,oY,h2,h5]))
  ·have hP:oY g p=fO (wK g p) p.edges:=by unfold oY;rw [if_neg (by simp [h2]),if_neg (by simp [h5])]
   have hs:=(BA h2).2
   have hin:=(BA h5).1
   refine wv (h:=?_)
   repeat first|intro _|refine ⟨dR,?_⟩
   refine bA (fun i e H=>(e 2=.adr g.c∧e 3=.adr p.c∧e 28=dLI p.edges∧e 29=dI p.edges.length∧e 30=dI i)∧(i≤p.edges.length)∧(fO (wK g p) (p.edges.drop i)=oY g p)) (fun i=>p.edges.length - i) 0 ⟨wg,wi,(by (exact hP.symm))⟩ fun I0 hI0 i e H hi0=>?_
   obtain ⟨E0,hi,hF⟩:=hi0
   have Y:=wa Y E0
   refine c4 (fun h8=>?_) fun h8=>?_
   ·have hst:=hF
    rw [jG _ h8] at hst
    have hin':=hin _ (aC h8)
    have hk:p.edges[i].toNat<g.edges.length:=by omega
    have hD:wK g p p.edges[i]=if (mem p.nodes g.edges[p.edges[i].toNat].from_&&mem p.nodes g.edges[p.edges[i].toNat].to_)=true then 0 else 14:=by simp only [wK,aA hk,aD]
    have Y:=wa Y (wa h8 (aA hk))
    refine wv (h:=?_)
    repeat first|intro _|refine ⟨dR,?_⟩
    refine aK (zL p.nodes _ hs hl) wl ?_
    refine wv (h:=?_)
    repeat first|intro _|refine ⟨dR,?_⟩
    refine dO (fun hg=>zL p.nodes _ hs hl) (fun hg=>wl) ?_
    refine wv (h:=?_)
    repeat first|intro _|refine ⟨dR,?_⟩
    refine wq (fun h10=>?_) fun h10=>?_
    ·rw [if_neg (by rcases h10 with h|h<;>simp [h])] at hD
     rw [hD,if_pos (by omega)] at hst
     exact wv (h:=hQ _ _ (by simp [go_sem,← hst]))
    ·rw [if_pos (by simp [h10])] at hD
     rw [hD,if_neg (by omega)] at hst
     refine wv (h:=?_)
     repeat first|intro _|refine ⟨dR,?_⟩
     exact wx hI0 (i+1) ⟨wg,wj,(by exact hst)⟩
   ·exact wv (h:=hQ _ _ (by rw [← hF,kB _ (by omega)];simp [go_sem]))
theorem vH (g:Graph)(p:Part)(hl:p.nodes.length≤1000000):Pure Tryz.prog 328 [g.d,p.d] (dI (subF g p)):=by
 refine Tz.pK ⟨fun _=>false,fun _=>[]⟩ Tryz.func328 rfl (fun Q hQ=>?_)
 have Y:=trivial
 refine wv (h:=aB (kW g) wl ?_)
 refine c4 (fun h2=>?_) fun h2=>?_
 ·have Y:=wa Y (wa h2 @subF.eq_1)
  exact wv (h:=hQ _ _ wy)
 ·refine wv (h:=aB (Fj g p hl) wl ?_)
  have Y:=wa Y (wa h2 @subF.eq_1)
  exact wv (h:=hQ _ _ wy)
theorem JB (g:Graph)(p:Part):Pure Tryz.prog 345 [g.d,p.d] (dI (oY g p)):=by
 refine Tz.pK ⟨fun t=>t==8,fun r=>match r with|10=>[(0,9),(1,9),(2,9),(3,9),(5,9),(6,9),(7,9),(8,9)]|_=>[]⟩ Tryz.func345 rfl (fun Q hQ=>?_)
 have Y:=trivial
 refine wo (h:=aB (uK p.nodes _) wl ?_)
 refine wv (h:=?_)
 repeat first|intro _|refine ⟨dR,?_⟩
 refine wq (fun h2=>?_) fun h2=>?_
 ·exact wv (h:=hQ _ _ (by simp [go_sem,oY,h2]))
 ·refine wo (h:=aB (uK p.edges _) wl ?_)
  refine wv (h:=?_)
  repeat first|intro _|refine ⟨dR,?_⟩
  refine wq (fun h5=>?_) fun h5=>?_
  ·exact wv (h:=hQ _ _ (by simp [go_sem,oY,h2,h5]))
  ·have hP:oY g p=fO (wK g p) p.edges:=by unfold oY;rw [if_neg (by simp [h2]),if_neg (by simp [h5])]
   have hin:=(BA h5).1
   refine wv (h:=bA (fun i e H=>(e 2=.adr g.c∧e 3=.adr p.c∧e 7=dI i)∧(i≤p.edges.length)∧(fO (wK g p) (p.edges.drop i)=oY g p)) (fun i=>p.edges.length - i) 0 ⟨wg,wi,(by (exact hP.symm))⟩ fun I0 hI0 i e H hi0=>?_)
   obtain ⟨E0,hi,hF⟩:=hi0
   have Y:=wa Y E0
   refine wv (h:=?_)
   repeat first|intro _|refine ⟨dR,?_⟩
   refine wq (fun h8=>?_) fun h8=>?_
   ·have hst:=hF
    rw [jG _ h8] at hst
    have hin':=hin _ (aC h8)
    have hk:p.edges[i].toNat<g.edges.length:=by omega
    have hD:wK g p p.edges[i]=if (mem p.nodes g.edges[p.edges[i].toNat].from_&&mem p.nodes g.edges[p.edges[i].toNat].to_)=true then 0 else 14:=by simp only [wK,aA hk,aD]
    have Y:=wa Y (wa h8 (aA hk))
    refine wo (h:=aB (Gi p.nodes _) wl ?_)
    refine wo (h:=aG (fun hg=>Gi p.nodes _) (fun hg=>wl) ?_)
    refine wv (h:=?_)
    repeat first|intro _|refine ⟨dR,?_⟩
    refine wq (fun h11=>?_) fun h11=>?_
    ·rw [if_neg (by rcases h11 with h|h<;>simp [h])] at hD
     rw [hD,if_pos (by omega)] at hst
     exact wv (h:=hQ _ _ (by simp [go_sem,← hst]))
    ·rw [if_pos (by simp [h11])] at hD
     rw [hD,if_neg (by omega)] at hst
     exact wo (h:=wx hI0 (i+1) ⟨wg,wj,(by exact hst)⟩)
   ·exact wv (h:=hQ _ _ (by rw [← hF,kB _ (by omega)];simp [go_sem]))
theorem vV (g:Graph)(p:Part):Pure Tryz.prog 263 [g.d,p.d] (dI (subF g p)):=by
 refine Tz.pK ⟨fun _=>false,fun _=>[]⟩ Tryz.func263 rfl (fun Q hQ=>?_)
 have Y:=trivial
 refine wv (h:=aB (jU g) wl ?_)
 refine c4 (fun h2=>?_) fun h2=>?_
 ·have Y:=wa Y (wa h2 @subF.eq_1)
  exact wv (h:=hQ _ _ wy)
 ·refine wv (h:=aB (JB g p) wl ?_)
  have Y:=wa Y (wa h2 @subF.eq_1)
  exact wv (h:=hQ _ _ wy)
def gN (g:Graph)(n:Int):Int:=g.nodes[n.toNat]?.getD 0
def gEd (g:Graph)(p:Part)(k:Int):Edge:=⟨(g.edges[k.toNat]?.getD bS).type,sQ p.nodes (g.edges[k.toNat]?.getD bS).from_,sQ p.nodes (g.edges[k.toNat]?.getD bS).to_⟩
def bY (g:Graph)(p:Part):Graph:=if subF g p=0 then ⟨p.nodes.map (gN g),p.edges.map (gEd g p)⟩ else ⟨[],[]⟩
def yD (g:Graph)(p:Part):Part:=if subF g p=0 then p else ⟨[],[]⟩
theorem wV {g:Graph}{p:Part}(h:subF g p=0):graphF g=0∧p.nodes.Pairwise (· < ·)∧(∀ n∈p.nodes,0≤n∧n<g.nodes.length)∧∀ k∈p.edges,0≤k∧k<g.edges.length:=by
 unfold subF oY at h
 split at h
 ·rename_i h1;exact absurd h h1
 ·rename_i h1
  split at h
  ·rename_i h2;exact absurd h h2
  ·rename_i h2
   split at h
   ·rename_i h3;exact absurd h h3
   ·rename_i h3
    have h2':CT p.nodes g.nodes.length=0:=by omega
    have h3':CT p.edges g.edges.length=0:=by omega
    exact ⟨by omega,(BA h2').2,(BA h2').1,(BA h3').1⟩
theorem jF {α β:Type}(f:α→β){l:List α}{i:Nat}(h:i<l.length):(l.take (i+1)).map f=(l.take i).map f++[f l[i]]:=by
 rw [aE h,List.map_append];rfl
theorem j6 {α β:Type}(f:α→β){l:List α}{i:Nat}(h:l.length≤i):(l.take i).map f=l.map f:=by
 rw [aH h]
theorem A2 (g:Graph)(p:Part)(hl:p.nodes.length≤1000000)(hle:p.edges.length≤1000000):Pure Tryz.prog 314 [g.d,p.d] (.tup [(bY g p).d,(yD g p).d,dI (subF g p)]):=by
 refine Tz.pK ⟨fun t=>t==4||t==5||t==8||t==13,fun r=>match r with|8=>[(0,7),(1,7)]|_=>[]⟩ Tryz.func314 rfl (fun Q hQ=>?_)
 have Y:=trivial
 refine wv (h:=aB (vH g p hl) wl ?_)
 refine c4 (fun h2=>?_) fun h2=>?_
 ·exact wv (h:=hQ _ _ (by simp [go_sem,bY,yD,h2]))
 ·obtain ⟨hg,hs,hin,hie⟩:=wV h2
  refine wo (h:=wB (Ghosts.step (Ghosts.refl _) 2 0 0 3 1 _ _ (rfl) rfl rfl rfl) (fun i e H=>∃ xs:List Int,(e 2=.adr g.c∧e 3=.adr p.c∧e 4=.ptr 0 1 0 0∧e 5=.ptr 1 1 0 0∧e 8=.ptr 2 1 0 0∧e 23=dLI p.nodes∧e 24=dI p.nodes.length∧e 25=dI i)∧(H.get 0=some ⟨29,2,[[.nil,.nil]],false⟩)∧(0<H.next)∧(H.get 1=some ⟨36,2,[[.nil,.nil]],false⟩)∧(1<H.next)∧(H.get 2=some ⟨29,2,[[.own 3 xs.length,.nil]],false⟩)∧(2<H.next)∧(H.get 3=some ⟨3,1,xs.map cI,false⟩)∧(3<H.next)∧(i≤p.nodes.length)∧(xs=(p.nodes.take i).map (gN g))) (fun i=>p.nodes.length - i) 0 ⟨([]),wg,wn,wn,wn,wn,wn,wn,wn,wn,wi,(by rfl)⟩ fun I0 hI0 i e H hi0=>?_)
  obtain ⟨xs,E0,g0_0,n0_0,g1_0,n1_0,g2_0,n2_0,g3_0,n3_0,hi,hx⟩:=hi0
  have Y:=wa Y (wa E0 (wa g0_0 (wa (bZ n0_0) (wa g1_0 (wa (bZ n1_0) (wa g2_0 (wa (bZ n2_0) (wa g3_0 (bZ n3_0)))))))))
  refine c4 (fun h6=>?_) fun h6=>?_
  ·have hin':=hin _ (aC h6)
   have hk:p.nodes[i].toNat<g.nodes.length:=by omega
   have hxl:xs.length=i:=by rw [hx];simp;omega
   have Y:=wa Y (wa h6 (wa (aA hk) @gN.eq_1))
   exact wo (h:=wx hI0 (i+1) ⟨(xs++[gN g p.nodes[i]]),wg,wn,wn,wn,wn,wn,wn,wn,wn,wj,(by (rw [jF _ h6,← hx]))⟩)
  ·have hX:xs=p.nodes.map (gN g):=by rw [hx,j6 _ (by omega)]
   refine wo (h:=wB (Ghosts.step (Ghosts.refl _) 2 0 1 122 3 _ _ (g2_0) rfl rfl rfl) (fun k e H=>∃ j:Nat,∃ ys:List Edge,(e 2=.adr g.c∧e 3=.adr p.c∧e 4=.ptr 0 1 0 0∧e 5=.ptr 1 1 0 0∧e 8=.ptr 2 1 0 0∧e 41=dLI p.edges∧e 42=dI p.edges.length∧e 43=dI k)∧(H.get 0=some ⟨29,2,[[.nil,.nil]],false⟩)∧(0<H.next)∧(H.get 1=some ⟨36,2,[[.nil,.nil]],false⟩)∧(1<H.next)∧(H.get 2=some ⟨29,2,[[.own 3 xs.length,.own j ys.length]],false⟩)∧(2<H.next)∧(H.get 3=some ⟨3,1,xs.map cI,false⟩)∧(3<H.next)∧(H.get j=some ⟨122,3,ys.map Edge.c,false⟩)∧(j<H.next)∧(k≤p.edges.length)∧(ys=(p.edges.take k).map (gEd g p))∧(j≠0)∧(j≠1)∧(j≠2)∧(j≠3)) (fun k=>p.edges.length - k) 0 ⟨H.next,([]),wg,wn,wn,wn,wn,wn,wn,wn,wn,wn,wn,wi,(by rfl),(by omega),(by omega),(by omega),(by omega)⟩ fun I2 hI2 k e H hi2=>?_)
   obtain ⟨j,ys,E2,g0_2,n0_2,g1_2,n1_2,g2_2,n2_2,g3_2,n3_2,gj_2,nj_2,hk,hy,j0,j1,j2,j3⟩:=hi2
   have Y:=wa Y (wa E2 (wa g0_2 (wa (bZ n0_2) (wa g1_2 (wa (bZ n1_2) (wa g2_2 (wa (bZ n2_2) (wa g3_2 (wa (bZ n3_2) (wa gj_2 (wa (bZ nj_2) (wa j0 (wa j1 (wa j2 (wa j3 (wa j0.symm (wa j1.symm (wa j2.symm j3.symm))))))))))))))))))
   refine c4 (fun h11=>?_) fun h11=>?_
   ·have hie':=hie _ (aC h11)
    have hke:p.edges[k].toNat<g.edges.length:=by omega
    have hyl:ys.length=k:=by rw [hy];simp;omega
    have Y:=wa Y (wa h11 (wa (aA hke) @gEd.eq_1))
    refine wo (h:=aB (rQ p.nodes _ hs hl) wl ?_)
    refine wo (h:=aB (rQ p.nodes _ hs hl) wl ?_)
    exact wo (h:=wx hI2 (k+1) ⟨j,(ys++[gEd g p p.edges[k]]),wg,wn,wn,wn,wn,wn,wn,wn,wn,wn,wn,wj,(by (rw [jF _ h11,← hy])),wj,wj,wj,wj⟩)
   ·have hY:ys=p.edges.map (gEd g p):=by rw [hy,j6 _ (by omega)]
    refine wv (h:=aK ((kC p.nodes hl).pure) wl ?_)
    refine wv (h:=aK ((kC p.edges hle).pure) wl ?_)
    exact wv (h:=hQ _ _ (by simp [go_sem,Y,bY,yD,h2,hX,hY]))
end Go.Abs
end
