/- Weights that lower every rule are the first stage's: the pla -/
import Derived.Test.YtjhccdolbhjmaaaGreatZgT
import Derived.Test.YtjhccdolbhjmaaaGreatZgE
import Derived.Test.YtjhccdolbhjmaaaGreatZgD
import Derived.Test.YtjhccdolbhjmaaaGreatZgN
import Derived.Test.YtjhccdolbhjmaaaGreatZgS
import Derived.Carry
import Derived.ChangeArms
import Derived.WideShapes
import Derived.DataElems
import Derived.Test.YtjhccdolbhjmaaaGreatRows
import Derived.OpenShut
set_option linter.unusedVariables false
set_option linter.unusedSimpArgs false
section
open Go Go.Proofs
namespace Go.Abs
def leafN (xs : List (List Int)) (F : Bool × List Int) (w : List Int) : Bool × List Int := if ((!F.1 || decide (w.sum < F.2.sum)) && xs.all fun x => decide (prodF w x ≤ -1)) = true then (true, w) else F
def bestN (xs : List (List Int)) (m : Nat) : Bool × List Int := (enumL (numL m) (List.replicate m 0)).foldl (leafN xs) (false, [])
theorem sprF_get {n : Nat} {tch w : List Int} : ∀ (k i : Nat), i < n → (∀ j : Nat, j < k → (tch[j]?.getD 0).toNat ≠ i) → (sprF n tch w k)[i]?.getD 0 = 0
  | 0, i, hi, _ => by simp [sprF, hi]
  | k + 1, i, hi, h => by
    rw [sprF_succ, List.getElem?_set_ne (h k (by omega))]
    exact sprF_get k i hi fun j hj => h j (by omega)
theorem tch_inj {tch : List Int} (hnd : tch.Nodup) (hp : ∀ v ∈ tch, 0 ≤ v) {i j : Nat} (hi : i < tch.length) (hj : j < tch.length) (h : tch[i].toNat = tch[j].toNat) : i = j := by
  have h1 := hp _ (lgm hi)
  have h2 := hp _ (lgm hj)
  exact (List.getElem_inj hnd).1 (show tch[i] = tch[j] by omega)
theorem sprF_sum {n : Nat} {tch w : List Int} (hnd : tch.Nodup) (htb : ∀ v ∈ tch, 0 ≤ v ∧ v < n) (hw : w.length = tch.length) : ∀ k, k ≤ tch.length → (sprF n tch w k).sum = (w.take k).sum
  | 0, _ => by simp [sprF, zeros_sum]
  | k + 1, hk => by
    have hkl : k < tch.length := by omega
    have hb := htb _ (lgm hkl)
    rw [sprF_succ, lge hkl]
    simp only [Option.getD_some]
    rw [sum_set _ (by rw [sprF_len]; omega) (sprF_get k _ (by omega) fun j hj he => by
      rw [lge (show j < tch.length by omega)] at he
      have := tch_inj hnd (fun v hv => (htb v hv).1) (show j < tch.length by omega) hkl he
      omega)]
    rw [sprF_sum hnd htb hw k (by omega), List.take_succ_eq_append_getElem (by omega), List.sum_append, lge (show k < w.length by omega)]
    simp
theorem prodN_set {a x : List Int} {p : Nat} {v : Int} (hp : p < a.length) (hz : a[p]?.getD 0 = 0) : ∀ n, prodN (a.set p v) x n = prodN a x n + if p < n then v * x[p]?.getD 0 else 0
  | 0 => by simp [prodN]
  | n + 1 => by
    simp only [prodN, prodN_set hp hz n]
    by_cases h : p = n
    · subst h
      rw [List.getElem?_set_self hp, hz, if_neg (by omega), if_pos (by omega)]
      simp
    · rw [List.getElem?_set_ne h]
      by_cases h2 : p < n
      · rw [if_pos h2, if_pos (by omega)]; omega
      · rw [if_neg h2, if_neg (by omega)]; omega
theorem sprF_prod {n : Nat} {tch u x : List Int} (hnd : tch.Nodup) (htb : ∀ v ∈ tch, 0 ≤ v ∧ v < n) : ∀ k, k ≤ tch.length → prodN (sprF n tch u k) x n = prodN u (narF x tch tch.length) k
  | 0, _ => by
    have : ∀ j, prodN (sprF n tch u 0) x j = 0 := fun j => by
      induction j with
      | zero => rfl
      | succ j ih => simp only [prodN, ih]; rw [show sprF n tch u 0 = List.replicate n 0 from rfl, zeros_get]; simp
    rw [this]; rfl
  | k + 1, hk => by
    have hkl : k < tch.length := by omega
    have hb := htb _ (lgm hkl)
    rw [sprF_succ, lge hkl]
    simp only [Option.getD_some]
    rw [prodN_set (by rw [sprF_len]; omega) (sprF_get k _ (by omega) fun j hj he => by
      rw [lge (show j < tch.length by omega)] at he
      have := tch_inj hnd (fun v hv => (htb v hv).1) (show j < tch.length by omega) hkl he
      omega), if_pos (by omega), sprF_prod hnd htb k (by omega)]
    simp only [prodN]
    congr 2
    simp [narF, hkl]
theorem sprF_set {n : Nat} {tch u : List Int} {a : Nat} {v : Int} (hnd : tch.Nodup) (hp : ∀ v ∈ tch, 0 ≤ v) (ha : a < tch.length) (hu : a < u.length) : ∀ k, k ≤ tch.length → sprF n tch (u.set a v) k = if a < k then (sprF n tch u k).set tch[a].toNat v else sprF n tch u k
  | 0, _ => by simp [sprF]
  | k + 1, hk => by
    have hkl : k < tch.length := by omega
    rw [sprF_succ, sprF_succ, sprF_set hnd hp ha hu k (by omega), lge hkl]
    simp only [Option.getD_some]
    by_cases h : a = k
    · subst h
      rw [if_neg (by omega), if_pos (by omega), List.getElem?_set_self hu, List.set_set]; rfl
    · rw [List.getElem?_set_ne h]
      by_cases h2 : a < k
      · rw [if_pos h2, if_pos (by omega), List.set_comm]
        exact fun he => h (tch_inj hnd hp ha hkl he)
      · rw [if_neg h2, if_neg (by omega)]
theorem enum_map {n : Nat} {tch : List Int} (hnd : tch.Nodup) (hp : ∀ v ∈ tch, 0 ≤ v) : ∀ (k a : Nat), a + k = tch.length → ∀ u : List Int, u.length = tch.length →
    enumL (tch.drop a) (sprF n tch u tch.length) = (enumL ((numL tch.length).drop a) u).map fun w => sprF n tch w tch.length
  | 0, a, hk, u, hu => by
    rw [List.drop_eq_nil_of_le (by omega), List.drop_eq_nil_of_le (by rw [numL_len]; omega)]; rfl
  | k + 1, a, hk, u, hu => by
    have ha : a < tch.length := by omega
    have ha' : a < (numL tch.length).length := by rw [numL_len]; exact ha
    have hg : (numL tch.length)[a] = (a : Int) := by
      have := numL_at ha
      rw [lge ha'] at this; exact this
    rw [List.drop_eq_getElem_cons ha, List.drop_eq_getElem_cons ha', hg]
    simp only [enumL, List.map_flatMap, Int.toNat_natCast]
    congr 1
    funext v
    rw [← enum_map hnd hp k (a + 1) (by omega) (u.set a v) (by rw [List.length_set]; exact hu), sprF_set hnd hp ha (by omega) _ (Nat.le_refl _), if_pos ha]
theorem lowL_len (ls : List (List Int)) (m : List Bool) (w : List Int) : (lowL ls m w).length ≤ ls.length := by
  unfold lowL; rw [List.length_map]; exact Nat.le_trans (List.length_filter_le _ _) (by simp)
theorem all_low {ls : List (List Int)} {w : List Int} (h : ∀ l ∈ ls, prodF w l ≤ -1) : okM ls (List.replicate ls.length true) w = true ∧ lowL ls (List.replicate ls.length true) w = numL ls.length := by
  have hg : ∀ i : Nat, i < ls.length → (List.replicate ls.length true)[i]?.getD false = true ∧ prodF w (ls[i]?.getD []) ≤ -1 := fun i hi => by
    refine ⟨by simp [hi], ?_⟩
    rw [lge hi]; exact h _ (lgm hi)
  constructor
  · unfold okM
    rw [Bool.not_eq_true', Bool.eq_false_iff]
    intro ha
    obtain ⟨i, hi, hh⟩ := List.any_eq_true.1 ha
    have := (hg i (List.mem_range.1 hi)).2
    unfold highM at hh
    simp only [Bool.and_eq_true, decide_eq_true_eq] at hh
    omega
  · unfold lowL numL
    rw [List.filter_eq_self.2 fun i hi => by
      have := hg i (List.mem_range.1 hi)
      unfold lowM
      rw [this.1]; simp; omega]
theorem low_all {ls : List (List Int)} {m : List Bool} {w : List Int} (h : (lowL ls m w).length = ls.length) : ∀ l ∈ ls, prodF w l ≤ -1 := fun l hl => by
  obtain ⟨i, hi, rfl⟩ := List.getElem_of_mem hl
  unfold lowL at h
  rw [List.length_map] at h
  have hf := (List.length_filter_eq_length_iff (p := lowM ls m w) (l := List.range ls.length)).1 (by rw [h]; simp) i (List.mem_range.2 hi)
  unfold lowM at hf
  rw [lge hi] at hf
  simp only [Bool.and_eq_true, decide_eq_true_eq, Option.getD_some] at hf
  omega
theorem first_stage {ls : List (List Int)} {n : Nat} {tch : List Int} (ht : tch = touchM n ls (List.replicate ls.length true)) (h0 : 0 < ls.length) (hf : (bestN (ls.map fun l => narF l tch tch.length) tch.length).1 = true) :
    bestS ls n (List.replicate ls.length true) = ⟨sprF n tch (bestN (ls.map fun l => narF l tch tch.length) tch.length).2 tch.length, numL ls.length⟩ := by
  have hnd : tch.Nodup := by rw [ht]; exact touchM_in.1
  have htb : ∀ v ∈ tch, 0 ≤ v ∧ v < n := by rw [ht]; exact touchM_in.2
  have hen := enum_map (n := n) hnd (fun v hv => (htb v hv).1) tch.length 0 (by omega) (List.replicate tch.length 0) (by simp)
  have hz : sprF n tch (List.replicate tch.length 0) tch.length = List.replicate n 0 := by
    have : ∀ k, k ≤ tch.length → sprF n tch (List.replicate tch.length 0) k = List.replicate n 0 := fun k => by
      induction k with
      | zero => intro _; rfl
      | succ k ih =>
        intro hk
        rw [sprF_succ, ih (by omega), zeros_get]
        exact set_self (zeros_get _ _)
    exact this _ (Nat.le_refl _)
  rw [List.drop_zero, List.drop_zero, hz] at hen
  obtain ⟨xs, hxs⟩ : ∃ xs, (ls.map fun l => narF l tch tch.length) = xs := ⟨_, rfl⟩
  rw [hxs] at hf ⊢
  have hall : ∀ u : List Int, u.length = tch.length → ((xs.all fun x => decide (prodF u x ≤ -1)) = true ↔ ∀ l ∈ ls, prodF (sprF n tch u tch.length) l ≤ -1) := fun u hu => by
    have hp : ∀ l, prodF (sprF n tch u tch.length) l = prodF u (narF l tch tch.length) := fun l => by
      unfold prodF
      rw [sprF_len, sprF_prod hnd htb _ (Nat.le_refl _), hu]
    rw [← hxs, List.all_eq_true]
    simp only [List.mem_map, decide_eq_true_eq, forall_exists_index, and_imp, forall_apply_eq_imp_iff₂, hp]
  have key := foldl_two (R := fun (F : Bool × List Int) (S : Stage) => (F.1 = true → S = ⟨sprF n tch F.2 tch.length, numL ls.length⟩ ∧ F.2.length = tch.length) ∧ (F.1 = false → S.removed.length < ls.length))
    (f := leafN xs) (g := fun S u => leafS ls (List.replicate ls.length true) S (sprF n tch u tch.length)) (q := fun u : List Int => u.length = tch.length) (fun F S u hu hR => by
      obtain ⟨hR1, hR2⟩ := hR
      have hsum : ∀ v : List Int, v.length = tch.length → (sprF n tch v tch.length).sum = v.sum := fun v hv => by
        rw [sprF_sum hnd htb hv _ (Nat.le_refl _), List.take_of_length_le (by omega)]
      by_cases hP : (xs.all fun x => decide (prodF u x ≤ -1)) = true
      · obtain ⟨hok, hlow⟩ := all_low ((hall u hu).1 hP)
        cases hF : F.1 with
        | false =>
          have hl : leafN xs F u = (true, u) := by unfold leafN; rw [hF, hP]; rfl
          have hb : leafS ls (List.replicate ls.length true) S (sprF n tch u tch.length) = ⟨sprF n tch u tch.length, numL ls.length⟩ := by
            unfold leafS betterS
            rw [hok, hlow, numL_len]
            have := hR2 hF
            rw [if_pos (by simp; omega)]
          rw [hl, hb]
          exact ⟨fun _ => ⟨rfl, hu⟩, fun h => by cases h⟩
        | true =>
          obtain ⟨hS, hFl⟩ := hR1 hF
          by_cases hlt : u.sum < F.2.sum
          · have hl : leafN xs F u = (true, u) := by unfold leafN; rw [hF, hP, decide_eq_true hlt]; rfl
            have hb : leafS ls (List.replicate ls.length true) S (sprF n tch u tch.length) = ⟨sprF n tch u tch.length, numL ls.length⟩ := by
              unfold leafS betterS
              rw [hok, hlow, numL_len, hS, hsum u hu]
              simp only [hsum F.2 hFl, numL_len]
              rw [if_pos (by simp; omega)]
            rw [hl, hb]
            exact ⟨fun _ => ⟨rfl, hu⟩, fun h => by cases h⟩
          · have hl : leafN xs F u = F := by unfold leafN; rw [hF, decide_eq_false hlt]; simp
            have hb : leafS ls (List.replicate ls.length true) S (sprF n tch u tch.length) = S := by
              unfold leafS betterS
              rw [hok, hlow, numL_len, hS, hsum u hu]
              simp only [hsum F.2 hFl, numL_len]
              rw [if_neg (by simp; omega)]
            rw [hl, hb]
            exact ⟨fun _ => ⟨hS, hFl⟩, fun h => by rw [hF] at h; cases h⟩
      · have hl : leafN xs F u = F := by unfold leafN; rw [Bool.eq_false_iff.2 hP]; simp
        have hlt : (lowL ls (List.replicate ls.length true) (sprF n tch u tch.length)).length < ls.length := by
          have h1 := lowL_len ls (List.replicate ls.length true) (sprF n tch u tch.length)
          refine Nat.lt_of_le_of_ne h1 fun he => hP ((hall u hu).2 (low_all he))
        rw [hl]
        refine ⟨fun hF => ?_, fun hF => ?_⟩
        · obtain ⟨hS, hFl⟩ := hR1 hF
          refine ⟨?_, hFl⟩
          have hSr : S.removed.length = ls.length := by rw [hS]; exact numL_len _
          show leafS _ _ _ _ = _
          unfold leafS betterS
          rw [if_neg (by simp; intro _; refine ⟨by omega, fun _ _ => by omega⟩)]
          exact hS
        · show (leafS _ _ _ _).removed.length < _
          unfold leafS
          split
          · exact hlt
          · exact hR2 hF)
    (enumL (numL tch.length) (List.replicate tch.length 0)) (false, []) ⟨[], []⟩ (fun u hu => by
      have := (enumL_dig _ _ (zeros_dig tch.length) u hu).1
      rw [List.length_replicate] at this; exact this) ⟨fun h => Bool.noConfusion h, fun _ => h0⟩
  have hb : bestS ls n (List.replicate ls.length true) = (enumL (numL tch.length) (List.replicate tch.length 0)).foldl (fun S u => leafS ls (List.replicate ls.length true) S (sprF n tch u tch.length)) ⟨[], []⟩ := by
    unfold bestS
    rw [← ht, hen, List.foldl_map]
  rw [hb]
  exact (key.1 hf).1
theorem restX_all (ls : List (List Int)) : restX ls (List.replicate ls.length true) = ls := by
  rw [restX_restI (by simp)]
  have : restI (List.replicate ls.length true) = List.range ls.length := by
    unfold restI
    rw [List.length_replicate]
    exact List.filter_eq_self.2 fun i hi => by simp [List.mem_range.1 hi]
  rw [this]
  refine List.ext_getElem? fun i => ?_
  rw [List.getElem?_map]
  by_cases h : i < ls.length
  · simp [h]
  · simp [h]
theorem numL_nodup (n : Nat) : (numL n).Nodup := by
  unfold numL
  refine List.nodup_iff_pairwise_ne.2 (List.Pairwise.map _ (R := fun a b => a < b) (fun a b h => by show (a : Int) ≠ (b : Int); omega) List.pairwise_lt_range)
theorem weights_law {t : Types} {rs : List Rule} (hE : effsE t rs = 0) (h0 : 0 < rs.length) {m : Nat} (hm : (effsT t rs).length = m) {F : Bool × List Int} (hF : bestN ((effsV t rs).map fun l => narF l (effsT t rs) m) m = F) (hf : F.1 = true) :
    stV t rs = [⟨sprF (t.nodes.length + t.edges.length) (effsT t rs) F.2 m, numL rs.length⟩] ∧ findE t rs = 0 := by
  subst hF hm
  have hv : effsV t rs = rs.map (effV t) := if_pos hE
  have hl : (effsV t rs).length = rs.length := by rw [hv, List.length_map]
  have ht : effsT t rs = touchM (t.nodes.length + t.edges.length) (effsV t rs) (List.replicate (effsV t rs).length true) := by
    rw [touchM_rest, restX_all, hv]; exact if_pos hE
  have hb := first_stage ht (by omega) hf
  rw [hl] at hb
  have hon : ∀ r ∈ numL rs.length, 0 ≤ r ∧ (List.replicate rs.length true)[r.toNat]? = some true := fun r hr => by
    unfold numL at hr
    obtain ⟨i, hi, rfl⟩ := List.mem_map.1 hr
    exact ⟨by omega, by simp [List.mem_range.1 hi]⟩
  have hc := cntM_off (numL rs.length) (List.replicate rs.length true) (numL_nodup _) hon
  rw [numL_len, cntM_all] at hc
  have hst : stgG t rs = ([⟨sprF (t.nodes.length + t.edges.length) (effsT t rs) (bestN ((effsV t rs).map fun l => narF l (effsT t rs) (effsT t rs).length) (effsT t rs).length).2 (effsT t rs).length, numL rs.length⟩], offM (List.replicate rs.length true) (numL rs.length)) := by
    unfold stgG
    obtain ⟨k, hk⟩ : ∃ k, rs.length = k + 1 := ⟨rs.length - 1, by omega⟩
    conv => lhs; arg 3; rw [hk]
    rw [stagesF_step (by rw [cntM_all]; omega) (by rw [hb]; intro h; have hq := congrArg List.length h; rw [numL_len] at hq; exact absurd hq (by show rs.length ≠ 0; omega)), hb]
    rw [stagesF_stop (.inl (by show cntM (offM _ (numL rs.length)) = 0; omega))]
  have hr : restI (stgG t rs).2 = [] := by rw [hst]; exact cntM_restI.2 (by show cntM (offM _ (numL rs.length)) = 0; omega)
  refine ⟨by unfold stV; rw [if_pos ⟨hE, hr⟩, hst], ?_⟩
  have hrst : rstV t rs = [] := by unfold rstV; rw [if_pos hE, hr]; rfl
  unfold findE
  rw [if_neg (fun h => h.2 hrst), hE]
end Go.Abs
end
section
set_option maxRecDepth 8000
set_option maxHeartbeats 1000000
open Go Go.Proofs
namespace Go.Abs
def findN (t : Types) (rs : List Rule) : List Int × Int :=
  if effsE t rs ≠ 0 then ([], effsE t rs)
  else if (bestN ((effsV t rs).map fun l => narF l (effsT t rs) (effsT t rs).length) (effsT t rs).length).1 = true then
    (sprF (t.nodes.length + t.edges.length) (effsT t rs) (bestN ((effsV t rs).map fun l => narF l (effsT t rs) (effsT t rs).length) (effsT t rs).length).2 (effsT t rs).length, 0)
  else ([], 10)
theorem narF_len (l tch : List Int) (k : Nat) : (narF l tch k).length = k := by simp [narF]
theorem narF_bd {l tch : List Int} (h : ∀ x ∈ l, -100000 ≤ x ∧ x ≤ 100000) (k : Nat) : ∀ x ∈ narF l tch k, -100000 ≤ x ∧ x ≤ 100000 := fun x hx => by
  unfold narF at hx
  obtain ⟨i, _, rfl⟩ := List.mem_map.1 hx
  cases hy : l[(tch[i]?.getD 0).toNat]? with
  | none => simp
  | some y => simpa using h y (List.mem_of_getElem? hy)
theorem odo_step {α : Type} {f : α → List Int → α} {m c : Nat} {w z : List Int} {rest : List (List Int)} {F : α} (hcr : chainR (odoR (numL m)) (w :: rest)) (hcl : (w :: rest).getLast? = some z) (hod : (odoF (numL m) m z).2 = false) (hc1 : c = rest.length + 1) :
    ((odoF (numL m) m w).2 = true → c - 1 = rest.tail.length + 1 ∧ chainR (odoR (numL m)) ((odoF (numL m) m w).1 :: rest.tail) ∧ ((odoF (numL m) m w).1 :: rest.tail).getLast? = some z ∧ ((odoF (numL m) m w).1 :: rest.tail).foldl f (f F w) = (w :: rest).foldl f F) ∧
    ((odoF (numL m) m w).2 = false → f F w = (w :: rest).foldl f F) := by
  cases rest with
  | nil =>
    have h0 : w = z := by simpa using hcl
    subst h0
    exact ⟨fun h => (by rw [hod] at h; cases h), fun _ => rfl⟩
  | cons v r =>
    have hv := hcr.1
    unfold odoR at hv
    rw [numL_len] at hv
    refine ⟨fun _ => ⟨by simp at hc1 ⊢; omega, ?_, ?_, ?_⟩, fun h => (by rw [hv] at h; cases h)⟩
    ·rw [hv]; exact hcr.2
    ·rw [hv]; simpa [List.getLast?_cons_cons] using hcl
    ·rw [hv]; rfl
theorem ref39_Find (t : Types) (ht : t.ok) (rs : List Rule) (hr : ∀ r ∈ rs, r.ok) : Pure Tryz.prog 22 [t.d, .list (rs.map Rule.c)] (.tup [dLI (findN t rs).1, dI (findN t rs).2]) := by
  have hfN := ht.fewN
  have hfE := ht.fewE
  obtain ⟨ls, hls⟩ : ∃ ls, effsV t rs = ls := ⟨_, rfl⟩
  obtain ⟨tch, htc⟩ : ∃ tch, effsT t rs = tch := ⟨_, rfl⟩
  obtain ⟨n, hn⟩ : ∃ n, t.nodes.length + t.edges.length = n := ⟨_, rfl⟩
  obtain ⟨m, hm⟩ : ∃ m, tch.length = m := ⟨_, rfl⟩
  obtain ⟨xs, hxs⟩ : ∃ xs, (ls.map fun l => narF l tch tch.length) = xs := ⟨_, rfl⟩
  obtain ⟨l0, z, hen, hch, hla, hod⟩ := odo_enum (numL m) (numL_nodup m) m (fun v hv => by
    unfold numL at hv
    obtain ⟨i, hi, rfl⟩ := List.mem_map.1 hv
    have := List.mem_range.1 hi
    omega) m 0 (by rw [numL_len]; omega) (List.replicate m 0) (by simp) (fun _ _ _ => zeros_get m _)
  rw [List.drop_zero] at hen
  have hod2 : (odoF (numL m) m z).2 = false := by
    rw [numL_len] at hod; rw [hod]; rfl
  refine Tz.pK ⟨fun t => t == 10 || t == 12 || t == 13 || t == 70, fun _ => []⟩ Tryz.func22 rfl (fun Q hQ => ?_)
  try simp [go_sem]
  refine cq0 ((by have hz := ref39_Effects t ht rs hr; rw [hls] at hz; exact hz)) ?_
  try simp [go_sem]
  refine condQ_mk (fun h2 => ?_) (fun h2 => ?_)
  · try simp [go_sem] at h2
    try simp [go_sem]
    exact hQ _ _ (by first | (left; (simp [go_sem, findN, h2]); done) | (right; (simp [go_sem, findN, h2]); done))
  · try simp [go_sem] at h2
    have hE : effsE t rs = 0 := h2
    obtain ⟨e1, e2, e3, e4, e5⟩ := effsE_of hE
    have hv : effsV t rs = rs.map (effV t) := if_pos hE
    have hvl : ls = rs.map (effV t) := by rw [← hls, hv]
    have hll : ls.length ≤ 6 := by rw [hvl, List.length_map]; exact e2
    have hrow : ∀ l ∈ ls, l.length = n := fun l hl => by
     rw [hvl] at hl
     obtain ⟨r, hr', rfl⟩ := List.mem_map.1 hl
     rw [effV_len (e4 r hr'), hn]
    have htl : touchL n ls = tch := by rw [← htc, hvl, ← hn]; exact (if_pos hE).symm
    have htb : ∀ v ∈ tch, 0 ≤ v ∧ v < n := by rw [← htl]; exact touchL_mem
    have hbd : ∀ l ∈ ls, ∀ x ∈ l, -100000 ≤ x ∧ x ≤ 100000 := fun l hl => by
     rw [hvl] at hl
     obtain ⟨r, _, rfl⟩ := List.mem_map.1 hl
     exact effV_bound
    have hm6 : m ≤ 6 := by rw [← hm, ← htl, hvl, ← hn]; exact e5
    try simp [go_sem]
    repeat first | intro _ | refine ⟨obs, ?_⟩
    refine cq0 ((by have hz := ref39_touched n (by omega) ls hrow; rw [htl, ← hn] at hz; simp only [dI, Int.natCast_add] at hz; exact hz)) ?_
    try simp [go_sem]
    repeat first | intro _ | refine ⟨obs, ?_⟩
    obtain ⟨I0, hI0⟩ := mkI fun i e H => (∃ ys : List (List Int), (e 2 = .adr t.c) ∧ (e 1 = .list (rs.map Rule.c)) ∧ (e 6 = .list (ls.map cL)) ∧ (e 8 = dI n) ∧ (e 9 = dLI tch) ∧ (e 10 = .own 0 ys.length) ∧ (e 11 = dI i) ∧ (H.get 0 = some ⟨31, 1, ys.map cL, false⟩) ∧ (0 < H.next) ∧ (i ≤ ls.length) ∧ (ys.length = i) ∧ (ys = (ls.take i).map (fun l => narF l tch tch.length)))
    refine loopK I0 (fun i => ls.length - i) (0) ((hI0 _ _ _).2 ⟨([]), ?_, ?_, ?_, ?_, ?_, ?_, ?_, ?_, ?_, (by first | assumption | omega | (simp [go_sem]; done) | (simp_all; done)), (by rfl), (by rfl)⟩) ?_
    iterate 9 (first | omega | (simp [go_sem] <;> omega))
    intro i e H hi0
    obtain ⟨ys, q2_0, q1_0, q6_0, q8_0, q9_0, q10_0, q11_0, g0_0, n0_0, hi, hyl, hy⟩ := (hI0 _ _ _).1 hi0
    have x0 := frs n0_0
    have F0 := And.intro q2_0 (And.intro q1_0 (And.intro q6_0 (And.intro q8_0 (And.intro q9_0 (And.intro q10_0 (And.intro q11_0 (And.intro g0_0 x0)))))))
    try simp [go_sem, F0]
    repeat first | intro _ | refine ⟨obs, ?_⟩
    refine condQ_mk (fun h8 => ?_) (fun h8 => ?_)
    ·try simp [go_sem] at h8
     try simp [go_sem, F0, h8, lge h8, cL]
     repeat first | intro _ | refine ⟨obs, ?_⟩
     refine cq0 (ref39_narrow ls[i] tch (by rw [hrow _ (lgm h8)]; exact htb) (by omega)) ?_
     try simp [go_sem, F0, h8, lge h8, cL]
     repeat first | intro _ | refine ⟨obs, ?_⟩
     refine nextQ_mk (i + 1) (by omega) ((hI0 _ _ _).2 ⟨(ys ++ [narF ls[i] tch tch.length]), ?_, ?_, ?_, ?_, ?_, ?_, ?_, ?_, ?_, (by first | assumption | omega | (simp [go_sem, F0, h8, lge h8, cL, h2]; done) | (simp_all <;> omega)), (by (rw [List.length_append, hyl]; rfl)), (by (rw [map_take_succ _ h8, ← hy]))⟩) <;> first | omega | (simp [go_sem, F0, h8, lge h8, cL] <;> omega)
    ·try simp [go_sem] at h8
     have hI : i = ls.length := by omega
     have hyx : ys = xs := by rw [hy, hI, List.take_of_length_le (Nat.le_refl _), ← hxs]
     have hyll : ys.length = xs.length := by rw [hyx]
     try simp [go_sem, F0]
     repeat first | intro _ | refine ⟨obs, ?_⟩
     obtain ⟨I2, hI2⟩ := mkI fun c e H => (∃ q : Nat, ∃ i1 : Nat, ∃ w : List Int, ∃ F : Bool × List Int, ∃ rest : List (List Int), ∃ fl : Bool, (e 2 = .adr t.c) ∧ (e 1 = .list (rs.map Rule.c)) ∧ (e 6 = .list (ls.map cL)) ∧ (e 8 = dI n) ∧ (e 9 = dLI tch) ∧ (e 10 = .own 0 xs.length) ∧ (e 12 = .own q m) ∧ (e 13 = .own i1 F.2.length) ∧ (e 14 = .bool F.1) ∧ (e 15 = .bool fl) ∧ (H.get 0 = some ⟨31, 1, xs.map cL, false⟩) ∧ (0 < H.next) ∧ (H.get q = some ⟨3, 1, w.map cI, false⟩) ∧ (q < H.next) ∧ (H.get i1 = some ⟨3, 1, F.2.map cI, false⟩) ∧ (i1 < H.next) ∧ (q ≠ 0) ∧ (i1 ≠ 0 ∧ i1 ≠ q) ∧ (w.length = m) ∧ (∀ x ∈ w, 0 ≤ x ∧ x ≤ 6) ∧ (F.2.length ≤ m ∧ (∀ x ∈ F.2, 0 ≤ x ∧ x ≤ 6) ∧ (F.1 = true → F.2.length = m)) ∧ (fl = true → c = rest.length + 1 ∧ chainR (odoR (numL m)) (w :: rest) ∧ (w :: rest).getLast? = some z ∧ (w :: rest).foldl (leafN xs) F = bestN xs m) ∧ (fl = false → F = bestN xs m))
     refine loopK I2 (fun c => c) (l0.length + 1) ((hI2 _ _ _).2 ⟨(H.next), (H.next + 1), (List.replicate m 0), ((false, [])), (l0), (true), ?_, ?_, ?_, ?_, ?_, ?_, ?_, ?_, ?_, ?_, (by (simp [go_sem, F0, hyx])), ?_, ?_, ?_, ?_, ?_, (by omega), (by omega), (by first | assumption | omega | (simp [go_sem, F0]; done) | (simp_all; done)), (by (exact zeros_dig m)), (by (exact ⟨by simp, by simp, fun h => Bool.noConfusion h⟩)), (by (exact fun _ => ⟨rfl, hch, hla, by unfold bestN; rw [hen]⟩)), (by (intro h; cases h))⟩) ?_
     iterate 15 (first | omega | (simp [go_sem, F0] <;> omega))
     intro c e H hi2
     obtain ⟨q, i1, w, F, rest, fl, q2_2, q1_2, q6_2, q8_2, q9_2, q10_2, q12_2, q13_2, q14_2, q15_2, g0_2, n0_2, gq_2, nq_2, gi1_2, ni1_2, hq0, hi0, hwl, hwd, hFd, hc, hcf⟩ := (hI2 _ _ _).1 hi2
     have x0 := frs n0_2
     have xq := frs nq_2
     have xi1 := frs ni1_2
     have F2 := And.intro q2_2 (And.intro q1_2 (And.intro q6_2 (And.intro q8_2 (And.intro q9_2 (And.intro q10_2 (And.intro q12_2 (And.intro q13_2 (And.intro q14_2 (And.intro q15_2 (And.intro g0_2 (And.intro gq_2 (And.intro gi1_2 (And.intro x0 (And.intro xq xi1))))))))))))))
     try simp [go_sem, F2, hwl]
     refine condQ_mk (fun h13 => ?_) (fun h13 => ?_)
     ·try simp [go_sem] at h13
      have hfl : fl = true := h13
      obtain ⟨hc1, hcr, hcl, hfo⟩ := hc hfl
      obtain ⟨hst1, hst2⟩ := odo_step (f := leafN xs) (F := F) hcr hcl hod2 hc1
      rw [hfo] at hst1 hst2
      have hpo : ∀ l ∈ xs, ProdOk w l := fun l hl => by
       rw [← hxs] at hl
       obtain ⟨l', hl', rfl⟩ := List.mem_map.1 hl
       exact ⟨by rw [narF_len]; omega, by omega, fun x hx => by have := hwd x hx; omega, narF_bd (hbd l' hl') _⟩
      try simp [go_sem, F2, hwl, h13]
      repeat first | intro _ | refine ⟨obs, ?_⟩
      refine gcallQ_pureF (fun hg => (ref39_total w (by omega) hwd)) (by simp [rsvC, rsvP, cellsAt, go_sem, ← List.map_take, ← List.map_drop, F2, hwl, h13]) (fun hg => (by first | rfl | (simp [go_sem, ← List.map_take, ← List.map_drop, F2, hwl, h13]; done))) (fun hg =>  rfl) ?_
      try simp [go_sem, F2, hwl, h13]
      repeat first | intro _ | refine ⟨obs, ?_⟩
      refine gcallQ_pureF (fun hg => (ref39_total F.2 (by omega) hFd.2.1)) (by simp [rsvC, rsvP, cellsAt, go_sem, ← List.map_take, ← List.map_drop, F2, hwl, h13]) (fun hg => (by first | rfl | (simp [go_sem, ← List.map_take, ← List.map_drop, F2, hwl, h13]; done))) (fun hg =>  rfl) ?_
      try simp [go_sem, F2, hwl, h13]
      repeat first | intro _ | refine ⟨obs, ?_⟩
      refine gcallQ_pureF (fun hg => (ref39_lowers w xs hpo)) (by simp [rsvC, rsvP, cellsAt, go_sem, ← List.map_take, ← List.map_drop, F2, hwl, h13]) (fun hg => (by first | rfl | (simp [go_sem, ← List.map_take, ← List.map_drop, F2, hwl, h13]; done))) (fun hg =>  rfl) ?_
      try simp [go_sem, F2, hwl, h13]
      repeat first | intro _ | refine ⟨obs, ?_⟩
      refine condQ_mk (fun h15 => ?_) (fun h15 => ?_)
      ·try simp [go_sem] at h15
       obtain ⟨j1, hj1⟩ : ∃ j, j = H.next := ⟨_, rfl⟩
       have hLN : leafN xs F w = (true, w) := by unfold leafN; rw [if_pos (by simpa using h15)]
       replace h15 : True := trivial
       have hFd2 : (leafN xs F w).2.length ≤ m ∧ (∀ x ∈ (leafN xs F w).2, 0 ≤ x ∧ x ≤ 6) ∧ ((leafN xs F w).1 = true → (leafN xs F w).2.length = m) := by rw [hLN]; exact ⟨by show w.length ≤ m; omega, hwd, fun _ => hwl⟩
       try simp [go_sem, F2, hwl, h13, hj1, hLN]
       repeat first | intro _ | refine ⟨obs, ?_⟩
       unfold callQ; refine ref39_next m (by omega) q w hwl hwd _ (by simp [go_sem, F2, hwl, h13, hj1, hLN]) _ (fun H3 hb1 hb2 hb3 hb4 hb5 => ?_)
       have m0 := hb4 0 (by omega)
       have m1 := hb4 j1 (by omega)
       have hb5s := hb5
       try simp [go_sem] at hb5s
       try simp [go_sem, F2, hwl, h13, hj1, hLN] at m0 m1
       have fr1 := And.intro (frs (show q < H3.next by omega)) (frs (show j1 < H3.next by omega))
       try simp [go_sem, F2, hwl, h13, hj1, hLN, m0, m1, hb1, fr1]
       repeat first | intro _ | refine ⟨obs, ?_⟩
       refine nextQ_mk (c - 1) (by omega) ((hI2 _ _ _).2 ⟨(q), (j1), ((odoF (numL m) m w).1), (leafN xs F w), (rest.tail), ((odoF (numL m) m w).2), ?_, ?_, ?_, ?_, ?_, ?_, ?_, ?_, ?_, ?_, (by (simp [go_sem, F2, hwl, h13, hj1, hLN, m0, m1, hb1, fr1])), ?_, ?_, ?_, ?_, ?_, (by omega), (by omega), (by first | assumption | omega | (simp [go_sem, F2, hwl, h13, hj1, hLN, m0, m1, hb1, fr1, h2, h8, h15]; done) | (simp_all <;> omega)), (by (exact hb3)), (by (exact hFd2)), (by (exact hst1)), (by (exact hst2))⟩) <;> first | omega | (simp [go_sem, F2, hwl, h13, hj1, hLN, m0, m1, hb1, fr1] <;> omega)
      ·try simp [go_sem] at h15
       obtain ⟨j1, hj1⟩ : ∃ j, j = i1 := ⟨_, rfl⟩
       have hLN : leafN xs F w = F := by unfold leafN; rw [if_neg (by simpa using h15)]
       replace h15 : True := trivial
       have hFd2 : (leafN xs F w).2.length ≤ m ∧ (∀ x ∈ (leafN xs F w).2, 0 ≤ x ∧ x ≤ 6) ∧ ((leafN xs F w).1 = true → (leafN xs F w).2.length = m) := by rw [hLN]; exact hFd
       try simp [go_sem, F2, hwl, h13, hj1, hLN]
       unfold callQ; refine ref39_next m (by omega) q w hwl hwd _ (by simp [go_sem, F2, hwl, h13, hj1, hLN]) _ (fun H3 hb1 hb2 hb3 hb4 hb5 => ?_)
       have m0 := hb4 0 (by omega)
       have m1 := hb4 j1 (by omega)
       have hb5s := hb5
       try simp [go_sem] at hb5s
       try simp [go_sem, F2, hwl, h13, hj1, hLN] at m0 m1
       have fr2 := And.intro (frs (show q < H3.next by omega)) (frs (show j1 < H3.next by omega))
       try simp [go_sem, F2, hwl, h13, hj1, hLN, m0, m1, hb1, fr2]
       refine nextQ_mk (c - 1) (by omega) ((hI2 _ _ _).2 ⟨(q), (j1), ((odoF (numL m) m w).1), (leafN xs F w), (rest.tail), ((odoF (numL m) m w).2), ?_, ?_, ?_, ?_, ?_, ?_, ?_, ?_, ?_, ?_, (by (simp [go_sem, F2, hwl, h13, hj1, hLN, m0, m1, hb1, fr2])), ?_, ?_, ?_, ?_, ?_, (by omega), (by omega), (by first | assumption | omega | (simp [go_sem, F2, hwl, h13, hj1, hLN, m0, m1, hb1, fr2, h2, h8, h15]; done) | (simp_all <;> omega)), (by (exact hb3)), (by (exact hFd2)), (by (exact hst1)), (by (exact hst2))⟩) <;> first | omega | (simp [go_sem, F2, hwl, h13, hj1, hLN, m0, m1, hb1, fr2] <;> omega)
     ·try simp [go_sem] at h13
      have hfl : fl = false := by simpa using h13
      have hF := hcf hfl
      try simp [go_sem, F2, hwl]
      repeat first | intro _ | refine ⟨obs, ?_⟩
      refine condQ_mk (fun h17 => ?_) (fun h17 => ?_)
      ·try simp [go_sem] at h17
       have hb : (bestN xs m).1 = false := by rw [← hF]; simpa using h17
       have hfin : findN t rs = ([], 10) := by unfold findN; rw [if_neg (by rw [hE]; simp), hls, htc, hxs, hm, if_neg (by rw [hb]; simp)]
       try simp [go_sem, F2, hwl]
       exact hQ _ _ (by first | (left; (simp [go_sem, hfin]); done) | (right; (simp [go_sem, hfin]); done))
      ·try simp [go_sem] at h17
       have hb1 : F.1 = true := by simpa using h17
       have hb : (bestN xs m).1 = true := by rw [← hF]; exact hb1
       have hFl : F.2.length = tch.length := by rw [hm]; exact hFd.2.2 hb1
       have hfin : findN t rs = (sprF n tch F.2 tch.length, 0) := by unfold findN; rw [if_neg (by rw [hE]; simp), hls, htc, hxs, hm, if_pos hb, ← hF, hn]
       try simp [go_sem, F2, hwl, hFl]
       refine callQ_pureZ ((ref39_spread n (by omega) tch F.2 htb (by omega) hFl)) (by (simp [go_sem, F2, hwl, hFl]) <;> rfl) ((by first | rfl | (simp [go_sem, ← List.map_take, ← List.map_drop, F2, hwl, hFl]; done))) (by (simp [go_sem, F2, hwl, hFl]) <;> rfl) ?_
       try simp [go_sem, F2, hwl, hFl]
       exact hQ _ _ (.inl (by simp [go_sem, hfin]))
end Go.Abs
end
section
set_option maxRecDepth 8000
set_option maxHeartbeats 1000000
open Go Go.Proofs
namespace Go.Abs
theorem law41_WeightsG (d : DrT) (t : Types) (rs : List Rule) (h : Host) (S : List Stage) (W : List Int) (E X : Int) (b : Bool) (hrs : rs.length ≤ 100000)
    (cP : Pure Tryz.prog 21 [.agg d.c] (.tup [t.d, .list (rs.map Rule.c), h.d, .bool b]))
    (cF : b = true → Pure Tryz.prog 22 [t.d, .list (rs.map Rule.c)] (.tup [dLI W, dI X]))
    (c1 : b = true → Pure Tryz.prog 23 [t.d, .list (rs.map Rule.c)] (.tup [.list (S.map Stage.c), dI E]))
    (c7 : Pure Tryz.prog 20 [dLI W, dLI W] (.bool true))
    (hk : b = true → X = 0 → rs.length ≠ 0 → E = 0 ∧ S = [⟨W, numL rs.length⟩]) : Pure Tryz.prog 5 [.agg d.c] (.bool true) := by
  refine Tz.pK ⟨fun t => t == 3 || t == 5, fun _ => []⟩ Tryz.func5 rfl (fun Q hQ => ?_)
  try simp [go_sem, w_seqN, DrT.c]
  refine cq0 ((by have hz := cP; simp only [DrT.c] at hz; exact hz)) ?_
  try simp [go_sem, w_seqN, DrT.c]
  repeat first | intro _ | refine ⟨obs, ?_⟩
  refine cq0 (law41_awake) ?_
  try simp [go_sem, w_seqN, DrT.c]
  repeat first | intro _ | refine ⟨obs, ?_⟩
  refine condQ_mk (fun h2 => ?_) (fun h2 => ?_)
  · try simp [go_sem] at h2
    try simp [go_sem, w_seqN, DrT.c]
    refine cq0 (law41_awake) ?_
    try simp [go_sem, w_seqN, DrT.c]
    exact hQ _ _ (by simp [go_sem, w_seqN, DrT.c, h2] <;> first | omega | (rw [bei]; simp <;> omega) | (simp_all <;> omega))
  · try simp [go_sem] at h2
    have hb : b = true := by cases hbb : b <;> simp [hbb] at h2 ⊢
    try simp [go_sem, w_seqN, DrT.c]
    refine cq0 (cF hb) ?_
    try simp [go_sem, w_seqN, DrT.c]
    repeat first | intro _ | refine ⟨obs, ?_⟩
    refine condQ_mk (fun h5 => ?_) (fun h5 => ?_)
    ·try simp [go_sem] at h5
     try simp [go_sem, w_seqN, DrT.c]
     exact hQ _ _ (by simp [go_sem, w_seqN, DrT.c, h2, h5] <;> first | omega | (rw [bei]; simp <;> omega) | (simp_all <;> omega))
    ·try simp [go_sem] at h5
     have hXR : X = 0 ∧ rs.length ≠ 0 := ⟨h5.1, fun h => h5.2 (List.eq_nil_of_length_eq_zero h)⟩
     obtain ⟨hE, hS⟩ := hk hb hXR.1 hXR.2
     try simp [go_sem, w_seqN, DrT.c, numL_len]
     refine cq0 ((by have hz := c1 hb; rw [hE, hS] at hz; exact hz)) ?_
     try simp [go_sem, w_seqN, DrT.c, numL_len]
     repeat first | intro _ | refine ⟨obs, ?_⟩
     refine gcq0 (fun hg => c7) ?_
     try simp [go_sem, w_seqN, DrT.c, numL_len]
     repeat first | intro _ | refine ⟨obs, ?_⟩
     exact hQ _ _ (by simp [go_sem, w_seqN, DrT.c, numL_len, h2, h5] <;> first | omega | (rw [bei]; simp <;> omega) | (simp_all <;> omega))
theorem findN_zero {t : Types} {rs : List Rule} (h : (findN t rs).2 = 0) (h0 : rs.length ≠ 0) : findE t rs = 0 ∧ stV t rs = [⟨(findN t rs).1, numL rs.length⟩] := by
  unfold findN at h ⊢
  by_cases hE : effsE t rs = 0
  · rw [if_neg (by rw [hE]; simp)] at h ⊢
    by_cases hb : (bestN ((effsV t rs).map fun l => narF l (effsT t rs) (effsT t rs).length) (effsT t rs).length).1 = true
    ·rw [if_pos hb]
     obtain ⟨h1, h2⟩ := weights_law hE (by omega) rfl rfl hb
     exact ⟨h2, h1⟩
    ·rw [if_neg hb] at h; cases h
  · rw [if_pos hE] at h; exact absurd h hE
theorem law41_CountingWeights (d : DrT) : Pure Tryz.prog 5 [.agg d.c] (.bool true) := by
  have hP := law41_parts d
  unfold DrT.v at hP
  by_cases hs : d.small = true
  · rw [if_pos hs] at hP
    have hll : d.l.length ≤ 6 := by show (made39 _ _).length ≤ 6; unfold made39; rw [List.length_map, List.length_take]; omega
    have hh : d.light = true → d.t.ok ∧ ∀ r ∈ d.l, r.ok := fun hL => by
     have hL' : lightB d.t d.l = true := by unfold DrT.light at hL; simp only [Bool.and_eq_true] at hL; exact hL.1
     exact ⟨fewT_ok (light_few hL').1, (fewRs_ok (light_few hL').2).2⟩
    exact law41_WeightsG d d.t d.l d.h (stV d.t d.l) (findN d.t d.l).1 (findE d.t d.l) (findN d.t d.l).2 d.light (by omega) hP
     (fun h => ref39_Find d.t (hh h).1 d.l (hh h).2) (fun h => counting_Find d.t (hh h).1 d.l (hh h).2) (by simpa using equal_int (findN d.t d.l).1 (findN d.t d.l).1) (fun _ hX h0 => findN_zero hX h0)
  · rw [if_neg hs] at hP
    exact law41_WeightsG d ⟨[], []⟩ [] ⟨⟨[], []⟩, []⟩ [] [] 0 0 false (by simp) hP (fun h => by cases h) (fun h => by cases h) (by simpa using equal_int [] []) (fun h => by cases h)
end Go.Abs
end
section
namespace Go.Abs
open Go.ChangeShapes Go.WideShapes Go.RowKit
structure Bulk {H : Type} (bulk : DataW H → Nat) : Prop where
  len : ∀ e s, e.length ≤ bulk (.slice e s)
  el : ∀ e s, ∀ d ∈ e, bulk d ≤ bulk (.slice e s)
  part : ∀ l, ∀ d ∈ l, bulk d ≤ bulk (.agg l)
  str : ∀ s : List UInt8, s.length ≤ bulk (.lit (.string s))
abbrev noM : Nat → Prop := fun _ => False
section
variable {H : Type} {enc : TypeId × Value → H} {P : Program} {w : World} {base : Nat} {spare : Nat → Bool} {held : Bool} {bulk : DataW H → Nat} {B : Nat}
def Opens (enc : TypeId × Value → H) (P : Program) (w : World) (base : Nat) (spare : Nat → Bool) (held : Bool) (bulk : DataW H → Nat) (B : Nat) (n : Nat) (t : TypeId) {α : Type} (C : α → List D) (G : α → Prop) : Prop :=
  ∀ (fuel : Nat) (cs : List Value) (x : DataW H × List MemPlace), fuel ≤ n → DataW.trod enc P w base spare held fuel t cs = some x → bulk x.1 ≤ B →
    ∃ a, G a ∧ RepL noM noRef noId w cs (C a) ∧ ∀ u ∈ cs, u.oneCell' = true
variable {n : Nat} {t : TypeId}
theorem Opens.mono {α : Type} {C : α → List D} {G : α → Prop} {m : Nat} (h : Opens enc P w base spare held bulk B n t C G) (hm : m ≤ n) : Opens enc P w base spare held bulk B m t C G :=
  fun fuel cs x hf hx hb => h fuel cs x (Nat.le_trans hf hm) hx hb
theorem Opens.zero {α : Type} {C : α → List D} {G : α → Prop} : Opens enc P w base spare held bulk B 0 t C G := fun fuel cs x hf hx _ => by
  have : fuel = 0 := by omega
  subst this
  simp [DataW.trod] at hx
theorem Opens.map {α β : Type} {C : α → List D} {G : α → Prop} {C' : β → List D} {G' : β → Prop} (h : Opens enc P w base spare held bulk B n t C G) (f : α → β) (hC : ∀ a, C a = C' (f a)) (hG : ∀ a, G a → G' (f a)) : Opens enc P w base spare held bulk B n t C' G' :=
  fun fuel cs x hf hx hb => by
    obtain ⟨a, h1, h2, h3⟩ := h fuel cs x hf hx hb
    exact ⟨f a, hG a h1, by rw [← hC]; exact h2, h3⟩
theorem repL_one {v : Value} {d : D} (h : RepV noM noRef noId w v d) : RepL noM noRef noId w [v] [d] :=
  ⟨rfl, fun j u x hu hx => by
    cases j with
    | zero => simp at hu hx; subst hu; subst hx; exact h
    | succ j => simp at hu⟩
theorem repL_app {a b : List Value} {c d : List D} (h : RepL noM noRef noId w a c) (k : RepL noM noRef noId w b d) : RepL noM noRef noId w (a ++ b) (c ++ d) := by
  refine ⟨by simp [h.len, k.len], fun j u x hu hx => ?_⟩
  by_cases hj : j < a.length
  · rw [List.getElem?_append_left hj] at hu
    rw [List.getElem?_append_left (by rw [← h.len]; exact hj)] at hx
    exact h.rep j u x hu hx
  · rw [List.getElem?_append_right (by omega)] at hu
    rw [List.getElem?_append_right (by rw [← h.len]; omega), ← h.len] at hx
    exact k.rep _ u x hu hx
theorem opens_bool (ht : P.underlying t = some .bool) : Opens enc P w base spare held bulk B n t (fun b : Bool => [D.bool b]) (fun _ => True) := fun fuel cs x _ hx _ => by
  obtain ⟨b, rfl, _⟩ := DataW.trod_bool ht hx
  exact ⟨b, trivial, repL_one (.bool b), by simp [Value.oneCell']⟩
theorem rows {α : Type} {C : α → List D} {G : α → Prop} {ad : Addr} {sz : Nat} : ∀ (len : Nat),
    (∀ i, i < len → ∃ c a, w.cells? base (ad.add (i * sz)) sz = some c ∧ G a ∧ RepL noM noRef noId w c (C a) ∧ ∀ u ∈ c, u.oneCell' = true) →
    ∃ (l : List α) (xs : List Value), l.length = len ∧ (∀ a ∈ l, G a) ∧ RepL noM noRef noId w xs (l.map C).flatten ∧ (∀ u ∈ xs, u.oneCell' = true) ∧ xs.length = len * sz ∧
      (∀ (j : Nat) (u : Value), xs[j]? = some u → w.cell? (ad.add j) = some u) ∧ ∀ c ∈ l.map C, c.length = sz
  | 0, _ => ⟨[], [], rfl, by simp, ⟨rfl, fun j u d hu => by simp at hu⟩, by simp, by simp, by simp, by simp⟩
  | len + 1, h => by
    obtain ⟨l, xs, h1, h2, h3, h4, h5, h6, h7⟩ := rows len fun i hi => h i (by omega)
    obtain ⟨c, a, hc, hg, hr, h1c⟩ := h len (by omega)
    obtain ⟨_, hcl, hcell⟩ := World.cells?_some hc
    refine ⟨l ++ [a], xs ++ c, by simp [h1], fun b hb => ?_, ?_, fun u hu => ?_, by rw [List.length_append, h5, hcl, Nat.succ_mul], fun j u hu => ?_, fun b hb => ?_⟩
    · rcases List.mem_append.1 hb with h | h
      · exact h2 b h
      · simp at h; subst h; exact hg
    · rw [List.map_append, List.flatten_append]
      refine repL_app h3 ?_
      simpa using hr
    · rcases List.mem_append.1 hu with h | h
      · exact h4 u h
      · exact h1c u h
    · by_cases hj : j < xs.length
      · rw [List.getElem?_append_left hj] at hu; exact h6 j u hu
      · rw [List.getElem?_append_right (by omega)] at hu
        have hlt : j - xs.length < sz := by rw [← hcl]; exact (List.getElem?_eq_some_iff.1 hu).1
        have := hcell (j - xs.length) hlt
        rw [Addr.add_add, hu] at this
        rwa [show len * sz + (j - xs.length) = j by omega] at this
    · rw [List.map_append] at hb
      rcases List.mem_append.1 hb with h | h
      · exact h7 b h
      · simp at h; subst h; rw [← hr.len, hcl]
theorem opens_slice (hB : Bulk bulk) {e : TypeId} (ht : P.underlying t = some (.slice e)) {α : Type} {C : α → List D} {G : α → Prop} (h : Opens enc P w base spare held bulk B n e C G) :
    Opens enc P w base spare held bulk B (n + 1) t (fun l : List α => [.list (l.map C)]) (fun l => l.length ≤ B ∧ ∀ a ∈ l, G a) := fun fuel cs x hf hx hb => by
  rcases DataW.trod_slice ht hx with ⟨rfl, rfl⟩ | ⟨ad, len, cap, elems, rest, m, rfl, rfl, rfl, hbase, hlc, hcap, hlen, hel, _, _⟩
  · exact ⟨[], ⟨Nat.zero_le _, by simp⟩, repL_one .listN, by simp [Value.oneCell']⟩
  · simp only at hb
    have hb1 := hB.len (elems.map (·.1)) (rest.map (·.1))
    rw [List.length_map] at hb1
    obtain ⟨l, xs, h1, h2, h3, h4, h5, h6, h7⟩ := rows (w := w) (base := base) (C := C) (G := G) (ad := ad) (sz := P.cellsOf e) len fun i hi => by
      have := hel i hi
      rw [lge (by omega), Option.bind_eq_some_iff] at this
      obtain ⟨c, hc, hd⟩ := this
      obtain ⟨a, g1, g2, g3⟩ := h m c _ (by omega) hd (Nat.le_trans (hB.el _ (rest.map (·.1)) _ (List.mem_map.2 ⟨_, lgm (by omega), rfl⟩)) hb)
      exact ⟨c, a, hc, g1, g2, g3⟩
    refine ⟨l, ⟨by omega, h2⟩, repL_one ?_, by simp [Value.oneCell']⟩
    have key := RepV.list (M := noM) (σ := noRef) (N := noId) (w := w) ad cap (P.cellsOf e) xs (l.map C) (by rw [List.length_map]; omega) hcap h7 h3.len h4 (fun j u hu => ⟨fun h => h, h6 j u hu⟩) h3.rep
    rw [List.length_map, h1] at key
    exact key
def Segs (enc : TypeId × Value → H) (P : Program) (w : World) (base : Nat) (spare : Nat → Bool) (held : Bool) (bulk : DataW H → Nat) (B n : Nat) : List TypeId → List Value → Prop
  | [], cs => cs = []
  | t :: ts, cs => (∃ y, DataW.trod enc P w base spare held n t (cs.take (P.cellsOf t)) = some y ∧ bulk y.1 ≤ B) ∧ Segs enc P w base spare held bulk B n ts (cs.drop (P.cellsOf t))
def OpensL (enc : TypeId × Value → H) (P : Program) (w : World) (base : Nat) (spare : Nat → Bool) (held : Bool) (bulk : DataW H → Nat) (B : Nat) (n : Nat) (ts : List TypeId) {α : Type} (C : α → List D) (G : α → Prop) : Prop :=
  ∀ (fuel : Nat) (cs : List Value), fuel ≤ n → Segs enc P w base spare held bulk B fuel ts cs → ∃ a, G a ∧ RepL noM noRef noId w cs (C a) ∧ ∀ u ∈ cs, u.oneCell' = true
theorem opensL_nil : OpensL enc P w base spare held bulk B n [] (fun _ : Unit => []) (fun _ => True) := fun fuel cs _ h => by
  have h : cs = [] := h
  subst h
  exact ⟨(), trivial, ⟨rfl, fun j u d hu => by simp at hu⟩, by simp⟩
theorem opensL_cons {ts : List TypeId} {α β : Type} {C : α → List D} {G : α → Prop} {C' : β → List D} {G' : β → Prop} (h : Opens enc P w base spare held bulk B n t C G) (k : OpensL enc P w base spare held bulk B n ts C' G') :
    OpensL enc P w base spare held bulk B n (t :: ts) (fun p : α × β => C p.1 ++ C' p.2) (fun p => G p.1 ∧ G' p.2) := fun fuel cs hf hs => by
  obtain ⟨⟨y, hy, hyb⟩, hs⟩ := hs
  obtain ⟨a, a1, a2, a3⟩ := h fuel _ y hf hy hyb
  obtain ⟨b, b1, b2, b3⟩ := k fuel _ hf hs
  refine ⟨(a, b), ⟨a1, b1⟩, ?_, fun u hu => ?_⟩
  · have := repL_app a2 b2
    rwa [List.take_append_drop] at this
  · rw [← List.take_append_drop (P.cellsOf t) cs] at hu
    rcases List.mem_append.1 hu with h | h
    · exact a3 u h
    · exact b3 u h
def offs (P : Program) : Nat → List Field → Option Nat
  | o, [] => some o
  | o, f :: r => if f.offset = o then offs P (o + P.cellsOf f.type) r else none
theorem segs_of {fuel : Nat} {cs : List Value} : ∀ (fs : List Field) (o : Nat), offs P o fs = some cs.length →
    (∀ f ∈ fs, ∃ y, DataW.trod enc P w base spare held fuel f.type ((cs.drop f.offset).take (P.cellsOf f.type)) = some y ∧ bulk y.1 ≤ B) → o ≤ cs.length ∧ Segs enc P w base spare held bulk B fuel (fs.map (·.type)) (cs.drop o)
  | [], o, ho, _ => by
    simp only [offs, Option.some.injEq] at ho
    subst ho
    exact ⟨Nat.le_refl _, by show cs.drop cs.length = []; simp⟩
  | f :: fs, o, ho, h => by
    unfold offs at ho
    split at ho
    · rename_i hof
      subst hof
      obtain ⟨h1, h2⟩ := segs_of fs _ ho fun g hg => h g (by simp [hg])
      refine ⟨by omega, ?_⟩
      refine ⟨h f (by simp), ?_⟩
      rw [List.drop_drop]
      exact h2
    · cases ho
theorem opens_struct (hB : Bulk bulk) {fs : Array Field} (ht : P.underlying t = some (.struct fs)) (ho : offs P 0 fs.toList = some (P.cellsOf t)) {α : Type} {C : α → List D} {G : α → Prop} (h : OpensL enc P w base spare held bulk B n (fs.toList.map (·.type)) C G) :
    Opens enc P w base spare held bulk B (n + 1) t C G := fun fuel cs x hf hx hb => by
  obtain ⟨xs, m, rfl, rfl, hcl, hxl, hfl⟩ := DataW.trod_struct ht hx
  simp only at hb
  have hs := (segs_of (enc := enc) (P := P) (w := w) (base := base) (spare := spare) (held := held) (bulk := bulk) (B := B) (fuel := m) (cs := cs) fs.toList 0 (by rw [hcl]; exact ho) fun f hfm => by
    obtain ⟨i, hi, rfl⟩ := List.getElem_of_mem hfm
    have hi' : i < fs.size := by simpa using hi
    have hfi := hfl i (fs.toList[i]) (by simp [hi'])
    rw [lge (by omega)] at hfi
    exact ⟨_, hfi, Nat.le_trans (hB.part _ _ (List.mem_map.2 ⟨_, lgm (by omega), rfl⟩)) hb⟩).2
  rw [List.drop_zero] at hs
  exact h m cs (by omega) hs
theorem arg_struct {r : Reach} {b0 : Nat} {fs : Array Field} {v : Value} {d : DataW H} {ps : List MemPlace} {α : Type} {C : α → List D} {G : α → Prop} (ht : P.underlying t = some (.struct fs)) (h : ∀ n, Opens enc P w base spare held bulk B n t C G)
    (hval : Value.okWide P w r b0 t v) (hd : DataW.Trod enc P w base spare held t v d ps) (hb : bulk d ≤ B) : ∃ a, G a ∧ RepV noM noRef noId w v (.agg (C a)) := by
  obtain ⟨cs, rfl, _⟩ := okWide_struct ht hval
  obtain ⟨fuel, hf⟩ := hd
  obtain ⟨a, h1, h2, h3⟩ := h fuel fuel _ _ (Nat.le_refl _) hf hb
  have hc : (Value.agg cs).cells.toList = cs.toList := rfl
  rw [hc] at h2 h3
  have := RepV.agg (M := noM) (σ := noRef) (N := noId) (w := w) cs.toList (C a) h2.len h3 h2.rep
  exact ⟨a, h1, by simpa using this⟩
theorem trodAll_stays (hl : laidOutB P = true) {W W' : World} {sp' : Nat → Bool} (hb : Below W.heap.size W W') : ∀ {ts : List TypeId} {vs : List Value} {ds : List (DataW H)} {ps : List MemPlace}, (∀ t ∈ ts, P.readableRec t = true ∧ t < P.types.size) →
    DataW.TrodAll enc P W 0 (fun _ => true) true ts vs ds ps → (∀ x ∈ ps, x.block < W.heap.size) → (∀ x ∈ ps, sp' x.block = true) → DataW.TrodAll enc P W' 0 sp' true ts vs ds ps
  | [], _, _, _, _, h, _, _ => by
    obtain ⟨rfl, rfl, rfl⟩ := trodAll_nil h
    rfl
  | t :: ts, _, _, _, hr, h, hlt, hs => by
    obtain ⟨v, vs, d, ds, p, q, rfl, rfl, rfl, h1, h2⟩ := trodAll_cons h
    refine ⟨p, q, WideElems.Trod_stays hl (hr t (by simp)).1 (hr t (by simp)).2 h1 (fun x hx => hb.same (hlt x (by simp [hx]))) (fun x hx => hs x (by simp [hx])), trodAll_stays hl hb (fun u hu => hr u (by simp [hu])) h2 (fun x hx => hlt x (by simp [hx])) (fun x hx => hs x (by simp [hx])), rfl⟩
theorem post_of_below (hl : laidOutB P = true) {f : Func} {s : ChangeSpec} {apart fresh handsOn again : Bool} {W W' : World} {args : Array Value} {v : Value} {ds gs : List (DataW H)} {before : List MemPlace}
    (hr : ∀ t ∈ f.params.toList, P.readableRec t = true ∧ t < P.types.size) (hvars : s.vars = []) (hW : DataW.Whole enc P f.params.toList s.vars apart W args.toList ds gs before)
    (hres : ∀ (b : Nat) (sp : Nat → Bool) (hd : Bool), DataW.TrodAll enc P W' b sp hd f.resultTypes.toList (v.resultList f.resultTypes.size) (s.fn H (ds ++ gs)).results [])
    (hargs : (s.fn H (ds ++ gs)).args = ds) (hvs : (s.fn H (ds ++ gs)).vars = []) (hb : Below W.heap.size W W')
    (hok : ∀ (j : Nat) (t : TypeId) (r : Value), f.resultTypes[j]? = some t → (v.resultList f.resultTypes.size)[j]? = some r → Value.okWide P W' .any 0 t r) :
    s.post enc P f apart fresh handsOn again W args v W' := by
  have hW' := hW
  obtain ⟨p, q, hA, hV, rfl, hz, hn⟩ := hW
  rw [hvars] at hV
  obtain ⟨rfl, rfl⟩ := trodVars_none hV
  rw [List.append_nil] at hW' hz hn
  have hlt : ∀ x ∈ p, x.block < W.heap.size := fun x hx => by simpa using hW'.lt x hx
  have hTr : ∀ sp : Nat → Bool, (∀ x ∈ p, sp x.block = true) → DataW.TrodAll enc P W' 0 sp true f.params.toList args.toList (s.fn H (ds ++ [])).args p := fun sp hs => by
    rw [hargs]; exact trodAll_stays hl hb hr hA hlt hs
  have hVr : ∀ sp : Nat → Bool, DataW.TrodVars enc P W' sp s.vars (s.fn H (ds ++ [])).vars [] := fun sp => by rw [hvars, hvs]; rfl
  refine ⟨ds, [], p, [], p, [], hW', hres _ _ _, hTr _ (fun x hx => by simpa using hlt x hx), hVr _, World.keptBut_mono (fun x hx => ⟨hx, .inr (by simpa using hx)⟩) (hb.frame (· ∈ p)), fun _ => ?_⟩
  refine ⟨hok, _, _, ([] ++ p) ++ [], ⟨[] ++ p, [], trodAll_append (hTr _ (fun _ _ => rfl)) (hres _ _ _), hVr _, rfl, ?_, ?_⟩, ?_⟩
  · intro b off hp
    have hp' : MemPlace.cell b off ∈ p := by simpa using hp
    have := hz b off hp'
    rw [← this]
    exact hb.frozen (hlt _ hp')
  · intro ha
    simpa using hn ha
  · intro x hx _
    simpa using hx
end
end Go.Abs
end
section
namespace Go.Proofs.YtjhccdolbhjmaaaGreat.bulks
theorem one_le {H : Type} (d : DataW H) : 1 ≤ Rows.uptoBulk d := by
  cases d with
  | lit l => cases l <;> simp [Rows.uptoBulk]
  | _ => simp [Rows.uptoBulk]
theorem mem_le {H : Type} {d : DataW H} : ∀ {l : List (DataW H)}, d ∈ l → Rows.uptoBulk d ≤ Rows.uptoBulkAll l
  | [], h => by cases h
  | x :: r, h => by
    simp only [Rows.uptoBulkAll]
    rcases List.mem_cons.1 h with rfl | h
    · omega
    · have := mem_le h; omega
theorem len_le {H : Type} : ∀ l : List (DataW H), l.length ≤ Rows.uptoBulkAll l
  | [] => by simp [Rows.uptoBulkAll]
  | x :: r => by have := one_le x; have := len_le r; simp only [Rows.uptoBulkAll, List.length_cons]; omega
theorem ok {H : Type} : Go.Abs.Bulk (Rows.uptoBulk (H := H)) where
  len e s := by have := len_le e; simp only [Rows.uptoBulk]; omega
  el e s d h := by have := mem_le h; simp only [Rows.uptoBulk]; omega
  part l d h := by have := mem_le h; simp only [Rows.uptoBulk]; omega
  str s := by simp [Rows.uptoBulk]
theorem bound {H : Type} {l : List (DataW H)} (hk : Rows.uptoSmall H l = true) : ∀ d ∈ l, Rows.uptoBulk d ≤ 1048576 := fun d hd => by
  have h := of_decide_eq_true hk
  have := mem_le hd
  omega
end Go.Proofs.YtjhccdolbhjmaaaGreat.bulks
end
section
open Go Go.Proofs
namespace Go.Abs
mutual
def Cond.bnd (B : Nat) : Cond → Prop
  | .mk k l m p => (m.nodes.length ≤ B ∧ m.edges.length ≤ B) ∧ Cond.bnds B l
def Cond.bnds (B : Nat) : List Cond → Prop
  | [] => True
  | c :: l => c.bnd B ∧ Cond.bnds B l
end
theorem Cond.bnds_iff (B : Nat) (l : List Cond) : Cond.bnds B l ↔ ∀ c ∈ l, c.bnd B := by
  induction l with
  | nil => simp [Cond.bnds]
  | cons a l ih => simp [Cond.bnds, ih]
theorem Cond.bnd_iff (B : Nat) (c : Cond) : c.bnd B ↔ (c.map.nodes.length ≤ B ∧ c.map.edges.length ≤ B) ∧ ∀ k ∈ c.kids, k.bnd B := by cases c; simp [Cond.bnd, Cond.bnds_iff, Cond.kids, Cond.map]
theorem Cond.bnd_le {B : Nat} (hB : B ≤ 1000000000000000) : ∀ c : Cond, c.bnd B → c.le := by
  refine Cond.ind fun c ih h => ?_
  obtain ⟨h1, h2⟩ := (Cond.bnd_iff B c).1 h
  exact (Cond.le_iff c).2 ⟨⟨by omega, by omega⟩, fun k hk => ih k hk (h2 k hk)⟩
def Rule.bnd (B : Nat) (x : Rule) : Prop := (x.keep.nodes.length ≤ B ∧ x.keep.edges.length ≤ B) ∧ (x.into.nodes.length ≤ B ∧ x.into.edges.length ≤ B) ∧ x.cond.bnd B
theorem Rule.bnd_le {B : Nat} (hB : B ≤ 1000000000000000) {r : Rule} (h : r.bnd B) : r.le := by
  obtain ⟨⟨h1, h2⟩, ⟨h3, h4⟩, h5⟩ := h
  exact ⟨⟨by omega, by omega⟩, ⟨by omega, by omega⟩, Cond.bnd_le hB _ h5⟩
section
variable {H : Type} {enc : TypeId × Value → H} {w : World} {base : Nat} {spare : Nat → Bool} {held : Bool} {bulk : DataW H → Nat} {B : Nat}
theorem op4 : ∀ n, Opens enc Tryz.prog w base spare held bulk B n 4 (fun b : Bool => [D.bool b]) (fun _ => True) := fun n => opens_bool Tryz.underlying4
end
end Go.Abs
end
section
open Go Go.Proofs
namespace Go.Abs
section
variable {H : Type} {enc : TypeId × Value → H} {P : Program} {w : World} {base : Nat} {spare : Nat → Bool} {held : Bool} {bulk : DataW H → Nat} {B : Nat} {n : Nat} {t : TypeId}
theorem segs_arr {fuel : Nat} {cs : List Value} {e : TypeId} : ∀ (k o : Nat), cs.length = (o + k) * P.cellsOf e →
    (∀ i, o ≤ i → i < o + k → ∃ y, DataW.trod enc P w base spare held fuel e ((cs.drop (i * P.cellsOf e)).take (P.cellsOf e)) = some y ∧ bulk y.1 ≤ B) → Segs enc P w base spare held bulk B fuel (List.replicate k e) (cs.drop (o * P.cellsOf e))
  | 0, o, hl, _ => by
    show cs.drop _ = []
    rw [List.drop_eq_nil_iff, hl]; simp
  | k + 1, o, hl, h => by
    rw [List.replicate_succ]
    refine ⟨h o (Nat.le_refl _) (by omega), ?_⟩
    rw [List.drop_drop, show o * P.cellsOf e + P.cellsOf e = (o + 1) * P.cellsOf e by rw [Nat.succ_mul]]
    exact segs_arr k (o + 1) (by rw [hl]; congr 1; omega) fun i h1 h2 => h i (by omega) (by omega)
theorem opens_array (hB : Bulk bulk) {k : Nat} {e : TypeId} (ht : P.underlying t = some (.array k e)) (hc : P.cellsOf t = k * P.cellsOf e) {α : Type} {C : α → List D} {G : α → Prop} (h : OpensL enc P w base spare held bulk B n (List.replicate k e) C G) :
    Opens enc P w base spare held bulk B (n + 1) t C G := fun fuel cs x hf hx hb => by
  obtain ⟨xs, m, rfl, rfl, hcl, hxl, hfl⟩ := DataW.trod_array ht hx
  simp only at hb
  have hs := segs_arr (enc := enc) (P := P) (w := w) (base := base) (spare := spare) (held := held) (bulk := bulk) (B := B) (fuel := m) (cs := cs) (e := e) k 0 (by rw [hcl, hc]; simp) fun i _ hi => by
    have hfi := hfl i (by omega)
    rw [lge (by omega)] at hfi
    exact ⟨_, hfi, Nat.le_trans (hB.part _ _ (List.mem_map.2 ⟨_, lgm (by omega), rfl⟩)) hb⟩
  rw [Nat.zero_mul, List.drop_zero] at hs
  exact h m cs (by omega) hs
theorem opens_u8 (ht : P.underlying t = some (.int .u8)) : Opens enc P w base spare held bulk B n t cU (fun _ => True) := fun fuel cs x _ hx _ => by
  obtain ⟨z, rfl, _, hw⟩ := DataW.trod_int ht hx
  refine ⟨UInt8.ofNat z.toNat, trivial, ?_, by simp [Value.oneCell']⟩
  have hz : 0 ≤ z ∧ z < 256 := by
    have h1 : IntKind.u8.min = 0 := by decide
    have h2 : IntKind.u8.max = 255 := by decide
    simp only [Lit.wf, Bool.and_eq_true, decide_eq_true_eq, h1, h2] at hw; omega
  have he : (((UInt8.ofNat z.toNat).toNat : Nat) : Int) = z := by simp; omega
  unfold cU; rw [he]; exact repL_one (.int .u8 z)
theorem opens_i8 (ht : P.underlying t = some (.int .i8)) : Opens enc P w base spare held bulk B n t (fun x : Int8 => [D.int .i8 x.toInt]) (fun _ => True) := fun fuel cs x _ hx _ => by
  obtain ⟨z, rfl, _, hw⟩ := DataW.trod_int ht hx
  refine ⟨Int8.ofInt z, trivial, ?_, by simp [Value.oneCell']⟩
  have hz : -128 ≤ z ∧ z < 128 := by
    have h1 : IntKind.i8.min = -128 := by decide
    have h2 : IntKind.i8.max = 127 := by decide
    simp only [Lit.wf, Bool.and_eq_true, decide_eq_true_eq, h1, h2] at hw; omega
  have he : (Int8.ofInt z).toInt = z := by rw [Int8.toInt_ofInt_of_le] <;> omega
  show RepL noM noRef noId w _ [D.int .i8 (Int8.ofInt z).toInt]
  rw [he]; exact repL_one (.int .i8 z)
theorem opens_u64 (ht : P.underlying t = some (.int .u64)) : Opens enc P w base spare held bulk B n t (fun x : UInt64 => [D.int .u64 (x.toNat : Int)]) (fun _ => True) := fun fuel cs x _ hx _ => by
  obtain ⟨z, rfl, _, hw⟩ := DataW.trod_int ht hx
  refine ⟨UInt64.ofNat z.toNat, trivial, ?_, by simp [Value.oneCell']⟩
  have hz : 0 ≤ z ∧ z < 18446744073709551616 := by
    have h1 : IntKind.u64.min = 0 := by decide
    have h2 : IntKind.u64.max = 18446744073709551615 := by decide
    simp only [Lit.wf, Bool.and_eq_true, decide_eq_true_eq, h1, h2] at hw; omega
  have he : (((UInt64.ofNat z.toNat).toNat : Nat) : Int) = z := by simp; omega
  show RepL noM noRef noId w _ [D.int .u64 (((UInt64.ofNat z.toNat).toNat : Nat) : Int)]
  rw [he]; exact repL_one (.int .u64 z)
end
section
variable {H : Type} {enc : TypeId × Value → H} {w : World} {base : Nat} {spare : Nat → Bool} {held : Bool} {bulk : DataW H → Nat} {B : Nat}
theorem op5 : ∀ n, Opens enc Tryz.prog w base spare held bulk B n 5 cU (fun _ => True) := fun n => opens_u8 Tryz.underlying5
theorem op270 : ∀ n, Opens enc Tryz.prog w base spare held bulk B n 270 (fun x : Int8 => [D.int .i8 x.toInt]) (fun _ => True) := fun n => opens_i8 Tryz.underlying270
theorem op157 : ∀ n, Opens enc Tryz.prog w base spare held bulk B n 157 (fun x : UInt64 => [D.int .u64 (x.toNat : Int)]) (fun _ => True) := fun n => opens_u64 Tryz.underlying157
theorem op149 (hB : Bulk bulk) : ∀ n, Opens enc Tryz.prog w base spare held bulk B n 149 cP (fun _ => True)
  | 0 => Opens.zero
  | n + 1 => (opens_array hB (k := 2) Tryz.underlying149 (by kernel_rfl) (opensL_cons (op5 n) (opensL_cons (op5 n) (opensL_nil)))).map (fun p => (p.1, p.2.1)) (fun p => rfl) (fun _ _ => trivial)
theorem op164 (hB : Bulk bulk) : ∀ n, Opens enc Tryz.prog w base spare held bulk B n 164 cT3 (fun _ => True)
  | 0 => Opens.zero
  | n + 1 => (opens_array hB (k := 3) Tryz.underlying164 (by kernel_rfl) (opensL_cons (op5 n) (opensL_cons (op5 n) (opensL_cons (op5 n) (opensL_nil))))).map (fun p => (p.1, p.2.1, p.2.2.1)) (fun p => rfl) (fun _ _ => trivial)
theorem op158 (hB : Bulk bulk) : ∀ n, Opens enc Tryz.prog w base spare held bulk B n 158 cU4 (fun _ => True)
  | 0 => Opens.zero
  | n + 1 => (opens_array hB (k := 4) Tryz.underlying158 (by kernel_rfl) (opensL_cons (op5 n) (opensL_cons (op5 n) (opensL_cons (op5 n) (opensL_cons (op5 n) (opensL_nil)))))).map (fun p => (p.1, p.2.1, p.2.2.1, p.2.2.2.1)) (fun p => rfl) (fun _ _ => trivial)
theorem op271 (hB : Bulk bulk) : ∀ n, Opens enc Tryz.prog w base spare held bulk B n 271 cT4 (fun _ => True)
  | 0 => Opens.zero
  | n + 1 => (opens_array hB (k := 4) Tryz.underlying271 (by kernel_rfl) (opensL_cons (op270 n) (opensL_cons (op270 n) (opensL_cons (op270 n) (opensL_cons (op270 n) (opensL_nil)))))).map (fun p => (p.1, p.2.1, p.2.2.1, p.2.2.2.1)) (fun p => rfl) (fun _ _ => trivial)
theorem op46 (hB : Bulk bulk) : ∀ n, Opens enc Tryz.prog w base spare held bulk B n 46 (fun l : List B2 => [D.list (l.map cP)]) (fun _ => True)
  | 0 => Opens.zero
  | n + 1 => (opens_slice hB Tryz.underlying46 (op149 hB n)).map id (fun _ => rfl) (fun _ _ => trivial)
theorem op48 (hB : Bulk bulk) : ∀ n, Opens enc Tryz.prog w base spare held bulk B n 48 (fun l : List B3 => [D.list (l.map cT3)]) (fun _ => True)
  | 0 => Opens.zero
  | n + 1 => (opens_slice hB Tryz.underlying48 (op164 hB n)).map id (fun _ => rfl) (fun _ _ => trivial)
theorem op151 (hB : Bulk bulk) : ∀ n, Opens enc Tryz.prog w base spare held bulk B n 151 (fun l : List UInt8 => [D.list (l.map cU)]) (fun _ => True)
  | 0 => Opens.zero
  | n + 1 => (opens_slice hB Tryz.underlying151 (op5 n)).map id (fun _ => rfl) (fun _ _ => trivial)
theorem op154 (hB : Bulk bulk) : ∀ n, Opens enc Tryz.prog w base spare held bulk B n 154 (fun l : List T4 => [D.list (l.map cT4)]) (fun _ => True)
  | 0 => Opens.zero
  | n + 1 => (opens_slice hB Tryz.underlying154 (op271 hB n)).map id (fun _ => rfl) (fun _ _ => trivial)
theorem op153 (hB : Bulk bulk) : ∀ n, Opens enc Tryz.prog w base spare held bulk B n 153 Dr5.c (fun _ => True)
  | 0 => Opens.zero
  | n + 1 => (opens_struct hB Tryz.underlying153 (by kernel_rfl) (opensL_cons (op151 hB n) (opensL_cons (op48 hB n) (opensL_nil)))).map (fun p => ⟨p.1, p.2.1⟩) (fun p => rfl) (fun _ _ => trivial)
theorem op156 (hB : Bulk bulk) : ∀ n, Opens enc Tryz.prog w base spare held bulk B n 156 Dr21.c (fun _ => True)
  | 0 => Opens.zero
  | n + 1 => (opens_struct hB Tryz.underlying156 (by kernel_rfl) (opensL_cons (op153 hB n) (opensL_cons (op48 hB n) (opensL_cons (op154 hB n) (opensL_nil))))).map (fun p => ⟨p.1, p.2.1, p.2.2.1⟩) (fun p => rfl) (fun _ _ => trivial)
theorem op160 (hB : Bulk bulk) : ∀ n, Opens enc Tryz.prog w base spare held bulk B n 160 Dr24.c (fun _ => True)
  | 0 => Opens.zero
  | n + 1 => (opens_struct hB Tryz.underlying160 (by kernel_rfl) (opensL_cons (op156 hB n) (opensL_cons (op157 n) (opensL_cons (op151 hB n) (opensL_cons (op48 hB n) (opensL_cons (op48 hB n) (opensL_cons (op4 n) (opensL_cons (op4 n) (opensL_cons (op158 hB n) (opensL_cons (op151 hB n) (opensL_nil))))))))))).map (fun p => ⟨p.1, p.2.1, p.2.2.1, p.2.2.2.1, p.2.2.2.2.1, p.2.2.2.2.2.1, p.2.2.2.2.2.2.1, p.2.2.2.2.2.2.2.1, p.2.2.2.2.2.2.2.2.1⟩) (fun p => rfl) (fun _ _ => trivial)
theorem op47 (hB : Bulk bulk) : ∀ n, Opens enc Tryz.prog w base spare held bulk B n 47 (fun l : List Dr24 => [D.list (l.map Dr24.c)]) (fun _ => True)
  | 0 => Opens.zero
  | n + 1 => (opens_slice hB Tryz.underlying47 (op160 hB n)).map id (fun _ => rfl) (fun _ _ => trivial)
theorem op50 (hB : Bulk bulk) : ∀ n, Opens enc Tryz.prog w base spare held bulk B n 50 Dr15.c (fun _ => True)
  | 0 => Opens.zero
  | n + 1 => (opens_struct hB Tryz.underlying50 (by kernel_rfl) (opensL_cons (op46 hB n) (opensL_cons (op48 hB n) (opensL_nil)))).map (fun p => ⟨p.1, p.2.1⟩) (fun p => rfl) (fun _ _ => trivial)
theorem op52 (hB : Bulk bulk) : ∀ n, Opens enc Tryz.prog w base spare held bulk B n 52 DrT.c (fun _ => True)
  | 0 => Opens.zero
  | n + 1 => (opens_struct hB Tryz.underlying52 (by kernel_rfl) (opensL_cons (op46 hB n) (opensL_cons (op46 hB n) (opensL_cons (op47 hB n) (opensL_cons (op50 hB n) (opensL_nil)))))).map (fun p => ⟨p.1, p.2.1, p.2.2.1, p.2.2.2.1⟩) (fun p => rfl) (fun _ _ => trivial)
end
end Go.Abs
end
