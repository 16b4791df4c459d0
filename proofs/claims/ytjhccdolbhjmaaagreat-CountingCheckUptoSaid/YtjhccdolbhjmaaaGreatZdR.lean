/- The abstraction layer: nil read as the empty list, at every depth. · Layer 41: copies of stages; small functions of the laws. · Layer 41, the reference: the next weights. · What the best of the finder is. · The weights that the finder tries, in order. · The odometer runs through the weights that the finder tries. · The rest, as a list and under a mask. · One draw of the reference's stage against the finder's. · The standard stages, as plain functions. · ref41.lowered at borrowed weights. · Layer 41, the reference: stage and stages. · Layer 41, the reference: stages. · counting.stages. · The abstraction layer: bodies walked by meaning; a slice of an owned slice whose value is not asked for. -/
import Derived.Test.YtjhccdolbhjmaaaGreatZdE
import Derived.Test.YtjhccdolbhjmaaaGreatZdQ
import Derived.Test.YtjhccdolbhjmaaaGreatZdA
section
set_option linter.unusedVariables false
namespace Go.Abs
mutual
def nzA : D → D
  | .nil => .list []
  | .agg cs => .agg (nzAs cs)
  | .tup cs => .tup (nzAs cs)
  | .list es => .list (nzAss es)
  | d => d
def nzAs : List D → List D
  | [] => []
  | d :: l => nzA d :: nzAs l
def nzAss : List (List D) → List (List D)
  | [] => []
  | c :: l => nzAs c :: nzAss l
end
theorem nzAs_map (l : List D) : nzAs l = l.map nzA := by
  induction l with
  | nil => rfl
  | cons a l ih => simp [nzAs, ih]
theorem nzAss_map (l : List (List D)) : nzAss l = l.map nzAs := by
  induction l with
  | nil => rfl
  | cons a l ih => simp [nzAss, ih]
theorem nzAss_flat (l : List (List D)) : (nzAss l).flatten = l.flatten.map nzA := by
  induction l with
  | nil => rfl
  | cons a l ih => simp only [nzAss, List.flatten_cons, ih, List.map_append, nzAs_map]
theorem nzA_rep {M : Nat → Prop} {σ : Nat → Option Ow} {N : Nat → Prop} {w : World} {v : Value} {d : D} (h : RepV M σ N w v d) : RepV M σ N w v (nzA d) := by
  have hm : ∀ {vs : List Value} {ds : List D}, (∀ (j : Nat) (u : Value) (d : D), vs[j]? = some u → ds[j]? = some d → RepV M σ N w u (nzA d)) →
      ∀ (j : Nat) (u : Value) (d : D), vs[j]? = some u → (ds.map nzA)[j]? = some d → RepV M σ N w u d := by
    intro vs ds ih j u d hu hd
    rw [List.getElem?_map, Option.map_eq_some_iff] at hd
    obtain ⟨y, hy, rfl⟩ := hd
    exact ih j u y hu hy
  induction h with
  | int => simp only [nzA]; exact .int _ _
  | bool => simp only [nzA]; exact .bool _
  | str => simp only [nzA]; exact .str _
  | agg vs ds hl h1 _ ih =>
    simp only [nzA, nzAs_map]
    exact .agg vs _ (by simp [hl]) h1 (hm ih)
  | tup vs ds hl _ ih =>
    simp only [nzA, nzAs_map]
    exact .tup vs _ (by simp [hl]) (hm ih)
  | nil => simp only [nzA]; exact .listN
  | listN => simp only [nzA, nzAss]; exact .listN
  | list ad cap sz xs es hc hm' hsz hl h1 hcell _ ih =>
    simp only [nzA]
    have hlen : (nzAss es).length = es.length := by rw [nzAss_map, List.length_map]
    have := RepV.list (M := M) (σ := σ) (N := N) (w := w) ad cap sz xs (nzAss es) (by rw [hlen]; exact hc) hm' (fun c hc' => by
      rw [nzAss_map, List.mem_map] at hc'
      obtain ⟨y, hy, rfl⟩ := hc'
      rw [nzAs_map, List.length_map]; exact hsz y hy) (by rw [nzAss_flat, List.length_map]; exact hl) h1 hcell (by rw [nzAss_flat]; exact hm ih)
    rwa [hlen] at this
  | adr ad xs ds hl h1 hcell hr ih => simp only [nzA]; exact .adr ad xs ds hl h1 hcell hr
  | ne ad cap hm => simp only [nzA]; exact .ne ad cap hm
  | nilp => simp only [nzA]; exact .nilp
  | ptr v id ver i off hN h1 h => simp only [nzA]; exact .ptr v id ver i off hN h1 h
  | own v id n hN h1 h => simp only [nzA]; exact .own v id n hN h1 h
  | fn f vs ds hl hr ih => simp only [nzA]; exact .fn f vs ds hl hr
  | nilf => simp only [nzA]; exact .nilf
  | opt v g d hf h ih => simp only [nzA]; exact .opt v g d hf h
  | junk v => simp only [nzA]; exact .junk v
theorem pureKA {P : Program} {f : FuncId} {args : List D} {r : D} (hcl : r.cl = true) (h : ∀ Q : D → AHeap → Prop, (∀ d H', nzA (rsvT H' d) = r → Q d H') → ACalls P f args .emp Q) : Pure P f args r := by
  have h := h (fun d H' => nzA (rsvT H' d) = r) fun _ _ h => h
  refine ⟨h.1, fun M w vals hM ha => (h.2 M noRef w vals (rel_emp M w hM) (by rw [mut_emp]; exact ha)).mono fun e w' ⟨v, d, H', σ', he, hR, hv, hst, hk, hr⟩ => ⟨v, he, ?_, stp_below hst⟩⟩
  have h1 : RepV (Mut M (frzs (ownT d) H') σ') σ' (frzs (ownT d) H').al w' v r := by
    have h0 := nzA_rep (rsvT_frozen hR hv (ownT d) fun i hi => hi)
    rw [hr] at h0; exact h0
  exact h1.closed (fun ad u hm hc => ⟨fun h => hm (.inl h), hc⟩) hcl
attribute [go_sem] nzA nzAs nzAss
end Go.Abs
end
section
set_option linter.unusedVariables false
set_option linter.unusedSimpArgs false
set_option maxRecDepth 8000
open Go Go.Proofs
namespace Go.Abs
theorem clone_stage0 : Own Tryz.prog 14 [.nil] 33 2 [] := by
  refine ownK (by first | rfl | (simp [go_sem]; done)) (fun Q hQ => (acalls_of_body (cfg := ⟨fun t => t == 2 || t == 5, fun _ => []⟩) Tz.mixed Tryz.func14 rfl rfl (Nat.le_of_ble_eq_true rfl) (by kernel_rfl) ?_))
  try simp [go_sem, seval]
  exact hQ _ _ _ (by simp [go_sem] <;> first | omega | (rw [Bool.eq_iff_iff]; simp <;> omega) | (simp_all <;> omega)) (by simp [go_sem] <;> first | omega | (rw [Bool.eq_iff_iff]; simp <;> omega) | (simp_all <;> omega))
theorem clone_stageE : Own Tryz.prog 14 [.ne] 33 2 [] := by
  refine ownK (by first | rfl | (simp [go_sem]; done)) (fun Q hQ => (acalls_of_body (cfg := ⟨fun t => t == 2 || t == 5, fun _ => []⟩) Tz.mixed Tryz.func14 rfl rfl (Nat.le_of_ble_eq_true rfl) (by kernel_rfl) ?_))
  try simp [go_sem, seval]
  repeat (first | intro _ | (refine ⟨obl, ?_⟩))
  exact hQ _ _ _ (by simp [go_sem] <;> first | omega | (rw [Bool.eq_iff_iff]; simp <;> omega) | (simp_all <;> omega)) (by simp [go_sem] <;> first | omega | (rw [Bool.eq_iff_iff]; simp <;> omega) | (simp_all <;> omega))
theorem clone_stageC (l : List Stage) (hl : l.length ≤ 1000000) (hne : l ≠ []) : Own Tryz.prog 14 [.list (l.map Stage.c)] 33 2 (l.map Stage.c) := by
  refine ownK (by first | rfl | (simp [go_sem]; done)) (fun Q hQ => (acalls_of_body (cfg := ⟨fun t => t == 2 || t == 5, fun _ => []⟩) Tz.mixed Tryz.func14 rfl rfl (Nat.le_of_ble_eq_true rfl) (by kernel_rfl) ?_))
  try simp [go_sem, seval, hne]
  repeat (first | intro _ | (refine ⟨obl, ?_⟩))
  exact hQ _ _ _ (by simp [go_sem, hne] <;> first | omega | (rw [Bool.eq_iff_iff]; simp <;> omega) | (simp_all <;> omega)) (by simp [go_sem, hne] <;> first | omega | (rw [Bool.eq_iff_iff]; simp <;> omega) | (simp_all <;> omega))
theorem clone_stage (l : List Stage) (hl : l.length ≤ 1000000) : Own Tryz.prog 14 [.list (l.map Stage.c)] 33 2 (l.map Stage.c) := by
  by_cases hne : l = []
  · subst hne; exact own_split clone_stage0 clone_stageE
  · exact clone_stageC l hl hne
def bigB (s : Stage) : Bool := decide (50 < (s.weights.length : Int)) || decide (50 < (s.removed.length : Int))
theorem law41_Check1 (s : Stage) : Pure Tryz.prog 12 [.agg s.c] (.bool (bigB s)) := by
  refine pureK (by first | rfl | (simp [go_sem]; done)) (fun Q hQ => (acalls_of_body (cfg := ⟨fun _ => false, fun _ => []⟩) Tz.mixed Tryz.func12 rfl rfl (Nat.le_of_ble_eq_true rfl) (by kernel_rfl) ?_))
  try simp [go_sem, seval]
  repeat (first | intro _ | (refine ⟨obl, ?_⟩))
  exact hQ _ _ (by simp [go_sem, bigB] <;> first | omega | (rw [Bool.eq_iff_iff]; simp <;> omega) | (simp_all <;> omega))
def twoT : Types := ⟨[⟨⟨#[65]⟩, -1, false, []⟩, ⟨⟨#[66]⟩, -1, false, []⟩], []⟩
theorem law41_two : Pure Tryz.prog 31 [] twoT.d := by
  refine pureKA (by simp [go_sem, twoT]) (fun Q hQ => (acalls_of_body (cfg := ⟨fun t => t == 0, fun _ => []⟩) Tz.mixed Tryz.func31 rfl rfl (Nat.le_of_ble_eq_true rfl) (by kernel_rfl) ?_))
  simp [go_sem, seval]
  exact hQ _ _ (by simp [go_sem, twoT])
def splitR : Rule := ⟨⟨#[115, 112, 108, 105, 116]⟩, ⟨⟨[0], []⟩, [], 0, []⟩, ⟨⟨[1, 1], []⟩, [], 0, []⟩, ⟨[], []⟩, ⟨[], []⟩, false, .mk 1 [] ⟨[], []⟩ ⟨⟨[], []⟩, [], 0, []⟩⟩
def dropR : Rule := ⟨⟨#[100, 114, 111, 112]⟩, ⟨⟨[1], []⟩, [], 0, []⟩, ⟨⟨[], []⟩, [], 0, []⟩, ⟨[], []⟩, ⟨[], []⟩, false, .mk 1 [] ⟨[], []⟩ ⟨⟨[], []⟩, [], 0, []⟩⟩
theorem law41_rules : Pure Tryz.prog 32 [] (.list ([splitR, dropR].map Rule.c)) := by
  refine pureKA (by simp [go_sem]) (fun Q hQ => (acalls_of_body (cfg := ⟨fun t => t == 1, fun _ => []⟩) Tz.mixed Tryz.func32 rfl rfl (Nat.le_of_ble_eq_true rfl) (by kernel_rfl) ?_))
  simp [go_sem, seval]
  exact hQ _ _ (by simp [go_sem, splitR, dropR, Cond.kind, Cond.kids, Cond.map, Cond.pattern])
end Go.Abs
end
section
set_option linter.unusedVariables false
set_option linter.unusedSimpArgs false
set_option maxRecDepth 8000
open Go Go.Proofs
namespace Go.Abs
theorem counting_stages1 (l : List Int) (k : Nat) (hk : k < l.length) : Pure Tryz.prog 90 [dLI l, .adr [dI k]] (.bool (decide (l[k]?.getD 0 ≠ 0))) := by
  refine pureK (by first | rfl | (simp [go_sem]; done)) (fun Q hQ => (acalls_of_body (cfg := ⟨fun _ => false, fun _ => []⟩) Tz.mixed Tryz.func90 rfl rfl (Nat.le_of_ble_eq_true rfl) (by kernel_rfl) ?_))
  try simp [go_sem, seval, List.getElem?_eq_getElem hk, hk]
  repeat (first | intro _ | (refine ⟨obl, ?_⟩))
  exact hQ _ _ (by simp [go_sem, List.getElem?_eq_getElem hk, hk] <;> first | omega | (rw [Bool.eq_iff_iff]; simp <;> omega) | (simp_all <;> omega))
theorem counting_Check1 (a : Int) : Pure Tryz.prog 40 [dI a] (.bool (oddB a)) := by
  refine pureK (by first | rfl | (simp [go_sem]; done)) (fun Q hQ => (acalls_of_body (cfg := ⟨fun _ => false, fun _ => []⟩) Tz.mixed Tryz.func40 rfl rfl (Nat.le_of_ble_eq_true rfl) (by kernel_rfl) ?_))
  try simp [go_sem, seval]
  repeat (first | intro _ | (refine ⟨obl, ?_⟩))
  exact hQ _ _ (by simp [go_sem, oddB] <;> first | omega | (rw [Bool.eq_iff_iff]; simp <;> omega) | (simp_all <;> omega))
end Go.Abs
end
section
set_option linter.unusedVariables false
set_option linter.unusedSimpArgs false
open Go Go.Proofs
namespace Go.Abs
structure BestIn (xs : List (List Int)) (nn : Nat) (B : Bst) : Prop where
  pos : posB xs B.w = false
  cnt : B.d = cntN xs B.w
  len : B.w.length = nn
  dig : ∀ x ∈ B.w, 0 ≤ x ∧ x ≤ 6
def BestOk (xs : List (List Int)) (nn : Nat) (B : Bst) : Prop := (B.w = [] ∧ B.d = 0) ∨ BestIn xs nn B
theorem leafBst_ok {xs : List (List Int)} {nn : Nat} {w : List Int} {s : Int} {B : Bst} (hw : w.length = nn) (hd : ∀ x ∈ w, 0 ≤ x ∧ x ≤ 6) (h : BestOk xs nn B) : BestOk xs nn (leafBst xs w s B) := by
  unfold leafBst
  split
  · exact h
  · rename_i hp
    split
    · exact .inr ⟨by simpa using hp, rfl, hw, hd⟩
    · exact h
theorem foldl_inv {α β : Type} {p : β → Prop} {f : β → α → β} {q : α → Prop} (hf : ∀ b a, p b → q a → p (f b a)) : ∀ (l : List α) (b : β), (∀ a ∈ l, q a) → p b → p (l.foldl f b)
  | [], b, _, h => h
  | a :: l, b, hq, h => foldl_inv hf l _ (fun x hx => hq x (by simp [hx])) (hf b a h (hq a (by simp)))
theorem tryB_ok {xs : List (List Int)} {nn : Nat} : ∀ (ts : List Int) (w : List Int) (s : Int) (B : Bst), w.length = nn → (∀ x ∈ w, 0 ≤ x ∧ x ≤ 6) → BestOk xs nn B → BestOk xs nn (tryB xs ts w s B)
  | [], w, s, B, hw, hd, h => by unfold tryB; exact leafBst_ok hw hd h
  | p :: ts, w, s, B, hw, hd, h => by
    unfold tryB
    refine foldl_inv (q := fun (v : Nat) => v < 7) (fun b v hb hv => ?_) _ _ (fun a ha => List.mem_range.1 ha) h
    exact tryB_ok ts _ _ _ (by rw [List.length_set]; exact hw) (mem_set_dig hd _ (by omega)) hb
end Go.Abs
end
section
set_option linter.unusedVariables false
set_option linter.unusedSimpArgs false
open Go Go.Proofs
namespace Go.Abs
def enumL : List Int → List Int → List (List Int)
  | [], w => [w]
  | p :: ts, w => (List.range 7).flatMap fun (v : Nat) => enumL ts (w.set p.toNat v)
theorem sum_set : ∀ {w : List Int} {p : Nat} (v : Int), p < w.length → w[p]?.getD 0 = 0 → (w.set p v).sum = w.sum + v
  | [], p, v, hp, _ => by simp at hp
  | a :: w, 0, v, _, h => by simp at h; subst h; simp; omega
  | a :: w, p + 1, v, hp, h => by
    simp only [List.set_cons_succ, List.sum_cons]
    rw [sum_set v (by simpa using hp) (by simpa using h)]
    omega
theorem foldl_congr_mem {α β : Type} {f g : β → α → β} : ∀ (l : List α) (b : β), (∀ b, ∀ a ∈ l, f b a = g b a) → l.foldl f b = l.foldl g b
  | [], b, _ => rfl
  | a :: l, b, h => by
    simp only [List.foldl_cons]
    rw [h b a (by simp)]
    exact foldl_congr_mem l _ fun b x hx => h b x (by simp [hx])
theorem tryB_enum {xs : List (List Int)} : ∀ (ts : List Int) (w : List Int) (B : Bst), (∀ p ∈ ts, 0 ≤ p ∧ p < w.length) → ts.Nodup → (∀ p ∈ ts, w[p.toNat]?.getD 0 = 0) →
    tryB xs ts w w.sum B = (enumL ts w).foldl (fun B u => leafBst xs u u.sum B) B
  | [], w, B, _, _, _ => by simp [tryB, enumL]
  | p :: ts, w, B, hp, hnd, hz => by
    unfold tryB enumL
    rw [List.foldl_flatMap]
    have h0 := hp p (by simp)
    have hn := List.nodup_cons.1 hnd
    refine foldl_congr_mem _ _ fun b v _ => ?_
    rw [← sum_set (v : Int) (by omega) (hz p (by simp))]
    refine tryB_enum ts _ b (fun q hq => by rw [List.length_set]; exact hp q (by simp [hq])) hn.2 fun q hq => ?_
    have hq0 := hp q (by simp [hq])
    have hne : p.toNat ≠ q.toNat := by
      intro h
      have : p = q := by omega
      exact hn.1 (this ▸ hq)
    rw [List.getElem?_set_ne hne]
    exact hz q (by simp [hq])
end Go.Abs
end
section
set_option linter.unusedVariables false
set_option linter.unusedSimpArgs false
open Go Go.Proofs
namespace Go.Abs
end Go.Abs
end
section
set_option linter.unusedVariables false
set_option linter.unusedSimpArgs false
open Go Go.Proofs
namespace Go.Abs
theorem posB_rest (ls : List (List Int)) (mask : List Bool) (w : List Int) : posB (restX ls mask) w = !okM ls mask w := by
  unfold posB restX okM
  rw [List.any_map, List.any_filter, Bool.not_not]
  rfl
theorem cntN_rest (ls : List (List Int)) (mask : List Bool) (w : List Int) : cntN (restX ls mask) w = ((lowL ls mask w).length : Int) := by
  unfold cntN restX lowL
  rw [List.length_map]
  generalize List.range ls.length = l
  induction l with
  | nil => rfl
  | cons i l ih =>
    by_cases hm : mask[i]?.getD false = true
    · by_cases hp : prodF w (ls[i]?.getD []) < 0
      · have hl : lowM ls mask w i = true := by simp [lowM, hm, hp]
        rw [List.filter_cons_of_pos (p := fun i => mask[i]?.getD false) hm, List.filter_cons_of_pos hl]
        simp only [List.map_cons, List.sum_cons, List.length_cons]
        rw [ih, if_pos hp]; omega
      · have hl : ¬ lowM ls mask w i = true := by simp [lowM, hm, hp]
        rw [List.filter_cons_of_pos (p := fun i => mask[i]?.getD false) hm, List.filter_cons_of_neg hl]
        simp only [List.map_cons, List.sum_cons]
        rw [ih, if_neg hp]; omega
    · have hl : ¬ lowM ls mask w i = true := by simp [lowM, hm]
      rw [List.filter_cons_of_neg (p := fun i => mask[i]?.getD false) hm, List.filter_cons_of_neg hl, ih]
end Go.Abs
end
section
set_option linter.unusedVariables false
set_option linter.unusedSimpArgs false
open Go Go.Proofs
namespace Go.Abs
def betterS (ls : List (List Int)) (mask : List Bool) (w : List Int) (S : Stage) : Bool :=
  okM ls mask w && (decide ((S.removed.length : Int) < (lowL ls mask w).length) || (decide (0 < ((lowL ls mask w).length : Int)) && decide (((lowL ls mask w).length : Int) = S.removed.length) && decide (w.sum < S.weights.sum)))
def leafS (ls : List (List Int)) (mask : List Bool) (S : Stage) (w : List Int) : Stage := if betterS ls mask w S = true then ⟨w, lowL ls mask w⟩ else S
def SB (ls : List (List Int)) (mask : List Bool) (S : Stage) (B : Bst) : Prop :=
  (S = ⟨[], []⟩ ∧ B.d = 0) ∨ (B.w ≠ [] ∧ S = ⟨B.w, lowL ls mask B.w⟩ ∧ B.d = (lowL ls mask B.w).length ∧ 0 < B.d ∧ B.s = B.w.sum)
theorem leaf_SB {ls : List (List Int)} {mask : List Bool} {S : Stage} {B : Bst} {w : List Int} (hw : w ≠ []) (h : SB ls mask S B) : SB ls mask (leafS ls mask S w) (leafBst (restX ls mask) w w.sum B) := by
  unfold leafS leafBst betterS
  rw [posB_rest, cntN_rest]
  generalize hL : lowL ls mask w = L
  cases hok : okM ls mask w with
  | false => simpa using h
  | true =>
    simp only [Bool.not_true, Bool.false_eq_true, if_false, Bool.true_and]
    rcases h with ⟨h1, h2⟩ | ⟨h0, h1, h2, h3, h4⟩
    · subst h1
      by_cases hz : 0 < (L.length : Int)
      · rw [if_pos (by simp only [Bool.or_eq_true, Bool.and_eq_true, decide_eq_true_eq, List.length_nil]; omega), if_pos (by simp only [Bool.or_eq_true, Bool.and_eq_true, decide_eq_true_eq]; exact .inl (.inr (by omega)))]
        exact .inr ⟨hw, by simp [hL], by simp [hL], hz, rfl⟩
      · rw [if_neg (by simp only [Bool.or_eq_true, Bool.and_eq_true, decide_eq_true_eq, List.length_nil]; omega)]
        split
        · exact .inl ⟨rfl, by show (L.length : Int) = 0; omega⟩
        · exact .inl ⟨rfl, h2⟩
    · subst h1
      by_cases hc : B.d < (L.length : Int) ∨ ((L.length : Int) = B.d ∧ w.sum < B.s)
      · rw [if_pos (by simp only [Bool.or_eq_true, Bool.and_eq_true, decide_eq_true_eq]; rw [← h2, ← h4]; omega), if_pos (by simp only [Bool.or_eq_true, Bool.and_eq_true, decide_eq_true_eq]; omega)]
        exact .inr ⟨hw, by simp [hL], by simp [hL], by simp; omega, rfl⟩
      · rw [if_neg (by simp only [Bool.or_eq_true, Bool.and_eq_true, decide_eq_true_eq]; rw [← h2, ← h4]; omega), if_neg (by simp only [Bool.or_eq_true, Bool.and_eq_true, decide_eq_true_eq]; rintro ((h | h) | h); exact h0 h; omega; omega)]
        exact .inr ⟨h0, rfl, h2, h3, h4⟩
end Go.Abs
end
section
set_option linter.unusedVariables false
set_option linter.unusedSimpArgs false
open Go Go.Proofs
namespace Go.Abs
def bestS (ls : List (List Int)) (n : Nat) (m : List Bool) : Stage := (enumL (touchM n ls m) (List.replicate n 0)).foldl (leafS ls m) ⟨[], []⟩
def offM : List Bool → List Int → List Bool
  | m, [] => m
  | m, r :: l => offM (m.set r.toNat false) l
def cntM (m : List Bool) : Nat := m.count true
def stagesF (ls : List (List Int)) (n : Nat) : Nat → List Bool → List Stage × List Bool
  | 0, m => ([], m)
  | k + 1, m => if cntM m = 0 then ([], m) else if (bestS ls n m).removed = [] then ([], m) else
    (bestS ls n m :: (stagesF ls n k (offM m (bestS ls n m).removed)).1, (stagesF ls n k (offM m (bestS ls n m).removed)).2)
theorem offM_len : ∀ (l : List Int) (m : List Bool), (offM m l).length = m.length
  | [], m => rfl
  | r :: l, m => by unfold offM; rw [offM_len l]; simp
theorem offM_get : ∀ (l : List Int) (m : List Bool) (i : Nat), (offM m l)[i]?.getD false = (m[i]?.getD false && !(l.any fun r => decide (r.toNat = i)))
  | [], m, i => by simp [offM]
  | r :: l, m, i => by
    unfold offM
    rw [offM_get l, List.any_cons]
    have h : (m.set r.toNat false)[i]?.getD false = (m[i]?.getD false && !decide (r.toNat = i)) := by
      rw [List.getElem?_set]
      by_cases h : r.toNat = i
      · simp only [h, if_true, decide_true, Bool.not_true, Bool.and_false]
        split <;> rfl
      · simp [h]
    rw [h]
    cases m[i]?.getD false <;> cases decide (r.toNat = i) <;> simp
theorem offM_append (m : List Bool) : ∀ (l : List Int) (r : Int), offM m (l ++ [r]) = (offM m l).set r.toNat false := by
  intro l
  induction l generalizing m with
  | nil => intro r; rfl
  | cons a l ih => intro r; simp only [List.cons_append, offM]; exact ih _ r
theorem cntM_set : ∀ {m : List Bool} {i : Nat}, m[i]? = some true → cntM (m.set i false) + 1 = cntM m
  | [], i, h => by simp at h
  | b :: m, 0, h => by simp at h; subst h; simp [cntM]
  | b :: m, i + 1, h => by
    have ih := cntM_set (m := m) (i := i) (by simpa using h)
    unfold cntM at ih ⊢
    simp only [List.set_cons_succ, List.count_cons]
    omega
theorem onM_set {m : List Bool} {i j : Nat} (h : m[j]? = some true) (hne : i ≠ j) : (m.set i false)[j]? = some true := by rw [List.getElem?_set_ne hne]; exact h
theorem cntM_off : ∀ (l : List Int) (m : List Bool), l.Nodup → (∀ r ∈ l, 0 ≤ r ∧ m[r.toNat]? = some true) → cntM (offM m l) + l.length = cntM m
  | [], m, _, _ => by simp [offM]
  | r :: l, m, hn, h => by
    have h0 := h r (by simp)
    have hn' := List.nodup_cons.1 hn
    unfold offM
    have hq' : ∀ q ∈ l, 0 ≤ q ∧ (m.set r.toNat false)[q.toNat]? = some true := fun q hq => by
      have hq0 := h q (by simp [hq])
      refine ⟨hq0.1, onM_set hq0.2 fun he => hn'.1 ?_⟩
      have : r = q := by omega
      rw [this]; exact hq
    have ih := cntM_off l (m.set r.toNat false) hn'.2 hq'
    have := cntM_set h0.2
    simp only [List.length_cons]
    omega
theorem rangeMap (m : List Bool) : (List.range m.length).map (fun i => m[i]?.getD false) = m := by
  apply List.ext_getElem
  · simp
  · intro i h1 h2; simp at h1; simp [h1]
theorem restI_len (m : List Bool) : (restI m).length = cntM m := by
  have h : cntM m = ((List.range m.length).map (fun i => m[i]?.getD false)).count true := by rw [rangeMap]; rfl
  rw [h, List.count_eq_countP, List.countP_map, List.countP_eq_length_filter]
  unfold restI
  congr 1
  apply List.filter_congr
  intro x _
  simp
theorem restX_restI {ls : List (List Int)} {m : List Bool} (h : m.length = ls.length) : restX ls m = (restI m).map fun i => ls[i]?.getD [] := by
  unfold restX restI; rw [h]
theorem restI_mem {m : List Bool} {i : Nat} : i ∈ restI m ↔ m[i]? = some true := by
  unfold restI
  rw [List.mem_filter, List.mem_range]
  constructor
  · rintro ⟨h1, h2⟩
    rw [List.getElem?_eq_getElem h1] at h2 ⊢
    simpa using h2
  · intro h
    obtain ⟨h1, h2⟩ := List.getElem?_eq_some_iff.1 h
    exact ⟨h1, by rw [h]; rfl⟩
theorem restI_off {ls : List (List Int)} {m : List Bool} (hm : m.length = ls.length) (w : List Int) : restI (offM m (lowL ls m w)) = (restI m).filter fun i => !decide (prodF w (ls[i]?.getD []) < 0) := by
  unfold restI
  rw [offM_len, List.filter_filter]
  apply List.filter_congr
  intro i hi
  rw [offM_get]
  rw [List.mem_range] at hi
  have hany : ((lowL ls m w).any fun r => decide (r.toNat = i)) = lowM ls m w i := by
    rw [Bool.eq_iff_iff, List.any_eq_true]
    unfold lowL
    constructor
    · rintro ⟨r, hr, he⟩
      rw [List.mem_map] at hr
      obtain ⟨j, hj, rfl⟩ := hr
      simp at he
      subst he
      exact (List.mem_filter.1 hj).2
    · intro h
      exact ⟨(i : Int), List.mem_map.2 ⟨i, List.mem_filter.2 ⟨List.mem_range.2 (by omega), h⟩, rfl⟩, by simp⟩
  rw [hany]
  unfold lowM
  cases m[i]?.getD false <;> simp
theorem lowL_restI {ls : List (List Int)} {m : List Bool} (hm : m.length = ls.length) (w : List Int) : lowL ls m w = ((restI m).filter fun i => decide (prodF w (ls[i]?.getD []) < 0)).map fun (i : Nat) => (i : Int) := by
  unfold lowL restI
  rw [List.filter_filter, hm]
  congr 1
  apply List.filter_congr
  intro i _
  unfold lowM
  cases m[i]?.getD false <;> simp
theorem lowL_on {ls : List (List Int)} {m : List Bool} (hm : m.length = ls.length) (w : List Int) : (lowL ls m w).Nodup ∧ ∀ r ∈ lowL ls m w, 0 ≤ r ∧ m[r.toNat]? = some true := by
  constructor
  · unfold lowL
    refine List.Pairwise.map _ (R := fun a b => a ≠ b) (fun a b h he => h (by omega)) ?_
    exact List.Pairwise.filter _ List.nodup_range
  · intro r hr
    rw [lowL_restI hm, List.mem_map] at hr
    obtain ⟨i, hi, rfl⟩ := hr
    refine ⟨by omega, ?_⟩
    simpa using restI_mem.1 (List.mem_filter.1 hi).1
theorem touchM_in {n : Nat} {ls : List (List Int)} {m : List Bool} : (touchM n ls m).Nodup ∧ ∀ v ∈ touchM n ls m, 0 ≤ v ∧ v < n := by
  constructor
  · unfold touchM
    refine List.Pairwise.map _ (R := fun a b => a ≠ b) (fun a b h he => h (by omega)) ?_
    exact List.Pairwise.filter _ List.nodup_range
  · intro v hv
    unfold touchM at hv
    rw [List.mem_map] at hv
    obtain ⟨i, hi, rfl⟩ := hv
    have := List.mem_range.1 (List.mem_filter.1 hi).1
    omega
theorem touchM_rest {n : Nat} {ls : List (List Int)} {m : List Bool} : touchM n ls m = touchL n (restX ls m) := by
  unfold touchM touchL
  congr 1
  apply List.filter_congr
  intro k _
  unfold restX
  rw [List.any_map, List.any_filter]
  rfl
theorem touchM_few {n : Nat} {ls : List (List Int)} {m : List Bool} : (touchM n ls m).length ≤ (touchL n ls).length := by
  unfold touchM touchL
  rw [List.length_map, List.length_map, ← List.countP_eq_length_filter, ← List.countP_eq_length_filter]
  apply List.countP_mono_left
  intro k _ h
  obtain ⟨i, hi, h1⟩ := List.any_eq_true.1 h
  have hi := List.mem_range.1 hi
  unfold hitB at h1
  rw [Bool.and_eq_true, List.getElem?_eq_getElem hi] at h1
  exact List.any_eq_true.2 ⟨ls[i], List.getElem_mem hi, by simpa using h1.2⟩
theorem enumL_dig : ∀ (ts : List Int) (w : List Int), (∀ x ∈ w, 0 ≤ x ∧ x ≤ 6) → ∀ u ∈ enumL ts w, u.length = w.length ∧ ∀ x ∈ u, 0 ≤ x ∧ x ≤ 6
  | [], w, h, u, hu => by
    have : u = w := by simpa [enumL] using hu
    subst this; exact ⟨rfl, h⟩
  | p :: ts, w, h, u, hu => by
    unfold enumL at hu
    rw [List.mem_flatMap] at hu
    obtain ⟨v, hv, hu⟩ := hu
    have hv := List.mem_range.1 hv
    have := enumL_dig ts (w.set p.toNat v) (mem_set_dig h _ (by omega)) u hu
    rw [List.length_set] at this
    exact this
theorem zeros_dig (n : Nat) : ∀ x ∈ List.replicate n (0 : Int), 0 ≤ x ∧ x ≤ 6 := fun x hx => by rw [(List.mem_replicate.1 hx).2]; decide
theorem zeros_get (n j : Nat) : (List.replicate n (0 : Int))[j]?.getD 0 = 0 := by
  rw [List.getElem?_replicate]; split <;> rfl
theorem zeros_sum (n : Nat) : (List.replicate n (0 : Int)).sum = 0 := by
  induction n with
  | zero => rfl
  | succ n ih => rw [List.replicate_succ, List.sum_cons, ih]; rfl
theorem foldl_two {α β γ : Type} {R : β → γ → Prop} {f : β → α → β} {g : γ → α → γ} {q : α → Prop} (h : ∀ b c a, q a → R b c → R (f b a) (g c a)) : ∀ (l : List α) (b : β) (c : γ), (∀ a ∈ l, q a) → R b c → R (l.foldl f b) (l.foldl g c)
  | [], _, _, _, hr => hr
  | a :: l, b, c, hq, hr => foldl_two h l _ _ (fun x hx => hq x (by simp [hx])) (h b c a (hq a (by simp)) hr)
theorem best_SB (ls : List (List Int)) (n : Nat) (hn : 0 < n) (m : List Bool) : SB ls m (bestS ls n m) (tryB (restX ls m) (touchM n ls m) (List.replicate n 0) 0 ⟨[], 0, 0⟩) := by
  have h := tryB_enum (xs := restX ls m) (touchM n ls m) (List.replicate n 0) ⟨[], 0, 0⟩ (fun p hp => by have := touchM_in.2 p hp; rw [List.length_replicate]; exact this) touchM_in.1 fun p _ => zeros_get n _
  rw [zeros_sum] at h
  rw [h]
  unfold bestS
  have key := foldl_two (R := SB ls m) (f := leafS ls m) (g := fun B u => leafBst (restX ls m) u u.sum B) (q := fun w : List Int => w.length = n) (fun S B w hw hr => leaf_SB (fun h0 => by rw [h0] at hw; simp at hw; omega) hr)
    (enumL (touchM n ls m) (List.replicate n 0)) ⟨[], []⟩ ⟨[], 0, 0⟩
  refine key (fun w hw => ?_) (.inl ⟨rfl, rfl⟩)
  have := (enumL_dig _ _ (zeros_dig n) w hw).1
  rw [List.length_replicate] at this; exact this
theorem stagesF_stop {ls : List (List Int)} {n k : Nat} {m : List Bool} (h : cntM m = 0 ∨ (bestS ls n m).removed = []) : stagesF ls n k m = ([], m) := by
  cases k with
  | zero => rfl
  | succ k =>
    unfold stagesF
    by_cases h1 : cntM m = 0
    · rw [if_pos h1]
    · rw [if_neg h1, if_pos (h.resolve_left h1)]
theorem stagesF_step {ls : List (List Int)} {n k : Nat} {m : List Bool} (h1 : cntM m ≠ 0) (h2 : (bestS ls n m).removed ≠ []) : stagesF ls n (k + 1) m =
    (bestS ls n m :: (stagesF ls n k (offM m (bestS ls n m).removed)).1, (stagesF ls n k (offM m (bestS ls n m).removed)).2) := by
  conv => lhs; unfold stagesF
  rw [if_neg h1, if_neg h2]
theorem cntM_all (n : Nat) : cntM (List.replicate n true) = n := by simp [cntM]
theorem cntM_le (m : List Bool) : cntM m ≤ m.length := List.count_le_length
end Go.Abs
end
section
set_option linter.unusedVariables false
set_option linter.unusedSimpArgs false
set_option maxRecDepth 8000
open Go Go.Proofs
namespace Go.Abs
end Go.Abs
end
section
set_option linter.unusedVariables false
set_option linter.unusedSimpArgs false
set_option maxRecDepth 8000
set_option maxHeartbeats 2000000
open Go Go.Proofs
namespace Go.Abs
end Go.Abs
end
section
set_option linter.unusedVariables false
set_option linter.unusedSimpArgs false
set_option maxRecDepth 8000
set_option maxHeartbeats 2000000
open Go Go.Proofs
namespace Go.Abs
end Go.Abs
end
section
set_option linter.unusedVariables false
set_option linter.unusedSimpArgs false
set_option maxRecDepth 8000
set_option maxHeartbeats 4000000
open Go Go.Proofs
namespace Go.Abs
theorem restX_mem {ls : List (List Int)} {m : List Bool} {l : List Int} (h : l ∈ restX ls m) : l ∈ ls := by
  unfold restX at h
  rw [List.mem_map] at h
  obtain ⟨i, hi, rfl⟩ := h
  have hi := List.mem_range.1 (List.mem_filter.1 hi).1
  rw [List.getElem?_eq_getElem hi]
  exact List.getElem_mem hi
theorem FX_rest {ls : List (List Int)} {n : Nat} {m : List Bool} (hl : ∀ l ∈ ls, l.length = n) (hb : ∀ l ∈ ls, ∀ x ∈ l, -100000 ≤ x ∧ x ≤ 100000) (ht : (touchL n ls).length ≤ 6) (hn : n ≤ 1000) : FX (restX ls m) (touchM n ls m) n :=
  ⟨fun l h => hl l (restX_mem h), fun l h => hb l (restX_mem h), touchM_in.2, Nat.le_trans touchM_few ht, hn⟩
theorem restI_all (n : Nat) : restI (List.replicate n true) = List.range n := by
  unfold restI
  rw [List.length_replicate, List.filter_eq_self]
  intro i hi
  rw [List.getElem?_replicate, if_pos (List.mem_range.1 hi)]; rfl
def Types.n (t : Types) : Nat := t.nodes.length + t.edges.length
def stgG (t : Types) (rs : List Rule) : List Stage × List Bool := stagesF (effsV t rs) (t.nodes.length + t.edges.length) rs.length (List.replicate rs.length true)
def stV (t : Types) (rs : List Rule) : List Stage := if effsE t rs = 0 ∧ restI (stgG t rs).2 = [] then (stgG t rs).1 else []
def rstV (t : Types) (rs : List Rule) : List Int := if effsE t rs = 0 then (restI (stgG t rs).2).map fun (i : Nat) => (i : Int) else []
theorem restI_lt {m : List Bool} {i : Nat} (h : i ∈ restI m) : i < m.length := (List.getElem?_eq_some_iff.1 (restI_mem.1 h)).1
theorem cntM_restI {m : List Bool} : restI m = [] ↔ cntM m = 0 := by
  rw [← restI_len, List.length_eq_zero_iff]
theorem filter_one {α : Type} (p : α → Bool) (a : α) : [a].filter p = if p a = true then [a] else [] := by simp [List.filter_cons]
theorem counting_stages (t : Types) (ht : t.ok) (rs : List Rule) (hr : ∀ r ∈ rs, r.ok) : Pure Tryz.prog 60 [t.d, .list (rs.map Rule.c)] (.tup [.list ((stV t rs).map Stage.c), dLI (rstV t rs), dI (effsE t rs)]) := by
  refine pureK (by first | rfl | (simp [go_sem]; done)) (fun Q hQ => (acalls_of_body (cfg := ⟨fun t => t == 9 || t == 11 || t == 16 || t == 17 || t == 18 || t == 53, fun r => match r with | 17 => [(2, 9), (3, 9), (4, 9)] | 23 => [(2, 6), (3, 6), (4, 6)] | _ => []⟩) Tz.mixed Tryz.func60 rfl rfl (Nat.le_of_ble_eq_true rfl) (by kernel_rfl) ?_))
  try simp [go_sem, seval, restI_all]
  refine callQ_pure0 (counting_effects t ht rs hr) ((by first | rfl | (simp [go_sem, ← List.map_take, ← List.map_drop, restI_all]; done))) ?_
  try simp [go_sem, seval, restI_all]
  refine condQ_mk (fun h2 => ?_) (fun h2 => ?_)
  · try simp [go_sem] at h2
    try simp [go_sem, seval, restI_all]
    exact hQ _ _ (by first | (left; (simp [go_sem, stV, rstV, h2]); done) | (right; (simp [go_sem, stV, rstV, h2]); done))
  · try simp [go_sem] at h2
    have hv := valid_of (effsE_of h2).1
    have hN := hv.fewN
    have hE := hv.fewE
    have hV : effsV t rs = rs.map (effV t) := if_pos h2
    have hT : effsT t rs = touchL (t.nodes.length + t.edges.length) (effsV t rs) := by rw [hV]; exact if_pos h2
    have hX0 := FX_of h2
    have hVl : (effsV t rs).length = rs.length := by rw [hV, List.length_map]
    have hlen6 := (effsE_of h2).2.1
    have hn0 : 0 < t.nodes.length + t.edges.length := by have := hv.ne; omega
    have hTf : (touchL (t.nodes.length + t.edges.length) (effsV t rs)).length ≤ 6 := by rw [← hT]; exact hX0.few
    have hxl := hX0.xl
    have hxb := hX0.xb
    obtain ⟨ls, hls⟩ : ∃ ls, effsV t rs = ls := ⟨_, rfl⟩
    obtain ⟨N, hNn⟩ : ∃ N, t.nodes.length + t.edges.length = N := ⟨_, rfl⟩
    have hNi : (t.nodes.length : Int) + t.edges.length = (N : Int) := by omega
    have hstg : stgG t rs = stagesF ls N rs.length (List.replicate rs.length true) := by unfold stgG; rw [hls, hNn]
    rw [hls] at hVl hTf hxl hxb
    rw [hNn] at hn0 hTf hxl
    try simp [go_sem, seval, restI_all, hls, hNi]
    repeat (first | intro _ | (refine ⟨obs, ?_⟩))
    obtain ⟨I0, hI0⟩ : ∃ I0 : Nat → Env → AHeap → Prop, ∀ (i : Nat) (e : Env) (H : AHeap), I0 i e H ↔ ((e 2 = .adr t.c) ∧ (e 1 = .list (rs.map Rule.c)) ∧ (e 7 = .list (ls.map cL)) ∧ (e 9 = .own 0 i) ∧ (e 31 = dI rs.length) ∧ (e 32 = dI i) ∧ (H.get 0 = some ⟨3, 1, ((List.range i).map fun (b : Nat) => (b : Int)).map cI, false⟩) ∧ (0 < H.next) ∧ (i ≤ rs.length)) := ⟨fun i e H => _, fun _ _ _ => Iff.rfl⟩
    refine loopK I0 (fun i => rs.length - i) (0) ((hI0 _ _ _).2 ⟨?_, ?_, ?_, ?_, ?_, ?_, (by rfl), ?_, (by first | assumption | omega | (simp [go_sem, restI_all, hls, hNi]; done) | (simp_all; done))⟩) ?_
    iterate 7 (first | omega | (simp [go_sem, seval, restI_all, hls, hNi] <;> omega))
    intro i e H hi0
    obtain ⟨q2_0, q1_0, q7_0, q9_0, q31_0, q32_0, g0_0, n0_0, hi⟩ := (hI0 _ _ _).1 hi0
    have x0 := frs n0_0
    have F0 := And.intro q2_0 (And.intro q1_0 (And.intro q7_0 (And.intro q9_0 (And.intro q31_0 (And.intro q32_0 (And.intro g0_0 x0))))))
    try simp [go_sem, seval, restI_all, hls, hNi, F0]
    refine condQ_mk (fun h6 => ?_) (fun h6 => ?_)
    · try simp [go_sem] at h6
      try simp [go_sem, seval, restI_all, hls, hNi, F0, h6]
      repeat (first | intro _ | (refine ⟨obs, ?_⟩))
      refine nextQ_mk (i + 1) (by omega) ((hI0 _ _ _).2 ⟨?_, ?_, ?_, ?_, ?_, ?_, (by (simp [go_sem, restI_all, hls, hNi, F0, h6, List.range_succ])), ?_, (by first | assumption | omega | (simp [go_sem, restI_all, hls, hNi, F0, h6, h2]; done) | (simp_all; done) | (simp_all; omega))⟩) <;> first | omega | (simp [go_sem, seval, restI_all, hls, hNi, F0, h6] <;> omega)
    · try simp [go_sem] at h6
      have hie : i = rs.length := by omega
      subst hie
      try simp [go_sem, seval, restI_all, hls, hNi, F0]
      obtain ⟨I2, hI2⟩ : ∃ I2 : Nat → Env → AHeap → Prop, ∀ (k : Nat) (e : Env) (H : AHeap), I2 k e H ↔ (∃ m : List Bool, ∃ r : Nat, ∃ o : Nat, ∃ out : List Stage, (e 2 = .adr t.c) ∧ (e 1 = .list (rs.map Rule.c)) ∧ (e 7 = .list (ls.map cL)) ∧ (e 9 = .own r (restI m).length) ∧ (e 11 = .own o out.length) ∧ (H.get r = some ⟨3, 1, ((restI m).map fun (b : Nat) => (b : Int)).map cI, false⟩) ∧ (r < H.next) ∧ (H.get o = some ⟨33, 2, out.map Stage.c, false⟩) ∧ (o < H.next) ∧ (r ≠ o) ∧ (m.length = rs.length) ∧ (cntM m ≤ k) ∧ (out.length + k ≤ rs.length) ∧ (stagesF ls N rs.length (List.replicate rs.length true) = (out ++ (stagesF ls N k m).1, (stagesF ls N k m).2))) := ⟨fun k e H => _, fun _ _ _ => Iff.rfl⟩
      refine loopK I2 (fun k => k) (rs.length) ((hI2 _ _ _).2 ⟨(List.replicate rs.length true), (0), (H.next), ([]), ?_, ?_, ?_, ?_, ?_, ?_, ?_, ?_, ?_, (by omega), (by simp), (by (rw [cntM_all]; exact Nat.le_refl _)), (by simp), (by simp)⟩) ?_
      iterate 9 (first | omega | (simp [go_sem, seval, restI_all, hls, hNi, F0] <;> omega))
      intro k e H hi2
      obtain ⟨m, r, o, out, q2_2, q1_2, q7_2, q9_2, q11_2, gr_2, nr_2, go_2, no_2, hro, hm, hk, hol, hF⟩ := (hI2 _ _ _).1 hi2
      have xr := frs nr_2
      have xo := frs no_2
      have F2 := And.intro q2_2 (And.intro q1_2 (And.intro q7_2 (And.intro q9_2 (And.intro q11_2 (And.intro gr_2 (And.intro go_2 (And.intro xr xo)))))))
      have di1 := nep (show o ≠ r by omega)
      try simp [go_sem, seval, restI_all, hls, hNi, F2, di1]
      repeat (first | intro _ | (refine ⟨obs, ?_⟩))
      refine condQ_mk (fun h11 => ?_) (fun h11 => ?_)
      · try simp [go_sem] at h11
        have hrl := restI_len m
        have hkp : 0 < k := by omega
        have hml : m.length = ls.length := by omega
        have hXm := FX_rest (m := m) hxl hxb hTf (by omega)
        have hXr := restX_restI hml
        have hXl : (restX ls m).length = (restI m).length := by rw [hXr, List.length_map]
        have hrlt : ∀ i, (h : i < (restI m).length) → (restI m)[i] < ls.length := fun i h => by have := restI_lt (List.getElem_mem h); omega
        try simp [go_sem, seval, restI_all, hls, hNi, F2, di1, h11, hXl]
        repeat (first | intro _ | (refine ⟨obs, ?_⟩))
        obtain ⟨I4, hI4⟩ : ∃ I4 : Nat → Env → AHeap → Prop, ∀ (j : Nat) (e : Env) (H : AHeap), I4 j e H ↔ (∃ q : Nat, ∃ f : Nat, ∃ ee : Nat, (e 2 = .adr t.c) ∧ (e 1 = .list (rs.map Rule.c)) ∧ (e 7 = .list (ls.map cL)) ∧ (e 9 = .own r (restI m).length) ∧ (e 11 = .own o out.length) ∧ (e 12 = dI N) ∧ (e 13 = .ptr f 1 0 0) ∧ (e 54 = .own r (restI m).length) ∧ (e 55 = dI (restI m).length) ∧ (e 56 = dI j) ∧ (H.get f = some ⟨169, 7, [[.own ee j, .nil, .own q N, dI 0, .nil, dI 0, dI 0]], false⟩) ∧ (f < H.next) ∧ (H.get ee = some ⟨31, 1, ((restX ls m).take j).map cL, false⟩) ∧ (ee < H.next) ∧ (H.get q = some ⟨3, 1, (List.replicate N (0 : Int)).map cI, false⟩) ∧ (q < H.next) ∧ (H.get r = some ⟨3, 1, ((restI m).map fun (b : Nat) => (b : Int)).map cI, false⟩) ∧ (r < H.next) ∧ (H.get o = some ⟨33, 2, out.map Stage.c, false⟩) ∧ (o < H.next) ∧ (j ≤ (restI m).length) ∧ (r < q ∧ o < q ∧ q < f ∧ f < ee)) := ⟨fun j e H => _, fun _ _ _ => Iff.rfl⟩
        refine loopKG (Ghosts.step (Ghosts.refl _) (H.next+1) 0 0 31 1 _ _ ((by simp [go_sem] : AHeap.get _ _ = some ⟨169, 7, [[.nil, .nil, .own H.next N, dI 0, .nil, dI 0, dI 0]], false⟩)) rfl rfl rfl) I4 (fun j => (restI m).length - j) (0) ((hI4 _ _ _).2 ⟨(H.next), (H.next + 1), (H.next + 2), ?_, ?_, ?_, ?_, ?_, ?_, ?_, ?_, ?_, ?_, ?_, ?_, ?_, ?_, ?_, ?_, ?_, ?_, ?_, ?_, (by first | assumption | omega | (simp [go_sem, restI_all, hls, hNi, F2, di1, h11, hXl]; done) | (simp_all; done)), (by omega)⟩) ?_
        iterate 20 (first | omega | (simp [go_sem, seval, restI_all, hls, hNi, F2, di1, h11, hXl] <;> omega))
        intro j e H hi4
        obtain ⟨q, f, ee, q2_4, q1_4, q7_4, q9_4, q11_4, q12_4, q13_4, q54_4, q55_4, q56_4, gf_4, nf_4, gee_4, nee_4, gq_4, nq_4, gr_4, nr_4, go_4, no_4, hj, ho4⟩ := (hI4 _ _ _).1 hi4
        have xf := frs nf_4
        have xee := frs nee_4
        have xq := frs nq_4
        have xr := frs nr_4
        have xo := frs no_4
        have F4 := And.intro q2_4 (And.intro q1_4 (And.intro q7_4 (And.intro q9_4 (And.intro q11_4 (And.intro q12_4 (And.intro q13_4 (And.intro q54_4 (And.intro q55_4 (And.intro q56_4 (And.intro gf_4 (And.intro gq_4 (And.intro gr_4 (And.intro go_4 (And.intro xf (And.intro xee (And.intro xq (And.intro xr xo)))))))))))))))))
        have di2 := And.intro (nep (show ee ≠ f by omega)) (And.intro (nep (show ee ≠ q by omega)) (And.intro (nep (show ee ≠ o by omega)) (And.intro (nep (show ee ≠ r by omega)) (And.intro (nep (show f ≠ q by omega)) (And.intro (nep (show f ≠ o by omega)) (And.intro (nep (show f ≠ r by omega)) (And.intro (nep (show q ≠ o by omega)) (And.intro (nep (show q ≠ r by omega)) (nep (show o ≠ r by omega))))))))))
        try simp [go_sem, seval, restI_all, hls, hNi, di1, h11, hXl, F4, gee_4, di2]
        refine condQ_mk (fun h15 => ?_) (fun h15 => ?_)
        · try simp [go_sem] at h15
          have hri := hrlt j h15
          have hxj : (restX ls m).take (j + 1) = (restX ls m).take j ++ [ls[(restI m)[j]]] := by rw [List.take_succ_eq_append_getElem (by omega)]; congr 2; simp [hXr, List.getElem?_eq_getElem hri]
          try simp [go_sem, seval, restI_all, hls, hNi, di1, h11, hXl, F4, gee_4, di2, h15, hri, List.getElem?_eq_getElem hri, hxj]
          repeat (first | intro _ | (refine ⟨obs, ?_⟩))
          refine nextQ_mk (j + 1) (by omega) ((hI4 _ _ _).2 ⟨(q), (f), (ee), ?_, ?_, ?_, ?_, ?_, ?_, ?_, ?_, ?_, ?_, ?_, ?_, ?_, ?_, ?_, ?_, ?_, ?_, ?_, ?_, (by first | assumption | omega | (simp [go_sem, restI_all, hls, hNi, di1, h11, hXl, F4, gee_4, di2, h15, hri, List.getElem?_eq_getElem hri, hxj, h2, h6]; done) | (simp_all; done) | (simp_all; omega)), (by omega)⟩) <;> first | omega | (simp [go_sem, seval, restI_all, hls, hNi, di1, h11, hXl, F4, gee_4, di2, h15, hri, List.getElem?_eq_getElem hri, hxj] <;> omega)
        · try simp [go_sem] at h15
          have hje : j = (restI m).length := by omega
          subst hje
          rw [List.take_of_length_le (by omega)] at gee_4
          try simp [go_sem, seval, restI_all, hls, hNi, di1, h11, hXl, F4, gee_4, di2]
          obtain ⟨I6, hI6⟩ : ∃ I6 : Nat → Env → AHeap → Prop, ∀ (x : Nat) (e : Env) (H : AHeap), I6 x e H ↔ (∃ c : Nat, ∃ ys : List Int, (e 2 = .adr t.c) ∧ (e 1 = .list (rs.map Rule.c)) ∧ (e 7 = .list (ls.map cL)) ∧ (e 9 = .own r (restI m).length) ∧ (e 11 = .own o out.length) ∧ (e 12 = dI N) ∧ (e 13 = .ptr f 1 0 0) ∧ (e 74 = dI N) ∧ (e 75 = dI x) ∧ (H.get f = some ⟨169, 7, [[.own ee (restI m).length, .own c ys.length, .own q N, dI 0, .nil, dI 0, dI 0]], false⟩) ∧ (f < H.next) ∧ (H.get ee = some ⟨31, 1, (restX ls m).map cL, false⟩) ∧ (ee < H.next) ∧ (H.get c = some ⟨3, 1, ys.map cI, false⟩) ∧ (c < H.next) ∧ (H.get q = some ⟨3, 1, (List.replicate N (0 : Int)).map cI, false⟩) ∧ (q < H.next) ∧ (H.get r = some ⟨3, 1, ((restI m).map fun (b : Nat) => (b : Int)).map cI, false⟩) ∧ (r < H.next) ∧ (H.get o = some ⟨33, 2, out.map Stage.c, false⟩) ∧ (o < H.next) ∧ (x ≤ N) ∧ (ys.length ≤ x) ∧ (ys = ((List.range x).filter fun (k : Nat) => (restX ls m).any fun l => decide (l[k]?.getD 0 ≠ 0)).map (fun (b : Nat) => (b : Int))) ∧ (r < q ∧ o < q ∧ q < f ∧ f < ee ∧ ee < c)) := ⟨fun x e H => _, fun _ _ _ => Iff.rfl⟩
          refine loopKG (Ghosts.step (Ghosts.refl _) f 0 1 3 1 _ _ (gf_4) rfl rfl rfl) I6 (fun x => N - x) (0) ((hI6 _ _ _).2 ⟨(H.next), ([]), ?_, ?_, ?_, ?_, ?_, ?_, ?_, ?_, ?_, ?_, ?_, ?_, ?_, ?_, ?_, ?_, ?_, ?_, ?_, ?_, ?_, (by first | assumption | omega | (simp [go_sem, restI_all, hls, hNi, di1, h11, hXl, F4, gee_4, di2]; done) | (simp_all; done)), (by simp), (by rfl), (by omega)⟩) ?_
          iterate 21 (first | omega | (simp [go_sem, seval, restI_all, hls, hNi, di1, h11, hXl, F4, gee_4, di2] <;> omega))
          intro x e H hi6
          obtain ⟨c, ys, q2_6, q1_6, q7_6, q9_6, q11_6, q12_6, q13_6, q74_6, q75_6, gf_6, nf_6, gee_6, nee_6, gc_6, nc_6, gq_6, nq_6, gr_6, nr_6, go_6, no_6, hx, hyl, hy, ho6⟩ := (hI6 _ _ _).1 hi6
          have xf := frs nf_6
          have xee := frs nee_6
          have xc := frs nc_6
          have xq := frs nq_6
          have xr := frs nr_6
          have xo := frs no_6
          have F6 := And.intro q2_6 (And.intro q1_6 (And.intro q7_6 (And.intro q9_6 (And.intro q11_6 (And.intro q12_6 (And.intro q13_6 (And.intro q74_6 (And.intro q75_6 (And.intro gf_6 (And.intro gee_6 (And.intro gc_6 (And.intro gq_6 (And.intro gr_6 (And.intro go_6 (And.intro xf (And.intro xee (And.intro xc (And.intro xq (And.intro xr xo)))))))))))))))))))
          have di3 := And.intro (nep (show c ≠ ee by omega)) (And.intro (nep (show c ≠ f by omega)) (And.intro (nep (show c ≠ q by omega)) (And.intro (nep (show c ≠ o by omega)) (And.intro (nep (show c ≠ r by omega)) (And.intro (nep (show ee ≠ f by omega)) (And.intro (nep (show ee ≠ q by omega)) (And.intro (nep (show ee ≠ o by omega)) (And.intro (nep (show ee ≠ r by omega)) (And.intro (nep (show f ≠ q by omega)) (And.intro (nep (show f ≠ o by omega)) (And.intro (nep (show f ≠ r by omega)) (And.intro (nep (show q ≠ o by omega)) (And.intro (nep (show q ≠ r by omega)) (nep (show o ≠ r by omega)))))))))))))))
          try simp [go_sem, seval, restI_all, hls, hNi, di1, h11, hXl, di2, F6, di3]
          refine condQ_mk (fun h20 => ?_) (fun h20 => ?_)
          · try simp [go_sem] at h20
            try simp [go_sem, seval, restI_all, hls, hNi, di1, h11, hXl, di2, F6, di3, h20]
            refine callQ_pureC ((containsFunc_ints (restX ls m) 90 [.adr [dI x]] (fun l => decide (l[x]?.getD 0 ≠ 0)) (by simp [go_sem]) (by simp [go_sem]) (fun l hl => counting_stages1 l x (by have := hXm.xl l hl; omega)))) (by simp [rsvC, rsvP, cellsAt, go_sem, ← List.map_take, ← List.map_drop, restI_all, hls, hNi, di1, h11, hXl, di2, F6, di3, h20]) ((by first | rfl | (simp [go_sem, ← List.map_take, ← List.map_drop, restI_all, hls, hNi, di1, h11, hXl, di2, F6, di3, h20]; done))) ( rfl) ?_
            try simp [go_sem, seval, restI_all, hls, hNi, di1, h11, hXl, di2, F6, di3, h20]
            refine condQ_mk (fun h22 => ?_) (fun h22 => ?_)
            · try simp [go_sem] at h22
              try simp [go_sem, seval, restI_all, hls, hNi, di1, h11, hXl, di2, F6, di3, h20, h22]
              repeat (first | intro _ | (refine ⟨obs, ?_⟩))
              refine nextQ_mk (x + 1) (by omega) ((hI6 _ _ _).2 ⟨(c), (ys ++ (if ((restX ls m).any fun l => decide (l[x]?.getD 0 ≠ 0)) = true then [(x : Int)] else [])), ?_, ?_, ?_, ?_, ?_, ?_, ?_, ?_, ?_, ?_, ?_, ?_, ?_, ?_, ?_, ?_, ?_, ?_, ?_, ?_, ?_, (by first | assumption | omega | (simp [go_sem, restI_all, hls, hNi, di1, h11, hXl, di2, F6, di3, h20, h22, h2, h6, h15]; done) | (simp_all; done) | (simp_all; omega)), (by (rw [List.length_append]; split <;> simp <;> omega)), (by (rw [range_filter_succ, ← hy])), (by omega)⟩) <;> first | omega | (simp [go_sem, seval, restI_all, hls, hNi, di1, h11, hXl, di2, F6, di3, h20, h22] <;> omega)
            · try simp [go_sem] at h22
              try simp [go_sem, seval, restI_all, hls, hNi, di1, h11, hXl, di2, F6, di3, h20, h22]
              repeat (first | intro _ | (refine ⟨obs, ?_⟩))
              refine nextQ_mk (x + 1) (by omega) ((hI6 _ _ _).2 ⟨(c), (ys ++ (if ((restX ls m).any fun l => decide (l[x]?.getD 0 ≠ 0)) = true then [(x : Int)] else [])), ?_, ?_, ?_, ?_, ?_, ?_, ?_, ?_, ?_, ?_, ?_, ?_, ?_, ?_, ?_, ?_, ?_, ?_, ?_, ?_, ?_, (by first | assumption | omega | (simp [go_sem, restI_all, hls, hNi, di1, h11, hXl, di2, F6, di3, h20, h22, h2, h6, h15]; done) | (simp_all; done) | (simp_all; omega)), (by (rw [List.length_append]; split <;> simp <;> omega)), (by (rw [range_filter_succ, ← hy])), (by omega)⟩) <;> first | omega | (simp [go_sem, seval, restI_all, hls, hNi, di1, h11, hXl, di2, F6, di3, h20, h22] <;> omega)
          · try simp [go_sem] at h20
            have hxe : N = x := by omega
            subst hxe
            have hT6 : ys = touchM N ls m := by rw [hy, touchM_rest]; rfl
            subst hT6
            obtain ⟨B, hBe⟩ : ∃ B, tryB (restX ls m) (touchM N ls m) (List.replicate N 0) 0 ⟨[], 0, 0⟩ = B := ⟨_, rfl⟩
            have hSB := best_SB ls N hn0 m
            have hBo := tryB_ok (xs := restX ls m) (nn := N) (touchM N ls m) (List.replicate N 0) 0 ⟨[], 0, 0⟩ (by simp) (zeros_dig N) (.inl ⟨rfl, rfl⟩)
            rw [hBe] at hSB hBo
            try simp [go_sem, seval, restI_all, hls, hNi, di1, h11, hXl, di2, F6, di3]
            unfold callQ; refine finder_try f ee c q ⟨by omega, by omega, by omega, by omega, by omega, by omega⟩ (restX ls m) (touchM N ls m) N hXm (by omega) hn0 touchM_in.1 (touchM N ls m).length 0 (List.replicate N 0) 0 ⟨[], 0, 0⟩ _ _ (by omega) (by omega) (by omega) (fun _ _ _ => zeros_get N _) (by omega) (by omega) (by omega) (by omega) ⟨by simp [go_sem, restI_all, hls, hNi, di1, h11, hXl, di2, F6, di3, hXl, bestD], by simp [restI_all, hls, hNi, di1, h11, hXl, di2, F6, di3], by simp [restI_all, hls, hNi, di1, h11, hXl, di2, F6, di3], by simp [restI_all, hls, hNi, di1, h11, hXl, di2, F6, di3], by simp, zeros_dig N⟩ (fun H2 hF2 hfr2 hn2 => ?_)
            rw [List.drop_zero, hBe] at hF2
            have kf := hF2.bf
            have ke := hF2.be
            have kc := hF2.bc
            have kq := hF2.bq
            have kr := hfr2 r (by omega) (by omega) (by omega)
            have ko := hfr2 o (by omega) (by omega) (by omega)
            simp only [restI_all, hls, hNi, di1, h11, hXl, di2, F6, di3] at kr ko
            have fr4 := And.intro (frs (show r < H2.next by omega)) (And.intro (frs (show o < H2.next by omega)) (And.intro (frs (show f < H2.next by omega)) (And.intro (frs (show ee < H2.next by omega)) (And.intro (frs (show c < H2.next by omega)) (frs (show q < H2.next by omega))))))
            try simp [go_sem, seval, restI_all, hls, hNi, di1, h11, hXl, di2, F6, di3, kf, ke, kc, kq, kr, ko, fr4]
            refine condQ_mk (fun h26 => ?_) (fun h26 => ?_)
            · try simp [go_sem] at h26
              have hr0 : (bestS ls N m).removed = [] := by
                rcases hSB with ⟨h, _⟩ | ⟨_, _, _, h, _⟩
                · rw [h]
                · omega
              rw [stagesF_stop (k := k) (m := m) (.inr hr0)] at hF
              have hne : restI m ≠ [] := by intro h; rw [h] at h11; simp at h11
              try simp [go_sem, seval, restI_all, hls, hNi, di1, h11, hXl, di2, F6, di3, kf, ke, kc, kq, kr, ko, fr4]
              exact hQ _ _ (by first | (left; (simp [go_sem, restI_all, hls, hNi, di1, h11, hXl, di2, F6, di3, kf, ke, kc, kq, kr, ko, fr4, stV, rstV, h2, hstg, hF, hne]); done) | (right; (simp [go_sem, restI_all, hls, hNi, di1, h11, hXl, di2, F6, di3, kf, ke, kc, kq, kr, ko, fr4, stV, rstV, h2, hstg, hF, hne]); done))
            · try simp [go_sem] at h26
              obtain ⟨hBw, hBS, hBd, hBp, hBs⟩ : B.w ≠ [] ∧ bestS ls N m = ⟨B.w, lowL ls m B.w⟩ ∧ B.d = (lowL ls m B.w).length ∧ 0 < B.d ∧ B.s = B.w.sum := by
                rcases hSB with ⟨_, h⟩ | h
                · exact absurd h h26
                · exact h
              have hBi : BestIn (restX ls m) N B := by
                rcases hBo with ⟨h, _⟩ | h
                · exact absurd h hBw
                · exact h
              have hbd : bestD B = .list (B.w.map cI) := if_neg hBw
              rw [hbd] at kf
              have hrem : (bestS ls N m).removed = lowL ls m B.w := by rw [hBS]
              have hr0 : (bestS ls N m).removed ≠ [] := by rw [hrem]; intro h; rw [h] at hBd; simp at hBd; omega
              have hon := lowL_on (ls := ls) (m := m) hml B.w
              have hoff := cntM_off _ _ hon.1 hon.2
              rw [← hrem] at hoff
              have hrp : 0 < (bestS ls N m).removed.length := List.length_pos_iff.2 hr0
              obtain ⟨k2, hk2⟩ : ∃ k2, k = k2 + 1 := ⟨k - 1, by omega⟩
              rw [hk2, stagesF_step (k := k2) (m := m) (by omega) hr0] at hF
              try simp [go_sem, seval, restI_all, hls, hNi, di1, h11, hXl, di2, F6, di3, kf, ke, kc, kq, kr, ko, fr4]
              repeat (first | intro _ | (refine ⟨obs, ?_⟩))
              obtain ⟨I8, hI8⟩ : ∃ I8 : Nat → Env → AHeap → Prop, ∀ (j : Nat) (e : Env) (H : AHeap), I8 j e H ↔ (∃ a : Nat, ∃ b : Nat, ∃ A : List Nat, ∃ E : List Nat, (e 2 = .adr t.c) ∧ (e 1 = .list (rs.map Rule.c)) ∧ (e 7 = .list (ls.map cL)) ∧ (e 9 = .own r (restI m).length) ∧ (e 11 = .own o out.length) ∧ (e 13 = .ptr f 1 0 0) ∧ (e 17 = .own a A.length) ∧ (e 18 = .own b E.length) ∧ (e 103 = .own r (restI m).length) ∧ (e 104 = dI (restI m).length) ∧ (e 105 = dI j) ∧ (H.get f = some ⟨169, 7, [[.own ee (restX ls m).length, .own c (touchM N ls m).length, .own q N, dI 0, .list (B.w.map cI), dI B.s, dI B.d]], false⟩) ∧ (f < H.next) ∧ (H.get a = some ⟨3, 1, (A.map fun (b : Nat) => (b : Int)).map cI, false⟩) ∧ (a < H.next) ∧ (H.get b = some ⟨3, 1, (E.map fun (b : Nat) => (b : Int)).map cI, false⟩) ∧ (b < H.next) ∧ (H.get r = some ⟨3, 1, ((restI m).map fun (b : Nat) => (b : Int)).map cI, false⟩) ∧ (r < H.next) ∧ (H.get o = some ⟨33, 2, out.map Stage.c, false⟩) ∧ (o < H.next) ∧ (j ≤ (restI m).length) ∧ (A.length ≤ j ∧ E.length ≤ j) ∧ (A = ((restI m).take j).filter (fun i => decide (prodF B.w (ls[i]?.getD []) < 0))) ∧ (E = ((restI m).take j).filter (fun i => !decide (prodF B.w (ls[i]?.getD []) < 0))) ∧ (r < f ∧ o < f ∧ f < a ∧ a < b)) := ⟨fun j e H => _, fun _ _ _ => Iff.rfl⟩
              refine loopK I8 (fun j => (restI m).length - j) (0) ((hI8 _ _ _).2 ⟨(H2.next), (H2.next + 1), ([]), ([]), ?_, ?_, ?_, ?_, ?_, ?_, ?_, ?_, ?_, ?_, ?_, ?_, ?_, ?_, ?_, ?_, ?_, ?_, ?_, ?_, ?_, (by first | assumption | omega | (simp [go_sem, restI_all, hls, hNi, di1, h11, hXl, di2, F6, di3, kf, ke, kc, kq, kr, ko, fr4]; done) | (simp_all; done)), (by simp), (by rfl), (by rfl), (by omega)⟩) ?_
              iterate 21 (first | omega | (simp [go_sem, seval, restI_all, hls, hNi, di1, h11, hXl, di2, F6, di3, kf, ke, kc, kq, kr, ko, fr4] <;> omega))
              intro j e H hi8
              obtain ⟨a, b, A, E, q2_8, q1_8, q7_8, q9_8, q11_8, q13_8, q17_8, q18_8, q103_8, q104_8, q105_8, gf_8, nf_8, ga_8, na_8, gb_8, nb_8, gr_8, nr_8, go_8, no_8, hj, hAE, hA, hEE, ho8⟩ := (hI8 _ _ _).1 hi8
              have xf := frs nf_8
              have xa := frs na_8
              have xb := frs nb_8
              have xr := frs nr_8
              have xo := frs no_8
              have F8 := And.intro q2_8 (And.intro q1_8 (And.intro q7_8 (And.intro q9_8 (And.intro q11_8 (And.intro q13_8 (And.intro q17_8 (And.intro q18_8 (And.intro q103_8 (And.intro q104_8 (And.intro q105_8 (And.intro gf_8 (And.intro ga_8 (And.intro gb_8 (And.intro gr_8 (And.intro go_8 (And.intro xf (And.intro xa (And.intro xr xo))))))))))))))))))
              have di5 := And.intro (nep (show b ≠ a by omega)) (And.intro (nep (show b ≠ f by omega)) (And.intro (nep (show b ≠ o by omega)) (And.intro (nep (show b ≠ r by omega)) (And.intro (nep (show a ≠ f by omega)) (And.intro (nep (show a ≠ o by omega)) (And.intro (nep (show a ≠ r by omega)) (And.intro (nep (show f ≠ o by omega)) (And.intro (nep (show f ≠ r by omega)) (nep (show o ≠ r by omega))))))))))
              try simp [go_sem, seval, restI_all, hls, hNi, di1, h11, hXl, di2, di3, kf, ke, kc, kq, kr, ko, fr4, F8, xb, di5]
              refine condQ_mk (fun h30 => ?_) (fun h30 => ?_)
              · try simp [go_sem] at h30
                have hri := hrlt j h30
                try simp [go_sem, seval, restI_all, hls, hNi, di1, h11, hXl, di2, di3, kf, ke, kc, kq, kr, ko, fr4, F8, xb, di5, h30, hri, List.getElem?_eq_getElem hri]
                repeat (first | intro _ | (refine ⟨obs, ?_⟩))
                refine dcallQ_pureF ((counting_product B.w ls[(restI m)[j]] ⟨by rw [hxl _ (List.getElem_mem _), hBi.len]; exact Nat.le_refl _, by rw [hBi.len]; omega, fun y hy => by have := hBi.dig y hy; omega, hxb _ (List.getElem_mem _)⟩)) (by simp [rsvC, rsvP, cellsAt, go_sem, ← List.map_take, ← List.map_drop, restI_all, hls, hNi, di1, h11, hXl, di2, di3, kf, ke, kc, kq, kr, ko, fr4, F8, xb, di5, h30, hri, List.getElem?_eq_getElem hri]) ((by first | rfl | (simp [go_sem, ← List.map_take, ← List.map_drop, restI_all, hls, hNi, di1, h11, hXl, di2, di3, kf, ke, kc, kq, kr, ko, fr4, F8, xb, di5, h30, hri, List.getElem?_eq_getElem hri]; done))) ( rfl) rfl (by simp [go_sem, restI_all, hls, hNi, di1, h11, hXl, di2, di3, kf, ke, kc, kq, kr, ko, fr4, F8, xb, di5, h30, hri, List.getElem?_eq_getElem hri]) ?_
                try simp [go_sem, seval, restI_all, hls, hNi, di1, h11, hXl, di2, di3, kf, ke, kc, kq, kr, ko, fr4, F8, xb, di5, h30, hri, List.getElem?_eq_getElem hri]
                repeat (first | intro _ | (refine ⟨obs, ?_⟩))
                refine condQ_mk (fun h32 => ?_) (fun h32 => ?_)
                · try simp [go_sem] at h32
                  try simp [go_sem, seval, restI_all, hls, hNi, di1, h11, hXl, di2, di3, kf, ke, kc, kq, kr, ko, fr4, F8, xb, di5, h30, hri, List.getElem?_eq_getElem hri, h32]
                  repeat (first | intro _ | (refine ⟨obs, ?_⟩))
                  refine nextQ_mk (j + 1) (by omega) ((hI8 _ _ _).2 ⟨(a), (b), (A ++ (if decide (prodF B.w (ls[(restI m)[j]]?.getD []) < 0) = true then [(restI m)[j]] else [])), (E ++ (if (!decide (prodF B.w (ls[(restI m)[j]]?.getD []) < 0)) = true then [(restI m)[j]] else [])), ?_, ?_, ?_, ?_, ?_, ?_, ?_, ?_, ?_, ?_, ?_, ?_, ?_, ?_, ?_, ?_, ?_, ?_, ?_, ?_, ?_, (by first | assumption | omega | (simp [go_sem, restI_all, hls, hNi, di1, h11, hXl, di2, di3, kf, ke, kc, kq, kr, ko, fr4, F8, xb, di5, h30, hri, List.getElem?_eq_getElem hri, h32, h2, h6, h15, h20, h26]; done) | (simp_all; done) | (simp_all; omega)), (by (constructor <;> (rw [List.length_append]; split <;> simp <;> omega))), (by (rw [List.take_succ_eq_append_getElem h30, List.filter_append, ← hA, filter_one])), (by (rw [List.take_succ_eq_append_getElem h30, List.filter_append, ← hEE, filter_one])), (by omega)⟩) <;> first | omega | (simp [go_sem, seval, restI_all, hls, hNi, di1, h11, hXl, di2, di3, kf, ke, kc, kq, kr, ko, fr4, F8, xb, di5, h30, hri, List.getElem?_eq_getElem hri, h32] <;> omega)
                · try simp [go_sem] at h32
                  try simp [go_sem, seval, restI_all, hls, hNi, di1, h11, hXl, di2, di3, kf, ke, kc, kq, kr, ko, fr4, F8, xb, di5, h30, hri, List.getElem?_eq_getElem hri, h32]
                  repeat (first | intro _ | (refine ⟨obs, ?_⟩))
                  refine nextQ_mk (j + 1) (by omega) ((hI8 _ _ _).2 ⟨(a), (b), (A ++ (if decide (prodF B.w (ls[(restI m)[j]]?.getD []) < 0) = true then [(restI m)[j]] else [])), (E ++ (if (!decide (prodF B.w (ls[(restI m)[j]]?.getD []) < 0)) = true then [(restI m)[j]] else [])), ?_, ?_, ?_, ?_, ?_, ?_, ?_, ?_, ?_, ?_, ?_, ?_, ?_, ?_, ?_, ?_, ?_, ?_, ?_, ?_, ?_, (by first | assumption | omega | (simp [go_sem, restI_all, hls, hNi, di1, h11, hXl, di2, di3, kf, ke, kc, kq, kr, ko, fr4, F8, xb, di5, h30, hri, List.getElem?_eq_getElem hri, h32, h2, h6, h15, h20, h26]; done) | (simp_all; done) | (simp_all; omega)), (by (constructor <;> (rw [List.length_append]; split <;> simp <;> omega))), (by (rw [List.take_succ_eq_append_getElem h30, List.filter_append, ← hA, filter_one])), (by (rw [List.take_succ_eq_append_getElem h30, List.filter_append, ← hEE, filter_one])), (by omega)⟩) <;> first | omega | (simp [go_sem, seval, restI_all, hls, hNi, di1, h11, hXl, di2, di3, kf, ke, kc, kq, kr, ko, fr4, F8, xb, di5, h30, hri, List.getElem?_eq_getElem hri, h32] <;> omega)
              · try simp [go_sem] at h30
                rw [List.take_of_length_le (by omega)] at hA hEE
                have hAl : A.map (fun (b : Nat) => (b : Int)) = lowL ls m B.w := by rw [hA, lowL_restI hml]
                have hEl : restI (offM m (lowL ls m B.w)) = E := by rw [hEE, restI_off hml]
                have hAn : (lowL ls m B.w).length = A.length := by rw [← hAl, List.length_map]
                try simp [go_sem, seval, restI_all, hls, hNi, di1, h11, hXl, di2, di3, kf, ke, kc, kq, kr, ko, fr4, F8, xb, di5, hBS, hAl, hEl, hAn, Stage.c, dLI]
                repeat (first | intro _ | (refine ⟨obs, ?_⟩))
                refine nextQ_mk (k - 1) (by omega) ((hI2 _ _ _).2 ⟨(offM m (bestS ls N m).removed), (b), (o), (out ++ [bestS ls N m]), ?_, ?_, ?_, ?_, ?_, ?_, ?_, ?_, ?_, (by omega), (by (rw [offM_len]; exact hm)), (by omega), (by (simp; omega)), (by (rw [show k - 1 = k2 by omega, hF]; simp))⟩) <;> first | omega | (simp [go_sem, seval, restI_all, hls, hNi, di1, h11, hXl, di2, di3, kf, ke, kc, kq, kr, ko, fr4, F8, xb, di5, hBS, hAl, hEl, hAn, Stage.c, dLI] <;> omega)
      · try simp [go_sem] at h11
        have hr1 : restI m = [] := by simpa using h11
        have hr2 : cntM m = 0 := cntM_restI.1 hr1
        rw [stagesF_stop (k := k) (m := m) (.inl hr2)] at hF
        try simp [go_sem, seval, restI_all, hls, hNi, F2, di1]
        exact hQ _ _ (by first | (left; (simp [go_sem, restI_all, hls, hNi, F2, di1, stV, rstV, h2, hstg, hF, hr1]); done) | (right; (simp [go_sem, restI_all, hls, hNi, F2, di1, stV, rstV, h2, hstg, hF, hr1]); done))
end Go.Abs
end
section
set_option linter.unusedVariables false
namespace Go.Abs
section
variable {P : Program} {c : Cfg} {n : Nat} {M0 : Nat → Prop} {H : AHeap} {σ : Nat → Option Ow} {w : World} {e : Env} {a : Act}
def SemQ (P : Program) (n : Nat) (x : Code) (Q : Exit → Env → AHeap → Prop) (e : Env) (H : AHeap) : Prop :=
  ∀ (M0 : Nat → Prop) (σ : Nat → Option Ow) (w : World) (a : Act), St n M0 H σ w e a → x.wp P (CameX n M0 H σ w Q) a w
theorem sem_awp {x : Code} {Q : Exit → Env → AHeap → Prop} (hm : P.follows .mixedOrders = true) (hok : codeOK c n x = true) (h : AWp P c x Q e H) : SemQ P n x Q e H :=
  fun M0 σ w a hS => awp_sound hm x Q e H h hok σ w a hS
theorem sem_seq {x y : Code} {Q : Exit → Env → AHeap → Prop} (h : SemQ P n x (thenQ (SemQ P n y Q) Q) e H) : SemQ P n (.seq x y) Q e H := fun M0 σ w a hS => by
  refine wp_seq (Code.wp_weak (h M0 σ w a hS) fun ex a' w' hc => ?_)
  cases ex <;> first | exact hc | skip
  obtain ⟨e', H', σ', hq, hS', hst, hk⟩ := hc
  exact Code.wp_weak (hq M0 σ' w' a' hS') fun ex a'' w'' hc' => Came.trans hst hk hc'
theorem aOps_then {md : Nat → Bool} {ops : Array Oper} {Q : Exit → Act → World → Prop} {l2 : List Oper} : ∀ (l : List Oper) (e : Nat → D) (H : AHeap) (K : (Nat → D) → AHeap → Prop), aOps P md ops l e H K → (∀ o ∈ l, dstOK n o.dst = true) →
    ∀ (σ : Nat → Option Ow) (w : World) (a : Act), St n M0 H σ w e a → (∀ a' w', Came n M0 H σ w K a' w' → wpList P ops Q l2 a' w') → wpList P ops Q (l ++ l2) a w
  | [], e, H, K, h, hd, σ, w, a, hS, hQ => hQ a w ⟨e, H, σ, h, hS, .refl _ _, .refl _ _ _ _⟩
  | o :: l, e, H, K, h, hd, σ, w, a, hS, hQ => by
    unfold aOps at h
    have hs := aStep_sound (Q := Q) h hS (fun hn => Nat.lt_irrefl _ (hS.rel.nxt _ hn)) (hd o (by simp))
    have := StepC.mono (K' := wpList P ops Q (l ++ l2)) (fun a' w' ⟨v, H', F, σ', hk, hS', hst, hkp⟩ =>
      aOps_then l _ _ _ hk (fun o' ho' => hd o' (by simp [ho'])) σ' w' a' hS' fun a'' w'' hc => hQ a'' w'' (hc.trans hst hkp)) hs
    unfold StepC at this
    rw [List.cons_append]
    unfold wpList
    exact this
theorem one_sem {ops : Array Oper} {Q : Exit → Act → World → Prop} {o : Oper} {d : D} {H' : AHeap} {K : (Nat → D) → AHeap → Prop} (hg : o.guard = none) (hS : St n M0 H σ w e a) (hop : OpN P (execOp a.eval o) M0 H σ w d H')
    (hd : dstOK n o.dst = true) (hK : K (upd e o.dst d) H') (hQ : ∀ a' w', Came n M0 H σ w K a' w' → Q .normal a' w') : wpList P ops Q [o] a w := by
  obtain ⟨v, w', σ', h2, h3, h4, h5, h6⟩ := hop
  refine wpList_plain hg fun K' hK' => ?_
  have hc : Came n M0 H σ w K (a.put o.dst v) w' := ⟨_, _, σ', hK, hS.put h3 h6 hd h4, h5, h6⟩
  unfold Oper.wp
  rcases h2 with h2 | ⟨h2, rfl⟩
  · rw [h2, Oper.upon_value]; exact hK' _ _ (wpList_nil (hQ _ _ hc))
  · rw [h2, Oper.upon_skip]; exact hK' _ _ (wpList_nil (hQ _ _ hc))
theorem slice_own_sound {t : TypeId} {v vl : Value} {id m : Nat} {k : Blk} {kd : IntKind} {l : Int} {s : SlI} (hR : Rel M0 H σ w) (hx : RepV (Mut M0 H σ) σ H.al w v (.own id m)) (hk : H.get id = some k) (hm : k.es.length = m)
    (hl : RepV (Mut M0 H σ) σ H.al w vl (.int kd l)) (hs : sl P t = some s) (h0 : 0 ≤ l) (h1 : l ≤ m) : OpS P (Instr.sliceAt t v (some vl) none none) M0 H σ w .junk H := by
  cases hl
  obtain ⟨hu, ti, z, hti, hz, hisz, _, hsz, _, _, hszl, _⟩ := sl_some hs
  rcases own_val hR hx hk hm with ⟨rfl, rfl⟩ | ⟨b, cap, rfl, hle, hcm, _⟩
  · have hrun := slice_run (P := P) (w := w) hu hti none 0 0 (Nat.le_refl _) (some (.int kd l)) none l 0 (.inr ⟨kd, rfl⟩) (.inl ⟨rfl, rfl⟩) h0 (by omega) (by simp)
    exact .pure hR hrun (.junk _)
  · have hrun := slice_run (P := P) (w := w) hu hti (some ⟨b, 0, none⟩) m cap hle (some (.int kd l)) none l m (.inr ⟨kd, rfl⟩) (.inl ⟨rfl, rfl⟩) h0 h1 (Int.le_refl _)
    exact .pure hR hrun (.junk _)
theorem sem_slice {rid : Nat} {l : List Oper} {d : Tmp} {t ty : TypeId} {x lo : Tmp} {p : String} {af : Array Go.Edge} {sl0 : Oper} (hsl : sl0 = { dst := some d, op := .slice t (.tmp x) (some (.tmp lo)) none none, type := ty, pos := p, after := af, guard := none }) {Q : Exit → Env → AHeap → Prop} {md : Nat → Bool} (hd : ∀ o ∈ l, dstOK n o.dst = true) (hdd : dstOK n (some d) = true) {s : SlI} (hs : sl P t = some s)
    (h : aOps P md (l ++ [sl0]).toArray l e H fun e' H' => ∃ id m k kd q, e' x = .own id m ∧ H'.get id = some k ∧ k.es.length = m ∧ e' lo = .int kd q ∧ 0 ≤ q ∧ q ≤ m ∧ Q .normal (upd e' (some d) .junk) H') :
    SemQ P n (.region rid (l ++ [sl0]).toArray false) Q e H := fun M0 σ w a hS => by
  subst hsl
  refine wp_region_list ?_
  refine aOps_then l e H _ h hd σ w a hS fun a' w' hc => ?_
  obtain ⟨e', H', σ', ⟨id, m, k, kd, q, h1, h2, h3, h4, h5, h6, hq⟩, hS', hst, hk⟩ := hc
  have hop : OpS P (Instr.sliceAt t (a'.eval (.tmp x)) (some (a'.eval (.tmp lo))) none none) M0 H' σ' w' .junk H' :=
    slice_own_sound hS'.rel (by have := hS'.envR.ev (.tmp x); rw [evD_tmp, h1] at this; exact this) h2 h3 (by have := hS'.envR.ev (.tmp lo); rw [evD_tmp, h4] at this; exact this) hs h5 h6
  exact one_sem (K := fun e H => Q .normal e H) rfl hS' hop.next hdd hq fun a'' w'' hc => Came.trans hst hk hc
theorem acalls_of_sem {f : FuncId} {fn : Func} {x : Code} {args : List D} {Q : D → AHeap → Prop} (hf : P.funcs[f]? = some fn) (hb : fn.body = some x)
    (hnm : (fn.name == "runtime.NumGoroutine") = false) (hlen : args.length ≤ fn.ntmps) (h : SemQ P fn.ntmps x (retQ P fn.results.toList Q) (envP args) H) : ACalls P f args H Q := by
  refine ⟨⟨fn, hf, hnm, by simp [hb]⟩, fun M0 σ w vals hR ha => calls_of_wp hf hb ?_⟩
  have hS : St fn.ntmps M0 H σ w (envP args) { tmps := vals.toArray ++ Array.replicate (fn.ntmps - vals.toArray.size) undef, defers := [] } := by
    refine ⟨hR, fun t => ?_, rfl, by simp [ha.len]; omega⟩
    simp only [envP]
    by_cases ht : t < vals.length
    · have h1 : vals[t]? = some vals[t] := List.getElem?_eq_getElem ht
      have h2 : args[t]? = some (args[t]'(by rw [← ha.len]; exact ht)) := List.getElem?_eq_getElem _
      have := ha.rep t _ _ h1 h2
      rw [List.getD_eq_getElem?_getD, h2]
      simp only [Option.getD_some, Array.getD_eq_getD_getElem?]
      rw [Array.getElem?_append_left (by simpa using ht)]
      simpa [h1] using this
    · rw [List.getD_eq_getElem?_getD, List.getElem?_eq_none (by rw [← ha.len]; omega)]
      exact .junk _
  refine Code.wp_weak (h M0 σ w _ hS) fun ex a' w' hc => ?_
  obtain ⟨e', H', σ', hq, hS', hst, hk⟩ := hc
  have fin : aRes P fn.results.toList e' H' (fun l => Q (tupD l) H') → a'.defers = [] ∧ ∃ v, (results fn a'.tmps).run P w' = .ok v w' ∧
      ∃ v2 d H2 σ2, Ending.returned v = .returned v2 ∧ Rel M0 H2 σ2 w' ∧ RepV (Mut M0 H2 σ2) σ2 H2.al w' v2 d ∧ Stp σ w σ2 w' ∧ Keeps (Mut M0 H σ) σ H.al w (Mut M0 H2 σ2) σ2 H2.al w' ∧ Q d H2 := by
    intro hq
    obtain ⟨vs, l, h1, h2, h3⟩ := aRes_sound hS' _ _ hq
    obtain ⟨v, hv1, hv2⟩ := results_run (fn := fn) h1 h2
    exact ⟨hS'.defers, v, hv1, v, _, H', σ', rfl, hS'.rel, hv2, hst, hk, h3⟩
  cases ex <;> first | exact fin hq | exact hq.elim
end
end Go.Abs
end
