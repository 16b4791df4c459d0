/- Layer 41: stages, comparing and copying them; ref41.Rank. · Layer 41, the reference: Light. · The abstraction layer: nil read as the empty list, at every depth. · Layer 41: copies of stages; small functions of the laws. · Layer 41, the reference: the next weights. · What the best of the finder is. · The weights that the finder tries, in order. · The odometer runs through the weights that the finder tries. · The rest, as a list and under a mask. · One draw of the reference's stage against the finder's. · The standard stages, as plain functions. · ref41.lowered at borrowed weights. · Layer 41, the reference: stage and stages. · Layer 41, the reference: stages. -/
import Derived.Test.YtjhccdolbhjmaaaGreatZdAA
import Derived.Test.YtjhccdolbhjmaaaGreatZdAQ
import Derived.Test.YtjhccdolbhjmaaaGreatZdAE
section
set_option linter.unusedVariables false
set_option linter.unusedSimpArgs false
set_option maxRecDepth 8000
open Go Go.Proofs
namespace Go.Abs
theorem equal_int (a b : List Int) : Pure Tryz.prog 20 [dLI a, dLI b] (.bool (decide (a = b))) := by
  refine pureK (by first | rfl | (simp [go_sem]; done)) (fun Q hQ => (acalls_of_body (cfg := ⟨fun _ => false, fun _ => []⟩) Tz.mixed Tryz.func20 rfl rfl (Nat.le_of_ble_eq_true rfl) (by kernel_rfl) ?_))
  try simp [go_sem, seval]
  repeat (first | intro _ | (refine ⟨obl, ?_⟩))
  refine condQ_mk (fun h1 => ?_) (fun h1 => ?_)
  · try simp [go_sem] at h1
    try simp [go_sem, seval]
    have hne : a ≠ b := by intro h; subst h; omega
    exact hQ _ _ (by first | (left; (simp [go_sem, hne]); done) | (right; (simp [go_sem, hne]); done))
  · try simp [go_sem] at h1
    try simp [go_sem, seval]
    repeat (first | intro _ | (refine ⟨obl, ?_⟩))
    obtain ⟨I0, hI0⟩ : ∃ I0 : Nat → Env → AHeap → Prop, ∀ (i : Nat) (e : Env) (H : AHeap), I0 i e H ↔ ((e 0 = dLI a) ∧ (e 1 = dLI b) ∧ (e 12 = dI a.length) ∧ (e 13 = dI i) ∧ (i ≤ a.length) ∧ (a.take i = b.take i)) := ⟨fun i e H => _, fun _ _ _ => Iff.rfl⟩
    refine loopK I0 (fun i => a.length - i) (0) ((hI0 _ _ _).2 ⟨?_, ?_, ?_, ?_, (by first | assumption | omega | (simp [go_sem]; done) | (simp_all; done)), (by rfl)⟩) ?_
    iterate 4 (first | omega | (simp [go_sem, seval] <;> omega))
    intro i e H hi0
    obtain ⟨q0_0, q1_0, q12_0, q13_0, hi, he⟩ := (hI0 _ _ _).1 hi0
    have F0 := And.intro q0_0 (And.intro q1_0 (And.intro q12_0 q13_0))
    try simp [go_sem, seval, F0]
    refine condQ_mk (fun h4 => ?_) (fun h4 => ?_)
    · try simp [go_sem] at h4
      have hib : i < b.length := by omega
      try simp [go_sem, seval, F0, h4, hib]
      repeat (first | intro _ | (refine ⟨obl, ?_⟩))
      refine condQ_mk (fun h6 => ?_) (fun h6 => ?_)
      · try simp [go_sem] at h6
        try simp [go_sem, seval, F0, h4, hib]
        have hne : a ≠ b := by intro h; subst h; exact h6 rfl
        exact hQ _ _ (by first | (left; (simp [go_sem, hne]); done) | (right; (simp [go_sem, hne]); done))
      · try simp [go_sem] at h6
        try simp [go_sem, seval, F0, h4, hib]
        repeat (first | intro _ | (refine ⟨obl, ?_⟩))
        refine nextQ_mk (i + 1) (by omega) ((hI0 _ _ _).2 ⟨?_, ?_, ?_, ?_, (by first | assumption | omega | (simp [go_sem, F0, h4, hib, h1, h6]; done) | (simp_all; done) | (simp_all; omega)), (by (rw [List.take_succ_eq_append_getElem h4, List.take_succ_eq_append_getElem hib, he, h6]))⟩) <;> first | omega | (simp [go_sem, seval, F0, h4, hib] <;> omega)
    · try simp [go_sem] at h4
      rw [List.take_of_length_le (by omega), List.take_of_length_le (by omega)] at he
      try simp [go_sem, seval, F0]
      exact hQ _ _ (by first | (left; (simp [go_sem, he]); done) | (right; (simp [go_sem, he]); done))
deriving instance DecidableEq for Stage
theorem ref41_SameStages (a b : List Stage) : Pure Tryz.prog 27 [.list (a.map Stage.c), .list (b.map Stage.c)] (.bool (decide (a = b))) := by
  refine pureK (by first | rfl | (simp [go_sem]; done)) (fun Q hQ => (acalls_of_body (cfg := ⟨fun _ => false, fun _ => []⟩) Tz.mixed Tryz.func27 rfl rfl (Nat.le_of_ble_eq_true rfl) (by kernel_rfl) ?_))
  try simp [go_sem, seval]
  repeat (first | intro _ | (refine ⟨obl, ?_⟩))
  refine condQ_mk (fun h1 => ?_) (fun h1 => ?_)
  · try simp [go_sem] at h1
    try simp [go_sem, seval]
    have hne : a ≠ b := by intro h; subst h; omega
    exact hQ _ _ (by first | (left; (simp [go_sem, hne]); done) | (right; (simp [go_sem, hne]); done))
  · try simp [go_sem] at h1
    try simp [go_sem, seval]
    obtain ⟨I0, hI0⟩ : ∃ I0 : Nat → Env → AHeap → Prop, ∀ (i : Nat) (e : Env) (H : AHeap), I0 i e H ↔ ((e 0 = .list (a.map Stage.c)) ∧ (e 1 = .list (b.map Stage.c)) ∧ (e 5 = dI i) ∧ (i ≤ a.length) ∧ (a.take i = b.take i)) := ⟨fun i e H => _, fun _ _ _ => Iff.rfl⟩
    refine loopK I0 (fun i => a.length - i) (0) ((hI0 _ _ _).2 ⟨?_, ?_, ?_, (by first | assumption | omega | (simp [go_sem]; done) | (simp_all; done)), (by rfl)⟩) ?_
    iterate 3 (first | omega | (simp [go_sem, seval] <;> omega))
    intro i e H hi0
    obtain ⟨q0_0, q1_0, q5_0, hi, he⟩ := (hI0 _ _ _).1 hi0
    have F0 := And.intro q0_0 (And.intro q1_0 q5_0)
    try simp [go_sem, seval, F0]
    repeat (first | intro _ | (refine ⟨obl, ?_⟩))
    refine condQ_mk (fun h4 => ?_) (fun h4 => ?_)
    · try simp [go_sem] at h4
      have hib : i < b.length := by omega
      have hS2 := ref05_SameInts a[i].removed b[i].removed
      try simp [go_sem, seval, F0, h4, hib]
      repeat (first | intro _ | (refine ⟨obl, ?_⟩))
      refine dcallQ_pure0 (ref05_SameInts a[i].weights b[i].weights) ((by first | rfl | (simp [go_sem, ← List.map_take, ← List.map_drop, F0, h4, hib]; done))) ?_
      try simp [go_sem, seval, F0, h4, hib]
      repeat (first | intro _ | (refine ⟨obl, ?_⟩))
      refine dgcallQ_pure0 (fun hg => hS2) (fun hg => (by first | rfl | (simp [go_sem, ← List.map_take, ← List.map_drop, F0, h4, hib]; done))) ?_
      try simp [go_sem, seval, F0, h4, hib]
      repeat (first | intro _ | (refine ⟨obl, ?_⟩))
      refine condQ_mk (fun h6 => ?_) (fun h6 => ?_)
      · try simp [go_sem] at h6
        have hne : a ≠ b := by intro h; subst h; simp at h6
        try simp [go_sem, seval, F0, h4, hib]
        exact hQ _ _ (by first | (left; (simp [go_sem, hne]); done) | (right; (simp [go_sem, hne]); done))
      · try simp [go_sem] at h6
        have hEq : a[i] = b[i] := by
          have h6' : a[i].weights = b[i].weights ∧ a[i].removed = b[i].removed := by simpa using h6
          cases ha : a[i]; cases hb : b[i]; rw [ha, hb] at h6'; simp at h6'; rw [h6'.1, h6'.2]
        try simp [go_sem, seval, F0, h4, hib]
        repeat (first | intro _ | (refine ⟨obl, ?_⟩))
        refine nextQ_mk (i + 1) (by omega) ((hI0 _ _ _).2 ⟨?_, ?_, ?_, (by first | assumption | omega | (simp [go_sem, F0, h4, hib, h1, h6]; done) | (simp_all; done) | (simp_all; omega)), (by (rw [List.take_succ_eq_append_getElem h4, List.take_succ_eq_append_getElem hib, he, hEq]))⟩) <;> first | omega | (simp [go_sem, seval, F0, h4, hib] <;> omega)
    · try simp [go_sem] at h4
      rw [List.take_of_length_le (by omega), List.take_of_length_le (by omega)] at he
      try simp [go_sem, seval, F0]
      exact hQ _ _ (by first | (left; (simp [go_sem, he]); done) | (right; (simp [go_sem, he]); done))
def rankE (t : Types) (st : List Stage) (g : Graph) : Int :=
  if typed18 t g ≠ 0 then typed18 t g else if 6 < st.length then 3 else listE (fun s => weightE t s.weights g) st
def rankF (t : Types) (st : List Stage) (g : Graph) : List Int := if rankE t st g = 0 then st.map fun s => weightF t s.weights g else []
theorem ref41_Rank (t : Types) (ht : t.ok) (st : List Stage) (g : Graph) : Pure Tryz.prog 19 [t.d, .list (st.map Stage.c), g.d] (.tup [dLI (rankF t st g), dI (rankE t st g)]) := by
  refine pureK (by first | rfl | (simp [go_sem]; done)) (fun Q hQ => (acalls_of_body (cfg := ⟨fun t => t == 9, fun _ => []⟩) Tz.mixed Tryz.func19 rfl rfl (Nat.le_of_ble_eq_true rfl) (by kernel_rfl) ?_))
  try simp [go_sem, seval]
  refine callQ_pure0 (ref18_Typed t ht g) ((by first | rfl | (simp [go_sem, ← List.map_take, ← List.map_drop]; done))) ?_
  try simp [go_sem, seval]
  refine condQ_mk (fun h2 => ?_) (fun h2 => ?_)
  · try simp [go_sem] at h2
    try simp [go_sem, seval]
    have hE : rankE t st g = typed18 t g := if_pos h2
    exact hQ _ _ (by first | (left; (simp [go_sem, rankF, hE, h2]); done) | (right; (simp [go_sem, rankF, hE, h2]); done))
  · try simp [go_sem] at h2
    try simp [go_sem, seval]
    repeat (first | intro _ | (refine ⟨obl, ?_⟩))
    refine condQ_mk (fun h4 => ?_) (fun h4 => ?_)
    · try simp [go_sem] at h4
      have hE : rankE t st g = 3 := by unfold rankE; rw [if_neg (by omega), if_pos (by omega)]
      try simp [go_sem, seval]
      exact hQ _ _ (by first | (left; (simp [go_sem, rankF, hE]); done) | (right; (simp [go_sem, rankF, hE]); done))
    · try simp [go_sem] at h4
      have hE : rankE t st g = listE (fun s => weightE t s.weights g) st := by unfold rankE; rw [if_neg (by omega), if_neg (by omega)]
      try simp [go_sem, seval]
      obtain ⟨I0, hI0⟩ : ∃ I0 : Nat → Env → AHeap → Prop, ∀ (i : Nat) (e : Env) (H : AHeap), I0 i e H ↔ (∃ xs : List Int, (e 3 = .adr t.c) ∧ (e 1 = .list (st.map Stage.c)) ∧ (e 5 = .adr g.c) ∧ (e 9 = .own 0 xs.length) ∧ (e 10 = dI i) ∧ (H.get 0 = some ⟨3, 1, xs.map cI, false⟩) ∧ (0 < H.next) ∧ (i ≤ st.length) ∧ (xs = (st.take i).map (fun s => weightF t s.weights g)) ∧ (listE (fun s => weightE t s.weights g) (st.drop i) = rankE t st g)) := ⟨fun i e H => _, fun _ _ _ => Iff.rfl⟩
      refine loopK I0 (fun i => st.length - i) (0) ((hI0 _ _ _).2 ⟨([]), ?_, ?_, ?_, ?_, ?_, ?_, ?_, (by first | assumption | omega | (simp [go_sem]; done) | (simp_all; done)), (by rfl), (by (exact hE.symm))⟩) ?_
      iterate 7 (first | omega | (simp [go_sem, seval] <;> omega))
      intro i e H hi0
      obtain ⟨xs, q3_0, q1_0, q5_0, q9_0, q10_0, g0_0, n0_0, hi, hx, hL⟩ := (hI0 _ _ _).1 hi0
      have x0 := frs n0_0
      have F0 := And.intro q3_0 (And.intro q1_0 (And.intro q5_0 (And.intro q9_0 (And.intro q10_0 (And.intro g0_0 x0)))))
      try simp [go_sem, seval, F0]
      repeat (first | intro _ | (refine ⟨obl, ?_⟩))
      refine condQ_mk (fun h8 => ?_) (fun h8 => ?_)
      · try simp [go_sem] at h8
        have hst := hL
        rw [listE_step _ h8] at hst
        have hxl : xs.length = i := by rw [hx]; simp; omega
        try simp [go_sem, seval, F0, h8]
        repeat (first | intro _ | (refine ⟨obl, ?_⟩))
        refine dcallQ_pure0 (ref39_Of t ht st[i].weights g) ((by first | rfl | (simp [go_sem, ← List.map_take, ← List.map_drop, F0, h8]; done))) ?_
        try simp [go_sem, seval, F0, h8]
        repeat (first | intro _ | (refine ⟨obl, ?_⟩))
        refine condQ_mk (fun h11 => ?_) (fun h11 => ?_)
        · try simp [go_sem] at h11
          rw [if_pos (by omega)] at hst
          have hF : rankF t st g = [] := if_neg (by omega)
          try simp [go_sem, seval, F0, h8]
          exact hQ _ _ (by first | (left; (simp [go_sem, hF, ← hst]); done) | (right; (simp [go_sem, hF, ← hst]); done))
        · try simp [go_sem] at h11
          rw [if_neg (by omega)] at hst
          try simp [go_sem, seval, F0, h8]
          repeat (first | intro _ | (refine ⟨obl, ?_⟩))
          refine nextQ_mk (i + 1) (by omega) ((hI0 _ _ _).2 ⟨(xs ++ [weightF t st[i].weights g]), ?_, ?_, ?_, ?_, ?_, ?_, ?_, (by first | assumption | omega | (simp [go_sem, F0, h8, h2, h4, h11]; done) | (simp_all; done) | (simp_all; omega)), (by (rw [map_take_succ _ h8, ← hx])), (by exact hst)⟩) <;> first | omega | (simp [go_sem, seval, F0, h8] <;> omega)
      · try simp [go_sem] at h8
        have hL0 : rankE t st g = 0 := by rw [← hL, listE_end _ (by omega)]
        have hX : xs = rankF t st g := by unfold rankF; rw [if_pos hL0, hx, map_take_end _ (by omega)]
        try simp [go_sem, seval, F0]
        exact hQ _ _ (by first | (left; (simp [go_sem, F0, hL0, ← hX]); done) | (right; (simp [go_sem, F0, hL0, ← hX]); done))
theorem indexFunc_stage (xs : List Stage) (g : FuncId) (caps : List D) (p : Stage → Bool) (hc : D.clL caps = true) (hg : ∀ x ∈ xs, Pure Tryz.prog g (.agg x.c :: caps) (.bool (p x))) :
    Pure Tryz.prog 37 [.list (xs.map Stage.c), .fn g caps] (dI (idxF xs p)) := by
  refine pure_of_calls (acalls_of_body (cfg := ⟨fun _ => false, fun _ => []⟩) Tz.mixed Tryz.func37 rfl rfl (Nat.le_of_ble_eq_true rfl) (by kernel_rfl) ?_)
  simp [go_sem, seval, dI, dLI]
  intro hlen
  refine loop_rule (ι := Nat) (fun i e H => H = .emp ∧ i ≤ xs.length ∧ e 0 = .list (xs.map Stage.c) ∧ e 1 = .fn g caps ∧ e 7 = dI xs.length ∧ e 8 = dI i ∧ (∀ j x, j < i → xs[j]? = some x → p x = false)) (fun i => xs.length - i) 0 (by simp [go_sem, seval, dI, dLI]) ?_
  intro i e H ⟨hH, hi, h0, h1, h7, h8, hn⟩
  subst hH
  simp [go_sem, seval, h0, h1, h7, h8, dI, dLI]
  refine condQ_dec (fun hlt => ?_) (fun hge => ?_)
  · have hgx := hg xs[i] (List.getElem_mem hlt)
    simp [go_sem, seval, h0, h1, h7, h8, dI, dLI, hlt, Stage.c] at hgx ⊢
    refine callQ_pure0 hgx (by simp [go_sem, hc]) ?_
    simp [go_sem, seval, h0, h1, h7, h8, dI, dLI]
    refine condQ_mk (fun h => ?_) (fun h => ?_)
    · simp [go_sem, seval, h0, h1, h7, h8, dI, dLI]
      rw [idxF_some hn hlt h]
    · simp [go_sem, seval, h0, h1, h7, h8, dI, dLI]
      refine ⟨inR_i64 (by omega) (by omega), i + 1, by omega, by omega, by omega, fun j x hj hx => ?_⟩
      rcases Nat.lt_or_ge j i with hj' | hj'
      · exact hn j x hj' hx
      · have : j = i := by omega
        subst this
        rw [List.getElem?_eq_getElem hlt] at hx
        cases hx; exact h
  · simp [go_sem, seval, h0, h1, h7, h8, dI, dLI]
    rw [idxF_none fun j x hj => hn j x (by omega)]
theorem containsFunc_stage (xs : List Stage) (g : FuncId) (caps : List D) (p : Stage → Bool) (hc : D.clL caps = true) (hl : D.cl (.list (xs.map Stage.c)) = true) (hg : ∀ x ∈ xs, Pure Tryz.prog g (.agg x.c :: caps) (.bool (p x))) :
    Pure Tryz.prog 11 [.list (xs.map Stage.c), .fn g caps] (.bool (xs.any p)) := by
  refine pure_of_calls (acalls_of_body (cfg := ⟨fun _ => false, fun _ => []⟩) Tz.mixed Tryz.func11 rfl rfl (Nat.le_of_ble_eq_true rfl) (by kernel_rfl) ?_)
  simp [go_sem, seval]
  refine callQ_pure0 (indexFunc_stage xs g caps p hc hg) (by simp only [D.clL, hl, Bool.true_and]; simp [D.cl, hc]) ?_
  simp [go_sem, seval, dI, idxF_any]
end Go.Abs
end
section
set_option linter.unusedVariables false
set_option linter.unusedSimpArgs false
set_option maxRecDepth 8000
open Go Go.Proofs
namespace Go.Abs
theorem fewR_ok {r : Rule} (h : fewR r = true) : r.ok := by
  simp only [fewR, Bool.and_eq_true, decide_eq_true_eq] at h
  obtain ⟨⟨⟨⟨⟨h1, h2⟩, h3⟩, h4⟩, h5⟩, h6⟩ := h
  simp [fewPart] at h4 h5
  simp [fewC] at h6
  have h7 := leftC_ok r.cond 40 (by omega) h6
  exact ⟨by omega, by omega, by omega, by omega, by omega, h7.1, by omega⟩
theorem fewRs_ok {rs : List Rule} (h : fewRs rs = true) : rs.length ≤ 8 ∧ ∀ r ∈ rs, r.ok := by
  simp [fewRs] at h
  exact ⟨by omega, fun r hr => fewR_ok (h.2 r hr)⟩
def stepM (n i : Nat) : List Bool := List.replicate i true ++ List.replicate (n - i) false
theorem stepM_len {n i : Nat} (h : i ≤ n) : (stepM n i).length = n := by simp [stepM]; omega
theorem stepM_set {n i : Nat} (h : i < n) : (stepM n i).set i true = stepM n (i + 1) := by
  unfold stepM
  rw [List.set_append_right _ _ (by simp)]
  simp only [List.length_replicate, Nat.sub_self]
  obtain ⟨m, hm⟩ : ∃ m, n - i = m + 1 := ⟨n - i - 1, by omega⟩
  rw [hm, show n - (i + 1) = m by omega, List.replicate_succ, List.set_cons_zero, List.replicate_succ' , List.append_assoc]; rfl
theorem stepM_end (n : Nat) : stepM n n = List.replicate n true := by simp [stepM]
theorem stepM_zero (n : Nat) : stepM n 0 = List.replicate n false := by simp [stepM]
def lightB (t : Types) (rs : List Rule) : Bool :=
  if (fewT t && fewRs rs) = false then false
  else if effsE t rs ≠ 0 then true
  else decide (((touchM (t.nodes.length + t.edges.length) (effsV t rs) (List.replicate rs.length true)).length : Int) ≤ 4)
theorem ref41_Light (t : Types) (h1 : ∀ n ∈ t.nodes, n.attrs.length ≤ 1000000000000000) (rs : List Rule) (hr0 : ∀ r ∈ rs, r.le) : Pure Tryz.prog 10 [t.d, .list (rs.map Rule.c)] (.bool (lightB t rs)) := by
  refine pureK (by first | rfl | (simp [go_sem]; done)) (fun Q hQ => (acalls_of_body (cfg := ⟨fun _ => false, fun _ => []⟩) Tz.mixed Tryz.func10 rfl rfl (Nat.le_of_ble_eq_true rfl) (by kernel_rfl) ?_))
  try simp [go_sem, seval]
  repeat (first | intro _ | (refine ⟨obl, ?_⟩))
  refine callQ_pure0 (ref04_Few t h1) ((by first | rfl | (simp [go_sem, ← List.map_take, ← List.map_drop]; done))) ?_
  try simp [go_sem, seval]
  repeat (first | intro _ | (refine ⟨obl, ?_⟩))
  refine gcallQ_pure0 (fun hg => ref39_Few rs hr0) (fun hg => (by first | rfl | (simp [go_sem, ← List.map_take, ← List.map_drop]; done))) ?_
  try simp [go_sem, seval]
  repeat (first | intro _ | (refine ⟨obl, ?_⟩))
  refine condQ_mk (fun h1 => ?_) (fun h1 => ?_)
  · try simp [go_sem] at h1
    have hF : (fewT t && fewRs rs) = false := by cases h : fewT t <;> cases h' : fewRs rs <;> simp [h, h'] at h1 <;> rfl
    try simp [go_sem, seval]
    exact hQ _ _ (by first | (left; (simp [go_sem, lightB, hF]); done) | (right; (simp [go_sem, lightB, hF]); done))
  · try simp [go_sem] at h1
    have hF : fewT t = true ∧ fewRs rs = true := by cases h : fewT t <;> cases h' : fewRs rs <;> simp [h, h'] at h1 <;> exact ⟨rfl, rfl⟩
    have ht := fewT_ok hF.1
    have hR := fewRs_ok hF.2
    have hr := hR.2
    try simp [go_sem, seval]
    refine callQ_pure0 (ref39_Effects t ht rs hr) ((by first | rfl | (simp [go_sem, ← List.map_take, ← List.map_drop]; done))) ?_
    try simp [go_sem, seval]
    refine condQ_mk (fun h4 => ?_) (fun h4 => ?_)
    · try simp [go_sem] at h4
      try simp [go_sem, seval]
      exact hQ _ _ (by first | (left; (simp [go_sem, lightB, hF.1, hF.2, h4]); done) | (right; (simp [go_sem, lightB, hF.1, hF.2, h4]); done))
    · try simp [go_sem] at h4
      have hX := FX_of h4
      have hV : effsV t rs = rs.map (effV t) := if_pos h4
      have hv := valid_of (effsE_of h4).1
      have hN := hv.fewN
      have hE := hv.fewE
      try simp [go_sem, seval]
      repeat (first | intro _ | (refine ⟨obl, ?_⟩))
      obtain ⟨I0, hI0⟩ : ∃ I0 : Nat → Env → AHeap → Prop, ∀ (i : Nat) (e : Env) (H : AHeap), I0 i e H ↔ ((e 2 = .adr t.c) ∧ (e 1 = .list (rs.map Rule.c)) ∧ (e 5 = .list ((effsV t rs).map cL)) ∧ (e 7 = .own 0 rs.length) ∧ (e 8 = dI i) ∧ (H.get 0 = some ⟨4, 1, (stepM rs.length i).map cB, false⟩) ∧ (0 < H.next) ∧ (i ≤ rs.length) ∧ ((stepM rs.length i).length = rs.length)) := ⟨fun i e H => _, fun _ _ _ => Iff.rfl⟩
      refine loopK I0 (fun i => rs.length - i) (0) ((hI0 _ _ _).2 ⟨?_, ?_, ?_, ?_, ?_, (by (simp [go_sem, stepM_zero])), ?_, (by first | assumption | omega | (simp [go_sem]; done) | (simp_all; done)), (by (exact stepM_len (Nat.zero_le _)))⟩) ?_
      iterate 6 (first | omega | (simp [go_sem, seval] <;> omega))
      intro i e H hi0
      obtain ⟨q2_0, q1_0, q5_0, q7_0, q8_0, g0_0, n0_0, hi, hsl⟩ := (hI0 _ _ _).1 hi0
      have x0 := frs n0_0
      have F0 := And.intro q2_0 (And.intro q1_0 (And.intro q5_0 (And.intro q7_0 (And.intro q8_0 x0))))
      try simp [go_sem, seval, F0, g0_0, hsl]
      repeat (first | intro _ | (refine ⟨obl, ?_⟩))
      refine condQ_mk (fun h8 => ?_) (fun h8 => ?_)
      · try simp [go_sem] at h8
        have hk : i < (stepM rs.length i).length := by rw [stepM_len (by omega)]; exact h8
        try simp [go_sem, seval, F0, g0_0, hsl, h8, List.getElem?_eq_getElem hk, h8]
        repeat (first | intro _ | (refine ⟨obl, ?_⟩))
        refine nextQ_mk (i + 1) (by omega) ((hI0 _ _ _).2 ⟨?_, ?_, ?_, ?_, ?_, (by (simp [go_sem, F0, g0_0, hsl, h8, List.getElem?_eq_getElem hk, h8, ← stepM_set h8, List.map_set])), ?_, (by first | assumption | omega | (simp [go_sem, F0, g0_0, hsl, h8, List.getElem?_eq_getElem hk, h8, h1, h4]; done) | (simp_all; done) | (simp_all; omega)), (by (exact stepM_len (by omega)))⟩) <;> first | omega | (simp [go_sem, seval, F0, g0_0, hsl, h8, List.getElem?_eq_getElem hk, h8] <;> omega)
      · try simp [go_sem] at h8
        have hie : i = rs.length := by omega
        subst hie
        rw [stepM_end] at g0_0
        have hcl : D.clLL (List.replicate rs.length [D.bool true]) = true := by have := bools_cl (List.replicate rs.length true); simpa [cB] using this
        try simp [go_sem, seval, F0, g0_0, hsl, hcl]
        repeat (first | intro _ | (refine ⟨obl, ?_⟩))
        refine callQ_pure0 (ref41_kinds t (by omega) (by omega)) ((by first | rfl | (simp [go_sem, ← List.map_take, ← List.map_drop, F0, g0_0, hsl, hcl]; done))) ?_
        try simp [go_sem, seval, F0, g0_0, hsl, hcl]
        repeat (first | intro _ | (refine ⟨obl, ?_⟩))
        refine callQ_pureZ (ref41_touched (t.nodes.length + t.edges.length) (by omega) (effsV t rs) (List.replicate rs.length true) (by rw [List.length_replicate, hV, List.length_map]) hX.xl) (by (simp [go_sem, F0, g0_0, hsl, hcl]) <;> rfl) ((by first | rfl | (simp [go_sem, ← List.map_take, ← List.map_drop, F0, g0_0, hsl, hcl]; done))) (by (simp [go_sem, F0, g0_0, hsl, hcl]) <;> rfl) ?_
        try simp [go_sem, seval, F0, g0_0, hsl, hcl]
        repeat (first | intro _ | (refine ⟨obl, ?_⟩))
        exact hQ _ _ (by first | (left; (simp [go_sem, lightB, hF.1, hF.2, h4]); done) | (right; (simp [go_sem, lightB, hF.1, hF.2, h4]); done))
end Go.Abs
end
section
set_option linter.unusedVariables false
namespace Go.Abs
mutual
def nzA : D → D
  | .nil => .list []
  | .agg cs => .agg (nzAs cs)
  | .tup cs => .tup (nzAs cs)
  | .list es => .list (nzAss es)
  | d => d
def nzAs : List D → List D
  | [] => []
  | d :: l => nzA d :: nzAs l
def nzAss : List (List D) → List (List D)
  | [] => []
  | c :: l => nzAs c :: nzAss l
end
theorem nzAs_map (l : List D) : nzAs l = l.map nzA := by
  induction l with
  | nil => rfl
  | cons a l ih => simp [nzAs, ih]
theorem nzAss_map (l : List (List D)) : nzAss l = l.map nzAs := by
  induction l with
  | nil => rfl
  | cons a l ih => simp [nzAss, ih]
theorem nzAss_flat (l : List (List D)) : (nzAss l).flatten = l.flatten.map nzA := by
  induction l with
  | nil => rfl
  | cons a l ih => simp only [nzAss, List.flatten_cons, ih, List.map_append, nzAs_map]
theorem nzA_rep {M : Nat → Prop} {σ : Nat → Option Ow} {N : Nat → Prop} {w : World} {v : Value} {d : D} (h : RepV M σ N w v d) : RepV M σ N w v (nzA d) := by
  have hm : ∀ {vs : List Value} {ds : List D}, (∀ (j : Nat) (u : Value) (d : D), vs[j]? = some u → ds[j]? = some d → RepV M σ N w u (nzA d)) →
      ∀ (j : Nat) (u : Value) (d : D), vs[j]? = some u → (ds.map nzA)[j]? = some d → RepV M σ N w u d := by
    intro vs ds ih j u d hu hd
    rw [List.getElem?_map, Option.map_eq_some_iff] at hd
    obtain ⟨y, hy, rfl⟩ := hd
    exact ih j u y hu hy
  induction h with
  | int => simp only [nzA]; exact .int _ _
  | bool => simp only [nzA]; exact .bool _
  | str => simp only [nzA]; exact .str _
  | agg vs ds hl h1 _ ih =>
    simp only [nzA, nzAs_map]
    exact .agg vs _ (by simp [hl]) h1 (hm ih)
  | tup vs ds hl _ ih =>
    simp only [nzA, nzAs_map]
    exact .tup vs _ (by simp [hl]) (hm ih)
  | nil => simp only [nzA]; exact .listN
  | listN => simp only [nzA, nzAss]; exact .listN
  | list ad cap sz xs es hc hm' hsz hl h1 hcell _ ih =>
    simp only [nzA]
    have hlen : (nzAss es).length = es.length := by rw [nzAss_map, List.length_map]
    have := RepV.list (M := M) (σ := σ) (N := N) (w := w) ad cap sz xs (nzAss es) (by rw [hlen]; exact hc) hm' (fun c hc' => by
      rw [nzAss_map, List.mem_map] at hc'
      obtain ⟨y, hy, rfl⟩ := hc'
      rw [nzAs_map, List.length_map]; exact hsz y hy) (by rw [nzAss_flat, List.length_map]; exact hl) h1 hcell (by rw [nzAss_flat]; exact hm ih)
    rwa [hlen] at this
  | adr ad xs ds hl h1 hcell hr ih => simp only [nzA]; exact .adr ad xs ds hl h1 hcell hr
  | ne ad cap hm => simp only [nzA]; exact .ne ad cap hm
  | nilp => simp only [nzA]; exact .nilp
  | ptr v id ver i off hN h1 h => simp only [nzA]; exact .ptr v id ver i off hN h1 h
  | own v id n hN h1 h => simp only [nzA]; exact .own v id n hN h1 h
  | fn f vs ds hl hr ih => simp only [nzA]; exact .fn f vs ds hl hr
  | nilf => simp only [nzA]; exact .nilf
  | opt v g d hf h ih => simp only [nzA]; exact .opt v g d hf h
  | junk v => simp only [nzA]; exact .junk v
theorem pureKA {P : Program} {f : FuncId} {args : List D} {r : D} (hcl : r.cl = true) (h : ∀ Q : D → AHeap → Prop, (∀ d H', nzA (rsvT H' d) = r → Q d H') → ACalls P f args .emp Q) : Pure P f args r := by
  have h := h (fun d H' => nzA (rsvT H' d) = r) fun _ _ h => h
  refine ⟨h.1, fun M w vals hM ha => (h.2 M noRef w vals (rel_emp M w hM) (by rw [mut_emp]; exact ha)).mono fun e w' ⟨v, d, H', σ', he, hR, hv, hst, hk, hr⟩ => ⟨v, he, ?_, stp_below hst⟩⟩
  have h1 : RepV (Mut M (frzs (ownT d) H') σ') σ' (frzs (ownT d) H').al w' v r := by
    have h0 := nzA_rep (rsvT_frozen hR hv (ownT d) fun i hi => hi)
    rw [hr] at h0; exact h0
  exact h1.closed (fun ad u hm hc => ⟨fun h => hm (.inl h), hc⟩) hcl
attribute [go_sem] nzA nzAs nzAss
end Go.Abs
end
section
set_option linter.unusedVariables false
set_option linter.unusedSimpArgs false
set_option maxRecDepth 8000
open Go Go.Proofs
namespace Go.Abs
theorem clone_stage0 : Own Tryz.prog 14 [.nil] 33 2 [] := by
  refine ownK (by first | rfl | (simp [go_sem]; done)) (fun Q hQ => (acalls_of_body (cfg := ⟨fun t => t == 2 || t == 5, fun _ => []⟩) Tz.mixed Tryz.func14 rfl rfl (Nat.le_of_ble_eq_true rfl) (by kernel_rfl) ?_))
  try simp [go_sem, seval]
  exact hQ _ _ _ (by simp [go_sem] <;> first | omega | (rw [Bool.eq_iff_iff]; simp <;> omega) | (simp_all <;> omega)) (by simp [go_sem] <;> first | omega | (rw [Bool.eq_iff_iff]; simp <;> omega) | (simp_all <;> omega))
theorem clone_stageE : Own Tryz.prog 14 [.ne] 33 2 [] := by
  refine ownK (by first | rfl | (simp [go_sem]; done)) (fun Q hQ => (acalls_of_body (cfg := ⟨fun t => t == 2 || t == 5, fun _ => []⟩) Tz.mixed Tryz.func14 rfl rfl (Nat.le_of_ble_eq_true rfl) (by kernel_rfl) ?_))
  try simp [go_sem, seval]
  repeat (first | intro _ | (refine ⟨obl, ?_⟩))
  exact hQ _ _ _ (by simp [go_sem] <;> first | omega | (rw [Bool.eq_iff_iff]; simp <;> omega) | (simp_all <;> omega)) (by simp [go_sem] <;> first | omega | (rw [Bool.eq_iff_iff]; simp <;> omega) | (simp_all <;> omega))
theorem clone_stageC (l : List Stage) (hl : l.length ≤ 1000000) (hne : l ≠ []) : Own Tryz.prog 14 [.list (l.map Stage.c)] 33 2 (l.map Stage.c) := by
  refine ownK (by first | rfl | (simp [go_sem]; done)) (fun Q hQ => (acalls_of_body (cfg := ⟨fun t => t == 2 || t == 5, fun _ => []⟩) Tz.mixed Tryz.func14 rfl rfl (Nat.le_of_ble_eq_true rfl) (by kernel_rfl) ?_))
  try simp [go_sem, seval, hne]
  repeat (first | intro _ | (refine ⟨obl, ?_⟩))
  exact hQ _ _ _ (by simp [go_sem, hne] <;> first | omega | (rw [Bool.eq_iff_iff]; simp <;> omega) | (simp_all <;> omega)) (by simp [go_sem, hne] <;> first | omega | (rw [Bool.eq_iff_iff]; simp <;> omega) | (simp_all <;> omega))
theorem clone_stage (l : List Stage) (hl : l.length ≤ 1000000) : Own Tryz.prog 14 [.list (l.map Stage.c)] 33 2 (l.map Stage.c) := by
  by_cases hne : l = []
  · subst hne; exact own_split clone_stage0 clone_stageE
  · exact clone_stageC l hl hne
def bigB (s : Stage) : Bool := decide (50 < (s.weights.length : Int)) || decide (50 < (s.removed.length : Int))
theorem law41_Check1 (s : Stage) : Pure Tryz.prog 12 [.agg s.c] (.bool (bigB s)) := by
  refine pureK (by first | rfl | (simp [go_sem]; done)) (fun Q hQ => (acalls_of_body (cfg := ⟨fun _ => false, fun _ => []⟩) Tz.mixed Tryz.func12 rfl rfl (Nat.le_of_ble_eq_true rfl) (by kernel_rfl) ?_))
  try simp [go_sem, seval]
  repeat (first | intro _ | (refine ⟨obl, ?_⟩))
  exact hQ _ _ (by simp [go_sem, bigB] <;> first | omega | (rw [Bool.eq_iff_iff]; simp <;> omega) | (simp_all <;> omega))
theorem law41_Rank1 (s : Stage) : Pure Tryz.prog 17 [.agg s.c] (.bool (bigB s)) := by
  refine pureK (by first | rfl | (simp [go_sem]; done)) (fun Q hQ => (acalls_of_body (cfg := ⟨fun _ => false, fun _ => []⟩) Tz.mixed Tryz.func17 rfl rfl (Nat.le_of_ble_eq_true rfl) (by kernel_rfl) ?_))
  try simp [go_sem, seval]
  repeat (first | intro _ | (refine ⟨obl, ?_⟩))
  exact hQ _ _ (by simp [go_sem, bigB] <;> first | omega | (rw [Bool.eq_iff_iff]; simp <;> omega) | (simp_all <;> omega))
def twoT : Types := ⟨[⟨⟨#[65]⟩, -1, false, []⟩, ⟨⟨#[66]⟩, -1, false, []⟩], []⟩
theorem law41_two : Pure Tryz.prog 31 [] twoT.d := by
  refine pureKA (by simp [go_sem, twoT]) (fun Q hQ => (acalls_of_body (cfg := ⟨fun t => t == 0, fun _ => []⟩) Tz.mixed Tryz.func31 rfl rfl (Nat.le_of_ble_eq_true rfl) (by kernel_rfl) ?_))
  simp [go_sem, seval]
  exact hQ _ _ (by simp [go_sem, twoT])
def splitR : Rule := ⟨⟨#[115, 112, 108, 105, 116]⟩, ⟨⟨[0], []⟩, [], 0, []⟩, ⟨⟨[1, 1], []⟩, [], 0, []⟩, ⟨[], []⟩, ⟨[], []⟩, false, .mk 1 [] ⟨[], []⟩ ⟨⟨[], []⟩, [], 0, []⟩⟩
def dropR : Rule := ⟨⟨#[100, 114, 111, 112]⟩, ⟨⟨[1], []⟩, [], 0, []⟩, ⟨⟨[], []⟩, [], 0, []⟩, ⟨[], []⟩, ⟨[], []⟩, false, .mk 1 [] ⟨[], []⟩ ⟨⟨[], []⟩, [], 0, []⟩⟩
theorem law41_rules : Pure Tryz.prog 32 [] (.list ([splitR, dropR].map Rule.c)) := by
  refine pureKA (by simp [go_sem]) (fun Q hQ => (acalls_of_body (cfg := ⟨fun t => t == 1, fun _ => []⟩) Tz.mixed Tryz.func32 rfl rfl (Nat.le_of_ble_eq_true rfl) (by kernel_rfl) ?_))
  simp [go_sem, seval]
  exact hQ _ _ (by simp [go_sem, splitR, dropR, Cond.kind, Cond.kids, Cond.map, Cond.pattern])
end Go.Abs
end
section
set_option linter.unusedVariables false
set_option linter.unusedSimpArgs false
set_option maxRecDepth 8000
open Go Go.Proofs
namespace Go.Abs
theorem counting_stages1 (l : List Int) (k : Nat) (hk : k < l.length) : Pure Tryz.prog 90 [dLI l, .adr [dI k]] (.bool (decide (l[k]?.getD 0 ≠ 0))) := by
  refine pureK (by first | rfl | (simp [go_sem]; done)) (fun Q hQ => (acalls_of_body (cfg := ⟨fun _ => false, fun _ => []⟩) Tz.mixed Tryz.func90 rfl rfl (Nat.le_of_ble_eq_true rfl) (by kernel_rfl) ?_))
  try simp [go_sem, seval, List.getElem?_eq_getElem hk, hk]
  repeat (first | intro _ | (refine ⟨obl, ?_⟩))
  exact hQ _ _ (by simp [go_sem, List.getElem?_eq_getElem hk, hk] <;> first | omega | (rw [Bool.eq_iff_iff]; simp <;> omega) | (simp_all <;> omega))
theorem counting_Check1 (a : Int) : Pure Tryz.prog 40 [dI a] (.bool (oddB a)) := by
  refine pureK (by first | rfl | (simp [go_sem]; done)) (fun Q hQ => (acalls_of_body (cfg := ⟨fun _ => false, fun _ => []⟩) Tz.mixed Tryz.func40 rfl rfl (Nat.le_of_ble_eq_true rfl) (by kernel_rfl) ?_))
  try simp [go_sem, seval]
  repeat (first | intro _ | (refine ⟨obl, ?_⟩))
  exact hQ _ _ (by simp [go_sem, oddB] <;> first | omega | (rw [Bool.eq_iff_iff]; simp <;> omega) | (simp_all <;> omega))
end Go.Abs
end
section
set_option linter.unusedVariables false
set_option linter.unusedSimpArgs false
open Go Go.Proofs
namespace Go.Abs
structure BestIn (xs : List (List Int)) (nn : Nat) (B : Bst) : Prop where
  pos : posB xs B.w = false
  cnt : B.d = cntN xs B.w
  len : B.w.length = nn
  dig : ∀ x ∈ B.w, 0 ≤ x ∧ x ≤ 6
def BestOk (xs : List (List Int)) (nn : Nat) (B : Bst) : Prop := (B.w = [] ∧ B.d = 0) ∨ BestIn xs nn B
theorem leafBst_ok {xs : List (List Int)} {nn : Nat} {w : List Int} {s : Int} {B : Bst} (hw : w.length = nn) (hd : ∀ x ∈ w, 0 ≤ x ∧ x ≤ 6) (h : BestOk xs nn B) : BestOk xs nn (leafBst xs w s B) := by
  unfold leafBst
  split
  · exact h
  · rename_i hp
    split
    · exact .inr ⟨by simpa using hp, rfl, hw, hd⟩
    · exact h
theorem foldl_inv {α β : Type} {p : β → Prop} {f : β → α → β} {q : α → Prop} (hf : ∀ b a, p b → q a → p (f b a)) : ∀ (l : List α) (b : β), (∀ a ∈ l, q a) → p b → p (l.foldl f b)
  | [], b, _, h => h
  | a :: l, b, hq, h => foldl_inv hf l _ (fun x hx => hq x (by simp [hx])) (hf b a h (hq a (by simp)))
theorem tryB_ok {xs : List (List Int)} {nn : Nat} : ∀ (ts : List Int) (w : List Int) (s : Int) (B : Bst), w.length = nn → (∀ x ∈ w, 0 ≤ x ∧ x ≤ 6) → BestOk xs nn B → BestOk xs nn (tryB xs ts w s B)
  | [], w, s, B, hw, hd, h => by unfold tryB; exact leafBst_ok hw hd h
  | p :: ts, w, s, B, hw, hd, h => by
    unfold tryB
    refine foldl_inv (q := fun (v : Nat) => v < 7) (fun b v hb hv => ?_) _ _ (fun a ha => List.mem_range.1 ha) h
    exact tryB_ok ts _ _ _ (by rw [List.length_set]; exact hw) (mem_set_dig hd _ (by omega)) hb
end Go.Abs
end
section
set_option linter.unusedVariables false
set_option linter.unusedSimpArgs false
open Go Go.Proofs
namespace Go.Abs
def enumL : List Int → List Int → List (List Int)
  | [], w => [w]
  | p :: ts, w => (List.range 7).flatMap fun (v : Nat) => enumL ts (w.set p.toNat v)
theorem sum_set : ∀ {w : List Int} {p : Nat} (v : Int), p < w.length → w[p]?.getD 0 = 0 → (w.set p v).sum = w.sum + v
  | [], p, v, hp, _ => by simp at hp
  | a :: w, 0, v, _, h => by simp at h; subst h; simp; omega
  | a :: w, p + 1, v, hp, h => by
    simp only [List.set_cons_succ, List.sum_cons]
    rw [sum_set v (by simpa using hp) (by simpa using h)]
    omega
theorem foldl_congr_mem {α β : Type} {f g : β → α → β} : ∀ (l : List α) (b : β), (∀ b, ∀ a ∈ l, f b a = g b a) → l.foldl f b = l.foldl g b
  | [], b, _ => rfl
  | a :: l, b, h => by
    simp only [List.foldl_cons]
    rw [h b a (by simp)]
    exact foldl_congr_mem l _ fun b x hx => h b x (by simp [hx])
theorem tryB_enum {xs : List (List Int)} : ∀ (ts : List Int) (w : List Int) (B : Bst), (∀ p ∈ ts, 0 ≤ p ∧ p < w.length) → ts.Nodup → (∀ p ∈ ts, w[p.toNat]?.getD 0 = 0) →
    tryB xs ts w w.sum B = (enumL ts w).foldl (fun B u => leafBst xs u u.sum B) B
  | [], w, B, _, _, _ => by simp [tryB, enumL]
  | p :: ts, w, B, hp, hnd, hz => by
    unfold tryB enumL
    rw [List.foldl_flatMap]
    have h0 := hp p (by simp)
    have hn := List.nodup_cons.1 hnd
    refine foldl_congr_mem _ _ fun b v _ => ?_
    rw [← sum_set (v : Int) (by omega) (hz p (by simp))]
    refine tryB_enum ts _ b (fun q hq => by rw [List.length_set]; exact hp q (by simp [hq])) hn.2 fun q hq => ?_
    have hq0 := hp q (by simp [hq])
    have hne : p.toNat ≠ q.toNat := by
      intro h
      have : p = q := by omega
      exact hn.1 (this ▸ hq)
    rw [List.getElem?_set_ne hne]
    exact hz q (by simp [hq])
end Go.Abs
end
section
set_option linter.unusedVariables false
set_option linter.unusedSimpArgs false
open Go Go.Proofs
namespace Go.Abs
end Go.Abs
end
section
set_option linter.unusedVariables false
set_option linter.unusedSimpArgs false
open Go Go.Proofs
namespace Go.Abs
theorem posB_rest (ls : List (List Int)) (mask : List Bool) (w : List Int) : posB (restX ls mask) w = !okM ls mask w := by
  unfold posB restX okM
  rw [List.any_map, List.any_filter, Bool.not_not]
  rfl
theorem cntN_rest (ls : List (List Int)) (mask : List Bool) (w : List Int) : cntN (restX ls mask) w = ((lowL ls mask w).length : Int) := by
  unfold cntN restX lowL
  rw [List.length_map]
  generalize List.range ls.length = l
  induction l with
  | nil => rfl
  | cons i l ih =>
    by_cases hm : mask[i]?.getD false = true
    · by_cases hp : prodF w (ls[i]?.getD []) < 0
      · have hl : lowM ls mask w i = true := by simp [lowM, hm, hp]
        rw [List.filter_cons_of_pos (p := fun i => mask[i]?.getD false) hm, List.filter_cons_of_pos hl]
        simp only [List.map_cons, List.sum_cons, List.length_cons]
        rw [ih, if_pos hp]; omega
      · have hl : ¬ lowM ls mask w i = true := by simp [lowM, hm, hp]
        rw [List.filter_cons_of_pos (p := fun i => mask[i]?.getD false) hm, List.filter_cons_of_neg hl]
        simp only [List.map_cons, List.sum_cons]
        rw [ih, if_neg hp]; omega
    · have hl : ¬ lowM ls mask w i = true := by simp [lowM, hm]
      rw [List.filter_cons_of_neg (p := fun i => mask[i]?.getD false) hm, List.filter_cons_of_neg hl, ih]
end Go.Abs
end
section
set_option linter.unusedVariables false
set_option linter.unusedSimpArgs false
open Go Go.Proofs
namespace Go.Abs
def betterS (ls : List (List Int)) (mask : List Bool) (w : List Int) (S : Stage) : Bool :=
  okM ls mask w && (decide ((S.removed.length : Int) < (lowL ls mask w).length) || (decide (0 < ((lowL ls mask w).length : Int)) && decide (((lowL ls mask w).length : Int) = S.removed.length) && decide (w.sum < S.weights.sum)))
def leafS (ls : List (List Int)) (mask : List Bool) (S : Stage) (w : List Int) : Stage := if betterS ls mask w S = true then ⟨w, lowL ls mask w⟩ else S
def SB (ls : List (List Int)) (mask : List Bool) (S : Stage) (B : Bst) : Prop :=
  (S = ⟨[], []⟩ ∧ B.d = 0) ∨ (B.w ≠ [] ∧ S = ⟨B.w, lowL ls mask B.w⟩ ∧ B.d = (lowL ls mask B.w).length ∧ 0 < B.d ∧ B.s = B.w.sum)
theorem leaf_SB {ls : List (List Int)} {mask : List Bool} {S : Stage} {B : Bst} {w : List Int} (hw : w ≠ []) (h : SB ls mask S B) : SB ls mask (leafS ls mask S w) (leafBst (restX ls mask) w w.sum B) := by
  unfold leafS leafBst betterS
  rw [posB_rest, cntN_rest]
  generalize hL : lowL ls mask w = L
  cases hok : okM ls mask w with
  | false => simpa using h
  | true =>
    simp only [Bool.not_true, Bool.false_eq_true, if_false, Bool.true_and]
    rcases h with ⟨h1, h2⟩ | ⟨h0, h1, h2, h3, h4⟩
    · subst h1
      by_cases hz : 0 < (L.length : Int)
      · rw [if_pos (by simp only [Bool.or_eq_true, Bool.and_eq_true, decide_eq_true_eq, List.length_nil]; omega), if_pos (by simp only [Bool.or_eq_true, Bool.and_eq_true, decide_eq_true_eq]; exact .inl (.inr (by omega)))]
        exact .inr ⟨hw, by simp [hL], by simp [hL], hz, rfl⟩
      · rw [if_neg (by simp only [Bool.or_eq_true, Bool.and_eq_true, decide_eq_true_eq, List.length_nil]; omega)]
        split
        · exact .inl ⟨rfl, by show (L.length : Int) = 0; omega⟩
        · exact .inl ⟨rfl, h2⟩
    · subst h1
      by_cases hc : B.d < (L.length : Int) ∨ ((L.length : Int) = B.d ∧ w.sum < B.s)
      · rw [if_pos (by simp only [Bool.or_eq_true, Bool.and_eq_true, decide_eq_true_eq]; rw [← h2, ← h4]; omega), if_pos (by simp only [Bool.or_eq_true, Bool.and_eq_true, decide_eq_true_eq]; omega)]
        exact .inr ⟨hw, by simp [hL], by simp [hL], by simp; omega, rfl⟩
      · rw [if_neg (by simp only [Bool.or_eq_true, Bool.and_eq_true, decide_eq_true_eq]; rw [← h2, ← h4]; omega), if_neg (by simp only [Bool.or_eq_true, Bool.and_eq_true, decide_eq_true_eq]; rintro ((h | h) | h); exact h0 h; omega; omega)]
        exact .inr ⟨h0, rfl, h2, h3, h4⟩
end Go.Abs
end
section
set_option linter.unusedVariables false
set_option linter.unusedSimpArgs false
open Go Go.Proofs
namespace Go.Abs
def bestS (ls : List (List Int)) (n : Nat) (m : List Bool) : Stage := (enumL (touchM n ls m) (List.replicate n 0)).foldl (leafS ls m) ⟨[], []⟩
def offM : List Bool → List Int → List Bool
  | m, [] => m
  | m, r :: l => offM (m.set r.toNat false) l
def cntM (m : List Bool) : Nat := m.count true
def stagesF (ls : List (List Int)) (n : Nat) : Nat → List Bool → List Stage × List Bool
  | 0, m => ([], m)
  | k + 1, m => if cntM m = 0 then ([], m) else if (bestS ls n m).removed = [] then ([], m) else
    (bestS ls n m :: (stagesF ls n k (offM m (bestS ls n m).removed)).1, (stagesF ls n k (offM m (bestS ls n m).removed)).2)
theorem offM_len : ∀ (l : List Int) (m : List Bool), (offM m l).length = m.length
  | [], m => rfl
  | r :: l, m => by unfold offM; rw [offM_len l]; simp
theorem offM_get : ∀ (l : List Int) (m : List Bool) (i : Nat), (offM m l)[i]?.getD false = (m[i]?.getD false && !(l.any fun r => decide (r.toNat = i)))
  | [], m, i => by simp [offM]
  | r :: l, m, i => by
    unfold offM
    rw [offM_get l, List.any_cons]
    have h : (m.set r.toNat false)[i]?.getD false = (m[i]?.getD false && !decide (r.toNat = i)) := by
      rw [List.getElem?_set]
      by_cases h : r.toNat = i
      · simp only [h, if_true, decide_true, Bool.not_true, Bool.and_false]
        split <;> rfl
      · simp [h]
    rw [h]
    cases m[i]?.getD false <;> cases decide (r.toNat = i) <;> simp
theorem offM_append (m : List Bool) : ∀ (l : List Int) (r : Int), offM m (l ++ [r]) = (offM m l).set r.toNat false := by
  intro l
  induction l generalizing m with
  | nil => intro r; rfl
  | cons a l ih => intro r; simp only [List.cons_append, offM]; exact ih _ r
theorem cntM_set : ∀ {m : List Bool} {i : Nat}, m[i]? = some true → cntM (m.set i false) + 1 = cntM m
  | [], i, h => by simp at h
  | b :: m, 0, h => by simp at h; subst h; simp [cntM]
  | b :: m, i + 1, h => by
    have ih := cntM_set (m := m) (i := i) (by simpa using h)
    unfold cntM at ih ⊢
    simp only [List.set_cons_succ, List.count_cons]
    omega
theorem onM_set {m : List Bool} {i j : Nat} (h : m[j]? = some true) (hne : i ≠ j) : (m.set i false)[j]? = some true := by rw [List.getElem?_set_ne hne]; exact h
theorem cntM_off : ∀ (l : List Int) (m : List Bool), l.Nodup → (∀ r ∈ l, 0 ≤ r ∧ m[r.toNat]? = some true) → cntM (offM m l) + l.length = cntM m
  | [], m, _, _ => by simp [offM]
  | r :: l, m, hn, h => by
    have h0 := h r (by simp)
    have hn' := List.nodup_cons.1 hn
    unfold offM
    have hq' : ∀ q ∈ l, 0 ≤ q ∧ (m.set r.toNat false)[q.toNat]? = some true := fun q hq => by
      have hq0 := h q (by simp [hq])
      refine ⟨hq0.1, onM_set hq0.2 fun he => hn'.1 ?_⟩
      have : r = q := by omega
      rw [this]; exact hq
    have ih := cntM_off l (m.set r.toNat false) hn'.2 hq'
    have := cntM_set h0.2
    simp only [List.length_cons]
    omega
theorem rangeMap (m : List Bool) : (List.range m.length).map (fun i => m[i]?.getD false) = m := by
  apply List.ext_getElem
  · simp
  · intro i h1 h2; simp at h1; simp [h1]
theorem restI_len (m : List Bool) : (restI m).length = cntM m := by
  have h : cntM m = ((List.range m.length).map (fun i => m[i]?.getD false)).count true := by rw [rangeMap]; rfl
  rw [h, List.count_eq_countP, List.countP_map, List.countP_eq_length_filter]
  unfold restI
  congr 1
  apply List.filter_congr
  intro x _
  simp
theorem restX_restI {ls : List (List Int)} {m : List Bool} (h : m.length = ls.length) : restX ls m = (restI m).map fun i => ls[i]?.getD [] := by
  unfold restX restI; rw [h]
theorem restI_mem {m : List Bool} {i : Nat} : i ∈ restI m ↔ m[i]? = some true := by
  unfold restI
  rw [List.mem_filter, List.mem_range]
  constructor
  · rintro ⟨h1, h2⟩
    rw [List.getElem?_eq_getElem h1] at h2 ⊢
    simpa using h2
  · intro h
    obtain ⟨h1, h2⟩ := List.getElem?_eq_some_iff.1 h
    exact ⟨h1, by rw [h]; rfl⟩
theorem restI_off {ls : List (List Int)} {m : List Bool} (hm : m.length = ls.length) (w : List Int) : restI (offM m (lowL ls m w)) = (restI m).filter fun i => !decide (prodF w (ls[i]?.getD []) < 0) := by
  unfold restI
  rw [offM_len, List.filter_filter]
  apply List.filter_congr
  intro i hi
  rw [offM_get]
  rw [List.mem_range] at hi
  have hany : ((lowL ls m w).any fun r => decide (r.toNat = i)) = lowM ls m w i := by
    rw [Bool.eq_iff_iff, List.any_eq_true]
    unfold lowL
    constructor
    · rintro ⟨r, hr, he⟩
      rw [List.mem_map] at hr
      obtain ⟨j, hj, rfl⟩ := hr
      simp at he
      subst he
      exact (List.mem_filter.1 hj).2
    · intro h
      exact ⟨(i : Int), List.mem_map.2 ⟨i, List.mem_filter.2 ⟨List.mem_range.2 (by omega), h⟩, rfl⟩, by simp⟩
  rw [hany]
  unfold lowM
  cases m[i]?.getD false <;> simp
theorem lowL_restI {ls : List (List Int)} {m : List Bool} (hm : m.length = ls.length) (w : List Int) : lowL ls m w = ((restI m).filter fun i => decide (prodF w (ls[i]?.getD []) < 0)).map fun (i : Nat) => (i : Int) := by
  unfold lowL restI
  rw [List.filter_filter, hm]
  congr 1
  apply List.filter_congr
  intro i _
  unfold lowM
  cases m[i]?.getD false <;> simp
theorem lowL_on {ls : List (List Int)} {m : List Bool} (hm : m.length = ls.length) (w : List Int) : (lowL ls m w).Nodup ∧ ∀ r ∈ lowL ls m w, 0 ≤ r ∧ m[r.toNat]? = some true := by
  constructor
  · unfold lowL
    refine List.Pairwise.map _ (R := fun a b => a ≠ b) (fun a b h he => h (by omega)) ?_
    exact List.Pairwise.filter _ List.nodup_range
  · intro r hr
    rw [lowL_restI hm, List.mem_map] at hr
    obtain ⟨i, hi, rfl⟩ := hr
    refine ⟨by omega, ?_⟩
    simpa using restI_mem.1 (List.mem_filter.1 hi).1
theorem touchM_in {n : Nat} {ls : List (List Int)} {m : List Bool} : (touchM n ls m).Nodup ∧ ∀ v ∈ touchM n ls m, 0 ≤ v ∧ v < n := by
  constructor
  · unfold touchM
    refine List.Pairwise.map _ (R := fun a b => a ≠ b) (fun a b h he => h (by omega)) ?_
    exact List.Pairwise.filter _ List.nodup_range
  · intro v hv
    unfold touchM at hv
    rw [List.mem_map] at hv
    obtain ⟨i, hi, rfl⟩ := hv
    have := List.mem_range.1 (List.mem_filter.1 hi).1
    omega
theorem touchM_rest {n : Nat} {ls : List (List Int)} {m : List Bool} : touchM n ls m = touchL n (restX ls m) := by
  unfold touchM touchL
  congr 1
  apply List.filter_congr
  intro k _
  unfold restX
  rw [List.any_map, List.any_filter]
  rfl
theorem touchM_few {n : Nat} {ls : List (List Int)} {m : List Bool} : (touchM n ls m).length ≤ (touchL n ls).length := by
  unfold touchM touchL
  rw [List.length_map, List.length_map, ← List.countP_eq_length_filter, ← List.countP_eq_length_filter]
  apply List.countP_mono_left
  intro k _ h
  obtain ⟨i, hi, h1⟩ := List.any_eq_true.1 h
  have hi := List.mem_range.1 hi
  unfold hitB at h1
  rw [Bool.and_eq_true, List.getElem?_eq_getElem hi] at h1
  exact List.any_eq_true.2 ⟨ls[i], List.getElem_mem hi, by simpa using h1.2⟩
theorem enumL_dig : ∀ (ts : List Int) (w : List Int), (∀ x ∈ w, 0 ≤ x ∧ x ≤ 6) → ∀ u ∈ enumL ts w, u.length = w.length ∧ ∀ x ∈ u, 0 ≤ x ∧ x ≤ 6
  | [], w, h, u, hu => by
    have : u = w := by simpa [enumL] using hu
    subst this; exact ⟨rfl, h⟩
  | p :: ts, w, h, u, hu => by
    unfold enumL at hu
    rw [List.mem_flatMap] at hu
    obtain ⟨v, hv, hu⟩ := hu
    have hv := List.mem_range.1 hv
    have := enumL_dig ts (w.set p.toNat v) (mem_set_dig h _ (by omega)) u hu
    rw [List.length_set] at this
    exact this
theorem zeros_dig (n : Nat) : ∀ x ∈ List.replicate n (0 : Int), 0 ≤ x ∧ x ≤ 6 := fun x hx => by rw [(List.mem_replicate.1 hx).2]; decide
theorem zeros_get (n j : Nat) : (List.replicate n (0 : Int))[j]?.getD 0 = 0 := by
  rw [List.getElem?_replicate]; split <;> rfl
theorem zeros_sum (n : Nat) : (List.replicate n (0 : Int)).sum = 0 := by
  induction n with
  | zero => rfl
  | succ n ih => rw [List.replicate_succ, List.sum_cons, ih]; rfl
theorem foldl_two {α β γ : Type} {R : β → γ → Prop} {f : β → α → β} {g : γ → α → γ} {q : α → Prop} (h : ∀ b c a, q a → R b c → R (f b a) (g c a)) : ∀ (l : List α) (b : β) (c : γ), (∀ a ∈ l, q a) → R b c → R (l.foldl f b) (l.foldl g c)
  | [], _, _, _, hr => hr
  | a :: l, b, c, hq, hr => foldl_two h l _ _ (fun x hx => hq x (by simp [hx])) (h b c a (hq a (by simp)) hr)
theorem best_SB (ls : List (List Int)) (n : Nat) (hn : 0 < n) (m : List Bool) : SB ls m (bestS ls n m) (tryB (restX ls m) (touchM n ls m) (List.replicate n 0) 0 ⟨[], 0, 0⟩) := by
  have h := tryB_enum (xs := restX ls m) (touchM n ls m) (List.replicate n 0) ⟨[], 0, 0⟩ (fun p hp => by have := touchM_in.2 p hp; rw [List.length_replicate]; exact this) touchM_in.1 fun p _ => zeros_get n _
  rw [zeros_sum] at h
  rw [h]
  unfold bestS
  have key := foldl_two (R := SB ls m) (f := leafS ls m) (g := fun B u => leafBst (restX ls m) u u.sum B) (q := fun w : List Int => w.length = n) (fun S B w hw hr => leaf_SB (fun h0 => by rw [h0] at hw; simp at hw; omega) hr)
    (enumL (touchM n ls m) (List.replicate n 0)) ⟨[], []⟩ ⟨[], 0, 0⟩
  refine key (fun w hw => ?_) (.inl ⟨rfl, rfl⟩)
  have := (enumL_dig _ _ (zeros_dig n) w hw).1
  rw [List.length_replicate] at this; exact this
theorem stagesF_stop {ls : List (List Int)} {n k : Nat} {m : List Bool} (h : cntM m = 0 ∨ (bestS ls n m).removed = []) : stagesF ls n k m = ([], m) := by
  cases k with
  | zero => rfl
  | succ k =>
    unfold stagesF
    by_cases h1 : cntM m = 0
    · rw [if_pos h1]
    · rw [if_neg h1, if_pos (h.resolve_left h1)]
theorem stagesF_step {ls : List (List Int)} {n k : Nat} {m : List Bool} (h1 : cntM m ≠ 0) (h2 : (bestS ls n m).removed ≠ []) : stagesF ls n (k + 1) m =
    (bestS ls n m :: (stagesF ls n k (offM m (bestS ls n m).removed)).1, (stagesF ls n k (offM m (bestS ls n m).removed)).2) := by
  conv => lhs; unfold stagesF
  rw [if_neg h1, if_neg h2]
theorem cntM_all (n : Nat) : cntM (List.replicate n true) = n := by simp [cntM]
theorem cntM_le (m : List Bool) : cntM m ≤ m.length := List.count_le_length
end Go.Abs
end
section
set_option linter.unusedVariables false
set_option linter.unusedSimpArgs false
set_option maxRecDepth 8000
open Go Go.Proofs
namespace Go.Abs
end Go.Abs
end
section
set_option linter.unusedVariables false
set_option linter.unusedSimpArgs false
set_option maxRecDepth 8000
set_option maxHeartbeats 2000000
open Go Go.Proofs
namespace Go.Abs
end Go.Abs
end
section
set_option linter.unusedVariables false
set_option linter.unusedSimpArgs false
set_option maxRecDepth 8000
set_option maxHeartbeats 2000000
open Go Go.Proofs
namespace Go.Abs
end Go.Abs
end
