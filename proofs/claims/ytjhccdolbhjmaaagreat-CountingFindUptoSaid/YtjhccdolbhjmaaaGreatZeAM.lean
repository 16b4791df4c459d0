/- Layer 22, the reference: conditions. · Layer 24: rules. · Layer 24: rules, continued. -/
import Derived.Test.YtjhccdolbhjmaaaGreatZeAA
import Derived.Test.YtjhccdolbhjmaaaGreatZeAL
section
set_option linter.unusedVariables false
set_option linter.unusedSimpArgs false
set_option maxRecDepth 4000
open Go Go.Proofs
namespace Go.Abs
theorem ref06_Injective (a b : Graph) (m : Part) : Pure Tryz.prog 257 [a.d, b.d, m.d] (.bool (injB a b m)) := by
  refine pureK (by first | rfl | (simp [go_sem]; done)) (fun Q hQ => (acalls_of_body (cfg := ⟨fun _ => false, fun _ => []⟩) Tz.mixed Tryz.func257 rfl rfl (Nat.le_of_ble_eq_true rfl) (by kernel_rfl) ?_))
  try simp [go_sem, seval]
  repeat (first | intro _ | (refine ⟨obl, ?_⟩))
  refine callQ_pure0 (ref06_Valid a b m) ((by first | rfl | (simp [go_sem, ← List.map_take, ← List.map_drop]; done))) ?_
  try simp [go_sem, seval]
  repeat (first | intro _ | (refine ⟨obl, ?_⟩))
  refine gcallQ_pure0 (fun hg => ref06_Distinct m.nodes) (fun hg => (by first | rfl | (simp [go_sem, ← List.map_take, ← List.map_drop]; done))) ?_
  try simp [go_sem, seval]
  repeat (first | intro _ | (refine ⟨obl, ?_⟩))
  refine gcallQ_pure0 (fun hg => ref06_Distinct m.edges) (fun hg => (by first | rfl | (simp [go_sem, ← List.map_take, ← List.map_drop]; done))) ?_
  try simp [go_sem, seval]
  repeat (first | intro _ | (refine ⟨obl, ?_⟩))
  exact hQ _ _ (by first | (left; (simp [go_sem, injB, Bool.and_assoc]); done) | (right; (simp [go_sem, injB, Bool.and_assoc]); done))
theorem ref22_unused (c : Cond) (hc : c.short) : Pure Tryz.prog 314 [.agg c.c] (.bool (bareB c)) := by
  obtain ⟨h1, h2, h3, h4, h5, h6⟩ := hc
  refine pureK (by first | rfl | (simp [go_sem]; done)) (fun Q hQ => (acalls_of_body (cfg := ⟨fun _ => false, fun _ => []⟩) Tz.mixed Tryz.func314 rfl rfl (Nat.le_of_ble_eq_true rfl) (by kernel_rfl) ?_))
  try simp [go_sem, seval, Cond.c_eq]
  repeat (first | intro _ | (refine ⟨obl, ?_⟩))
  exact hQ _ _ (by first | (left; (simp [go_sem, bareB]; rw [Bool.eq_iff_iff]; simp; omega); done) | (right; (simp [go_sem, bareB]; rw [Bool.eq_iff_iff]; simp; omega); done))
theorem ref22_right (c : Cond) (hc : c.short) : Pure Tryz.prog 283 [.agg c.c] (.bool (kindB c)) := by
  have hbare : ∀ k' : Int, k' = c.kind → Pure Tryz.prog 314 [.agg [dI k', .list (c.kids.map Cond.c), dLI c.map.nodes, dLI c.map.edges, dLI c.pattern.graph.nodes, .list (c.pattern.graph.edges.map Edge.c), .list (c.pattern.slots.map Slot.c), dI c.pattern.vars, .list (c.pattern.tests.map Test.c)]] (.bool (bareB c)) := by
    intro k' hk'
    have := ref22_unused c hc
    rwa [Cond.c_eq, ← hk'] at this
  refine pureK (by first | rfl | (simp [go_sem]; done)) (fun Q hQ => (acalls_of_body (cfg := ⟨fun _ => false, fun _ => []⟩) Tz.mixed Tryz.func283 rfl rfl (Nat.le_of_ble_eq_true rfl) (by kernel_rfl) ?_))
  try simp [go_sem, seval, Cond.c_eq]
  refine condQ_mk (fun h2 => ?_) (fun h2 => ?_)
  · try simp [go_sem] at h2
    try simp [go_sem, seval, Cond.c_eq, h2]
    repeat (first | intro _ | (refine ⟨obl, ?_⟩))
    refine gcallQ_pure0 (fun hg => (hbare _ (by omega))) (fun hg => (by first | rfl | (simp [go_sem, ← List.map_take, ← List.map_drop, Cond.c_eq, h2]; done))) ?_
    try simp [go_sem, seval, Cond.c_eq, h2]
    repeat (first | intro _ | (refine ⟨obl, ?_⟩))
    exact hQ _ _ (by first | (left; (simp [go_sem, kindB, Cond.c_eq, h2]); done) | (right; (simp [go_sem, kindB, Cond.c_eq, h2]); done))
  · try simp [go_sem] at h2
    try simp [go_sem, seval, Cond.c_eq, h2]
    refine condQ_mk (fun h4 => ?_) (fun h4 => ?_)
    · try simp [go_sem] at h4
      try simp [go_sem, seval, Cond.c_eq, h2, h4]
      repeat (first | intro _ | (refine ⟨obl, ?_⟩))
      refine gcallQ_pure0 (fun hg => (hbare _ (by omega))) (fun hg => (by first | rfl | (simp [go_sem, ← List.map_take, ← List.map_drop, Cond.c_eq, h2, h4]; done))) ?_
      try simp [go_sem, seval, Cond.c_eq, h2, h4]
      repeat (first | intro _ | (refine ⟨obl, ?_⟩))
      exact hQ _ _ (by first | (left; (simp [go_sem, kindB, Cond.c_eq, h2, h4]); done) | (right; (simp [go_sem, kindB, Cond.c_eq, h2, h4]); done))
    · try simp [go_sem] at h4
      try simp [go_sem, seval, Cond.c_eq, h2, h4]
      refine condQ_mk (fun h6 => ?_) (fun h6 => ?_)
      · try simp [go_sem] at h6
        try simp [go_sem, seval, Cond.c_eq, h2, h4, h6]
        repeat (first | intro _ | (refine ⟨obl, ?_⟩))
        refine gcallQ_pure0 (fun hg => (hbare _ (by omega))) (fun hg => (by first | rfl | (simp [go_sem, ← List.map_take, ← List.map_drop, Cond.c_eq, h2, h4, h6]; done))) ?_
        try simp [go_sem, seval, Cond.c_eq, h2, h4, h6]
        repeat (first | intro _ | (refine ⟨obl, ?_⟩))
        exact hQ _ _ (by first | (left; (simp [go_sem, kindB, Cond.c_eq, h2, h4, h6]; rw [Bool.eq_iff_iff]; simp; omega); done) | (right; (simp [go_sem, kindB, Cond.c_eq, h2, h4, h6]; rw [Bool.eq_iff_iff]; simp; omega); done))
      · try simp [go_sem] at h6
        try simp [go_sem, seval, Cond.c_eq, h2, h4, h6]
        refine condQ_mk (fun h7 => ?_) (fun h7 => ?_)
        · try simp [go_sem] at h7
          try simp [go_sem, seval, Cond.c_eq, h2, h4, h6, h7]
          repeat (first | intro _ | (refine ⟨obl, ?_⟩))
          refine gcallQ_pure0 (fun hg => (hbare _ (by omega))) (fun hg => (by first | rfl | (simp [go_sem, ← List.map_take, ← List.map_drop, Cond.c_eq, h2, h4, h6, h7]; done))) ?_
          try simp [go_sem, seval, Cond.c_eq, h2, h4, h6, h7]
          repeat (first | intro _ | (refine ⟨obl, ?_⟩))
          exact hQ _ _ (by first | (left; (simp [go_sem, kindB, Cond.c_eq, h2, h4, h6, h7]; rw [Bool.eq_iff_iff]; simp; omega); done) | (right; (simp [go_sem, kindB, Cond.c_eq, h2, h4, h6, h7]; rw [Bool.eq_iff_iff]; simp; omega); done))
        · try simp [go_sem] at h7
          try simp [go_sem, seval, Cond.c_eq, h2, h4, h6, h7]
          refine condQ_mk (fun h9 => ?_) (fun h9 => ?_)
          · try simp [go_sem] at h9
            try simp [go_sem, seval, Cond.c_eq, h2, h4, h6, h7, h9]
            repeat (first | intro _ | (refine ⟨obl, ?_⟩))
            exact hQ _ _ (by first | (left; (simp [go_sem, kindB, Cond.c_eq, h2, h4, h6, h7, h9]; rw [Bool.eq_iff_iff]; simp); done) | (right; (simp [go_sem, kindB, Cond.c_eq, h2, h4, h6, h7, h9]; rw [Bool.eq_iff_iff]; simp); done))
          · try simp [go_sem] at h9
            try simp [go_sem, seval, Cond.c_eq, h2, h4, h6, h7, h9]
            exact hQ _ _ (by first | (left; (simp [go_sem, kindB, Cond.c_eq, h2, h4, h6, h7, h9]); done) | (right; (simp [go_sem, kindB, Cond.c_eq, h2, h4, h6, h7, h9]); done))
theorem ref22_allRight : ∀ c : Cond, c.ok → Pure Tryz.prog 254 [.agg c.c] (.bool (wfB c)) := by
  refine Cond.ind fun c ih hc => ?_
  obtain ⟨hs, hk⟩ := (Cond.ok_iff c).1 hc
  have hW := wfB_eq c
  refine pureK (by first | rfl | (simp [go_sem]; done)) (fun Q hQ => (acalls_of_body (cfg := ⟨fun _ => false, fun _ => []⟩) Tz.mixed Tryz.func254 rfl rfl (Nat.le_of_ble_eq_true rfl) (by kernel_rfl) ?_))
  try simp [go_sem, seval, Cond.c_eq]
  repeat (first | intro _ | (refine ⟨obl, ?_⟩))
  refine callQ_pure0 ((by have := ref22_right c hs; rwa [Cond.c_eq] at this)) ((by first | rfl | (simp [go_sem, ← List.map_take, ← List.map_drop, Cond.c_eq]; done))) ?_
  try simp [go_sem, seval, Cond.c_eq]
  repeat (first | intro _ | (refine ⟨obl, ?_⟩))
  refine condQ_mk (fun h1 => ?_) (fun h1 => ?_)
  · try simp [go_sem] at h1
    try simp [go_sem, seval, Cond.c_eq]
    exact hQ _ _ (by first | (left; (simp [go_sem, hW, h1]); done) | (right; (simp [go_sem, hW, h1]); done))
  · try simp [go_sem] at h1
    try simp [go_sem, seval, Cond.c_eq]
    obtain ⟨I0, hI0⟩ : ∃ I0 : Nat → Env → AHeap → Prop, ∀ (i : Nat) (e : Env) (H : AHeap), I0 i e H ↔ ((e 1 = .adr c.c) ∧ (e 3 = dI i) ∧ (i ≤ c.kids.length) ∧ (((c.kids.take i).any fun k => !wfB k) = false)) := ⟨fun i e H => _, fun _ _ _ => Iff.rfl⟩
    refine loopK I0 (fun i => c.kids.length - i) (0) ((hI0 _ _ _).2 ⟨?_, ?_, (by first | assumption | omega | (simp [go_sem, Cond.c_eq]; done) | (simp_all; done)), (by rfl)⟩) ?_
    iterate 2 (first | omega | (simp [go_sem, seval, Cond.c_eq] <;> omega))
    intro i e H hi0
    obtain ⟨q1_0, q3_0, hi, ha⟩ := (hI0 _ _ _).1 hi0
    have F0 := And.intro q1_0 q3_0
    try simp [go_sem, seval, Cond.c_eq, F0]
    repeat (first | intro _ | (refine ⟨obl, ?_⟩))
    refine condQ_mk (fun h4 => ?_) (fun h4 => ?_)
    · try simp [go_sem] at h4
      try simp [go_sem, seval, Cond.c_eq, F0, h4]
      repeat (first | intro _ | (refine ⟨obl, ?_⟩))
      refine callQ_pure0 ((by have := ih _ (List.getElem_mem h4) (hk _ (List.getElem_mem h4)); rwa [Cond.c_eq] at this)) ((by first | rfl | (simp [go_sem, ← List.map_take, ← List.map_drop, Cond.c_eq, F0, h4]; done))) ?_
      try simp [go_sem, seval, Cond.c_eq, F0, h4]
      repeat (first | intro _ | (refine ⟨obl, ?_⟩))
      refine condQ_mk (fun h6 => ?_) (fun h6 => ?_)
      · try simp [go_sem] at h6
        try simp [go_sem, seval, Cond.c_eq, F0, h4]
        have hb' : c.kids.all wfB = false := by rw [Bool.eq_false_iff]; intro h; rw [List.all_eq_true] at h; have := h _ (List.getElem_mem h4); rw [h6] at this; cases this
        exact hQ _ _ (by first | (left; (simp only [go_sem, hW, h1, hb', Bool.and_false]); done) | (right; (simp only [go_sem, hW, h1, hb', Bool.and_false]); done))
      · try simp [go_sem] at h6
        try simp [go_sem, seval, Cond.c_eq, F0, h4]
        repeat (first | intro _ | (refine ⟨obl, ?_⟩))
        refine nextQ_mk (i + 1) (by omega) ((hI0 _ _ _).2 ⟨?_, ?_, (by first | assumption | omega | (simp [go_sem, Cond.c_eq, F0, h4, h1, h6]; done) | (simp_all; done) | (simp_all; omega)), (by (rw [any_take_succ _ _ _ h4, ha]; simp [h6]))⟩) <;> first | omega | (simp [go_sem, seval, Cond.c_eq, F0, h4] <;> omega)
    · try simp [go_sem] at h4
      try simp [go_sem, seval, Cond.c_eq, F0]
      have hb := any_end ha h4
      have hb' : c.kids.all wfB = true := by simp at hb ⊢; exact hb
      exact hQ _ _ (by first | (left; (simp only [go_sem, hW, h1, hb', Bool.and_true]); done) | (right; (simp only [go_sem, hW, h1, hb', Bool.and_true]); done))
theorem ref22_Measure : ∀ c : Cond, c.size ≤ 1000000 → Pure Tryz.prog 255 [.agg c.c] (.tup [dI c.size, dI c.dep]) := by
  refine Cond.ind fun c ih hc => ?_
  have hse := size_eq c
  have hde := dep_eq c
  have hle := deps_le c.kids
  refine pureK (by first | rfl | (simp [go_sem]; done)) (fun Q hQ => (acalls_of_body (cfg := ⟨fun _ => false, fun _ => []⟩) Tz.mixed Tryz.func255 rfl rfl (Nat.le_of_ble_eq_true rfl) (by kernel_rfl) ?_))
  try simp [go_sem, seval, Cond.c_eq]
  obtain ⟨I0, hI0⟩ : ∃ I0 : Nat → Env → AHeap → Prop, ∀ (i : Nat) (e : Env) (H : AHeap), I0 i e H ↔ ((e 1 = .adr c.c) ∧ (e 4 = dI ((1 + Cond.sizes (c.kids.take i) : Nat) : Int)) ∧ (e 5 = dI (Cond.deps (c.kids.take i) : Nat)) ∧ (e 6 = dI i) ∧ (i ≤ c.kids.length)) := ⟨fun i e H => _, fun _ _ _ => Iff.rfl⟩
  refine loopK I0 (fun i => c.kids.length - i) (0) ((hI0 _ _ _).2 ⟨?_, ?_, ?_, ?_, (by first | assumption | omega | (simp [go_sem, Cond.c_eq]; done) | (simp_all; done))⟩) ?_
  iterate 4 (first | omega | (simp [go_sem, seval, Cond.c_eq] <;> omega))
  intro i e H hi0
  obtain ⟨q1_0, q4_0, q5_0, q6_0, hi⟩ := (hI0 _ _ _).1 hi0
  have F0 := And.intro q1_0 q6_0
  try simp [go_sem, seval, Cond.c_eq, F0, q4_0, q5_0]
  repeat (first | intro _ | (refine ⟨obl, ?_⟩))
  refine condQ_mk (fun h3 => ?_) (fun h3 => ?_)
  · try simp [go_sem] at h3
    have hsm := size_mem (List.getElem_mem h3)
    have hdm := dep_le c.kids[i]
    have hts := List.take_succ_eq_append_getElem h3
    have h1s := sizes_snoc (c.kids.take i) c.kids[i]
    have h1d := deps_snoc (c.kids.take i) c.kids[i]
    have hst := sizes_take c.kids (i + 1)
    have hS : Cond.sizes (c.kids.take (i + 1)) = Cond.sizes (c.kids.take i) + c.kids[i].size := by rw [hts, h1s]
    have hD : Cond.deps (c.kids.take (i + 1)) = max (Cond.deps (c.kids.take i)) c.kids[i].dep := by rw [hts, h1d]
    have hdt := deps_le (c.kids.take i)
    try simp [go_sem, seval, Cond.c_eq, F0, q4_0, q5_0, h3, hS, hD, maxI]
    repeat (first | intro _ | (refine ⟨obl, ?_⟩))
    refine callQ_pure0 ((by have := ih _ (List.getElem_mem h3) (by omega); rwa [Cond.c_eq] at this)) ((by first | rfl | (simp [go_sem, ← List.map_take, ← List.map_drop, Cond.c_eq, F0, q4_0, q5_0, h3, hS, hD, maxI]; done))) ?_
    try simp [go_sem, seval, Cond.c_eq, F0, q4_0, q5_0, h3, hS, hD, maxI]
    repeat (first | intro _ | (refine ⟨obl, ?_⟩))
    refine nextQ_mk (i + 1) (by omega) ((hI0 _ _ _).2 ⟨?_, ?_, ?_, ?_, (by first | assumption | omega | (simp [go_sem, Cond.c_eq, F0, q4_0, q5_0, h3, hS, hD, maxI]; done) | (simp_all; done) | (simp_all; omega))⟩) <;> first | omega | (simp [go_sem, seval, Cond.c_eq, F0, q4_0, q5_0, h3, hS, hD, maxI] <;> omega)
  · try simp [go_sem] at h3
    have hU : c.kids.take i = c.kids := List.take_of_length_le h3
    rw [hU] at q4_0 q5_0
    try simp [go_sem, seval, Cond.c_eq, F0, q4_0, q5_0]
    refine condQ_mk (fun h7 => ?_) (fun h7 => ?_)
    · try simp [go_sem] at h7
      try simp [go_sem, seval, Cond.c_eq, F0, q4_0, q5_0]
      repeat (first | intro _ | (refine ⟨obl, ?_⟩))
      exact hQ _ _ (by first | (left; (simp [go_sem, hse, hde, h7]); done) | (right; (simp [go_sem, hse, hde, h7]); done))
    · try simp [go_sem] at h7
      try simp [go_sem, seval, Cond.c_eq, F0, q4_0, q5_0]
      exact hQ _ _ (by first | (left; (simp [go_sem, hse, hde, h7]); done) | (right; (simp [go_sem, hse, hde, h7]); done))
theorem ref22_Shape (c : Cond) (hc : c.ok) (hs : c.size ≤ 1000000) : Pure Tryz.prog 207 [.agg c.c] (dI (shapeF c)) := by
  refine pureK (by first | rfl | (simp [go_sem]; done)) (fun Q hQ => (acalls_of_body (cfg := ⟨fun _ => false, fun _ => []⟩) Tz.mixed Tryz.func207 rfl rfl (Nat.le_of_ble_eq_true rfl) (by kernel_rfl) ?_))
  try simp [go_sem, seval, Cond.c_eq]
  repeat (first | intro _ | (refine ⟨obl, ?_⟩))
  refine callQ_pure0 ((by have := ref22_allRight c hc; rwa [Cond.c_eq] at this)) ((by first | rfl | (simp [go_sem, ← List.map_take, ← List.map_drop, Cond.c_eq]; done))) ?_
  try simp [go_sem, seval, Cond.c_eq]
  repeat (first | intro _ | (refine ⟨obl, ?_⟩))
  refine condQ_mk (fun h1 => ?_) (fun h1 => ?_)
  · try simp [go_sem] at h1
    try simp [go_sem, seval, Cond.c_eq]
    exact hQ _ _ (by first | (left; (simp [go_sem, shapeF, h1]); done) | (right; (simp [go_sem, shapeF, h1]); done))
  · try simp [go_sem] at h1
    try simp [go_sem, seval, Cond.c_eq]
    refine callQ_pure0 ((by have := ref22_Measure c hs; rwa [Cond.c_eq] at this)) ((by first | rfl | (simp [go_sem, ← List.map_take, ← List.map_drop, Cond.c_eq]; done))) ?_
    try simp [go_sem, seval, Cond.c_eq]
    repeat (first | intro _ | (refine ⟨obl, ?_⟩))
    refine condQ_mk (fun h4 => ?_) (fun h4 => ?_)
    · try simp [go_sem] at h4
      try simp [go_sem, seval, Cond.c_eq]
      exact hQ _ _ (by first | (left; (simp [go_sem, shapeF, h1]; omega); done) | (right; (simp [go_sem, shapeF, h1]; omega); done))
    · try simp [go_sem] at h4
      try simp [go_sem, seval, Cond.c_eq]
      exact hQ _ _ (by first | (left; (simp [go_sem, shapeF, h1]; omega); done) | (right; (simp [go_sem, shapeF, h1]; omega); done))
theorem ref22_occurs (p : Pattern) (v : Int) : Pure Tryz.prog 284 [p.d, dI v] (.bool (occursB p v)) := by
  refine pureK (by first | rfl | (simp [go_sem]; done)) (fun Q hQ => (acalls_of_body (cfg := ⟨fun _ => false, fun _ => []⟩) Tz.mixed Tryz.func284 rfl rfl (Nat.le_of_ble_eq_true rfl) (by kernel_rfl) ?_))
  try simp [go_sem, seval]
  obtain ⟨I0, hI0⟩ : ∃ I0 : Nat → Env → AHeap → Prop, ∀ (i : Nat) (e : Env) (H : AHeap), I0 i e H ↔ ((e 2 = .adr p.c) ∧ (e 1 = dI v) ∧ (e 5 = dI i) ∧ (i ≤ p.slots.length) ∧ (((p.slots.take i).any fun s => decide (s.term.var = v)) = false)) := ⟨fun i e H => _, fun _ _ _ => Iff.rfl⟩
  refine loopK I0 (fun i => p.slots.length - i) (0) ((hI0 _ _ _).2 ⟨?_, ?_, ?_, (by first | assumption | omega | (simp [go_sem]; done) | (simp_all; done)), (by rfl)⟩) ?_
  iterate 3 (first | omega | (simp [go_sem, seval] <;> omega))
  intro i e H hi0
  obtain ⟨q2_0, q1_0, q5_0, hi, ha⟩ := (hI0 _ _ _).1 hi0
  have F0 := And.intro q2_0 (And.intro q1_0 q5_0)
  try simp [go_sem, seval, F0]
  repeat (first | intro _ | (refine ⟨obl, ?_⟩))
  refine condQ_mk (fun h2 => ?_) (fun h2 => ?_)
  · try simp [go_sem] at h2
    try simp [go_sem, seval, F0, h2]
    repeat (first | intro _ | (refine ⟨obl, ?_⟩))
    refine condQ_mk (fun h4 => ?_) (fun h4 => ?_)
    · try simp [go_sem] at h4
      try simp [go_sem, seval, F0, h2]
      have hb : occursB p v = true := List.any_eq_true.2 ⟨_, List.getElem_mem h2, by simpa using h4⟩
      exact hQ _ _ (by first | (left; (simp only [go_sem, hb]); done) | (right; (simp only [go_sem, hb]); done))
    · try simp [go_sem] at h4
      try simp [go_sem, seval, F0, h2]
      repeat (first | intro _ | (refine ⟨obl, ?_⟩))
      refine nextQ_mk (i + 1) (by omega) ((hI0 _ _ _).2 ⟨?_, ?_, ?_, (by first | assumption | omega | (simp [go_sem, F0, h2, h4]; done) | (simp_all; done) | (simp_all; omega)), (by (rw [any_take_succ _ _ _ h2, ha]; simpa using h4))⟩) <;> first | omega | (simp [go_sem, seval, F0, h2] <;> omega)
  · try simp [go_sem] at h2
    try simp [go_sem, seval, F0]
    have hb : occursB p v = false := any_end ha h2
    exact hQ _ _ (by first | (left; (simp only [go_sem, hb]); done) | (right; (simp only [go_sem, hb]); done))
def inner22 (t : Types) (o : Int) (q : Pattern) : Int := if q.vars < o then 20 else innerF t q o
theorem ref22_inner (t : Types) (ht : t.ok) (o : Int) (h0 : 0 ≤ o) (q : Pattern) : Pure Tryz.prog 256 [t.d, dI o, q.d] (dI (inner22 t o q)) := by
  refine pureK (by first | rfl | (simp [go_sem]; done)) (fun Q hQ => (acalls_of_body (cfg := ⟨fun _ => false, fun _ => []⟩) Tz.mixed Tryz.func256 rfl rfl (Nat.le_of_ble_eq_true rfl) (by kernel_rfl) ?_))
  try simp [go_sem, seval]
  refine condQ_mk (fun h1 => ?_) (fun h1 => ?_)
  · try simp [go_sem] at h1
    try simp [go_sem, seval]
    exact hQ _ _ (by first | (left; (simp [go_sem, inner22, h1]); done) | (right; (simp [go_sem, inner22, h1]); done))
  · try simp [go_sem] at h1
    try simp [go_sem, seval]
    refine callQ_pure0 (ref21_Valid t ht q) ((by first | rfl | (simp [go_sem, ← List.map_take, ← List.map_drop]; done))) ?_
    try simp [go_sem, seval]
    refine condQ_mk (fun h4 => ?_) (fun h4 => ?_)
    · try simp [go_sem] at h4
      try simp [go_sem, seval]
      exact hQ _ _ (by first | (left; (simp [go_sem, inner22, innerF, h4]; omega); done) | (right; (simp [go_sem, inner22, innerF, h4]; omega); done))
    · try simp [go_sem] at h4
      have hv := patternF_vars (.inl h4)
      have hI : inner22 t o q = innerF t q o := by unfold inner22; rw [if_neg (by omega)]
      try simp [go_sem, seval]
      obtain ⟨I0, hI0⟩ : ∃ I0 : Nat → Env → AHeap → Prop, ∀ (v : Nat) (e : Env) (H : AHeap), I0 v e H ↔ ((e 5 = .adr q.c) ∧ (e 7 = dI 9) ∧ (e 8 = dI (o + v)) ∧ (∀ u : Int, o ≤ u → u < o + v → occursB q u = true)) := ⟨fun v e H => _, fun _ _ _ => Iff.rfl⟩
      refine loopK I0 (fun v => (q.vars - o).toNat - v) (0) ((hI0 _ _ _).2 ⟨?_, ?_, ?_, (by (intro u hu hv; omega))⟩) ?_
      iterate 3 (first | omega | (simp [go_sem, seval] <;> omega))
      intro v e H hi0
      obtain ⟨q5_0, q7_0, q8_0, ho⟩ := (hI0 _ _ _).1 hi0
      have F0 := And.intro q5_0 (And.intro q7_0 q8_0)
      try simp [go_sem, seval, F0]
      refine condQ_mk (fun h7 => ?_) (fun h7 => ?_)
      · try simp [go_sem] at h7
        try simp [go_sem, seval, F0, h7]
        repeat (first | intro _ | (refine ⟨obl, ?_⟩))
        refine callQ_pure0 (ref22_occurs q _) ((by first | rfl | (simp [go_sem, ← List.map_take, ← List.map_drop, F0, h7]; done))) ?_
        try simp [go_sem, seval, F0, h7]
        repeat (first | intro _ | (refine ⟨obl, ?_⟩))
        refine condQ_mk (fun h9 => ?_) (fun h9 => ?_)
        · try simp [go_sem] at h9
          try simp [go_sem, seval, F0, h7]
          exact hQ _ _ (by first | (left; (rw [hI, innerF_nine h4 h0 (v := o + v) (by omega) h7 (by simpa using h9)]; simp [go_sem]); done) | (right; (rw [hI, innerF_nine h4 h0 (v := o + v) (by omega) h7 (by simpa using h9)]; simp [go_sem]); done))
        · try simp [go_sem] at h9
          have ho' : ∀ u : Int, o ≤ u → u < o + ((v + 1 : Nat) : Int) → occursB q u = true := fun u hu hv => by
            by_cases hc : u < o + v
            · exact ho u hu hc
            · rw [show u = o + v by omega]; simpa using h9
          try simp [go_sem, seval, F0, h7]
          repeat (first | intro _ | (refine ⟨obl, ?_⟩))
          refine nextQ_mk (v + 1) (by omega) ((hI0 _ _ _).2 ⟨?_, ?_, ?_, (by exact ho')⟩) <;> first | omega | (simp [go_sem, seval, F0, h7] <;> omega)
      · try simp [go_sem] at h7
        try simp [go_sem, seval, F0]
        exact hQ _ _ (by first | (left; (rw [hI, innerF_zero h4 h0 fun u hu hv => ho u hu (by omega)]; simp [go_sem]); done) | (right; (rw [hI, innerF_zero h4 h0 fun u hu hv => ho u hu (by omega)]; simp [go_sem]); done))
theorem ref22_over (t : Types) (ht : t.ok) : ∀ (c : Cond) (p : Pattern), 0 ≤ p.vars → p.vars ≤ 12 → Pure Tryz.prog 208 [t.d, p.d, .agg c.c] (dI (insF t p c)) := by
  refine Cond.ind fun c ih p hp0 hp1 => ?_
  have hF := insF_eq t p c
  refine pureK (by first | rfl | (simp [go_sem]; done)) (fun Q hQ => (acalls_of_body (cfg := ⟨fun t => t == 7, fun _ => []⟩) Tz.mixed Tryz.func208 rfl rfl (Nat.le_of_ble_eq_true rfl) (by kernel_rfl) ?_))
  try simp [go_sem, seval, Cond.c_eq]
  refine condQ_mk (fun h2 => ?_) (fun h2 => ?_)
  · try simp [go_sem] at h2
    rw [if_pos h2, if_pos h2] at hF
    try simp [go_sem, seval, Cond.c_eq]
    refine callQ_pure0 (ref22_inner t ht p.vars hp0 c.pattern) ((by first | rfl | (simp [go_sem, ← List.map_take, ← List.map_drop, Cond.c_eq]; done))) ?_
    try simp [go_sem, seval, Cond.c_eq]
    refine condQ_mk (fun h4 => ?_) (fun h4 => ?_)
    · try simp [go_sem] at h4
      have hE : existsE t p c.map c.pattern = inner22 t p.vars c.pattern := by
        unfold existsE; unfold inner22 at h4 ⊢
        split
        · rfl
        · rename_i h'; rw [if_neg h'] at h4; rw [if_pos h4]
      try simp [go_sem, seval, Cond.c_eq]
      exact hQ _ _ (by first | (left; (rw [hF, hE, if_pos (by omega)]; simp [go_sem]); done) | (right; (rw [hF, hE, if_pos (by omega)]; simp [go_sem]); done))
    · try simp [go_sem] at h4
      have hv0 : ¬ c.pattern.vars < p.vars ∧ innerF t c.pattern p.vars = 0 := by
        unfold inner22 at h4
        split at h4
        · omega
        · exact ⟨by assumption, h4⟩
      have hv1 := hv0.1
      have h6 := hv0.2
      try simp [go_sem, seval, Cond.c_eq]
      refine callQ_pure0 (ref06_Valid p.graph c.pattern.graph c.map) ((by first | rfl | (simp [go_sem, ← List.map_take, ← List.map_drop, Cond.c_eq]; done))) ?_
      try simp [go_sem, seval, Cond.c_eq]
      refine condQ_mk (fun h7 => ?_) (fun h7 => ?_)
      · try simp [go_sem] at h7
        try simp [go_sem, seval, Cond.c_eq]
        exact hQ _ _ (by first | (left; (simp [go_sem, hF, existsE, h6, h7]; omega); done) | (right; (simp [go_sem, hF, existsE, h6, h7]; omega); done))
      · try simp [go_sem] at h7
        try simp [go_sem, seval, Cond.c_eq]
        repeat (first | intro _ | (refine ⟨obl, ?_⟩))
        refine callQ_pure0 (ref06_Injective p.graph c.pattern.graph c.map) ((by first | rfl | (simp [go_sem, ← List.map_take, ← List.map_drop, Cond.c_eq]; done))) ?_
        try simp [go_sem, seval, Cond.c_eq]
        repeat (first | intro _ | (refine ⟨obl, ?_⟩))
        refine condQ_mk (fun h9 => ?_) (fun h9 => ?_)
        · try simp [go_sem] at h9
          try simp [go_sem, seval, Cond.c_eq]
          exact hQ _ _ (by first | (left; (simp [go_sem, hF, existsE, h6, h7, h9]; omega); done) | (right; (simp [go_sem, hF, existsE, h6, h7, h9]; omega); done))
        · try simp [go_sem] at h9
          have hE0 : existsE t p c.map c.pattern = 0 := by simp [existsE, h6, h7, h9]; omega
          rw [hE0, if_neg (by omega)] at hF
          obtain ⟨w, hw⟩ : ∃ w : Pattern, w = c.pattern := ⟨_, rfl⟩
          have hv := innerF_vars h6
          have hw0 : 0 ≤ w.vars := by rw [hw]; exact hv.1
          have hw1 : w.vars ≤ 12 := by rw [hw]; exact hv.2
          have hF' : insF t p c = listE (insF t w) c.kids := by rw [hF, hw]
          try simp [go_sem, seval, Cond.c_eq]
          obtain ⟨I0, hI0⟩ : ∃ I0 : Nat → Env → AHeap → Prop, ∀ (i : Nat) (e : Env) (H : AHeap), I0 i e H ↔ ((e 3 = .adr t.c) ∧ (e 5 = .adr c.c) ∧ (e 7 = .ptr 0 1 0 0) ∧ (e 10 = dI i) ∧ (H.get 0 = some ⟨66, 5, [w.c], false⟩) ∧ (0 < H.next) ∧ (i ≤ c.kids.length) ∧ (listE (insF t w) (c.kids.drop i) = insF t p c)) := ⟨fun i e H => _, fun _ _ _ => Iff.rfl⟩
          refine loopK I0 (fun i => c.kids.length - i) (0) ((hI0 _ _ _).2 ⟨?_, ?_, ?_, ?_, (by (simp [go_sem, hw])), ?_, (by first | assumption | omega | (simp [go_sem, Cond.c_eq]; done) | (simp_all; done)), (by (exact hF'.symm))⟩) ?_
          iterate 5 (first | omega | (simp [go_sem, seval, Cond.c_eq] <;> omega))
          intro i e H hi0
          obtain ⟨q3_0, q5_0, q7_0, q10_0, g0_0, n0_0, hi, hL⟩ := (hI0 _ _ _).1 hi0
          have x0 := frs n0_0
          have F0 := And.intro q3_0 (And.intro q5_0 (And.intro q7_0 (And.intro q10_0 (And.intro g0_0 x0))))
          try simp [go_sem, seval, Cond.c_eq, F0]
          repeat (first | intro _ | (refine ⟨obl, ?_⟩))
          refine condQ_mk (fun h13 => ?_) (fun h13 => ?_)
          · try simp [go_sem] at h13
            have hst := hL
            rw [listE_step _ h13] at hst
            try simp [go_sem, seval, Cond.c_eq, F0, h13]
            repeat (first | intro _ | (refine ⟨obl, ?_⟩))
            refine dcallQ_pure0 ((by have := ih _ (List.getElem_mem h13) w hw0 hw1; rwa [Cond.c_eq] at this)) ((by first | rfl | (simp [go_sem, ← List.map_take, ← List.map_drop, Cond.c_eq, F0, h13]; done))) ?_
            try simp [go_sem, seval, Cond.c_eq, F0, h13]
            repeat (first | intro _ | (refine ⟨obl, ?_⟩))
            refine condQ_mk (fun h16 => ?_) (fun h16 => ?_)
            · try simp [go_sem] at h16
              rw [if_pos (by omega)] at hst
              try simp [go_sem, seval, Cond.c_eq, F0, h13]
              exact hQ _ _ (by first | (left; (simp [go_sem, hst]); done) | (right; (simp [go_sem, hst]); done))
            · try simp [go_sem] at h16
              rw [if_neg (by omega)] at hst
              try simp [go_sem, seval, Cond.c_eq, F0, h13]
              repeat (first | intro _ | (refine ⟨obl, ?_⟩))
              refine nextQ_mk (i + 1) (by omega) ((hI0 _ _ _).2 ⟨?_, ?_, ?_, ?_, (by (simp [go_sem, Cond.c_eq, F0, h13])), ?_, (by first | assumption | omega | (simp [go_sem, Cond.c_eq, F0, h13, h2, h4, h7, h9, h16]; done) | (simp_all; done) | (simp_all; omega)), (by exact hst)⟩) <;> first | omega | (simp [go_sem, seval, Cond.c_eq, F0, h13] <;> omega)
          · try simp [go_sem] at h13
            try simp [go_sem, seval, Cond.c_eq, F0]
            exact hQ _ _ (by first | (left; (rw [← hL, listE_end _ (by omega)]; simp [go_sem]); done) | (right; (rw [← hL, listE_end _ (by omega)]; simp [go_sem]); done))
  · try simp [go_sem] at h2
    rw [if_neg h2, if_neg (by omega), if_neg h2] at hF
    obtain ⟨w, hw⟩ : ∃ w : Pattern, w = p := ⟨_, rfl⟩
    have hw0 : 0 ≤ w.vars := by rw [hw]; exact hp0
    have hw1 : w.vars ≤ 12 := by rw [hw]; exact hp1
    have hF' : insF t p c = listE (insF t w) c.kids := by rw [hF, hw]
    try simp [go_sem, seval, Cond.c_eq]
    obtain ⟨I0, hI0⟩ : ∃ I0 : Nat → Env → AHeap → Prop, ∀ (i : Nat) (e : Env) (H : AHeap), I0 i e H ↔ ((e 3 = .adr t.c) ∧ (e 5 = .adr c.c) ∧ (e 7 = .ptr 0 1 0 0) ∧ (e 10 = dI i) ∧ (H.get 0 = some ⟨66, 5, [w.c], false⟩) ∧ (0 < H.next) ∧ (i ≤ c.kids.length) ∧ (listE (insF t w) (c.kids.drop i) = insF t p c)) := ⟨fun i e H => _, fun _ _ _ => Iff.rfl⟩
    refine loopK I0 (fun i => c.kids.length - i) (0) ((hI0 _ _ _).2 ⟨?_, ?_, ?_, ?_, (by (simp [go_sem, hw])), ?_, (by first | assumption | omega | (simp [go_sem, Cond.c_eq]; done) | (simp_all; done)), (by (exact hF'.symm))⟩) ?_
    iterate 5 (first | omega | (simp [go_sem, seval, Cond.c_eq] <;> omega))
    intro i e H hi0
    obtain ⟨q3_0, q5_0, q7_0, q10_0, g0_0, n0_0, hi, hL⟩ := (hI0 _ _ _).1 hi0
    have x0 := frs n0_0
    have F0 := And.intro q3_0 (And.intro q5_0 (And.intro q7_0 (And.intro q10_0 (And.intro g0_0 x0))))
    try simp [go_sem, seval, Cond.c_eq, F0]
    repeat (first | intro _ | (refine ⟨obl, ?_⟩))
    refine condQ_mk (fun h13 => ?_) (fun h13 => ?_)
    · try simp [go_sem] at h13
      have hst := hL
      rw [listE_step _ h13] at hst
      try simp [go_sem, seval, Cond.c_eq, F0, h13]
      repeat (first | intro _ | (refine ⟨obl, ?_⟩))
      refine dcallQ_pure0 ((by have := ih _ (List.getElem_mem h13) w hw0 hw1; rwa [Cond.c_eq] at this)) ((by first | rfl | (simp [go_sem, ← List.map_take, ← List.map_drop, Cond.c_eq, F0, h13]; done))) ?_
      try simp [go_sem, seval, Cond.c_eq, F0, h13]
      repeat (first | intro _ | (refine ⟨obl, ?_⟩))
      refine condQ_mk (fun h16 => ?_) (fun h16 => ?_)
      · try simp [go_sem] at h16
        rw [if_pos (by omega)] at hst
        try simp [go_sem, seval, Cond.c_eq, F0, h13]
        exact hQ _ _ (by first | (left; (simp [go_sem, hst]); done) | (right; (simp [go_sem, hst]); done))
      · try simp [go_sem] at h16
        rw [if_neg (by omega)] at hst
        try simp [go_sem, seval, Cond.c_eq, F0, h13]
        repeat (first | intro _ | (refine ⟨obl, ?_⟩))
        refine nextQ_mk (i + 1) (by omega) ((hI0 _ _ _).2 ⟨?_, ?_, ?_, ?_, (by (simp [go_sem, Cond.c_eq, F0, h13])), ?_, (by first | assumption | omega | (simp [go_sem, Cond.c_eq, F0, h13, h2, h16]; done) | (simp_all; done) | (simp_all; omega)), (by exact hst)⟩) <;> first | omega | (simp [go_sem, seval, Cond.c_eq, F0, h13] <;> omega)
    · try simp [go_sem] at h13
      try simp [go_sem, seval, Cond.c_eq, F0]
      exact hQ _ _ (by first | (left; (rw [← hL, listE_end _ (by omega)]; simp [go_sem]); done) | (right; (rw [← hL, listE_end _ (by omega)]; simp [go_sem]); done))
theorem ref22_Valid (t : Types) (ht : t.ok) (p : Pattern) (c : Cond) (hc : c.ok) (hs : c.size ≤ 1000000) : Pure Tryz.prog 143 [t.d, p.d, .agg c.c] (dI (condF t p c)) := by
  refine pureK (by first | rfl | (simp [go_sem]; done)) (fun Q hQ => (acalls_of_body (cfg := ⟨fun _ => false, fun _ => []⟩) Tz.mixed Tryz.func143 rfl rfl (Nat.le_of_ble_eq_true rfl) (by kernel_rfl) ?_))
  try simp [go_sem, seval, Cond.c_eq]
  refine callQ_pure0 (ref21_Valid t ht p) ((by first | rfl | (simp [go_sem, ← List.map_take, ← List.map_drop, Cond.c_eq]; done))) ?_
  try simp [go_sem, seval, Cond.c_eq]
  refine condQ_mk (fun h2 => ?_) (fun h2 => ?_)
  · try simp [go_sem] at h2
    try simp [go_sem, seval, Cond.c_eq]
    exact hQ _ _ (by simp [go_sem, Cond.c_eq, h2, condF] <;> first | omega | (rw [Bool.eq_iff_iff]; simp <;> omega) | (simp_all <;> omega))
  · try simp [go_sem] at h2
    have hv := patternF_vars (.inr h2)
    try simp [go_sem, seval, Cond.c_eq]
    refine callQ_pure0 ((by have := ref22_Shape c hc hs; rwa [Cond.c_eq] at this)) ((by first | rfl | (simp [go_sem, ← List.map_take, ← List.map_drop, Cond.c_eq]; done))) ?_
    try simp [go_sem, seval, Cond.c_eq]
    refine condQ_mk (fun h5 => ?_) (fun h5 => ?_)
    · try simp [go_sem] at h5
      try simp [go_sem, seval, Cond.c_eq]
      exact hQ _ _ (by simp [go_sem, Cond.c_eq, h2, h5, condF] <;> first | omega | (rw [Bool.eq_iff_iff]; simp <;> omega) | (simp_all <;> omega))
    · try simp [go_sem] at h5
      try simp [go_sem, seval, Cond.c_eq]
      refine callQ_pure0 ((by have := ref22_over t ht c p hv.1 hv.2; rwa [Cond.c_eq] at this)) ((by first | rfl | (simp [go_sem, ← List.map_take, ← List.map_drop, Cond.c_eq]; done))) ?_
      try simp [go_sem, seval, Cond.c_eq]
      exact hQ _ _ (by simp [go_sem, Cond.c_eq, h2, h5, condF] <;> first | omega | (rw [Bool.eq_iff_iff]; simp <;> omega) | (simp_all <;> omega))
end Go.Abs
end
section
set_option linter.unusedVariables false
set_option linter.unusedSimpArgs false
set_option maxRecDepth 8000
open Go Go.Proofs
namespace Go.Abs
attribute [go_sem] Rule.c Rule.d
@[go_sem] theorem hd_attr (o : Option Attr) (a0 a1 a2 a3 : D) : ((Option.map Attr.c o).getD [a0, a1, a2, a3]).length = 4 := by cases o <;> rfl
@[go_sem] theorem hd_node (o : Option NodeTy) (a0 a1 a2 a3 : D) : ((Option.map NodeTy.c o).getD [a0, a1, a2, a3]).length = 4 := by cases o <;> rfl
@[go_sem] theorem hd_edgety (o : Option EdgeTy) (a0 a1 a2 a3 a4 a5 a6 : D) : ((Option.map EdgeTy.c o).getD [a0, a1, a2, a3, a4, a5, a6]).length = 7 := by cases o <;> rfl
@[go_sem] theorem hd_gedge (o : Option Edge) (a0 a1 a2 : D) : ((Option.map Edge.c o).getD [a0, a1, a2]).length = 3 := by cases o <;> rfl
@[go_sem] theorem hd_slot (o : Option Slot) (a0 a1 a2 a3 : D) : ((Option.map Slot.c o).getD [a0, a1, a2, a3]).length = 4 := by cases o <;> rfl
@[go_sem] theorem hd_test (o : Option Test) (a0 a1 a2 a3 a4 : D) : ((Option.map Test.c o).getD [a0, a1, a2, a3, a4]).length = 5 := by cases o <;> rfl
@[go_sem] theorem hd_stage (o : Option Stage) (a0 a1 : D) : ((Option.map Stage.c o).getD [a0, a1]).length = 2 := by cases o <;> rfl
@[go_sem] theorem hd_int (o : Option Int) (a0 : D) : ((Option.map cI o).getD [a0]).length = 1 := by cases o <;> rfl
@[go_sem] theorem hd_str (o : Option ByteArray) (a0 : D) : ((Option.map cS o).getD [a0]).length = 1 := by cases o <;> rfl
@[go_sem] theorem hd_bool (o : Option Bool) (a0 : D) : ((Option.map cB o).getD [a0]).length = 1 := by cases o <;> rfl
theorem rule_typed1 (t : Types) (a : Int) : Pure Tryz.prog 326 [dI a, .adr t.c] (.bool (decide ((t.nodes.length : Int) ≤ a))) := by
  refine pureK (by first | rfl | (simp [go_sem]; done)) (fun Q hQ => (acalls_of_body (cfg := ⟨fun _ => false, fun _ => []⟩) Tz.mixed Tryz.func326 rfl rfl (Nat.le_of_ble_eq_true rfl) (by kernel_rfl) ?_))
  try simp [go_sem, seval]
  repeat (first | intro _ | (refine ⟨obl, ?_⟩))
  exact hQ _ _ (by simp [go_sem] <;> first | omega | (rw [Bool.eq_iff_iff]; simp <;> omega) | (simp_all <;> omega))
theorem rule_typed2 (t : Types) (x : Edge) : Pure Tryz.prog 327 [.agg x.c, .adr t.c] (.bool (decide ((t.edges.length : Int) ≤ x.type))) := by
  refine pureK (by first | rfl | (simp [go_sem]; done)) (fun Q hQ => (acalls_of_body (cfg := ⟨fun _ => false, fun _ => []⟩) Tz.mixed Tryz.func327 rfl rfl (Nat.le_of_ble_eq_true rfl) (by kernel_rfl) ?_))
  try simp [go_sem, seval]
  repeat (first | intro _ | (refine ⟨obl, ?_⟩))
  exact hQ _ _ (by simp [go_sem] <;> first | omega | (rw [Bool.eq_iff_iff]; simp <;> omega) | (simp_all <;> omega))
theorem rule_typed (t : Types) (g : Graph) : Pure Tryz.prog 305 [t.d, g.d] (.bool (typedB t g)) := by
  have h1 := containsFunc_int g.nodes 326 [.adr t.c] (fun a => decide ((t.nodes.length : Int) ≤ a)) (by simp [go_sem]) (by simp [go_sem]) (fun a _ => rule_typed1 t a)
  have h2 := containsFunc_gedge g.edges 327 [.adr t.c] (fun x => decide ((t.edges.length : Int) ≤ x.type)) (by simp [go_sem]) (by simp [go_sem]) (fun x _ => rule_typed2 t x)
  have he : typedB t g = ((!(g.nodes.any fun n => decide ((t.nodes.length : Int) ≤ n))) && !(g.edges.any fun x => decide ((t.edges.length : Int) ≤ x.type))) := rfl
  generalize (g.nodes.any fun n => decide ((t.nodes.length : Int) ≤ n)) = u at *
  generalize (g.edges.any fun x => decide ((t.edges.length : Int) ≤ x.type)) = v at *
  rw [he]
  refine pureK (by first | rfl | (simp [go_sem]; done)) (fun Q hQ => (acalls_of_body (cfg := ⟨fun _ => false, fun _ => []⟩) Tz.mixed Tryz.func305 rfl rfl (Nat.le_of_ble_eq_true rfl) (by kernel_rfl) ?_))
  try simp [go_sem, seval]
  repeat (first | intro _ | (refine ⟨obl, ?_⟩))
  refine callQ_pure0 (h1) ((by first | rfl | (simp [go_sem, ← List.map_take, ← List.map_drop]; done))) ?_
  try simp [go_sem, seval]
  repeat (first | intro _ | (refine ⟨obl, ?_⟩))
  refine gcallQ_pure0 (fun hg => h2) (fun hg => (by first | rfl | (simp [go_sem, ← List.map_take, ← List.map_drop]; done))) ?_
  try simp [go_sem, seval]
  repeat (first | intro _ | (refine ⟨obl, ?_⟩))
  exact hQ _ _ (by simp [go_sem] <;> first | omega | (rw [Bool.eq_iff_iff]; simp <;> omega) | (simp_all <;> omega))
def sameSlot (x y : Slot) : Bool := decide (y.node = x.node) && decide (y.attr = x.attr)
theorem rule_slot1 (x y : Slot) : Pure Tryz.prog 329 [.agg y.c, .adr x.c] (.bool (sameSlot x y)) := by
  refine pureK (by first | rfl | (simp [go_sem]; done)) (fun Q hQ => (acalls_of_body (cfg := ⟨fun _ => false, fun _ => []⟩) Tz.mixed Tryz.func329 rfl rfl (Nat.le_of_ble_eq_true rfl) (by kernel_rfl) ?_))
  try simp [go_sem, seval]
  repeat (first | intro _ | (refine ⟨obl, ?_⟩))
  exact hQ _ _ (by simp [go_sem, sameSlot] <;> first | omega | (rw [Bool.eq_iff_iff]; simp <;> omega) | (simp_all <;> omega))
def slotRE (t : Types) (p : Pattern) (i : Nat) : Int := match p.slots[i]? with
  | some s => if slotE t p s ≠ 0 then 6 else if ((p.slots.take i).any (sameSlot s)) = true then 5 else 0
  | none => 0
theorem slotRE_at {t : Types} {p : Pattern} {i : Nat} (h : i < p.slots.length) : slotRE t p i = if slotE t p p.slots[i] ≠ 0 then 6 else if ((p.slots.take i).any (sameSlot p.slots[i])) = true then 5 else 0 := by
  unfold slotRE; rw [List.getElem?_eq_getElem h]
theorem rule_slot (t : Types) (ht : t.ok) (r : Rule) (hr : r.right.graph.nodes.length ≤ 1000) (i : Nat) (hi : i < r.right.slots.length) : Pure Tryz.prog 306 [t.d, r.d, dI i] (dI (slotRE t r.right i)) := by
  have hS := slotRE_at (t := t) hi
  have h8 := attrsT_len ht (r.right.kind r.right.slots[i].node)
  have hdup := containsFunc_slot (r.right.slots.take i) 329 [.adr r.right.slots[i].c] (sameSlot r.right.slots[i]) (by simp [go_sem]) (by simp only [D.cl]; exact slots_cl _) (fun y _ => rule_slot1 r.right.slots[i] y)
  refine pureK (by first | rfl | (simp [go_sem]; done)) (fun Q hQ => (acalls_of_body (cfg := ⟨fun t => t == 7 || t == 10, fun _ => []⟩) Tz.mixed Tryz.func306 rfl rfl (Nat.le_of_ble_eq_true rfl) (by kernel_rfl) ?_))
  try simp [go_sem, seval, List.getElem?_eq_getElem hi, hi]
  repeat (first | intro _ | (refine ⟨obl, ?_⟩))
  refine condQ_mk (fun h2 => ?_) (fun h2 => ?_)
  · try simp [go_sem] at h2
    have hE : slotE t r.right r.right.slots[i] ≠ 0 := by
      unfold slotE; rw [if_neg]; decide; intro h; simp [attrB] at h; omega
    rw [if_pos hE] at hS
    try simp [go_sem, seval, List.getElem?_eq_getElem hi, hi]
    exact hQ _ _ (by first | (left; (simp [go_sem, hS]); done) | (right; (simp [go_sem, hS]); done))
  · try simp [go_sem] at h2
    have hn : r.right.slots[i].node.toNat < r.right.graph.nodes.length := by omega
    have hk : r.right.kind r.right.slots[i].node = r.right.graph.nodes[r.right.slots[i].node.toNat] := by simp [Pattern.kind, hn]
    rw [hk] at h8
    try simp [go_sem, seval, List.getElem?_eq_getElem hi, hi, List.getElem?_eq_getElem hn, hk]
    repeat (first | intro _ | (refine ⟨obl, ?_⟩))
    refine dcallQ_pure0 (types_Attrs t ht r.right.graph.nodes[r.right.slots[i].node.toNat]) ((by first | rfl | (simp [go_sem, ← List.map_take, ← List.map_drop, List.getElem?_eq_getElem hi, hi, List.getElem?_eq_getElem hn, hk]; done))) ?_
    try simp [go_sem, seval, List.getElem?_eq_getElem hi, hi, List.getElem?_eq_getElem hn, hk]
    repeat (first | intro _ | (refine ⟨obl, ?_⟩))
    refine condQ_mk (fun h6 => ?_) (fun h6 => ?_)
    · try simp [go_sem] at h6
      have hE : slotE t r.right r.right.slots[i] ≠ 0 := by
        unfold slotE; rw [if_neg]; decide; intro h; simp [attrB, inF, hk] at h; omega
      rw [if_pos hE] at hS
      try simp [go_sem, seval, List.getElem?_eq_getElem hi, hi, List.getElem?_eq_getElem hn, hk]
      exact hQ _ _ (by first | (left; (simp [go_sem, hS]); done) | (right; (simp [go_sem, hS]); done))
    · try simp [go_sem] at h6
      have hE : slotE t r.right r.right.slots[i] = 0 := by
        unfold slotE; rw [if_pos]; simp [attrB, inF, hk]; omega
      rw [if_neg (by omega)] at hS
      have hsl : (i : Int) ≤ r.right.slots.length := by omega
      try simp [go_sem, seval, List.getElem?_eq_getElem hi, hi, List.getElem?_eq_getElem hn, hk]
      repeat (first | intro _ | (refine ⟨obl, ?_⟩))
      refine callQ_pureC (hdup) (by simp [rsvC, rsvP, cellsAt, go_sem, ← List.map_take, ← List.map_drop, List.getElem?_eq_getElem hi, hi, List.getElem?_eq_getElem hn, hk]) ((by first | rfl | (simp [go_sem, ← List.map_take, ← List.map_drop, List.getElem?_eq_getElem hi, hi, List.getElem?_eq_getElem hn, hk]; done))) ( rfl) ?_
      try simp [go_sem, seval, List.getElem?_eq_getElem hi, hi, List.getElem?_eq_getElem hn, hk]
      repeat (first | intro _ | (refine ⟨obl, ?_⟩))
      refine condQ_mk (fun h8 => ?_) (fun h8 => ?_)
      · try simp [go_sem] at h8
        try simp [go_sem, seval, List.getElem?_eq_getElem hi, hi, List.getElem?_eq_getElem hn, hk]
        exact hQ _ _ (by first | (left; (rw [hS, if_pos (by rw [List.any_eq_true]; exact h8)]; simp [go_sem]); done) | (right; (rw [hS, if_pos (by rw [List.any_eq_true]; exact h8)]; simp [go_sem]); done))
      · try simp [go_sem] at h8
        try simp [go_sem, seval, List.getElem?_eq_getElem hi, hi, List.getElem?_eq_getElem hn, hk]
        exact hQ _ _ (by first | (left; (rw [hS, if_neg (by rw [List.any_eq_true]; rintro ⟨x, hx, hs⟩; have := h8 x hx; rw [this] at hs; cases hs)]; simp [go_sem]); done) | (right; (rw [hS, if_neg (by rw [List.any_eq_true]; rintro ⟨x, hx, hs⟩; have := h8 x hx; rw [this] at hs; cases hs)]; simp [go_sem]); done))
end Go.Abs
end
section
set_option linter.unusedVariables false
set_option linter.unusedSimpArgs false
set_option maxRecDepth 8000
open Go Go.Proofs
namespace Go.Abs
def rightF (t : Types) (r : Rule) : Int :=
  if graphF r.right.graph ≠ 0 then graphF r.right.graph
  else if typedB t r.right.graph = false then 13
  else if r.right.vars ≠ r.left.vars ∨ 0 < r.right.tests.length then 1
  else if 10 < r.right.slots.length then 3
  else firstE (slotRE t r.right) 0 r.right.slots.length
theorem rule_right (t : Types) (ht : t.ok) (r : Rule) : Pure Tryz.prog 274 [t.d, r.d] (dI (rightF t r)) := by
  refine pureK (by first | rfl | (simp [go_sem]; done)) (fun Q hQ => (acalls_of_body (cfg := ⟨fun _ => false, fun _ => []⟩) Tz.mixed Tryz.func274 rfl rfl (Nat.le_of_ble_eq_true rfl) (by kernel_rfl) ?_))
  try simp [go_sem, seval]
  refine callQ_pure0 (graph_Valid r.right.graph) ((by first | rfl | (simp [go_sem, ← List.map_take, ← List.map_drop]; done))) ?_
  try simp [go_sem, seval]
  refine condQ_mk (fun h2 => ?_) (fun h2 => ?_)
  · try simp [go_sem] at h2
    try simp [go_sem, seval]
    exact hQ _ _ (by first | (left; (simp [go_sem, rightF, h2]); done) | (right; (simp [go_sem, rightF, h2]); done))
  · try simp [go_sem] at h2
    have hg := graphF_le h2
    try simp [go_sem, seval]
    repeat (first | intro _ | (refine ⟨obl, ?_⟩))
    refine callQ_pure0 (rule_typed t r.right.graph) ((by first | rfl | (simp [go_sem, ← List.map_take, ← List.map_drop]; done))) ?_
    try simp [go_sem, seval]
    repeat (first | intro _ | (refine ⟨obl, ?_⟩))
    refine condQ_mk (fun h4 => ?_) (fun h4 => ?_)
    · try simp [go_sem] at h4
      try simp [go_sem, seval]
      exact hQ _ _ (by first | (left; (simp [go_sem, rightF, h2, h4]); done) | (right; (simp [go_sem, rightF, h2, h4]); done))
    · try simp [go_sem] at h4
      try simp [go_sem, seval]
      repeat (first | intro _ | (refine ⟨obl, ?_⟩))
      refine condQ_mk (fun h6 => ?_) (fun h6 => ?_)
      · try simp [go_sem] at h6
        have hR : rightF t r = 1 := by unfold rightF; rw [if_neg (by omega), if_neg (by simp [h4]), if_pos (by omega)]
        try simp [go_sem, seval]
        exact hQ _ _ (by first | (left; (simp [go_sem, hR]); done) | (right; (simp [go_sem, hR]); done))
      · try simp [go_sem] at h6
        have h6' : ¬ (r.right.vars ≠ r.left.vars ∨ 0 < r.right.tests.length) := by
          rintro (h | h)
          · exact h h6.1
          · have := h6.2; simp [this] at h
        try simp [go_sem, seval]
        repeat (first | intro _ | (refine ⟨obl, ?_⟩))
        refine condQ_mk (fun h8 => ?_) (fun h8 => ?_)
        · try simp [go_sem] at h8
          have hR : rightF t r = 3 := by unfold rightF; rw [if_neg (by omega), if_neg (by simp [h4]), if_neg h6', if_pos (by omega)]
          try simp [go_sem, seval]
          exact hQ _ _ (by first | (left; (simp [go_sem, hR]); done) | (right; (simp [go_sem, hR]); done))
        · try simp [go_sem] at h8
          have hR : rightF t r = firstE (slotRE t r.right) 0 r.right.slots.length := by unfold rightF; rw [if_neg (by omega), if_neg (by simp [h4]), if_neg h6', if_neg (by omega)]
          try simp [go_sem, seval]
          repeat (first | intro _ | (refine ⟨obl, ?_⟩))
          obtain ⟨I1, hI1⟩ : ∃ I1 : Nat → Env → AHeap → Prop, ∀ (i : Nat) (e : Env) (H : AHeap), I1 i e H ↔ ((e 2 = .adr t.c) ∧ (e 3 = .adr r.c) ∧ (e 46 = dI r.right.slots.length) ∧ (e 47 = dI i) ∧ (i ≤ r.right.slots.length) ∧ (firstE (slotRE t r.right) i (r.right.slots.length - i) = rightF t r)) := ⟨fun i e H => _, fun _ _ _ => Iff.rfl⟩
          refine loopK I1 (fun i => r.right.slots.length - i) (0) ((hI1 _ _ _).2 ⟨?_, ?_, ?_, ?_, (by first | assumption | omega | (simp [go_sem]; done) | (simp_all; done)), (by (exact hR.symm))⟩) ?_
          iterate 4 (first | omega | (simp [go_sem, seval] <;> omega))
          intro i e H hi1
          obtain ⟨q2_1, q3_1, q46_1, q47_1, hi, hF⟩ := (hI1 _ _ _).1 hi1
          have F1 := And.intro q2_1 (And.intro q3_1 (And.intro q46_1 q47_1))
          try simp [go_sem, seval, F1]
          refine condQ_mk (fun h11 => ?_) (fun h11 => ?_)
          · try simp [go_sem] at h11
            have hst := hF
            rw [firstE_step _ h11] at hst
            try simp [go_sem, seval, F1, h11]
            refine callQ_pure0 (rule_slot t ht r (by omega) i h11) ((by first | rfl | (simp [go_sem, ← List.map_take, ← List.map_drop, F1, h11]; done))) ?_
            try simp [go_sem, seval, F1, h11]
            refine condQ_mk (fun h14 => ?_) (fun h14 => ?_)
            · try simp [go_sem] at h14
              rw [if_pos (by omega)] at hst
              try simp [go_sem, seval, F1, h11]
              exact hQ _ _ (by first | (left; (simp [go_sem, hst]); done) | (right; (simp [go_sem, hst]); done))
            · try simp [go_sem] at h14
              rw [if_neg (by omega)] at hst
              try simp [go_sem, seval, F1, h11]
              repeat (first | intro _ | (refine ⟨obl, ?_⟩))
              refine nextQ_mk (i + 1) (by omega) ((hI1 _ _ _).2 ⟨?_, ?_, ?_, ?_, (by first | assumption | omega | (simp [go_sem, F1, h11, h2, h4, h6, h8, h14]; done) | (simp_all; done) | (simp_all; omega)), (by exact hst)⟩) <;> first | omega | (simp [go_sem, seval, F1, h11] <;> omega)
          · try simp [go_sem] at h11
            try simp [go_sem, seval, F1]
            exact hQ _ _ (by first | (left; (rw [← hF, show r.right.slots.length - i = 0 by omega]; rfl); done) | (right; (rw [← hF, show r.right.slots.length - i = 0 by omega]; rfl); done))
def othersL (l : List Int) (n : Nat) : List Int := ((List.range n).filter fun (i : Nat) => !mem l i).map fun (b : Nat) => (b : Int)
theorem othersL_mem {l : List Int} {n : Nat} {x : Int} (h : x ∈ othersL l n) : 0 ≤ x ∧ x < n := by
  simp only [othersL, List.mem_map, List.mem_filter, List.mem_range] at h
  obtain ⟨a, ⟨h1, _⟩, rfl⟩ := h
  omega
theorem othersL_len (l : List Int) (n : Nat) : (othersL l n).length ≤ n := by
  unfold othersL; rw [List.length_map]; exact Nat.le_trans (List.length_filter_le _ _) (by simp)
theorem rule_others (l : List Int) (n : Nat) (hn : n ≤ 1000000) : Pure Tryz.prog 278 [dLI l, dI n] (dLI (othersL l n)) := by
  refine pureK (by first | rfl | (simp [go_sem]; done)) (fun Q hQ => (acalls_of_body (cfg := ⟨fun t => t == 5, fun _ => []⟩) Tz.mixed Tryz.func278 rfl rfl (Nat.le_of_ble_eq_true rfl) (by kernel_rfl) ?_))
  try simp [go_sem, seval]
  obtain ⟨I0, hI0⟩ : ∃ I0 : Nat → Env → AHeap → Prop, ∀ (i : Nat) (e : Env) (H : AHeap), I0 i e H ↔ (∃ xs : List Int, (e 0 = dLI l) ∧ (e 7 = dI n) ∧ (e 5 = .own 0 xs.length) ∧ (e 8 = dI i) ∧ (H.get 0 = some ⟨3, 1, xs.map cI, false⟩) ∧ (0 < H.next) ∧ (i ≤ n) ∧ (xs.length ≤ i) ∧ (xs = ((List.range i).filter fun (b : Nat) => !mem l b).map (fun (b : Nat) => (b : Int)))) := ⟨fun i e H => _, fun _ _ _ => Iff.rfl⟩
  refine loopK I0 (fun i => n - i) (0) ((hI0 _ _ _).2 ⟨([]), ?_, ?_, ?_, ?_, ?_, ?_, (by first | assumption | omega | (simp [go_sem]; done) | (simp_all; done)), (by simp), (by rfl)⟩) ?_
  iterate 6 (first | omega | (simp [go_sem, seval] <;> omega))
  intro i e H hi0
  obtain ⟨xs, q0_0, q7_0, q5_0, q8_0, g0_0, n0_0, hi, hl, hx⟩ := (hI0 _ _ _).1 hi0
  have x0 := frs n0_0
  have F0 := And.intro q0_0 (And.intro q7_0 (And.intro q5_0 (And.intro q8_0 (And.intro g0_0 x0))))
  try simp [go_sem, seval, F0]
  refine condQ_mk (fun h3 => ?_) (fun h3 => ?_)
  · try simp [go_sem] at h3
    try simp [go_sem, seval, F0, h3]
    repeat (first | intro _ | (refine ⟨obl, ?_⟩))
    refine callQ_pure0 (contains_int l i) ((by first | rfl | (simp [go_sem, ← List.map_take, ← List.map_drop, F0, h3]; done))) ?_
    try simp [go_sem, seval, F0, h3]
    repeat (first | intro _ | (refine ⟨obl, ?_⟩))
    refine condQ_mk (fun h5 => ?_) (fun h5 => ?_)
    · try simp [go_sem] at h5
      try simp [go_sem, seval, F0, h3, h5]
      repeat (first | intro _ | (refine ⟨obl, ?_⟩))
      refine nextQ_mk (i + 1) (by omega) ((hI0 _ _ _).2 ⟨(xs ++ (if (!mem l i) = true then [(i : Int)] else [])), ?_, ?_, ?_, ?_, ?_, ?_, (by first | assumption | omega | (simp [go_sem, F0, h3, h5]; done) | (simp_all; done) | (simp_all; omega)), (by (rw [List.length_append]; split <;> simp <;> omega)), (by (rw [range_filter_succ, ← hx]))⟩) <;> first | omega | (simp [go_sem, seval, F0, h3, h5] <;> omega)
    · try simp [go_sem] at h5
      try simp [go_sem, seval, F0, h3, h5]
      repeat (first | intro _ | (refine ⟨obl, ?_⟩))
      refine nextQ_mk (i + 1) (by omega) ((hI0 _ _ _).2 ⟨(xs ++ (if (!mem l i) = true then [(i : Int)] else [])), ?_, ?_, ?_, ?_, ?_, ?_, (by first | assumption | omega | (simp [go_sem, F0, h3, h5]; done) | (simp_all; done) | (simp_all; omega)), (by (rw [List.length_append]; split <;> simp <;> omega)), (by (rw [range_filter_succ, ← hx]))⟩) <;> first | omega | (simp [go_sem, seval, F0, h3, h5] <;> omega)
  · try simp [go_sem] at h3
    try simp [go_sem, seval, F0]
    exact hQ _ _ (by first | (left; (simp [go_sem, F0, othersL]; rw [hx, show i = n by omega]; simp); done) | (right; (simp [go_sem, F0, othersL]; rw [hx, show i = n by omega]; simp); done))
def keptF (r : Rule) : Int :=
  if subF r.left.graph r.keep ≠ 0 then subF r.left.graph r.keep
  else if morphF (extractG r.left.graph r.keep) r.right.graph r.into ≠ 0 then morphF (extractG r.left.graph r.keep) r.right.graph r.into
  else if injB (extractG r.left.graph r.keep) r.right.graph r.into = false then 11 else 0
structure Rule.ok (r : Rule) : Prop where
  name : r.name.size ≤ 100000
  k1 : r.keep.nodes.length ≤ 1000000
  k2 : r.keep.edges.length ≤ 1000000
  i1 : r.into.nodes.length ≤ 1000000
  i2 : r.into.edges.length ≤ 1000000
  cond : r.cond.ok
  size : r.cond.size ≤ 1000000
theorem rule_kept (r : Rule) (hr : r.ok) : Pure Tryz.prog 275 [r.d] (dI (keptF r)) := by
  obtain ⟨_, hk1, hk2, hi1, hi2, _, _⟩ := hr
  refine pureK (by first | rfl | (simp [go_sem]; done)) (fun Q hQ => (acalls_of_body (cfg := ⟨fun t => t == 3 || t == 4, fun _ => []⟩) Tz.mixed Tryz.func275 rfl rfl (Nat.le_of_ble_eq_true rfl) (by kernel_rfl) ?_))
  try simp [go_sem, seval]
  refine callQ_pure0 (subgraph_Extract r.left.graph r.keep hk1 hk2) ((by first | rfl | (simp [go_sem, ← List.map_take, ← List.map_drop]; done))) ?_
  try simp [go_sem, seval]
  refine condQ_mk (fun h2 => ?_) (fun h2 => ?_)
  · try simp [go_sem] at h2
    try simp [go_sem, seval]
    exact hQ _ _ (by simp [go_sem, h2, keptF] <;> first | omega | (rw [Bool.eq_iff_iff]; simp <;> omega) | (simp_all <;> omega))
  · try simp [go_sem] at h2
    try simp [go_sem, seval]
    refine callQ_pure0 (morphism_Valid (extractG r.left.graph r.keep) r.right.graph r.into) ((by first | rfl | (simp [go_sem, ← List.map_take, ← List.map_drop]; done))) ?_
    try simp [go_sem, seval]
    refine condQ_mk (fun h5 => ?_) (fun h5 => ?_)
    · try simp [go_sem] at h5
      try simp [go_sem, seval]
      exact hQ _ _ (by simp [go_sem, h2, h5, keptF] <;> first | omega | (rw [Bool.eq_iff_iff]; simp <;> omega) | (simp_all <;> omega))
    · try simp [go_sem] at h5
      try simp [go_sem, seval]
      repeat (first | intro _ | (refine ⟨obl, ?_⟩))
      refine callQ_pure0 (morphism_Injective (extractG r.left.graph r.keep) r.right.graph r.into hi1 hi2) ((by first | rfl | (simp [go_sem, ← List.map_take, ← List.map_drop]; done))) ?_
      try simp [go_sem, seval]
      repeat (first | intro _ | (refine ⟨obl, ?_⟩))
      refine condQ_mk (fun h7 => ?_) (fun h7 => ?_)
      · try simp [go_sem] at h7
        try simp [go_sem, seval]
        exact hQ _ _ (by simp [go_sem, h2, h5, h7, keptF] <;> first | omega | (rw [Bool.eq_iff_iff]; simp <;> omega) | (simp_all <;> omega))
      · try simp [go_sem] at h7
        try simp [go_sem, seval]
        exact hQ _ _ (by simp [go_sem, h2, h5, h7, keptF] <;> first | omega | (rw [Bool.eq_iff_iff]; simp <;> omega) | (simp_all <;> omega))
def absB (t : Types) (g : Graph) (i : Int) : Bool := ((t.nodes[(gN g i).toNat]?).map (·.abs)).getD false
def unfitB (t : Types) (g : Graph) (k : Int) : Bool := !fitsT t (g.edges[k.toNat]?.getD zeroEdge).type (gN g (g.edges[k.toNat]?.getD zeroEdge).from_) (gN g (g.edges[k.toNat]?.getD zeroEdge).to_)
def makeB (t : Types) (g : Graph) (nodes edges : List Int) : Bool := (!(nodes.any (absB t g))) && !(edges.any (unfitB t g))
theorem typedB_in {t : Types} {g : Graph} (h0 : graphF g = 0) (h : typedB t g = true) : (∀ a ∈ g.nodes, 0 ≤ a ∧ a < t.nodes.length) ∧ ∀ x ∈ g.edges, (0 ≤ x.type ∧ x.type < t.edges.length) ∧ (0 ≤ x.from_ ∧ x.from_ < g.nodes.length) ∧ (0 ≤ x.to_ ∧ x.to_ < g.nodes.length) := by
  obtain ⟨h1, h2⟩ := graphF_in h0
  simp [typedB] at h
  exact ⟨fun a ha => ⟨(h1 a ha).1, h.1 a ha⟩, fun x hx => ⟨⟨(h2 x hx).1.1, h.2 x hx⟩, (h2 x hx).2⟩⟩
theorem rule_makable1 (t : Types) (g : Graph) (h0 : graphF g = 0) (hT : typedB t g = true) (i : Int) (hi0 : 0 ≤ i) (hi1 : i < g.nodes.length) : Pure Tryz.prog 310 [dI i, .adr t.c, .adr g.c] (.bool (absB t g i)) := by
  have hk : i.toNat < g.nodes.length := by omega
  have hin := (typedB_in h0 hT).1 _ (List.getElem_mem hk)
  have hn : g.nodes[i.toNat].toNat < t.nodes.length := by omega
  refine pureK (by first | rfl | (simp [go_sem]; done)) (fun Q hQ => (acalls_of_body (cfg := ⟨fun _ => false, fun _ => []⟩) Tz.mixed Tryz.func310 rfl rfl (Nat.le_of_ble_eq_true rfl) (by kernel_rfl) ?_))
  try simp [go_sem, seval, List.getElem?_eq_getElem hk, List.getElem?_eq_getElem hn]
  repeat (first | intro _ | (refine ⟨obl, ?_⟩))
  exact hQ _ _ (by simp [go_sem, List.getElem?_eq_getElem hk, List.getElem?_eq_getElem hn, absB, gN] <;> first | omega | (rw [Bool.eq_iff_iff]; simp <;> omega) | (simp_all <;> omega))
theorem rule_makable2 (t : Types) (ht : t.ok) (g : Graph) (h0 : graphF g = 0) (hT : typedB t g = true) (k : Int) (hi0 : 0 ≤ k) (hi1 : k < g.edges.length) : Pure Tryz.prog 311 [dI k, .adr g.c, .adr t.c] (.bool (unfitB t g k)) := by
  have hk : k.toNat < g.edges.length := by omega
  have hin := (typedB_in h0 hT).2 _ (List.getElem_mem hk)
  have hf : g.edges[k.toNat].from_.toNat < g.nodes.length := by omega
  have hto : g.edges[k.toNat].to_.toNat < g.nodes.length := by omega
  refine pureK (by first | rfl | (simp [go_sem]; done)) (fun Q hQ => (acalls_of_body (cfg := ⟨fun t => t == 5, fun _ => []⟩) Tz.mixed Tryz.func311 rfl rfl (Nat.le_of_ble_eq_true rfl) (by kernel_rfl) ?_))
  try simp [go_sem, seval, List.getElem?_eq_getElem hk, List.getElem?_eq_getElem hf, List.getElem?_eq_getElem hto]
  repeat (first | intro _ | (refine ⟨obl, ?_⟩))
  refine dcallQ_pure0 (types_Fits t ht _ _ _) ((by first | rfl | (simp [go_sem, ← List.map_take, ← List.map_drop, List.getElem?_eq_getElem hk, List.getElem?_eq_getElem hf, List.getElem?_eq_getElem hto]; done))) ?_
  try simp [go_sem, seval, List.getElem?_eq_getElem hk, List.getElem?_eq_getElem hf, List.getElem?_eq_getElem hto]
  repeat (first | intro _ | (refine ⟨obl, ?_⟩))
  exact hQ _ _ (by simp [go_sem, List.getElem?_eq_getElem hk, List.getElem?_eq_getElem hf, List.getElem?_eq_getElem hto, unfitB, gN] <;> first | omega | (rw [Bool.eq_iff_iff]; simp <;> omega) | (simp_all <;> omega))
theorem rule_makable (t : Types) (ht : t.ok) (g : Graph) (h0 : graphF g = 0) (hT : typedB t g = true) (nodes edges : List Int) (hn : ∀ i ∈ nodes, 0 ≤ i ∧ i < g.nodes.length) (he : ∀ k ∈ edges, 0 ≤ k ∧ k < g.edges.length) : Pure Tryz.prog 276 [t.d, g.d, dLI nodes, dLI edges] (.bool (makeB t g nodes edges)) := by
  have h1 := containsFunc_int nodes 310 [.adr t.c, .adr g.c] (absB t g) (by simp [go_sem]) (by simp [go_sem]) (fun i hi => rule_makable1 t g h0 hT i (hn i hi).1 (hn i hi).2)
  have h2 := containsFunc_int edges 311 [.adr g.c, .adr t.c] (unfitB t g) (by simp [go_sem]) (by simp [go_sem]) (fun k hk => rule_makable2 t ht g h0 hT k (he k hk).1 (he k hk).2)
  have hM : makeB t g nodes edges = ((!(nodes.any (absB t g))) && !(edges.any (unfitB t g))) := rfl
  generalize nodes.any (absB t g) = u at *
  generalize edges.any (unfitB t g) = v at *
  rw [hM]
  refine pureK (by first | rfl | (simp [go_sem]; done)) (fun Q hQ => (acalls_of_body (cfg := ⟨fun _ => false, fun _ => []⟩) Tz.mixed Tryz.func276 rfl rfl (Nat.le_of_ble_eq_true rfl) (by kernel_rfl) ?_))
  try simp [go_sem, seval]
  repeat (first | intro _ | (refine ⟨obl, ?_⟩))
  refine callQ_pure0 (h1) ((by first | rfl | (simp [go_sem, ← List.map_take, ← List.map_drop]; done))) ?_
  try simp [go_sem, seval]
  repeat (first | intro _ | (refine ⟨obl, ?_⟩))
  refine gcallQ_pure0 (fun hg => h2) (fun hg => (by first | rfl | (simp [go_sem, ← List.map_take, ← List.map_drop]; done))) ?_
  try simp [go_sem, seval]
  repeat (first | intro _ | (refine ⟨obl, ?_⟩))
  exact hQ _ _ (by simp [go_sem] <;> first | omega | (rw [Bool.eq_iff_iff]; simp <;> omega) | (simp_all <;> omega))
def Rule.freshN (r : Rule) : List Int := othersL r.into.nodes r.right.graph.nodes.length
def Rule.freshE (r : Rule) : List Int := othersL r.into.edges r.right.graph.edges.length
def Rule.goneN (r : Rule) : List Int := othersL r.keep.nodes r.left.graph.nodes.length
def Rule.goneE (r : Rule) : List Int := othersL r.keep.edges r.left.graph.edges.length
theorem rule_created (r : Rule) (h1 : r.right.graph.nodes.length ≤ 1000000) (h2 : r.right.graph.edges.length ≤ 1000000) : Pure Tryz.prog 244 [r.d] (.tup [dLI r.freshN, dLI r.freshE]) := by
  refine pureK (by first | rfl | (simp [go_sem]; done)) (fun Q hQ => (acalls_of_body (cfg := ⟨fun _ => false, fun _ => []⟩) Tz.mixed Tryz.func244 rfl rfl (Nat.le_of_ble_eq_true rfl) (by kernel_rfl) ?_))
  try simp [go_sem, seval]
  repeat (first | intro _ | (refine ⟨obl, ?_⟩))
  refine dcallQ_pure0 (rule_others r.into.nodes _ h1) ((by first | rfl | (simp [go_sem, ← List.map_take, ← List.map_drop]; done))) ?_
  try simp [go_sem, seval]
  repeat (first | intro _ | (refine ⟨obl, ?_⟩))
  refine dcallQ_pure0 (rule_others r.into.edges _ h2) ((by first | rfl | (simp [go_sem, ← List.map_take, ← List.map_drop]; done))) ?_
  try simp [go_sem, seval]
  repeat (first | intro _ | (refine ⟨obl, ?_⟩))
  exact hQ _ _ (by simp [go_sem, Rule.freshN, Rule.freshE] <;> first | omega | (rw [Bool.eq_iff_iff]; simp <;> omega) | (simp_all <;> omega))
theorem rule_deleted (r : Rule) (h1 : r.left.graph.nodes.length ≤ 1000000) (h2 : r.left.graph.edges.length ≤ 1000000) : Pure Tryz.prog 243 [r.d] (.tup [dLI r.goneN, dLI r.goneE]) := by
  refine pureK (by first | rfl | (simp [go_sem]; done)) (fun Q hQ => (acalls_of_body (cfg := ⟨fun _ => false, fun _ => []⟩) Tz.mixed Tryz.func243 rfl rfl (Nat.le_of_ble_eq_true rfl) (by kernel_rfl) ?_))
  try simp [go_sem, seval]
  repeat (first | intro _ | (refine ⟨obl, ?_⟩))
  refine dcallQ_pure0 (rule_others r.keep.nodes _ h1) ((by first | rfl | (simp [go_sem, ← List.map_take, ← List.map_drop]; done))) ?_
  try simp [go_sem, seval]
  repeat (first | intro _ | (refine ⟨obl, ?_⟩))
  refine dcallQ_pure0 (rule_others r.keep.edges _ h2) ((by first | rfl | (simp [go_sem, ← List.map_take, ← List.map_drop]; done))) ?_
  try simp [go_sem, seval]
  repeat (first | intro _ | (refine ⟨obl, ?_⟩))
  exact hQ _ _ (by simp [go_sem, Rule.goneN, Rule.goneE] <;> first | omega | (rw [Bool.eq_iff_iff]; simp <;> omega) | (simp_all <;> omega))
def ruleF (t : Types) (r : Rule) : Int :=
  if (validF t).2 ≠ 0 then (validF t).2
  else if isName r.name = false then 2
  else if patternF t r.left ≠ 0 then patternF t r.left
  else if rightF t r ≠ 0 then rightF t r
  else if keptF r ≠ 0 then keptF r
  else if makeB t r.right.graph r.freshN r.freshE = false then 13
  else condF t r.left r.cond
theorem rightF_of {t : Types} {r : Rule} (h : rightF t r = 0) : graphF r.right.graph = 0 ∧ typedB t r.right.graph = true := by
  unfold rightF at h
  split at h
  · rename_i h1; exact absurd h h1
  · rename_i h1
    split at h
    · cases h
    · rename_i h2; exact ⟨by omega, by simpa using h2⟩
theorem rule_Valid (t : Types) (ht : t.ok) (r : Rule) (hr : r.ok) : Pure Tryz.prog 242 [t.d, r.d] (dI (ruleF t r)) := by
  have hcv := condition_Valid t ht r.left r.cond hr.cond hr.size
  rw [Cond.c_eq] at hcv
  refine pureK (by first | rfl | (simp [go_sem]; done)) (fun Q hQ => (acalls_of_body (cfg := ⟨fun _ => false, fun _ => []⟩) Tz.mixed Tryz.func242 rfl rfl (Nat.le_of_ble_eq_true rfl) (by kernel_rfl) ?_))
  try simp [go_sem, seval]
  refine callQ_pure0 (types_Valid t ht) ((by first | rfl | (simp [go_sem, ← List.map_take, ← List.map_drop]; done))) ?_
  try simp [go_sem, seval]
  refine condQ_mk (fun h2 => ?_) (fun h2 => ?_)
  · try simp [go_sem] at h2
    try simp [go_sem, seval]
    exact hQ _ _ (by simp [go_sem, h2, ruleF] <;> first | omega | (rw [Bool.eq_iff_iff]; simp <;> omega) | (simp_all <;> omega))
  · try simp [go_sem] at h2
    try simp [go_sem, seval]
    repeat (first | intro _ | (refine ⟨obl, ?_⟩))
    refine callQ_pure0 (token_IsName r.name hr.name) ((by first | rfl | (simp [go_sem, ← List.map_take, ← List.map_drop]; done))) ?_
    try simp [go_sem, seval]
    repeat (first | intro _ | (refine ⟨obl, ?_⟩))
    refine condQ_mk (fun h4 => ?_) (fun h4 => ?_)
    · try simp [go_sem] at h4
      try simp [go_sem, seval]
      exact hQ _ _ (by simp [go_sem, h2, h4, ruleF] <;> first | omega | (rw [Bool.eq_iff_iff]; simp <;> omega) | (simp_all <;> omega))
    · try simp [go_sem] at h4
      try simp [go_sem, seval]
      refine callQ_pure0 (attribute_Valid t ht r.left) ((by first | rfl | (simp [go_sem, ← List.map_take, ← List.map_drop]; done))) ?_
      try simp [go_sem, seval]
      refine condQ_mk (fun h7 => ?_) (fun h7 => ?_)
      · try simp [go_sem] at h7
        try simp [go_sem, seval]
        exact hQ _ _ (by simp [go_sem, h2, h4, h7, ruleF] <;> first | omega | (rw [Bool.eq_iff_iff]; simp <;> omega) | (simp_all <;> omega))
      · try simp [go_sem] at h7
        try simp [go_sem, seval]
        refine callQ_pure0 (rule_right t ht r) ((by first | rfl | (simp [go_sem, ← List.map_take, ← List.map_drop]; done))) ?_
        try simp [go_sem, seval]
        refine condQ_mk (fun h10 => ?_) (fun h10 => ?_)
        · try simp [go_sem] at h10
          try simp [go_sem, seval]
          exact hQ _ _ (by simp [go_sem, h2, h4, h7, h10, ruleF] <;> first | omega | (rw [Bool.eq_iff_iff]; simp <;> omega) | (simp_all <;> omega))
        · try simp [go_sem] at h10
          have hg := rightF_of h10
          have hgl := graphF_le hg.1
          try simp [go_sem, seval]
          refine callQ_pure0 (rule_kept r hr) ((by first | rfl | (simp [go_sem, ← List.map_take, ← List.map_drop]; done))) ?_
          try simp [go_sem, seval]
          refine condQ_mk (fun h13 => ?_) (fun h13 => ?_)
          · try simp [go_sem] at h13
            try simp [go_sem, seval]
            exact hQ _ _ (by simp [go_sem, h2, h4, h7, h10, h13, ruleF] <;> first | omega | (rw [Bool.eq_iff_iff]; simp <;> omega) | (simp_all <;> omega))
          · try simp [go_sem] at h13
            try simp [go_sem, seval]
            refine callQ_pure0 (rule_created r (by omega) (by omega)) ((by first | rfl | (simp [go_sem, ← List.map_take, ← List.map_drop]; done))) ?_
            try simp [go_sem, seval]
            repeat (first | intro _ | (refine ⟨obl, ?_⟩))
            refine callQ_pure0 (rule_makable t ht r.right.graph hg.1 hg.2 r.freshN r.freshE (fun i hi => othersL_mem hi) (fun i hi => othersL_mem hi)) ((by first | rfl | (simp [go_sem, ← List.map_take, ← List.map_drop]; done))) ?_
            try simp [go_sem, seval]
            repeat (first | intro _ | (refine ⟨obl, ?_⟩))
            refine condQ_mk (fun h16 => ?_) (fun h16 => ?_)
            · try simp [go_sem] at h16
              try simp [go_sem, seval]
              exact hQ _ _ (by simp [go_sem, h2, h4, h7, h10, h13, h16, ruleF] <;> first | omega | (rw [Bool.eq_iff_iff]; simp <;> omega) | (simp_all <;> omega))
            · try simp [go_sem] at h16
              try simp [go_sem, seval]
              refine callQ_pure0 (hcv) ((by first | rfl | (simp [go_sem, ← List.map_take, ← List.map_drop]; done))) ?_
              try simp [go_sem, seval]
              exact hQ _ _ (by simp [go_sem, h2, h4, h7, h10, h13, h16, ruleF] <;> first | omega | (rw [Bool.eq_iff_iff]; simp <;> omega) | (simp_all <;> omega))
end Go.Abs
end
