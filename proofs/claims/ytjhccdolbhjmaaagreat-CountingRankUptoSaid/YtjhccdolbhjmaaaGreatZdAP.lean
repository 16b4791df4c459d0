/- Layer 18: graphs that fit their types. · Layer 39: the weight of a graph. · The bounds that the laws set. · The bound on types. -/
import Derived.Test.YtjhccdolbhjmaaaGreatZdAO
import Derived.Test.YtjhccdolbhjmaaaGreatZdAA
section
set_option linter.unusedVariables false
set_option linter.unusedSimpArgs false
set_option maxRecDepth 8000
open Go Go.Proofs
namespace Go.Abs
def edge18 (t : Types) (g : Graph) (x : Edge) : Int := if (t.edges.length : Int) ≤ x.type then 6 else if fitsT t x.type (gN g x.from_) (gN g x.to_) = true then 0 else 13
def typed18 (t : Types) (g : Graph) : Int :=
  if (validF t).2 ≠ 0 then (validF t).2
  else if graphF g ≠ 0 then graphF g
  else if (g.nodes.any fun a => decide ((t.nodes.length : Int) ≤ a)) = true then 6
  else listE (edge18 t g) g.edges
theorem typed18_of {t : Types} {g : Graph} (h : typed18 t g = 0) : (validF t).2 = 0 ∧ graphF g = 0 ∧ (∀ a ∈ g.nodes, 0 ≤ a ∧ a < t.nodes.length) ∧ ∀ x ∈ g.edges, edge18 t g x = 0 := by
  unfold typed18 at h
  split at h
  · rename_i h1; exact absurd h h1
  · split at h
    · rename_i h1; exact absurd h h1
    · split at h
      · cases h
      · rename_i h1 h2 h3
        have hg := graphF_in (show graphF g = 0 by omega)
        refine ⟨by omega, by omega, fun a ha => ⟨(hg.1 a ha).1, ?_⟩, ?_⟩
        · simp at h3; exact h3 a ha
        · have : ∀ l : List Edge, listE (edge18 t g) l = 0 → ∀ x ∈ l, edge18 t g x = 0 := by
            intro l
            induction l with
            | nil => intro _ x hx; cases hx
            | cons a l ih =>
              intro h x hx
              simp only [listE] at h
              split at h
              · rename_i h4; exact absurd h h4
              · rename_i h4
                rcases List.mem_cons.1 hx with rfl | hx
                · omega
                · exact ih h x hx
          exact this _ h
theorem statistic_typed (t : Types) (ht : t.ok) (g : Graph) : Pure Tryz.prog 76 [t.d, g.d] (dI (typed18 t g)) := by
  refine pureK (by first | rfl | (simp [go_sem]; done)) (fun Q hQ => (acalls_of_body (cfg := ⟨fun t => t == 11, fun _ => []⟩) Tz.mixed Tryz.func76 rfl rfl (Nat.le_of_ble_eq_true rfl) (by kernel_rfl) ?_))
  try simp [go_sem, seval]
  refine callQ_pure0 (types_Valid t ht) ((by first | rfl | (simp [go_sem, ← List.map_take, ← List.map_drop]; done))) ?_
  try simp [go_sem, seval]
  refine condQ_mk (fun h2 => ?_) (fun h2 => ?_)
  · try simp [go_sem] at h2
    try simp [go_sem, seval]
    exact hQ _ _ (by first | (left; (simp [go_sem, typed18, h2]); done) | (right; (simp [go_sem, typed18, h2]); done))
  · try simp [go_sem] at h2
    try simp [go_sem, seval]
    refine callQ_pure0 (graph_Valid g) ((by first | rfl | (simp [go_sem, ← List.map_take, ← List.map_drop]; done))) ?_
    try simp [go_sem, seval]
    refine condQ_mk (fun h5 => ?_) (fun h5 => ?_)
    · try simp [go_sem] at h5
      try simp [go_sem, seval]
      exact hQ _ _ (by first | (left; (simp [go_sem, typed18, h2, h5]); done) | (right; (simp [go_sem, typed18, h2, h5]); done))
    · try simp [go_sem] at h5
      have hg := graphF_in h5
      have hle := graphF_le h5
      try simp [go_sem, seval]
      repeat (first | intro _ | (refine ⟨obl, ?_⟩))
      obtain ⟨I0, hI0⟩ : ∃ I0 : Nat → Env → AHeap → Prop, ∀ (i : Nat) (e : Env) (H : AHeap), I0 i e H ↔ ((e 2 = .adr t.c) ∧ (e 3 = .adr g.c) ∧ (e 26 = dLI g.nodes) ∧ (e 27 = dI g.nodes.length) ∧ (e 28 = dI i) ∧ (i ≤ g.nodes.length) ∧ (((g.nodes.take i).any fun a => decide ((t.nodes.length : Int) ≤ a)) = false)) := ⟨fun i e H => _, fun _ _ _ => Iff.rfl⟩
      refine loopK I0 (fun i => g.nodes.length - i) (0) ((hI0 _ _ _).2 ⟨?_, ?_, ?_, ?_, ?_, (by first | assumption | omega | (simp [go_sem]; done) | (simp_all; done)), (by rfl)⟩) ?_
      iterate 5 (first | omega | (simp [go_sem, seval] <;> omega))
      intro i e H hi0
      obtain ⟨q2_0, q3_0, q26_0, q27_0, q28_0, hi, ha⟩ := (hI0 _ _ _).1 hi0
      have F0 := And.intro q2_0 (And.intro q3_0 (And.intro q26_0 (And.intro q27_0 q28_0)))
      try simp [go_sem, seval, F0]
      refine condQ_mk (fun h8 => ?_) (fun h8 => ?_)
      · try simp [go_sem] at h8
        try simp [go_sem, seval, F0, h8]
        repeat (first | intro _ | (refine ⟨obl, ?_⟩))
        refine condQ_mk (fun h10 => ?_) (fun h10 => ?_)
        · try simp [go_sem] at h10
          try simp [go_sem, seval, F0, h8]
          have hb : (g.nodes.any fun a => decide ((t.nodes.length : Int) ≤ a)) = true := List.any_eq_true.2 ⟨_, List.getElem_mem h8, by simp; omega⟩
          have hT : typed18 t g = 6 := by unfold typed18; rw [if_neg (by omega), if_neg (by omega), if_pos hb]
          exact hQ _ _ (by first | (left; (simp [go_sem, hT]); done) | (right; (simp [go_sem, hT]); done))
        · try simp [go_sem] at h10
          try simp [go_sem, seval, F0, h8]
          repeat (first | intro _ | (refine ⟨obl, ?_⟩))
          refine nextQ_mk (i + 1) (by omega) ((hI0 _ _ _).2 ⟨?_, ?_, ?_, ?_, ?_, (by first | assumption | omega | (simp [go_sem, F0, h8, h2, h5, h10]; done) | (simp_all; done) | (simp_all; omega)), (by (rw [any_take_succ _ _ _ h8, ha]; simp; omega))⟩) <;> first | omega | (simp [go_sem, seval, F0, h8] <;> omega)
      · try simp [go_sem] at h8
        have hN := any_end ha h8
        have hT : typed18 t g = listE (edge18 t g) g.edges := by unfold typed18; rw [if_neg (by omega), if_neg (by omega), if_neg (by rw [hN]; simp)]
        try simp [go_sem, seval, F0]
        repeat (first | intro _ | (refine ⟨obl, ?_⟩))
        obtain ⟨I2, hI2⟩ : ∃ I2 : Nat → Env → AHeap → Prop, ∀ (k : Nat) (e : Env) (H : AHeap), I2 k e H ↔ ((e 2 = .adr t.c) ∧ (e 3 = .adr g.c) ∧ (e 39 = .list (g.edges.map Edge.c)) ∧ (e 40 = dI g.edges.length) ∧ (e 41 = dI k) ∧ (k ≤ g.edges.length) ∧ (listE (edge18 t g) (g.edges.drop k) = typed18 t g)) := ⟨fun k e H => _, fun _ _ _ => Iff.rfl⟩
        refine loopK I2 (fun k => g.edges.length - k) (0) ((hI2 _ _ _).2 ⟨?_, ?_, ?_, ?_, ?_, (by first | assumption | omega | (simp [go_sem, F0]; done) | (simp_all; done)), (by (exact hT.symm))⟩) ?_
        iterate 5 (first | omega | (simp [go_sem, seval, F0] <;> omega))
        intro k e H hi2
        obtain ⟨q2_2, q3_2, q39_2, q40_2, q41_2, hk, hL⟩ := (hI2 _ _ _).1 hi2
        have F2 := And.intro q2_2 (And.intro q3_2 (And.intro q39_2 (And.intro q40_2 q41_2)))
        try simp [go_sem, seval, F2]
        refine condQ_mk (fun h14 => ?_) (fun h14 => ?_)
        · try simp [go_sem] at h14
          have hst := hL
          rw [listE_step _ h14] at hst
          have he := hg.2 _ (List.getElem_mem h14)
          have hf : g.edges[k].from_.toNat < g.nodes.length := by omega
          have hto : g.edges[k].to_.toNat < g.nodes.length := by omega
          have hgf : gN g g.edges[k].from_ = g.nodes[g.edges[k].from_.toNat] := by simp [gN, List.getElem?_eq_getElem hf]
          have hgt : gN g g.edges[k].to_ = g.nodes[g.edges[k].to_.toNat] := by simp [gN, List.getElem?_eq_getElem hto]
          try simp [go_sem, seval, F2, h14, List.getElem?_eq_getElem hf, List.getElem?_eq_getElem hto]
          repeat (first | intro _ | (refine ⟨obl, ?_⟩))
          refine condQ_mk (fun h16 => ?_) (fun h16 => ?_)
          · try simp [go_sem] at h16
            have hE : edge18 t g g.edges[k] = 6 := if_pos (by omega)
            rw [hE, if_pos (by omega)] at hst
            try simp [go_sem, seval, F2, h14, List.getElem?_eq_getElem hf, List.getElem?_eq_getElem hto]
            exact hQ _ _ (by first | (left; (simp [go_sem, ← hst]); done) | (right; (simp [go_sem, ← hst]); done))
          · try simp [go_sem] at h16
            try simp [go_sem, seval, F2, h14, List.getElem?_eq_getElem hf, List.getElem?_eq_getElem hto]
            repeat (first | intro _ | (refine ⟨obl, ?_⟩))
            refine dcallQ_pure0 (types_Fits t ht _ _ _) ((by first | rfl | (simp [go_sem, ← List.map_take, ← List.map_drop, F2, h14, List.getElem?_eq_getElem hf, List.getElem?_eq_getElem hto]; done))) ?_
            try simp [go_sem, seval, F2, h14, List.getElem?_eq_getElem hf, List.getElem?_eq_getElem hto]
            repeat (first | intro _ | (refine ⟨obl, ?_⟩))
            refine condQ_mk (fun h18 => ?_) (fun h18 => ?_)
            · try simp [go_sem] at h18
              have hE : edge18 t g g.edges[k] = 13 := by unfold edge18; rw [if_neg (by omega), if_neg (by rw [hgf, hgt, h18]; simp)]
              rw [hE, if_pos (by omega)] at hst
              try simp [go_sem, seval, F2, h14, List.getElem?_eq_getElem hf, List.getElem?_eq_getElem hto]
              exact hQ _ _ (by first | (left; (simp [go_sem, ← hst]); done) | (right; (simp [go_sem, ← hst]); done))
            · try simp [go_sem] at h18
              have hE : edge18 t g g.edges[k] = 0 := by unfold edge18; rw [if_neg (by omega), if_pos (by rw [hgf, hgt, h18])]
              rw [hE, if_neg (by omega)] at hst
              try simp [go_sem, seval, F2, h14, List.getElem?_eq_getElem hf, List.getElem?_eq_getElem hto]
              repeat (first | intro _ | (refine ⟨obl, ?_⟩))
              refine nextQ_mk (k + 1) (by omega) ((hI2 _ _ _).2 ⟨?_, ?_, ?_, ?_, ?_, (by first | assumption | omega | (simp [go_sem, F2, h14, List.getElem?_eq_getElem hf, List.getElem?_eq_getElem hto, h2, h5, h8, h16, h18]; done) | (simp_all; done) | (simp_all; omega)), (by exact hst)⟩) <;> first | omega | (simp [go_sem, seval, F2, h14, List.getElem?_eq_getElem hf, List.getElem?_eq_getElem hto] <;> omega)
        · try simp [go_sem] at h14
          try simp [go_sem, seval, F2]
          have hT0 : typed18 t g = 0 := by rw [← hL, listE_end _ (by omega)]
          exact hQ _ _ (by first | (left; (simp [go_sem, hT0]); done) | (right; (simp [go_sem, hT0]); done))
theorem weight_typed (t : Types) (ht : t.ok) (g : Graph) : Pure Tryz.prog 78 [t.d, g.d] (dI (typed18 t g)) := by
  refine pureK (by first | rfl | (simp [go_sem]; done)) (fun Q hQ => (acalls_of_body (cfg := ⟨fun t => t == 11, fun _ => []⟩) Tz.mixed Tryz.func78 rfl rfl (Nat.le_of_ble_eq_true rfl) (by kernel_rfl) ?_))
  try simp [go_sem, seval]
  refine callQ_pure0 (types_Valid t ht) ((by first | rfl | (simp [go_sem, ← List.map_take, ← List.map_drop]; done))) ?_
  try simp [go_sem, seval]
  refine condQ_mk (fun h2 => ?_) (fun h2 => ?_)
  · try simp [go_sem] at h2
    try simp [go_sem, seval]
    exact hQ _ _ (by first | (left; (simp [go_sem, typed18, h2]); done) | (right; (simp [go_sem, typed18, h2]); done))
  · try simp [go_sem] at h2
    try simp [go_sem, seval]
    refine callQ_pure0 (graph_Valid g) ((by first | rfl | (simp [go_sem, ← List.map_take, ← List.map_drop]; done))) ?_
    try simp [go_sem, seval]
    refine condQ_mk (fun h5 => ?_) (fun h5 => ?_)
    · try simp [go_sem] at h5
      try simp [go_sem, seval]
      exact hQ _ _ (by first | (left; (simp [go_sem, typed18, h2, h5]); done) | (right; (simp [go_sem, typed18, h2, h5]); done))
    · try simp [go_sem] at h5
      have hg := graphF_in h5
      have hle := graphF_le h5
      try simp [go_sem, seval]
      repeat (first | intro _ | (refine ⟨obl, ?_⟩))
      obtain ⟨I0, hI0⟩ : ∃ I0 : Nat → Env → AHeap → Prop, ∀ (i : Nat) (e : Env) (H : AHeap), I0 i e H ↔ ((e 2 = .adr t.c) ∧ (e 3 = .adr g.c) ∧ (e 26 = dLI g.nodes) ∧ (e 27 = dI g.nodes.length) ∧ (e 28 = dI i) ∧ (i ≤ g.nodes.length) ∧ (((g.nodes.take i).any fun a => decide ((t.nodes.length : Int) ≤ a)) = false)) := ⟨fun i e H => _, fun _ _ _ => Iff.rfl⟩
      refine loopK I0 (fun i => g.nodes.length - i) (0) ((hI0 _ _ _).2 ⟨?_, ?_, ?_, ?_, ?_, (by first | assumption | omega | (simp [go_sem]; done) | (simp_all; done)), (by rfl)⟩) ?_
      iterate 5 (first | omega | (simp [go_sem, seval] <;> omega))
      intro i e H hi0
      obtain ⟨q2_0, q3_0, q26_0, q27_0, q28_0, hi, ha⟩ := (hI0 _ _ _).1 hi0
      have F0 := And.intro q2_0 (And.intro q3_0 (And.intro q26_0 (And.intro q27_0 q28_0)))
      try simp [go_sem, seval, F0]
      refine condQ_mk (fun h8 => ?_) (fun h8 => ?_)
      · try simp [go_sem] at h8
        try simp [go_sem, seval, F0, h8]
        repeat (first | intro _ | (refine ⟨obl, ?_⟩))
        refine condQ_mk (fun h10 => ?_) (fun h10 => ?_)
        · try simp [go_sem] at h10
          try simp [go_sem, seval, F0, h8]
          have hb : (g.nodes.any fun a => decide ((t.nodes.length : Int) ≤ a)) = true := List.any_eq_true.2 ⟨_, List.getElem_mem h8, by simp; omega⟩
          have hT : typed18 t g = 6 := by unfold typed18; rw [if_neg (by omega), if_neg (by omega), if_pos hb]
          exact hQ _ _ (by first | (left; (simp [go_sem, hT]); done) | (right; (simp [go_sem, hT]); done))
        · try simp [go_sem] at h10
          try simp [go_sem, seval, F0, h8]
          repeat (first | intro _ | (refine ⟨obl, ?_⟩))
          refine nextQ_mk (i + 1) (by omega) ((hI0 _ _ _).2 ⟨?_, ?_, ?_, ?_, ?_, (by first | assumption | omega | (simp [go_sem, F0, h8, h2, h5, h10]; done) | (simp_all; done) | (simp_all; omega)), (by (rw [any_take_succ _ _ _ h8, ha]; simp; omega))⟩) <;> first | omega | (simp [go_sem, seval, F0, h8] <;> omega)
      · try simp [go_sem] at h8
        have hN := any_end ha h8
        have hT : typed18 t g = listE (edge18 t g) g.edges := by unfold typed18; rw [if_neg (by omega), if_neg (by omega), if_neg (by rw [hN]; simp)]
        try simp [go_sem, seval, F0]
        repeat (first | intro _ | (refine ⟨obl, ?_⟩))
        obtain ⟨I2, hI2⟩ : ∃ I2 : Nat → Env → AHeap → Prop, ∀ (k : Nat) (e : Env) (H : AHeap), I2 k e H ↔ ((e 2 = .adr t.c) ∧ (e 3 = .adr g.c) ∧ (e 39 = .list (g.edges.map Edge.c)) ∧ (e 40 = dI g.edges.length) ∧ (e 41 = dI k) ∧ (k ≤ g.edges.length) ∧ (listE (edge18 t g) (g.edges.drop k) = typed18 t g)) := ⟨fun k e H => _, fun _ _ _ => Iff.rfl⟩
        refine loopK I2 (fun k => g.edges.length - k) (0) ((hI2 _ _ _).2 ⟨?_, ?_, ?_, ?_, ?_, (by first | assumption | omega | (simp [go_sem, F0]; done) | (simp_all; done)), (by (exact hT.symm))⟩) ?_
        iterate 5 (first | omega | (simp [go_sem, seval, F0] <;> omega))
        intro k e H hi2
        obtain ⟨q2_2, q3_2, q39_2, q40_2, q41_2, hk, hL⟩ := (hI2 _ _ _).1 hi2
        have F2 := And.intro q2_2 (And.intro q3_2 (And.intro q39_2 (And.intro q40_2 q41_2)))
        try simp [go_sem, seval, F2]
        refine condQ_mk (fun h14 => ?_) (fun h14 => ?_)
        · try simp [go_sem] at h14
          have hst := hL
          rw [listE_step _ h14] at hst
          have he := hg.2 _ (List.getElem_mem h14)
          have hf : g.edges[k].from_.toNat < g.nodes.length := by omega
          have hto : g.edges[k].to_.toNat < g.nodes.length := by omega
          have hgf : gN g g.edges[k].from_ = g.nodes[g.edges[k].from_.toNat] := by simp [gN, List.getElem?_eq_getElem hf]
          have hgt : gN g g.edges[k].to_ = g.nodes[g.edges[k].to_.toNat] := by simp [gN, List.getElem?_eq_getElem hto]
          try simp [go_sem, seval, F2, h14, List.getElem?_eq_getElem hf, List.getElem?_eq_getElem hto]
          repeat (first | intro _ | (refine ⟨obl, ?_⟩))
          refine condQ_mk (fun h16 => ?_) (fun h16 => ?_)
          · try simp [go_sem] at h16
            have hE : edge18 t g g.edges[k] = 6 := if_pos (by omega)
            rw [hE, if_pos (by omega)] at hst
            try simp [go_sem, seval, F2, h14, List.getElem?_eq_getElem hf, List.getElem?_eq_getElem hto]
            exact hQ _ _ (by first | (left; (simp [go_sem, ← hst]); done) | (right; (simp [go_sem, ← hst]); done))
          · try simp [go_sem] at h16
            try simp [go_sem, seval, F2, h14, List.getElem?_eq_getElem hf, List.getElem?_eq_getElem hto]
            repeat (first | intro _ | (refine ⟨obl, ?_⟩))
            refine dcallQ_pure0 (types_Fits t ht _ _ _) ((by first | rfl | (simp [go_sem, ← List.map_take, ← List.map_drop, F2, h14, List.getElem?_eq_getElem hf, List.getElem?_eq_getElem hto]; done))) ?_
            try simp [go_sem, seval, F2, h14, List.getElem?_eq_getElem hf, List.getElem?_eq_getElem hto]
            repeat (first | intro _ | (refine ⟨obl, ?_⟩))
            refine condQ_mk (fun h18 => ?_) (fun h18 => ?_)
            · try simp [go_sem] at h18
              have hE : edge18 t g g.edges[k] = 13 := by unfold edge18; rw [if_neg (by omega), if_neg (by rw [hgf, hgt, h18]; simp)]
              rw [hE, if_pos (by omega)] at hst
              try simp [go_sem, seval, F2, h14, List.getElem?_eq_getElem hf, List.getElem?_eq_getElem hto]
              exact hQ _ _ (by first | (left; (simp [go_sem, ← hst]); done) | (right; (simp [go_sem, ← hst]); done))
            · try simp [go_sem] at h18
              have hE : edge18 t g g.edges[k] = 0 := by unfold edge18; rw [if_neg (by omega), if_pos (by rw [hgf, hgt, h18])]
              rw [hE, if_neg (by omega)] at hst
              try simp [go_sem, seval, F2, h14, List.getElem?_eq_getElem hf, List.getElem?_eq_getElem hto]
              repeat (first | intro _ | (refine ⟨obl, ?_⟩))
              refine nextQ_mk (k + 1) (by omega) ((hI2 _ _ _).2 ⟨?_, ?_, ?_, ?_, ?_, (by first | assumption | omega | (simp [go_sem, F2, h14, List.getElem?_eq_getElem hf, List.getElem?_eq_getElem hto, h2, h5, h8, h16, h18]; done) | (simp_all; done) | (simp_all; omega)), (by exact hst)⟩) <;> first | omega | (simp [go_sem, seval, F2, h14, List.getElem?_eq_getElem hf, List.getElem?_eq_getElem hto] <;> omega)
        · try simp [go_sem] at h14
          try simp [go_sem, seval, F2]
          have hT0 : typed18 t g = 0 := by rw [← hL, listE_end _ (by omega)]
          exact hQ _ _ (by first | (left; (simp [go_sem, hT0]); done) | (right; (simp [go_sem, hT0]); done))
theorem ref18_Typed (t : Types) (ht : t.ok) (g : Graph) : Pure Tryz.prog 46 [t.d, g.d] (dI (typed18 t g)) := by
  refine pureK (by first | rfl | (simp [go_sem]; done)) (fun Q hQ => (acalls_of_body (cfg := ⟨fun t => t == 10, fun _ => []⟩) Tz.mixed Tryz.func46 rfl rfl (Nat.le_of_ble_eq_true rfl) (by kernel_rfl) ?_))
  try simp [go_sem, seval]
  refine callQ_pure0 (ref04_Valid t ht) ((by first | rfl | (simp [go_sem, ← List.map_take, ← List.map_drop]; done))) ?_
  try simp [go_sem, seval]
  refine condQ_mk (fun h2 => ?_) (fun h2 => ?_)
  · try simp [go_sem] at h2
    try simp [go_sem, seval]
    exact hQ _ _ (by first | (left; (simp [go_sem, typed18, h2]); done) | (right; (simp [go_sem, typed18, h2]); done))
  · try simp [go_sem] at h2
    try simp [go_sem, seval]
    refine callQ_pure0 (ref05_Valid g) ((by first | rfl | (simp [go_sem, ← List.map_take, ← List.map_drop]; done))) ?_
    try simp [go_sem, seval]
    refine condQ_mk (fun h5 => ?_) (fun h5 => ?_)
    · try simp [go_sem] at h5
      try simp [go_sem, seval]
      exact hQ _ _ (by first | (left; (simp [go_sem, typed18, h2, h5]); done) | (right; (simp [go_sem, typed18, h2, h5]); done))
    · try simp [go_sem] at h5
      have hg := graphF_in h5
      have hle := graphF_le h5
      try simp [go_sem, seval]
      obtain ⟨I0, hI0⟩ : ∃ I0 : Nat → Env → AHeap → Prop, ∀ (i : Nat) (e : Env) (H : AHeap), I0 i e H ↔ ((e 2 = .adr t.c) ∧ (e 3 = .adr g.c) ∧ (e 8 = dI i) ∧ (i ≤ g.nodes.length) ∧ (((g.nodes.take i).any fun a => decide ((t.nodes.length : Int) ≤ a)) = false)) := ⟨fun i e H => _, fun _ _ _ => Iff.rfl⟩
      refine loopK I0 (fun i => g.nodes.length - i) (0) ((hI0 _ _ _).2 ⟨?_, ?_, ?_, (by first | assumption | omega | (simp [go_sem]; done) | (simp_all; done)), (by rfl)⟩) ?_
      iterate 3 (first | omega | (simp [go_sem, seval] <;> omega))
      intro i e H hi0
      obtain ⟨q2_0, q3_0, q8_0, hi, ha⟩ := (hI0 _ _ _).1 hi0
      have F0 := And.intro q2_0 (And.intro q3_0 q8_0)
      try simp [go_sem, seval, F0]
      repeat (first | intro _ | (refine ⟨obl, ?_⟩))
      refine condQ_mk (fun h8 => ?_) (fun h8 => ?_)
      · try simp [go_sem] at h8
        try simp [go_sem, seval, F0, h8]
        repeat (first | intro _ | (refine ⟨obl, ?_⟩))
        refine condQ_mk (fun h10 => ?_) (fun h10 => ?_)
        · try simp [go_sem] at h10
          try simp [go_sem, seval, F0, h8]
          have hb : (g.nodes.any fun a => decide ((t.nodes.length : Int) ≤ a)) = true := List.any_eq_true.2 ⟨_, List.getElem_mem h8, by simp; omega⟩
          have hT : typed18 t g = 6 := by unfold typed18; rw [if_neg (by omega), if_neg (by omega), if_pos hb]
          exact hQ _ _ (by first | (left; (simp [go_sem, hT]); done) | (right; (simp [go_sem, hT]); done))
        · try simp [go_sem] at h10
          try simp [go_sem, seval, F0, h8]
          repeat (first | intro _ | (refine ⟨obl, ?_⟩))
          refine nextQ_mk (i + 1) (by omega) ((hI0 _ _ _).2 ⟨?_, ?_, ?_, (by first | assumption | omega | (simp [go_sem, F0, h8, h2, h5, h10]; done) | (simp_all; done) | (simp_all; omega)), (by (rw [any_take_succ _ _ _ h8, ha]; simp; omega))⟩) <;> first | omega | (simp [go_sem, seval, F0, h8] <;> omega)
      · try simp [go_sem] at h8
        have hN := any_end ha h8
        have hT : typed18 t g = listE (edge18 t g) g.edges := by unfold typed18; rw [if_neg (by omega), if_neg (by omega), if_neg (by rw [hN]; simp)]
        try simp [go_sem, seval, F0]
        obtain ⟨I2, hI2⟩ : ∃ I2 : Nat → Env → AHeap → Prop, ∀ (k : Nat) (e : Env) (H : AHeap), I2 k e H ↔ ((e 2 = .adr t.c) ∧ (e 3 = .adr g.c) ∧ (e 9 = dI k) ∧ (k ≤ g.edges.length) ∧ (listE (edge18 t g) (g.edges.drop k) = typed18 t g)) := ⟨fun k e H => _, fun _ _ _ => Iff.rfl⟩
        refine loopK I2 (fun k => g.edges.length - k) (0) ((hI2 _ _ _).2 ⟨?_, ?_, ?_, (by first | assumption | omega | (simp [go_sem, F0]; done) | (simp_all; done)), (by (exact hT.symm))⟩) ?_
        iterate 3 (first | omega | (simp [go_sem, seval, F0] <;> omega))
        intro k e H hi2
        obtain ⟨q2_2, q3_2, q9_2, hk, hL⟩ := (hI2 _ _ _).1 hi2
        have F2 := And.intro q2_2 (And.intro q3_2 q9_2)
        try simp [go_sem, seval, F2]
        repeat (first | intro _ | (refine ⟨obl, ?_⟩))
        refine condQ_mk (fun h13 => ?_) (fun h13 => ?_)
        · try simp [go_sem] at h13
          have hst := hL
          rw [listE_step _ h13] at hst
          have he := hg.2 _ (List.getElem_mem h13)
          have hf : g.edges[k].from_.toNat < g.nodes.length := by omega
          have hto : g.edges[k].to_.toNat < g.nodes.length := by omega
          have hgf : gN g g.edges[k].from_ = g.nodes[g.edges[k].from_.toNat] := by simp [gN, List.getElem?_eq_getElem hf]
          have hgt : gN g g.edges[k].to_ = g.nodes[g.edges[k].to_.toNat] := by simp [gN, List.getElem?_eq_getElem hto]
          try simp [go_sem, seval, F2, h13, List.getElem?_eq_getElem hf, List.getElem?_eq_getElem hto]
          repeat (first | intro _ | (refine ⟨obl, ?_⟩))
          refine condQ_mk (fun h16 => ?_) (fun h16 => ?_)
          · try simp [go_sem] at h16
            have hE : edge18 t g g.edges[k] = 6 := if_pos (by omega)
            rw [hE, if_pos (by omega)] at hst
            try simp [go_sem, seval, F2, h13, List.getElem?_eq_getElem hf, List.getElem?_eq_getElem hto]
            exact hQ _ _ (by first | (left; (simp [go_sem, ← hst]); done) | (right; (simp [go_sem, ← hst]); done))
          · try simp [go_sem] at h16
            try simp [go_sem, seval, F2, h13, List.getElem?_eq_getElem hf, List.getElem?_eq_getElem hto]
            repeat (first | intro _ | (refine ⟨obl, ?_⟩))
            refine dcallQ_pure0 (ref04_Fits t ht _ _ _) ((by first | rfl | (simp [go_sem, ← List.map_take, ← List.map_drop, F2, h13, List.getElem?_eq_getElem hf, List.getElem?_eq_getElem hto]; done))) ?_
            try simp [go_sem, seval, F2, h13, List.getElem?_eq_getElem hf, List.getElem?_eq_getElem hto]
            repeat (first | intro _ | (refine ⟨obl, ?_⟩))
            refine condQ_mk (fun h18 => ?_) (fun h18 => ?_)
            · try simp [go_sem] at h18
              have hE : edge18 t g g.edges[k] = 13 := by unfold edge18; rw [if_neg (by omega), if_neg (by rw [hgf, hgt, h18]; simp)]
              rw [hE, if_pos (by omega)] at hst
              try simp [go_sem, seval, F2, h13, List.getElem?_eq_getElem hf, List.getElem?_eq_getElem hto]
              exact hQ _ _ (by first | (left; (simp [go_sem, ← hst]); done) | (right; (simp [go_sem, ← hst]); done))
            · try simp [go_sem] at h18
              have hE : edge18 t g g.edges[k] = 0 := by unfold edge18; rw [if_neg (by omega), if_pos (by rw [hgf, hgt, h18])]
              rw [hE, if_neg (by omega)] at hst
              try simp [go_sem, seval, F2, h13, List.getElem?_eq_getElem hf, List.getElem?_eq_getElem hto]
              repeat (first | intro _ | (refine ⟨obl, ?_⟩))
              refine nextQ_mk (k + 1) (by omega) ((hI2 _ _ _).2 ⟨?_, ?_, ?_, (by first | assumption | omega | (simp [go_sem, F2, h13, List.getElem?_eq_getElem hf, List.getElem?_eq_getElem hto, h2, h5, h8, h16, h18]; done) | (simp_all; done) | (simp_all; omega)), (by exact hst)⟩) <;> first | omega | (simp [go_sem, seval, F2, h13, List.getElem?_eq_getElem hf, List.getElem?_eq_getElem hto] <;> omega)
        · try simp [go_sem] at h13
          try simp [go_sem, seval, F2]
          have hT0 : typed18 t g = 0 := by rw [← hL, listE_end _ (by omega)]
          exact hQ _ _ (by first | (left; (simp [go_sem, hT0]); done) | (right; (simp [go_sem, hT0]); done))
end Go.Abs
end
section
set_option linter.unusedVariables false
set_option linter.unusedSimpArgs false
set_option maxRecDepth 8000
open Go Go.Proofs
namespace Go.Abs
def oddB (a : Int) : Bool := decide (a < 0) || decide (1000 < a)
def natB (l : List Int) (n : Int) : Bool := decide ((l.length : Int) = n) && !l.any oddB
theorem natB_of {l : List Int} {n : Int} (h : natB l n = true) : l.length = n ∧ ∀ a ∈ l, 0 ≤ a ∧ a ≤ 1000 := by
  simp [natB, oddB] at h
  exact ⟨h.1, fun a ha => by have := h.2 a ha; omega⟩
theorem weight_natural1 (a : Int) : Pure Tryz.prog 126 [dI a] (.bool (oddB a)) := by
  refine pureK (by first | rfl | (simp [go_sem]; done)) (fun Q hQ => (acalls_of_body (cfg := ⟨fun _ => false, fun _ => []⟩) Tz.mixed Tryz.func126 rfl rfl (Nat.le_of_ble_eq_true rfl) (by kernel_rfl) ?_))
  try simp [go_sem, seval]
  repeat (first | intro _ | (refine ⟨obl, ?_⟩))
  exact hQ _ _ (by simp [go_sem, oddB] <;> first | omega | (rw [Bool.eq_iff_iff]; simp <;> omega) | (simp_all <;> omega))
theorem weight_natural (l : List Int) (n : Int) : Pure Tryz.prog 79 [dLI l, dI n] (.bool (natB l n)) := by
  refine pureK (by first | rfl | (simp [go_sem]; done)) (fun Q hQ => (acalls_of_body (cfg := ⟨fun _ => false, fun _ => []⟩) Tz.mixed Tryz.func79 rfl rfl (Nat.le_of_ble_eq_true rfl) (by kernel_rfl) ?_))
  try simp [go_sem, seval]
  repeat (first | intro _ | (refine ⟨obl, ?_⟩))
  refine gcallQ_pure0 (fun hg => containsFunc_int l 126 [] oddB (by simp [go_sem]) (by simp [go_sem]) (fun a _ => weight_natural1 a)) (fun hg => (by first | rfl | (simp [go_sem, ← List.map_take, ← List.map_drop]; done))) ?_
  try simp [go_sem, seval]
  repeat (first | intro _ | (refine ⟨obl, ?_⟩))
  exact hQ _ _ (by simp [go_sem, natB] <;> first | omega | (rw [Bool.eq_iff_iff]; simp <;> omega) | (simp_all <;> omega))
theorem ref39_natural (l : List Int) (n : Int) : Pure Tryz.prog 82 [dLI l, dI n] (.bool (natB l n)) := by
  refine pureK (by first | rfl | (simp [go_sem]; done)) (fun Q hQ => (acalls_of_body (cfg := ⟨fun _ => false, fun _ => []⟩) Tz.mixed Tryz.func82 rfl rfl (Nat.le_of_ble_eq_true rfl) (by kernel_rfl) ?_))
  try simp [go_sem, seval]
  repeat (first | intro _ | (refine ⟨obl, ?_⟩))
  refine condQ_mk (fun h1 => ?_) (fun h1 => ?_)
  · try simp [go_sem] at h1
    try simp [go_sem, seval]
    have hb : natB l n = false := by simp [natB]; intro h; omega
    exact hQ _ _ (by first | (left; (simp [go_sem, hb]); done) | (right; (simp [go_sem, hb]); done))
  · try simp [go_sem] at h1
    try simp [go_sem, seval]
    obtain ⟨I0, hI0⟩ : ∃ I0 : Nat → Env → AHeap → Prop, ∀ (i : Nat) (e : Env) (H : AHeap), I0 i e H ↔ ((e 0 = dLI l) ∧ (e 1 = dI n) ∧ (e 5 = dI i) ∧ (i ≤ l.length) ∧ (((l.take i).any oddB) = false)) := ⟨fun i e H => _, fun _ _ _ => Iff.rfl⟩
    refine loopK I0 (fun i => l.length - i) (0) ((hI0 _ _ _).2 ⟨?_, ?_, ?_, (by first | assumption | omega | (simp [go_sem]; done) | (simp_all; done)), (by rfl)⟩) ?_
    iterate 3 (first | omega | (simp [go_sem, seval] <;> omega))
    intro i e H hi0
    obtain ⟨q0_0, q1_0, q5_0, hi, ha⟩ := (hI0 _ _ _).1 hi0
    have F0 := And.intro q0_0 (And.intro q1_0 q5_0)
    try simp [go_sem, seval, F0]
    refine condQ_mk (fun h4 => ?_) (fun h4 => ?_)
    · try simp [go_sem] at h4
      have h4' : i < l.length := by omega
      try simp [go_sem, seval, F0, h4, List.getElem?_eq_getElem h4']
      repeat (first | intro _ | (refine ⟨obl, ?_⟩))
      refine condQ_mk (fun h6 => ?_) (fun h6 => ?_)
      · try simp [go_sem] at h6
        try simp [go_sem, seval, F0, h4, List.getElem?_eq_getElem h4']
        have hb : l.any oddB = true := List.any_eq_true.2 ⟨_, List.getElem_mem h4', by simp [oddB]; omega⟩
        exact hQ _ _ (by first | (left; (simp [go_sem, natB, hb]); done) | (right; (simp [go_sem, natB, hb]); done))
      · try simp [go_sem] at h6
        try simp [go_sem, seval, F0, h4, List.getElem?_eq_getElem h4']
        repeat (first | intro _ | (refine ⟨obl, ?_⟩))
        refine nextQ_mk (i + 1) (by omega) ((hI0 _ _ _).2 ⟨?_, ?_, ?_, (by first | assumption | omega | (simp [go_sem, F0, h4, List.getElem?_eq_getElem h4', h1, h6]; done) | (simp_all; done) | (simp_all; omega)), (by (rw [any_take_succ _ _ _ h4', ha]; simp [oddB]; omega))⟩) <;> first | omega | (simp [go_sem, seval, F0, h4, List.getElem?_eq_getElem h4'] <;> omega)
    · try simp [go_sem] at h4
      have hN := any_end ha (by omega)
      try simp [go_sem, seval, F0]
      have hn : (l.length : Int) = n := by omega
      exact hQ _ _ (by first | (left; (simp [go_sem, natB, hN, hn]); done) | (right; (simp [go_sem, natB, hN, hn]); done))
def wN (ws : List Int) (a : Int) : Int := ws[a.toNat]?.getD 0
def wE (ws : List Int) (n : Nat) (x : Edge) : Int := ws[((n : Int) + x.type).toNat]?.getD 0
def weighF (t : Types) (ws : List Int) (g : Graph) : Int := (g.nodes.map (wN ws)).sum + (g.edges.map (wE ws t.nodes.length)).sum
def weightE (t : Types) (ws : List Int) (g : Graph) : Int :=
  if typed18 t g ≠ 0 then typed18 t g
  else if (ws.length : Int) ≠ t.nodes.length + t.edges.length then 20
  else if natB ws (t.nodes.length + t.edges.length) = false then 6
  else 0
def weightF (t : Types) (ws : List Int) (g : Graph) : Int := if weightE t ws g = 0 then weighF t ws g else 0
theorem sum_take_succ {α : Type} (l : List α) (f : α → Int) {i : Nat} (h : i < l.length) : ((l.take (i + 1)).map f).sum = ((l.take i).map f).sum + f l[i] := by
  rw [List.take_succ_eq_append_getElem h, List.map_append, List.sum_append]; simp
theorem edge18_in {t : Types} {g : Graph} {x : Edge} (h : edge18 t g x = 0) : x.type < t.edges.length := by
  unfold edge18 at h
  split at h
  · cases h
  · omega
theorem weight_Of (t : Types) (ht : t.ok) (ws : List Int) (g : Graph) : Pure Tryz.prog 45 [t.d, dLI ws, g.d] (.tup [dI (weightF t ws g), dI (weightE t ws g)]) := by
  refine pureK (by first | rfl | (simp [go_sem]; done)) (fun Q hQ => (acalls_of_body (cfg := ⟨fun t => t == 14, fun _ => []⟩) Tz.mixed Tryz.func45 rfl rfl (Nat.le_of_ble_eq_true rfl) (by kernel_rfl) ?_))
  try simp [go_sem, seval]
  refine callQ_pure0 (weight_typed t ht g) ((by first | rfl | (simp [go_sem, ← List.map_take, ← List.map_drop]; done))) ?_
  try simp [go_sem, seval]
  refine condQ_mk (fun h2 => ?_) (fun h2 => ?_)
  · try simp [go_sem] at h2
    try simp [go_sem, seval]
    have hw : weightE t ws g = typed18 t g := if_pos h2
    exact hQ _ _ (by first | (left; (simp [go_sem, weightF, hw, h2]); done) | (right; (simp [go_sem, weightF, hw, h2]); done))
  · try simp [go_sem] at h2
    have hT := typed18_of h2
    have hle := graphF_le hT.2.1
    have hv := valid_of hT.1
    have hN := hv.fewN
    have hE := hv.fewE
    try simp [go_sem, seval]
    repeat (first | intro _ | (refine ⟨obl, ?_⟩))
    refine condQ_mk (fun h5 => ?_) (fun h5 => ?_)
    · try simp [go_sem] at h5
      have hw : weightE t ws g = 20 := by unfold weightE; rw [if_neg (by omega), if_pos (by omega)]
      try simp [go_sem, seval]
      exact hQ _ _ (by first | (left; (simp [go_sem, weightF, hw]); done) | (right; (simp [go_sem, weightF, hw]); done))
    · try simp [go_sem] at h5
      try simp [go_sem, seval]
      repeat (first | intro _ | (refine ⟨obl, ?_⟩))
      refine callQ_pure0 (weight_natural ws _) ((by first | rfl | (simp [go_sem, ← List.map_take, ← List.map_drop]; done))) ?_
      try simp [go_sem, seval]
      repeat (first | intro _ | (refine ⟨obl, ?_⟩))
      refine condQ_mk (fun h7 => ?_) (fun h7 => ?_)
      · try simp [go_sem] at h7
        have hw : weightE t ws g = 6 := by unfold weightE; rw [if_neg (by omega), if_neg (by omega), if_pos (by simpa [h5] using h7)]
        try simp [go_sem, seval]
        exact hQ _ _ (by first | (left; (simp [go_sem, weightF, hw]); done) | (right; (simp [go_sem, weightF, hw]); done))
      · try simp [go_sem] at h7
        have hnat : natB ws (t.nodes.length + t.edges.length) = true := by simpa [h5] using h7
        have hno := natB_of hnat
        have hw : weightE t ws g = 0 := by unfold weightE; rw [if_neg (by omega), if_neg (by omega), if_neg (by rw [hnat]; simp)]
        try simp [go_sem, seval]
        repeat (first | intro _ | (refine ⟨obl, ?_⟩))
        obtain ⟨I0, hI0⟩ : ∃ I0 : Nat → Env → AHeap → Prop, ∀ (i : Nat) (e : Env) (H : AHeap), I0 i e H ↔ (∃ s : Int, (e 3 = .adr t.c) ∧ (e 1 = dLI ws) ∧ (e 5 = .adr g.c) ∧ (e 10 = dI s) ∧ (e 37 = dLI g.nodes) ∧ (e 38 = dI g.nodes.length) ∧ (e 39 = dI i) ∧ (i ≤ g.nodes.length) ∧ (s = ((g.nodes.take i).map (wN ws)).sum) ∧ (0 ≤ s ∧ s ≤ 1000 * i)) := ⟨fun i e H => _, fun _ _ _ => Iff.rfl⟩
        refine loopK I0 (fun i => g.nodes.length - i) (0) ((hI0 _ _ _).2 ⟨(0), ?_, ?_, ?_, ?_, ?_, ?_, ?_, (by first | assumption | omega | (simp [go_sem]; done) | (simp_all; done)), (by rfl), (by simp)⟩) ?_
        iterate 7 (first | omega | (simp [go_sem, seval] <;> omega))
        intro i e H hi0
        obtain ⟨s, q3_0, q1_0, q5_0, q10_0, q37_0, q38_0, q39_0, hi, hs, hb⟩ := (hI0 _ _ _).1 hi0
        have F0 := And.intro q3_0 (And.intro q1_0 (And.intro q5_0 (And.intro q10_0 (And.intro q37_0 (And.intro q38_0 q39_0)))))
        try simp [go_sem, seval, F0]
        refine condQ_mk (fun h11 => ?_) (fun h11 => ?_)
        · try simp [go_sem] at h11
          have ha := hT.2.2.1 _ (List.getElem_mem h11)
          have hk : g.nodes[i].toNat < ws.length := by omega
          have hwn : wN ws g.nodes[i] = ws[g.nodes[i].toNat] := by simp [wN, List.getElem?_eq_getElem hk]
          have hbn := hno.2 _ (List.getElem_mem hk)
          try simp [go_sem, seval, F0, h11, List.getElem?_eq_getElem hk, hwn]
          repeat (first | intro _ | (refine ⟨obl, ?_⟩))
          refine nextQ_mk (i + 1) (by omega) ((hI0 _ _ _).2 ⟨(s + wN ws g.nodes[i]), ?_, ?_, ?_, ?_, ?_, ?_, ?_, (by first | assumption | omega | (simp [go_sem, F0, h11, List.getElem?_eq_getElem hk, hwn, h2, h5, h7]; done) | (simp_all; done) | (simp_all; omega)), (by (rw [sum_take_succ _ _ h11, ← hs])), (by omega)⟩) <;> first | omega | (simp [go_sem, seval, F0, h11, List.getElem?_eq_getElem hk, hwn] <;> omega)
        · try simp [go_sem] at h11
          rw [List.take_of_length_le (by omega)] at hs
          try simp [go_sem, seval, F0]
          repeat (first | intro _ | (refine ⟨obl, ?_⟩))
          obtain ⟨I2, hI2⟩ : ∃ I2 : Nat → Env → AHeap → Prop, ∀ (k : Nat) (e : Env) (H : AHeap), I2 k e H ↔ (∃ u : Int, (e 3 = .adr t.c) ∧ (e 1 = dLI ws) ∧ (e 5 = .adr g.c) ∧ (e 10 = dI u) ∧ (e 51 = .list (g.edges.map Edge.c)) ∧ (e 52 = dI g.edges.length) ∧ (e 53 = dI k) ∧ (k ≤ g.edges.length) ∧ (u = (g.nodes.map (wN ws)).sum + ((g.edges.take k).map (wE ws t.nodes.length)).sum) ∧ (0 ≤ u ∧ u ≤ 1000 * (g.nodes.length + k))) := ⟨fun k e H => _, fun _ _ _ => Iff.rfl⟩
          refine loopK I2 (fun k => g.edges.length - k) (0) ((hI2 _ _ _).2 ⟨(s), ?_, ?_, ?_, ?_, ?_, ?_, ?_, (by first | assumption | omega | (simp [go_sem, F0]; done) | (simp_all; done)), (by (simp [hs])), (by omega)⟩) ?_
          iterate 7 (first | omega | (simp [go_sem, seval, F0] <;> omega))
          intro k e H hi2
          obtain ⟨u, q3_2, q1_2, q5_2, q10_2, q51_2, q52_2, q53_2, hk, hu, hc⟩ := (hI2 _ _ _).1 hi2
          have F2 := And.intro q3_2 (And.intro q1_2 (And.intro q5_2 (And.intro q10_2 (And.intro q51_2 (And.intro q52_2 q53_2)))))
          try simp [go_sem, seval, F2]
          refine condQ_mk (fun h16 => ?_) (fun h16 => ?_)
          · try simp [go_sem] at h16
            have he := edge18_in (hT.2.2.2 _ (List.getElem_mem h16))
            have he0 := ((graphF_in hT.2.1).2 _ (List.getElem_mem h16)).1
            have hk2 : ((t.nodes.length : Int) + g.edges[k].type).toNat < ws.length := by omega
            have hwe : wE ws t.nodes.length g.edges[k] = ws[((t.nodes.length : Int) + g.edges[k].type).toNat] := by simp [wE, List.getElem?_eq_getElem hk2]
            have hbe := hno.2 _ (List.getElem_mem hk2)
            try simp [go_sem, seval, F2, h16, List.getElem?_eq_getElem hk2, hwe]
            repeat (first | intro _ | (refine ⟨obl, ?_⟩))
            refine nextQ_mk (k + 1) (by omega) ((hI2 _ _ _).2 ⟨(u + wE ws t.nodes.length g.edges[k]), ?_, ?_, ?_, ?_, ?_, ?_, ?_, (by first | assumption | omega | (simp [go_sem, F2, h16, List.getElem?_eq_getElem hk2, hwe, h2, h5, h7, h11]; done) | (simp_all; done) | (simp_all; omega)), (by (rw [sum_take_succ _ _ h16, ← Int.add_assoc, ← hu])), (by omega)⟩) <;> first | omega | (simp [go_sem, seval, F2, h16, List.getElem?_eq_getElem hk2, hwe] <;> omega)
          · try simp [go_sem] at h16
            rw [List.take_of_length_le (by omega)] at hu
            try simp [go_sem, seval, F2]
            exact hQ _ _ (by first | (left; (simp [go_sem, weightF, weighF, hw, hu]); done) | (right; (simp [go_sem, weightF, weighF, hw, hu]); done))
theorem ref39_Of (t : Types) (ht : t.ok) (ws : List Int) (g : Graph) : Pure Tryz.prog 47 [t.d, dLI ws, g.d] (.tup [dI (weightF t ws g), dI (weightE t ws g)]) := by
  refine pureK (by first | rfl | (simp [go_sem]; done)) (fun Q hQ => (acalls_of_body (cfg := ⟨fun _ => false, fun _ => []⟩) Tz.mixed Tryz.func47 rfl rfl (Nat.le_of_ble_eq_true rfl) (by kernel_rfl) ?_))
  try simp [go_sem, seval]
  refine callQ_pure0 (ref18_Typed t ht g) ((by first | rfl | (simp [go_sem, ← List.map_take, ← List.map_drop]; done))) ?_
  try simp [go_sem, seval]
  refine condQ_mk (fun h2 => ?_) (fun h2 => ?_)
  · try simp [go_sem] at h2
    try simp [go_sem, seval]
    have hw : weightE t ws g = typed18 t g := if_pos h2
    exact hQ _ _ (by first | (left; (simp [go_sem, weightF, hw, h2]); done) | (right; (simp [go_sem, weightF, hw, h2]); done))
  · try simp [go_sem] at h2
    have hT := typed18_of h2
    have hle := graphF_le hT.2.1
    have hv := valid_of hT.1
    have hN := hv.fewN
    have hE := hv.fewE
    try simp [go_sem, seval]
    repeat (first | intro _ | (refine ⟨obl, ?_⟩))
    refine condQ_mk (fun h5 => ?_) (fun h5 => ?_)
    · try simp [go_sem] at h5
      have hw : weightE t ws g = 20 := by unfold weightE; rw [if_neg (by omega), if_pos (by omega)]
      try simp [go_sem, seval]
      exact hQ _ _ (by first | (left; (simp [go_sem, weightF, hw]); done) | (right; (simp [go_sem, weightF, hw]); done))
    · try simp [go_sem] at h5
      try simp [go_sem, seval]
      repeat (first | intro _ | (refine ⟨obl, ?_⟩))
      refine callQ_pure0 (ref39_natural ws _) ((by first | rfl | (simp [go_sem, ← List.map_take, ← List.map_drop]; done))) ?_
      try simp [go_sem, seval]
      repeat (first | intro _ | (refine ⟨obl, ?_⟩))
      refine condQ_mk (fun h7 => ?_) (fun h7 => ?_)
      · try simp [go_sem] at h7
        have hw : weightE t ws g = 6 := by unfold weightE; rw [if_neg (by omega), if_neg (by omega), if_pos (by simpa [h5] using h7)]
        try simp [go_sem, seval]
        exact hQ _ _ (by first | (left; (simp [go_sem, weightF, hw]); done) | (right; (simp [go_sem, weightF, hw]); done))
      · try simp [go_sem] at h7
        have hnat : natB ws (t.nodes.length + t.edges.length) = true := by simpa [h5] using h7
        have hno := natB_of hnat
        have hw : weightE t ws g = 0 := by unfold weightE; rw [if_neg (by omega), if_neg (by omega), if_neg (by rw [hnat]; simp)]
        try simp [go_sem, seval]
        obtain ⟨I0, hI0⟩ : ∃ I0 : Nat → Env → AHeap → Prop, ∀ (i : Nat) (e : Env) (H : AHeap), I0 i e H ↔ (∃ s : Int, (e 3 = .adr t.c) ∧ (e 1 = dLI ws) ∧ (e 5 = .adr g.c) ∧ (e 9 = dI t.nodes.length) ∧ (e 10 = dI s) ∧ (e 11 = dI i) ∧ (i ≤ g.nodes.length) ∧ (s = ((g.nodes.take i).map (wN ws)).sum) ∧ (0 ≤ s ∧ s ≤ 1000 * i)) := ⟨fun i e H => _, fun _ _ _ => Iff.rfl⟩
        refine loopK I0 (fun i => g.nodes.length - i) (0) ((hI0 _ _ _).2 ⟨(0), ?_, ?_, ?_, ?_, ?_, ?_, (by first | assumption | omega | (simp [go_sem]; done) | (simp_all; done)), (by rfl), (by simp)⟩) ?_
        iterate 6 (first | omega | (simp [go_sem, seval] <;> omega))
        intro i e H hi0
        obtain ⟨s, q3_0, q1_0, q5_0, q9_0, q10_0, q11_0, hi, hs, hb⟩ := (hI0 _ _ _).1 hi0
        have F0 := And.intro q3_0 (And.intro q1_0 (And.intro q5_0 (And.intro q9_0 (And.intro q10_0 q11_0))))
        try simp [go_sem, seval, F0]
        repeat (first | intro _ | (refine ⟨obl, ?_⟩))
        refine condQ_mk (fun h11 => ?_) (fun h11 => ?_)
        · try simp [go_sem] at h11
          have ha := hT.2.2.1 _ (List.getElem_mem h11)
          have hk : g.nodes[i].toNat < ws.length := by omega
          have hwn : wN ws g.nodes[i] = ws[g.nodes[i].toNat] := by simp [wN, List.getElem?_eq_getElem hk]
          have hbn := hno.2 _ (List.getElem_mem hk)
          try simp [go_sem, seval, F0, h11, List.getElem?_eq_getElem hk, hwn]
          repeat (first | intro _ | (refine ⟨obl, ?_⟩))
          refine nextQ_mk (i + 1) (by omega) ((hI0 _ _ _).2 ⟨(s + wN ws g.nodes[i]), ?_, ?_, ?_, ?_, ?_, ?_, (by first | assumption | omega | (simp [go_sem, F0, h11, List.getElem?_eq_getElem hk, hwn, h2, h5, h7]; done) | (simp_all; done) | (simp_all; omega)), (by (rw [sum_take_succ _ _ h11, ← hs])), (by omega)⟩) <;> first | omega | (simp [go_sem, seval, F0, h11, List.getElem?_eq_getElem hk, hwn] <;> omega)
        · try simp [go_sem] at h11
          rw [List.take_of_length_le (by omega)] at hs
          try simp [go_sem, seval, F0]
          obtain ⟨I2, hI2⟩ : ∃ I2 : Nat → Env → AHeap → Prop, ∀ (k : Nat) (e : Env) (H : AHeap), I2 k e H ↔ (∃ u : Int, (e 3 = .adr t.c) ∧ (e 1 = dLI ws) ∧ (e 5 = .adr g.c) ∧ (e 9 = dI t.nodes.length) ∧ (e 10 = dI u) ∧ (e 12 = dI k) ∧ (k ≤ g.edges.length) ∧ (u = (g.nodes.map (wN ws)).sum + ((g.edges.take k).map (wE ws t.nodes.length)).sum) ∧ (0 ≤ u ∧ u ≤ 1000 * (g.nodes.length + k))) := ⟨fun k e H => _, fun _ _ _ => Iff.rfl⟩
          refine loopK I2 (fun k => g.edges.length - k) (0) ((hI2 _ _ _).2 ⟨(s), ?_, ?_, ?_, ?_, ?_, ?_, (by first | assumption | omega | (simp [go_sem, F0]; done) | (simp_all; done)), (by (simp [hs])), (by omega)⟩) ?_
          iterate 6 (first | omega | (simp [go_sem, seval, F0] <;> omega))
          intro k e H hi2
          obtain ⟨u, q3_2, q1_2, q5_2, q9_2, q10_2, q12_2, hk, hu, hc⟩ := (hI2 _ _ _).1 hi2
          have F2 := And.intro q3_2 (And.intro q1_2 (And.intro q5_2 (And.intro q9_2 (And.intro q10_2 q12_2))))
          try simp [go_sem, seval, F2]
          repeat (first | intro _ | (refine ⟨obl, ?_⟩))
          refine condQ_mk (fun h15 => ?_) (fun h15 => ?_)
          · try simp [go_sem] at h15
            have he := edge18_in (hT.2.2.2 _ (List.getElem_mem h15))
            have he0 := ((graphF_in hT.2.1).2 _ (List.getElem_mem h15)).1
            have hk2 : ((t.nodes.length : Int) + g.edges[k].type).toNat < ws.length := by omega
            have hwe : wE ws t.nodes.length g.edges[k] = ws[((t.nodes.length : Int) + g.edges[k].type).toNat] := by simp [wE, List.getElem?_eq_getElem hk2]
            have hbe := hno.2 _ (List.getElem_mem hk2)
            try simp [go_sem, seval, F2, h15, List.getElem?_eq_getElem hk2, hwe]
            repeat (first | intro _ | (refine ⟨obl, ?_⟩))
            refine nextQ_mk (k + 1) (by omega) ((hI2 _ _ _).2 ⟨(u + wE ws t.nodes.length g.edges[k]), ?_, ?_, ?_, ?_, ?_, ?_, (by first | assumption | omega | (simp [go_sem, F2, h15, List.getElem?_eq_getElem hk2, hwe, h2, h5, h7, h11]; done) | (simp_all; done) | (simp_all; omega)), (by (rw [sum_take_succ _ _ h15, ← Int.add_assoc, ← hu])), (by omega)⟩) <;> first | omega | (simp [go_sem, seval, F2, h15, List.getElem?_eq_getElem hk2, hwe] <;> omega)
          · try simp [go_sem] at h15
            rw [List.take_of_length_le (by omega)] at hu
            try simp [go_sem, seval, F2]
            exact hQ _ _ (by first | (left; (simp [go_sem, weightF, weighF, hw, hu]); done) | (right; (simp [go_sem, weightF, weighF, hw, hu]); done))
end Go.Abs
end
section
set_option linter.unusedVariables false
set_option linter.unusedSimpArgs false
set_option maxRecDepth 8000
open Go Go.Proofs
namespace Go.Abs
def fewG (g : Graph) : Bool := decide ((g.nodes.length : Int) ≤ 45) && decide ((g.edges.length : Int) ≤ 90)
def fewP (p : Pattern) : Bool := fewG p.graph && decide ((p.slots.length : Int) ≤ 15) && decide ((p.tests.length : Int) ≤ 15)
def fewPart (p : Part) (n : Int) : Bool := decide ((p.nodes.length : Int) + p.edges.length ≤ n)
structure Part.le (p : Part) : Prop where
  n : p.nodes.length ≤ 1000000000000000
  e : p.edges.length ≤ 1000000000000000
theorem ref05_Few (g : Graph) : Pure Tryz.prog 167 [g.d] (.bool (fewG g)) := by
  refine pureK (by first | rfl | (simp [go_sem]; done)) (fun Q hQ => (acalls_of_body (cfg := ⟨fun _ => false, fun _ => []⟩) Tz.mixed Tryz.func167 rfl rfl (Nat.le_of_ble_eq_true rfl) (by kernel_rfl) ?_))
  try simp [go_sem, seval]
  repeat (first | intro _ | (refine ⟨obl, ?_⟩))
  exact hQ _ _ (by simp [go_sem, fewG] <;> first | omega | (rw [Bool.eq_iff_iff]; simp <;> omega) | (simp_all <;> omega))
theorem ref21_Few (p : Pattern) : Pure Tryz.prog 103 [p.d] (.bool (fewP p)) := by
  refine pureK (by first | rfl | (simp [go_sem]; done)) (fun Q hQ => (acalls_of_body (cfg := ⟨fun _ => false, fun _ => []⟩) Tz.mixed Tryz.func103 rfl rfl (Nat.le_of_ble_eq_true rfl) (by kernel_rfl) ?_))
  try simp [go_sem, seval]
  repeat (first | intro _ | (refine ⟨obl, ?_⟩))
  refine callQ_pure0 (ref05_Few p.graph) ((by first | rfl | (simp [go_sem, ← List.map_take, ← List.map_drop]; done))) ?_
  try simp [go_sem, seval]
  repeat (first | intro _ | (refine ⟨obl, ?_⟩))
  exact hQ _ _ (by simp [go_sem, fewP] <;> first | omega | (rw [Bool.eq_iff_iff]; simp <;> omega) | (simp_all <;> omega))
theorem ref06_Few (p : Part) (hp : p.le) (n : Int) : Pure Tryz.prog 105 [p.d, dI n] (.bool (fewPart p n)) := by
  obtain ⟨h1, h2⟩ := hp
  refine pureK (by first | rfl | (simp [go_sem]; done)) (fun Q hQ => (acalls_of_body (cfg := ⟨fun _ => false, fun _ => []⟩) Tz.mixed Tryz.func105 rfl rfl (Nat.le_of_ble_eq_true rfl) (by kernel_rfl) ?_))
  try simp [go_sem, seval]
  repeat (first | intro _ | (refine ⟨obl, ?_⟩))
  exact hQ _ _ (by simp [go_sem, fewPart] <;> first | omega | (rw [Bool.eq_iff_iff]; simp <;> omega) | (simp_all <;> omega))
theorem ref07_Few (p : Part) (hp : p.le) (n : Int) : Pure Tryz.prog 104 [p.d, dI n] (.bool (fewPart p n)) := by
  obtain ⟨h1, h2⟩ := hp
  refine pureK (by first | rfl | (simp [go_sem]; done)) (fun Q hQ => (acalls_of_body (cfg := ⟨fun _ => false, fun _ => []⟩) Tz.mixed Tryz.func104 rfl rfl (Nat.le_of_ble_eq_true rfl) (by kernel_rfl) ?_))
  try simp [go_sem, seval]
  repeat (first | intro _ | (refine ⟨obl, ?_⟩))
  exact hQ _ _ (by simp [go_sem, fewPart] <;> first | omega | (rw [Bool.eq_iff_iff]; simp <;> omega) | (simp_all <;> omega))
mutual
def leftC : Cond → Int → Int
  | .mk k l m p, b => if (!fewP p || !fewPart m 140) = true then -1 else leftL l (b - 1)
def leftL : List Cond → Int → Int
  | [], b => b
  | c :: l, b => if 0 ≤ b then leftL l (leftC c b) else b
end
theorem leftC_eq (c : Cond) (b : Int) : leftC c b = if (!fewP c.pattern || !fewPart c.map 140) = true then -1 else leftL c.kids (b - 1) := by cases c; rw [leftC]; rfl
mutual
theorem leftC_le : ∀ (c : Cond) (b : Int), 0 ≤ b → -1 ≤ leftC c b ∧ leftC c b ≤ b - 1
  | .mk k l m p, b, h => by
    rw [leftC]; split
    · omega
    · exact leftL_le l (b - 1) (by omega)
theorem leftL_le : ∀ (l : List Cond) (b : Int), -1 ≤ b → -1 ≤ leftL l b ∧ leftL l b ≤ b
  | [], b, h => by rw [leftL]; omega
  | c :: l, b, h => by
    rw [leftL]; split
    · rename_i h0
      have h1 := leftC_le c b h0
      have h2 := leftL_le l (leftC c b) h1.1
      omega
    · omega
end
mutual
def Cond.le : Cond → Prop
  | .mk k l m p => m.le ∧ Cond.les l
def Cond.les : List Cond → Prop
  | [] => True
  | c :: l => c.le ∧ Cond.les l
end
theorem Cond.les_iff (l : List Cond) : Cond.les l ↔ ∀ c ∈ l, c.le := by
  induction l with
  | nil => simp [Cond.les]
  | cons a l ih => simp [Cond.les, ih]
theorem Cond.le_iff (c : Cond) : c.le ↔ c.map.le ∧ ∀ k ∈ c.kids, k.le := by cases c; simp [Cond.le, Cond.les_iff, Cond.kids, Cond.map]
mutual
theorem leftC_ok : ∀ (c : Cond) (b : Int), 0 ≤ b → 0 ≤ leftC c b → c.ok ∧ (c.size : Int) ≤ b - leftC c b
  | .mk k l m p, b, h, h0 => by
    rw [leftC] at h0 ⊢
    split at h0
    · omega
    · rename_i h1
      rw [if_neg h1]
      have h2 := leftL_ok l (b - 1) (by omega) h0
      simp [fewP, fewG, fewPart] at h1
      refine ⟨⟨⟨?_, ?_, ?_, ?_, ?_, ?_⟩, h2.1⟩, ?_⟩ <;> simp only [Cond.map, Cond.pattern, Cond.size] <;> omega
theorem leftL_ok : ∀ (l : List Cond) (b : Int), -1 ≤ b → 0 ≤ leftL l b → Cond.oks l ∧ (Cond.sizes l : Int) ≤ b - leftL l b
  | [], b, h, h0 => by simp [Cond.oks, Cond.sizes, leftL]
  | c :: l, b, h, h0 => by
    rw [leftL] at h0 ⊢
    split at h0
    · rename_i hb
      rw [if_pos hb]
      have h1 := leftC_le c b hb
      have h2 := leftL_le l (leftC c b) h1.1
      have h3 := leftC_ok c b hb (by omega)
      have h4 := leftL_ok l (leftC c b) h1.1 h0
      refine ⟨⟨h3.1, h4.1⟩, ?_⟩
      simp only [Cond.sizes]; omega
    · omega
end
theorem leftL_step {l : List Cond} {i : Nat} (h : i < l.length) {b : Int} (hb : 0 ≤ b) : leftL (l.drop i) b = leftL (l.drop (i + 1)) (leftC l[i] b) := by
  rw [List.drop_eq_getElem_cons h, leftL, if_pos hb]
theorem leftL_end {l : List Cond} {i : Nat} {b : Int} (h : ¬ (i < l.length ∧ 0 ≤ b)) : leftL (l.drop i) b = b := by
  by_cases hi : i < l.length
  · rw [List.drop_eq_getElem_cons hi, leftL, if_neg (by omega)]
  · rw [List.drop_eq_nil_of_le (by omega), leftL]
theorem ref22_left : ∀ c : Cond, c.le → ∀ b : Int, 0 ≤ b → b ≤ 1000 → Pure Tryz.prog 168 [.agg c.c, dI b] (dI (leftC c b)) := by
  refine Cond.ind fun c ih hc b0 hb0 hb1 => ?_
  obtain ⟨hs, hk⟩ := (Cond.le_iff c).1 hc
  have hL0 := leftC_eq c b0
  refine pureK (by first | rfl | (simp [go_sem]; done)) (fun Q hQ => (acalls_of_body (cfg := ⟨fun _ => false, fun _ => []⟩) Tz.mixed Tryz.func168 rfl rfl (Nat.le_of_ble_eq_true rfl) (by kernel_rfl) ?_))
  try simp [go_sem, seval, Cond.c_eq]
  repeat (first | intro _ | (refine ⟨obl, ?_⟩))
  refine callQ_pure0 (ref21_Few c.pattern) ((by first | rfl | (simp [go_sem, ← List.map_take, ← List.map_drop, Cond.c_eq]; done))) ?_
  try simp [go_sem, seval, Cond.c_eq]
  repeat (first | intro _ | (refine ⟨obl, ?_⟩))
  refine gcallQ_pure0 (fun hg => ref06_Few c.map hs 140) (fun hg => (by first | rfl | (simp [go_sem, ← List.map_take, ← List.map_drop, Cond.c_eq]; done))) ?_
  try simp [go_sem, seval, Cond.c_eq]
  repeat (first | intro _ | (refine ⟨obl, ?_⟩))
  refine condQ_mk (fun h2 => ?_) (fun h2 => ?_)
  · try simp [go_sem] at h2
    rw [if_pos (by simpa using h2)] at hL0
    try simp [go_sem, seval, Cond.c_eq]
    exact hQ _ _ (by first | (left; (simp [go_sem, hL0]); done) | (right; (simp [go_sem, hL0]); done))
  · try simp [go_sem] at h2
    rw [if_neg (by simpa using h2)] at hL0
    try simp [go_sem, seval, Cond.c_eq]
    obtain ⟨I0, hI0⟩ : ∃ I0 : Nat → Env → AHeap → Prop, ∀ (i : Nat) (e : Env) (H : AHeap), I0 i e H ↔ (∃ b : Int, (e 2 = .adr c.c) ∧ (e 1 = dI b) ∧ (e 5 = dI i) ∧ (i ≤ c.kids.length) ∧ (-1 ≤ b ∧ b < b0) ∧ (leftL (c.kids.drop i) b = leftC c b0)) := ⟨fun i e H => _, fun _ _ _ => Iff.rfl⟩
    refine loopK I0 (fun i => c.kids.length - i) (0) ((hI0 _ _ _).2 ⟨((b0 - 1)), ?_, ?_, ?_, (by first | assumption | omega | (simp [go_sem, Cond.c_eq]; done) | (simp_all; done)), (by omega), (by (exact hL0.symm))⟩) ?_
    iterate 3 (first | omega | (simp [go_sem, seval, Cond.c_eq] <;> omega))
    intro i e H hi0
    obtain ⟨b, q2_0, q1_0, q5_0, hi, hb, hL⟩ := (hI0 _ _ _).1 hi0
    have F0 := And.intro q2_0 (And.intro q1_0 q5_0)
    try simp [go_sem, seval, Cond.c_eq, F0]
    repeat (first | intro _ | (refine ⟨obl, ?_⟩))
    refine condQ_mk (fun h5 => ?_) (fun h5 => ?_)
    · try simp [go_sem] at h5
      have h5' : i < c.kids.length ∧ 0 ≤ b := by omega
      try simp [go_sem, seval, Cond.c_eq, F0, h5, h5'.1]
      repeat (first | intro _ | (refine ⟨obl, ?_⟩))
      refine callQ_pure0 ((by have := ih _ (List.getElem_mem h5'.1) (hk _ (List.getElem_mem h5'.1)) b h5'.2 (by omega); rwa [Cond.c_eq] at this)) ((by first | rfl | (simp [go_sem, ← List.map_take, ← List.map_drop, Cond.c_eq, F0, h5, h5'.1]; done))) ?_
      try simp [go_sem, seval, Cond.c_eq, F0, h5, h5'.1]
      repeat (first | intro _ | (refine ⟨obl, ?_⟩))
      refine nextQ_mk (i + 1) (by omega) ((hI0 _ _ _).2 ⟨(leftC c.kids[i] b), ?_, ?_, ?_, (by first | assumption | omega | (simp [go_sem, Cond.c_eq, F0, h5, h5'.1, h2]; done) | (simp_all; done) | (simp_all; omega)), (by (have := leftC_le c.kids[i] b h5'.2; omega)), (by (rw [← hL, leftL_step h5'.1 h5'.2]))⟩) <;> first | omega | (simp [go_sem, seval, Cond.c_eq, F0, h5, h5'.1] <;> omega)
    · try simp [go_sem] at h5
      have h5' : ¬ (i < c.kids.length ∧ 0 ≤ b) := by omega
      try simp [go_sem, seval, Cond.c_eq, F0]
      have hE : leftC c b0 = b := by rw [← hL, leftL_end h5']
      exact hQ _ _ (by first | (left; (simp [go_sem, hE]); done) | (right; (simp [go_sem, hE]); done))
def fewC (c : Cond) : Bool := decide (0 ≤ leftC c 40)
theorem ref22_Few (c : Cond) (hc : c.le) : Pure Tryz.prog 106 [.agg c.c] (.bool (fewC c)) := by
  refine pureK (by first | rfl | (simp [go_sem]; done)) (fun Q hQ => (acalls_of_body (cfg := ⟨fun _ => false, fun _ => []⟩) Tz.mixed Tryz.func106 rfl rfl (Nat.le_of_ble_eq_true rfl) (by kernel_rfl) ?_))
  try simp [go_sem, seval, Cond.c_eq]
  refine callQ_pure0 ((by have := ref22_left c hc 40 (by omega) (by omega); rwa [Cond.c_eq] at this)) ((by first | rfl | (simp [go_sem, ← List.map_take, ← List.map_drop, Cond.c_eq]; done))) ?_
  try simp [go_sem, seval, Cond.c_eq]
  exact hQ _ _ (by simp [go_sem, Cond.c_eq, fewC] <;> first | omega | (rw [Bool.eq_iff_iff]; simp <;> omega) | (simp_all <;> omega))
def fewR (r : Rule) : Bool := decide ((r.name.size : Int) ≤ 60) && fewP r.left && fewP r.right && fewPart r.keep 140 && fewPart r.into 140 && fewC r.cond
structure Rule.le (r : Rule) : Prop where
  keep : r.keep.le
  into : r.into.le
  cond : r.cond.le
theorem ref24_Few (r : Rule) (hr : r.le) : Pure Tryz.prog 67 [r.d] (.bool (fewR r)) := by
  refine pureK (by first | rfl | (simp [go_sem]; done)) (fun Q hQ => (acalls_of_body (cfg := ⟨fun _ => false, fun _ => []⟩) Tz.mixed Tryz.func67 rfl rfl (Nat.le_of_ble_eq_true rfl) (by kernel_rfl) ?_))
  try simp [go_sem, seval]
  repeat (first | intro _ | (refine ⟨obl, ?_⟩))
  refine gcallQ_pure0 (fun hg => ref21_Few r.left) (fun hg => (by first | rfl | (simp [go_sem, ← List.map_take, ← List.map_drop]; done))) ?_
  try simp [go_sem, seval]
  repeat (first | intro _ | (refine ⟨obl, ?_⟩))
  refine gcallQ_pure0 (fun hg => ref21_Few r.right) (fun hg => (by first | rfl | (simp [go_sem, ← List.map_take, ← List.map_drop]; done))) ?_
  try simp [go_sem, seval]
  repeat (first | intro _ | (refine ⟨obl, ?_⟩))
  refine gcallQ_pure0 (fun hg => ref07_Few r.keep hr.keep 140) (fun hg => (by first | rfl | (simp [go_sem, ← List.map_take, ← List.map_drop]; done))) ?_
  try simp [go_sem, seval]
  repeat (first | intro _ | (refine ⟨obl, ?_⟩))
  refine gcallQ_pure0 (fun hg => ref06_Few r.into hr.into 140) (fun hg => (by first | rfl | (simp [go_sem, ← List.map_take, ← List.map_drop]; done))) ?_
  try simp [go_sem, seval]
  repeat (first | intro _ | (refine ⟨obl, ?_⟩))
  refine gcallQ_pure0 (fun hg => (by have := ref22_Few r.cond hr.cond; rwa [Cond.c_eq] at this)) (fun hg => (by first | rfl | (simp [go_sem, ← List.map_take, ← List.map_drop]; done))) ?_
  try simp [go_sem, seval]
  repeat (first | intro _ | (refine ⟨obl, ?_⟩))
  exact hQ _ _ (by simp [go_sem, fewR] <;> first | omega | (rw [Bool.eq_iff_iff]; simp <;> omega) | (simp_all <;> omega))
def fewRs (rs : List Rule) : Bool := decide ((rs.length : Int) ≤ 8) && !(rs.any fun r => !fewR r)
theorem ref39_Few (rs : List Rule) (hr : ∀ r ∈ rs, r.le) : Pure Tryz.prog 33 [.list (rs.map Rule.c)] (.bool (fewRs rs)) := by
  refine pureK (by first | rfl | (simp [go_sem]; done)) (fun Q hQ => (acalls_of_body (cfg := ⟨fun _ => false, fun _ => []⟩) Tz.mixed Tryz.func33 rfl rfl (Nat.le_of_ble_eq_true rfl) (by kernel_rfl) ?_))
  try simp [go_sem, seval]
  repeat (first | intro _ | (refine ⟨obl, ?_⟩))
  refine condQ_mk (fun h1 => ?_) (fun h1 => ?_)
  · try simp [go_sem] at h1
    try simp [go_sem, seval]
    have hb : fewRs rs = false := by simp [fewRs]; omega
    exact hQ _ _ (by first | (left; (simp [go_sem, hb]); done) | (right; (simp [go_sem, hb]); done))
  · try simp [go_sem] at h1
    try simp [go_sem, seval]
    obtain ⟨I0, hI0⟩ : ∃ I0 : Nat → Env → AHeap → Prop, ∀ (i : Nat) (e : Env) (H : AHeap), I0 i e H ↔ ((e 0 = .list (rs.map Rule.c)) ∧ (e 3 = dI i) ∧ (i ≤ rs.length) ∧ (((rs.take i).any fun r => !fewR r) = false)) := ⟨fun i e H => _, fun _ _ _ => Iff.rfl⟩
    refine loopK I0 (fun i => rs.length - i) (0) ((hI0 _ _ _).2 ⟨?_, ?_, (by first | assumption | omega | (simp [go_sem]; done) | (simp_all; done)), (by rfl)⟩) ?_
    iterate 2 (first | omega | (simp [go_sem, seval] <;> omega))
    intro i e H hi0
    obtain ⟨q0_0, q3_0, hi, ha⟩ := (hI0 _ _ _).1 hi0
    have F0 := And.intro q0_0 q3_0
    try simp [go_sem, seval, F0]
    repeat (first | intro _ | (refine ⟨obl, ?_⟩))
    refine condQ_mk (fun h4 => ?_) (fun h4 => ?_)
    · try simp [go_sem] at h4
      try simp [go_sem, seval, F0, h4]
      repeat (first | intro _ | (refine ⟨obl, ?_⟩))
      refine callQ_pure0 (ref24_Few rs[i] (hr _ (List.getElem_mem h4))) ((by first | rfl | (simp [go_sem, ← List.map_take, ← List.map_drop, F0, h4]; done))) ?_
      try simp [go_sem, seval, F0, h4]
      repeat (first | intro _ | (refine ⟨obl, ?_⟩))
      refine condQ_mk (fun h6 => ?_) (fun h6 => ?_)
      · try simp [go_sem] at h6
        try simp [go_sem, seval, F0, h4]
        have hb : (rs.any fun r => !fewR r) = true := List.any_eq_true.2 ⟨_, List.getElem_mem h4, by simp [h6]⟩
        exact hQ _ _ (by first | (left; (simp only [go_sem, fewRs, hb, Bool.not_true, Bool.and_false]); done) | (right; (simp only [go_sem, fewRs, hb, Bool.not_true, Bool.and_false]); done))
      · try simp [go_sem] at h6
        try simp [go_sem, seval, F0, h4]
        repeat (first | intro _ | (refine ⟨obl, ?_⟩))
        refine nextQ_mk (i + 1) (by omega) ((hI0 _ _ _).2 ⟨?_, ?_, (by first | assumption | omega | (simp [go_sem, F0, h4, h1, h6]; done) | (simp_all; done) | (simp_all; omega)), (by (rw [any_take_succ _ _ _ h4, ha]; simp [h6]))⟩) <;> first | omega | (simp [go_sem, seval, F0, h4] <;> omega)
    · try simp [go_sem] at h4
      have hN := any_end ha h4
      try simp [go_sem, seval, F0]
      have h8 : decide ((rs.length : Int) ≤ 8) = true := by simp; omega
      exact hQ _ _ (by first | (left; (simp only [go_sem, fewRs, hN, h8, Bool.not_false, Bool.and_true]); done) | (right; (simp only [go_sem, fewRs, hN, h8, Bool.not_false, Bool.and_true]); done))
end Go.Abs
end
section
set_option linter.unusedVariables false
set_option linter.unusedSimpArgs false
set_option maxRecDepth 8000
open Go Go.Proofs
namespace Go.Abs
def badName (s : ByteArray) : Bool := decide (40 < (s.size : Int))
def badAttr (x : Attr) : Bool := badName x.name || decide (25 < (x.names.length : Int)) || x.names.any badName
def badNode (n : NodeTy) : Bool := badName n.name || n.attrs.any badAttr
def badEdge (x : EdgeTy) : Bool := badName x.name
def attrSum (l : List NodeTy) : Nat := (l.map fun n => n.attrs.length).sum
def fewT (t : Types) : Bool := decide ((t.nodes.length : Int) ≤ 20) && decide ((t.edges.length : Int) ≤ 30) && decide (attrSum t.nodes ≤ 30) && !(t.nodes.any badNode) && !(t.edges.any badEdge)
@[go_sem, simp] theorem attrSum_nil : attrSum [] = 0 := rfl
theorem attrSum_succ (l : List NodeTy) {i : Nat} (h : i < l.length) : attrSum (l.take (i + 1)) = attrSum (l.take i) + l[i].attrs.length := by
  unfold attrSum
  rw [List.take_succ_eq_append_getElem h, List.map_append, List.sum_append]; simp
theorem attrSum_le (l : List NodeTy) (i : Nat) : attrSum (l.take i) ≤ attrSum l := by
  have : attrSum l = attrSum (l.take i) + attrSum (l.drop i) := by
    unfold attrSum
    rw [← List.sum_append, ← List.map_append, List.take_append_drop]
  omega
theorem attrs_mem {l : List NodeTy} {n : NodeTy} (h : n ∈ l) : n.attrs.length ≤ attrSum l := by
  induction l with
  | nil => cases h
  | cons a l ih =>
    have e : attrSum (a :: l) = a.attrs.length + attrSum l := by simp [attrSum]
    rcases List.mem_cons.1 h with rfl | h
    · omega
    · have := ih h; omega
theorem fewT_ok {t : Types} (h : fewT t = true) : t.ok := by
  simp [fewT] at h
  obtain ⟨⟨⟨⟨h1, h2⟩, h3⟩, h4⟩, h5⟩ := h
  refine ⟨fun n hn => ?_, fun x hx => ⟨?_⟩, by omega, by omega⟩
  · have hl := attrs_mem hn
    have := h4 n hn
    simp [badNode, badName] at this
    refine ⟨by omega, fun x hx => ?_, by omega⟩
    have hb := this.2 x hx
    simp [badAttr, badName] at hb
    refine ⟨by omega, fun s hs => ?_, by omega⟩
    have := hb.2 s hs
    omega
  · have := h5 x hx
    simp [badEdge, badName] at this
    omega
theorem ref04_Few (t : Types) (ht : ∀ n ∈ t.nodes, n.attrs.length ≤ 1000000000000000) : Pure Tryz.prog 16 [t.d] (.bool (fewT t)) := by
  refine pureK (by first | rfl | (simp [go_sem]; done)) (fun Q hQ => (acalls_of_body (cfg := ⟨fun t => t == 6, fun _ => []⟩) Tz.mixed Tryz.func16 rfl rfl (Nat.le_of_ble_eq_true rfl) (by kernel_rfl) ?_))
  try simp [go_sem, seval]
  repeat (first | intro _ | (refine ⟨obl, ?_⟩))
  refine condQ_mk (fun h1 => ?_) (fun h1 => ?_)
  · try simp [go_sem] at h1
    try simp [go_sem, seval]
    have hb : fewT t = false := by simp [fewT]; omega
    exact hQ _ _ (by first | (left; (simp [go_sem, hb]); done) | (right; (simp [go_sem, hb]); done))
  · try simp [go_sem] at h1
    try simp [go_sem, seval]
    obtain ⟨I0, hI0⟩ : ∃ I0 : Nat → Env → AHeap → Prop, ∀ (i : Nat) (e : Env) (H : AHeap), I0 i e H ↔ ((e 1 = .adr t.c) ∧ (e 3 = dI (attrSum (t.nodes.take i))) ∧ (e 4 = dI i) ∧ (i ≤ t.nodes.length) ∧ (attrSum (t.nodes.take i) ≤ 30) ∧ ((t.nodes.take i).any badNode = false)) := ⟨fun i e H => _, fun _ _ _ => Iff.rfl⟩
    refine loopK I0 (fun i => t.nodes.length - i) (0) ((hI0 _ _ _).2 ⟨?_, ?_, ?_, (by first | assumption | omega | (simp [go_sem]; done) | (simp_all; done)), (by (simp [attrSum])), (by rfl)⟩) ?_
    iterate 3 (first | omega | (simp [go_sem, seval] <;> omega))
    intro i e H hi0
    obtain ⟨q1_0, q3_0, q4_0, hi, hs, ha⟩ := (hI0 _ _ _).1 hi0
    have F0 := And.intro q1_0 (And.intro q3_0 q4_0)
    try simp [go_sem, seval, F0]
    repeat (first | intro _ | (refine ⟨obl, ?_⟩))
    refine condQ_mk (fun h5 => ?_) (fun h5 => ?_)
    · try simp [go_sem] at h5
      have hst := attrSum_succ t.nodes h5
      have hle := attrSum_le t.nodes (i + 1)
      have hn := ht _ (List.getElem_mem h5)
      try simp [go_sem, seval, F0, h5, hst]
      repeat (first | intro _ | (refine ⟨obl, ?_⟩))
      refine condQ_mk (fun h8 => ?_) (fun h8 => ?_)
      · try simp [go_sem] at h8
        try simp [go_sem, seval, F0, h5, hst]
        have hb : fewT t = false := by
          rcases h8 with h8 | h8
          · simp [fewT]; omega
          · have : t.nodes.any badNode = true := List.any_eq_true.2 ⟨_, List.getElem_mem h5, by simp [badNode, badName]; omega⟩
            simp [fewT, this]
        exact hQ _ _ (by first | (left; (simp [go_sem, hb]); done) | (right; (simp [go_sem, hb]); done))
      · try simp [go_sem] at h8
        have hN : badName t.nodes[i].name = false := by simp [badName]; omega
        try simp [go_sem, seval, F0, h5, hst]
        obtain ⟨I2, hI2⟩ : ∃ I2 : Nat → Env → AHeap → Prop, ∀ (k : Nat) (e : Env) (H : AHeap), I2 k e H ↔ ((e 1 = .adr t.c) ∧ (e 3 = dI (attrSum (t.nodes.take (i + 1)))) ∧ (e 4 = dI i) ∧ (e 5 = dI k) ∧ (k ≤ t.nodes[i].attrs.length) ∧ ((t.nodes[i].attrs.take k).any badAttr = false)) := ⟨fun k e H => _, fun _ _ _ => Iff.rfl⟩
        refine loopK I2 (fun k => t.nodes[i].attrs.length - k) (0) ((hI2 _ _ _).2 ⟨?_, ?_, ?_, ?_, (by first | assumption | omega | (simp [go_sem, F0, h5, hst]; done) | (simp_all; done)), (by rfl)⟩) ?_
        iterate 4 (first | omega | (simp [go_sem, seval, F0, h5, hst] <;> omega))
        intro k e H hi2
        obtain ⟨q1_2, q3_2, q4_2, q5_2, hk, hb⟩ := (hI2 _ _ _).1 hi2
        have F2 := And.intro q1_2 (And.intro q3_2 (And.intro q4_2 q5_2))
        try simp [go_sem, seval, h5, hst, F2]
        repeat (first | intro _ | (refine ⟨obl, ?_⟩))
        refine condQ_mk (fun h11 => ?_) (fun h11 => ?_)
        · try simp [go_sem] at h11
          try simp [go_sem, seval, h5, hst, F2, h11]
          repeat (first | intro _ | (refine ⟨obl, ?_⟩))
          refine condQ_mk (fun h14 => ?_) (fun h14 => ?_)
          · try simp [go_sem] at h14
            try simp [go_sem, seval, h5, hst, F2, h11]
            have hbad : badAttr t.nodes[i].attrs[k] = true := by simp [badAttr, badName]; omega
            have hb2 : t.nodes.any badNode = true := List.any_eq_true.2 ⟨_, List.getElem_mem h5, by unfold badNode; rw [Bool.or_eq_true]; right; exact List.any_eq_true.2 ⟨_, List.getElem_mem h11, hbad⟩⟩
            have hb3 : fewT t = false := by simp [fewT, hb2]
            exact hQ _ _ (by first | (left; (simp [go_sem, hb3]); done) | (right; (simp [go_sem, hb3]); done))
          · try simp [go_sem] at h14
            have hM : badName t.nodes[i].attrs[k].name = false := by simp [badName]; omega
            try simp [go_sem, seval, h5, hst, F2, h11]
            obtain ⟨I4, hI4⟩ : ∃ I4 : Nat → Env → AHeap → Prop, ∀ (m : Nat) (e : Env) (H : AHeap), I4 m e H ↔ (∃ j : Nat, (e 1 = .adr t.c) ∧ (e 3 = dI (attrSum (t.nodes.take (i + 1)))) ∧ (e 4 = dI i) ∧ (e 5 = dI k) ∧ (e 6 = .ptr j 1 0 0) ∧ (e 7 = dI m) ∧ (H.get j = some ⟨101, 4, [t.nodes[i].attrs[k].c], false⟩) ∧ (j < H.next) ∧ (m ≤ t.nodes[i].attrs[k].names.length) ∧ ((t.nodes[i].attrs[k].names.take m).any badName = false)) := ⟨fun m e H => _, fun _ _ _ => Iff.rfl⟩
            refine loopK I4 (fun m => t.nodes[i].attrs[k].names.length - m) (0) ((hI4 _ _ _).2 ⟨(H.next), ?_, ?_, ?_, ?_, ?_, ?_, ?_, ?_, (by first | assumption | omega | (simp [go_sem, h5, hst, F2, h11]; done) | (simp_all; done)), (by rfl)⟩) ?_
            iterate 8 (first | omega | (simp [go_sem, seval, h5, hst, F2, h11] <;> omega))
            intro m e H hi4
            obtain ⟨j, q1_4, q3_4, q4_4, q5_4, q6_4, q7_4, gj_4, nj_4, hm, hc⟩ := (hI4 _ _ _).1 hi4
            have xj := frs nj_4
            have F4 := And.intro q1_4 (And.intro q3_4 (And.intro q4_4 (And.intro q5_4 (And.intro q6_4 (And.intro q7_4 (And.intro gj_4 xj))))))
            try simp [go_sem, seval, h5, hst, h11, F4]
            repeat (first | intro _ | (refine ⟨obl, ?_⟩))
            refine condQ_mk (fun h17 => ?_) (fun h17 => ?_)
            · try simp [go_sem] at h17
              try simp [go_sem, seval, h5, hst, h11, F4, h17]
              repeat (first | intro _ | (refine ⟨obl, ?_⟩))
              refine condQ_mk (fun h19 => ?_) (fun h19 => ?_)
              · try simp [go_sem] at h19
                try simp [go_sem, seval, h5, hst, h11, F4, h17]
                have hbad : badAttr t.nodes[i].attrs[k] = true := by unfold badAttr; rw [Bool.or_eq_true]; right; exact List.any_eq_true.2 ⟨_, List.getElem_mem h17, by simp [badName]; omega⟩
                have hb2 : t.nodes.any badNode = true := List.any_eq_true.2 ⟨_, List.getElem_mem h5, by unfold badNode; rw [Bool.or_eq_true]; right; exact List.any_eq_true.2 ⟨_, List.getElem_mem h11, hbad⟩⟩
                have hb3 : fewT t = false := by simp [fewT, hb2]
                exact hQ _ _ (by first | (left; (simp [go_sem, hb3]); done) | (right; (simp [go_sem, hb3]); done))
              · try simp [go_sem] at h19
                try simp [go_sem, seval, h5, hst, h11, F4, h17]
                repeat (first | intro _ | (refine ⟨obl, ?_⟩))
                refine nextQ_mk (m + 1) (by omega) ((hI4 _ _ _).2 ⟨(j), ?_, ?_, ?_, ?_, ?_, ?_, ?_, ?_, (by first | assumption | omega | (simp [go_sem, h5, hst, h11, F4, h17, h1, h8, h14, h19]; done) | (simp_all; done) | (simp_all; omega)), (by (rw [any_take_succ _ _ _ h17, hc]; simp [badName]; omega))⟩) <;> first | omega | (simp [go_sem, seval, h5, hst, h11, F4, h17] <;> omega)
            · try simp [go_sem] at h17
              have hZ := any_end hc h17
              try simp [go_sem, seval, h5, hst, h11, F4]
              repeat (first | intro _ | (refine ⟨obl, ?_⟩))
              refine nextQ_mk (k + 1) (by omega) ((hI2 _ _ _).2 ⟨?_, ?_, ?_, ?_, (by first | assumption | omega | (simp [go_sem, h5, hst, h11, F4, h1, h8, h14, h17]; done) | (simp_all; done) | (simp_all; omega)), (by (rw [any_take_succ _ _ _ h11, hb]; simp [badAttr, hM, hZ]; omega))⟩) <;> first | omega | (simp [go_sem, seval, h5, hst, h11, F4] <;> omega)
        · try simp [go_sem] at h11
          have hA := any_end hb h11
          try simp [go_sem, seval, h5, hst, F2]
          repeat (first | intro _ | (refine ⟨obl, ?_⟩))
          refine nextQ_mk (i + 1) (by omega) ((hI0 _ _ _).2 ⟨?_, ?_, ?_, (by first | assumption | omega | (simp [go_sem, h5, hst, F2, h1, h8, h11]; done) | (simp_all; done) | (simp_all; omega)), (by omega), (by (rw [any_take_succ _ _ _ h5, ha]; simp [badNode, hN, hA]))⟩) <;> first | omega | (simp [go_sem, seval, h5, hst, F2] <;> omega)
    · try simp [go_sem] at h5
      have hNn := any_end ha h5
      rw [List.take_of_length_le (by omega)] at hs
      try simp [go_sem, seval, F0]
      obtain ⟨I6, hI6⟩ : ∃ I6 : Nat → Env → AHeap → Prop, ∀ (q : Nat) (e : Env) (H : AHeap), I6 q e H ↔ ((e 1 = .adr t.c) ∧ (e 8 = dI q) ∧ (q ≤ t.edges.length) ∧ ((t.edges.take q).any badEdge = false)) := ⟨fun q e H => _, fun _ _ _ => Iff.rfl⟩
      refine loopK I6 (fun q => t.edges.length - q) (0) ((hI6 _ _ _).2 ⟨?_, ?_, (by first | assumption | omega | (simp [go_sem, F0]; done) | (simp_all; done)), (by rfl)⟩) ?_
      iterate 2 (first | omega | (simp [go_sem, seval, F0] <;> omega))
      intro q e H hi6
      obtain ⟨q1_6, q8_6, hj, hd⟩ := (hI6 _ _ _).1 hi6
      have F6 := And.intro q1_6 q8_6
      try simp [go_sem, seval, F6]
      repeat (first | intro _ | (refine ⟨obl, ?_⟩))
      refine condQ_mk (fun h22 => ?_) (fun h22 => ?_)
      · try simp [go_sem] at h22
        try simp [go_sem, seval, F6, h22]
        repeat (first | intro _ | (refine ⟨obl, ?_⟩))
        refine condQ_mk (fun h24 => ?_) (fun h24 => ?_)
        · try simp [go_sem] at h24
          try simp [go_sem, seval, F6, h22]
          have hb2 : t.edges.any badEdge = true := List.any_eq_true.2 ⟨_, List.getElem_mem h22, by simp [badEdge, badName]; omega⟩
          have hb3 : fewT t = false := by simp [fewT, hb2]
          exact hQ _ _ (by first | (left; (simp [go_sem, hb3]); done) | (right; (simp [go_sem, hb3]); done))
        · try simp [go_sem] at h24
          try simp [go_sem, seval, F6, h22]
          repeat (first | intro _ | (refine ⟨obl, ?_⟩))
          refine nextQ_mk (q + 1) (by omega) ((hI6 _ _ _).2 ⟨?_, ?_, (by first | assumption | omega | (simp [go_sem, F6, h22, h1, h5, h24]; done) | (simp_all; done) | (simp_all; omega)), (by (rw [any_take_succ _ _ _ h22, hd]; simp [badEdge, badName]; omega))⟩) <;> first | omega | (simp [go_sem, seval, F6, h22] <;> omega)
      · try simp [go_sem] at h22
        have hEe := any_end hd h22
        try simp [go_sem, seval, F6]
        have hb3 : fewT t = true := by simp only [fewT, hNn, hEe]; simp; omega
        exact hQ _ _ (by first | (left; (simp [go_sem, hb3]); done) | (right; (simp [go_sem, hb3]); done))
end Go.Abs
end
