/- Layer 24, the reference: rules. · Layer 39: effects of rules. · Layer 39: effects of rules, continued. -/
import Derived.Test.YtjhccdolbhjmaaaGreatZeAA
import Derived.Test.YtjhccdolbhjmaaaGreatZeAM
section
set_option linter.unusedVariables false
set_option linter.unusedSimpArgs false
set_option maxRecDepth 8000
open Go Go.Proofs
namespace Go.Abs
theorem idx_posL {l : List Int} {v : Int} (hs : l.Pairwise (· < ·)) (hm : mem l v = true) : idx l v = posL l v := by
  obtain ⟨i, hi, he⟩ := List.getElem_of_mem ((mem_iff l v).1 hm)
  have hpw := List.pairwise_iff_getElem.1 hs
  rw [idx_some (i := i) (fun j hj h => by
      have hjl : j < l.length := by omega
      rw [List.getElem?_eq_getElem hjl] at h
      have := hpw j i hjl hi hj
      simp at h; omega) (by rw [List.getElem?_eq_getElem hi, he])]
  rw [posL_eq (n := i) (fun j hj h => by have := hpw j i hj hi h; omega) (by omega) (fun _ => by omega)]
theorem listE_zero {α : Type} {f : α → Int} : ∀ {l : List α}, listE f l = 0 → ∀ x ∈ l, f x = 0
  | [], _, x, hx => by cases hx
  | a :: l, h, x, hx => by
    unfold listE at h
    split at h
    · rename_i h1; exact absurd h h1
    · rename_i h1
      rcases List.mem_cons.1 hx with h2 | h2
      · subst h2; omega
      · exact listE_zero h x h2
theorem subF_ends {g : Graph} {p : Part} (h : subF g p = 0) : ∀ k ∈ p.edges, mem p.nodes (g.edges[k.toNat]?.getD zeroEdge).from_ = true ∧ mem p.nodes (g.edges[k.toNat]?.getD zeroEdge).to_ = true := by
  unfold subF partF at h
  split at h
  · rename_i h1; exact absurd h h1
  · split at h
    · rename_i h2; exact absurd h h2
    · split at h
      · rename_i h3; exact absurd h h3
      · intro k hk
        have := listE_zero h k hk
        unfold dangE at this
        split at this
        · rename_i h4; simpa using h4
        · cases this
theorem ref07_Extract (g : Graph) (p : Part) (hl : p.nodes.length ≤ 1000000) (hle : p.edges.length ≤ 1000000) : Pure Tryz.prog 134 [g.d, p.d] (.tup [(extractG g p).d, (partR g p).d, dI (subF g p)]) := by
  refine pureK (by first | rfl | (simp [go_sem]; done)) (fun Q hQ => (acalls_of_body (cfg := ⟨fun t => t == 4 || t == 5 || t == 8 || t == 11 || t == 76 || t == 80, fun r => match r with | 8 => [(0, 11), (1, 11)] | 12 => [(0, 9), (1, 9), (2, 9), (3, 9), (5, 9), (6, 9), (7, 9), (8, 9)] | 13 => [(0, 15), (1, 15)] | 14 => [(0, 1), (1, 2), (1, 3), (0, 4), (0, 5), (1, 5), (2, 5), (3, 5), (4, 5), (1, 6), (4, 6), (5, 6), (1, 7), (4, 7), (5, 7), (0, 8)] | _ => []⟩) Tz.mixed Tryz.func134 rfl rfl (Nat.le_of_ble_eq_true rfl) (by kernel_rfl) ?_))
  try simp [go_sem, seval]
  refine callQ_pure0 (ref07_Valid g p) ((by first | rfl | (simp [go_sem, ← List.map_take, ← List.map_drop]; done))) ?_
  try simp [go_sem, seval]
  refine condQ_mk (fun h2 => ?_) (fun h2 => ?_)
  · try simp [go_sem] at h2
    try simp [go_sem, seval]
    exact hQ _ _ (by first | (left; (simp [go_sem, extractG, partR, h2]); done) | (right; (simp [go_sem, extractG, partR, h2]); done))
  · try simp [go_sem] at h2
    obtain ⟨hg, hs, hin, hie⟩ := subF_of h2
    have hends := subF_ends h2
    try simp [go_sem, seval]
    obtain ⟨I0, hI0⟩ : ∃ I0 : Nat → Env → AHeap → Prop, ∀ (i : Nat) (e : Env) (H : AHeap), I0 i e H ↔ (∃ xs : List Int, (e 2 = .adr g.c) ∧ (e 3 = .adr p.c) ∧ (e 4 = .ptr 0 1 0 0) ∧ (e 5 = .ptr 1 1 0 0) ∧ (e 8 = .ptr 2 1 0 0) ∧ (e 9 = dI i) ∧ (H.get 0 = some ⟨39, 2, [[.nil, .nil]], false⟩) ∧ (0 < H.next) ∧ (H.get 1 = some ⟨69, 2, [[.nil, .nil]], false⟩) ∧ (1 < H.next) ∧ (H.get 2 = some ⟨39, 2, [[.own 3 xs.length, .nil]], false⟩) ∧ (2 < H.next) ∧ (H.get 3 = some ⟨3, 1, xs.map cI, false⟩) ∧ (3 < H.next) ∧ (i ≤ p.nodes.length) ∧ (xs = (p.nodes.take i).map (gN g))) := ⟨fun i e H => _, fun _ _ _ => Iff.rfl⟩
    refine loopKG (Ghosts.step (Ghosts.refl _) 2 0 0 3 1 _ _ (rfl) rfl rfl rfl) I0 (fun i => p.nodes.length - i) (0) ((hI0 _ _ _).2 ⟨([]), ?_, ?_, ?_, ?_, ?_, ?_, ?_, ?_, ?_, ?_, ?_, ?_, ?_, ?_, (by first | assumption | omega | (simp [go_sem]; done) | (simp_all; done)), (by rfl)⟩) ?_
    iterate 14 (first | omega | (simp [go_sem, seval] <;> omega))
    intro i e H hi0
    obtain ⟨xs, q2_0, q3_0, q4_0, q5_0, q8_0, q9_0, g0_0, n0_0, g1_0, n1_0, g2_0, n2_0, g3_0, n3_0, hi, hx⟩ := (hI0 _ _ _).1 hi0
    have x0 := frs n0_0
    have x1 := frs n1_0
    have x2 := frs n2_0
    have x3 := frs n3_0
    have F0 := And.intro q2_0 (And.intro q3_0 (And.intro q4_0 (And.intro q5_0 (And.intro q8_0 (And.intro q9_0 (And.intro g0_0 (And.intro g1_0 (And.intro g2_0 (And.intro g3_0 (And.intro x0 (And.intro x1 (And.intro x2 x3))))))))))))
    try simp [go_sem, seval, F0]
    repeat (first | intro _ | (refine ⟨obs, ?_⟩))
    refine condQ_mk (fun h6 => ?_) (fun h6 => ?_)
    · try simp [go_sem] at h6
      have hin' := hin _ (List.getElem_mem h6)
      have hk : p.nodes[i].toNat < g.nodes.length := by omega
      have hxl : xs.length = i := by rw [hx]; simp; omega
      try simp [go_sem, seval, F0, h6, List.getElem?_eq_getElem hk, gN]
      repeat (first | intro _ | (refine ⟨obs, ?_⟩))
      refine nextQ_mk (i + 1) (by omega) ((hI0 _ _ _).2 ⟨(xs ++ [gN g p.nodes[i]]), ?_, ?_, ?_, ?_, ?_, ?_, ?_, ?_, ?_, ?_, ?_, ?_, ?_, ?_, (by first | assumption | omega | (simp [go_sem, F0, h6, List.getElem?_eq_getElem hk, gN, h2]; done) | (simp_all; done) | (simp_all; omega)), (by (rw [map_take_succ _ h6, ← hx]))⟩) <;> first | omega | (simp [go_sem, seval, F0, h6, List.getElem?_eq_getElem hk, gN] <;> omega)
    · try simp [go_sem] at h6
      have hX : xs = p.nodes.map (gN g) := by rw [hx, map_take_end _ (by omega)]
      try simp [go_sem, seval, F0]
      obtain ⟨I2, hI2⟩ : ∃ I2 : Nat → Env → AHeap → Prop, ∀ (k : Nat) (e : Env) (H : AHeap), I2 k e H ↔ (∃ j : Nat, ∃ ys : List Edge, (e 2 = .adr g.c) ∧ (e 3 = .adr p.c) ∧ (e 4 = .ptr 0 1 0 0) ∧ (e 5 = .ptr 1 1 0 0) ∧ (e 8 = .ptr 2 1 0 0) ∧ (e 10 = dI k) ∧ (H.get 0 = some ⟨39, 2, [[.nil, .nil]], false⟩) ∧ (0 < H.next) ∧ (H.get 1 = some ⟨69, 2, [[.nil, .nil]], false⟩) ∧ (1 < H.next) ∧ (H.get 2 = some ⟨39, 2, [[.own 3 xs.length, .own j ys.length]], false⟩) ∧ (2 < H.next) ∧ (H.get 3 = some ⟨3, 1, xs.map cI, false⟩) ∧ (3 < H.next) ∧ (H.get j = some ⟨146, 3, ys.map Edge.c, false⟩) ∧ (j < H.next) ∧ (k ≤ p.edges.length) ∧ (ys = (p.edges.take k).map (gEd g p)) ∧ (j ≠ 0) ∧ (j ≠ 1) ∧ (j ≠ 2) ∧ (j ≠ 3)) := ⟨fun k e H => _, fun _ _ _ => Iff.rfl⟩
      refine loopKG (Ghosts.step (Ghosts.refl _) 2 0 1 146 3 _ _ (g2_0) rfl rfl rfl) I2 (fun k => p.edges.length - k) (0) ((hI2 _ _ _).2 ⟨(H.next), ([]), ?_, ?_, ?_, ?_, ?_, ?_, ?_, ?_, ?_, ?_, ?_, ?_, ?_, ?_, ?_, ?_, (by first | assumption | omega | (simp [go_sem, F0]; done) | (simp_all; done)), (by rfl), (by omega), (by omega), (by omega), (by omega)⟩) ?_
      iterate 16 (first | omega | (simp [go_sem, seval, F0] <;> omega))
      intro k e H hi2
      obtain ⟨j, ys, q2_2, q3_2, q4_2, q5_2, q8_2, q10_2, g0_2, n0_2, g1_2, n1_2, g2_2, n2_2, g3_2, n3_2, gj_2, nj_2, hk, hy, j0, j1, j2, j3⟩ := (hI2 _ _ _).1 hi2
      have x0 := frs n0_2
      have x1 := frs n1_2
      have x2 := frs n2_2
      have x3 := frs n3_2
      have xj := frs nj_2
      have F2 := And.intro q2_2 (And.intro q3_2 (And.intro q4_2 (And.intro q5_2 (And.intro q8_2 (And.intro q10_2 (And.intro g0_2 (And.intro g1_2 (And.intro g2_2 (And.intro g3_2 (And.intro gj_2 (And.intro x0 (And.intro x1 (And.intro x2 (And.intro x3 xj))))))))))))))
      try simp [go_sem, seval, F2, j0, j1, j2, j3, j0.symm, j1.symm, j2.symm, j3.symm]
      repeat (first | intro _ | (refine ⟨obs, ?_⟩))
      refine condQ_mk (fun h10 => ?_) (fun h10 => ?_)
      · try simp [go_sem] at h10
        have hie' := hie _ (List.getElem_mem h10)
        have hke : p.edges[k].toNat < g.edges.length := by omega
        have hyl : ys.length = k := by rw [hy]; simp; omega
        have hen := hends _ (List.getElem_mem h10)
        rw [List.getElem?_eq_getElem hke, Option.getD_some] at hen
        have hi1 := idx_posL hs hen.1
        have hi2 := idx_posL hs hen.2
        try simp [go_sem, seval, F2, j0, j1, j2, j3, j0.symm, j1.symm, j2.symm, j3.symm, h10, List.getElem?_eq_getElem hke, gEd, hi1, hi2]
        repeat (first | intro _ | (refine ⟨obs, ?_⟩))
        refine dcallQ_pure0 (ref07_index p.nodes _) ((by first | rfl | (simp [go_sem, ← List.map_take, ← List.map_drop, F2, j0, j1, j2, j3, j0.symm, j1.symm, j2.symm, j3.symm, h10, List.getElem?_eq_getElem hke, gEd, hi1, hi2]; done))) ?_
        try simp [go_sem, seval, F2, j0, j1, j2, j3, j0.symm, j1.symm, j2.symm, j3.symm, h10, List.getElem?_eq_getElem hke, gEd, hi1, hi2]
        repeat (first | intro _ | (refine ⟨obs, ?_⟩))
        refine dcallQ_pure0 (ref07_index p.nodes _) ((by first | rfl | (simp [go_sem, ← List.map_take, ← List.map_drop, F2, j0, j1, j2, j3, j0.symm, j1.symm, j2.symm, j3.symm, h10, List.getElem?_eq_getElem hke, gEd, hi1, hi2]; done))) ?_
        try simp [go_sem, seval, F2, j0, j1, j2, j3, j0.symm, j1.symm, j2.symm, j3.symm, h10, List.getElem?_eq_getElem hke, gEd, hi1, hi2]
        repeat (first | intro _ | (refine ⟨obs, ?_⟩))
        refine nextQ_mk (k + 1) (by omega) ((hI2 _ _ _).2 ⟨(j), (ys ++ [gEd g p p.edges[k]]), ?_, ?_, ?_, ?_, ?_, ?_, ?_, ?_, ?_, ?_, ?_, ?_, ?_, ?_, ?_, ?_, (by first | assumption | omega | (simp [go_sem, F2, j0, j1, j2, j3, j0.symm, j1.symm, j2.symm, j3.symm, h10, List.getElem?_eq_getElem hke, gEd, hi1, hi2, h2, h6]; done) | (simp_all; done) | (simp_all; omega)), (by (rw [map_take_succ _ h10, ← hy])), (by first | assumption | omega | (simp [go_sem, F2, j0, j1, j2, j3, j0.symm, j1.symm, j2.symm, j3.symm, h10, List.getElem?_eq_getElem hke, gEd, hi1, hi2, h2, h6]; done) | (simp_all; done) | (simp_all; omega)), (by first | assumption | omega | (simp [go_sem, F2, j0, j1, j2, j3, j0.symm, j1.symm, j2.symm, j3.symm, h10, List.getElem?_eq_getElem hke, gEd, hi1, hi2, h2, h6]; done) | (simp_all; done) | (simp_all; omega)), (by first | assumption | omega | (simp [go_sem, F2, j0, j1, j2, j3, j0.symm, j1.symm, j2.symm, j3.symm, h10, List.getElem?_eq_getElem hke, gEd, hi1, hi2, h2, h6]; done) | (simp_all; done) | (simp_all; omega)), (by first | assumption | omega | (simp [go_sem, F2, j0, j1, j2, j3, j0.symm, j1.symm, j2.symm, j3.symm, h10, List.getElem?_eq_getElem hke, gEd, hi1, hi2, h2, h6]; done) | (simp_all; done) | (simp_all; omega))⟩) <;> first | omega | (simp [go_sem, seval, F2, j0, j1, j2, j3, j0.symm, j1.symm, j2.symm, j3.symm, h10, List.getElem?_eq_getElem hke, gEd, hi1, hi2] <;> omega)
      · try simp [go_sem] at h10
        have hY : ys = p.edges.map (gEd g p) := by rw [hy, map_take_end _ (by omega)]
        try simp [go_sem, seval, F2, j0, j1, j2, j3, j0.symm, j1.symm, j2.symm, j3.symm]
        repeat (first | intro _ | (refine ⟨obs, ?_⟩))
        exact hQ _ _ (by first | (left; (simp [go_sem, F2, j0, j1, j2, j3, j0.symm, j1.symm, j2.symm, j3.symm, extractG, partR, h2, hX, hY]); done) | (right; (simp [go_sem, F2, j0, j1, j2, j3, j0.symm, j1.symm, j2.symm, j3.symm, extractG, partR, h2, hX, hY]); done))
theorem ref24_slot (t : Types) (ht : t.ok) (p : Pattern) (hr : p.graph.nodes.length ≤ 1000) (hs1 : p.slots.length ≤ 1000) (i : Nat) (hi : i < p.slots.length) : Pure Tryz.prog 230 [t.d, p.d, dI i] (dI (slotRE t p i)) := by
  have hS := slotRE_at (t := t) hi
  have h8 := attrsT_len ht (p.kind p.slots[i].node)
  refine pureK (by first | rfl | (simp [go_sem]; done)) (fun Q hQ => (acalls_of_body (cfg := ⟨fun t => t == 7, fun _ => []⟩) Tz.mixed Tryz.func230 rfl rfl (Nat.le_of_ble_eq_true rfl) (by kernel_rfl) ?_))
  try simp [go_sem, seval, List.getElem?_eq_getElem hi, hi]
  repeat (first | intro _ | (refine ⟨obl, ?_⟩))
  refine condQ_mk (fun h2 => ?_) (fun h2 => ?_)
  · try simp [go_sem] at h2
    have hE : slotE t p p.slots[i] ≠ 0 := by
      unfold slotE; rw [if_neg]; decide; intro h; simp [attrB] at h; omega
    rw [if_pos hE] at hS
    try simp [go_sem, seval, List.getElem?_eq_getElem hi, hi]
    exact hQ _ _ (by first | (left; (simp [go_sem, hS]); done) | (right; (simp [go_sem, hS]); done))
  · try simp [go_sem] at h2
    have hn : p.slots[i].node.toNat < p.graph.nodes.length := by omega
    have hk : p.kind p.slots[i].node = p.graph.nodes[p.slots[i].node.toNat] := by simp [Pattern.kind, hn]
    rw [hk] at h8
    try simp [go_sem, seval, List.getElem?_eq_getElem hi, hi, List.getElem?_eq_getElem hn, hk]
    repeat (first | intro _ | (refine ⟨obl, ?_⟩))
    refine dcallQ_pure0 (ref04_Attrs t ht p.graph.nodes[p.slots[i].node.toNat]) ((by first | rfl | (simp [go_sem, ← List.map_take, ← List.map_drop, List.getElem?_eq_getElem hi, hi, List.getElem?_eq_getElem hn, hk]; done))) ?_
    try simp [go_sem, seval, List.getElem?_eq_getElem hi, hi, List.getElem?_eq_getElem hn, hk]
    repeat (first | intro _ | (refine ⟨obl, ?_⟩))
    refine condQ_mk (fun h5 => ?_) (fun h5 => ?_)
    · try simp [go_sem] at h5
      have hE : slotE t p p.slots[i] ≠ 0 := by
        unfold slotE; rw [if_neg]; decide; intro h; simp [attrB, inF, hk] at h; omega
      rw [if_pos hE] at hS
      try simp [go_sem, seval, List.getElem?_eq_getElem hi, hi, List.getElem?_eq_getElem hn, hk]
      exact hQ _ _ (by first | (left; (simp [go_sem, hS]); done) | (right; (simp [go_sem, hS]); done))
    · try simp [go_sem] at h5
      have hE : slotE t p p.slots[i] = 0 := by
        unfold slotE; rw [if_pos]; simp [attrB, inF, hk]; omega
      rw [if_neg (by omega)] at hS
      try simp [go_sem, seval, List.getElem?_eq_getElem hi, hi, List.getElem?_eq_getElem hn, hk]
      obtain ⟨I0, hI0⟩ : ∃ I0 : Nat → Env → AHeap → Prop, ∀ (k : Nat) (e : Env) (H : AHeap), I0 k e H ↔ ((e 4 = .adr p.c) ∧ (e 2 = dI i) ∧ (e 7 = .ptr 0 1 0 0) ∧ (e 10 = dI k) ∧ (H.get 0 = some ⟨245, 4, [p.slots[i].c], false⟩) ∧ (0 < H.next) ∧ (k ≤ i) ∧ (((p.slots.take k).any (sameSlot p.slots[i])) = false)) := ⟨fun k e H => _, fun _ _ _ => Iff.rfl⟩
      refine loopK I0 (fun k => i - k) (0) ((hI0 _ _ _).2 ⟨?_, ?_, ?_, ?_, ?_, ?_, (by first | assumption | omega | (simp [go_sem, List.getElem?_eq_getElem hi, hi, List.getElem?_eq_getElem hn, hk]; done) | (simp_all; done)), (by rfl)⟩) ?_
      iterate 6 (first | omega | (simp [go_sem, seval, List.getElem?_eq_getElem hi, hi, List.getElem?_eq_getElem hn, hk] <;> omega))
      intro k e H hi0
      obtain ⟨q4_0, q2_0, q7_0, q10_0, g0_0, n0_0, hk2, hne⟩ := (hI0 _ _ _).1 hi0
      have x0 := frs n0_0
      have F0 := And.intro q4_0 (And.intro q2_0 (And.intro q7_0 (And.intro q10_0 (And.intro g0_0 x0))))
      try simp [go_sem, seval, List.getElem?_eq_getElem hi, hi, List.getElem?_eq_getElem hn, hk, F0]
      refine condQ_mk (fun h8 => ?_) (fun h8 => ?_)
      · try simp [go_sem] at h8
        have hkl : k < p.slots.length := by omega
        try simp [go_sem, seval, List.getElem?_eq_getElem hi, hi, List.getElem?_eq_getElem hn, hk, F0, h8, hkl]
        repeat (first | intro _ | (refine ⟨obl, ?_⟩))
        refine condQ_mk (fun h10 => ?_) (fun h10 => ?_)
        · try simp [go_sem] at h10
          try simp [go_sem, seval, List.getElem?_eq_getElem hi, hi, List.getElem?_eq_getElem hn, hk, F0, h8, hkl]
          have hb := any_take_of (p := sameSlot p.slots[i]) h8 hkl (by simp [sameSlot]; omega)
          exact hQ _ _ (by first | (left; (rw [hS, if_pos hb]; simp [go_sem]); done) | (right; (rw [hS, if_pos hb]; simp [go_sem]); done))
        · try simp [go_sem] at h10
          try simp [go_sem, seval, List.getElem?_eq_getElem hi, hi, List.getElem?_eq_getElem hn, hk, F0, h8, hkl]
          repeat (first | intro _ | (refine ⟨obl, ?_⟩))
          refine nextQ_mk (k + 1) (by omega) ((hI0 _ _ _).2 ⟨?_, ?_, ?_, ?_, ?_, ?_, (by first | assumption | omega | (simp [go_sem, List.getElem?_eq_getElem hi, hi, List.getElem?_eq_getElem hn, hk, F0, h8, hkl, h2, h5, h10]; done) | (simp_all; done) | (simp_all; omega)), (by (rw [any_take_succ _ _ _ hkl, hne]; simp [sameSlot]; omega))⟩) <;> first | omega | (simp [go_sem, seval, List.getElem?_eq_getElem hi, hi, List.getElem?_eq_getElem hn, hk, F0, h8, hkl] <;> omega)
      · try simp [go_sem] at h8
        have hb := any_take_end hne (show k = i by omega)
        try simp [go_sem, seval, List.getElem?_eq_getElem hi, hi, List.getElem?_eq_getElem hn, hk, F0]
        exact hQ _ _ (by first | (left; (rw [hS, if_neg (by simp [hb])]; simp [go_sem]); done) | (right; (rw [hS, if_neg (by simp [hb])]; simp [go_sem]); done))
theorem ref24_right (t : Types) (ht : t.ok) (r : Rule) : Pure Tryz.prog 173 [t.d, r.d] (dI (rightF t r)) := by
  refine pureK (by first | rfl | (simp [go_sem]; done)) (fun Q hQ => (acalls_of_body (cfg := ⟨fun _ => false, fun _ => []⟩) Tz.mixed Tryz.func173 rfl rfl (Nat.le_of_ble_eq_true rfl) (by kernel_rfl) ?_))
  try simp [go_sem, seval]
  refine callQ_pure0 (ref05_Valid r.right.graph) ((by first | rfl | (simp [go_sem, ← List.map_take, ← List.map_drop]; done))) ?_
  try simp [go_sem, seval]
  refine condQ_mk (fun h2 => ?_) (fun h2 => ?_)
  · try simp [go_sem] at h2
    try simp [go_sem, seval]
    exact hQ _ _ (by first | (left; (simp [go_sem, rightF, h2]); done) | (right; (simp [go_sem, rightF, h2]); done))
  · try simp [go_sem] at h2
    have hg := graphF_le h2
    try simp [go_sem, seval]
    repeat (first | intro _ | (refine ⟨obl, ?_⟩))
    refine callQ_pure0 (ref17_Typed t r.right.graph) ((by first | rfl | (simp [go_sem, ← List.map_take, ← List.map_drop]; done))) ?_
    try simp [go_sem, seval]
    repeat (first | intro _ | (refine ⟨obl, ?_⟩))
    refine condQ_mk (fun h4 => ?_) (fun h4 => ?_)
    · try simp [go_sem] at h4
      rw [typed17_eq h2] at h4
      try simp [go_sem, seval]
      exact hQ _ _ (by first | (left; (simp [go_sem, rightF, h2, h4]); done) | (right; (simp [go_sem, rightF, h2, h4]); done))
    · try simp [go_sem] at h4
      rw [typed17_eq h2] at h4
      try simp [go_sem, seval]
      repeat (first | intro _ | (refine ⟨obl, ?_⟩))
      refine condQ_mk (fun h6 => ?_) (fun h6 => ?_)
      · try simp [go_sem] at h6
        have hR : rightF t r = 1 := by unfold rightF; rw [if_neg (by omega), if_neg (by simp [h4]), if_pos (by omega)]
        try simp [go_sem, seval]
        exact hQ _ _ (by first | (left; (simp [go_sem, hR]); done) | (right; (simp [go_sem, hR]); done))
      · try simp [go_sem] at h6
        have h6' : ¬ (r.right.vars ≠ r.left.vars ∨ 0 < r.right.tests.length) := by
          rintro (h | h)
          · exact h h6.1
          · have := h6.2; simp [this] at h
        try simp [go_sem, seval]
        repeat (first | intro _ | (refine ⟨obl, ?_⟩))
        refine condQ_mk (fun h8 => ?_) (fun h8 => ?_)
        · try simp [go_sem] at h8
          have hR : rightF t r = 3 := by unfold rightF; rw [if_neg (by omega), if_neg (by simp [h4]), if_neg h6', if_pos (by omega)]
          try simp [go_sem, seval]
          exact hQ _ _ (by first | (left; (simp [go_sem, hR]); done) | (right; (simp [go_sem, hR]); done))
        · try simp [go_sem] at h8
          have hR : rightF t r = firstE (slotRE t r.right) 0 r.right.slots.length := by unfold rightF; rw [if_neg (by omega), if_neg (by simp [h4]), if_neg h6', if_neg (by omega)]
          try simp [go_sem, seval]
          obtain ⟨I0, hI0⟩ : ∃ I0 : Nat → Env → AHeap → Prop, ∀ (i : Nat) (e : Env) (H : AHeap), I0 i e H ↔ ((e 2 = .adr t.c) ∧ (e 3 = .adr r.c) ∧ (e 6 = dI i) ∧ (i ≤ r.right.slots.length) ∧ (firstE (slotRE t r.right) i (r.right.slots.length - i) = rightF t r)) := ⟨fun i e H => _, fun _ _ _ => Iff.rfl⟩
          refine loopK I0 (fun i => r.right.slots.length - i) (0) ((hI0 _ _ _).2 ⟨?_, ?_, ?_, (by first | assumption | omega | (simp [go_sem]; done) | (simp_all; done)), (by (exact hR.symm))⟩) ?_
          iterate 3 (first | omega | (simp [go_sem, seval] <;> omega))
          intro i e H hi0
          obtain ⟨q2_0, q3_0, q6_0, hi, hF⟩ := (hI0 _ _ _).1 hi0
          have F0 := And.intro q2_0 (And.intro q3_0 q6_0)
          try simp [go_sem, seval, F0]
          repeat (first | intro _ | (refine ⟨obl, ?_⟩))
          refine condQ_mk (fun h11 => ?_) (fun h11 => ?_)
          · try simp [go_sem] at h11
            have hst := hF
            rw [firstE_step _ h11] at hst
            try simp [go_sem, seval, F0, h11]
            refine callQ_pure0 (ref24_slot t ht r.right (by omega) (by omega) i h11) ((by first | rfl | (simp [go_sem, ← List.map_take, ← List.map_drop, F0, h11]; done))) ?_
            try simp [go_sem, seval, F0, h11]
            refine condQ_mk (fun h14 => ?_) (fun h14 => ?_)
            · try simp [go_sem] at h14
              rw [if_pos (by omega)] at hst
              try simp [go_sem, seval, F0, h11]
              exact hQ _ _ (by first | (left; (simp [go_sem, hst]); done) | (right; (simp [go_sem, hst]); done))
            · try simp [go_sem] at h14
              rw [if_neg (by omega)] at hst
              try simp [go_sem, seval, F0, h11]
              repeat (first | intro _ | (refine ⟨obl, ?_⟩))
              refine nextQ_mk (i + 1) (by omega) ((hI0 _ _ _).2 ⟨?_, ?_, ?_, (by first | assumption | omega | (simp [go_sem, F0, h11, h2, h4, h6, h8, h14]; done) | (simp_all; done) | (simp_all; omega)), (by exact hst)⟩) <;> first | omega | (simp [go_sem, seval, F0, h11] <;> omega)
          · try simp [go_sem] at h11
            try simp [go_sem, seval, F0]
            exact hQ _ _ (by first | (left; (rw [← hF, show r.right.slots.length - i = 0 by omega]; rfl); done) | (right; (rw [← hF, show r.right.slots.length - i = 0 by omega]; rfl); done))
theorem ref24_has (l : List Int) (v : Int) : Pure Tryz.prog 266 [dLI l, dI v] (.bool (mem l v)) := by
  refine pureK (by first | rfl | (simp [go_sem]; done)) (fun Q hQ => (acalls_of_body (cfg := ⟨fun _ => false, fun _ => []⟩) Tz.mixed Tryz.func266 rfl rfl (Nat.le_of_ble_eq_true rfl) (by kernel_rfl) ?_))
  try simp [go_sem, seval]
  obtain ⟨I0, hI0⟩ : ∃ I0 : Nat → Env → AHeap → Prop, ∀ (i : Nat) (e : Env) (H : AHeap), I0 i e H ↔ ((e 0 = dLI l) ∧ (e 1 = dI v) ∧ (e 5 = dI i) ∧ (i ≤ l.length) ∧ (∀ j, j < i → l[j]? ≠ some v)) := ⟨fun i e H => _, fun _ _ _ => Iff.rfl⟩
  refine loopK I0 (fun i => l.length - i) (0) ((hI0 _ _ _).2 ⟨?_, ?_, ?_, (by first | assumption | omega | (simp [go_sem]; done) | (simp_all; done)), (by (intro j hj; omega))⟩) ?_
  iterate 3 (first | omega | (simp [go_sem, seval] <;> omega))
  intro i e H hi0
  obtain ⟨q0_0, q1_0, q5_0, hi, hne⟩ := (hI0 _ _ _).1 hi0
  have F0 := And.intro q0_0 (And.intro q1_0 q5_0)
  try simp [go_sem, seval, F0]
  repeat (first | intro _ | (refine ⟨obl, ?_⟩))
  refine condQ_mk (fun h2 => ?_) (fun h2 => ?_)
  · try simp [go_sem] at h2
    try simp [go_sem, seval, F0, h2]
    repeat (first | intro _ | (refine ⟨obl, ?_⟩))
    refine condQ_mk (fun h4 => ?_) (fun h4 => ?_)
    · try simp [go_sem] at h4
      try simp [go_sem, seval, F0, h2]
      have hm : mem l v = true := (mem_iff l v).2 (h4 ▸ List.getElem_mem h2)
      exact hQ _ _ (by first | (left; (simp [go_sem, hm]); done) | (right; (simp [go_sem, hm]); done))
    · try simp [go_sem] at h4
      try simp [go_sem, seval, F0, h2]
      repeat (first | intro _ | (refine ⟨obl, ?_⟩))
      refine nextQ_mk (i + 1) (by omega) ((hI0 _ _ _).2 ⟨?_, ?_, ?_, (by first | assumption | omega | (simp [go_sem, F0, h2, h4]; done) | (simp_all; done) | (simp_all; omega)), (by (exact all_lt_succ hne (by rw [List.getElem?_eq_getElem h2]; simpa using h4)))⟩) <;> first | omega | (simp [go_sem, seval, F0, h2] <;> omega)
  · try simp [go_sem] at h2
    try simp [go_sem, seval, F0]
    have hm : mem l v = false := by rw [Bool.eq_false_iff]; intro h; obtain ⟨j, hj, he⟩ := List.getElem_of_mem ((mem_iff l v).1 h); exact hne j (by omega) (by rw [List.getElem?_eq_getElem hj, he])
    exact hQ _ _ (by first | (left; (simp [go_sem, hm]); done) | (right; (simp [go_sem, hm]); done))
theorem ref24_rest (l : List Int) (n : Nat) (hn : n ≤ 1000000) : Pure Tryz.prog 232 [dI n, dLI l] (dLI (othersL l n)) := by
  refine pureK (by first | rfl | (simp [go_sem]; done)) (fun Q hQ => (acalls_of_body (cfg := ⟨fun t => t == 5, fun _ => []⟩) Tz.mixed Tryz.func232 rfl rfl (Nat.le_of_ble_eq_true rfl) (by kernel_rfl) ?_))
  try simp [go_sem, seval]
  obtain ⟨I0, hI0⟩ : ∃ I0 : Nat → Env → AHeap → Prop, ∀ (i : Nat) (e : Env) (H : AHeap), I0 i e H ↔ (∃ xs : List Int, (e 1 = dLI l) ∧ (e 0 = dI n) ∧ (e 5 = .own 0 xs.length) ∧ (e 6 = dI i) ∧ (H.get 0 = some ⟨3, 1, xs.map cI, false⟩) ∧ (0 < H.next) ∧ (i ≤ n) ∧ (xs.length ≤ i) ∧ (xs = ((List.range i).filter fun (b : Nat) => !mem l b).map (fun (b : Nat) => (b : Int)))) := ⟨fun i e H => _, fun _ _ _ => Iff.rfl⟩
  refine loopK I0 (fun i => n - i) (0) ((hI0 _ _ _).2 ⟨([]), ?_, ?_, ?_, ?_, ?_, ?_, (by first | assumption | omega | (simp [go_sem]; done) | (simp_all; done)), (by simp), (by rfl)⟩) ?_
  iterate 6 (first | omega | (simp [go_sem, seval] <;> omega))
  intro i e H hi0
  obtain ⟨xs, q1_0, q0_0, q5_0, q6_0, g0_0, n0_0, hi, hl, hx⟩ := (hI0 _ _ _).1 hi0
  have x0 := frs n0_0
  have F0 := And.intro q1_0 (And.intro q0_0 (And.intro q5_0 (And.intro q6_0 (And.intro g0_0 x0))))
  try simp [go_sem, seval, F0]
  refine condQ_mk (fun h3 => ?_) (fun h3 => ?_)
  · try simp [go_sem] at h3
    try simp [go_sem, seval, F0, h3]
    repeat (first | intro _ | (refine ⟨obl, ?_⟩))
    refine callQ_pure0 (ref24_has l i) ((by first | rfl | (simp [go_sem, ← List.map_take, ← List.map_drop, F0, h3]; done))) ?_
    try simp [go_sem, seval, F0, h3]
    repeat (first | intro _ | (refine ⟨obl, ?_⟩))
    refine condQ_mk (fun h5 => ?_) (fun h5 => ?_)
    · try simp [go_sem] at h5
      try simp [go_sem, seval, F0, h3, h5]
      repeat (first | intro _ | (refine ⟨obl, ?_⟩))
      refine nextQ_mk (i + 1) (by omega) ((hI0 _ _ _).2 ⟨(xs ++ (if (!mem l i) = true then [(i : Int)] else [])), ?_, ?_, ?_, ?_, ?_, ?_, (by first | assumption | omega | (simp [go_sem, F0, h3, h5]; done) | (simp_all; done) | (simp_all; omega)), (by (rw [List.length_append]; split <;> simp <;> omega)), (by (rw [range_filter_succ, ← hx]))⟩) <;> first | omega | (simp [go_sem, seval, F0, h3, h5] <;> omega)
    · try simp [go_sem] at h5
      try simp [go_sem, seval, F0, h3, h5]
      repeat (first | intro _ | (refine ⟨obl, ?_⟩))
      refine nextQ_mk (i + 1) (by omega) ((hI0 _ _ _).2 ⟨(xs ++ (if (!mem l i) = true then [(i : Int)] else [])), ?_, ?_, ?_, ?_, ?_, ?_, (by first | assumption | omega | (simp [go_sem, F0, h3, h5]; done) | (simp_all; done) | (simp_all; omega)), (by (rw [List.length_append]; split <;> simp <;> omega)), (by (rw [range_filter_succ, ← hx]))⟩) <;> first | omega | (simp [go_sem, seval, F0, h3, h5] <;> omega)
  · try simp [go_sem] at h3
    try simp [go_sem, seval, F0]
    exact hQ _ _ (by first | (left; (simp [go_sem, F0, othersL]; rw [hx, show i = n by omega]; simp); done) | (right; (simp [go_sem, F0, othersL]; rw [hx, show i = n by omega]; simp); done))
theorem ref24_proper (t : Types) (ht : t.ok) (g : Graph) (h0 : graphF g = 0) (hT : typedB t g = true) (nodes edges : List Int) (hn : ∀ i ∈ nodes, 0 ≤ i ∧ i < g.nodes.length) (he : ∀ k ∈ edges, 0 ≤ k ∧ k < g.edges.length) : Pure Tryz.prog 177 [t.d, g.d, dLI nodes, dLI edges] (.bool (makeB t g nodes edges)) := by
  have hin := typedB_in h0 hT
  refine pureK (by first | rfl | (simp [go_sem]; done)) (fun Q hQ => (acalls_of_body (cfg := ⟨fun t => t == 11, fun r => match r with | 9 => [(0, 8), (1, 8), (4, 8), (5, 8), (6, 8), (7, 8)] | _ => []⟩) Tz.mixed Tryz.func177 rfl rfl (Nat.le_of_ble_eq_true rfl) (by kernel_rfl) ?_))
  try simp [go_sem, seval]
  obtain ⟨I0, hI0⟩ : ∃ I0 : Nat → Env → AHeap → Prop, ∀ (i : Nat) (e : Env) (H : AHeap), I0 i e H ↔ ((e 4 = .adr t.c) ∧ (e 5 = .adr g.c) ∧ (e 2 = dLI nodes) ∧ (e 3 = dLI edges) ∧ (e 9 = dI i) ∧ (i ≤ nodes.length) ∧ (((nodes.take i).any (absB t g)) = false)) := ⟨fun i e H => _, fun _ _ _ => Iff.rfl⟩
  refine loopK I0 (fun i => nodes.length - i) (0) ((hI0 _ _ _).2 ⟨?_, ?_, ?_, ?_, ?_, (by first | assumption | omega | (simp [go_sem]; done) | (simp_all; done)), (by rfl)⟩) ?_
  iterate 5 (first | omega | (simp [go_sem, seval] <;> omega))
  intro i e H hi0
  obtain ⟨q4_0, q5_0, q2_0, q3_0, q9_0, hi, ha⟩ := (hI0 _ _ _).1 hi0
  have F0 := And.intro q4_0 (And.intro q5_0 (And.intro q2_0 (And.intro q3_0 q9_0)))
  try simp [go_sem, seval, F0]
  repeat (first | intro _ | (refine ⟨obl, ?_⟩))
  refine condQ_mk (fun h2 => ?_) (fun h2 => ?_)
  · try simp [go_sem] at h2
    have hn' := hn _ (List.getElem_mem h2)
    have hk : nodes[i].toNat < g.nodes.length := by omega
    have hin' := hin.1 _ (List.getElem_mem hk)
    have hkt : g.nodes[nodes[i].toNat].toNat < t.nodes.length := by omega
    have hA : absB t g nodes[i] = t.nodes[g.nodes[nodes[i].toNat].toNat].abs := by simp [absB, gN, List.getElem?_eq_getElem hk, List.getElem?_eq_getElem hkt]
    try simp [go_sem, seval, F0, h2, List.getElem?_eq_getElem hk, List.getElem?_eq_getElem hkt]
    repeat (first | intro _ | (refine ⟨obl, ?_⟩))
    refine condQ_mk (fun h4 => ?_) (fun h4 => ?_)
    · try simp [go_sem] at h4
      try simp [go_sem, seval, F0, h2, List.getElem?_eq_getElem hk, List.getElem?_eq_getElem hkt]
      have hb : nodes.any (absB t g) = true := List.any_eq_true.2 ⟨_, List.getElem_mem h2, by rw [hA, h4]⟩
      exact hQ _ _ (by first | (left; (simp only [go_sem, makeB, hb, Bool.not_true, Bool.false_and]); done) | (right; (simp only [go_sem, makeB, hb, Bool.not_true, Bool.false_and]); done))
    · try simp [go_sem] at h4
      try simp [go_sem, seval, F0, h2, List.getElem?_eq_getElem hk, List.getElem?_eq_getElem hkt]
      repeat (first | intro _ | (refine ⟨obl, ?_⟩))
      refine nextQ_mk (i + 1) (by omega) ((hI0 _ _ _).2 ⟨?_, ?_, ?_, ?_, ?_, (by first | assumption | omega | (simp [go_sem, F0, h2, List.getElem?_eq_getElem hk, List.getElem?_eq_getElem hkt, h4]; done) | (simp_all; done) | (simp_all; omega)), (by (rw [any_take_succ _ _ _ h2, ha, hA, h4]; rfl))⟩) <;> first | omega | (simp [go_sem, seval, F0, h2, List.getElem?_eq_getElem hk, List.getElem?_eq_getElem hkt] <;> omega)
  · try simp [go_sem] at h2
    have hN := any_end ha h2
    try simp [go_sem, seval, F0]
    obtain ⟨I2, hI2⟩ : ∃ I2 : Nat → Env → AHeap → Prop, ∀ (k : Nat) (e : Env) (H : AHeap), I2 k e H ↔ ((e 4 = .adr t.c) ∧ (e 5 = .adr g.c) ∧ (e 2 = dLI nodes) ∧ (e 3 = dLI edges) ∧ (e 10 = dI k) ∧ (k ≤ edges.length) ∧ (((edges.take k).any (unfitB t g)) = false)) := ⟨fun k e H => _, fun _ _ _ => Iff.rfl⟩
    refine loopK I2 (fun k => edges.length - k) (0) ((hI2 _ _ _).2 ⟨?_, ?_, ?_, ?_, ?_, (by first | assumption | omega | (simp [go_sem, F0]; done) | (simp_all; done)), (by rfl)⟩) ?_
    iterate 5 (first | omega | (simp [go_sem, seval, F0] <;> omega))
    intro k e H hi2
    obtain ⟨q4_2, q5_2, q2_2, q3_2, q10_2, hk, hb⟩ := (hI2 _ _ _).1 hi2
    have F2 := And.intro q4_2 (And.intro q5_2 (And.intro q2_2 (And.intro q3_2 q10_2)))
    try simp [go_sem, seval, F2]
    repeat (first | intro _ | (refine ⟨obl, ?_⟩))
    refine condQ_mk (fun h7 => ?_) (fun h7 => ?_)
    · try simp [go_sem] at h7
      have he' := he _ (List.getElem_mem h7)
      have hke : edges[k].toNat < g.edges.length := by omega
      have hin' := hin.2 _ (List.getElem_mem hke)
      have hf : g.edges[edges[k].toNat].from_.toNat < g.nodes.length := by omega
      have hto : g.edges[edges[k].toNat].to_.toNat < g.nodes.length := by omega
      have hA : unfitB t g edges[k] = !fitsT t g.edges[edges[k].toNat].type g.nodes[g.edges[edges[k].toNat].from_.toNat] g.nodes[g.edges[edges[k].toNat].to_.toNat] := by simp [unfitB, gN, List.getElem?_eq_getElem hke, List.getElem?_eq_getElem hf, List.getElem?_eq_getElem hto]
      try simp [go_sem, seval, F2, h7, List.getElem?_eq_getElem hke, List.getElem?_eq_getElem hf, List.getElem?_eq_getElem hto]
      repeat (first | intro _ | (refine ⟨obl, ?_⟩))
      refine dcallQ_pure0 (ref04_Fits t ht _ _ _) ((by first | rfl | (simp [go_sem, ← List.map_take, ← List.map_drop, F2, h7, List.getElem?_eq_getElem hke, List.getElem?_eq_getElem hf, List.getElem?_eq_getElem hto]; done))) ?_
      try simp [go_sem, seval, F2, h7, List.getElem?_eq_getElem hke, List.getElem?_eq_getElem hf, List.getElem?_eq_getElem hto]
      repeat (first | intro _ | (refine ⟨obl, ?_⟩))
      refine condQ_mk (fun h10 => ?_) (fun h10 => ?_)
      · try simp [go_sem] at h10
        try simp [go_sem, seval, F2, h7, List.getElem?_eq_getElem hke, List.getElem?_eq_getElem hf, List.getElem?_eq_getElem hto]
        have hb' : edges.any (unfitB t g) = true := List.any_eq_true.2 ⟨_, List.getElem_mem h7, by rw [hA, h10]; rfl⟩
        exact hQ _ _ (by first | (left; (simp only [go_sem, makeB, hb', Bool.not_true, Bool.and_false]); done) | (right; (simp only [go_sem, makeB, hb', Bool.not_true, Bool.and_false]); done))
      · try simp [go_sem] at h10
        try simp [go_sem, seval, F2, h7, List.getElem?_eq_getElem hke, List.getElem?_eq_getElem hf, List.getElem?_eq_getElem hto]
        repeat (first | intro _ | (refine ⟨obl, ?_⟩))
        refine nextQ_mk (k + 1) (by omega) ((hI2 _ _ _).2 ⟨?_, ?_, ?_, ?_, ?_, (by first | assumption | omega | (simp [go_sem, F2, h7, List.getElem?_eq_getElem hke, List.getElem?_eq_getElem hf, List.getElem?_eq_getElem hto, h2, h10]; done) | (simp_all; done) | (simp_all; omega)), (by (rw [any_take_succ _ _ _ h7, hb, hA, h10]; rfl))⟩) <;> first | omega | (simp [go_sem, seval, F2, h7, List.getElem?_eq_getElem hke, List.getElem?_eq_getElem hf, List.getElem?_eq_getElem hto] <;> omega)
    · try simp [go_sem] at h7
      try simp [go_sem, seval, F2]
      have hE := any_end hb h7
      exact hQ _ _ (by first | (left; (simp only [go_sem, makeB, hN, hE, Bool.not_false, Bool.and_true]); done) | (right; (simp only [go_sem, makeB, hN, hE, Bool.not_false, Bool.and_true]); done))
theorem ref24_created (r : Rule) (h1 : r.right.graph.nodes.length ≤ 1000000) (h2 : r.right.graph.edges.length ≤ 1000000) : Pure Tryz.prog 176 [r.d] (.tup [dLI r.freshN, dLI r.freshE]) := by
  refine pureK (by first | rfl | (simp [go_sem]; done)) (fun Q hQ => (acalls_of_body (cfg := ⟨fun _ => false, fun _ => []⟩) Tz.mixed Tryz.func176 rfl rfl (Nat.le_of_ble_eq_true rfl) (by kernel_rfl) ?_))
  try simp [go_sem, seval]
  repeat (first | intro _ | (refine ⟨obl, ?_⟩))
  refine dcallQ_pure0 (ref24_rest r.into.nodes _ h1) ((by first | rfl | (simp [go_sem, ← List.map_take, ← List.map_drop]; done))) ?_
  try simp [go_sem, seval]
  repeat (first | intro _ | (refine ⟨obl, ?_⟩))
  refine dcallQ_pure0 (ref24_rest r.into.edges _ h2) ((by first | rfl | (simp [go_sem, ← List.map_take, ← List.map_drop]; done))) ?_
  try simp [go_sem, seval]
  repeat (first | intro _ | (refine ⟨obl, ?_⟩))
  exact hQ _ _ (by simp [go_sem, Rule.freshN, Rule.freshE] <;> first | omega | (rw [Bool.eq_iff_iff]; simp <;> omega) | (simp_all <;> omega))
theorem ref24_deleted (r : Rule) (h1 : r.left.graph.nodes.length ≤ 1000000) (h2 : r.left.graph.edges.length ≤ 1000000) : Pure Tryz.prog 178 [r.d] (.tup [dLI r.goneN, dLI r.goneE]) := by
  refine pureK (by first | rfl | (simp [go_sem]; done)) (fun Q hQ => (acalls_of_body (cfg := ⟨fun _ => false, fun _ => []⟩) Tz.mixed Tryz.func178 rfl rfl (Nat.le_of_ble_eq_true rfl) (by kernel_rfl) ?_))
  try simp [go_sem, seval]
  repeat (first | intro _ | (refine ⟨obl, ?_⟩))
  refine dcallQ_pure0 (ref24_rest r.keep.nodes _ h1) ((by first | rfl | (simp [go_sem, ← List.map_take, ← List.map_drop]; done))) ?_
  try simp [go_sem, seval]
  repeat (first | intro _ | (refine ⟨obl, ?_⟩))
  refine dcallQ_pure0 (ref24_rest r.keep.edges _ h2) ((by first | rfl | (simp [go_sem, ← List.map_take, ← List.map_drop]; done))) ?_
  try simp [go_sem, seval]
  repeat (first | intro _ | (refine ⟨obl, ?_⟩))
  exact hQ _ _ (by simp [go_sem, Rule.goneN, Rule.goneE] <;> first | omega | (rw [Bool.eq_iff_iff]; simp <;> omega) | (simp_all <;> omega))
def spanF (r : Rule) : Int :=
  if subF r.left.graph r.keep ≠ 0 then subF r.left.graph r.keep
  else morphF (extractG r.left.graph r.keep) r.right.graph r.into
theorem ref24_span (r : Rule) (hr : r.ok) : Pure Tryz.prog 174 [r.d] (dI (spanF r)) := by
  obtain ⟨_, hk1, hk2, hi1, hi2, _, _⟩ := hr
  refine pureK (by first | rfl | (simp [go_sem]; done)) (fun Q hQ => (acalls_of_body (cfg := ⟨fun t => t == 4 || t == 5, fun _ => []⟩) Tz.mixed Tryz.func174 rfl rfl (Nat.le_of_ble_eq_true rfl) (by kernel_rfl) ?_))
  try simp [go_sem, seval]
  refine callQ_pure0 (ref07_Valid r.left.graph r.keep) ((by first | rfl | (simp [go_sem, ← List.map_take, ← List.map_drop]; done))) ?_
  try simp [go_sem, seval]
  refine condQ_mk (fun h2 => ?_) (fun h2 => ?_)
  · try simp [go_sem] at h2
    try simp [go_sem, seval]
    exact hQ _ _ (by simp [go_sem, h2, spanF] <;> first | omega | (rw [Bool.eq_iff_iff]; simp <;> omega) | (simp_all <;> omega))
  · try simp [go_sem] at h2
    try simp [go_sem, seval]
    refine callQ_pure0 (ref07_Extract r.left.graph r.keep hk1 hk2) ((by first | rfl | (simp [go_sem, ← List.map_take, ← List.map_drop]; done))) ?_
    try simp [go_sem, seval]
    refine callQ_pure0 (ref06_Valid (extractG r.left.graph r.keep) r.right.graph r.into) ((by first | rfl | (simp [go_sem, ← List.map_take, ← List.map_drop]; done))) ?_
    try simp [go_sem, seval]
    exact hQ _ _ (by simp [go_sem, h2, spanF] <;> first | omega | (rw [Bool.eq_iff_iff]; simp <;> omega) | (simp_all <;> omega))
theorem keptF_span (r : Rule) : keptF r = if spanF r ≠ 0 then spanF r else if (decide r.into.nodes.Nodup && decide r.into.edges.Nodup) = true then 0 else 11 := by
  unfold keptF spanF injB
  by_cases h1 : subF r.left.graph r.keep = 0
  · by_cases h2 : morphF (extractG r.left.graph r.keep) r.right.graph r.into = 0
    · simp only [h1, h2, ne_eq, not_true, if_false, decide_true, Bool.true_and]
      cases (decide r.into.nodes.Nodup && decide r.into.edges.Nodup) <;> simp
    · simp [h1, h2]
  · simp [h1]
theorem ref24_Valid (t : Types) (ht : t.ok) (r : Rule) (hr : r.ok) : Pure Tryz.prog 109 [t.d, r.d] (dI (ruleF t r)) := by
  have hcv := ref22_Valid t ht r.left r.cond hr.cond hr.size
  rw [Cond.c_eq] at hcv
  have hK := keptF_span r
  refine pureK (by first | rfl | (simp [go_sem]; done)) (fun Q hQ => (acalls_of_body (cfg := ⟨fun _ => false, fun _ => []⟩) Tz.mixed Tryz.func109 rfl rfl (Nat.le_of_ble_eq_true rfl) (by kernel_rfl) ?_))
  try simp [go_sem, seval]
  refine callQ_pure0 (ref04_Valid t ht) ((by first | rfl | (simp [go_sem, ← List.map_take, ← List.map_drop]; done))) ?_
  try simp [go_sem, seval]
  refine condQ_mk (fun h2 => ?_) (fun h2 => ?_)
  · try simp [go_sem] at h2
    try simp [go_sem, seval]
    exact hQ _ _ (by first | (left; (simp [go_sem, ruleF, h2]); done) | (right; (simp [go_sem, ruleF, h2]); done))
  · try simp [go_sem] at h2
    try simp [go_sem, seval]
    repeat (first | intro _ | (refine ⟨obl, ?_⟩))
    refine callQ_pure0 (ref01_IsName r.name hr.name) ((by first | rfl | (simp [go_sem, ← List.map_take, ← List.map_drop]; done))) ?_
    try simp [go_sem, seval]
    repeat (first | intro _ | (refine ⟨obl, ?_⟩))
    refine condQ_mk (fun h4 => ?_) (fun h4 => ?_)
    · try simp [go_sem] at h4
      try simp [go_sem, seval]
      exact hQ _ _ (by first | (left; (simp [go_sem, ruleF, h2, h4]); done) | (right; (simp [go_sem, ruleF, h2, h4]); done))
    · try simp [go_sem] at h4
      try simp [go_sem, seval]
      refine callQ_pure0 (ref21_Valid t ht r.left) ((by first | rfl | (simp [go_sem, ← List.map_take, ← List.map_drop]; done))) ?_
      try simp [go_sem, seval]
      refine condQ_mk (fun h7 => ?_) (fun h7 => ?_)
      · try simp [go_sem] at h7
        try simp [go_sem, seval]
        exact hQ _ _ (by first | (left; (simp [go_sem, ruleF, h2, h4, h7]); done) | (right; (simp [go_sem, ruleF, h2, h4, h7]); done))
      · try simp [go_sem] at h7
        try simp [go_sem, seval]
        refine callQ_pure0 (ref24_right t ht r) ((by first | rfl | (simp [go_sem, ← List.map_take, ← List.map_drop]; done))) ?_
        try simp [go_sem, seval]
        refine condQ_mk (fun h10 => ?_) (fun h10 => ?_)
        · try simp [go_sem] at h10
          try simp [go_sem, seval]
          exact hQ _ _ (by first | (left; (simp [go_sem, ruleF, h2, h4, h7, h10]); done) | (right; (simp [go_sem, ruleF, h2, h4, h7, h10]); done))
        · try simp [go_sem] at h10
          have hg := rightF_of h10
          have hgl := graphF_le hg.1
          try simp [go_sem, seval]
          refine callQ_pure0 (ref24_span r hr) ((by first | rfl | (simp [go_sem, ← List.map_take, ← List.map_drop]; done))) ?_
          try simp [go_sem, seval]
          refine condQ_mk (fun h13 => ?_) (fun h13 => ?_)
          · try simp [go_sem] at h13
            try simp [go_sem, seval]
            exact hQ _ _ (by first | (left; (simp [go_sem, ruleF, h2, h4, h7, h10, hK, h13]); done) | (right; (simp [go_sem, ruleF, h2, h4, h7, h10, hK, h13]); done))
          · try simp [go_sem] at h13
            try simp [go_sem, seval]
            repeat (first | intro _ | (refine ⟨obl, ?_⟩))
            refine callQ_pure0 (ref06_Distinct r.into.nodes) ((by first | rfl | (simp [go_sem, ← List.map_take, ← List.map_drop]; done))) ?_
            try simp [go_sem, seval]
            repeat (first | intro _ | (refine ⟨obl, ?_⟩))
            refine gcallQ_pure0 (fun hg => ref06_Distinct r.into.edges) (fun hg => (by first | rfl | (simp [go_sem, ← List.map_take, ← List.map_drop]; done))) ?_
            try simp [go_sem, seval]
            repeat (first | intro _ | (refine ⟨obl, ?_⟩))
            refine condQ_mk (fun h15 => ?_) (fun h15 => ?_)
            · try simp [go_sem] at h15
              have hK' : keptF r = 11 := by rw [hK, if_neg (by omega), if_neg (fun h => by rw [Bool.and_eq_true, decide_eq_true_eq, decide_eq_true_eq] at h; rcases h15 with h' | h'; exact h' h.1; exact h' h.2)]
              try simp [go_sem, seval]
              exact hQ _ _ (by first | (left; (simp [go_sem, ruleF, h2, h4, h7, h10, hK']); done) | (right; (simp [go_sem, ruleF, h2, h4, h7, h10, hK']); done))
            · try simp [go_sem] at h15
              have hK' : keptF r = 0 := by rw [hK, if_neg (by omega), if_pos (by rw [Bool.and_eq_true, decide_eq_true_eq, decide_eq_true_eq]; exact h15)]
              try simp [go_sem, seval]
              refine callQ_pure0 (ref24_created r (by omega) (by omega)) ((by first | rfl | (simp [go_sem, ← List.map_take, ← List.map_drop]; done))) ?_
              try simp [go_sem, seval]
              repeat (first | intro _ | (refine ⟨obl, ?_⟩))
              refine callQ_pure0 (ref24_proper t ht r.right.graph hg.1 hg.2 r.freshN r.freshE (fun i hi => othersL_mem hi) (fun i hi => othersL_mem hi)) ((by first | rfl | (simp [go_sem, ← List.map_take, ← List.map_drop]; done))) ?_
              try simp [go_sem, seval]
              repeat (first | intro _ | (refine ⟨obl, ?_⟩))
              refine condQ_mk (fun h18 => ?_) (fun h18 => ?_)
              · try simp [go_sem] at h18
                try simp [go_sem, seval]
                exact hQ _ _ (by first | (left; (simp [go_sem, ruleF, h2, h4, h7, h10, hK', h18]); done) | (right; (simp [go_sem, ruleF, h2, h4, h7, h10, hK', h18]); done))
              · try simp [go_sem] at h18
                try simp [go_sem, seval]
                refine callQ_pure0 (hcv) ((by first | rfl | (simp [go_sem, ← List.map_take, ← List.map_drop]; done))) ?_
                try simp [go_sem, seval]
                exact hQ _ _ (by first | (left; (simp [go_sem, ruleF, h2, h4, h7, h10, hK', h18]); done) | (right; (simp [go_sem, ruleF, h2, h4, h7, h10, hK', h18]); done))
end Go.Abs
end
section
set_option linter.unusedVariables false
set_option linter.unusedSimpArgs false
set_option maxRecDepth 8000
open Go Go.Proofs
namespace Go.Abs
def delN (t : Types) (r : Rule) : List Int := if ruleF t r = 0 then r.goneN else []
def delE (t : Types) (r : Rule) : List Int := if ruleF t r = 0 then r.goneE else []
def creN (t : Types) (r : Rule) : List Int := if ruleF t r = 0 then r.freshN else []
def creE (t : Types) (r : Rule) : List Int := if ruleF t r = 0 then r.freshE else []
theorem ruleF_of {t : Types} {r : Rule} (h : ruleF t r = 0) : (validF t).2 = 0 ∧ (graphF r.left.graph = 0 ∧ typedB t r.left.graph = true) ∧ (graphF r.right.graph = 0 ∧ typedB t r.right.graph = true) := by
  unfold ruleF at h
  split at h
  · rename_i h1; exact absurd h h1
  · rename_i h1
    split at h
    · cases h
    · split at h
      · rename_i h2; exact absurd h h2
      · rename_i h2
        split at h
        · rename_i h3; exact absurd h h3
        · rename_i h3
          refine ⟨by omega, ?_, rightF_of (by omega)⟩
          have h2' : patternF t r.left = 0 := by omega
          unfold patternF at h2'
          rw [if_neg h1] at h2'
          split at h2'
          · rename_i h4; exact absurd h2' h4
          · rename_i h4
            split at h2'
            · cases h2'
            · rename_i h5; exact ⟨by omega, by simpa using h5⟩
theorem rule_Deleted (t : Types) (ht : t.ok) (r : Rule) (hr : r.ok) : Pure Tryz.prog 185 [t.d, r.d] (.tup [dLI (delN t r), dLI (delE t r), dI (ruleF t r)]) := by
  refine pureK (by first | rfl | (simp [go_sem]; done)) (fun Q hQ => (acalls_of_body (cfg := ⟨fun _ => false, fun _ => []⟩) Tz.mixed Tryz.func185 rfl rfl (Nat.le_of_ble_eq_true rfl) (by kernel_rfl) ?_))
  try simp [go_sem, seval]
  refine callQ_pure0 (rule_Valid t ht r hr) ((by first | rfl | (simp [go_sem, ← List.map_take, ← List.map_drop]; done))) ?_
  try simp [go_sem, seval]
  refine condQ_mk (fun h2 => ?_) (fun h2 => ?_)
  · try simp [go_sem] at h2
    try simp [go_sem, seval]
    exact hQ _ _ (by simp [go_sem, h2, delN, delE] <;> first | omega | (rw [Bool.eq_iff_iff]; simp <;> omega) | (simp_all <;> omega))
  · try simp [go_sem] at h2
    have hg := ruleF_of h2
    have hgl := graphF_le hg.2.1.1
    try simp [go_sem, seval]
    refine callQ_pure0 (rule_deleted r (by omega) (by omega)) ((by first | rfl | (simp [go_sem, ← List.map_take, ← List.map_drop]; done))) ?_
    try simp [go_sem, seval]
    exact hQ _ _ (by simp [go_sem, h2, delN, delE] <;> first | omega | (rw [Bool.eq_iff_iff]; simp <;> omega) | (simp_all <;> omega))
theorem rule_Created (t : Types) (ht : t.ok) (r : Rule) (hr : r.ok) : Pure Tryz.prog 186 [t.d, r.d] (.tup [dLI (creN t r), dLI (creE t r), dI (ruleF t r)]) := by
  refine pureK (by first | rfl | (simp [go_sem]; done)) (fun Q hQ => (acalls_of_body (cfg := ⟨fun _ => false, fun _ => []⟩) Tz.mixed Tryz.func186 rfl rfl (Nat.le_of_ble_eq_true rfl) (by kernel_rfl) ?_))
  try simp [go_sem, seval]
  refine callQ_pure0 (rule_Valid t ht r hr) ((by first | rfl | (simp [go_sem, ← List.map_take, ← List.map_drop]; done))) ?_
  try simp [go_sem, seval]
  refine condQ_mk (fun h2 => ?_) (fun h2 => ?_)
  · try simp [go_sem] at h2
    try simp [go_sem, seval]
    exact hQ _ _ (by simp [go_sem, h2, creN, creE] <;> first | omega | (rw [Bool.eq_iff_iff]; simp <;> omega) | (simp_all <;> omega))
  · try simp [go_sem] at h2
    have hg := ruleF_of h2
    have hgl := graphF_le hg.2.2.1
    try simp [go_sem, seval]
    refine callQ_pure0 (rule_created r (by omega) (by omega)) ((by first | rfl | (simp [go_sem, ← List.map_take, ← List.map_drop]; done))) ?_
    try simp [go_sem, seval]
    exact hQ _ _ (by simp [go_sem, h2, creN, creE] <;> first | omega | (rw [Bool.eq_iff_iff]; simp <;> omega) | (simp_all <;> omega))
theorem ref24_Deleted (t : Types) (ht : t.ok) (r : Rule) (hr : r.ok) : Pure Tryz.prog 110 [t.d, r.d] (.tup [dLI (delN t r), dLI (delE t r), dI (ruleF t r)]) := by
  refine pureK (by first | rfl | (simp [go_sem]; done)) (fun Q hQ => (acalls_of_body (cfg := ⟨fun _ => false, fun _ => []⟩) Tz.mixed Tryz.func110 rfl rfl (Nat.le_of_ble_eq_true rfl) (by kernel_rfl) ?_))
  try simp [go_sem, seval]
  refine callQ_pure0 (ref24_Valid t ht r hr) ((by first | rfl | (simp [go_sem, ← List.map_take, ← List.map_drop]; done))) ?_
  try simp [go_sem, seval]
  refine condQ_mk (fun h2 => ?_) (fun h2 => ?_)
  · try simp [go_sem] at h2
    try simp [go_sem, seval]
    exact hQ _ _ (by simp [go_sem, h2, delN, delE] <;> first | omega | (rw [Bool.eq_iff_iff]; simp <;> omega) | (simp_all <;> omega))
  · try simp [go_sem] at h2
    have hg := ruleF_of h2
    have hgl := graphF_le hg.2.1.1
    try simp [go_sem, seval]
    refine callQ_pure0 (ref24_deleted r (by omega) (by omega)) ((by first | rfl | (simp [go_sem, ← List.map_take, ← List.map_drop]; done))) ?_
    try simp [go_sem, seval]
    exact hQ _ _ (by simp [go_sem, h2, delN, delE] <;> first | omega | (rw [Bool.eq_iff_iff]; simp <;> omega) | (simp_all <;> omega))
theorem ref24_Created (t : Types) (ht : t.ok) (r : Rule) (hr : r.ok) : Pure Tryz.prog 112 [t.d, r.d] (.tup [dLI (creN t r), dLI (creE t r), dI (ruleF t r)]) := by
  refine pureK (by first | rfl | (simp [go_sem]; done)) (fun Q hQ => (acalls_of_body (cfg := ⟨fun _ => false, fun _ => []⟩) Tz.mixed Tryz.func112 rfl rfl (Nat.le_of_ble_eq_true rfl) (by kernel_rfl) ?_))
  try simp [go_sem, seval]
  refine callQ_pure0 (ref24_Valid t ht r hr) ((by first | rfl | (simp [go_sem, ← List.map_take, ← List.map_drop]; done))) ?_
  try simp [go_sem, seval]
  refine condQ_mk (fun h2 => ?_) (fun h2 => ?_)
  · try simp [go_sem] at h2
    try simp [go_sem, seval]
    exact hQ _ _ (by simp [go_sem, h2, creN, creE] <;> first | omega | (rw [Bool.eq_iff_iff]; simp <;> omega) | (simp_all <;> omega))
  · try simp [go_sem] at h2
    have hg := ruleF_of h2
    have hgl := graphF_le hg.2.2.1
    try simp [go_sem, seval]
    refine callQ_pure0 (ref24_created r (by omega) (by omega)) ((by first | rfl | (simp [go_sem, ← List.map_take, ← List.map_drop]; done))) ?_
    try simp [go_sem, seval]
    exact hQ _ _ (by simp [go_sem, h2, creN, creE] <;> first | omega | (rw [Bool.eq_iff_iff]; simp <;> omega) | (simp_all <;> omega))
def bumps (l : List Int) (ks : List Nat) (d : Int) : List Int := ks.foldl (fun l k => l.set k (l[k]?.getD 0 + d)) l
theorem bumps_snoc (l : List Int) (ks : List Nat) (k : Nat) (d : Int) : bumps l (ks ++ [k]) d = (bumps l ks d).set k ((bumps l ks d)[k]?.getD 0 + d) := by simp [bumps]
@[go_sem] theorem bumps_nil (l : List Int) (d : Int) : bumps l [] d = l := rfl
theorem bumps_len (l : List Int) (d : Int) : ∀ ks : List Nat, (bumps l ks d).length = l.length := by
  intro ks
  induction ks generalizing l with
  | nil => rfl
  | cons k ks ih => simp only [bumps, List.foldl_cons] at ih ⊢; rw [ih]; simp
theorem bumps_bound (d : Int) (hd : -1 ≤ d ∧ d ≤ 1) : ∀ (ks : List Nat) (l : List Int) (B : Int), 0 ≤ B → (∀ x ∈ l, -B ≤ x ∧ x ≤ B) → ∀ x ∈ bumps l ks d, -(B + ks.length) ≤ x ∧ x ≤ B + ks.length
  | [], l, B, hB, h => by simpa [bumps] using h
  | k :: ks, l, B, hB, h => by
    have ih := bumps_bound d hd ks (l.set k (l[k]?.getD 0 + d)) (B + 1) (by omega) fun x hx => by
      rcases List.mem_or_eq_of_mem_set hx with h1 | h1
      · have := h x h1; omega
      · subst h1
        cases hk : l[k]? with
        | none => simp; omega
        | some y => have := h y (List.mem_of_getElem? hk); simp; omega
    intro x hx
    have := ih x hx
    simp only [List.length_cons]
    omega
theorem bumps_step {l : List Int} {ks : List Nat} {d : Int} {i : Nat} (hi : i < ks.length) (hk : ks[i] < (bumps l (ks.take i) d).length) : bumps l (ks.take (i + 1)) d = (bumps l (ks.take i) d).set ks[i] ((bumps l (ks.take i) d)[ks[i]] + d) := by
  rw [List.take_succ_eq_append_getElem hi, bumps_snoc, List.getElem?_eq_getElem hk]; rfl
def Rule.kGN (r : Rule) : List Nat := r.goneN.map fun i => (gN r.left.graph i).toNat
def Rule.kGE (r : Rule) (n : Nat) : List Nat := r.goneE.map fun i => n + (r.left.graph.edges[i.toNat]?.getD zeroEdge).type.toNat
def Rule.kFN (r : Rule) : List Nat := r.freshN.map fun i => (gN r.right.graph i).toNat
def Rule.kFE (r : Rule) (n : Nat) : List Nat := r.freshE.map fun i => n + (r.right.graph.edges[i.toNat]?.getD zeroEdge).type.toNat
def zeros (t : Types) : List Int := List.replicate (t.nodes.length + t.edges.length) 0
def vec1 (t : Types) (r : Rule) : List Int := bumps (zeros t) r.kGN (-1)
def vec2 (t : Types) (r : Rule) : List Int := bumps (vec1 t r) (r.kGE t.nodes.length) (-1)
def vec3 (t : Types) (r : Rule) : List Int := bumps (vec2 t r) r.kFN 1
def vec4 (t : Types) (r : Rule) : List Int := bumps (vec3 t r) (r.kFE t.nodes.length) 1
def badB (t : Types) (r : Rule) (i : Int) : Bool := decide ((1 : Int) < (belowT t (gN r.left.graph i)).length)
def effE (t : Types) (r : Rule) : Int := if ruleF t r ≠ 0 then ruleF t r else if r.goneN.any (badB t r) = true then 13 else 0
def effV (t : Types) (r : Rule) : List Int := if effE t r = 0 then vec4 t r else []
structure Vecs (t : Types) (r : Rule) : Prop where
  l0 : (zeros t).length = t.nodes.length + t.edges.length
  l1 : (vec1 t r).length = t.nodes.length + t.edges.length
  l2 : (vec2 t r).length = t.nodes.length + t.edges.length
  l3 : (vec3 t r).length = t.nodes.length + t.edges.length
  l4 : (vec4 t r).length = t.nodes.length + t.edges.length
  b0 : ∀ x ∈ zeros t, -(0 : Int) ≤ x ∧ x ≤ 0
  b1 : ∀ x ∈ vec1 t r, -(r.kGN.length : Int) ≤ x ∧ x ≤ r.kGN.length
  b2 : ∀ x ∈ vec2 t r, -((r.kGN.length : Int) + (r.kGE t.nodes.length).length) ≤ x ∧ x ≤ (r.kGN.length : Int) + (r.kGE t.nodes.length).length
  b3 : ∀ x ∈ vec3 t r, -((r.kGN.length : Int) + (r.kGE t.nodes.length).length + r.kFN.length) ≤ x ∧ x ≤ (r.kGN.length : Int) + (r.kGE t.nodes.length).length + r.kFN.length
  b4 : ∀ x ∈ vec4 t r, -((r.kGN.length : Int) + (r.kGE t.nodes.length).length + r.kFN.length + (r.kFE t.nodes.length).length) ≤ x ∧ x ≤ (r.kGN.length : Int) + (r.kGE t.nodes.length).length + r.kFN.length + (r.kFE t.nodes.length).length
theorem vecs (t : Types) (r : Rule) : Vecs t r := by
  have l0 : (zeros t).length = t.nodes.length + t.edges.length := by simp [zeros]
  have b0 : ∀ x ∈ zeros t, -(0 : Int) ≤ x ∧ x ≤ 0 := fun x hx => by have := (List.mem_replicate.1 hx).2; omega
  have b1 : ∀ x ∈ vec1 t r, -(r.kGN.length : Int) ≤ x ∧ x ≤ r.kGN.length := fun x hx => by have := bumps_bound (-1) (by omega) _ _ 0 (by omega) b0 x hx; omega
  have b2 := bumps_bound (-1) (by omega) (r.kGE t.nodes.length) (vec1 t r) _ (by omega) b1
  have b3 := bumps_bound 1 (by omega) r.kFN (vec2 t r) _ (by omega) b2
  have b4 := bumps_bound 1 (by omega) (r.kFE t.nodes.length) (vec3 t r) _ (by omega) b3
  have l1 : (vec1 t r).length = t.nodes.length + t.edges.length := by rw [vec1, bumps_len, l0]
  have l2 : (vec2 t r).length = t.nodes.length + t.edges.length := by rw [vec2, bumps_len, l1]
  have l3 : (vec3 t r).length = t.nodes.length + t.edges.length := by rw [vec3, bumps_len, l2]
  have l4 : (vec4 t r).length = t.nodes.length + t.edges.length := by rw [vec4, bumps_len, l3]
  exact ⟨l0, l1, l2, l3, l4, b0, b1, b2, b3, b4⟩
theorem bump_round {l : List Int} {ks : List Nat} {d B : Int} {N i : Nat} (hl : l.length = N) (hb : ∀ x ∈ l, -B ≤ x ∧ x ≤ B) (hB : 0 ≤ B) (hd : -1 ≤ d ∧ d ≤ 1) (hi : i < ks.length) (hk : ks[i] < N) :
    ∃ hkl : ks[i] < (bumps l (ks.take i) d).length, bumps l (ks.take (i + 1)) d = (bumps l (ks.take i) d).set ks[i] ((bumps l (ks.take i) d)[ks[i]] + d) ∧
      (-(B + i) ≤ (bumps l (ks.take i) d)[ks[i]] ∧ (bumps l (ks.take i) d)[ks[i]] ≤ B + i) := by
  have hkl : ks[i] < (bumps l (ks.take i) d).length := by rw [bumps_len, hl]; exact hk
  refine ⟨hkl, bumps_step hi hkl, ?_⟩
  have := bumps_bound d hd (ks.take i) l B hB hb _ (List.getElem_mem hkl)
  rw [List.length_take, Nat.min_eq_left (by omega)] at this
  exact this
end Go.Abs
end
section
set_option linter.unusedVariables false
set_option linter.unusedSimpArgs false
set_option maxRecDepth 8000
open Go Go.Proofs
namespace Go.Abs
structure RuleIn (t : Types) (r : Rule) : Prop where
  v : t.valid
  gl : graphF r.left.graph = 0
  gr : graphF r.right.graph = 0
  nl : ∀ a ∈ r.left.graph.nodes, 0 ≤ a ∧ a < t.nodes.length
  nr : ∀ a ∈ r.right.graph.nodes, 0 ≤ a ∧ a < t.nodes.length
  el : ∀ x ∈ r.left.graph.edges, 0 ≤ x.type ∧ x.type < t.edges.length
  er : ∀ x ∈ r.right.graph.edges, 0 ≤ x.type ∧ x.type < t.edges.length
theorem ruleIn {t : Types} {r : Rule} (h : ruleF t r = 0) : RuleIn t r := by
  obtain ⟨hv, ⟨h1, h2⟩, h3, h4⟩ := ruleF_of h
  have hl := typedB_in h1 h2
  have hr := typedB_in h3 h4
  exact ⟨valid_of hv, h1, h3, hl.1, hr.1, fun x hx => (hl.2 x hx).1, fun x hx => (hr.2 x hx).1⟩
theorem weight_effect (t : Types) (ht : t.ok) (r : Rule) (hr : r.ok) : Pure Tryz.prog 118 [t.d, r.d] (.tup [dLI (effV t r), dI (effE t r)]) := by
  have V := vecs t r
  refine pureK (by first | rfl | (simp [go_sem]; done)) (fun Q hQ => (acalls_of_body (cfg := ⟨fun _ => false, fun _ => []⟩) Tz.mixed Tryz.func118 rfl rfl (Nat.le_of_ble_eq_true rfl) (by kernel_rfl) ?_))
  try simp [go_sem, seval]
  refine callQ_pure0 (rule_Deleted t ht r hr) ((by first | rfl | (simp [go_sem, ← List.map_take, ← List.map_drop]; done))) ?_
  try simp [go_sem, seval]
  refine condQ_mk (fun h2 => ?_) (fun h2 => ?_)
  · try simp [go_sem] at h2
    try simp [go_sem, seval]
    exact hQ _ _ (by first | (left; (simp [go_sem, effE, effV, h2]); done) | (right; (simp [go_sem, effE, effV, h2]); done))
  · try simp [go_sem] at h2
    have I := ruleIn h2
    have hgl := graphF_le I.gl
    have hgr := graphF_le I.gr
    have hN := I.v.fewN
    have hE := I.v.fewE
    have lN := othersL_len r.keep.nodes r.left.graph.nodes.length
    have lE := othersL_len r.keep.edges r.left.graph.edges.length
    have lF := othersL_len r.into.nodes r.right.graph.nodes.length
    have lG := othersL_len r.into.edges r.right.graph.edges.length
    have k1 : r.kGN.length = r.goneN.length := by simp [Rule.kGN]
    have k2 : (r.kGE t.nodes.length).length = r.goneE.length := by simp [Rule.kGE]
    have k3 : r.kFN.length = r.freshN.length := by simp [Rule.kFN]
    have k4 : (r.kFE t.nodes.length).length = r.freshE.length := by simp [Rule.kFE]
    have lN' : r.goneN.length ≤ r.left.graph.nodes.length := lN
    have lE' : r.goneE.length ≤ r.left.graph.edges.length := lE
    have lF' : r.freshN.length ≤ r.right.graph.nodes.length := lF
    have lG' : r.freshE.length ≤ r.right.graph.edges.length := lG
    have dN : delN t r = r.goneN := by simp [delN, h2]
    have dE : delE t r = r.goneE := by simp [delE, h2]
    have dF : creN t r = r.freshN := by simp [creN, h2]
    have dG : creE t r = r.freshE := by simp [creE, h2]
    have htn : ((t.nodes.length : Int) + (t.edges.length : Int)).toNat = t.nodes.length + t.edges.length := by omega
    try simp [go_sem, seval, dN, dE, dF, dG, htn]
    refine callQ_pure0 (rule_Created t ht r hr) ((by first | rfl | (simp [go_sem, ← List.map_take, ← List.map_drop, dN, dE, dF, dG, htn]; done))) ?_
    try simp [go_sem, seval, dN, dE, dF, dG, htn]
    refine condQ_mk (fun h5 => ?_) (fun h5 => ?_)
    · exact absurd h2 (by simpa using h5)
    · try simp [go_sem] at h5
      try simp [go_sem, seval, dN, dE, dF, dG, htn]
      repeat (first | intro _ | (refine ⟨obl, ?_⟩))
      obtain ⟨I0, hI0⟩ : ∃ I0 : Nat → Env → AHeap → Prop, ∀ (i : Nat) (e : Env) (H : AHeap), I0 i e H ↔ ((e 2 = .adr t.c) ∧ (e 3 = .adr r.c) ∧ (e 6 = dLI r.goneN) ∧ (e 7 = dLI r.goneE) ∧ (e 9 = dLI r.freshN) ∧ (e 10 = dLI r.freshE) ∧ (e 11 = .own 0 (t.nodes.length + t.edges.length)) ∧ (e 51 = dLI r.goneN) ∧ (e 52 = dI r.goneN.length) ∧ (e 53 = dI i) ∧ (H.get 0 = some ⟨3, 1, (bumps (zeros t) (r.kGN.take i) (-1)).map cI, false⟩) ∧ (0 < H.next) ∧ (i ≤ r.goneN.length) ∧ ((r.goneN.take i).any (badB t r) = false)) := ⟨fun i e H => _, fun _ _ _ => Iff.rfl⟩
      refine loopK I0 (fun i => r.goneN.length - i) (0) ((hI0 _ _ _).2 ⟨?_, ?_, ?_, ?_, ?_, ?_, ?_, ?_, ?_, ?_, (by (simp [go_sem, dN, dE, dF, dG, htn, zeros])), ?_, (by first | assumption | omega | (simp [go_sem, dN, dE, dF, dG, htn]; done) | (simp_all; done)), (by rfl)⟩) ?_
      iterate 11 (first | omega | (simp [go_sem, seval, dN, dE, dF, dG, htn] <;> omega))
      intro i e H hi0
      obtain ⟨q2_0, q3_0, q6_0, q7_0, q9_0, q10_0, q11_0, q51_0, q52_0, q53_0, g0_0, n0_0, hi, ha⟩ := (hI0 _ _ _).1 hi0
      have x0 := frs n0_0
      have F0 := And.intro q2_0 (And.intro q3_0 (And.intro q6_0 (And.intro q7_0 (And.intro q9_0 (And.intro q10_0 (And.intro q11_0 (And.intro q51_0 (And.intro q52_0 (And.intro q53_0 x0)))))))))
      try simp [go_sem, seval, dN, dE, dF, dG, htn, F0, g0_0, htn]
      refine condQ_mk (fun h9 => ?_) (fun h9 => ?_)
      · try simp [go_sem] at h9
        have hin := othersL_mem (List.getElem_mem h9)
        have hk : r.goneN[i].toNat < r.left.graph.nodes.length := by omega
        have hkt := I.nl _ (List.getElem_mem hk)
        have hke : r.kGN[i]'(by omega) = r.left.graph.nodes[r.goneN[i].toNat].toNat := by simp [Rule.kGN, gN, List.getElem?_eq_getElem hk]
        obtain ⟨hkl, hst, hbd⟩ := bump_round (d := -1) V.l0 V.b0 (by omega) (by omega) (show i < r.kGN.length by omega) (by rw [hke]; omega)
        have hbl := bumps_len (zeros t) (-1) (r.kGN.take i)
        rw [V.l0] at hbl
        simp only [hke] at hkl hst hbd
        have hA : badB t r r.goneN[i] = decide ((1 : Int) < (belowT t r.left.graph.nodes[r.goneN[i].toNat]).length) := by simp [badB, gN, List.getElem?_eq_getElem hk]
        try simp [go_sem, seval, dN, dE, dF, dG, htn, F0, g0_0, htn, h9, List.getElem?_eq_getElem hk, List.getElem?_eq_getElem hkl, hbl]
        repeat (first | intro _ | (refine ⟨obl, ?_⟩))
        refine callQ_pure0 (types_Below t ht _) ((by first | rfl | (simp [go_sem, ← List.map_take, ← List.map_drop, dN, dE, dF, dG, htn, F0, g0_0, htn, h9, List.getElem?_eq_getElem hk, List.getElem?_eq_getElem hkl, hbl]; done))) ?_
        try simp [go_sem, seval, dN, dE, dF, dG, htn, F0, g0_0, htn, h9, List.getElem?_eq_getElem hk, List.getElem?_eq_getElem hkl, hbl]
        repeat (first | intro _ | (refine ⟨obl, ?_⟩))
        refine condQ_mk (fun h13 => ?_) (fun h13 => ?_)
        · try simp [go_sem] at h13
          try simp [go_sem, seval, dN, dE, dF, dG, htn, F0, g0_0, htn, h9, List.getElem?_eq_getElem hk, List.getElem?_eq_getElem hkl, hbl]
          have hb : r.goneN.any (badB t r) = true := List.any_eq_true.2 ⟨_, List.getElem_mem h9, by rw [hA]; simpa using h13⟩
          exact hQ _ _ (by first | (left; (simp [go_sem, effE, effV, h2, hb]); done) | (right; (simp [go_sem, effE, effV, h2, hb]); done))
        · try simp [go_sem] at h13
          try simp [go_sem, seval, dN, dE, dF, dG, htn, F0, g0_0, htn, h9, List.getElem?_eq_getElem hk, List.getElem?_eq_getElem hkl, hbl]
          repeat (first | intro _ | (refine ⟨obl, ?_⟩))
          refine nextQ_mk (i + 1) (by omega) ((hI0 _ _ _).2 ⟨?_, ?_, ?_, ?_, ?_, ?_, ?_, ?_, ?_, ?_, (by (simp [go_sem, dN, dE, dF, dG, htn, F0, g0_0, htn, h9, List.getElem?_eq_getElem hk, List.getElem?_eq_getElem hkl, hbl, hst, List.map_set, Int.sub_eq_add_neg])), ?_, (by first | assumption | omega | (simp [go_sem, dN, dE, dF, dG, htn, F0, g0_0, htn, h9, List.getElem?_eq_getElem hk, List.getElem?_eq_getElem hkl, hbl, h2, h5, h13]; done) | (simp_all; done) | (simp_all; omega)), (by (rw [any_take_succ _ _ _ h9, ha, hA]; simpa using h13))⟩) <;> first | omega | (simp [go_sem, seval, dN, dE, dF, dG, htn, F0, g0_0, htn, h9, List.getElem?_eq_getElem hk, List.getElem?_eq_getElem hkl, hbl] <;> omega)
      · try simp [go_sem] at h9
        have hNo := any_end ha h9
        have hV1 : bumps (zeros t) (r.kGN.take i) (-1) = vec1 t r := by rw [List.take_of_length_le (by omega)]; rfl
        rw [hV1] at g0_0
        try simp [go_sem, seval, dN, dE, dF, dG, htn, F0, g0_0, htn]
        repeat (first | intro _ | (refine ⟨obl, ?_⟩))
        obtain ⟨I2, hI2⟩ : ∃ I2 : Nat → Env → AHeap → Prop, ∀ (i : Nat) (e : Env) (H : AHeap), I2 i e H ↔ ((e 2 = .adr t.c) ∧ (e 3 = .adr r.c) ∧ (e 9 = dLI r.freshN) ∧ (e 10 = dLI r.freshE) ∧ (e 11 = .own 0 (t.nodes.length + t.edges.length)) ∧ (e 80 = dLI r.goneE) ∧ (e 81 = dI r.goneE.length) ∧ (e 82 = dI i) ∧ (H.get 0 = some ⟨3, 1, (bumps (vec1 t r) ((r.kGE t.nodes.length).take i) (-1)).map cI, false⟩) ∧ (0 < H.next) ∧ (i ≤ r.goneE.length)) := ⟨fun i e H => _, fun _ _ _ => Iff.rfl⟩
        refine loopK I2 (fun i => r.goneE.length - i) (0) ((hI2 _ _ _).2 ⟨?_, ?_, ?_, ?_, ?_, ?_, ?_, ?_, (by (simp [go_sem, dN, dE, dF, dG, htn, F0, g0_0, htn])), ?_, (by first | assumption | omega | (simp [go_sem, dN, dE, dF, dG, htn, F0, g0_0, htn]; done) | (simp_all; done))⟩) ?_
        iterate 9 (first | omega | (simp [go_sem, seval, dN, dE, dF, dG, htn, F0, g0_0, htn] <;> omega))
        intro i e H hi2
        obtain ⟨q2_2, q3_2, q9_2, q10_2, q11_2, q80_2, q81_2, q82_2, g0_2, n0_2, hi⟩ := (hI2 _ _ _).1 hi2
        have x0 := frs n0_2
        have F2 := And.intro q2_2 (And.intro q3_2 (And.intro q9_2 (And.intro q10_2 (And.intro q11_2 (And.intro q80_2 (And.intro q81_2 (And.intro q82_2 x0)))))))
        try simp [go_sem, seval, dN, dE, dF, dG, htn, htn, F2, g0_2]
        refine condQ_mk (fun h18 => ?_) (fun h18 => ?_)
        · try simp [go_sem] at h18
          have hin := othersL_mem (List.getElem_mem h18)
          have hk : r.goneE[i].toNat < r.left.graph.edges.length := by omega
          have hkt := I.el _ (List.getElem_mem hk)
          have hke : (r.kGE t.nodes.length)[i]'(by omega) = t.nodes.length + r.left.graph.edges[r.goneE[i].toNat].type.toNat := by simp [Rule.kGE, List.getElem?_eq_getElem hk]
          obtain ⟨hkl, hst, hbd⟩ := bump_round (d := -1) V.l1 V.b1 (by omega) (by omega) (show i < (r.kGE t.nodes.length).length by omega) (by rw [hke]; omega)
          have hbl := bumps_len (vec1 t r) (-1) ((r.kGE t.nodes.length).take i)
          rw [V.l1] at hbl
          simp only [hke] at hkl hst hbd
          have htk : ((t.nodes.length : Int) + r.left.graph.edges[r.goneE[i].toNat].type).toNat = t.nodes.length + r.left.graph.edges[r.goneE[i].toNat].type.toNat := by omega
          try simp [go_sem, seval, dN, dE, dF, dG, htn, htn, F2, g0_2, h18, List.getElem?_eq_getElem hk, List.getElem?_eq_getElem hkl, hbl, htk]
          repeat (first | intro _ | (refine ⟨obl, ?_⟩))
          refine nextQ_mk (i + 1) (by omega) ((hI2 _ _ _).2 ⟨?_, ?_, ?_, ?_, ?_, ?_, ?_, ?_, (by (simp [go_sem, dN, dE, dF, dG, htn, htn, F2, g0_2, h18, List.getElem?_eq_getElem hk, List.getElem?_eq_getElem hkl, hbl, htk, hst, List.map_set, Int.sub_eq_add_neg])), ?_, (by first | assumption | omega | (simp [go_sem, dN, dE, dF, dG, htn, htn, F2, g0_2, h18, List.getElem?_eq_getElem hk, List.getElem?_eq_getElem hkl, hbl, htk, h2, h5, h9]; done) | (simp_all; done) | (simp_all; omega))⟩) <;> first | omega | (simp [go_sem, seval, dN, dE, dF, dG, htn, htn, F2, g0_2, h18, List.getElem?_eq_getElem hk, List.getElem?_eq_getElem hkl, hbl, htk] <;> omega)
        · try simp [go_sem] at h18
          have hV2 : bumps (vec1 t r) ((r.kGE t.nodes.length).take i) (-1) = vec2 t r := by rw [List.take_of_length_le (by omega)]; rfl
          rw [hV2] at g0_2
          try simp [go_sem, seval, dN, dE, dF, dG, htn, htn, F2, g0_2]
          repeat (first | intro _ | (refine ⟨obl, ?_⟩))
          obtain ⟨I4, hI4⟩ : ∃ I4 : Nat → Env → AHeap → Prop, ∀ (i : Nat) (e : Env) (H : AHeap), I4 i e H ↔ ((e 2 = .adr t.c) ∧ (e 3 = .adr r.c) ∧ (e 10 = dLI r.freshE) ∧ (e 11 = .own 0 (t.nodes.length + t.edges.length)) ∧ (e 104 = dLI r.freshN) ∧ (e 105 = dI r.freshN.length) ∧ (e 106 = dI i) ∧ (H.get 0 = some ⟨3, 1, (bumps (vec2 t r) (r.kFN.take i) 1).map cI, false⟩) ∧ (0 < H.next) ∧ (i ≤ r.freshN.length)) := ⟨fun i e H => _, fun _ _ _ => Iff.rfl⟩
          refine loopK I4 (fun i => r.freshN.length - i) (0) ((hI4 _ _ _).2 ⟨?_, ?_, ?_, ?_, ?_, ?_, ?_, (by (simp [go_sem, dN, dE, dF, dG, htn, htn, F2, g0_2])), ?_, (by first | assumption | omega | (simp [go_sem, dN, dE, dF, dG, htn, htn, F2, g0_2]; done) | (simp_all; done))⟩) ?_
          iterate 8 (first | omega | (simp [go_sem, seval, dN, dE, dF, dG, htn, htn, F2, g0_2] <;> omega))
          intro i e H hi4
          obtain ⟨q2_4, q3_4, q10_4, q11_4, q104_4, q105_4, q106_4, g0_4, n0_4, hi⟩ := (hI4 _ _ _).1 hi4
          have x0 := frs n0_4
          have F4 := And.intro q2_4 (And.intro q3_4 (And.intro q10_4 (And.intro q11_4 (And.intro q104_4 (And.intro q105_4 (And.intro q106_4 x0))))))
          try simp [go_sem, seval, dN, dE, dF, dG, htn, htn, F4, g0_4]
          refine condQ_mk (fun h23 => ?_) (fun h23 => ?_)
          · try simp [go_sem] at h23
            have hin := othersL_mem (List.getElem_mem h23)
            have hk : r.freshN[i].toNat < r.right.graph.nodes.length := by omega
            have hkt := I.nr _ (List.getElem_mem hk)
            have hke : r.kFN[i]'(by omega) = r.right.graph.nodes[r.freshN[i].toNat].toNat := by simp [Rule.kFN, gN, List.getElem?_eq_getElem hk]
            obtain ⟨hkl, hst, hbd⟩ := bump_round (d := 1) V.l2 V.b2 (by omega) (by omega) (show i < r.kFN.length by omega) (by rw [hke]; omega)
            have hbl := bumps_len (vec2 t r) 1 (r.kFN.take i)
            rw [V.l2] at hbl
            simp only [hke] at hkl hst hbd
            try simp [go_sem, seval, dN, dE, dF, dG, htn, htn, F4, g0_4, h23, List.getElem?_eq_getElem hk, List.getElem?_eq_getElem hkl, hbl]
            repeat (first | intro _ | (refine ⟨obl, ?_⟩))
            refine nextQ_mk (i + 1) (by omega) ((hI4 _ _ _).2 ⟨?_, ?_, ?_, ?_, ?_, ?_, ?_, (by (simp [go_sem, dN, dE, dF, dG, htn, htn, F4, g0_4, h23, List.getElem?_eq_getElem hk, List.getElem?_eq_getElem hkl, hbl, hst, List.map_set, Int.sub_eq_add_neg])), ?_, (by first | assumption | omega | (simp [go_sem, dN, dE, dF, dG, htn, htn, F4, g0_4, h23, List.getElem?_eq_getElem hk, List.getElem?_eq_getElem hkl, hbl, h2, h5, h9, h18]; done) | (simp_all; done) | (simp_all; omega))⟩) <;> first | omega | (simp [go_sem, seval, dN, dE, dF, dG, htn, htn, F4, g0_4, h23, List.getElem?_eq_getElem hk, List.getElem?_eq_getElem hkl, hbl] <;> omega)
          · try simp [go_sem] at h23
            have hV3 : bumps (vec2 t r) (r.kFN.take i) 1 = vec3 t r := by rw [List.take_of_length_le (by omega)]; rfl
            rw [hV3] at g0_4
            try simp [go_sem, seval, dN, dE, dF, dG, htn, htn, F4, g0_4]
            repeat (first | intro _ | (refine ⟨obl, ?_⟩))
            obtain ⟨I6, hI6⟩ : ∃ I6 : Nat → Env → AHeap → Prop, ∀ (i : Nat) (e : Env) (H : AHeap), I6 i e H ↔ ((e 2 = .adr t.c) ∧ (e 3 = .adr r.c) ∧ (e 11 = .own 0 (t.nodes.length + t.edges.length)) ∧ (e 123 = dLI r.freshE) ∧ (e 124 = dI r.freshE.length) ∧ (e 125 = dI i) ∧ (H.get 0 = some ⟨3, 1, (bumps (vec3 t r) ((r.kFE t.nodes.length).take i) 1).map cI, false⟩) ∧ (0 < H.next) ∧ (i ≤ r.freshE.length)) := ⟨fun i e H => _, fun _ _ _ => Iff.rfl⟩
            refine loopK I6 (fun i => r.freshE.length - i) (0) ((hI6 _ _ _).2 ⟨?_, ?_, ?_, ?_, ?_, ?_, (by (simp [go_sem, dN, dE, dF, dG, htn, htn, F4, g0_4])), ?_, (by first | assumption | omega | (simp [go_sem, dN, dE, dF, dG, htn, htn, F4, g0_4]; done) | (simp_all; done))⟩) ?_
            iterate 7 (first | omega | (simp [go_sem, seval, dN, dE, dF, dG, htn, htn, F4, g0_4] <;> omega))
            intro i e H hi6
            obtain ⟨q2_6, q3_6, q11_6, q123_6, q124_6, q125_6, g0_6, n0_6, hi⟩ := (hI6 _ _ _).1 hi6
            have x0 := frs n0_6
            have F6 := And.intro q2_6 (And.intro q3_6 (And.intro q11_6 (And.intro q123_6 (And.intro q124_6 (And.intro q125_6 x0)))))
            try simp [go_sem, seval, dN, dE, dF, dG, htn, htn, F6, g0_6]
            refine condQ_mk (fun h28 => ?_) (fun h28 => ?_)
            · try simp [go_sem] at h28
              have hin := othersL_mem (List.getElem_mem h28)
              have hk : r.freshE[i].toNat < r.right.graph.edges.length := by omega
              have hkt := I.er _ (List.getElem_mem hk)
              have hke : (r.kFE t.nodes.length)[i]'(by omega) = t.nodes.length + r.right.graph.edges[r.freshE[i].toNat].type.toNat := by simp [Rule.kFE, List.getElem?_eq_getElem hk]
              obtain ⟨hkl, hst, hbd⟩ := bump_round (d := 1) V.l3 V.b3 (by omega) (by omega) (show i < (r.kFE t.nodes.length).length by omega) (by rw [hke]; omega)
              have hbl := bumps_len (vec3 t r) 1 ((r.kFE t.nodes.length).take i)
              rw [V.l3] at hbl
              simp only [hke] at hkl hst hbd
              have htk : ((t.nodes.length : Int) + r.right.graph.edges[r.freshE[i].toNat].type).toNat = t.nodes.length + r.right.graph.edges[r.freshE[i].toNat].type.toNat := by omega
              try simp [go_sem, seval, dN, dE, dF, dG, htn, htn, F6, g0_6, h28, List.getElem?_eq_getElem hk, List.getElem?_eq_getElem hkl, hbl, htk]
              repeat (first | intro _ | (refine ⟨obl, ?_⟩))
              refine nextQ_mk (i + 1) (by omega) ((hI6 _ _ _).2 ⟨?_, ?_, ?_, ?_, ?_, ?_, (by (simp [go_sem, dN, dE, dF, dG, htn, htn, F6, g0_6, h28, List.getElem?_eq_getElem hk, List.getElem?_eq_getElem hkl, hbl, htk, hst, List.map_set, Int.sub_eq_add_neg])), ?_, (by first | assumption | omega | (simp [go_sem, dN, dE, dF, dG, htn, htn, F6, g0_6, h28, List.getElem?_eq_getElem hk, List.getElem?_eq_getElem hkl, hbl, htk, h2, h5, h9, h18, h23]; done) | (simp_all; done) | (simp_all; omega))⟩) <;> first | omega | (simp [go_sem, seval, dN, dE, dF, dG, htn, htn, F6, g0_6, h28, List.getElem?_eq_getElem hk, List.getElem?_eq_getElem hkl, hbl, htk] <;> omega)
            · try simp [go_sem] at h28
              have hV4 : bumps (vec3 t r) ((r.kFE t.nodes.length).take i) 1 = vec4 t r := by rw [List.take_of_length_le (by omega)]; rfl
              rw [hV4] at g0_6
              have hl4 := V.l4
              try simp [go_sem, seval, dN, dE, dF, dG, htn, htn, F6, g0_6]
              exact hQ _ _ (by first | (left; (simp [go_sem, dN, dE, dF, dG, htn, htn, F6, g0_6, effE, effV, h2, hNo, hl4]); done) | (right; (simp [go_sem, dN, dE, dF, dG, htn, htn, F6, g0_6, effE, effV, h2, hNo, hl4]); done))
end Go.Abs
end
