/- Layer 24, the reference: rules. · Layer 12: complements; lay -/
import Derived.Test.YthnegcfdjjhfgaaGreatZmA
import Derived.Test.YthnegcfdjjhfgaaGreatZmK
import Derived.Test.YthnegcfdjjhfgaaGreatZmF
set_option linter.unusedVariables false
set_option linter.unusedSimpArgs false
section
set_option maxRecDepth 8000
open Go Go.Proofs
namespace Go.Abs
theorem idx_posL {l : List Int} {v : Int} (hs : l.Pairwise (· < ·)) (hm : mem l v = true) : idx l v = posL l v := by
  obtain ⟨i, hi, he⟩ := List.getElem_of_mem ((mem_iff l v).1 hm)
  have hpw := List.pairwise_iff_getElem.1 hs
  rw [idx_some (i := i) (fun j hj h => by
     have hjl : j < l.length := by omega
     rw [lge hjl] at h
     have := hpw j i hjl hi hj
     simp at h; omega) (by rw [lge hi, he])]
  rw [posL_eq (n := i) (fun j hj h => by have := hpw j i hj hi h; omega) (by omega) (fun _ => by omega)]
theorem listE_zero {α : Type} {f : α → Int} : ∀ {l : List α}, listE f l = 0 → ∀ x ∈ l, f x = 0
  | [], _, x, hx => by cases hx
  | a :: l, h, x, hx => by
    unfold listE at h
    split at h
    ·rename_i h1; exact absurd h h1
    ·rename_i h1
     rcases List.mem_cons.1 hx with h2 | h2
     ·subst h2; omega
     ·exact listE_zero h x h2
theorem subF_ends {g : Graph} {p : Part} (h : subF g p = 0) : ∀ k ∈ p.edges, mem p.nodes (g.edges[k.toNat]?.getD zeroEdge).from_ = true ∧ mem p.nodes (g.edges[k.toNat]?.getD zeroEdge).to_ = true := by
  unfold subF partF at h
  split at h
  · rename_i h1; exact absurd h h1
  · split at h
    ·rename_i h2; exact absurd h h2
    ·split at h
     ·rename_i h3; exact absurd h h3
     ·intro k hk
      have := listE_zero h k hk
      unfold dangE at this
      split at this
      ·rename_i h4; simpa using h4
      ·cases this
theorem ref07_Extract (g : Graph) (p : Part) (hl : p.nodes.length ≤ 1000000) (hle : p.edges.length ≤ 1000000) : Pure Tryz.prog 101 [g.d, p.d] (.tup [(extractG g p).d, (partR g p).d, dI (subF g p)]) := by
  refine Tz.pK ⟨fun t => t == 4 || t == 5 || t == 8 || t == 11 || t == 76 || t == 80, fun r => match r with | 8 => [(0, 11), (1, 11)] | 12 => [(0, 9), (1, 9), (2, 9), (3, 9), (5, 9), (6, 9), (7, 9), (8, 9)] | 13 => [(0, 15), (1, 15)] | 14 => [(0, 1), (1, 2), (1, 3), (0, 4), (0, 5), (1, 5), (2, 5), (3, 5), (4, 5), (1, 6), (4, 6), (5, 6), (1, 7), (4, 7), (5, 7), (0, 8)] | _ => []⟩ Tryz.func101 rfl (fun Q hQ => ?_)
  try simp [go_sem, seval]
  refine callQ_pure0 (ref07_Valid g p) ((by first | rfl | (simp [go_sem, ← List.map_take, ← List.map_drop]; done))) ?_
  try simp [go_sem, seval]
  refine condQ_mk (fun h2 => ?_) (fun h2 => ?_)
  · try simp [go_sem] at h2
    try simp [go_sem, seval]
    exact hQ _ _ (by first | (left; (simp [go_sem, extractG, partR, h2]); done) | (right; (simp [go_sem, extractG, partR, h2]); done))
  · try simp [go_sem] at h2
    obtain ⟨hg, hs, hin, hie⟩ := subF_of h2
    have hends := subF_ends h2
    try simp [go_sem, seval]
    obtain ⟨I0, hI0⟩ := mkI fun i e H => (∃ xs : List Int, (e 2 = .adr g.c) ∧ (e 3 = .adr p.c) ∧ (e 4 = .ptr 0 1 0 0) ∧ (e 5 = .ptr 1 1 0 0) ∧ (e 8 = .ptr 2 1 0 0) ∧ (e 9 = dI i) ∧ (H.get 0 = some ⟨29, 2, [[.nil, .nil]], false⟩) ∧ (0 < H.next) ∧ (H.get 1 = some ⟨36, 2, [[.nil, .nil]], false⟩) ∧ (1 < H.next) ∧ (H.get 2 = some ⟨29, 2, [[.own 3 xs.length, .nil]], false⟩) ∧ (2 < H.next) ∧ (H.get 3 = some ⟨3, 1, xs.map cI, false⟩) ∧ (3 < H.next) ∧ (i ≤ p.nodes.length) ∧ (xs = (p.nodes.take i).map (gN g)))
    refine loopKG (Ghosts.step (Ghosts.refl _) 2 0 0 3 1 _ _ (rfl) rfl rfl rfl) I0 (fun i => p.nodes.length - i) (0) ((hI0 _ _ _).2 ⟨([]), ?_, ?_, ?_, ?_, ?_, ?_, ?_, ?_, ?_, ?_, ?_, ?_, ?_, ?_, (by first | assumption | omega | (simp [go_sem]; done) | (simp_all; done)), (by rfl)⟩) ?_
    iterate 14 (first | omega | (simp [go_sem, seval] <;> omega))
    intro i e H hi0
    obtain ⟨xs, q2_0, q3_0, q4_0, q5_0, q8_0, q9_0, g0_0, n0_0, g1_0, n1_0, g2_0, n2_0, g3_0, n3_0, hi, hx⟩ := (hI0 _ _ _).1 hi0
    have x0 := frs n0_0
    have x1 := frs n1_0
    have x2 := frs n2_0
    have x3 := frs n3_0
    have F0 := And.intro q2_0 (And.intro q3_0 (And.intro q4_0 (And.intro q5_0 (And.intro q8_0 (And.intro q9_0 (And.intro g0_0 (And.intro g1_0 (And.intro g2_0 (And.intro g3_0 (And.intro x0 (And.intro x1 (And.intro x2 x3))))))))))))
    try simp [go_sem, seval, F0]
    repeat first | intro _ | refine ⟨obs, ?_⟩
    refine condQ_mk (fun h6 => ?_) (fun h6 => ?_)
    ·try simp [go_sem] at h6
     have hin' := hin _ (lgm h6)
     have hk : p.nodes[i].toNat < g.nodes.length := by omega
     have hxl : xs.length = i := by rw [hx]; simp; omega
     try simp [go_sem, seval, F0, h6, lge hk, gN]
     repeat first | intro _ | refine ⟨obs, ?_⟩
     refine nextQ_mk (i + 1) (by omega) ((hI0 _ _ _).2 ⟨(xs ++ [gN g p.nodes[i]]), ?_, ?_, ?_, ?_, ?_, ?_, ?_, ?_, ?_, ?_, ?_, ?_, ?_, ?_, (by first | assumption | omega | (simp [go_sem, F0, h6, lge hk, gN, h2]; done) | (simp_all <;> omega)), (by (rw [map_take_succ _ h6, ← hx]))⟩) <;> first | omega | (simp [go_sem, seval, F0, h6, lge hk, gN] <;> omega)
    ·try simp [go_sem] at h6
     have hX : xs = p.nodes.map (gN g) := by rw [hx, map_take_end _ (by omega)]
     try simp [go_sem, seval, F0]
     obtain ⟨I2, hI2⟩ := mkI fun k e H => (∃ j : Nat, ∃ ys : List Edge, (e 2 = .adr g.c) ∧ (e 3 = .adr p.c) ∧ (e 4 = .ptr 0 1 0 0) ∧ (e 5 = .ptr 1 1 0 0) ∧ (e 8 = .ptr 2 1 0 0) ∧ (e 10 = dI k) ∧ (H.get 0 = some ⟨29, 2, [[.nil, .nil]], false⟩) ∧ (0 < H.next) ∧ (H.get 1 = some ⟨36, 2, [[.nil, .nil]], false⟩) ∧ (1 < H.next) ∧ (H.get 2 = some ⟨29, 2, [[.own 3 xs.length, .own j ys.length]], false⟩) ∧ (2 < H.next) ∧ (H.get 3 = some ⟨3, 1, xs.map cI, false⟩) ∧ (3 < H.next) ∧ (H.get j = some ⟨124, 3, ys.map Edge.c, false⟩) ∧ (j < H.next) ∧ (k ≤ p.edges.length) ∧ (ys = (p.edges.take k).map (gEd g p)) ∧ (j ≠ 0) ∧ (j ≠ 1) ∧ (j ≠ 2) ∧ (j ≠ 3))
     refine loopKG (Ghosts.step (Ghosts.refl _) 2 0 1 124 3 _ _ (g2_0) rfl rfl rfl) I2 (fun k => p.edges.length - k) (0) ((hI2 _ _ _).2 ⟨(H.next), ([]), ?_, ?_, ?_, ?_, ?_, ?_, ?_, ?_, ?_, ?_, ?_, ?_, ?_, ?_, ?_, ?_, (by first | assumption | omega | (simp [go_sem, F0]; done) | (simp_all; done)), (by rfl), (by omega), (by omega), (by omega), (by omega)⟩) ?_
     iterate 16 (first | omega | (simp [go_sem, seval, F0] <;> omega))
     intro k e H hi2
     obtain ⟨j, ys, q2_2, q3_2, q4_2, q5_2, q8_2, q10_2, g0_2, n0_2, g1_2, n1_2, g2_2, n2_2, g3_2, n3_2, gj_2, nj_2, hk, hy, j0, j1, j2, j3⟩ := (hI2 _ _ _).1 hi2
     have x0 := frs n0_2
     have x1 := frs n1_2
     have x2 := frs n2_2
     have x3 := frs n3_2
     have xj := frs nj_2
     have F2 := And.intro q2_2 (And.intro q3_2 (And.intro q4_2 (And.intro q5_2 (And.intro q8_2 (And.intro q10_2 (And.intro g0_2 (And.intro g1_2 (And.intro g2_2 (And.intro g3_2 (And.intro gj_2 (And.intro x0 (And.intro x1 (And.intro x2 (And.intro x3 xj))))))))))))))
     try simp [go_sem, seval, F2, j0, j1, j2, j3, j0.symm, j1.symm, j2.symm, j3.symm]
     repeat first | intro _ | refine ⟨obs, ?_⟩
     refine condQ_mk (fun h10 => ?_) (fun h10 => ?_)
     ·try simp [go_sem] at h10
      have hie' := hie _ (lgm h10)
      have hke : p.edges[k].toNat < g.edges.length := by omega
      have hyl : ys.length = k := by rw [hy]; simp; omega
      have hen := hends _ (lgm h10)
      rw [lge hke, Option.getD_some] at hen
      have hi1 := idx_posL hs hen.1
      have hi2 := idx_posL hs hen.2
      try simp [go_sem, seval, F2, j0, j1, j2, j3, j0.symm, j1.symm, j2.symm, j3.symm, h10, lge hke, gEd, hi1, hi2]
      repeat first | intro _ | refine ⟨obs, ?_⟩
      refine dcallQ_pure0 (ref07_index p.nodes _) ((by first | rfl | (simp [go_sem, ← List.map_take, ← List.map_drop, F2, j0, j1, j2, j3, j0.symm, j1.symm, j2.symm, j3.symm, h10, lge hke, gEd, hi1, hi2]; done))) ?_
      try simp [go_sem, seval, F2, j0, j1, j2, j3, j0.symm, j1.symm, j2.symm, j3.symm, h10, lge hke, gEd, hi1, hi2]
      repeat first | intro _ | refine ⟨obs, ?_⟩
      refine dcallQ_pure0 (ref07_index p.nodes _) ((by first | rfl | (simp [go_sem, ← List.map_take, ← List.map_drop, F2, j0, j1, j2, j3, j0.symm, j1.symm, j2.symm, j3.symm, h10, lge hke, gEd, hi1, hi2]; done))) ?_
      try simp [go_sem, seval, F2, j0, j1, j2, j3, j0.symm, j1.symm, j2.symm, j3.symm, h10, lge hke, gEd, hi1, hi2]
      repeat first | intro _ | refine ⟨obs, ?_⟩
      refine nextQ_mk (k + 1) (by omega) ((hI2 _ _ _).2 ⟨(j), (ys ++ [gEd g p p.edges[k]]), ?_, ?_, ?_, ?_, ?_, ?_, ?_, ?_, ?_, ?_, ?_, ?_, ?_, ?_, ?_, ?_, (by first | assumption | omega | (simp [go_sem, F2, j0, j1, j2, j3, j0.symm, j1.symm, j2.symm, j3.symm, h10, lge hke, gEd, hi1, hi2, h2, h6]; done) | (simp_all <;> omega)), (by (rw [map_take_succ _ h10, ← hy])), (by first | assumption | omega | (simp [go_sem, F2, j0, j1, j2, j3, j0.symm, j1.symm, j2.symm, j3.symm, h10, lge hke, gEd, hi1, hi2, h2, h6]; done) | (simp_all <;> omega)), (by first | assumption | omega | (simp [go_sem, F2, j0, j1, j2, j3, j0.symm, j1.symm, j2.symm, j3.symm, h10, lge hke, gEd, hi1, hi2, h2, h6]; done) | (simp_all <;> omega)), (by first | assumption | omega | (simp [go_sem, F2, j0, j1, j2, j3, j0.symm, j1.symm, j2.symm, j3.symm, h10, lge hke, gEd, hi1, hi2, h2, h6]; done) | (simp_all <;> omega)), (by first | assumption | omega | (simp [go_sem, F2, j0, j1, j2, j3, j0.symm, j1.symm, j2.symm, j3.symm, h10, lge hke, gEd, hi1, hi2, h2, h6]; done) | (simp_all <;> omega))⟩) <;> first | omega | (simp [go_sem, seval, F2, j0, j1, j2, j3, j0.symm, j1.symm, j2.symm, j3.symm, h10, lge hke, gEd, hi1, hi2] <;> omega)
     ·try simp [go_sem] at h10
      have hY : ys = p.edges.map (gEd g p) := by rw [hy, map_take_end _ (by omega)]
      try simp [go_sem, seval, F2, j0, j1, j2, j3, j0.symm, j1.symm, j2.symm, j3.symm]
      repeat first | intro _ | refine ⟨obs, ?_⟩
      exact hQ _ _ (by first | (left; (simp [go_sem, F2, j0, j1, j2, j3, j0.symm, j1.symm, j2.symm, j3.symm, extractG, partR, h2, hX, hY]); done) | (right; (simp [go_sem, F2, j0, j1, j2, j3, j0.symm, j1.symm, j2.symm, j3.symm, extractG, partR, h2, hX, hY]); done))
end Go.Abs
end
section
set_option maxRecDepth 8000
open Go Go.Proofs
namespace Go.Abs
def goneL (im keep : List Int) : List Int := ((List.range im.length).filter fun (i : Nat) => !mem keep i).map fun i => im[i]?.getD 0
def dangB (g : Graph) (me gone : List Int) (k : Nat) : Bool := !mem me k && (mem gone (g.edges[k]?.getD zeroEdge).from_ || mem gone (g.edges[k]?.getD zeroEdge).to_)
def dangL (g : Graph) (me gone : List Int) : List Int := ((List.range g.edges.length).filter (dangB g me gone)).map fun (b : Nat) => (b : Int)
def dupB (im keep : List Int) (i k : Nat) : Bool := decide (im[i]?.getD 0 = im[k]?.getD 0) && (!mem keep i || !mem keep k)
def dupRow (im keep : List Int) (i j : Nat) : List (Nat × Nat) := ((List.range j).filter fun b => dupB im keep i (i + 1 + b)).map fun b => (i, i + 1 + b)
def dupN (im keep : List Int) (n : Nat) : List (Nat × Nat) := (List.range n).flatMap fun i => dupRow im keep i (im.length - (i + 1))
def dupL (im keep : List Int) : List (Nat × Nat) := dupN im keep im.length
def cPr (p : Nat × Nat) : List D := [dI p.1, dI p.2]
@[go_sem] theorem cPr_cl (p : Nat × Nat) : D.clL (cPr p) = true := rfl
@[go_sem] theorem prs_cl (l : List (Nat × Nat)) : D.clLL (l.map cPr) = true := clLL_map _ cPr_cl l
theorem dupRow_succ (im keep : List Int) (i j : Nat) : dupRow im keep i (j + 1) = dupRow im keep i j ++ (if dupB im keep i (i + 1 + j) = true then [(i, i + 1 + j)] else []) := by
  unfold dupRow
  rw [List.range_succ, List.filter_append, List.map_append]
  congr 1
  by_cases h : dupB im keep i (i + 1 + j) = true <;> simp [h]
theorem dupN_succ (im keep : List Int) (n : Nat) : dupN im keep (n + 1) = dupN im keep n ++ dupRow im keep n (im.length - (n + 1)) := by
  unfold dupN; rw [List.range_succ, List.flatMap_append]; simp
theorem dupRow_len (im keep : List Int) (i j : Nat) : (dupRow im keep i j).length ≤ j := by
  unfold dupRow; rw [List.length_map]; exact Nat.le_trans (List.length_filter_le _ _) (by simp)
theorem dupN_len (im keep : List Int) : ∀ n, (dupN im keep n).length ≤ n * im.length
  | 0 => by simp [dupN]
  | n + 1 => by
    have h1 := dupN_len im keep n
    have h2 := dupRow_len im keep n (im.length - (n + 1))
    rw [dupN_succ, List.length_append, Nat.add_mul]
    omega
theorem goneL_take (im keep : List Int) {i : Nat} (h : i < im.length) : ((List.range (i + 1)).filter fun (i : Nat) => !mem keep i).map (fun i => im[i]?.getD 0) = ((List.range i).filter fun (i : Nat) => !mem keep i).map (fun i => im[i]?.getD 0) ++ (if (!mem keep i) = true then [im[i]] else []) := by
  rw [List.range_succ, List.filter_append, List.map_append]
  congr 1
  by_cases hm : (!mem keep i) = true
  · rw [if_pos hm]; simp at hm; simp [hm, h]
  · rw [if_neg hm]; simp at hm; simp [hm]
theorem goneL_mem {im keep : List Int} {x : Int} : x ∈ goneL im keep ↔ ∃ i : Nat, i < im.length ∧ mem keep i = false ∧ im[i]? = some x := by
  unfold goneL
  simp only [List.mem_map, List.mem_filter, List.mem_range, Bool.not_eq_true']
  constructor
  · rintro ⟨i, ⟨h1, h2⟩, h3⟩
    rw [lge h1] at h3
    exact ⟨i, h1, h2, by rw [lge h1]; exact congrArg some h3⟩
  · rintro ⟨i, h1, h2, h3⟩
    exact ⟨i, ⟨h1, h2⟩, by rw [h3]; rfl⟩
def compG (l g : Graph) (keep m : Part) : Int := if morphF l g m ≠ 0 then morphF l g m else subF l keep
def compE (l g : Graph) (keep m : Part) : Int :=
  if compG l g keep m ≠ 0 then compG l g keep m
  else if 0 < (dupL m.nodes keep.nodes).length + (dupL m.edges keep.edges).length then 15
  else if 0 < (dangL g m.edges (goneL m.nodes keep.nodes)).length then 14 else 0
def compP (l g : Graph) (keep m : Part) : Part := if compE l g keep m = 0 then ⟨othersL (goneL m.nodes keep.nodes) g.nodes.length, othersL (goneL m.edges keep.edges) g.edges.length⟩ else ⟨[], []⟩
def coverB (a b : List Int) (n : Nat) : Bool := (List.range n).all fun (i : Nat) => mem a i || mem b i
def jointB (a b x : Graph) (h k : Part) : Bool := decide (morphF a x h = 0) && (decide (morphF b x k = 0) && (coverB h.nodes k.nodes x.nodes.length && coverB h.edges k.edges x.edges.length))
theorem cover_step {a b : List Int} {n : Nat} (h : (List.range n).all (fun (i : Nat) => mem a i || mem b i) = true) : (List.range (n + 1)).all (fun (i : Nat) => mem a i || mem b i) = (mem a n || mem b n) := by
  rw [List.range_succ, List.all_append, h]; simp
theorem cover_off {a b : List Int} {n i : Nat} (hi : i < n) (h : (mem a i || mem b i) = false) : coverB a b n = false := by
  rw [Bool.eq_false_iff]; intro hc
  have := List.all_eq_true.1 hc i (List.mem_range.2 hi)
  rw [h] at this; cases this
theorem dangB_at {g : Graph} {me gone : List Int} {k : Nat} (h : k < g.edges.length) : dangB g me gone k = (!mem me k && (mem gone g.edges[k].from_ || mem gone g.edges[k].to_)) := by
  unfold dangB; rw [lge h]; rfl
end Go.Abs
end
section
set_option maxRecDepth 8000
set_option maxHeartbeats 1000000
open Go Go.Proofs
namespace Go.Abs
theorem dup_at {im keep : List Int} {i k : Nat} (hi : i < im.length) (hk : k < im.length) : dupB im keep i k = (decide (im[i] = im[k]) && (!mem keep i || !mem keep k)) := by
  unfold dupB; rw [lge hi, lge hk]; rfl
theorem dupRow_at (im keep : List Int) {i k : Nat} (h : i + 1 ≤ k) : dupRow im keep i (k + 1 - (i + 1)) = dupRow im keep i (k - (i + 1)) ++ (if dupB im keep i k = true then [(i, k)] else []) := by
  rw [show k + 1 - (i + 1) = (k - (i + 1)) + 1 by omega, dupRow_succ, show i + 1 + (k - (i + 1)) = k by omega]
theorem dupL_len {im keep : List Int} (h : im.length ≤ 1000) : (dupL im keep).length ≤ 1000000 := by
  have h1 := dupN_len im keep im.length
  have h2 : im.length * im.length ≤ 1000 * 1000 := Nat.mul_le_mul h h
  unfold dupL; omega
theorem complement_pairs (im keep : List Int) (hn : im.length ≤ 1000) : Pure Tryz.prog 208 [dLI im, dLI keep] (.list ((dupL im keep).map cPr)) := by
  refine Tz.pK ⟨fun t => t == 5, fun _ => []⟩ Tryz.func208 rfl (fun Q hQ => ?_)
  try simp [go_sem, seval]
  repeat (first | intro _ | (refine ⟨obl, ?_⟩))
  obtain ⟨I0, hI0⟩ := mkI fun i e H => (∃ xs : List (Nat × Nat), (e 0 = dLI im) ∧ (e 1 = dLI keep) ∧ (e 9 = dI im.length) ∧ (e 5 = .own 0 xs.length) ∧ (e 10 = dI i) ∧ (H.get 0 = some ⟨292, 2, xs.map cPr, false⟩) ∧ (0 < H.next) ∧ (i ≤ im.length) ∧ (xs = dupN im keep i))
  refine loopK I0 (fun i => im.length - i) (0) ((hI0 _ _ _).2 ⟨([]), ?_, ?_, ?_, ?_, ?_, ?_, ?_, (by first | assumption | omega | (simp [go_sem]; done) | (simp_all; done)), (by rfl)⟩) ?_
  iterate 7 (first | omega | (simp [go_sem, seval] <;> omega))
  intro i e H hi0
  obtain ⟨xs, q0_0, q1_0, q9_0, q5_0, q10_0, g0_0, n0_0, hi, hx⟩ := (hI0 _ _ _).1 hi0
  have x0 := frs n0_0
  have F0 := And.intro q0_0 (And.intro q1_0 (And.intro q9_0 (And.intro q5_0 (And.intro q10_0 (And.intro g0_0 x0)))))
  try simp [go_sem, seval, F0]
  refine condQ_mk (fun h3 => ?_) (fun h3 => ?_)
  · try simp [go_sem] at h3
    try simp [go_sem, seval, F0, h3, lge h3]
    repeat (first | intro _ | (refine ⟨obl, ?_⟩))
    obtain ⟨I2, hI2⟩ := mkI fun k e H => (∃ ys : List (Nat × Nat), (e 0 = dLI im) ∧ (e 1 = dLI keep) ∧ (e 9 = dI im.length) ∧ (e 5 = .own 0 ys.length) ∧ (e 6 = dI i) ∧ (e 10 = dI i) ∧ (e 7 = dI k) ∧ (H.get 0 = some ⟨292, 2, ys.map cPr, false⟩) ∧ (0 < H.next) ∧ (i + 1 ≤ k) ∧ (k ≤ im.length) ∧ (ys = xs ++ dupRow im keep i (k - (i + 1))) ∧ (ys.length ≤ 1000000))
    refine loopK I2 (fun k => im.length - k) (i + 1) ((hI2 _ _ _).2 ⟨(xs), ?_, ?_, ?_, ?_, ?_, ?_, ?_, ?_, ?_, (by first | assumption | omega | (simp [go_sem, F0, h3, lge h3]; done) | (simp_all; done)), (by first | assumption | omega | (simp [go_sem, F0, h3, lge h3]; done) | (simp_all; done)), (by (simp [dupRow])), (by (have := dupN_len im keep i; have : i * im.length ≤ 1000 * 1000 := Nat.mul_le_mul (by omega) hn; rw [hx]; omega))⟩) ?_
    iterate 9 (first | omega | (simp [go_sem, seval, F0, h3, lge h3] <;> omega))
    intro k e H hi2
    obtain ⟨ys, q0_2, q1_2, q9_2, q5_2, q6_2, q10_2, q7_2, g0_2, n0_2, hk1, hk2, hy, hyl⟩ := (hI2 _ _ _).1 hi2
    have x0 := frs n0_2
    have F2 := And.intro q0_2 (And.intro q1_2 (And.intro q9_2 (And.intro q5_2 (And.intro q6_2 (And.intro q10_2 (And.intro q7_2 (And.intro g0_2 x0)))))))
    try simp [go_sem, seval, h3, lge h3, F2]
    repeat (first | intro _ | (refine ⟨obl, ?_⟩))
    refine condQ_mk (fun h6 => ?_) (fun h6 => ?_)
    · try simp [go_sem] at h6
      have hd := dup_at (keep := keep) h3 h6
      have hyl2 : (ys ++ (if dupB im keep i k = true then [(i, k)] else [])).length ≤ 1000000 := by
        have e1 : ys ++ (if dupB im keep i k = true then [(i, k)] else []) = dupN im keep i ++ dupRow im keep i (k + 1 - (i + 1)) := by rw [dupRow_at _ _ (by omega), ← List.append_assoc, hy, hx]
        rw [e1, List.length_append]
        have h1 := dupN_len im keep i
        have h2 := dupRow_len im keep i (k + 1 - (i + 1))
        have h3 : i * im.length + im.length ≤ 1000 * 1000 := by
          have := Nat.mul_le_mul (show i + 1 ≤ 1000 by omega) hn
          rw [Nat.add_mul] at this; omega
        omega
      try simp [go_sem, seval, h3, lge h3, F2, h6, lge h6]
      repeat (first | intro _ | (refine ⟨obl, ?_⟩))
      refine dgcallQ_pure0 (fun hg => contains_int keep i) (fun hg => (by first | rfl | (simp [go_sem, ← List.map_take, ← List.map_drop, h3, lge h3, F2, h6, lge h6]; done))) ?_
      try simp [go_sem, seval, h3, lge h3, F2, h6, lge h6]
      repeat (first | intro _ | (refine ⟨obl, ?_⟩))
      refine dgcallQ_pure0 (fun hg => contains_int keep k) (fun hg => (by first | rfl | (simp [go_sem, ← List.map_take, ← List.map_drop, h3, lge h3, F2, h6, lge h6]; done))) ?_
      try simp [go_sem, seval, h3, lge h3, F2, h6, lge h6]
      repeat (first | intro _ | (refine ⟨obl, ?_⟩))
      refine condQ_mk (fun h8 => ?_) (fun h8 => ?_)
      · try simp [go_sem] at h8
        have hdt : dupB im keep i k = true := by rw [hd]; simpa using h8
        try simp [go_sem, seval, h3, lge h3, F2, h6, lge h6, hdt, cPr]
        repeat (first | intro _ | (refine ⟨obl, ?_⟩))
        refine nextQ_mk (k + 1) (by omega) ((hI2 _ _ _).2 ⟨(ys ++ (if dupB im keep i k = true then [(i, k)] else [])), ?_, ?_, ?_, ?_, ?_, ?_, ?_, ?_, ?_, (by first | assumption | omega | (simp [go_sem, h3, lge h3, F2, h6, lge h6, hdt, cPr, h8]; done) | (simp_all <;> omega)), (by first | assumption | omega | (simp [go_sem, h3, lge h3, F2, h6, lge h6, hdt, cPr, h8]; done) | (simp_all <;> omega)), (by (rw [dupRow_at _ _ (by omega), ← List.append_assoc, ← hy])), (by (exact hyl2))⟩) <;> first | omega | (simp [go_sem, seval, h3, lge h3, F2, h6, lge h6, hdt, cPr] <;> omega)
      · try simp [go_sem] at h8
        have hdf : dupB im keep i k = false := by rw [hd, Bool.eq_false_iff]; intro hb; simp at hb; simp_all
        try simp [go_sem, seval, h3, lge h3, F2, h6, lge h6, hdf]
        repeat (first | intro _ | (refine ⟨obl, ?_⟩))
        refine nextQ_mk (k + 1) (by omega) ((hI2 _ _ _).2 ⟨(ys ++ (if dupB im keep i k = true then [(i, k)] else [])), ?_, ?_, ?_, ?_, ?_, ?_, ?_, ?_, ?_, (by first | assumption | omega | (simp [go_sem, h3, lge h3, F2, h6, lge h6, hdf, h8]; done) | (simp_all <;> omega)), (by first | assumption | omega | (simp [go_sem, h3, lge h3, F2, h6, lge h6, hdf, h8]; done) | (simp_all <;> omega)), (by (rw [dupRow_at _ _ (by omega), ← List.append_assoc, ← hy])), (by (exact hyl2))⟩) <;> first | omega | (simp [go_sem, seval, h3, lge h3, F2, h6, lge h6, hdf] <;> omega)
    · try simp [go_sem] at h6
      have hJ : k = im.length := by omega
      subst hJ
      subst hy
      try simp [go_sem, seval, h3, lge h3, F2]
      repeat (first | intro _ | (refine ⟨obl, ?_⟩))
      refine nextQ_mk (i + 1) (by omega) ((hI0 _ _ _).2 ⟨(xs ++ dupRow im keep i (im.length - (i + 1))), ?_, ?_, ?_, ?_, ?_, ?_, ?_, (by first | assumption | omega | (simp [go_sem, h3, lge h3, F2, h6]; done) | (simp_all <;> omega)), (by (rw [dupN_succ, ← hx]))⟩) <;> first | omega | (simp [go_sem, seval, h3, lge h3, F2] <;> omega)
  · try simp [go_sem] at h3
    have hX : dupL im keep = xs := by rw [hx, show i = im.length by omega]; rfl
    try simp [go_sem, seval, F0]
    exact hQ _ _ (by first | (left; (simp [go_sem, F0, hX]); done) | (right; (simp [go_sem, F0, hX]); done))
def markG (n : Nat) (l : List Int) : List Bool := l.foldl (fun acc x => acc.set x.toNat true) (List.replicate n false)
theorem markG_snoc (n : Nat) (l : List Int) (x : Int) : markG n (l ++ [x]) = (markG n l).set x.toNat true := by unfold markG; rw [List.foldl_append]; rfl
theorem markG_len (n : Nat) (l : List Int) : (markG n l).length = n := by
  unfold markG
  have : ∀ (l : List Int) (a : List Bool), a.length = n → (l.foldl (fun acc x => acc.set x.toNat true) a).length = n := by
    intro l
    induction l with
    | nil => intro a h; exact h
    | cons x l ih => intro a h; exact ih _ (by simpa using h)
  exact this l _ (by simp)
theorem markG_get (n : Nat) : ∀ (l : List Int), (∀ x ∈ l, 0 ≤ x ∧ x < n) → ∀ i : Nat, i < n → (markG n l)[i]? = some (mem l i) := by
  have : ∀ (l : List Int) (a : List Bool), a.length = n → (∀ x ∈ l, 0 ≤ x ∧ x < n) → ∀ i : Nat, i < n → (l.foldl (fun acc x => acc.set x.toNat true) a)[i]? = some (a[i]?.getD false || mem l i) := by
    intro l
    induction l with
    | nil => intro a ha _ i hi; rw [List.foldl_nil, lge (by omega), mem_nil]; simp
    | cons x l ih =>
      intro a ha hl i hi
      have hx := hl x (by simp)
      rw [List.foldl_cons, ih _ (by simpa using ha) (fun y hy => hl y (by simp [hy])) i hi]
      congr 1
      have hm : mem (x :: l) (i : Int) = (decide ((i : Int) = x) || mem l i) := by
        rw [bei, mem_iff, Bool.or_eq_true, mem_iff, decide_eq_true_eq, List.mem_cons]
      rw [hm]
      by_cases he : x.toNat = i
      · subst he
        rw [List.getElem?_set_self (by omega)]
        have : ((x.toNat : Nat) : Int) = x := by omega
        simp [this]
      · rw [List.getElem?_set_ne he]
        have : ¬ ((i : Int) = x) := by omega
        simp [this]
  intro l hl i hi
  unfold markG
  rw [this l _ (by simp) hl i hi]
  simp [hi]
theorem complement_rest (n : Nat) (hn : n ≤ 1000000) (im keep : List Int) (hi1 : im.length ≤ 1000000) (him : ∀ x ∈ im, 0 ≤ x ∧ x < n) : Pure Tryz.prog 132 [dI n, dLI im, dLI keep] (dLI (othersL (goneL im keep) n)) := by
  refine Tz.pK ⟨fun t => t == 14 || t == 10, fun _ => []⟩ Tryz.func132 rfl (fun Q hQ => ?_)
  try simp [go_sem, seval]
  repeat (first | intro _ | (refine ⟨obl, ?_⟩))
  obtain ⟨I0, hI0⟩ := mkI fun i e H => (∃ go : List Int, (e 0 = dI n) ∧ (e 2 = dLI keep) ∧ (e 15 = dLI im) ∧ (e 16 = dI im.length) ∧ (e 7 = .own 0 n) ∧ (e 17 = dI i) ∧ (H.get 0 = some ⟨4, 1, (markG n go).map cB, false⟩) ∧ (0 < H.next) ∧ (i ≤ im.length) ∧ ((markG n go).length = n) ∧ (go = ((List.range i).filter fun (b : Nat) => !mem keep b).map (fun i => im[i]?.getD 0)))
  refine loopK I0 (fun i => im.length - i) (0) ((hI0 _ _ _).2 ⟨([]), ?_, ?_, ?_, ?_, ?_, ?_, (by (simp [go_sem, markG, cB])), ?_, (by first | assumption | omega | (simp [go_sem]; done) | (simp_all; done)), (by (exact markG_len _ _)), (by rfl)⟩) ?_
  iterate 7 (first | omega | (simp [go_sem, seval] <;> omega))
  intro i e H hi0
  obtain ⟨go, q0_0, q2_0, q15_0, q16_0, q7_0, q17_0, g0_0, n0_0, hi, hgl, hx⟩ := (hI0 _ _ _).1 hi0
  have x0 := frs n0_0
  have F0 := And.intro q0_0 (And.intro q2_0 (And.intro q15_0 (And.intro q16_0 (And.intro q7_0 (And.intro q17_0 (And.intro g0_0 x0))))))
  try simp [go_sem, seval, F0]
  refine condQ_mk (fun h3 => ?_) (fun h3 => ?_)
  · try simp [go_sem] at h3
    have hb := him _ (lgm h3)
    have hbl : im[i].toNat < (markG n go).length := by omega
    try simp [go_sem, seval, F0, h3, lge h3, lge hbl]
    repeat (first | intro _ | (refine ⟨obl, ?_⟩))
    refine callQ_pure0 (contains_int keep i) ((by first | rfl | (simp [go_sem, ← List.map_take, ← List.map_drop, F0, h3, lge h3, lge hbl]; done))) ?_
    try simp [go_sem, seval, F0, h3, lge h3, lge hbl]
    repeat (first | intro _ | (refine ⟨obl, ?_⟩))
    refine condQ_mk (fun h5 => ?_) (fun h5 => ?_)
    · try simp [go_sem] at h5
      try simp [go_sem, seval, F0, h3, lge h3, lge hbl, h5]
      repeat (first | intro _ | (refine ⟨obl, ?_⟩))
      refine nextQ_mk (i + 1) (by omega) ((hI0 _ _ _).2 ⟨(go ++ (if (!mem keep i) = true then [im[i]] else [])), ?_, ?_, ?_, ?_, ?_, ?_, (by (simp [go_sem, F0, h3, lge h3, lge hbl, h5, markG_snoc, List.map_set, cB])), ?_, (by first | assumption | omega | (simp [go_sem, F0, h3, lge h3, lge hbl, h5]; done) | (simp_all <;> omega)), (by (exact markG_len _ _)), (by (rw [goneL_take _ _ h3, ← hx]))⟩) <;> first | omega | (simp [go_sem, seval, F0, h3, lge h3, lge hbl, h5] <;> omega)
    · try simp [go_sem] at h5
      try simp [go_sem, seval, F0, h3, lge h3, lge hbl, h5]
      repeat (first | intro _ | (refine ⟨obl, ?_⟩))
      refine nextQ_mk (i + 1) (by omega) ((hI0 _ _ _).2 ⟨(go ++ (if (!mem keep i) = true then [im[i]] else [])), ?_, ?_, ?_, ?_, ?_, ?_, (by (simp [go_sem, F0, h3, lge h3, lge hbl, h5, markG_snoc, List.map_set, cB])), ?_, (by first | assumption | omega | (simp [go_sem, F0, h3, lge h3, lge hbl, h5]; done) | (simp_all <;> omega)), (by (exact markG_len _ _)), (by (rw [goneL_take _ _ h3, ← hx]))⟩) <;> first | omega | (simp [go_sem, seval, F0, h3, lge h3, lge hbl, h5] <;> omega)
  · try simp [go_sem] at h3
    have hgo : goneL im keep = go := by rw [hx, show i = im.length by omega]; rfl
    have hgi : ∀ x ∈ go, 0 ≤ x ∧ x < n := fun x hxm => by
      rw [← hgo, goneL_mem] at hxm
      obtain ⟨j, _, _, h⟩ := hxm
      exact him x (List.mem_of_getElem? h)
    try simp [go_sem, seval, F0]
    repeat (first | intro _ | (refine ⟨obl, ?_⟩))
    obtain ⟨I2, hI2⟩ := mkI fun k e H => (∃ xs : List Int, ∃ b10 : Nat, (e 0 = dI n) ∧ (e 2 = dLI keep) ∧ (e 15 = dLI im) ∧ (e 16 = dI im.length) ∧ (e 30 = .own 0 n) ∧ (e 31 = dI n) ∧ (e 32 = dI k) ∧ (e 10 = .own b10 xs.length) ∧ (H.get 0 = some ⟨4, 1, (markG n go).map cB, false⟩) ∧ (0 < H.next) ∧ (H.get b10 = some ⟨3, 1, xs.map cI, false⟩) ∧ (b10 < H.next) ∧ (b10 ≠ 0) ∧ (k ≤ n) ∧ (xs.length ≤ k) ∧ (xs = ((List.range k).filter fun (b : Nat) => !mem go b).map (fun (b : Nat) => (b : Int))))
    refine loopK I2 (fun k => n - k) (0) ((hI2 _ _ _).2 ⟨([]), (H.next), ?_, ?_, ?_, ?_, ?_, ?_, ?_, ?_, ?_, ?_, ?_, ?_, (by omega), (by first | assumption | omega | (simp [go_sem, F0]; done) | (simp_all; done)), (by simp), (by rfl)⟩) ?_
    iterate 12 (first | omega | (simp [go_sem, seval, F0] <;> omega))
    intro k e H hi2
    obtain ⟨xs, b10, q0_2, q2_2, q15_2, q16_2, q30_2, q31_2, q32_2, q10_2, g0_2, n0_2, gb10_2, nb10_2, hb0, hk, hl, hxx⟩ := (hI2 _ _ _).1 hi2
    have x0 := frs n0_2
    have xb10 := frs nb10_2
    have F2 := And.intro q0_2 (And.intro q2_2 (And.intro q15_2 (And.intro q16_2 (And.intro q30_2 (And.intro q31_2 (And.intro q32_2 (And.intro q10_2 (And.intro g0_2 (And.intro gb10_2 (And.intro x0 xb10))))))))))
    have di1 := nep (show 0 ≠ b10 by omega)
    try simp [go_sem, seval, F2, hgl, di1]
    refine condQ_mk (fun h10 => ?_) (fun h10 => ?_)
    · try simp [go_sem] at h10
      have hkm : k < (markG n go).length := by omega
      have hg : (markG n go)[k] = mem go k := by have := markG_get n go hgi k h10; rw [lge hkm] at this; exact Option.some.inj this
      try simp [go_sem, seval, F2, hgl, di1, h10, lge hkm, hg]
      repeat (first | intro _ | (refine ⟨obl, ?_⟩))
      refine condQ_mk (fun h12 => ?_) (fun h12 => ?_)
      · try simp [go_sem] at h12
        try simp [go_sem, seval, F2, hgl, di1, h10, lge hkm, hg, h12]
        repeat (first | intro _ | (refine ⟨obl, ?_⟩))
        refine nextQ_mk (k + 1) (by omega) ((hI2 _ _ _).2 ⟨(xs ++ (if (!mem go k) = true then [(k : Int)] else [])), (b10), ?_, ?_, ?_, ?_, ?_, ?_, ?_, ?_, ?_, ?_, ?_, ?_, (by omega), (by first | assumption | omega | (simp [go_sem, F2, hgl, di1, h10, lge hkm, hg, h12, h3]; done) | (simp_all <;> omega)), (by (rw [List.length_append]; split <;> simp <;> omega)), (by (rw [range_filter_succ, ← hxx]))⟩) <;> first | omega | (simp [go_sem, seval, F2, hgl, di1, h10, lge hkm, hg, h12] <;> omega)
      · try simp [go_sem] at h12
        try simp [go_sem, seval, F2, hgl, di1, h10, lge hkm, hg, h12]
        repeat (first | intro _ | (refine ⟨obl, ?_⟩))
        refine nextQ_mk (k + 1) (by omega) ((hI2 _ _ _).2 ⟨(xs ++ (if (!mem go k) = true then [(k : Int)] else [])), (b10), ?_, ?_, ?_, ?_, ?_, ?_, ?_, ?_, ?_, ?_, ?_, ?_, (by omega), (by first | assumption | omega | (simp [go_sem, F2, hgl, di1, h10, lge hkm, hg, h12, h3]; done) | (simp_all <;> omega)), (by (rw [List.length_append]; split <;> simp <;> omega)), (by (rw [range_filter_succ, ← hxx]))⟩) <;> first | omega | (simp [go_sem, seval, F2, hgl, di1, h10, lge hkm, hg, h12] <;> omega)
    · try simp [go_sem] at h10
      try simp [go_sem, seval, F2, hgl, di1]
      exact hQ _ _ (by first | (left; (simp [go_sem, F2, hgl, di1, hgo, othersL]; rw [hxx, show k = n by omega]; simp); done) | (right; (simp [go_sem, F2, hgl, di1, hgo, othersL]; rw [hxx, show k = n by omega]; simp); done))
end Go.Abs
end
section
set_option maxRecDepth 8000
set_option maxHeartbeats 1000000
open Go Go.Proofs
namespace Go.Abs
def gluC (l g : Graph) (keep m : Part) : List D := [dLI l.nodes, .list (l.edges.map Edge.c), dLI g.nodes, .list (g.edges.map Edge.c), dLI keep.nodes, dLI keep.edges, dLI m.nodes, dLI m.edges]
theorem complement_given (l g : Graph) (keep m : Part) (hk : keep.nodes.length ≤ 1000000) : Pure Tryz.prog 129 [.agg (gluC l g keep m)] (dI (compG l g keep m)) := by
  refine Tz.pK ⟨fun _ => false, fun _ => []⟩ Tryz.func129 rfl (fun Q hQ => ?_)
  try simp [go_sem, seval, gluC]
  refine callQ_pure0 (morphism_Valid l g m) ((by first | rfl | (simp [go_sem, ← List.map_take, ← List.map_drop, gluC]; done))) ?_
  try simp [go_sem, seval, gluC]
  refine condQ_mk (fun h2 => ?_) (fun h2 => ?_)
  · try simp [go_sem] at h2
    try simp [go_sem, seval, gluC]
    exact hQ _ _ (by simp [go_sem, gluC, h2, compG] <;> first | omega | (rw [bei]; simp <;> omega) | (simp_all <;> omega))
  · try simp [go_sem] at h2
    try simp [go_sem, seval, gluC]
    refine callQ_pure0 (subgraph_Valid l keep hk) ((by first | rfl | (simp [go_sem, ← List.map_take, ← List.map_drop, gluC]; done))) ?_
    try simp [go_sem, seval, gluC]
    exact hQ _ _ (by simp [go_sem, gluC, h2, compG] <;> first | omega | (rw [bei]; simp <;> omega) | (simp_all <;> omega))
theorem complement_deleted (l g : Graph) (keep m : Part) (hn : m.nodes.length ≤ 1000000) : Pure Tryz.prog 209 [.agg (gluC l g keep m)] (dLI (goneL m.nodes keep.nodes)) := by
  refine Tz.pK ⟨fun t => t == 3, fun _ => []⟩ Tryz.func209 rfl (fun Q hQ => ?_)
  try simp [go_sem, seval, gluC]
  repeat (first | intro _ | (refine ⟨obl, ?_⟩))
  obtain ⟨I0, hI0⟩ := mkI fun i e H => (∃ xs : List Int, (e 1 = .adr (gluC l g keep m)) ∧ (e 8 = dLI m.nodes) ∧ (e 9 = dI m.nodes.length) ∧ (e 3 = .own 0 xs.length) ∧ (e 10 = dI i) ∧ (H.get 0 = some ⟨3, 1, xs.map cI, false⟩) ∧ (0 < H.next) ∧ (i ≤ m.nodes.length) ∧ (xs.length ≤ i) ∧ (xs = ((List.range i).filter fun (b : Nat) => !mem keep.nodes b).map (fun i => m.nodes[i]?.getD 0)))
  refine loopK I0 (fun i => m.nodes.length - i) (0) ((hI0 _ _ _).2 ⟨([]), ?_, ?_, ?_, ?_, ?_, ?_, ?_, (by first | assumption | omega | (simp [go_sem, gluC]; done) | (simp_all; done)), (by simp), (by rfl)⟩) ?_
  iterate 7 (first | omega | (simp [go_sem, seval, gluC] <;> omega))
  intro i e H hi0
  obtain ⟨xs, q1_0, q8_0, q9_0, q3_0, q10_0, g0_0, n0_0, hi, hl, hx⟩ := (hI0 _ _ _).1 hi0
  have x0 := frs n0_0
  have F0 := And.intro q1_0 (And.intro q8_0 (And.intro q9_0 (And.intro q3_0 (And.intro q10_0 (And.intro g0_0 x0)))))
  try simp [go_sem, seval, gluC, F0]
  refine condQ_mk (fun h3 => ?_) (fun h3 => ?_)
  · try simp [go_sem] at h3
    try simp [go_sem, seval, gluC, F0, h3, lge h3]
    repeat (first | intro _ | (refine ⟨obl, ?_⟩))
    refine callQ_pure0 (contains_int keep.nodes i) ((by first | rfl | (simp [go_sem, ← List.map_take, ← List.map_drop, gluC, F0, h3, lge h3]; done))) ?_
    try simp [go_sem, seval, gluC, F0, h3, lge h3]
    repeat (first | intro _ | (refine ⟨obl, ?_⟩))
    refine condQ_mk (fun h5 => ?_) (fun h5 => ?_)
    ·try simp [go_sem] at h5
     try simp [go_sem, seval, gluC, F0, h3, lge h3, h5]
     repeat (first | intro _ | (refine ⟨obl, ?_⟩))
     refine nextQ_mk (i + 1) (by omega) ((hI0 _ _ _).2 ⟨(xs ++ (if (!mem keep.nodes i) = true then [m.nodes[i]] else [])), ?_, ?_, ?_, ?_, ?_, ?_, ?_, (by first | assumption | omega | (simp [go_sem, gluC, F0, h3, lge h3, h5]; done) | (simp_all <;> omega)), (by (rw [List.length_append]; split <;> simp <;> omega)), (by (rw [goneL_take _ _ h3, ← hx]))⟩) <;> first | omega | (simp [go_sem, seval, gluC, F0, h3, lge h3, h5] <;> omega)
    ·try simp [go_sem] at h5
     try simp [go_sem, seval, gluC, F0, h3, lge h3, h5]
     repeat (first | intro _ | (refine ⟨obl, ?_⟩))
     refine nextQ_mk (i + 1) (by omega) ((hI0 _ _ _).2 ⟨(xs ++ (if (!mem keep.nodes i) = true then [m.nodes[i]] else [])), ?_, ?_, ?_, ?_, ?_, ?_, ?_, (by first | assumption | omega | (simp [go_sem, gluC, F0, h3, lge h3, h5]; done) | (simp_all <;> omega)), (by (rw [List.length_append]; split <;> simp <;> omega)), (by (rw [goneL_take _ _ h3, ← hx]))⟩) <;> first | omega | (simp [go_sem, seval, gluC, F0, h3, lge h3, h5] <;> omega)
  · try simp [go_sem] at h3
    try simp [go_sem, seval, gluC, F0]
    have hX : goneL m.nodes keep.nodes = xs := by rw [hx, show i = m.nodes.length by omega]; rfl
    exact hQ _ _ (by first | (left; (simp [go_sem, gluC, F0, hX]); done) | (right; (simp [go_sem, gluC, F0, hX]); done))
theorem complement_dangling (l g : Graph) (keep m : Part) (hn : m.nodes.length ≤ 1000000) (hg : g.edges.length ≤ 1000000) : Pure Tryz.prog 131 [.agg (gluC l g keep m)] (dLI (dangL g m.edges (goneL m.nodes keep.nodes))) := by
  obtain ⟨go, hgo⟩ : ∃ go, goneL m.nodes keep.nodes = go := ⟨_, rfl⟩
  refine Tz.pK ⟨fun t => t == 6 || t == 4, fun _ => []⟩ Tryz.func131 rfl (fun Q hQ => ?_)
  try simp [go_sem, seval, hgo, gluC]
  refine callQ_pure0 ((by have := complement_deleted l g keep m hn; simp only [gluC] at this; exact this)) ((by first | rfl | (simp [go_sem, ← List.map_take, ← List.map_drop, hgo, gluC]; done))) ?_
  try simp [go_sem, seval, hgo, gluC]
  repeat (first | intro _ | (refine ⟨obl, ?_⟩))
  obtain ⟨I0, hI0⟩ := mkI fun k e H => (∃ xs : List Int, (e 1 = .adr (gluC l g keep m)) ∧ (e 3 = dLI go) ∧ (e 11 = .list (g.edges.map Edge.c)) ∧ (e 12 = dI g.edges.length) ∧ (e 4 = .own 0 xs.length) ∧ (e 13 = dI k) ∧ (H.get 0 = some ⟨3, 1, xs.map cI, false⟩) ∧ (0 < H.next) ∧ (k ≤ g.edges.length) ∧ (xs.length ≤ k) ∧ (xs = ((List.range k).filter (dangB g m.edges go)).map (fun (b : Nat) => (b : Int))))
  refine loopK I0 (fun k => g.edges.length - k) (0) ((hI0 _ _ _).2 ⟨([]), ?_, ?_, ?_, ?_, ?_, ?_, ?_, ?_, (by first | assumption | omega | (simp [go_sem, hgo, gluC]; done) | (simp_all; done)), (by simp), (by rfl)⟩) ?_
  iterate 8 (first | omega | (simp [go_sem, seval, hgo, gluC] <;> omega))
  intro k e H hi0
  obtain ⟨xs, q1_0, q3_0, q11_0, q12_0, q4_0, q13_0, g0_0, n0_0, hi, hl, hx⟩ := (hI0 _ _ _).1 hi0
  have x0 := frs n0_0
  have F0 := And.intro q1_0 (And.intro q3_0 (And.intro q11_0 (And.intro q12_0 (And.intro q4_0 (And.intro q13_0 (And.intro g0_0 x0))))))
  try simp [go_sem, seval, hgo, gluC, F0]
  refine condQ_mk (fun h4 => ?_) (fun h4 => ?_)
  · try simp [go_sem] at h4
    have hdb := dangB_at (me := m.edges) (gone := go) h4
    have c1 := contains_int go g.edges[k].from_
    have c2 := contains_int go g.edges[k].to_
    try simp [go_sem, seval, hgo, gluC, F0, h4, lge h4, hdb, Edge.c]
    repeat (first | intro _ | (refine ⟨obl, ?_⟩))
    refine callQ_pure0 (contains_int m.edges k) ((by first | rfl | (simp [go_sem, ← List.map_take, ← List.map_drop, hgo, gluC, F0, h4, lge h4, hdb, Edge.c]; done))) ?_
    try simp [go_sem, seval, hgo, gluC, F0, h4, lge h4, hdb, Edge.c]
    repeat (first | intro _ | (refine ⟨obl, ?_⟩))
    refine gcallQ_pure0 (fun hg => c1) (fun hg => (by first | rfl | (simp [go_sem, ← List.map_take, ← List.map_drop, hgo, gluC, F0, h4, lge h4, hdb, Edge.c]; done))) ?_
    try simp [go_sem, seval, hgo, gluC, F0, h4, lge h4, hdb, Edge.c]
    repeat (first | intro _ | (refine ⟨obl, ?_⟩))
    refine gcallQ_pure0 (fun hg => c2) (fun hg => (by first | rfl | (simp [go_sem, ← List.map_take, ← List.map_drop, hgo, gluC, F0, h4, lge h4, hdb, Edge.c]; done))) ?_
    try simp [go_sem, seval, hgo, gluC, F0, h4, lge h4, hdb, Edge.c]
    repeat (first | intro _ | (refine ⟨obl, ?_⟩))
    refine condQ_mk (fun h6 => ?_) (fun h6 => ?_)
    ·try simp [go_sem] at h6
     try simp [go_sem, seval, hgo, gluC, F0, h4, lge h4, hdb, Edge.c, h6]
     repeat (first | intro _ | (refine ⟨obl, ?_⟩))
     refine nextQ_mk (k + 1) (by omega) ((hI0 _ _ _).2 ⟨(xs ++ (if dangB g m.edges go k = true then [(k : Int)] else [])), ?_, ?_, ?_, ?_, ?_, ?_, ?_, ?_, (by first | assumption | omega | (simp [go_sem, hgo, gluC, F0, h4, lge h4, hdb, Edge.c, h6]; done) | (simp_all <;> omega)), (by (rw [List.length_append]; split <;> simp <;> omega)), (by (rw [range_filter_succ, ← hx]))⟩) <;> first | omega | (simp [go_sem, seval, hgo, gluC, F0, h4, lge h4, hdb, Edge.c, h6] <;> omega)
    ·try simp [go_sem] at h6
     try simp [go_sem, seval, hgo, gluC, F0, h4, lge h4, hdb, Edge.c, h6]
     repeat (first | intro _ | (refine ⟨obl, ?_⟩))
     refine nextQ_mk (k + 1) (by omega) ((hI0 _ _ _).2 ⟨(xs ++ (if dangB g m.edges go k = true then [(k : Int)] else [])), ?_, ?_, ?_, ?_, ?_, ?_, ?_, ?_, (by first | assumption | omega | (simp [go_sem, hgo, gluC, F0, h4, lge h4, hdb, Edge.c, h6]; done) | (simp_all <;> omega)), (by (rw [List.length_append]; split <;> simp <;> omega)), (by (rw [range_filter_succ, ← hx]))⟩) <;> first | omega | (simp [go_sem, seval, hgo, gluC, F0, h4, lge h4, hdb, Edge.c, h6] <;> omega)
  · try simp [go_sem] at h4
    try simp [go_sem, seval, hgo, gluC, F0]
    have hX : dangL g m.edges go = xs := by rw [hx, show k = g.edges.length by omega]; rfl
    exact hQ _ _ (by first | (left; (simp [go_sem, hgo, gluC, F0, hX]); done) | (right; (simp [go_sem, hgo, gluC, F0, hX]); done))
theorem complement_identified (l g : Graph) (keep m : Part) (h1 : m.nodes.length ≤ 1000) (h2 : m.edges.length ≤ 1000) : Pure Tryz.prog 130 [.agg (gluC l g keep m)] (.tup [.list ((dupL m.nodes keep.nodes).map cPr), .list ((dupL m.edges keep.edges).map cPr)]) := by
  refine Tz.pK ⟨fun _ => false, fun _ => []⟩ Tryz.func130 rfl (fun Q hQ => ?_)
  try simp [go_sem, seval, gluC]
  refine dcallQ_pure0 (complement_pairs m.nodes keep.nodes h1) ((by first | rfl | (simp [go_sem, ← List.map_take, ← List.map_drop, gluC]; done))) ?_
  try simp [go_sem, seval, gluC]
  refine dcallQ_pure0 (complement_pairs m.edges keep.edges h2) ((by first | rfl | (simp [go_sem, ← List.map_take, ← List.map_drop, gluC]; done))) ?_
  try simp [go_sem, seval, gluC]
  exact hQ _ _ (by simp [go_sem, gluC] <;> first | omega | (rw [bei]; simp <;> omega) | (simp_all <;> omega))
theorem morphF_in {a b : Graph} {m : Part} (h : morphF a b m = 0) : (∀ x ∈ m.nodes, 0 ≤ x ∧ x < b.nodes.length) ∧ ∀ x ∈ m.edges, 0 ≤ x ∧ x < b.edges.length := by
  obtain ⟨_, _, h3, h4⟩ := morphF_len h
  have hM : morphF a b m = (if firstE (mapNE a b m) 0 a.nodes.length ≠ 0 then firstE (mapNE a b m) 0 a.nodes.length else firstE (mapEE a b m) 0 a.edges.length) := by
    obtain ⟨g1, g2, _, _⟩ := morphF_len h
    unfold morphF; rw [if_neg (by simp [g1]), if_neg (by simp [g2]), if_neg (by omega)]
  rw [hM] at h
  split at h
  · rename_i h5; exact absurd h h5
  · rename_i h5
    constructor
    ·intro x hx
     obtain ⟨i, hi, rfl⟩ := List.getElem_of_mem hx
     have := firstE_zero _ _ (show firstE (mapNE a b m) 0 a.nodes.length = 0 by omega) i (by omega) (by omega)
     unfold mapNE at this
     rw [lge hi] at this
     simp only [Option.getD_some] at this
     split at this <;> omega
    ·intro x hx
     obtain ⟨i, hi, rfl⟩ := List.getElem_of_mem hx
     have := firstE_zero _ _ h i (by omega) (by omega)
     unfold mapEE at this
     rw [lge hi] at this
     simp only [Option.getD_some] at this
     split at this <;> omega
theorem complement_Of (l g : Graph) (keep m : Part) (hk : keep.nodes.length ≤ 1000000) (hm1 : m.nodes.length ≤ 1000) (hm2 : m.edges.length ≤ 1000) (hg1 : g.nodes.length ≤ 1000000) (hg2 : g.edges.length ≤ 1000000) : Pure Tryz.prog 63 [l.d, g.d, keep.d, m.d] (.tup [(compP l g keep m).d, dI (compE l g keep m)]) := by
  have hd1 := dupL_len (keep := keep.nodes) hm1
  have hd2 := dupL_len (keep := keep.edges) hm2
  refine Tz.pK ⟨fun t => t == 8 || t == 10, fun _ => []⟩ Tryz.func63 rfl (fun Q hQ => ?_)
  try simp [go_sem, seval]
  refine callQ_pure0 ((by have := complement_given l g keep m hk; simp only [gluC] at this; exact this)) ((by first | rfl | (simp [go_sem, ← List.map_take, ← List.map_drop]; done))) ?_
  try simp [go_sem, seval]
  refine condQ_mk (fun h3 => ?_) (fun h3 => ?_)
  · try simp [go_sem] at h3
    have hC : compE l g keep m = compG l g keep m := if_pos h3
    have hZ : compP l g keep m = ⟨[], []⟩ := if_neg (by rw [hC]; exact h3)
    try simp [go_sem, seval]
    exact hQ _ _ (by first | (left; (simp [go_sem, hC, hZ]); done) | (right; (simp [go_sem, hC, hZ]); done))
  · try simp [go_sem] at h3
    have hC : compE l g keep m = if 0 < (dupL m.nodes keep.nodes).length + (dupL m.edges keep.edges).length then 15 else if 0 < (dangL g m.edges (goneL m.nodes keep.nodes)).length then 14 else 0 := if_neg (by rw [h3]; simp)
    have hin : (∀ x ∈ m.nodes, 0 ≤ x ∧ x < g.nodes.length) ∧ ∀ x ∈ m.edges, 0 ≤ x ∧ x < g.edges.length := morphF_in (a := l) (by unfold compG at h3; by_cases hz : morphF l g m = 0; exact hz; rw [if_pos hz] at h3; exact h3)
    try simp [go_sem, seval]
    refine callQ_pure0 ((by have := complement_identified l g keep m hm1 hm2; simp only [gluC] at this; exact this)) ((by first | rfl | (simp [go_sem, ← List.map_take, ← List.map_drop]; done))) ?_
    try simp [go_sem, seval]
    repeat (first | intro _ | (refine ⟨obl, ?_⟩))
    refine condQ_mk (fun h6 => ?_) (fun h6 => ?_)
    ·try simp [go_sem] at h6
     rw [if_pos (by omega)] at hC
     have hZ : compP l g keep m = ⟨[], []⟩ := if_neg (by rw [hC]; simp)
     try simp [go_sem, seval]
     exact hQ _ _ (by first | (left; (simp [go_sem, hC, hZ]); done) | (right; (simp [go_sem, hC, hZ]); done))
    ·try simp [go_sem] at h6
     rw [if_neg (by first | omega | simp [h6])] at hC
     try simp [go_sem, seval]
     repeat (first | intro _ | (refine ⟨obl, ?_⟩))
     refine callQ_pure0 ((by have := complement_dangling l g keep m (by omega) hg2; simp only [gluC] at this; exact this)) ((by first | rfl | (simp [go_sem, ← List.map_take, ← List.map_drop]; done))) ?_
     try simp [go_sem, seval]
     repeat (first | intro _ | (refine ⟨obl, ?_⟩))
     refine condQ_mk (fun h8 => ?_) (fun h8 => ?_)
     ·try simp [go_sem] at h8
      rw [if_pos (by omega)] at hC
      have hZ : compP l g keep m = ⟨[], []⟩ := if_neg (by rw [hC]; simp)
      try simp [go_sem, seval]
      exact hQ _ _ (by first | (left; (simp [go_sem, hC, hZ]); done) | (right; (simp [go_sem, hC, hZ]); done))
     ·try simp [go_sem] at h8
      rw [if_neg (by first | omega | simp [h8])] at hC
      have hZ : compP l g keep m = ⟨othersL (goneL m.nodes keep.nodes) g.nodes.length, othersL (goneL m.edges keep.edges) g.edges.length⟩ := if_pos hC
      try simp [go_sem, seval]
      repeat (first | intro _ | (refine ⟨obl, ?_⟩))
      refine dcallQ_pure0 (complement_rest g.nodes.length hg1 m.nodes keep.nodes (by omega) hin.1) ((by first | rfl | (simp [go_sem, ← List.map_take, ← List.map_drop]; done))) ?_
      try simp [go_sem, seval]
      repeat (first | intro _ | (refine ⟨obl, ?_⟩))
      refine dcallQ_pure0 (complement_rest g.edges.length hg2 m.edges keep.edges (by omega) hin.2) ((by first | rfl | (simp [go_sem, ← List.map_take, ← List.map_drop]; done))) ?_
      try simp [go_sem, seval]
      repeat (first | intro _ | (refine ⟨obl, ?_⟩))
      exact hQ _ _ (by first | (left; (simp [go_sem, hC, hZ]); done) | (right; (simp [go_sem, hC, hZ]); done))
theorem factor_covered (n : Nat) (hn : n ≤ 1000000) (a b : List Int) : Pure Tryz.prog 128 [dI n, dLI a, dLI b] (.bool (coverB a b n)) := by
  refine Tz.pK ⟨fun _ => false, fun _ => []⟩ Tryz.func128 rfl (fun Q hQ => ?_)
  try simp [go_sem, seval]
  obtain ⟨I0, hI0⟩ := mkI fun i e H => ((e 1 = dLI a) ∧ (e 2 = dLI b) ∧ (e 8 = dI n) ∧ (e 9 = dI i) ∧ (i ≤ n) ∧ ((List.range i).all (fun (i : Nat) => mem a i || mem b i) = true))
  refine loopK I0 (fun i => n - i) (0) ((hI0 _ _ _).2 ⟨?_, ?_, ?_, ?_, (by first | assumption | omega | (simp [go_sem]; done) | (simp_all; done)), (by rfl)⟩) ?_
  iterate 4 (first | omega | (simp [go_sem, seval] <;> omega))
  intro i e H hi0
  obtain ⟨q1_0, q2_0, q8_0, q9_0, hi, ha⟩ := (hI0 _ _ _).1 hi0
  have F0 := And.intro q1_0 (And.intro q2_0 (And.intro q8_0 q9_0))
  try simp [go_sem, seval, F0]
  refine condQ_mk (fun h2 => ?_) (fun h2 => ?_)
  · try simp [go_sem] at h2
    try simp [go_sem, seval, F0, h2]
    repeat (first | intro _ | (refine ⟨obl, ?_⟩))
    refine callQ_pure0 (contains_int a i) ((by first | rfl | (simp [go_sem, ← List.map_take, ← List.map_drop, F0, h2]; done))) ?_
    try simp [go_sem, seval, F0, h2]
    repeat (first | intro _ | (refine ⟨obl, ?_⟩))
    refine gcallQ_pure0 (fun hg => contains_int b i) (fun hg => (by first | rfl | (simp [go_sem, ← List.map_take, ← List.map_drop, F0, h2]; done))) ?_
    try simp [go_sem, seval, F0, h2]
    repeat (first | intro _ | (refine ⟨obl, ?_⟩))
    refine condQ_mk (fun h4 => ?_) (fun h4 => ?_)
    ·try simp [go_sem] at h4
     try simp [go_sem, seval, F0, h2]
     exact hQ _ _ (by first | (left; (simp [go_sem, cover_off h2 (show (mem a i || mem b i) = false by simpa using h4)]); done) | (right; (simp [go_sem, cover_off h2 (show (mem a i || mem b i) = false by simpa using h4)]); done))
    ·try simp [go_sem] at h4
     try simp [go_sem, seval, F0, h2]
     repeat (first | intro _ | (refine ⟨obl, ?_⟩))
     refine nextQ_mk (i + 1) (by omega) ((hI0 _ _ _).2 ⟨?_, ?_, ?_, ?_, (by first | assumption | omega | (simp [go_sem, F0, h2, h4]; done) | (simp_all <;> omega)), (by (rw [cover_step ha]; simp at h4 ⊢; exact Decidable.or_iff_not_imp_left.2 fun h => h4 (by simpa using h)))⟩) <;> first | omega | (simp [go_sem, seval, F0, h2] <;> omega)
  · try simp [go_sem] at h2
    try simp [go_sem, seval, F0]
    have hc : coverB a b n = true := by rw [← ha, show i = n by omega]; rfl
    exact hQ _ _ (by first | (left; (simp [go_sem, hc]); done) | (right; (simp [go_sem, hc]); done))
theorem factor_Jointly (a b x : Graph) (h k : Part) (hx1 : x.nodes.length ≤ 1000000) (hx2 : x.edges.length ≤ 1000000) : Pure Tryz.prog 62 [a.d, b.d, x.d, h.d, k.d] (.bool (jointB a b x h k)) := by
  refine Tz.pK ⟨fun _ => false, fun _ => []⟩ Tryz.func62 rfl (fun Q hQ => ?_)
  try simp [go_sem, seval]
  repeat (first | intro _ | (refine ⟨obl, ?_⟩))
  refine callQ_pure0 (morphism_Valid a x h) ((by first | rfl | (simp [go_sem, ← List.map_take, ← List.map_drop]; done))) ?_
  try simp [go_sem, seval]
  repeat (first | intro _ | (refine ⟨obl, ?_⟩))
  refine gcallQ_pure0 (fun hg => morphism_Valid b x k) (fun hg => (by first | rfl | (simp [go_sem, ← List.map_take, ← List.map_drop]; done))) ?_
  try simp [go_sem, seval]
  repeat (first | intro _ | (refine ⟨obl, ?_⟩))
  refine condQ_mk (fun h1 => ?_) (fun h1 => ?_)
  · try simp [go_sem] at h1
    try simp [go_sem, seval]
    exact hQ _ _ (by simp [go_sem, h1, jointB] <;> first | omega | (rw [bei]; simp <;> omega) | (simp_all <;> omega))
  · try simp [go_sem] at h1
    try simp [go_sem, seval]
    repeat (first | intro _ | (refine ⟨obl, ?_⟩))
    refine callQ_pure0 (factor_covered x.nodes.length hx1 h.nodes k.nodes) ((by first | rfl | (simp [go_sem, ← List.map_take, ← List.map_drop]; done))) ?_
    try simp [go_sem, seval]
    repeat (first | intro _ | (refine ⟨obl, ?_⟩))
    refine gcallQ_pure0 (fun hg => factor_covered x.edges.length hx2 h.edges k.edges) (fun hg => (by first | rfl | (simp [go_sem, ← List.map_take, ← List.map_drop]; done))) ?_
    try simp [go_sem, seval]
    repeat (first | intro _ | (refine ⟨obl, ?_⟩))
    exact hQ _ _ (by simp [go_sem, h1, jointB] <;> first | omega | (rw [bei]; simp <;> omega) | (simp_all <;> omega))
end Go.Abs
end
section
namespace Go.Abs
section
variable {P : Program} {M0 : Nat → Prop} {H : AHeap} {σ : Nat → Option Ow} {w : World}
theorem Rel.push2 {w' : World} (h : Rel M0 H σ w) (i1 i2 : Nat) (hne : i1 ≠ i2) (hal1 : ¬ H.al i1) (hal2 : ¬ H.al i2) (hos : w'.os = w.os) (htape : w'.tape = w.tape) (hout : w'.output = w.output) (hsize : w.heap.size ≤ w'.heap.size)
    (hold : ∀ b, b < w.heap.size → w'.heap[b]? = w.heap[b]?) (k1 k2 : Blk) (o1 o2 : Ow) (hb1 : ∀ b, o1.block = some b → w.heap.size ≤ b) (hb2 : ∀ b, o2.block = some b → w.heap.size ≤ b) (hdis : ∀ b, o1.block = some b → o2.block ≠ some b)
    (hver1 : o1.ver = k1.es.length) (hty1 : o1.ty = k1.ty) (hsz1 : o1.esz = k1.sz) (hver2 : o2.ver = k2.es.length) (hty2 : o2.ty = k2.ty) (hsz2 : o2.esz = k2.sz)
    (hesz1 : ∀ c ∈ k1.es, c.length = o1.esz) (hesz2 : ∀ c ∈ k2.es, c.length = o2.esz) (xs1 xs2 : List Value) (hrow1 : w'.ownsRow 0 k1.ty o1.esz o1.val k1.es.length xs1) (hrow2 : w'.ownsRow 0 k2.ty o2.esz o2.val k2.es.length xs2)
    (h11 : ∀ u ∈ xs1, u.oneCell' = true) (h12 : ∀ u ∈ xs2, u.oneCell' = true)
    (hrep : let σ' : Nat → Option Ow := fun i => if i = i2 then some o2 else if i = i1 then some o1 else σ i
      let H' := (H.push i1 k1).push i2 k2
      RepL (Mut M0 H' σ') σ' H'.al w' xs1 k1.es.flatten ∧ RepL (Mut M0 H' σ') σ' H'.al w' xs2 k2.es.flatten) :
    let σ' : Nat → Option Ow := fun i => if i = i2 then some o2 else if i = i1 then some o1 else σ i
    let H' := (H.push i1 k1).push i2 k2
    Rel M0 H' σ' w' ∧ Stp σ w σ' w' ∧ Keeps (Mut M0 H σ) σ H.al w (Mut M0 H' σ') σ' H'.al w' := by
  intro σ' H'
  have hn1 : ∀ i o', σ i = some o' → i ≠ i1 := fun i o' hi he => by subst he; rw [(h.top _ hal1).1] at hi; cases hi
  have hn2 : ∀ i o', σ i = some o' → i ≠ i2 := fun i o' hi he => by subst he; rw [(h.top _ hal2).1] at hi; cases hi
  have hσ : ∀ i o', σ i = some o' → σ' i = some o' := fun i o' hi => by simp [σ', hn1 i o' hi, hn2 i o' hi, hi]
  have s1 : σ' i1 = some o1 := by simp [σ', hne]
  have s2 : σ' i2 = some o2 := by simp [σ']
  have so : ∀ i, i ≠ i1 → i ≠ i2 → σ' i = σ i := fun i a b => by simp [σ', a, b]
  have g1 : H'.get i1 = some k1 := by simp [H', AHeap.push, hne]
  have g2 : H'.get i2 = some k2 := by simp [H', AHeap.push]
  have go : ∀ i, i ≠ i1 → i ≠ i2 → H'.get i = H.get i := fun i a b => by simp [H', AHeap.push, a, b]
  have ha : ∀ i, H'.al i ↔ i = i2 ∨ i = i1 ∨ H.al i := fun i => Iff.rfl
  have hmut : ∀ b, b < w.heap.size → ¬ Mut M0 H σ b → ¬ Mut M0 H' σ' b := by
    rintro b hlt hm (hm' | ⟨i, k', o', hk', hf, ho', hb'⟩)
    · exact hm (.inl hm')
    · by_cases e1 : i = i1
      · subst e1; rw [s1] at ho'; cases ho'; have := hb1 b hb'; omega
      · by_cases e2 : i = i2
        · subst e2; rw [s2] at ho'; cases ho'; have := hb2 b hb'; omega
        · rw [so i e1 e2] at ho'; rw [go i e1 e2] at hk'
          exact hm (.inr ⟨i, k', o', hk', hf, ho', hb'⟩)
  have hkeep : Keeps (Mut M0 H σ) σ H.al w (Mut M0 H' σ') σ' H'.al w' := by
    refine ⟨fun ad u hm hu => ?_, fun i o' hi ho' => ?_, fun i hi => (ha i).2 (.inr (.inr hi))⟩
    · have hlt := World.block_lt_of_cell? w ad hu
      exact ⟨hmut _ hlt hm, (World.cell?_of_block (hold ad.block hlt)).trans hu⟩
    · have e1 : i ≠ i1 := fun e => hal1 (e ▸ hi)
      have e2 : i ≠ i2 := fun e => hal2 (e ▸ hi)
      rw [so i e1 e2] at ho'
      exact ⟨o', ho', .inl rfl⟩
  have hg : w.grownBy w' none := ⟨hos, htape, hout, hsize, fun b hb _ => hold b hb⟩
  refine ⟨⟨fun i hi => ?_, fun i hi => ?_, fun i k' hk' => ?_, fun i j oi oj b hi hj hbi hbj => ?_, fun i oi b hi hbi => ?_, fun b hb => Nat.lt_of_lt_of_le (h.m0 b hb) hsize⟩,
    ⟨hos, htape, hout, hsize, fun b hb _ => hold b hb, fun i o' b ho' hb' => ?_⟩, hkeep⟩
  · have e1 : i ≠ i1 := fun e => hi ((ha i).2 (.inr (.inl e)))
    have e2 : i ≠ i2 := fun e => hi ((ha i).2 (.inl e))
    rw [so i e1 e2, go i e1 e2]
    exact h.top i fun e => hi ((ha i).2 (.inr (.inr e)))
  · simp only [H', AHeap.push]
    rcases (ha i).1 hi with rfl | rfl | hi'
    · split <;> split <;> omega
    · split <;> split <;> omega
    · have := h.nxt i hi'
      split <;> split <;> omega
  · by_cases e2 : i = i2
    · subst e2; rw [g2] at hk'; cases hk'
      exact ⟨o2, s2, hver2, hty2, hsz2, hesz2, xs2, hrow2, h12, hrep.2⟩
    · by_cases e1 : i = i1
      · subst e1; rw [g1] at hk'; cases hk'
        exact ⟨o1, s1, hver1, hty1, hsz1, hesz1, xs1, hrow1, h11, hrep.1⟩
      · rw [go i e1 e2] at hk'
        obtain ⟨o', ho', l⟩ := h.lies i k' hk'
        obtain ⟨xs', h1', h2', h3'⟩ := l.row
        exact ⟨o', hσ _ _ ho', l.ver, l.ty, l.sz, l.esz, xs', h1'.kept hg (by cases o'.val.ownBlock <;> simp), h2', h3'.keep hkeep⟩
  · have hcase : ∀ i oi, σ' i = some oi → (i = i1 ∧ oi = o1) ∨ (i = i2 ∧ oi = o2) ∨ σ i = some oi := fun i oi hi => by
      by_cases e2 : i = i2
      · subst e2; rw [s2] at hi; cases hi; exact .inr (.inl ⟨rfl, rfl⟩)
      · by_cases e1 : i = i1
        · subst e1; rw [s1] at hi; cases hi; exact .inl ⟨rfl, rfl⟩
        · rw [so i e1 e2] at hi; exact .inr (.inr hi)
    rcases hcase i oi hi with ⟨a1, a2⟩ | ⟨a1, a2⟩ | a <;> rcases hcase j oj hj with ⟨c1, c2⟩ | ⟨c1, c2⟩ | c
    · rw [a1, c1]
    · subst a2 c2; exact absurd hbj (hdis b hbi)
    · subst a2; have p1 := hb1 b hbi; have p2 := (h.lt j oj b c hbj).1; omega
    · subst a2 c2; exact absurd hbi (hdis b hbj)
    · rw [a1, c1]
    · subst a2; have p1 := hb2 b hbi; have p2 := (h.lt j oj b c hbj).1; omega
    · subst c2; have p1 := hb1 b hbj; have p2 := (h.lt i oi b a hbi).1; omega
    · subst c2; have p1 := hb2 b hbj; have p2 := (h.lt i oi b a hbi).1; omega
    · exact h.inj i j oi oj b a c hbi hbj
  · by_cases e2 : i = i2
    · subst e2; rw [s2] at hi; cases hi
      exact ⟨Ow.block_lt hrow2 hbi, fun hm => by have p1 := hb2 b hbi; have p2 := h.m0 b hm; omega⟩
    · by_cases e1 : i = i1
      · subst e1; rw [s1] at hi; cases hi
        exact ⟨Ow.block_lt hrow1 hbi, fun hm => by have p1 := hb1 b hbi; have p2 := h.m0 b hm; omega⟩
      · rw [so i e1 e2] at hi
        exact ⟨Nat.lt_of_lt_of_le (h.lt i oi b hi hbi).1 hsize, (h.lt i oi b hi hbi).2⟩
  · by_cases e2 : i = i2
    · subst e2; rw [s2] at ho'; cases ho'; exact .inl (hb2 b hb')
    · by_cases e1 : i = i1
      · subst e1; rw [s1] at ho'; cases ho'; exact .inl (hb1 b hb')
      · rw [so i e1 e2] at ho'; exact .inr ⟨o', ho', hb'⟩
structure Made (M : Nat → Prop) (w w' : World) (v : Value) (b : Blk) (xs : List Value) : Prop where
  row : w'.ownsRow w.heap.size b.ty b.sz v b.es.length xs
  one : ∀ u ∈ xs, u.oneCell' = true
  rep : RepL M noRef noId w' xs b.es.flatten
  cl : D.clLL b.es = true
  sz : ∀ c ∈ b.es, c.length = b.sz
theorem made_block {M : Nat → Prop} {w w' : World} {v : Value} {b : Blk} {xs : List Value} (h : Made M w w' v b xs) : ∀ g, v.ownBlock = some g → w.heap.size ≤ g := fun g hg => by
  rcases h.row.2 with hn | ⟨g', cap, cur, h1, h2, h3⟩
  · rw [hn.1] at hg; simp [Value.ownBlock] at hg
  · rw [h1] at hg; simp only [Value.ownBlock, Option.some.injEq] at hg; omega
theorem made_one {M : Nat → Prop} {w w' : World} {v : Value} {b : Blk} {xs : List Value} (h : Made M w w' v b xs) : v.oneCell' = true := by
  rcases h.row.2 with ⟨hn, _⟩ | ⟨g, cap, cur, hn, _⟩ <;> simp [hn, Value.oneCell']
theorem made_row0 {M : Nat → Prop} {w w' : World} {v : Value} {b : Blk} {xs : List Value} (h : Made M w w' v b xs) : w'.ownsRow 0 b.ty b.sz v b.es.length xs :=
  ⟨h.row.1, h.row.2.imp (fun x => x) fun ⟨g, cap, cur, a, b, c⟩ => ⟨g, cap, cur, a, Nat.zero_le _, c⟩⟩
theorem ACalls.ownQ {f : FuncId} {args : List D} {ty : TypeId} {sz : Nat} {es : List (List D)} {Q : D → AHeap → Prop} (hp : Own P f args ty sz es) (hcl : D.clL args = true) (q : Nat) (hq : ¬ H.al q)
    (hQ : Q (.own q es.length) (H.push q ⟨ty, sz, es, false⟩)) : ACalls P f args H Q := by
  refine ⟨hp.1, fun M0 σ w vals hR ha => (hp.2 (Mut M0 H σ) w vals (mut_lt hR) (repL_closed (fun _ h => h) ha hcl)).mono fun e w' ⟨v, xs, he, hrow, h1, hrep, hcll, hsz, hb⟩ => ?_⟩
  have hrow0 : w'.ownsRow 0 ty sz v es.length xs := ⟨hrow.1, hrow.2.imp (fun x => x) fun ⟨g, cap, cur, a, b, c⟩ => ⟨g, cap, cur, a, Nat.zero_le _, c⟩⟩
  have hbk : ∀ b, v.ownBlock = some b → w.heap.size ≤ b := fun b hb' => by
    rcases hrow.2 with hn | ⟨g, cap, cur, h1, h2, h3⟩
    · rw [hn.1] at hb'; simp [Value.ownBlock] at hb'
    · rw [h1] at hb'; simp only [Value.ownBlock, Option.some.injEq] at hb'; omega
  have hG : ∀ ad, ¬ (Mut M0 H σ ad ∨ v.ownBlock = some ad) → ¬ Mut M0 (H.push q ⟨ty, sz, es, false⟩) (fun i => if i = q then some ⟨es.length, v, sz, ty⟩ else σ i) ad := by
    intro ad hm h
    rcases h with h | ⟨i, k', o', hk', hf, ho', hb'⟩
    · exact hm (.inl (.inl h))
    · by_cases hii : i = q
      · simp only [hii, if_true, Option.some.injEq] at ho'
        subst ho'
        exact hm (.inr hb')
      · simp only [hii, if_false] at ho'
        simp only [AHeap.push, hii, if_false] at hk'
        exact hm (.inl (.inr ⟨i, k', o', hk', hf, ho', hb'⟩))
  have hclF : D.clL es.flatten = true := D.clL_of fun d hd => by
    obtain ⟨c, hcm, hxm⟩ := List.mem_flatten.1 hd
    exact D.clL_mem (D.clLL_mem hcll c hcm) d hxm
  obtain ⟨p1, p2, p3⟩ := Rel.pushG hR q hq (w' := w') hb.os hb.tape hb.output hb.size hb.block ⟨ty, sz, es, false⟩ ⟨es.length, v, sz, ty⟩
    hbk rfl rfl rfl hsz xs hrow0 h1 (fun hk => repL_closed hG hrep hclF)
  exact ⟨v, _, _, _, he, p1, .own v _ _ (.inl rfl) (by rcases hrow.2 with ⟨hn, _⟩ | ⟨g, cap, cur, hn, _⟩ <;> simp [hn, Value.oneCell']) (fun o ho => by simp at ho; subst ho; exact .inr ⟨rfl, rfl⟩), p2, p3, hQ⟩
theorem ACalls.bump {f : FuncId} {args : List D} {Q : D → AHeap → Prop} (k : Nat) (h : ACalls P f args ⟨H.next + k, H.al, H.get⟩ Q) : ACalls P f args H Q :=
  ⟨h.1, fun M0 σ w vals hR ha => h.2 M0 σ w vals (hR.bump (m := H.next + k) (by omega)) ha⟩
theorem ACalls.frz {f : FuncId} {args : List D} {Q : D → AHeap → Prop} (h : ACalls P f (args.map (rsvD H)) (frzs (args.flatMap ownIds) H) Q) : ACalls P f args H Q := by
  refine ⟨h.1, fun M0 σ w vals hR ha => ?_⟩
  obtain ⟨f1, f2, f3, f4⟩ := frzs_sound (args.flatMap ownIds) hR
  refine (h.2 M0 σ w vals f1 (repL_rsv hR ha _ fun i h => h)).mono fun e w' ⟨v, d, H', σ', he, h1, hv, hs, hk, hq⟩ => ?_
  exact ⟨v, d, H', σ', he, h1, hv, hs, f2.trans hk, hq⟩
end
section
variable {P : Program} {md : Nat → Bool} {ops : Array Oper} {sp : List (Nat × Nat)} {n0 i : Nat} {rest : List Oper} {acc : List (Nat × List Nat)} {e : Env} {dst : Option Tmp} {K : Env → AHeap → Prop} {f : FuncId} {args args' : List D} {H H' : AHeap}
theorem callQ_frz (ha : args.map (rsvD H) = args') (hz : frzs (args.flatMap ownIds) H = H') (h : callQ P md ops rest e dst K f args' H') : callQ P md ops rest e dst K f args H := by
  subst ha; subst hz; unfold callQ at h ⊢; exact ACalls.frz h
theorem dcallQ_own1 {ty : TypeId} {sz : Nat} {es : List (List D)} (q : Nat) (hp : Own P f args ty sz es) (hcl : D.clL args = true) (hmd : mdd md dst = true) (hq : q < n0) (hal : ¬ H.al q) (hc : chk sp i [q] acc)
    (h : aDraw P md ops sp n0 (i + 1) rest ((i, [q]) :: acc) (upd e dst (.own q es.length)) (H.push q ⟨ty, sz, es, false⟩) K) : dcallQ P md ops sp n0 i rest acc e dst K f args H := by
  unfold dcallQ
  exact Or.inr ⟨hmd, .own q es.length, [], [], [(q, ⟨ty, sz, es, false⟩)], (fun _ h => by cases h), fun p hp => (by
      have : p = (q, ⟨ty, sz, es, false⟩) := by simpa using hp
      subst this; exact ⟨hq, hal⟩),
    fun H' _ hn => ACalls.ownQ hp hcl q (hn (q, ⟨ty, sz, es, false⟩) (by simp)).2 ⟨rfl, rfl⟩, hc, h⟩
end
theorem al_emp (i : Nat) : AHeap.emp.al i ↔ False := Iff.rfl
theorem al_push (H : AHeap) (i j : Nat) (k : Blk) : (H.push i k).al j ↔ j = i ∨ H.al j := Iff.rfl
theorem al_put (H : AHeap) (i j : Nat) (k : Blk) : (H.put i k).al j ↔ H.al j := Iff.rfl
theorem al_mk (n : Nat) (al : Nat → Prop) (g : Nat → Option Blk) (j : Nat) : (AHeap.mk n al g).al j ↔ al j := Iff.rfl
end Go.Abs
end
