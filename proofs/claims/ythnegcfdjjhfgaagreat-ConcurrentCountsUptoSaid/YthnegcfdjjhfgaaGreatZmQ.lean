/- Small functions that make graphs of drafts. · The type graph -/
import Derived.Test.YthnegcfdjjhfgaaGreatZmA
import Derived.Test.YthnegcfdjjhfgaaGreatZmP
import Derived.Test.YthnegcfdjjhfgaaGreatZmN
set_option linter.unusedVariables false
set_option linter.unusedSimpArgs false
section
set_option maxRecDepth 8000
set_option maxHeartbeats 1000000
open Go Go.Proofs
namespace Go.Abs
theorem numL_mem {n : Nat} {x : Int} (h : x ∈ numL n) : 0 ≤ x ∧ x < n := by
  simp only [numL, List.mem_map, List.mem_range] at h
  obtain ⟨k, hk, rfl⟩ := h; omega
theorem ref05_Numbers (n : Nat) (hn : n ≤ 100000) : Own Tryz.prog 188 [dI 0, dI n] 3 1 ((numL n).map cI) := by
  refine Tz.oK ⟨fun t => t == 5, fun _ => []⟩ Tryz.func188 rfl (fun Q hQ => ?_)
  try simp [go_sem, seval]
  obtain ⟨I0, hI0⟩ := mkI fun i e H => ((e 0 = dI 0) ∧ (e 1 = dI n) ∧ (e 5 = .own 0 i) ∧ (e 6 = dI i) ∧ (H.get 0 = some ⟨3, 1, (numL i).map cI, false⟩) ∧ (0 < H.next) ∧ (i ≤ n) ∧ ((numL i).length = i))
  refine loopK I0 (fun i => n - i) (0) ((hI0 _ _ _).2 ⟨?_, ?_, ?_, ?_, (by rfl), ?_, (by first | assumption | omega | (simp [go_sem]; done) | (simp_all; done)), (by (exact numL_len _))⟩) ?_
  iterate 5 (first | omega | (simp [go_sem, seval] <;> omega))
  intro i e H hi0
  obtain ⟨q0_0, q1_0, q5_0, q6_0, g0_0, n0_0, hi, hl⟩ := (hI0 _ _ _).1 hi0
  have x0 := frs n0_0
  have F0 := And.intro q0_0 (And.intro q1_0 (And.intro q5_0 (And.intro q6_0 (And.intro g0_0 x0))))
  try simp [go_sem, seval, F0, hl]
  refine condQ_mk (fun h3 => ?_) (fun h3 => ?_)
  · try simp [go_sem] at h3
    try simp [go_sem, seval, F0, hl, h3]
    repeat (first | intro _ | (refine ⟨obl, ?_⟩))
    refine nextQ_mk (i + 1) (by omega) ((hI0 _ _ _).2 ⟨?_, ?_, ?_, ?_, (by (simp [go_sem, F0, hl, h3, numL_succ])), ?_, (by first | assumption | omega | (simp [go_sem, F0, hl, h3]; done) | (simp_all <;> omega)), (by (exact numL_len _))⟩) <;> first | omega | (simp [go_sem, seval, F0, hl, h3] <;> omega)
  · try simp [go_sem] at h3
    have hie : i = n := by omega
    subst hie
    try simp [go_sem, seval, F0, hl]
    exact hQ _ _ _ (by simp [go_sem, F0, hl, numL_len]) (by simp [go_sem, F0, hl, numL_len])
def abstB (t : Types) (i : Nat) : Bool := match t.nodes[i]? with | some n => n.abs | none => false
def concL (t : Types) : List Int := ((List.range t.nodes.length).filter fun i => !abstB t i).map fun (i : Nat) => (i : Int)
theorem concL_mem {t : Types} {x : Int} (h : x ∈ concL t) : 0 ≤ x ∧ x < t.nodes.length := by
  simp only [concL, List.mem_map, List.mem_filter, List.mem_range] at h
  obtain ⟨k, ⟨hk, _⟩, rfl⟩ := h; omega
theorem ref24_concrete (t : Types) (hn : t.nodes.length ≤ 100000) : Pure Tryz.prog 187 [t.d] (dLI (concL t)) := by
  refine Tz.pK ⟨fun t => t == 3, fun _ => []⟩ Tryz.func187 rfl (fun Q hQ => ?_)
  try simp [go_sem, seval]
  obtain ⟨I0, hI0⟩ := mkI fun i e H => (∃ ys : List Int, (e 1 = .adr t.c) ∧ (e 3 = .own 0 ys.length) ∧ (e 4 = dI i) ∧ (H.get 0 = some ⟨3, 1, ys.map cI, false⟩) ∧ (0 < H.next) ∧ (i ≤ t.nodes.length) ∧ (ys.length ≤ i) ∧ (ys = ((List.range i).filter fun i => !abstB t i).map (fun (b : Nat) => (b : Int))))
  refine loopK I0 (fun i => t.nodes.length - i) (0) ((hI0 _ _ _).2 ⟨([]), ?_, ?_, ?_, ?_, ?_, (by first | assumption | omega | (simp [go_sem]; done) | (simp_all; done)), (by simp), (by rfl)⟩) ?_
  iterate 5 (first | omega | (simp [go_sem, seval] <;> omega))
  intro i e H hi0
  obtain ⟨ys, q1_0, q3_0, q4_0, g0_0, n0_0, hi, hyl, hy⟩ := (hI0 _ _ _).1 hi0
  have x0 := frs n0_0
  have F0 := And.intro q1_0 (And.intro q3_0 (And.intro q4_0 (And.intro g0_0 x0)))
  try simp [go_sem, seval, F0]
  repeat (first | intro _ | (refine ⟨obl, ?_⟩))
  refine condQ_mk (fun h3 => ?_) (fun h3 => ?_)
  · try simp [go_sem] at h3
    have hab : abstB t i = t.nodes[i].abs := by simp [abstB, lge h3]
    try simp [go_sem, seval, F0, h3, lge h3, hab]
    repeat (first | intro _ | (refine ⟨obl, ?_⟩))
    refine condQ_mk (fun h5 => ?_) (fun h5 => ?_)
    ·try simp [go_sem] at h5
     try simp [go_sem, seval, F0, h3, lge h3, hab, h5]
     repeat (first | intro _ | (refine ⟨obl, ?_⟩))
     refine nextQ_mk (i + 1) (by omega) ((hI0 _ _ _).2 ⟨(ys ++ (if (!abstB t i) = true then [(i : Int)] else [])), ?_, ?_, ?_, ?_, ?_, (by first | assumption | omega | (simp [go_sem, F0, h3, lge h3, hab, h5]; done) | (simp_all <;> omega)), (by (rw [List.length_append]; split <;> simp <;> omega)), (by (rw [range_filter_succ, ← hy]))⟩) <;> first | omega | (simp [go_sem, seval, F0, h3, lge h3, hab, h5] <;> omega)
    ·try simp [go_sem] at h5
     try simp [go_sem, seval, F0, h3, lge h3, hab, h5]
     repeat (first | intro _ | (refine ⟨obl, ?_⟩))
     refine nextQ_mk (i + 1) (by omega) ((hI0 _ _ _).2 ⟨(ys ++ (if (!abstB t i) = true then [(i : Int)] else [])), ?_, ?_, ?_, ?_, ?_, (by first | assumption | omega | (simp [go_sem, F0, h3, lge h3, hab, h5]; done) | (simp_all <;> omega)), (by (rw [List.length_append]; split <;> simp <;> omega)), (by (rw [range_filter_succ, ← hy]))⟩) <;> first | omega | (simp [go_sem, seval, F0, h3, lge h3, hab, h5] <;> omega)
  · try simp [go_sem] at h3
    have hY : concL t = ys := by rw [hy, show i = t.nodes.length by omega]; rfl
    try simp [go_sem, seval, F0]
    exact hQ _ _ (by first | (left; (simp [go_sem, F0, hY]); done) | (right; (simp [go_sem, F0, hY]); done))
theorem ref15_concrete (t : Types) (hn : t.nodes.length ≤ 100000) : Pure Tryz.prog 108 [t.d] (dLI (concL t)) := by
  refine Tz.pK ⟨fun t => t == 3, fun _ => []⟩ Tryz.func108 rfl (fun Q hQ => ?_)
  try simp [go_sem, seval]
  obtain ⟨I0, hI0⟩ := mkI fun i e H => (∃ ys : List Int, (e 1 = .adr t.c) ∧ (e 3 = .own 0 ys.length) ∧ (e 4 = dI i) ∧ (H.get 0 = some ⟨3, 1, ys.map cI, false⟩) ∧ (0 < H.next) ∧ (i ≤ t.nodes.length) ∧ (ys.length ≤ i) ∧ (ys = ((List.range i).filter fun i => !abstB t i).map (fun (b : Nat) => (b : Int))))
  refine loopK I0 (fun i => t.nodes.length - i) (0) ((hI0 _ _ _).2 ⟨([]), ?_, ?_, ?_, ?_, ?_, (by first | assumption | omega | (simp [go_sem]; done) | (simp_all; done)), (by simp), (by rfl)⟩) ?_
  iterate 5 (first | omega | (simp [go_sem, seval] <;> omega))
  intro i e H hi0
  obtain ⟨ys, q1_0, q3_0, q4_0, g0_0, n0_0, hi, hyl, hy⟩ := (hI0 _ _ _).1 hi0
  have x0 := frs n0_0
  have F0 := And.intro q1_0 (And.intro q3_0 (And.intro q4_0 (And.intro g0_0 x0)))
  try simp [go_sem, seval, F0]
  repeat (first | intro _ | (refine ⟨obl, ?_⟩))
  refine condQ_mk (fun h3 => ?_) (fun h3 => ?_)
  · try simp [go_sem] at h3
    have hab : abstB t i = t.nodes[i].abs := by simp [abstB, lge h3]
    try simp [go_sem, seval, F0, h3, lge h3, hab]
    repeat (first | intro _ | (refine ⟨obl, ?_⟩))
    refine condQ_mk (fun h5 => ?_) (fun h5 => ?_)
    ·try simp [go_sem] at h5
     try simp [go_sem, seval, F0, h3, lge h3, hab, h5]
     repeat (first | intro _ | (refine ⟨obl, ?_⟩))
     refine nextQ_mk (i + 1) (by omega) ((hI0 _ _ _).2 ⟨(ys ++ (if (!abstB t i) = true then [(i : Int)] else [])), ?_, ?_, ?_, ?_, ?_, (by first | assumption | omega | (simp [go_sem, F0, h3, lge h3, hab, h5]; done) | (simp_all <;> omega)), (by (rw [List.length_append]; split <;> simp <;> omega)), (by (rw [range_filter_succ, ← hy]))⟩) <;> first | omega | (simp [go_sem, seval, F0, h3, lge h3, hab, h5] <;> omega)
    ·try simp [go_sem] at h5
     try simp [go_sem, seval, F0, h3, lge h3, hab, h5]
     repeat (first | intro _ | (refine ⟨obl, ?_⟩))
     refine nextQ_mk (i + 1) (by omega) ((hI0 _ _ _).2 ⟨(ys ++ (if (!abstB t i) = true then [(i : Int)] else [])), ?_, ?_, ?_, ?_, ?_, (by first | assumption | omega | (simp [go_sem, F0, h3, lge h3, hab, h5]; done) | (simp_all <;> omega)), (by (rw [List.length_append]; split <;> simp <;> omega)), (by (rw [range_filter_succ, ← hy]))⟩) <;> first | omega | (simp [go_sem, seval, F0, h3, lge h3, hab, h5] <;> omega)
  · try simp [go_sem] at h3
    have hY : concL t = ys := by rw [hy, show i = t.nodes.length by omega]; rfl
    try simp [go_sem, seval, F0]
    exact hQ _ _ (by first | (left; (simp [go_sem, F0, hY]); done) | (right; (simp [go_sem, F0, hY]); done))
def markL (b : List Bool) : List Int := (restI b).map fun (i : Nat) => (i : Int)
theorem ref07_marked (b : List Bool) (hn : b.length ≤ 100000) : Pure Tryz.prog 251 [.list (b.map cB)] (dLI (markL b)) := by
  refine Tz.pK ⟨fun t => t == 3, fun _ => []⟩ Tryz.func251 rfl (fun Q hQ => ?_)
  try simp [go_sem, seval]
  obtain ⟨I0, hI0⟩ := mkI fun i e H => (∃ ys : List Int, (e 0 = .list (b.map cB)) ∧ (e 3 = .own 0 ys.length) ∧ (e 4 = dI i) ∧ (H.get 0 = some ⟨3, 1, ys.map cI, false⟩) ∧ (0 < H.next) ∧ (i ≤ b.length) ∧ (ys.length ≤ i) ∧ (ys = ((List.range i).filter fun i => b[i]?.getD false).map (fun (b : Nat) => (b : Int))))
  refine loopK I0 (fun i => b.length - i) (0) ((hI0 _ _ _).2 ⟨([]), ?_, ?_, ?_, ?_, ?_, (by first | assumption | omega | (simp [go_sem]; done) | (simp_all; done)), (by simp), (by rfl)⟩) ?_
  iterate 5 (first | omega | (simp [go_sem, seval] <;> omega))
  intro i e H hi0
  obtain ⟨ys, q0_0, q3_0, q4_0, g0_0, n0_0, hi, hyl, hy⟩ := (hI0 _ _ _).1 hi0
  have x0 := frs n0_0
  have F0 := And.intro q0_0 (And.intro q3_0 (And.intro q4_0 (And.intro g0_0 x0)))
  try simp [go_sem, seval, F0]
  repeat (first | intro _ | (refine ⟨obl, ?_⟩))
  refine condQ_mk (fun h3 => ?_) (fun h3 => ?_)
  · try simp [go_sem] at h3
    have hgd : b[i]?.getD false = b[i] := by rw [lge h3]; rfl
    try simp [go_sem, seval, F0, h3, lge h3, hgd]
    repeat (first | intro _ | (refine ⟨obl, ?_⟩))
    refine condQ_mk (fun h5 => ?_) (fun h5 => ?_)
    ·try simp [go_sem] at h5
     try simp [go_sem, seval, F0, h3, lge h3, hgd, h5]
     repeat (first | intro _ | (refine ⟨obl, ?_⟩))
     refine nextQ_mk (i + 1) (by omega) ((hI0 _ _ _).2 ⟨(ys ++ (if b[i]?.getD false = true then [(i : Int)] else [])), ?_, ?_, ?_, ?_, ?_, (by first | assumption | omega | (simp [go_sem, F0, h3, lge h3, hgd, h5]; done) | (simp_all <;> omega)), (by (rw [List.length_append]; split <;> simp <;> omega)), (by (rw [range_filter_succ, ← hy]))⟩) <;> first | omega | (simp [go_sem, seval, F0, h3, lge h3, hgd, h5] <;> omega)
    ·try simp [go_sem] at h5
     try simp [go_sem, seval, F0, h3, lge h3, hgd, h5]
     repeat (first | intro _ | (refine ⟨obl, ?_⟩))
     refine nextQ_mk (i + 1) (by omega) ((hI0 _ _ _).2 ⟨(ys ++ (if b[i]?.getD false = true then [(i : Int)] else [])), ?_, ?_, ?_, ?_, ?_, (by first | assumption | omega | (simp [go_sem, F0, h3, lge h3, hgd, h5]; done) | (simp_all <;> omega)), (by (rw [List.length_append]; split <;> simp <;> omega)), (by (rw [range_filter_succ, ← hy]))⟩) <;> first | omega | (simp [go_sem, seval, F0, h3, lge h3, hgd, h5] <;> omega)
  · try simp [go_sem] at h3
    have hY : markL b = ys := by rw [hy, show i = b.length by omega]; rfl
    try simp [go_sem, seval, F0]
    exact hQ _ _ (by first | (left; (simp [go_sem, F0, hY]); done) | (right; (simp [go_sem, F0, hY]); done))
theorem ref05_CopiedP (g : Graph) (hn : g.nodes.length ≤ 100000) (he : g.edges.length ≤ 100000) : Pure Tryz.prog 186 [g.d] g.d := by
  refine Tz.pK ⟨fun t => t == 2 || t == 3 || t == 7, fun r => match r with | 1 => [(0, 1), (0, 2), (0, 4), (1, 4), (2, 4), (3, 4), (0, 5), (3, 5), (4, 5), (0, 6), (3, 6), (4, 6)] | _ => []⟩ Tryz.func186 rfl (fun Q hQ => ?_)
  try simp [go_sem, seval]
  repeat (first | intro _ | (refine ⟨obl, ?_⟩))
  exact hQ _ _ (by simp [go_sem] <;> first | omega | (rw [bei]; simp <;> omega) | (simp_all <;> omega))
theorem ref05_permutation (l : List Int) (hb : ∀ x ∈ l, 0 ≤ x ∧ x < l.length) (hd : ∀ a b, a < b → b < l.length → l[a]? ≠ l[b]?) : Pure Tryz.prog 189 [dLI l] (dI 0) := by
  refine Tz.pK ⟨fun _ => false, fun _ => []⟩ Tryz.func189 rfl (fun Q hQ => ?_)
  try simp [go_sem, seval]
  obtain ⟨I0, hI0⟩ := mkI fun i e H => ((e 0 = dLI l) ∧ (e 3 = dI i) ∧ (i ≤ l.length))
  refine loopK I0 (fun i => l.length - i) (0) ((hI0 _ _ _).2 ⟨?_, ?_, (by first | assumption | omega | (simp [go_sem]; done) | (simp_all; done))⟩) ?_
  iterate 2 (first | omega | (simp [go_sem, seval] <;> omega))
  intro i e H hi0
  obtain ⟨q0_0, q3_0, hi⟩ := (hI0 _ _ _).1 hi0
  have F0 := And.intro q0_0 q3_0
  try simp [go_sem, seval, F0]
  repeat (first | intro _ | (refine ⟨obl, ?_⟩))
  refine condQ_mk (fun h2 => ?_) (fun h2 => ?_)
  · try simp [go_sem] at h2
    have hx := hb _ (lgm h2)
    try simp [go_sem, seval, F0, h2, lge h2]
    repeat (first | intro _ | (refine ⟨obl, ?_⟩))
    refine condQ_mk (fun h4 => ?_) (fun h4 => ?_)
    ·simp [lge h2] at h4; omega
    ·try simp [go_sem] at h4
     try simp [go_sem, seval, F0, h2, lge h2]
     repeat (first | intro _ | (refine ⟨obl, ?_⟩))
     refine nextQ_mk (i + 1) (by omega) ((hI0 _ _ _).2 ⟨?_, ?_, (by first | assumption | omega | (simp [go_sem, F0, h2, lge h2, h4]; done) | (simp_all <;> omega))⟩) <;> first | omega | (simp [go_sem, seval, F0, h2, lge h2] <;> omega)
  · try simp [go_sem] at h2
    try simp [go_sem, seval, F0]
    obtain ⟨I2, hI2⟩ := mkI fun k e H => ((e 0 = dLI l) ∧ (e 4 = dI k) ∧ (k ≤ l.length))
    refine loopK I2 (fun k => l.length - k) (0) ((hI2 _ _ _).2 ⟨?_, ?_, (by first | assumption | omega | (simp [go_sem, F0]; done) | (simp_all; done))⟩) ?_
    iterate 2 (first | omega | (simp [go_sem, seval, F0] <;> omega))
    intro k e H hi2
    obtain ⟨q0_2, q4_2, hk⟩ := (hI2 _ _ _).1 hi2
    have F2 := And.intro q0_2 q4_2
    try simp [go_sem, seval, F2]
    repeat (first | intro _ | (refine ⟨obl, ?_⟩))
    refine condQ_mk (fun h7 => ?_) (fun h7 => ?_)
    ·try simp [go_sem] at h7
     try simp [go_sem, seval, F2, h7, lge h7, h7]
     obtain ⟨I4, hI4⟩ := mkI fun m e H => ((e 0 = dLI l) ∧ (e 4 = dI k) ∧ (e 5 = dI m) ∧ (m ≤ k))
     refine loopK I4 (fun m => k - m) (0) ((hI4 _ _ _).2 ⟨?_, ?_, ?_, (by first | assumption | omega | (simp [go_sem, F2, h7, lge h7, h7]; done) | (simp_all; done))⟩) ?_
     iterate 3 (first | omega | (simp [go_sem, seval, F2, h7, lge h7, h7] <;> omega))
     intro m e H hi4
     obtain ⟨q0_4, q4_4, q5_4, hm⟩ := (hI4 _ _ _).1 hi4
     have F4 := And.intro q0_4 (And.intro q4_4 q5_4)
     try simp [go_sem, seval, h7, lge h7, h7, F4]
     refine condQ_mk (fun h10 => ?_) (fun h10 => ?_)
     ·try simp [go_sem] at h10
      have hml : m < l.length := by omega
      try simp [go_sem, seval, h7, lge h7, h7, F4, h10, lge hml, hml]
      repeat (first | intro _ | (refine ⟨obl, ?_⟩))
      refine condQ_mk (fun h12 => ?_) (fun h12 => ?_)
      ·exact absurd (show l[k] = l[m] by simpa [lge h7, lge hml] using h12) (fun he => hd m k h10 h7 (by rw [lge hml, lge h7, he]))
      ·try simp [go_sem] at h12
       try simp [go_sem, seval, h7, lge h7, h7, F4, h10, lge hml, hml]
       repeat (first | intro _ | (refine ⟨obl, ?_⟩))
       refine nextQ_mk (m + 1) (by omega) ((hI4 _ _ _).2 ⟨?_, ?_, ?_, (by first | assumption | omega | (simp [go_sem, h7, lge h7, h7, F4, h10, lge hml, hml, h2, h12]; done) | (simp_all <;> omega))⟩) <;> first | omega | (simp [go_sem, seval, h7, lge h7, h7, F4, h10, lge hml, hml] <;> omega)
     ·try simp [go_sem] at h10
      try simp [go_sem, seval, h7, lge h7, h7, F4]
      repeat (first | intro _ | (refine ⟨obl, ?_⟩))
      refine nextQ_mk (k + 1) (by omega) ((hI2 _ _ _).2 ⟨?_, ?_, (by first | assumption | omega | (simp [go_sem, h7, lge h7, h7, F4, h2, h10]; done) | (simp_all <;> omega))⟩) <;> first | omega | (simp [go_sem, seval, h7, lge h7, h7, F4] <;> omega)
    ·try simp [go_sem] at h7
     try simp [go_sem, seval, F2]
     exact hQ _ _ (by simp [go_sem, F2, h2, h7] <;> first | omega | (rw [bei]; simp <;> omega) | (simp_all <;> omega))
def swpL (xs : List Int) (i j : Nat) : List Int := (xs.set i (xs[j]?.getD 0)).set j (xs[i]?.getD 0)
theorem swpL_len (xs : List Int) (i j : Nat) : (swpL xs i j).length = xs.length := by simp [swpL]
end Go.Abs
end
section
set_option maxRecDepth 8000
set_option maxHeartbeats 2000000
open Go Go.Proofs
namespace Go.Abs
abbrev B2 := UInt8 × UInt8
def cP (x : B2) : List D := [.int .u8 (x.1.toNat : Int), .int .u8 (x.2.toNat : Int)]
theorem u8_lt (x : UInt8) : (x.toNat : Int) < 256 := by have := x.toNat_lt; omega
@[go_sem] theorem cPs_cl (l : List B2) : D.clLL (l.map cP) = true := clLL_map _ (fun _ => rfl) l
def tyA : ByteArray := ⟨#[65, 66, 67, 68, 69, 70]⟩
def tyU : ByteArray := ⟨#[117, 118, 119, 120, 121, 122]⟩
def tyE : ByteArray := ⟨#[101, 102, 103, 104, 105]⟩
def madeN (i : Nat) (x : B2) : NodeTy :=
  ⟨tyA.extract i (i + 1), (x.1.toNat : Int).tmod ((i : Int) + 1) - 1, ((x.1.toNat : Int) / 16).tmod 4 == 3,
    if (x.2.toNat : Int).tmod 4 = 1 then [⟨tyU.extract i (i + 1), -3, 3 + ((x.2.toNat : Int) / 4).tmod 9, []⟩]
    else if (x.2.toNat : Int).tmod 4 = 2 then [⟨tyU.extract i (i + 1), 0, 1, [⟨#[111, 102, 102]⟩, ⟨#[111, 110]⟩]⟩] else []⟩
def madeR (i : Nat) (x : B2) : List D :=
  [.str (tyA.extract i (i + 1)), dI ((x.1.toNat : Int).tmod ((i : Int) + 1) - 1), .bool (((x.1.toNat : Int) / 16).tmod 4 == 3),
    if (x.2.toNat : Int).tmod 4 = 1 then .list [[.str (tyU.extract i (i + 1)), dI (-3), dI (3 + ((x.2.toNat : Int) / 4).tmod 9), .nil]]
    else if (x.2.toNat : Int).tmod 4 = 2 then .list [[.str (tyU.extract i (i + 1)), dI 0, dI 1, .list [[.str ⟨#[111, 102, 102]⟩], [.str ⟨#[111, 110]⟩]]]] else .nil]
theorem madeR_nz (i : Nat) (x : B2) : nzAs (madeR i x) = (madeN i x).c := by
  unfold madeR madeN NodeTy.c
  by_cases h1 : (x.2.toNat : Int).tmod 4 = 1
  · simp [h1, nzA, nzAs, nzAss, Attr.c, dI, dLS, cS]
  · by_cases h2 : (x.2.toNat : Int).tmod 4 = 2
    ·simp [h2, nzA, nzAs, nzAss, Attr.c, dI, dLS, cS]
    ·simp [h1, h2, nzA, nzAs, nzAss, Attr.c, dI, dLS, cS]
def nth2 (ns : List B2) (i : Nat) : B2 := ns[i]?.getD (0, 0)
def madeNs (ns : List B2) (n : Nat) : List NodeTy := (List.range n).map fun i => madeN i (nth2 ns i)
def madeE (n : Int) (i : Nat) (x : B2) : EdgeTy := ⟨tyE.extract i (i + 1), (x.1.toNat : Int).tmod n, (x.2.toNat : Int).tmod n, 0, -1, 0, -1⟩
def madeEs (n : Int) (es : List B2) (k : Nat) : List EdgeTy := (List.range k).map fun i => madeE n i (nth2 es i)
def madeK (ns : List B2) : Nat := max 1 (min ns.length 6)
def madeT (ns es : List B2) : Types := ⟨madeNs ns (madeK ns), madeEs (madeK ns) es (min es.length 5)⟩
def madeRs (ns : List B2) (n : Nat) : List (List D) := (List.range n).map fun i => madeR i (nth2 ns i)
theorem madeRs_succ (ns : List B2) (i : Nat) : madeRs ns (i + 1) = madeRs ns i ++ [madeR i (nth2 ns i)] := by simp [madeRs, List.range_succ]
theorem madeRs_len (ns : List B2) (i : Nat) : (madeRs ns i).length = i := by simp [madeRs]
theorem madeRs_nz (ns : List B2) (i : Nat) : nzAss (madeRs ns i) = (madeNs ns i).map NodeTy.c := by
  rw [nzAss_map]; simp only [madeRs, madeNs, List.map_map]
  exact List.map_congr_left fun j _ => madeR_nz j _
theorem madeNs_len (ns : List B2) (i : Nat) : (madeNs ns i).length = i := by simp [madeNs]
theorem madeEs_succ (n : Int) (es : List B2) (i : Nat) : madeEs n es (i + 1) = madeEs n es i ++ [madeE n i (nth2 es i)] := by simp [madeEs, List.range_succ]
theorem madeEs_len (n : Int) (es : List B2) (i : Nat) : (madeEs n es i).length = i := by simp [madeEs]
theorem tmod_in {a n : Int} (h : 0 ≤ a) (hn : 0 < n) : 0 ≤ a.tmod n ∧ a.tmod n < n := ⟨Int.tmod_nonneg _ h, Int.tmod_lt_of_pos _ hn⟩
theorem tdiv_in {a n : Int} (h : 0 ≤ a) (hn : 0 < n) : 0 ≤ a.tdiv n ∧ a.tdiv n ≤ a := ⟨Int.tdiv_nonneg h (by omega), by rw [Int.tdiv_eq_ediv_of_nonneg h]; exact Int.ediv_le_self _ h⟩
theorem inR_u8 {n : Int} (h1 : 0 ≤ n) (h2 : n ≤ 255) : InR .u8 n := by
  unfold InR; simp [IntKind.min, IntKind.max, IntKind.signed, IntKind.bits]; omega
theorem ref04_Made (ns es : List B2) : Pure Tryz.prog 48 [.list (ns.map cP), .list (es.map cP)] (madeT ns es).d := by
  refine pureKA (by first | rfl | (simp [go_sem]; done)) (fun Q hQ => (acalls_of_body (cfg := ⟨fun t => t == 4 || t == 5 || t == 7 || t == 8, fun r => match r with | 8 => [(3, 17), (4, 17), (5, 17), (11, 17), (12, 17)] | 20 => [(0, 23), (1, 23)] | _ => []⟩) Tz.mixed Tryz.func48 rfl rfl (nlb rfl) (by kernel_rfl) ?_))
  try simp [go_sem, seval]
  obtain ⟨I0, hI0⟩ := mkI fun i e H => ((e 0 = .list (ns.map cP)) ∧ (e 1 = .list (es.map cP)) ∧ (e 4 = .ptr 0 1 0 0) ∧ (e 5 = .ptr 1 1 0 0) ∧ (e 6 = dI i) ∧ (H.get 0 = some ⟨25, 2, [[.nil, .nil]], false⟩) ∧ (0 < H.next) ∧ (H.get 1 = some ⟨25, 2, [[.own 2 i, .nil]], false⟩) ∧ (1 < H.next) ∧ (H.get 2 = some ⟨131, 4, madeRs ns i, false⟩) ∧ (2 < H.next) ∧ (i ≤ 6) ∧ (i ≤ 1 ∨ i ≤ ns.length) ∧ ((madeRs ns i).length = i))
  refine loopKG (Ghosts.step (Ghosts.refl _) 1 0 0 131 4 _ _ (rfl) rfl rfl rfl) I0 (fun i => 6 - i) (0) ((hI0 _ _ _).2 ⟨?_, ?_, ?_, ?_, ?_, ?_, ?_, ?_, ?_, (by rfl), ?_, (by first | assumption | omega | (simp [go_sem]; done) | (simp_all; done)), (by omega), (by (exact madeRs_len _ _))⟩) ?_
  iterate 10 (first | omega | (simp [go_sem, seval] <;> omega))
  intro i e H hi0
  obtain ⟨q0_0, q1_0, q4_0, q5_0, q6_0, g0_0, n0_0, g1_0, n1_0, g2_0, n2_0, hi, hi2, hl⟩ := (hI0 _ _ _).1 hi0
  have x0 := frs n0_0
  have x1 := frs n1_0
  have x2 := frs n2_0
  have F0 := And.intro q0_0 (And.intro q1_0 (And.intro q4_0 (And.intro q5_0 (And.intro q6_0 (And.intro g0_0 (And.intro g1_0 (And.intro g2_0 (And.intro x0 (And.intro x1 x2)))))))))
  try simp [go_sem, seval, F0, hl]
  repeat first | intro _ | refine ⟨obs, ?_⟩
  refine condQ_mk (fun h3 => ?_) (fun h3 => ?_)
  · try simp [go_sem] at h3
    obtain ⟨x, hx⟩ : ∃ x, nth2 ns i = x := ⟨_, rfl⟩
    have hx1 := u8_lt x.1
    have hx2 := u8_lt x.2
    have hi5 : i < 6 := by omega
    have hm1 := tmod_in (show 0 ≤ (x.1.toNat : Int) by omega) (show 0 < (i : Int) + 1 by omega)
    have hm2 := tmod_in (show 0 ≤ (x.2.toNat : Int) / 4 by omega) (show (0 : Int) < 9 by omega)
    have hu1 := inR_u8 (show 0 ≤ (x.1.toNat : Int) / 16 by omega) (by omega)
    have hu2 := inR_u8 (show 0 ≤ (x.2.toNat : Int) / 4 by omega) (by omega)
    have hsz : (⟨#[65, 66, 67, 68, 69, 70]⟩ : ByteArray).size = 6 := rfl
    have hsz2 : (⟨#[117, 118, 119, 120, 121, 122]⟩ : ByteArray).size = 6 := rfl
    have nx := nxs H.next
    try simp [go_sem, seval, F0, hl, h3, hsz, hsz2, nx]
    repeat first | intro _ | refine ⟨obs, ?_⟩
    refine condQ_mk (fun h6 => ?_) (fun h6 => ?_)
    ·try simp [go_sem] at h6
     have hx0 : ns[i] = x := by rw [← hx]; simp [nth2, lge h6]
     try simp [go_sem, seval, F0, hl, h3, hsz, hsz2, nx, lge h6, hx0, cP]
     repeat first | intro _ | refine ⟨obs, ?_⟩
     refine condQ_mk (fun h11 => ?_) (fun h11 => ?_)
     ·try simp [go_sem] at h11
      have hmn : madeR i (nth2 ns i) = [.str (tyA.extract i (i + 1)), dI ((x.1.toNat : Int).tmod ((i : Int) + 1) - 1), .bool (((x.1.toNat : Int) / 16).tmod 4 == 3), .list [[.str (tyU.extract i (i + 1)), dI (-3), dI (3 + ((x.2.toNat : Int) / 4).tmod 9), .nil]]] := by rw [hx]; simp [madeR, h11]
      try simp [go_sem, seval, F0, hl, h3, hsz, hsz2, nx, lge h6, hx0, cP]
      repeat first | intro _ | refine ⟨obs, ?_⟩
      refine nextQ_mk (i + 1) (by omega) ((hI0 _ _ _).2 ⟨?_, ?_, ?_, ?_, ?_, ?_, ?_, ?_, ?_, (by (simp [go_sem, F0, hl, h3, hsz, hsz2, nx, lge h6, hx0, cP, madeRs_succ, hmn, tyA, tyU, NodeTy.c, Attr.c, dLS, cS, dI])), ?_, (by first | assumption | omega | (simp [go_sem, F0, hl, h3, hsz, hsz2, nx, lge h6, hx0, cP, h6, h11]; done) | (simp_all <;> omega)), (by omega), (by (exact madeRs_len _ _))⟩) <;> first | omega | (simp [go_sem, seval, F0, hl, h3, hsz, hsz2, nx, lge h6, hx0, cP] <;> omega)
     ·try simp [go_sem] at h11
      try simp [go_sem, seval, F0, hl, h3, hsz, hsz2, nx, lge h6, hx0, cP]
      refine condQ_mk (fun h13 => ?_) (fun h13 => ?_)
      ·try simp [go_sem] at h13
       have hmn : madeR i (nth2 ns i) = [.str (tyA.extract i (i + 1)), dI ((x.1.toNat : Int).tmod ((i : Int) + 1) - 1), .bool (((x.1.toNat : Int) / 16).tmod 4 == 3), .list [[.str (tyU.extract i (i + 1)), dI 0, dI 1, .list [[.str ⟨#[111, 102, 102]⟩], [.str ⟨#[111, 110]⟩]]]]] := by rw [hx]; simp [madeR, h13]
       try simp [go_sem, seval, F0, hl, h3, hsz, hsz2, nx, lge h6, hx0, cP]
       repeat first | intro _ | refine ⟨obs, ?_⟩
       refine nextQ_mk (i + 1) (by omega) ((hI0 _ _ _).2 ⟨?_, ?_, ?_, ?_, ?_, ?_, ?_, ?_, ?_, (by (simp [go_sem, F0, hl, h3, hsz, hsz2, nx, lge h6, hx0, cP, madeRs_succ, hmn, tyA, tyU, NodeTy.c, Attr.c, dLS, cS, dI])), ?_, (by first | assumption | omega | (simp [go_sem, F0, hl, h3, hsz, hsz2, nx, lge h6, hx0, cP, h6, h11, h13]; done) | (simp_all <;> omega)), (by omega), (by (exact madeRs_len _ _))⟩) <;> first | omega | (simp [go_sem, seval, F0, hl, h3, hsz, hsz2, nx, lge h6, hx0, cP] <;> omega)
      ·try simp [go_sem] at h13
       have hmn : madeR i (nth2 ns i) = [.str (tyA.extract i (i + 1)), dI ((x.1.toNat : Int).tmod ((i : Int) + 1) - 1), .bool (((x.1.toNat : Int) / 16).tmod 4 == 3), .nil] := by rw [hx]; simp [madeR, h11, h13]
       try simp [go_sem, seval, F0, hl, h3, hsz, hsz2, nx, lge h6, hx0, cP]
       repeat first | intro _ | refine ⟨obs, ?_⟩
       refine nextQ_mk (i + 1) (by omega) ((hI0 _ _ _).2 ⟨?_, ?_, ?_, ?_, ?_, ?_, ?_, ?_, ?_, (by (simp [go_sem, F0, hl, h3, hsz, hsz2, nx, lge h6, hx0, cP, madeRs_succ, hmn, tyA, tyU, NodeTy.c, Attr.c, dLS, cS, dI])), ?_, (by first | assumption | omega | (simp [go_sem, F0, hl, h3, hsz, hsz2, nx, lge h6, hx0, cP, h6, h11, h13]; done) | (simp_all <;> omega)), (by omega), (by (exact madeRs_len _ _))⟩) <;> first | omega | (simp [go_sem, seval, F0, hl, h3, hsz, hsz2, nx, lge h6, hx0, cP] <;> omega)
    ·try simp [go_sem] at h6
     have hx0 : x = (0, 0) := by rw [← hx]; simp [nth2, List.getElem?_eq_none h6]
     subst hx0
     have hmn : madeR i (nth2 ns i) = [.str (tyA.extract i (i + 1)), dI (-1), .bool false, .nil] := by rw [hx]; simp [madeR]
     try simp [go_sem, seval, F0, hl, h3, hsz, hsz2, nx]
     repeat first | intro _ | refine ⟨obs, ?_⟩
     refine nextQ_mk (i + 1) (by omega) ((hI0 _ _ _).2 ⟨?_, ?_, ?_, ?_, ?_, ?_, ?_, ?_, ?_, (by (simp [go_sem, F0, hl, h3, hsz, hsz2, nx, madeRs_succ, hmn, tyA, tyU, NodeTy.c, Attr.c, dLS, cS, dI])), ?_, (by first | assumption | omega | (simp [go_sem, F0, hl, h3, hsz, hsz2, nx, h6]; done) | (simp_all <;> omega)), (by omega), (by (exact madeRs_len _ _))⟩) <;> first | omega | (simp [go_sem, seval, F0, hl, h3, hsz, hsz2, nx] <;> omega)
  · try simp [go_sem] at h3
    have hN : i = madeK ns := by unfold madeK; omega
    try simp [go_sem, seval, F0, hl]
    obtain ⟨I3, hI3⟩ := mkI fun k e H => (∃ j : Nat, (e 0 = .list (ns.map cP)) ∧ (e 1 = .list (es.map cP)) ∧ (e 4 = .ptr 0 1 0 0) ∧ (e 5 = .ptr 1 1 0 0) ∧ (e 10 = dI k) ∧ (H.get 0 = some ⟨25, 2, [[.nil, .nil]], false⟩) ∧ (0 < H.next) ∧ (H.get 1 = some ⟨25, 2, [[.own 2 i, .own j k]], false⟩) ∧ (1 < H.next) ∧ (H.get 2 = some ⟨131, 4, madeRs ns i, false⟩) ∧ (2 < H.next) ∧ (H.get j = some ⟨133, 7, (madeEs i es k).map EdgeTy.c, false⟩) ∧ (j < H.next) ∧ (k ≤ 5) ∧ (k ≤ es.length) ∧ (j ≠ 0) ∧ (j ≠ 1) ∧ (j ≠ 2) ∧ ((madeEs i es k).length = k))
    refine loopKG (Ghosts.step (Ghosts.refl _) 1 0 1 133 7 _ _ (g1_0) rfl rfl rfl) I3 (fun k => 5 - k) (0) ((hI3 _ _ _).2 ⟨(H.next), ?_, ?_, ?_, ?_, ?_, ?_, ?_, ?_, ?_, ?_, ?_, (by (simp [go_sem, madeEs, F0, hl])), ?_, (by first | assumption | omega | (simp [go_sem, F0, hl]; done) | (simp_all; done)), (by first | assumption | omega | (simp [go_sem, F0, hl]; done) | (simp_all; done)), (by omega), (by omega), (by omega), (by (exact madeEs_len _ _ _))⟩) ?_
    iterate 12 (first | omega | (simp [go_sem, seval, F0, hl] <;> omega))
    intro k e H hi3
    obtain ⟨j, q0_3, q1_3, q4_3, q5_3, q10_3, g0_3, n0_3, g1_3, n1_3, g2_3, n2_3, gj_3, nj_3, hk, hk2, j0, j1, j2, hle⟩ := (hI3 _ _ _).1 hi3
    have x0 := frs n0_3
    have x1 := frs n1_3
    have x2 := frs n2_3
    have xj := frs nj_3
    have F3 := And.intro q0_3 (And.intro q1_3 (And.intro q4_3 (And.intro q5_3 (And.intro q10_3 (And.intro g0_3 (And.intro g1_3 (And.intro g2_3 (And.intro gj_3 (And.intro x0 (And.intro x1 (And.intro x2 xj)))))))))))
    try simp [go_sem, seval, hl, F3, hle, j0, j1, j2, j0.symm, j1.symm, j2.symm]
    repeat first | intro _ | refine ⟨obs, ?_⟩
    refine condQ_mk (fun h17 => ?_) (fun h17 => ?_)
    ·try simp [go_sem] at h17
     obtain ⟨x, hx⟩ : ∃ x, nth2 es k = x := ⟨_, rfl⟩
     have hk5 : k < es.length ∧ k < 5 := by omega
     have hx0 : es[k]'hk5.1 = x := by rw [← hx]; simp [nth2, lge hk5.1]
     have hi0 : 0 < i := by rw [hN]; unfold madeK; omega
     have hx1 := u8_lt x.1
     have hx2 := u8_lt x.2
     have hszE : (⟨#[101, 102, 103, 104, 105]⟩ : ByteArray).size = 5 := rfl
     have nx := nxs H.next
     try simp [go_sem, seval, hl, F3, hle, j0, j1, j2, j0.symm, j1.symm, j2.symm, h17, lge hk5.1, hx0, cP, hszE, nx]
     repeat first | intro _ | refine ⟨obs, ?_⟩
     refine nextQ_mk (k + 1) (by omega) ((hI3 _ _ _).2 ⟨(j), ?_, ?_, ?_, ?_, ?_, ?_, ?_, ?_, ?_, ?_, ?_, (by (simp [go_sem, hl, F3, hle, j0, j1, j2, j0.symm, j1.symm, j2.symm, h17, lge hk5.1, hx0, cP, hszE, nx, madeEs_succ, madeE, hx, tyE, EdgeTy.c, dI])), ?_, (by first | assumption | omega | (simp [go_sem, hl, F3, hle, j0, j1, j2, j0.symm, j1.symm, j2.symm, h17, lge hk5.1, hx0, cP, hszE, nx, h3]; done) | (simp_all <;> omega)), (by first | assumption | omega | (simp [go_sem, hl, F3, hle, j0, j1, j2, j0.symm, j1.symm, j2.symm, h17, lge hk5.1, hx0, cP, hszE, nx, h3]; done) | (simp_all <;> omega)), (by first | assumption | omega | (simp [go_sem, hl, F3, hle, j0, j1, j2, j0.symm, j1.symm, j2.symm, h17, lge hk5.1, hx0, cP, hszE, nx, h3]; done) | (simp_all <;> omega)), (by first | assumption | omega | (simp [go_sem, hl, F3, hle, j0, j1, j2, j0.symm, j1.symm, j2.symm, h17, lge hk5.1, hx0, cP, hszE, nx, h3]; done) | (simp_all <;> omega)), (by first | assumption | omega | (simp [go_sem, hl, F3, hle, j0, j1, j2, j0.symm, j1.symm, j2.symm, h17, lge hk5.1, hx0, cP, hszE, nx, h3]; done) | (simp_all <;> omega)), (by (exact madeEs_len _ _ _))⟩) <;> first | omega | (simp [go_sem, seval, hl, F3, hle, j0, j1, j2, j0.symm, j1.symm, j2.symm, h17, lge hk5.1, hx0, cP, hszE, nx] <;> omega)
    ·try simp [go_sem] at h17
     have hK : k = min es.length 5 := by omega
     try simp [go_sem, seval, hl, F3, hle, j0, j1, j2, j0.symm, j1.symm, j2.symm]
     exact hQ _ _ (by simp [go_sem, hl, F3, hle, j0, j1, j2, j0.symm, j1.symm, j2.symm, madeT, ← hN, ← hK, madeRs_nz, nz_edgeTys, Types.d, Types.c])
end Go.Abs
end
section
set_option maxRecDepth 8000
set_option maxHeartbeats 2000000
open Go Go.Proofs
namespace Go.Abs
def cU (x : UInt8) : List D := [.int .u8 (x.toNat : Int)]
@[go_sem] theorem cUs_cl (l : List UInt8) : D.clLL (l.map cU) = true := clLL_map _ (fun _ => rfl) l
def shufJ (n : Nat) (l : List UInt8) (i : Nat) : Nat := ((i : Int) + ((l[i]?.getD 0).toNat : Int).tmod ((n : Int) - i)).toNat
def shufS (n : Nat) (l : List UInt8) (xs : List Int) (i : Nat) : List Int := swpL xs i (shufJ n l i)
def shufF (n : Nat) (l : List UInt8) : List Int := (List.range (min n l.length)).foldl (shufS n l) (numL n)
def PermL (n : Nat) (xs : List Int) : Prop := xs.length = n ∧ (∀ x ∈ xs, 0 ≤ x ∧ x < n) ∧ ∀ a b, a < b → b < xs.length → xs[a]? ≠ xs[b]?
theorem swpL_get {xs : List Int} {i j : Nat} (hi : i < xs.length) (hj : j < xs.length) (k : Nat) : (swpL xs i j)[k]? = if k = j then xs[i]? else if k = i then xs[j]? else xs[k]? := by
  unfold swpL
  rw [List.getElem?_set, List.getElem?_set]
  by_cases h1 : j = k
  · subst h1; simp [hj, lge hi]
  · rw [if_neg h1, if_neg (Ne.symm h1)]
    by_cases h2 : i = k
    ·subst h2; simp [hi, lge hj]
    ·rw [if_neg h2, if_neg (Ne.symm h2)]
theorem permL_swp {n : Nat} {xs : List Int} {i j : Nat} (h : PermL n xs) (hi : i < n) (hj : j < n) : PermL n (swpL xs i j) := by
  obtain ⟨h1, h2, h3⟩ := h
  have hi' : i < xs.length := by omega
  have hj' : j < xs.length := by omega
  have hne : ∀ a b, a ≠ b → a < xs.length → b < xs.length → xs[a]? ≠ xs[b]? := fun a b hab ha hb => by
    rcases Nat.lt_or_ge a b with h | h
    ·exact h3 a b h hb
    ·exact Ne.symm (h3 b a (by omega) ha)
  refine ⟨by rw [swpL_len, h1], fun x hx => ?_, fun a b hab hb => ?_⟩
  · obtain ⟨k, hk⟩ := List.getElem?_of_mem hx
    rw [swpL_get hi' hj'] at hk
    split at hk
    ·exact h2 x (List.mem_of_getElem? hk)
    ·split at hk
     ·exact h2 x (List.mem_of_getElem? hk)
     ·exact h2 x (List.mem_of_getElem? hk)
  · rw [swpL_len] at hb
    rw [swpL_get hi' hj', swpL_get hi' hj']
    split
    ·split
     ·omega
     ·split
      ·exact hne i j (by omega) hi' hj'
      ·exact hne i b (by omega) hi' hb
    ·split
     ·split
      ·exact hne j i (by omega) hj' hi'
      ·split
       ·omega
       ·exact hne j b (by omega) hj' hb
     ·split
      ·exact hne a i (by omega) (by omega) hi'
      ·split
       ·exact hne a j (by omega) (by omega) hj'
       ·exact hne a b (by omega) (by omega) hb
theorem numL_get {n a : Nat} (h : a < n) : (numL n)[a]? = some (a : Int) := by
  simp [numL, List.getElem?_map, List.getElem?_range h]
theorem numL_perm (n : Nat) : PermL n (numL n) := ⟨numL_len n, fun x hx => numL_mem hx, fun a b hab hb => by
  rw [numL_len] at hb
  rw [numL_get (by omega), numL_get hb]
  simp; omega⟩
theorem shufJ_lt {n : Nat} {l : List UInt8} {i : Nat} (hi : i < n) : shufJ n l i < n := by
  have := tmod_in (show 0 ≤ ((l[i]?.getD 0).toNat : Int) by omega) (show 0 < (n : Int) - i by omega)
  unfold shufJ; omega
theorem shuf_perm (n : Nat) (l : List UInt8) : ∀ k, k ≤ n → PermL n ((List.range k).foldl (shufS n l) (numL n))
  | 0, _ => numL_perm n
  | k + 1, h => by
    rw [List.range_succ, List.foldl_append]
    exact permL_swp (shuf_perm n l k (by omega)) (by omega) (shufJ_lt (by omega))
theorem shufF_perm (n : Nat) (l : List UInt8) : PermL n (shufF n l) := shuf_perm n l _ (by omega)
theorem ref05_Shuffle (n : Nat) (hn : n ≤ 100000) (l : List UInt8) : Pure Tryz.prog 103 [dI n, .list (l.map cU)] (dLI (shufF n l)) := by
  refine Tz.pK ⟨fun t => t == 5, fun _ => []⟩ Tryz.func103 rfl (fun Q hQ => ?_)
  try simp [go_sem, seval, numL_len]
  refine callQ_own0 (ref05_Numbers n hn) ((by first | rfl | (simp [go_sem, ← List.map_take, ← List.map_drop, numL_len]; done))) ?_
  try simp [go_sem, seval, numL_len]
  obtain ⟨I0, hI0⟩ := mkI fun i e H => (∃ xs : List Int, (e 0 = dI n) ∧ (e 1 = .list (l.map cU)) ∧ (e 5 = .own 0 n) ∧ (e 6 = dI i) ∧ (H.get 0 = some ⟨3, 1, xs.map cI, false⟩) ∧ (0 < H.next) ∧ (i ≤ n) ∧ (i ≤ l.length) ∧ (PermL n xs) ∧ (xs = (List.range i).foldl (shufS n l) (numL n)))
  refine loopK I0 (fun i => n - i) (0) ((hI0 _ _ _).2 ⟨(numL n), ?_, ?_, ?_, ?_, (by (simp [go_sem])), ?_, (by first | assumption | omega | (simp [go_sem, numL_len]; done) | (simp_all; done)), (by first | assumption | omega | (simp [go_sem, numL_len]; done) | (simp_all; done)), (by exact numL_perm n), (by rfl)⟩) ?_
  iterate 5 (first | omega | (simp [go_sem, seval, numL_len] <;> omega))
  intro i e H hi0
  obtain ⟨xs, q0_0, q1_0, q5_0, q6_0, g0_0, n0_0, hi, hil, hp, hx⟩ := (hI0 _ _ _).1 hi0
  have x0 := frs n0_0
  have F0 := And.intro q0_0 (And.intro q1_0 (And.intro q5_0 (And.intro q6_0 (And.intro g0_0 x0))))
  try simp [go_sem, seval, numL_len, F0]
  repeat first | intro _ | refine ⟨obs, ?_⟩
  refine condQ_mk (fun h3 => ?_) (fun h3 => ?_)
  · try simp [go_sem] at h3
    have hx1 := u8_lt l[i]
    have hxl := hp.1
    have htm := tmod_in (show 0 ≤ (l[i].toNat : Int) by omega) (show 0 < (n : Int) - i by omega)
    obtain ⟨j, hj⟩ : ∃ j : Nat, (i : Int) + (l[i].toNat : Int).tmod ((n : Int) - i) = (j : Int) := ⟨((i : Int) + (l[i].toNat : Int).tmod ((n : Int) - i)).toNat, (Int.toNat_of_nonneg (by omega)).symm⟩
    have hjn : j < n := by omega
    have hJ : shufJ n l i = j := by unfold shufJ; rw [lge h3.2, Option.getD_some, hj]; rfl
    have hxi : i < xs.length := by omega
    have hxj : j < xs.length := by omega
    have hsi : xs[i]?.getD 0 = xs[i] := by rw [lge hxi]; rfl
    have hsj : xs[j]?.getD 0 = xs[j] := by rw [lge hxj]; rfl
    have hne0 : (n : Int) - i ≠ 0 := by omega
    have hss : ((xs.map cI).set i [.int .i64 xs[j]])[j]? = some [.int .i64 xs[j]] := by
     rw [List.getElem?_set]
     by_cases hij : i = j
     ·subst hij; simp [hxi]
     ·rw [if_neg hij, List.getElem?_map, lge hxj]; rfl
    try simp [go_sem, seval, numL_len, F0, h3, hss, hj, hxl, lge h3.2, lge hxi, lge hxj, hne0, cU]
    repeat first | intro _ | refine ⟨obs, ?_⟩
    refine nextQ_mk (i + 1) (by omega) ((hI0 _ _ _).2 ⟨(swpL xs i j), ?_, ?_, ?_, ?_, (by (simp [go_sem, numL_len, F0, h3, hss, hj, hxl, lge h3.2, lge hxi, lge hxj, hne0, cU, swpL, List.map_set, hsi, hsj])), ?_, (by first | assumption | omega | (simp [go_sem, numL_len, F0, h3, hss, hj, hxl, lge h3.2, lge hxi, lge hxj, hne0, cU]; done) | (simp_all <;> omega)), (by first | assumption | omega | (simp [go_sem, numL_len, F0, h3, hss, hj, hxl, lge h3.2, lge hxi, lge hxj, hne0, cU]; done) | (simp_all <;> omega)), (by exact permL_swp hp h3.1 hjn), (by (rw [List.range_succ, List.foldl_append, ← hx]; simp [shufS, hJ]))⟩) <;> first | omega | (simp [go_sem, seval, numL_len, F0, h3, hss, hj, hxl, lge h3.2, lge hxi, lge hxj, hne0, cU] <;> omega)
  · try simp [go_sem] at h3
    have hI : i = min n l.length := by omega
    have hxl := hp.1
    have hF : shufF n l = xs := by rw [hx, hI]; rfl
    try simp [go_sem, seval, numL_len, F0]
    exact hQ _ _ (by first | (left; (simp [go_sem, numL_len, F0, hF, hxl]); done) | (right; (simp [go_sem, numL_len, F0, hF, hxl]); done))
def reoN (p xs : List Int) (k : Nat) : List Int := (List.range k).foldl (fun acc i => acc.set (p[i]?.getD 0).toNat (xs[i]?.getD 0)) xs
def reoX (p : List Int) (x : Edge) : Edge := ⟨x.type, p[x.from_.toNat]?.getD 0, p[x.to_.toNat]?.getD 0⟩
def reoE (p q : List Int) (es : List Edge) (k : Nat) : List Edge := (List.range k).foldl (fun acc i => acc.set (q[i]?.getD 0).toNat (reoX p (es[i]?.getD ⟨0, 0, 0⟩))) es
def reoF (g : Graph) (p q : List Int) : Graph := if graphF g = 0 then ⟨reoN p g.nodes g.nodes.length, reoE p q g.edges g.edges.length⟩ else ⟨[], []⟩
theorem reoN_succ (p xs : List Int) (k : Nat) : reoN p xs (k + 1) = (reoN p xs k).set (p[k]?.getD 0).toNat (xs[k]?.getD 0) := by simp [reoN, List.range_succ]
theorem reoN_len (p xs : List Int) : ∀ k, (reoN p xs k).length = xs.length
  | 0 => rfl
  | k + 1 => by rw [reoN_succ, List.length_set, reoN_len p xs k]
theorem reoE_succ (p q : List Int) (es : List Edge) (k : Nat) : reoE p q es (k + 1) = (reoE p q es k).set (q[k]?.getD 0).toNat (reoX p (es[k]?.getD ⟨0, 0, 0⟩)) := by simp [reoE, List.range_succ]
theorem reoE_len (p q : List Int) (es : List Edge) : ∀ k, (reoE p q es k).length = es.length
  | 0 => rfl
  | k + 1 => by rw [reoE_succ, List.length_set, reoE_len p q es k]
end Go.Abs
end
section
set_option maxRecDepth 8000
set_option maxHeartbeats 2000000
open Go Go.Proofs
namespace Go.Abs
theorem ref05_CopiedO (g : Graph) (hn : g.nodes.length ≤ 100000) (he : g.edges.length ≤ 100000) (G : AHeap) (Q : D → AHeap → Prop)
    (hQ : ∀ a b H', G.next ≤ a → G.next ≤ b → a ≠ b → a < H'.next → b < H'.next → H'.get a = some ⟨3, 1, g.nodes.map cI, false⟩ → H'.get b = some ⟨124, 3, g.edges.map Edge.c, false⟩ → (∀ j, j < G.next → H'.get j = G.get j) → G.next ≤ H'.next → Q (.agg [.own a g.nodes.length, .own b g.edges.length]) H') : ACalls Tryz.prog 186 [g.d] G Q := by
  refine (acalls_of_body (cfg := ⟨fun t => t == 2 || t == 3 || t == 7, fun r => match r with | 1 => [(0, 1), (0, 2), (0, 4), (1, 4), (2, 4), (3, 4), (0, 5), (3, 5), (4, 5), (0, 6), (3, 6), (4, 6)] | _ => []⟩) Tz.mixed Tryz.func186 rfl rfl (nlb rfl) (by kernel_rfl) ?_)
  have nx := nxs G.next
  try simp [go_sem, seval, nx]
  repeat (first | intro _ | (refine ⟨obl, ?_⟩))
  exact hQ _ _ _ (by first | omega | (simp [go_sem] <;> omega) | (simp [go_sem, nx] <;> omega)) (by first | omega | (simp [go_sem] <;> omega) | (simp [go_sem, nx] <;> omega)) (by first | omega | (simp [go_sem] <;> omega) | (simp [go_sem, nx] <;> omega)) (by first | omega | (simp [go_sem] <;> omega) | (simp [go_sem, nx] <;> omega)) (by first | omega | (simp [go_sem] <;> omega) | (simp [go_sem, nx] <;> omega)) (by simp [go_sem, nx] <;> omega) (by simp [go_sem, nx] <;> omega) (fun j hj => by simp [go_sem, frs hj]) (by first | omega | (simp [go_sem] <;> omega) | (simp [go_sem, nx] <;> omega))
theorem ref05_Reorder (g : Graph) (hn : g.nodes.length ≤ 100000) (he : g.edges.length ≤ 100000) (p q : List Int) (hp : PermL g.nodes.length p) (hq : PermL g.edges.length q) : Pure Tryz.prog 104 [g.d, Part.d ⟨p, q⟩] (.tup [(reoF g p q).d, dI (graphF g)]) := by
  obtain ⟨hp1, hp2, hp3⟩ := hp
  obtain ⟨hq1, hq2, hq3⟩ := hq
  refine Tz.pK ⟨fun t => t == 4 || t == 9 || t == 12, fun _ => []⟩ Tryz.func104 rfl (fun Q hQ => ?_)
  try simp [go_sem, seval, hp1, hq1]
  refine callQ_pure0 (ref05_Valid g) ((by first | rfl | (simp [go_sem, ← List.map_take, ← List.map_drop, hp1, hq1]; done))) ?_
  try simp [go_sem, seval, hp1, hq1]
  refine condQ_mk (fun h2 => ?_) (fun h2 => ?_)
  · try simp [go_sem] at h2
    try simp [go_sem, seval, hp1, hq1]
    exact hQ _ _ (by first | (left; (simp [go_sem, reoF, h2]); done) | (right; (simp [go_sem, reoF, h2]); done))
  · try simp [go_sem] at h2
    try simp [go_sem, seval, hp1, hq1]
    repeat first | intro _ | refine ⟨obs, ?_⟩
    refine callQ_pure0 (ref05_permutation p (by rw [hp1]; exact hp2) hp3) ((by first | rfl | (simp [go_sem, ← List.map_take, ← List.map_drop, hp1, hq1]; done))) ?_
    try simp [go_sem, seval, hp1, hq1]
    repeat first | intro _ | refine ⟨obs, ?_⟩
    refine callQ_pure0 (ref05_permutation q (by rw [hq1]; exact hq2) hq3) ((by first | rfl | (simp [go_sem, ← List.map_take, ← List.map_drop, hp1, hq1]; done))) ?_
    try simp [go_sem, seval, hp1, hq1]
    repeat first | intro _ | refine ⟨obs, ?_⟩
    unfold callQ; refine ref05_CopiedO g hn he _ _ (fun a b H1 ha hb hab han hbn hga hgb hfr hnn => ?_)
    have h0n : (0 : Nat) < H1.next := by omega
    have ha0 : a ≠ 0 := by simp [go_sem] at ha; omega
    have hb0 : b ≠ 0 := by simp [go_sem] at hb; omega
    have hg0 := hfr 0 (by simp [go_sem])
    simp [go_sem] at hg0
    have nx := nxs H1.next
    have fr1 := And.intro (frs (show a < H1.next by omega)) (And.intro (frs (show b < H1.next by omega)) (frs (show 0 < H1.next by omega)))
    have di2 := And.intro (nep (show 0 ≠ b by omega)) (And.intro (nep (show 0 ≠ a by omega)) (nep (show b ≠ a by omega)))
    try simp [go_sem, seval, hp1, hq1, fr1, di2, hga, hgb, hg0, nx]
    repeat first | intro _ | refine ⟨obs, ?_⟩
    obtain ⟨I0, hI0⟩ := mkI fun i e H => (∃ c : Nat, (e 2 = .adr g.c) ∧ (e 3 = .adr [dLI p, dLI q]) ∧ (e 4 = .ptr 0 1 0 0) ∧ (e 9 = .ptr c 1 0 0) ∧ (e 10 = dI i) ∧ (H.get 0 = some ⟨29, 2, [[.nil, .nil]], false⟩) ∧ (0 < H.next) ∧ (H.get c = some ⟨29, 2, [[.own a g.nodes.length, .own b g.edges.length]], false⟩) ∧ (c < H.next) ∧ (H.get a = some ⟨3, 1, (reoN p g.nodes i).map cI, false⟩) ∧ (a < H.next) ∧ (H.get b = some ⟨124, 3, g.edges.map Edge.c, false⟩) ∧ (b < H.next) ∧ (i ≤ g.nodes.length) ∧ (a < c ∧ b < c) ∧ ((reoN p g.nodes i).length = g.nodes.length))
    refine loopK I0 (fun i => g.nodes.length - i) (0) ((hI0 _ _ _).2 ⟨(H1.next), ?_, ?_, ?_, ?_, ?_, ?_, ?_, ?_, ?_, (by (simp [go_sem, hp1, hq1, fr1, di2, hga, hgb, hg0, nx, reoN])), ?_, ?_, ?_, (by first | assumption | omega | (simp [go_sem, hp1, hq1, fr1, di2, hga, hgb, hg0, nx]; done) | (simp_all; done)), (by omega), (by (exact reoN_len _ _ _))⟩) ?_
    iterate 12 (first | omega | (simp [go_sem, seval, hp1, hq1, fr1, di2, hga, hgb, hg0, nx] <;> omega))
    intro i e H hi0
    obtain ⟨c, q2_0, q3_0, q4_0, q9_0, q10_0, g0_0, n0_0, gc_0, nc_0, ga_0, na_0, gb_0, nb_0, hi, hc, hrl⟩ := (hI0 _ _ _).1 hi0
    have x0 := frs n0_0
    have xc := frs nc_0
    have xa := frs na_0
    have xb := frs nb_0
    have F0 := And.intro q2_0 (And.intro q3_0 (And.intro q4_0 (And.intro q9_0 (And.intro q10_0 (And.intro g0_0 (And.intro gc_0 (And.intro ga_0 (And.intro gb_0 (And.intro x0 (And.intro xc (And.intro xa xb)))))))))))
    have di3 := And.intro (nep (show 0 ≠ c by omega)) (And.intro (nep (show 0 ≠ b by omega)) (And.intro (nep (show 0 ≠ a by omega)) (And.intro (nep (show c ≠ b by omega)) (And.intro (nep (show c ≠ a by omega)) (nep (show b ≠ a by omega))))))
    try simp [go_sem, seval, hp1, hq1, fr1, di2, hga, hgb, hg0, nx, F0, hrl, di3]
    repeat first | intro _ | refine ⟨obs, ?_⟩
    refine condQ_mk (fun h14 => ?_) (fun h14 => ?_)
    ·try simp [go_sem] at h14
     have hip : i < p.length := by omega
     have hpi := hp2 _ (lgm hip)
     have hpd : p[i]?.getD 0 = p[i] := by rw [lge hip]; rfl
     have hxd : g.nodes[i]?.getD 0 = g.nodes[i] := by rw [lge h14]; rfl
     have hpl : p[i].toNat < (reoN p g.nodes i).length := by rw [hrl]; omega
     try simp [go_sem, seval, hp1, hq1, fr1, di2, hga, hgb, hg0, nx, F0, hrl, di3, h14, lge h14, lge hip, lge hpl, hrl]
     repeat first | intro _ | refine ⟨obs, ?_⟩
     refine nextQ_mk (i + 1) (by omega) ((hI0 _ _ _).2 ⟨(c), ?_, ?_, ?_, ?_, ?_, ?_, ?_, ?_, ?_, (by (simp [go_sem, hp1, hq1, fr1, di2, hga, hgb, hg0, nx, F0, hrl, di3, h14, lge h14, lge hip, lge hpl, hrl, reoN_succ, List.map_set, hpd, hxd])), ?_, ?_, ?_, (by first | assumption | omega | (simp [go_sem, hp1, hq1, fr1, di2, hga, hgb, hg0, nx, F0, hrl, di3, h14, lge h14, lge hip, lge hpl, hrl, h2]; done) | (simp_all <;> omega)), (by omega), (by (exact reoN_len _ _ _))⟩) <;> first | omega | (simp [go_sem, seval, hp1, hq1, fr1, di2, hga, hgb, hg0, nx, F0, hrl, di3, h14, lge h14, lge hip, lge hpl, hrl] <;> omega)
    ·try simp [go_sem] at h14
     have hI : i = g.nodes.length := by omega
     rw [hI] at hrl
     try simp [go_sem, seval, hp1, hq1, fr1, di2, hga, hgb, hg0, nx, F0, hrl, di3]
     obtain ⟨I2, hI2⟩ := mkI fun k e H => ((e 2 = .adr g.c) ∧ (e 3 = .adr [dLI p, dLI q]) ∧ (e 4 = .ptr 0 1 0 0) ∧ (e 9 = .ptr c 1 0 0) ∧ (e 11 = dI k) ∧ (H.get 0 = some ⟨29, 2, [[.nil, .nil]], false⟩) ∧ (0 < H.next) ∧ (H.get c = some ⟨29, 2, [[.own a g.nodes.length, .own b g.edges.length]], false⟩) ∧ (c < H.next) ∧ (H.get a = some ⟨3, 1, (reoN p g.nodes g.nodes.length).map cI, false⟩) ∧ (a < H.next) ∧ (H.get b = some ⟨124, 3, (reoE p q g.edges k).map Edge.c, false⟩) ∧ (b < H.next) ∧ (k ≤ g.edges.length) ∧ ((reoE p q g.edges k).length = g.edges.length))
     refine loopK I2 (fun k => g.edges.length - k) (0) ((hI2 _ _ _).2 ⟨?_, ?_, ?_, ?_, ?_, ?_, ?_, ?_, ?_, (by (simp [go_sem, hp1, hq1, fr1, di2, hga, hgb, hg0, nx, F0, hrl, di3, ← hI])), ?_, (by (simp [go_sem, hp1, hq1, fr1, di2, hga, hgb, hg0, nx, F0, hrl, di3, reoE])), ?_, (by first | assumption | omega | (simp [go_sem, hp1, hq1, fr1, di2, hga, hgb, hg0, nx, F0, hrl, di3]; done) | (simp_all; done)), (by (exact reoE_len _ _ _ _))⟩) ?_
     iterate 11 (first | omega | (simp [go_sem, seval, hp1, hq1, fr1, di2, hga, hgb, hg0, nx, F0, hrl, di3] <;> omega))
     intro k e H hi2
     obtain ⟨q2_2, q3_2, q4_2, q9_2, q11_2, g0_2, n0_2, gc_2, nc_2, ga_2, na_2, gb_2, nb_2, hk, hel⟩ := (hI2 _ _ _).1 hi2
     have x0 := frs n0_2
     have xc := frs nc_2
     have xa := frs na_2
     have xb := frs nb_2
     have F2 := And.intro q2_2 (And.intro q3_2 (And.intro q4_2 (And.intro q9_2 (And.intro q11_2 (And.intro g0_2 (And.intro gc_2 (And.intro ga_2 (And.intro gb_2 (And.intro x0 (And.intro xc (And.intro xa xb)))))))))))
     have di4 := And.intro (nep (show 0 ≠ c by omega)) (And.intro (nep (show 0 ≠ b by omega)) (And.intro (nep (show 0 ≠ a by omega)) (And.intro (nep (show c ≠ b by omega)) (And.intro (nep (show c ≠ a by omega)) (nep (show b ≠ a by omega))))))
     try simp [go_sem, seval, hp1, hq1, fr1, di2, hga, hgb, hg0, nx, hrl, di3, F2, hel, di4]
     repeat first | intro _ | refine ⟨obs, ?_⟩
     refine condQ_mk (fun h18 => ?_) (fun h18 => ?_)
     ·try simp [go_sem] at h18
      have hkq : k < q.length := by omega
      have hqk := hq2 _ (lgm hkq)
      have hg := graphF_in h2
      have hE := hg.2 _ (lgm h18)
      have hfp : g.edges[k].from_.toNat < p.length := by omega
      have htp : g.edges[k].to_.toNat < p.length := by omega
      have hqd : q[k]?.getD 0 = q[k] := by rw [lge hkq]; rfl
      have hxd : g.edges[k]?.getD ⟨0, 0, 0⟩ = g.edges[k] := by rw [lge h18]; rfl
      have hXX : reoX p g.edges[k] = ⟨g.edges[k].type, p[g.edges[k].from_.toNat], p[g.edges[k].to_.toNat]⟩ := by unfold reoX; rw [lge hfp, lge htp]; rfl
      have hql : q[k].toNat < (reoE p q g.edges k).length := by rw [hel]; omega
      have nx := nxs H.next
      try simp [go_sem, seval, hp1, hq1, fr1, di2, hga, hgb, hg0, nx, hrl, di3, F2, hel, di4, h18, lge h18, lge hkq, lge hql, lge hfp, lge htp, nx, hel]
      repeat first | intro _ | refine ⟨obs, ?_⟩
      refine nextQ_mk (k + 1) (by omega) ((hI2 _ _ _).2 ⟨?_, ?_, ?_, ?_, ?_, ?_, ?_, ?_, ?_, (by (simp [go_sem, hp1, hq1, fr1, di2, hga, hgb, hg0, nx, hrl, di3, F2, hel, di4, h18, lge h18, lge hkq, lge hql, lge hfp, lge htp, nx, hel])), ?_, (by (simp [go_sem, hp1, hq1, fr1, di2, hga, hgb, hg0, nx, hrl, di3, F2, hel, di4, h18, lge h18, lge hkq, lge hql, lge hfp, lge htp, nx, hel, reoE_succ, List.map_set, hqd, hxd, hXX, Edge.c])), ?_, (by first | assumption | omega | (simp [go_sem, hp1, hq1, fr1, di2, hga, hgb, hg0, nx, hrl, di3, F2, hel, di4, h18, lge h18, lge hkq, lge hql, lge hfp, lge htp, nx, hel, h2, h14]; done) | (simp_all <;> omega)), (by (exact reoE_len _ _ _ _))⟩) <;> first | omega | (simp [go_sem, seval, hp1, hq1, fr1, di2, hga, hgb, hg0, nx, hrl, di3, F2, hel, di4, h18, lge h18, lge hkq, lge hql, lge hfp, lge htp, nx, hel] <;> omega)
     ·try simp [go_sem] at h18
      have hK : k = g.edges.length := by omega
      rw [hK] at hel
      try simp [go_sem, seval, hp1, hq1, fr1, di2, hga, hgb, hg0, nx, hrl, di3, F2, hel, di4]
      exact hQ _ _ (by first | (left; (simp [go_sem, hp1, hq1, fr1, di2, hga, hgb, hg0, nx, hrl, di3, F2, hel, di4, reoF, h2, hK]); done) | (right; (simp [go_sem, hp1, hq1, fr1, di2, hga, hgb, hg0, nx, hrl, di3, F2, hel, di4, reoF, h2, hK]); done))
end Go.Abs
end
section
set_option maxRecDepth 8000
set_option maxHeartbeats 2000000
open Go Go.Proofs
namespace Go.Abs
def remF (a b : Int) : Int := (a.tmod b + b).tmod b
theorem tmod_abs (a : Int) {b : Int} (hb : 0 < b) : -b < a.tmod b ∧ a.tmod b < b := by
  refine ⟨?_, Int.tmod_lt_of_pos _ hb⟩
  rcases Int.le_total 0 a with h | h
  · have := Int.tmod_nonneg b h; omega
  · have h1 : (-a).tmod b = -(a.tmod b) := Int.neg_tmod _ _
    have := Int.tmod_lt_of_pos (-a) hb
    omega
theorem remF_in (a : Int) {b : Int} (hb : 0 < b) : 0 ≤ remF a b ∧ remF a b < b := by
  have := tmod_abs a hb
  exact tmod_in (by omega) hb
theorem ref03_remainder (a b : Int) (hb : 0 < b ∧ b ≤ 1000000) : Pure Tryz.prog 250 [dI a, dI b] (dI (remF a b)) := by
  have hb1 := tmod_abs a hb.1
  have hb0 : b ≠ 0 := by omega
  refine Tz.pK ⟨fun _ => false, fun _ => []⟩ Tryz.func250 rfl (fun Q hQ => ?_)
  try simp [go_sem, seval, hb0]
  repeat (first | intro _ | (refine ⟨obl, ?_⟩))
  exact hQ _ _ (by simp [go_sem, hb0, remF] <;> first | omega | (rw [bei]; simp <;> omega) | (simp_all <;> omega))
abbrev T4 := Int8 × Int8 × Int8 × Int8
def cT4 (x : T4) : List D := [.int .i8 x.1.toInt, .int .i8 x.2.1.toInt, .int .i8 x.2.2.1.toInt, .int .i8 x.2.2.2.toInt]
@[go_sem] theorem cT4s_cl (l : List T4) : D.clLL (l.map cT4) = true := clLL_map _ (fun _ => rfl) l
theorem i8_in (x : Int8) : -128 ≤ x.toInt ∧ x.toInt ≤ 127 := by
  have h1 := x.le_toInt
  have h2 := x.toInt_lt
  omega
def made3 (v : Int) (x : T4) : Test := ⟨1 + (remF x.1.toInt 4).tdiv 3, ⟨remF x.2.1.toInt (v + 1) - 1, 0⟩, ⟨remF x.2.2.1.toInt (v + 1) - 1, x.2.2.2.toInt.tmod 12⟩⟩
theorem ref03_Made (v : Int) (hv : 0 ≤ v ∧ v ≤ 1000) (x : T4) : Pure Tryz.prog 182 [dI v, .agg (cT4 x)] (.agg (made3 v x).c) := by
  have h0 := i8_in x.1
  have h1 := i8_in x.2.1
  have h2 := i8_in x.2.2.1
  have h3 := i8_in x.2.2.2
  have r1 := remF_in x.1.toInt (show (0 : Int) < 4 by omega)
  have r2 := remF_in x.2.1.toInt (show 0 < v + 1 by omega)
  have r3 := remF_in x.2.2.1.toInt (show 0 < v + 1 by omega)
  have r4 := tmod_abs x.2.2.2.toInt (show (0 : Int) < 12 by omega)
  have r5 := tdiv_in r1.1 (show (0 : Int) < 3 by omega)
  refine Tz.pK ⟨fun t => t == 4, fun _ => []⟩ Tryz.func182 rfl (fun Q hQ => ?_)
  try simp [go_sem, seval, cT4]
  repeat (first | intro _ | (refine ⟨obl, ?_⟩))
  refine callQ_pure0 (ref03_remainder x.1.toInt 4 (by omega)) ((by first | rfl | (simp [go_sem, ← List.map_take, ← List.map_drop, cT4]; done))) ?_
  try simp [go_sem, seval, cT4]
  repeat (first | intro _ | (refine ⟨obl, ?_⟩))
  refine dcallQ_pure0 (ref03_remainder x.2.1.toInt (v + 1) (by omega)) ((by first | rfl | (simp [go_sem, ← List.map_take, ← List.map_drop, cT4]; done))) ?_
  try simp [go_sem, seval, cT4]
  repeat (first | intro _ | (refine ⟨obl, ?_⟩))
  refine dcallQ_pure0 (ref03_remainder x.2.2.1.toInt (v + 1) (by omega)) ((by first | rfl | (simp [go_sem, ← List.map_take, ← List.map_drop, cT4]; done))) ?_
  try simp [go_sem, seval, cT4]
  repeat (first | intro _ | (refine ⟨obl, ?_⟩))
  exact hQ _ _ (by simp [go_sem, cT4, made3, Test.c] <;> first | omega | (rw [bei]; simp <;> omega) | (simp_all <;> omega))
def leaN (g : Graph) (nb eb : List Bool) (k : Nat) : List Bool := (List.range k).foldl (fun acc i => if eb[i]?.getD false = true then (acc.set (g.edges[i]?.getD ⟨0, 0, 0⟩).from_.toNat true).set (g.edges[i]?.getD ⟨0, 0, 0⟩).to_.toNat true else acc) nb
theorem leaN_succ (g : Graph) (nb eb : List Bool) (k : Nat) : leaN g nb eb (k + 1) = if eb[k]?.getD false = true then ((leaN g nb eb k).set (g.edges[k]?.getD ⟨0, 0, 0⟩).from_.toNat true).set (g.edges[k]?.getD ⟨0, 0, 0⟩).to_.toNat true else leaN g nb eb k := by
  simp only [leaN, List.range_succ, List.foldl_append, List.foldl_cons, List.foldl_nil]
theorem leaN_len (g : Graph) (nb eb : List Bool) : ∀ k, (leaN g nb eb k).length = nb.length
  | 0 => rfl
  | k + 1 => by
    rw [leaN_succ]; split
    ·rw [List.length_set, List.length_set, leaN_len g nb eb k]
    ·exact leaN_len g nb eb k
def Graph.ends (g : Graph) : Prop := ∀ x ∈ g.edges, (0 ≤ x.from_ ∧ x.from_ < g.nodes.length) ∧ 0 ≤ x.to_ ∧ x.to_ < g.nodes.length
theorem ref07_Least (g : Graph) (hn : g.nodes.length ≤ 100000) (he : g.edges.length ≤ 100000) (hin : g.ends) (nb eb : List Bool) (hnb : nb.length = g.nodes.length) (heb : eb.length = g.edges.length) :
    Pure Tryz.prog 183 [g.d, .list (nb.map cB), .list (eb.map cB)] (Part.d ⟨markL (leaN g nb eb g.edges.length), markL eb⟩) := by
  refine Tz.pK ⟨fun t => t == 6 || t == 9, fun _ => []⟩ Tryz.func183 rfl (fun Q hQ => ?_)
  have hcb : (∀ c ∈ nb.map cB, c.length = 1) = True := eq_true (by intro c hc; rw [List.mem_map] at hc; obtain ⟨b, _, rfl⟩ := hc; rfl)
  try simp [go_sem, seval, hnb, heb, ↓hcb]
  repeat first | intro _ | refine ⟨obs, ?_⟩
  obtain ⟨I0, hI0⟩ := mkI fun i e H => ((e 3 = .adr g.c) ∧ (e 2 = .list (eb.map cB)) ∧ (e 6 = .ptr 0 1 0 0) ∧ (e 7 = .own 1 g.nodes.length) ∧ (e 8 = dI i) ∧ (H.get 0 = some ⟨35, 2, [[.nil, .nil]], false⟩) ∧ (0 < H.next) ∧ (H.get 1 = some ⟨4, 1, (leaN g nb eb i).map cB, false⟩) ∧ (1 < H.next) ∧ (i ≤ g.edges.length) ∧ ((leaN g nb eb i).length = g.nodes.length))
  refine loopK I0 (fun i => g.edges.length - i) (0) ((hI0 _ _ _).2 ⟨?_, ?_, ?_, ?_, ?_, ?_, ?_, (by (simp [go_sem, leaN])), ?_, (by first | assumption | omega | (simp [go_sem, hnb, heb, ↓hcb]; done) | (simp_all; done)), (by (rw [leaN_len]; exact hnb))⟩) ?_
  iterate 8 (first | omega | (simp [go_sem, seval, hnb, heb, ↓hcb] <;> omega))
  intro i e H hi0
  obtain ⟨q3_0, q2_0, q6_0, q7_0, q8_0, g0_0, n0_0, g1_0, n1_0, hi, hl⟩ := (hI0 _ _ _).1 hi0
  have x0 := frs n0_0
  have x1 := frs n1_0
  have F0 := And.intro q3_0 (And.intro q2_0 (And.intro q6_0 (And.intro q7_0 (And.intro q8_0 (And.intro g0_0 (And.intro g1_0 (And.intro x0 x1)))))))
  try simp [go_sem, seval, hnb, heb, ↓hcb, F0, hl]
  repeat first | intro _ | refine ⟨obs, ?_⟩
  refine condQ_mk (fun h3 => ?_) (fun h3 => ?_)
  · try simp [go_sem] at h3
    have hib : i < eb.length := by omega
    have hbd : eb[i]?.getD false = eb[i] := by rw [lge hib]; rfl
    have hx := hin _ (lgm h3)
    have hxd : g.edges[i]?.getD ⟨0, 0, 0⟩ = g.edges[i] := by rw [lge h3]; rfl
    have hf : g.edges[i].from_.toNat < (leaN g nb eb i).length := by rw [hl]; omega
    have ht : g.edges[i].to_.toNat < (leaN g nb eb i).length := by rw [hl]; omega
    obtain ⟨z, hz⟩ : ∃ z, (((leaN g nb eb i).map cB).set g.edges[i].from_.toNat [D.bool true])[g.edges[i].to_.toNat]? = some [z] := by
     rw [List.getElem?_set]
     by_cases hft : g.edges[i].from_.toNat = g.edges[i].to_.toNat
     ·rw [if_pos hft, if_pos (by rw [List.length_map]; exact hf)]; exact ⟨_, rfl⟩
     ·rw [if_neg hft, List.getElem?_map, lge ht]; exact ⟨_, rfl⟩
    try simp [go_sem, seval, hnb, heb, ↓hcb, F0, hl, h3, lge h3, lge hib, lge hf, lge ht, hxd, hz]
    repeat first | intro _ | refine ⟨obs, ?_⟩
    refine condQ_mk (fun h5 => ?_) (fun h5 => ?_)
    ·try simp [go_sem] at h5
     try simp [go_sem, seval, hnb, heb, ↓hcb, F0, hl, h3, lge h3, lge hib, lge hf, lge ht, hxd, hz, h5]
     repeat first | intro _ | refine ⟨obs, ?_⟩
     refine nextQ_mk (i + 1) (by omega) ((hI0 _ _ _).2 ⟨?_, ?_, ?_, ?_, ?_, ?_, ?_, (by (simp [go_sem, hnb, heb, ↓hcb, F0, hl, h3, lge h3, lge hib, lge hf, lge ht, hxd, hz, h5, leaN_succ, hbd])), ?_, (by first | assumption | omega | (simp [go_sem, hnb, heb, ↓hcb, F0, hl, h3, lge h3, lge hib, lge hf, lge ht, hxd, hz, h5]; done) | (simp_all <;> omega)), (by (rw [leaN_len]; exact hnb))⟩) <;> first | omega | (simp [go_sem, seval, hnb, heb, ↓hcb, F0, hl, h3, lge h3, lge hib, lge hf, lge ht, hxd, hz, h5] <;> omega)
    ·try simp [go_sem] at h5
     try simp [go_sem, seval, hnb, heb, ↓hcb, F0, hl, h3, lge h3, lge hib, lge hf, lge ht, hxd, hz, h5]
     repeat first | intro _ | refine ⟨obs, ?_⟩
     refine nextQ_mk (i + 1) (by omega) ((hI0 _ _ _).2 ⟨?_, ?_, ?_, ?_, ?_, ?_, ?_, (by (simp [go_sem, hnb, heb, ↓hcb, F0, hl, h3, lge h3, lge hib, lge hf, lge ht, hxd, hz, h5, leaN_succ, hbd])), ?_, (by first | assumption | omega | (simp [go_sem, hnb, heb, ↓hcb, F0, hl, h3, lge h3, lge hib, lge hf, lge ht, hxd, hz, h5]; done) | (simp_all <;> omega)), (by (rw [leaN_len]; exact hnb))⟩) <;> first | omega | (simp [go_sem, seval, hnb, heb, ↓hcb, F0, hl, h3, lge h3, lge hib, lge hf, lge ht, hxd, hz, h5] <;> omega)
  · try simp [go_sem] at h3
    have hI : i = g.edges.length := by omega
    subst hI
    try simp [go_sem, seval, hnb, heb, ↓hcb, F0, hl]
    refine callQ_pureZ (ref07_marked (leaN g nb eb g.edges.length) (by rw [leaN_len]; omega)) (by (simp [go_sem, hnb, heb, ↓hcb, F0, hl]) <;> rfl) ((by first | rfl | (simp [go_sem, ← List.map_take, ← List.map_drop, hnb, heb, ↓hcb, F0, hl]; done))) (by (simp [go_sem, hnb, heb, ↓hcb, F0, hl]) <;> rfl) ?_
    try simp [go_sem, seval, hnb, heb, ↓hcb, F0, hl]
    refine callQ_pure0 (ref07_marked eb (by omega)) ((by first | rfl | (simp [go_sem, ← List.map_take, ← List.map_drop, hnb, heb, ↓hcb, F0, hl]; done))) ?_
    try simp [go_sem, seval, hnb, heb, ↓hcb, F0, hl]
    exact hQ _ _ (by simp [go_sem, hnb, heb, ↓hcb, F0, hl, h3] <;> first | omega | (rw [bei]; simp <;> omega) | (simp_all <;> omega))
end Go.Abs
end
section
set_option maxRecDepth 8000
set_option maxHeartbeats 2000000
open Go Go.Proofs
namespace Go.Abs
def bitB (k : UInt64) (i : Nat) : Bool := (k.toNat : Int).fdiv (2 ^ (min ((i : Int).tmod 64).toNat 64)) % 2 == 1
def bitL (k : UInt64) (off n : Nat) : List Bool := (List.range n).map fun j => bitB k (off + j)
def bitM (k : UInt64) (off n i : Nat) : List Bool := (List.range n).map fun j => decide (j < i) && bitB k (off + j)
theorem bitM_zero (k : UInt64) (off n : Nat) : bitM k off n 0 = List.replicate n false := by
  unfold bitM; apply List.ext_getElem?; intro j
  rw [List.getElem?_map, List.getElem?_replicate]
  by_cases h : j < n
  · rw [List.getElem?_range h, if_pos h]; simp
  · rw [List.getElem?_eq_none (by simpa using h), if_neg h]; rfl
theorem bitM_len (k : UInt64) (off n i : Nat) : (bitM k off n i).length = n := by simp [bitM]
theorem bitM_end (k : UInt64) (off n : Nat) : bitM k off n n = bitL k off n := by
  unfold bitM bitL
  exact List.map_congr_left fun j hj => by simp [List.mem_range.1 hj]
theorem bitM_set {k : UInt64} {off n i : Nat} (h : i < n) : (bitM k off n i).set i (bitB k (off + i)) = bitM k off n (i + 1) := by
  apply List.ext_getElem?; intro j
  rw [List.getElem?_set, bitM_len]
  by_cases hj : i = j
  · subst hj; simp [h, bitM, List.getElem?_range h]
  · rw [if_neg hj]
    simp only [bitM, List.getElem?_map]
    by_cases hn : j < n
    ·rw [List.getElem?_range hn]; simp only [Option.map_some]
     rw [show decide (j < i + 1) = decide (j < i) by rw [decide_eq_decide]; omega]
    ·rw [List.getElem?_eq_none (by simpa using hn)]; rfl
def made7 (g : Graph) (k : UInt64) : Part := ⟨markL (leaN g (bitL k 0 g.nodes.length) (bitL k g.nodes.length g.edges.length) g.edges.length), markL (bitL k g.nodes.length g.edges.length)⟩
theorem ref07_Made (g : Graph) (hn : g.nodes.length ≤ 100000) (he : g.edges.length ≤ 100000) (hin : g.ends) (k : UInt64) : Pure Tryz.prog 100 [g.d, .int .u64 (k.toNat : Int)] (Part.d (made7 g k)) := by
  refine Tz.pK ⟨fun t => t == 4 || t == 12 || t == 16, fun r => match r with | 1 => [(3, 4), (3, 5), (3, 6), (0, 7), (1, 7), (2, 7), (3, 7)] | _ => []⟩ Tryz.func100 rfl (fun Q hQ => ?_)
  try simp [go_sem, seval]
  repeat first | intro _ | refine ⟨obs, ?_⟩
  obtain ⟨I0, hI0⟩ := mkI fun i e H => ((e 2 = .adr g.c) ∧ (e 1 = .int .u64 (k.toNat : Int)) ∧ (e 4 = .ptr 0 1 0 0) ∧ (e 5 = .own 4 g.nodes.length) ∧ (e 6 = .own 8 g.edges.length) ∧ (e 7 = dI i) ∧ (H.get 0 = some ⟨35, 2, [[.nil, .nil]], false⟩) ∧ (0 < H.next) ∧ (H.get 4 = some ⟨4, 1, (bitM k 0 g.nodes.length i).map cB, false⟩) ∧ (4 < H.next) ∧ (H.get 8 = some ⟨4, 1, (List.replicate g.edges.length false).map cB, false⟩) ∧ (8 < H.next) ∧ (i ≤ g.nodes.length) ∧ ((bitM k 0 g.nodes.length i).length = g.nodes.length))
  refine loopK I0 (fun i => g.nodes.length - i) (0) ((hI0 _ _ _).2 ⟨?_, ?_, ?_, ?_, ?_, ?_, ?_, ?_, (by (simp [go_sem, bitM_zero, cB])), ?_, (by (simp [go_sem, cB])), ?_, (by first | assumption | omega | (simp [go_sem]; done) | (simp_all; done)), (by (exact bitM_len _ _ _ _))⟩) ?_
  iterate 10 (first | omega | (simp [go_sem, seval] <;> omega))
  intro i e H hi0
  obtain ⟨q2_0, q1_0, q4_0, q5_0, q6_0, q7_0, g0_0, n0_0, g4_0, n4_0, g8_0, n8_0, hi, hl⟩ := (hI0 _ _ _).1 hi0
  have x0 := frs n0_0
  have x4 := frs n4_0
  have x8 := frs n8_0
  have F0 := And.intro q2_0 (And.intro q1_0 (And.intro q4_0 (And.intro q5_0 (And.intro q6_0 (And.intro q7_0 (And.intro g0_0 (And.intro g4_0 (And.intro g8_0 (And.intro x0 (And.intro x4 x8))))))))))
  try simp [go_sem, seval, F0, hl]
  repeat first | intro _ | refine ⟨obs, ?_⟩
  refine condQ_mk (fun h3 => ?_) (fun h3 => ?_)
  · try simp [go_sem] at h3
    have tm := tmod_in (show 0 ≤ (i : Int) by omega) (show (0 : Int) < 64 by omega)
    have hil : i < (bitM k 0 g.nodes.length i).length := by rw [hl]; exact h3
    try simp [go_sem, seval, F0, hl, h3, lge hil, h3]
    repeat first | intro _ | refine ⟨obs, ?_⟩
    refine nextQ_mk (i + 1) (by omega) ((hI0 _ _ _).2 ⟨?_, ?_, ?_, ?_, ?_, ?_, ?_, ?_, (by (simp [go_sem, F0, hl, h3, lge hil, h3, ← bitM_set h3, List.map_set, bitB, cB])), ?_, (by (simp [go_sem, F0, hl, h3, lge hil, h3])), ?_, (by first | assumption | omega | (simp [go_sem, F0, hl, h3, lge hil, h3]; done) | (simp_all <;> omega)), (by (exact bitM_len _ _ _ _))⟩) <;> first | omega | (simp [go_sem, seval, F0, hl, h3, lge hil, h3] <;> omega)
  · try simp [go_sem] at h3
    have hI : i = g.nodes.length := by omega
    subst hI
    have hN := bitM_end k 0 g.nodes.length
    rw [hN] at hl
    try simp [go_sem, seval, F0, hl, hN]
    obtain ⟨I2, hI2⟩ := mkI fun j e H => ((e 2 = .adr g.c) ∧ (e 1 = .int .u64 (k.toNat : Int)) ∧ (e 4 = .ptr 0 1 0 0) ∧ (e 5 = .own 4 g.nodes.length) ∧ (e 6 = .own 8 g.edges.length) ∧ (e 8 = dI j) ∧ (H.get 0 = some ⟨35, 2, [[.nil, .nil]], false⟩) ∧ (0 < H.next) ∧ (H.get 4 = some ⟨4, 1, (bitL k 0 g.nodes.length).map cB, false⟩) ∧ (4 < H.next) ∧ (H.get 8 = some ⟨4, 1, (bitM k g.nodes.length g.edges.length j).map cB, false⟩) ∧ (8 < H.next) ∧ (j ≤ g.edges.length) ∧ ((bitM k g.nodes.length g.edges.length j).length = g.edges.length))
    refine loopK I2 (fun j => g.edges.length - j) (0) ((hI2 _ _ _).2 ⟨?_, ?_, ?_, ?_, ?_, ?_, ?_, ?_, (by (simp [go_sem, F0, hl, hN])), ?_, (by (simp [go_sem, F0, hl, hN, bitM_zero])), ?_, (by first | assumption | omega | (simp [go_sem, F0, hl, hN]; done) | (simp_all; done)), (by (exact bitM_len _ _ _ _))⟩) ?_
    iterate 10 (first | omega | (simp [go_sem, seval, F0, hl, hN] <;> omega))
    intro j e H hi2
    obtain ⟨q2_2, q1_2, q4_2, q5_2, q6_2, q8_2, g0_2, n0_2, g4_2, n4_2, g8_2, n8_2, hj, hm⟩ := (hI2 _ _ _).1 hi2
    have x0 := frs n0_2
    have x4 := frs n4_2
    have x8 := frs n8_2
    have F2 := And.intro q2_2 (And.intro q1_2 (And.intro q4_2 (And.intro q5_2 (And.intro q6_2 (And.intro q8_2 (And.intro g0_2 (And.intro g4_2 (And.intro g8_2 (And.intro x0 (And.intro x4 x8))))))))))
    try simp [go_sem, seval, hl, hN, F2, hm]
    repeat first | intro _ | refine ⟨obs, ?_⟩
    refine condQ_mk (fun h7 => ?_) (fun h7 => ?_)
    ·try simp [go_sem] at h7
     have tm := tmod_in (show 0 ≤ (g.nodes.length : Int) + (j : Int) by omega) (show (0 : Int) < 64 by omega)
     have hjl : j < (bitM k g.nodes.length g.edges.length j).length := by rw [hm]; exact h7
     try simp [go_sem, seval, hl, hN, F2, hm, h7, lge hjl, h7]
     repeat first | intro _ | refine ⟨obs, ?_⟩
     refine nextQ_mk (j + 1) (by omega) ((hI2 _ _ _).2 ⟨?_, ?_, ?_, ?_, ?_, ?_, ?_, ?_, (by (simp [go_sem, hl, hN, F2, hm, h7, lge hjl, h7])), ?_, (by (simp [go_sem, hl, hN, F2, hm, h7, lge hjl, h7, ← bitM_set h7, List.map_set, bitB, cB])), ?_, (by first | assumption | omega | (simp [go_sem, hl, hN, F2, hm, h7, lge hjl, h7, h3]; done) | (simp_all <;> omega)), (by (exact bitM_len _ _ _ _))⟩) <;> first | omega | (simp [go_sem, seval, hl, hN, F2, hm, h7, lge hjl, h7] <;> omega)
    ·try simp [go_sem] at h7
     have hJ : j = g.edges.length := by omega
     subst hJ
     have hE := bitM_end k g.nodes.length g.edges.length
     rw [hE] at hm
     try simp [go_sem, seval, hl, hN, F2, hm, hE]
     refine callQ_pureZ (ref07_Least g hn he hin (bitL k 0 g.nodes.length) (bitL k g.nodes.length g.edges.length) (by simp [bitL]) (by simp [bitL])) (by (simp [go_sem, hl, hN, F2, hm, hE]) <;> rfl) ((by first | rfl | (simp [go_sem, ← List.map_take, ← List.map_drop, hl, hN, F2, hm, hE]; done))) (by (simp [go_sem, hl, hN, F2, hm, hE]) <;> rfl) ?_
     try simp [go_sem, seval, hl, hN, F2, hm, hE]
     exact hQ _ _ (by first | (left; (simp [go_sem, hl, hN, F2, hm, hE, made7]); done) | (right; (simp [go_sem, hl, hN, F2, hm, hE, made7]); done))
def amongB (t : Types) (ns : List Int) (k : Int) (i : Nat) : Bool := mem (t.line (ns[i]?.getD 0).toNat) k
def amongL (t : Types) (ns : List Int) (k : Int) : List Int := ((List.range ns.length).filter (amongB t ns k)).map fun (i : Nat) => (i : Int)
theorem ref17_among (t : Types) (hv : t.valid) (g : Graph) (hn : g.nodes.length ≤ 100000) (hgn : ∀ a ∈ g.nodes, 0 ≤ a ∧ a < t.nodes.length) (k : Int) (hk : 0 ≤ k) : Own Tryz.prog 249 [t.d, g.d, dI k] 3 1 ((amongL t g.nodes k).map cI) := by
  refine Tz.oK ⟨fun t => t == 7, fun _ => []⟩ Tryz.func249 rfl (fun Q hQ => ?_)
  try simp [go_sem, seval]
  obtain ⟨I0, hI0⟩ := mkI fun i e H => (∃ ys : List Int, (e 3 = .adr t.c) ∧ (e 4 = .adr g.c) ∧ (e 2 = dI k) ∧ (e 7 = .own 0 ys.length) ∧ (e 8 = dI i) ∧ (H.get 0 = some ⟨3, 1, ys.map cI, false⟩) ∧ (0 < H.next) ∧ (i ≤ g.nodes.length) ∧ (ys.length ≤ i) ∧ (ys = ((List.range i).filter (amongB t g.nodes k)).map (fun (b : Nat) => (b : Int))))
  refine loopK I0 (fun i => g.nodes.length - i) (0) ((hI0 _ _ _).2 ⟨([]), ?_, ?_, ?_, ?_, ?_, ?_, ?_, (by first | assumption | omega | (simp [go_sem]; done) | (simp_all; done)), (by simp), (by rfl)⟩) ?_
  iterate 7 (first | omega | (simp [go_sem, seval] <;> omega))
  intro i e H hi0
  obtain ⟨ys, q3_0, q4_0, q2_0, q7_0, q8_0, g0_0, n0_0, hi, hyl, hy⟩ := (hI0 _ _ _).1 hi0
  have x0 := frs n0_0
  have F0 := And.intro q3_0 (And.intro q4_0 (And.intro q2_0 (And.intro q7_0 (And.intro q8_0 (And.intro g0_0 x0)))))
  try simp [go_sem, seval, F0]
  repeat (first | intro _ | (refine ⟨obl, ?_⟩))
  refine condQ_mk (fun h3 => ?_) (fun h3 => ?_)
  · try simp [go_sem] at h3
    have hx := hgn _ (lgm h3)
    have hnn : ((g.nodes[i].toNat : Nat) : Int) = g.nodes[i] := by omega
    have hab : amongB t g.nodes k i = mem (t.line g.nodes[i].toNat) k := by simp [amongB, lge h3]
    try simp [go_sem, seval, F0, h3, lge h3, hab]
    repeat (first | intro _ | (refine ⟨obl, ?_⟩))
    refine dcallQ_pure0 ((by have hb := ref04_Below1 t hv k hk g.nodes[i].toNat (by omega); rw [hnn] at hb; exact hb)) ((by first | rfl | (simp [go_sem, ← List.map_take, ← List.map_drop, F0, h3, lge h3, hab]; done))) ?_
    try simp [go_sem, seval, F0, h3, lge h3, hab]
    repeat (first | intro _ | (refine ⟨obl, ?_⟩))
    refine condQ_mk (fun h5 => ?_) (fun h5 => ?_)
    ·try simp [go_sem] at h5
     try simp [go_sem, seval, F0, h3, lge h3, hab, h5]
     repeat (first | intro _ | (refine ⟨obl, ?_⟩))
     refine nextQ_mk (i + 1) (by omega) ((hI0 _ _ _).2 ⟨(ys ++ (if amongB t g.nodes k i = true then [(i : Int)] else [])), ?_, ?_, ?_, ?_, ?_, ?_, ?_, (by first | assumption | omega | (simp [go_sem, F0, h3, lge h3, hab, h5]; done) | (simp_all <;> omega)), (by (rw [List.length_append]; split <;> simp <;> omega)), (by (rw [range_filter_succ, ← hy]))⟩) <;> first | omega | (simp [go_sem, seval, F0, h3, lge h3, hab, h5] <;> omega)
    ·try simp [go_sem] at h5
     try simp [go_sem, seval, F0, h3, lge h3, hab, h5]
     repeat (first | intro _ | (refine ⟨obl, ?_⟩))
     refine nextQ_mk (i + 1) (by omega) ((hI0 _ _ _).2 ⟨(ys ++ (if amongB t g.nodes k i = true then [(i : Int)] else [])), ?_, ?_, ?_, ?_, ?_, ?_, ?_, (by first | assumption | omega | (simp [go_sem, F0, h3, lge h3, hab, h5]; done) | (simp_all <;> omega)), (by (rw [List.length_append]; split <;> simp <;> omega)), (by (rw [range_filter_succ, ← hy]))⟩) <;> first | omega | (simp [go_sem, seval, F0, h3, lge h3, hab, h5] <;> omega)
  · try simp [go_sem] at h3
    have hY : amongL t g.nodes k = ys := by rw [hy, show i = g.nodes.length by omega]; rfl
    try simp [go_sem, seval, F0]
    exact hQ _ _ _ (by simp [go_sem, F0, hY]) (by simp [go_sem, F0, hY])
end Go.Abs
end
