/- Layer 32: lists and small questions (program and reference). -/
import Derived.Test.YthnegcfdjjhfgaaGreatZlA
import Derived.Test.YthnegcfdjjhfgaaGreatZlO
set_option linter.unusedVariables false
set_option linter.unusedSimpArgs false
section
set_option maxRecDepth 8000
set_option maxHeartbeats 1000000
open Go Go.Proofs
namespace Go.Abs
theorem ref32_index (l : List Int) (v : Int) : Pure Tryz.prog 217 [dLI l, dI v] (dI (idx l v)) := by
  refine Tz.pK ⟨fun _ => false, fun _ => []⟩ Tryz.func217 rfl (fun Q hQ => ?_)
  try simp [go_sem, seval]
  obtain ⟨I0, hI0⟩ := mkI fun i e H => ((e 0 = dLI l) ∧ (e 1 = dI v) ∧ (e 5 = dI i) ∧ (i ≤ l.length) ∧ (∀ j, j < i → l[j]? ≠ some v))
  refine loopK I0 (fun i => l.length - i) (0) ((hI0 _ _ _).2 ⟨?_, ?_, ?_, (by first | assumption | omega | (simp [go_sem]; done) | (simp_all; done)), (by (intro j hj; omega))⟩) ?_
  iterate 3 (first | omega | (simp [go_sem, seval] <;> omega))
  intro i e H hi0
  obtain ⟨q0_0, q1_0, q5_0, hi, hne⟩ := (hI0 _ _ _).1 hi0
  have F0 := And.intro q0_0 (And.intro q1_0 q5_0)
  try simp [go_sem, seval, F0]
  repeat (first | intro _ | (refine ⟨obl, ?_⟩))
  refine condQ_mk (fun h2 => ?_) (fun h2 => ?_)
  · try simp [go_sem] at h2
    try simp [go_sem, seval, F0, h2]
    repeat (first | intro _ | (refine ⟨obl, ?_⟩))
    refine condQ_mk (fun h4 => ?_) (fun h4 => ?_)
    ·try simp [go_sem] at h4
     try simp [go_sem, seval, F0, h2]
     exact hQ _ _ (by first | (left; (rw [idx_some hne (by rw [lge h2, h4])]; simp [go_sem]); done) | (right; (rw [idx_some hne (by rw [lge h2, h4])]; simp [go_sem]); done))
    ·try simp [go_sem] at h4
     try simp [go_sem, seval, F0, h2]
     repeat (first | intro _ | (refine ⟨obl, ?_⟩))
     refine nextQ_mk (i + 1) (by omega) ((hI0 _ _ _).2 ⟨?_, ?_, ?_, (by first | assumption | omega | (simp [go_sem, F0, h2, h4]; done) | (simp_all <;> omega)), (by (exact all_lt_succ hne (by rw [lge h2]; simpa using h4)))⟩) <;> first | omega | (simp [go_sem, seval, F0, h2] <;> omega)
  · try simp [go_sem] at h2
    try simp [go_sem, seval, F0]
    exact hQ _ _ (by first | (left; (rw [idx_none fun j hj => hne j (by omega)]; simp [go_sem]); done) | (right; (rw [idx_none fun j hj => hne j (by omega)]; simp [go_sem]); done))
def inL (l : List Int) (n : Nat) : List Int := ((List.range n).filter fun (i : Nat) => mem l i).map fun (i : Nat) => (i : Int)
theorem ref32_sorted (l : List Int) (n : Nat) (hn : n ≤ 1000000) : Pure Tryz.prog 144 [dI n, dLI l] (dLI (inL l n)) := by
  refine Tz.pK ⟨fun t => t == 5, fun _ => []⟩ Tryz.func144 rfl (fun Q hQ => ?_)
  try simp [go_sem, seval]
  obtain ⟨I0, hI0⟩ := mkI fun i e H => (∃ xs : List Int, (e 1 = dLI l) ∧ (e 0 = dI n) ∧ (e 5 = .own 0 xs.length) ∧ (e 6 = dI i) ∧ (H.get 0 = some ⟨3, 1, xs.map cI, false⟩) ∧ (0 < H.next) ∧ (i ≤ n) ∧ (xs.length ≤ i) ∧ (xs = ((List.range i).filter fun (b : Nat) => mem l b).map (fun (b : Nat) => (b : Int))))
  refine loopK I0 (fun i => n - i) (0) ((hI0 _ _ _).2 ⟨([]), ?_, ?_, ?_, ?_, ?_, ?_, (by first | assumption | omega | (simp [go_sem]; done) | (simp_all; done)), (by simp), (by rfl)⟩) ?_
  iterate 6 (first | omega | (simp [go_sem, seval] <;> omega))
  intro i e H hi0
  obtain ⟨xs, q1_0, q0_0, q5_0, q6_0, g0_0, n0_0, hi, hl, hx⟩ := (hI0 _ _ _).1 hi0
  have x0 := frs n0_0
  have F0 := And.intro q1_0 (And.intro q0_0 (And.intro q5_0 (And.intro q6_0 (And.intro g0_0 x0))))
  try simp [go_sem, seval, F0]
  refine condQ_mk (fun h3 => ?_) (fun h3 => ?_)
  · try simp [go_sem] at h3
    try simp [go_sem, seval, F0, h3]
    refine callQ_pure0 (ref32_index l i) ((by first | rfl | (simp [go_sem, ← List.map_take, ← List.map_drop, F0, h3]; done))) ?_
    try simp [go_sem, seval, F0, h3]
    refine condQ_mk (fun h5 => ?_) (fun h5 => ?_)
    ·try simp [go_sem] at h5
     have hm : mem l i = true := by simpa [mem] using h5
     try simp [go_sem, seval, F0, h3, h5, hm]
     repeat (first | intro _ | (refine ⟨obl, ?_⟩))
     refine nextQ_mk (i + 1) (by omega) ((hI0 _ _ _).2 ⟨(xs ++ (if mem l i = true then [(i : Int)] else [])), ?_, ?_, ?_, ?_, ?_, ?_, (by first | assumption | omega | (simp [go_sem, F0, h3, h5, hm]; done) | (simp_all <;> omega)), (by (rw [List.length_append]; split <;> simp <;> omega)), (by (rw [range_filter_succ, ← hx]))⟩) <;> first | omega | (simp [go_sem, seval, F0, h3, h5, hm] <;> omega)
    ·try simp [go_sem] at h5
     have hm : mem l i = false := by simpa [mem] using h5
     try simp [go_sem, seval, F0, h3, h5, hm]
     repeat (first | intro _ | (refine ⟨obl, ?_⟩))
     refine nextQ_mk (i + 1) (by omega) ((hI0 _ _ _).2 ⟨(xs ++ (if mem l i = true then [(i : Int)] else [])), ?_, ?_, ?_, ?_, ?_, ?_, (by first | assumption | omega | (simp [go_sem, F0, h3, h5, hm]; done) | (simp_all <;> omega)), (by (rw [List.length_append]; split <;> simp <;> omega)), (by (rw [range_filter_succ, ← hx]))⟩) <;> first | omega | (simp [go_sem, seval, F0, h3, h5, hm] <;> omega)
  · try simp [go_sem] at h3
    try simp [go_sem, seval, F0]
    exact hQ _ _ (by first | (left; (simp [go_sem, F0, inL]; rw [hx, show i = n by omega]; simp); done) | (right; (simp [go_sem, F0, inL]; rw [hx, show i = n by omega]; simp); done))
theorem concurrent_others (l : List Int) (n : Nat) (hn : n ≤ 1000000) : Pure Tryz.prog 137 [dLI l, dI n] (dLI (othersL l n)) := by
  refine Tz.pK ⟨fun t => t == 5, fun _ => []⟩ Tryz.func137 rfl (fun Q hQ => ?_)
  try simp [go_sem, seval]
  obtain ⟨I0, hI0⟩ := mkI fun i e H => (∃ xs : List Int, (e 0 = dLI l) ∧ (e 7 = dI n) ∧ (e 5 = .own 0 xs.length) ∧ (e 8 = dI i) ∧ (H.get 0 = some ⟨3, 1, xs.map cI, false⟩) ∧ (0 < H.next) ∧ (i ≤ n) ∧ (xs.length ≤ i) ∧ (xs = ((List.range i).filter fun (b : Nat) => !mem l b).map (fun (b : Nat) => (b : Int))))
  refine loopK I0 (fun i => n - i) (0) ((hI0 _ _ _).2 ⟨([]), ?_, ?_, ?_, ?_, ?_, ?_, (by first | assumption | omega | (simp [go_sem]; done) | (simp_all; done)), (by simp), (by rfl)⟩) ?_
  iterate 6 (first | omega | (simp [go_sem, seval] <;> omega))
  intro i e H hi0
  obtain ⟨xs, q0_0, q7_0, q5_0, q8_0, g0_0, n0_0, hi, hl, hx⟩ := (hI0 _ _ _).1 hi0
  have x0 := frs n0_0
  have F0 := And.intro q0_0 (And.intro q7_0 (And.intro q5_0 (And.intro q8_0 (And.intro g0_0 x0))))
  try simp [go_sem, seval, F0]
  refine condQ_mk (fun h3 => ?_) (fun h3 => ?_)
  · try simp [go_sem] at h3
    try simp [go_sem, seval, F0, h3]
    repeat (first | intro _ | (refine ⟨obl, ?_⟩))
    refine callQ_pure0 (contains_int l i) ((by first | rfl | (simp [go_sem, ← List.map_take, ← List.map_drop, F0, h3]; done))) ?_
    try simp [go_sem, seval, F0, h3]
    repeat (first | intro _ | (refine ⟨obl, ?_⟩))
    refine condQ_mk (fun h5 => ?_) (fun h5 => ?_)
    ·try simp [go_sem] at h5
     try simp [go_sem, seval, F0, h3, h5]
     repeat (first | intro _ | (refine ⟨obl, ?_⟩))
     refine nextQ_mk (i + 1) (by omega) ((hI0 _ _ _).2 ⟨(xs ++ (if (!mem l i) = true then [(i : Int)] else [])), ?_, ?_, ?_, ?_, ?_, ?_, (by first | assumption | omega | (simp [go_sem, F0, h3, h5]; done) | (simp_all <;> omega)), (by (rw [List.length_append]; split <;> simp <;> omega)), (by (rw [range_filter_succ, ← hx]))⟩) <;> first | omega | (simp [go_sem, seval, F0, h3, h5] <;> omega)
    ·try simp [go_sem] at h5
     try simp [go_sem, seval, F0, h3, h5]
     repeat (first | intro _ | (refine ⟨obl, ?_⟩))
     refine nextQ_mk (i + 1) (by omega) ((hI0 _ _ _).2 ⟨(xs ++ (if (!mem l i) = true then [(i : Int)] else [])), ?_, ?_, ?_, ?_, ?_, ?_, (by first | assumption | omega | (simp [go_sem, F0, h3, h5]; done) | (simp_all <;> omega)), (by (rw [List.length_append]; split <;> simp <;> omega)), (by (rw [range_filter_succ, ← hx]))⟩) <;> first | omega | (simp [go_sem, seval, F0, h3, h5] <;> omega)
  · try simp [go_sem] at h3
    try simp [go_sem, seval, F0]
    exact hQ _ _ (by first | (left; (simp [go_sem, F0, othersL]; rw [hx, show i = n by omega]; simp); done) | (right; (simp [go_sem, F0, othersL]; rw [hx, show i = n by omega]; simp); done))
theorem concurrent_sorted (xs : List Int) (hl : xs.length ≤ 1000000) : Pure Tryz.prog 64 [dLI xs] (dLI (sorted xs)) := by
  have hlen := sorted_len xs
  refine Tz.pK ⟨fun _ => false, fun _ => []⟩ Tryz.func64 rfl (fun Q hQ => ?_)
  try simp [go_sem, seval, hlen]
  refine callQ_own0 (clone_int xs hl) ((by first | rfl | (simp [go_sem, ← List.map_take, ← List.map_drop, hlen]; done))) ?_
  try simp [go_sem, seval, hlen]
  unfold callQ; refine sort_int (ty := 3) (xs := xs) (by simp [go_sem]) hl ?_
  try simp [go_sem, seval, hlen]
  exact hQ _ _ (by simp [go_sem, hlen] <;> first | omega | (rw [bei]; simp <;> omega) | (simp_all <;> omega))
def comA (d f : List Int) (n : Nat) : List Int := ((List.range n).filter fun (i : Nat) => mem f (d[i]?.getD 0)).map fun (i : Nat) => (i : Int)
def comB (d f : List Int) (n : Nat) : List Int := ((List.range n).filter fun (i : Nat) => mem f (d[i]?.getD 0)).map fun (i : Nat) => idx f (d[i]?.getD 0)
theorem comA_succ (d f : List Int) {i : Nat} (h : i < d.length) : comA d f (i + 1) = comA d f i ++ (if mem f d[i] = true then [(i : Int)] else []) := by
  unfold comA
  rw [List.range_succ, List.filter_append, List.map_append]
  congr 1
  by_cases hm : mem f d[i] = true <;> simp [h, hm]
theorem comB_succ (d f : List Int) {i : Nat} (h : i < d.length) : comB d f (i + 1) = comB d f i ++ (if mem f d[i] = true then [idx f d[i]] else []) := by
  unfold comB
  rw [List.range_succ, List.filter_append, List.map_append]
  congr 1
  by_cases hm : mem f d[i] = true <;> simp [h, hm]
theorem comA_len (d f : List Int) (n : Nat) : (comA d f n).length ≤ n := by
  unfold comA; rw [List.length_map]; exact Nat.le_trans (List.length_filter_le _ _) (by simp)
theorem comB_len (d f : List Int) (n : Nat) : (comB d f n).length ≤ n := by
  unfold comB; rw [List.length_map]; exact Nat.le_trans (List.length_filter_le _ _) (by simp)
theorem ref32_common (d f : List Int) (hd : d.length ≤ 1000000) : Pure Tryz.prog 148 [dLI d, dLI f] (.tup [dLI (comA d f d.length), dLI (comB d f d.length)]) := by
  refine Tz.pK ⟨fun t => t == 6 || t == 7, fun _ => []⟩ Tryz.func148 rfl (fun Q hQ => ?_)
  try simp [go_sem, seval]
  obtain ⟨I0, hI0⟩ := mkI fun i e H => (∃ xs : List Int, ∃ ys : List Int, (e 0 = dLI d) ∧ (e 1 = dLI f) ∧ (e 6 = .own 0 xs.length) ∧ (e 7 = .own 1 ys.length) ∧ (e 8 = dI i) ∧ (H.get 0 = some ⟨3, 1, xs.map cI, false⟩) ∧ (0 < H.next) ∧ (H.get 1 = some ⟨3, 1, ys.map cI, false⟩) ∧ (1 < H.next) ∧ (i ≤ d.length) ∧ (xs.length ≤ i) ∧ (ys.length ≤ i) ∧ (xs = comA d f i) ∧ (ys = comB d f i))
  refine loopK I0 (fun i => d.length - i) (0) ((hI0 _ _ _).2 ⟨([]), ([]), ?_, ?_, ?_, ?_, ?_, ?_, ?_, ?_, ?_, (by first | assumption | omega | (simp [go_sem]; done) | (simp_all; done)), (by simp), (by simp), (by rfl), (by rfl)⟩) ?_
  iterate 9 (first | omega | (simp [go_sem, seval] <;> omega))
  intro i e H hi0
  obtain ⟨xs, ys, q0_0, q1_0, q6_0, q7_0, q8_0, g0_0, n0_0, g1_0, n1_0, hi, hl, hl2, hx, hy⟩ := (hI0 _ _ _).1 hi0
  have x0 := frs n0_0
  have x1 := frs n1_0
  have F0 := And.intro q0_0 (And.intro q1_0 (And.intro q6_0 (And.intro q7_0 (And.intro q8_0 (And.intro g0_0 (And.intro g1_0 (And.intro x0 x1)))))))
  try simp [go_sem, seval, F0]
  repeat (first | intro _ | (refine ⟨obl, ?_⟩))
  refine condQ_mk (fun h3 => ?_) (fun h3 => ?_)
  · try simp [go_sem] at h3
    have hA := comA_succ d f h3
    have hB := comB_succ d f h3
    rw [← hx] at hA
    rw [← hy] at hB
    try simp [go_sem, seval, F0, h3, lge h3]
    repeat (first | intro _ | (refine ⟨obl, ?_⟩))
    refine callQ_pure0 (ref32_index f d[i]) ((by first | rfl | (simp [go_sem, ← List.map_take, ← List.map_drop, F0, h3, lge h3]; done))) ?_
    try simp [go_sem, seval, F0, h3, lge h3]
    repeat (first | intro _ | (refine ⟨obl, ?_⟩))
    refine condQ_mk (fun h6 => ?_) (fun h6 => ?_)
    ·try simp [go_sem] at h6
     have hm : mem f d[i] = true := by simpa [mem] using h6
     rw [if_pos hm] at hA hB
     obtain ⟨xs2, hxs2⟩ : ∃ x, x = xs ++ [(i : Int)] := ⟨_, rfl⟩
     obtain ⟨ys2, hys2⟩ : ∃ x, x = ys ++ [idx f d[i]] := ⟨_, rfl⟩
     have hx2 : xs2 = comA d f (i + 1) := by rw [hxs2, hA]
     have hy2 : ys2 = comB d f (i + 1) := by rw [hys2, hB]
     try simp [go_sem, seval, F0, h3, lge h3, hxs2, hys2]
     repeat (first | intro _ | (refine ⟨obl, ?_⟩))
     refine nextQ_mk (i + 1) (by omega) ((hI0 _ _ _).2 ⟨(xs2), (ys2), ?_, ?_, ?_, ?_, ?_, ?_, ?_, ?_, ?_, (by first | assumption | omega | (simp [go_sem, F0, h3, lge h3, hxs2, hys2, h6]; done) | (simp_all <;> omega)), (by (rw [hx2]; exact comA_len _ _ _)), (by (rw [hy2]; exact comB_len _ _ _)), (by (exact hx2)), (by (exact hy2))⟩) <;> first | omega | (simp [go_sem, seval, F0, h3, lge h3, hxs2, hys2] <;> omega)
    ·try simp [go_sem] at h6
     have hm : mem f d[i] = false := by simpa [mem] using h6
     rw [if_neg (by rw [hm]; simp)] at hA hB
     obtain ⟨xs2, hxs2⟩ : ∃ x, x = xs := ⟨_, rfl⟩
     obtain ⟨ys2, hys2⟩ : ∃ x, x = ys := ⟨_, rfl⟩
     have hx2 : xs2 = comA d f (i + 1) := by rw [hxs2, hA]; simp
     have hy2 : ys2 = comB d f (i + 1) := by rw [hys2, hB]; simp
     try simp [go_sem, seval, F0, h3, lge h3, hxs2, hys2]
     repeat (first | intro _ | (refine ⟨obl, ?_⟩))
     refine nextQ_mk (i + 1) (by omega) ((hI0 _ _ _).2 ⟨(xs2), (ys2), ?_, ?_, ?_, ?_, ?_, ?_, ?_, ?_, ?_, (by first | assumption | omega | (simp [go_sem, F0, h3, lge h3, hxs2, hys2, h6]; done) | (simp_all <;> omega)), (by (rw [hx2]; exact comA_len _ _ _)), (by (rw [hy2]; exact comB_len _ _ _)), (by (exact hx2)), (by (exact hy2))⟩) <;> first | omega | (simp [go_sem, seval, F0, h3, lge h3, hxs2, hys2] <;> omega)
  · try simp [go_sem] at h3
    have hie : i = d.length := by omega
    subst hie
    try simp [go_sem, seval, F0]
    exact hQ _ _ (by first | (left; (simp [go_sem, F0, hx, hy]); done) | (right; (simp [go_sem, F0, hx, hy]); done))
theorem concurrent_common (d f : List Int) (hd : d.length ≤ 1000000) : Pure Tryz.prog 67 [dLI d, dLI f] (.tup [dLI (comA d f d.length), dLI (comB d f d.length)]) := by
  refine Tz.pK ⟨fun t => t == 6 || t == 7, fun _ => []⟩ Tryz.func67 rfl (fun Q hQ => ?_)
  try simp [go_sem, seval]
  repeat (first | intro _ | (refine ⟨obl, ?_⟩))
  obtain ⟨I0, hI0⟩ := mkI fun i e H => (∃ xs : List Int, ∃ ys : List Int, (e 11 = dLI d) ∧ (e 12 = dI d.length) ∧ (e 1 = dLI f) ∧ (e 6 = .own 0 xs.length) ∧ (e 7 = .own 1 ys.length) ∧ (e 13 = dI i) ∧ (H.get 0 = some ⟨3, 1, xs.map cI, false⟩) ∧ (0 < H.next) ∧ (H.get 1 = some ⟨3, 1, ys.map cI, false⟩) ∧ (1 < H.next) ∧ (i ≤ d.length) ∧ (xs.length ≤ i) ∧ (ys.length ≤ i) ∧ (xs = comA d f i) ∧ (ys = comB d f i))
  refine loopK I0 (fun i => d.length - i) (0) ((hI0 _ _ _).2 ⟨([]), ([]), ?_, ?_, ?_, ?_, ?_, ?_, ?_, ?_, ?_, ?_, (by first | assumption | omega | (simp [go_sem]; done) | (simp_all; done)), (by simp), (by simp), (by rfl), (by rfl)⟩) ?_
  iterate 10 (first | omega | (simp [go_sem, seval] <;> omega))
  intro i e H hi0
  obtain ⟨xs, ys, q11_0, q12_0, q1_0, q6_0, q7_0, q13_0, g0_0, n0_0, g1_0, n1_0, hi, hl, hl2, hx, hy⟩ := (hI0 _ _ _).1 hi0
  have x0 := frs n0_0
  have x1 := frs n1_0
  have F0 := And.intro q11_0 (And.intro q12_0 (And.intro q1_0 (And.intro q6_0 (And.intro q7_0 (And.intro q13_0 (And.intro g0_0 (And.intro g1_0 (And.intro x0 x1))))))))
  try simp [go_sem, seval, F0]
  refine condQ_mk (fun h3 => ?_) (fun h3 => ?_)
  · try simp [go_sem] at h3
    have hA := comA_succ d f h3
    have hB := comB_succ d f h3
    rw [← hx] at hA
    rw [← hy] at hB
    try simp [go_sem, seval, F0, h3, lge h3]
    repeat (first | intro _ | (refine ⟨obl, ?_⟩))
    refine callQ_pure0 (index_int f d[i]) ((by first | rfl | (simp [go_sem, ← List.map_take, ← List.map_drop, F0, h3, lge h3]; done))) ?_
    try simp [go_sem, seval, F0, h3, lge h3]
    repeat (first | intro _ | (refine ⟨obl, ?_⟩))
    refine condQ_mk (fun h6 => ?_) (fun h6 => ?_)
    ·try simp [go_sem] at h6
     have hm : mem f d[i] = true := by simpa [mem] using h6
     rw [if_pos hm] at hA hB
     obtain ⟨xs2, hxs2⟩ : ∃ x, x = xs ++ [(i : Int)] := ⟨_, rfl⟩
     obtain ⟨ys2, hys2⟩ : ∃ x, x = ys ++ [idx f d[i]] := ⟨_, rfl⟩
     have hx2 : xs2 = comA d f (i + 1) := by rw [hxs2, hA]
     have hy2 : ys2 = comB d f (i + 1) := by rw [hys2, hB]
     try simp [go_sem, seval, F0, h3, lge h3, hxs2, hys2]
     repeat (first | intro _ | (refine ⟨obl, ?_⟩))
     refine nextQ_mk (i + 1) (by omega) ((hI0 _ _ _).2 ⟨(xs2), (ys2), ?_, ?_, ?_, ?_, ?_, ?_, ?_, ?_, ?_, ?_, (by first | assumption | omega | (simp [go_sem, F0, h3, lge h3, hxs2, hys2, h6]; done) | (simp_all <;> omega)), (by (rw [hx2]; exact comA_len _ _ _)), (by (rw [hy2]; exact comB_len _ _ _)), (by (exact hx2)), (by (exact hy2))⟩) <;> first | omega | (simp [go_sem, seval, F0, h3, lge h3, hxs2, hys2] <;> omega)
    ·try simp [go_sem] at h6
     have hm : mem f d[i] = false := by simpa [mem] using h6
     rw [if_neg (by rw [hm]; simp)] at hA hB
     obtain ⟨xs2, hxs2⟩ : ∃ x, x = xs := ⟨_, rfl⟩
     obtain ⟨ys2, hys2⟩ : ∃ x, x = ys := ⟨_, rfl⟩
     have hx2 : xs2 = comA d f (i + 1) := by rw [hxs2, hA]; simp
     have hy2 : ys2 = comB d f (i + 1) := by rw [hys2, hB]; simp
     try simp [go_sem, seval, F0, h3, lge h3, hxs2, hys2]
     repeat (first | intro _ | (refine ⟨obl, ?_⟩))
     refine nextQ_mk (i + 1) (by omega) ((hI0 _ _ _).2 ⟨(xs2), (ys2), ?_, ?_, ?_, ?_, ?_, ?_, ?_, ?_, ?_, ?_, (by first | assumption | omega | (simp [go_sem, F0, h3, lge h3, hxs2, hys2, h6]; done) | (simp_all <;> omega)), (by (rw [hx2]; exact comA_len _ _ _)), (by (rw [hy2]; exact comB_len _ _ _)), (by (exact hx2)), (by (exact hy2))⟩) <;> first | omega | (simp [go_sem, seval, F0, h3, lge h3, hxs2, hys2] <;> omega)
  · try simp [go_sem] at h3
    have hie : i = d.length := by omega
    subst hie
    try simp [go_sem, seval, F0]
    exact hQ _ _ (by first | (left; (simp [go_sem, F0, hx, hy]); done) | (right; (simp [go_sem, F0, hx, hy]); done))
def ledL (l by_ : List Int) : List Int := l.map fun x => by_[x.toNat]?.getD 0
theorem ref32_led (l by_ : List Int) (hl : l.length ≤ 1000000) (hin : ∀ x ∈ l, 0 ≤ x ∧ x < by_.length) : Pure Tryz.prog 147 [dLI l, dLI by_] (dLI (ledL l by_)) := by
  refine Tz.pK ⟨fun t => t == 5, fun _ => []⟩ Tryz.func147 rfl (fun Q hQ => ?_)
  try simp [go_sem, seval]
  obtain ⟨I0, hI0⟩ := mkI fun i e H => (∃ xs : List Int, (e 0 = dLI l) ∧ (e 1 = dLI by_) ∧ (e 5 = .own 0 xs.length) ∧ (e 6 = dI i) ∧ (H.get 0 = some ⟨3, 1, xs.map cI, false⟩) ∧ (0 < H.next) ∧ (i ≤ l.length) ∧ (xs.length = i) ∧ (xs = (l.take i).map (fun x => by_[x.toNat]?.getD 0)))
  refine loopK I0 (fun i => l.length - i) (0) ((hI0 _ _ _).2 ⟨([]), ?_, ?_, ?_, ?_, ?_, ?_, (by first | assumption | omega | (simp [go_sem]; done) | (simp_all; done)), (by rfl), (by rfl)⟩) ?_
  iterate 6 (first | omega | (simp [go_sem, seval] <;> omega))
  intro i e H hi0
  obtain ⟨xs, q0_0, q1_0, q5_0, q6_0, g0_0, n0_0, hi, hxl, hx⟩ := (hI0 _ _ _).1 hi0
  have x0 := frs n0_0
  have F0 := And.intro q0_0 (And.intro q1_0 (And.intro q5_0 (And.intro q6_0 (And.intro g0_0 x0))))
  try simp [go_sem, seval, F0]
  repeat (first | intro _ | (refine ⟨obl, ?_⟩))
  refine condQ_mk (fun h3 => ?_) (fun h3 => ?_)
  · try simp [go_sem] at h3
    have hin' := hin _ (lgm h3)
    have hk : l[i].toNat < by_.length := by omega
    try simp [go_sem, seval, F0, h3, lge h3, lge hk]
    repeat (first | intro _ | (refine ⟨obl, ?_⟩))
    refine nextQ_mk (i + 1) (by omega) ((hI0 _ _ _).2 ⟨(xs ++ [by_[l[i].toNat]?.getD 0]), ?_, ?_, ?_, ?_, ?_, ?_, (by first | assumption | omega | (simp [go_sem, F0, h3, lge h3, lge hk]; done) | (simp_all <;> omega)), (by (simp [hxl])), (by (rw [map_take_succ _ h3, ← hx]))⟩) <;> first | omega | (simp [go_sem, seval, F0, h3, lge h3, lge hk] <;> omega)
  · try simp [go_sem] at h3
    try simp [go_sem, seval, F0]
    have hX : ledL l by_ = xs := by rw [hx, map_take_end _ (by omega)]; rfl
    exact hQ _ _ (by first | (left; (simp [go_sem, F0, hX]); done) | (right; (simp [go_sem, F0, hX]); done))
structure Rule.thin (r : Rule) : Prop where
  s1 : r.left.slots.length ≤ 1000000
  t1 : r.left.tests.length ≤ 1000000
  s2 : r.right.slots.length ≤ 1000000
def plainB (r : Rule) : Bool := decide (r.left.vars = 0) && (decide ((r.left.slots.length : Int) + r.left.tests.length + r.right.slots.length = 0) && (r.cond.kind == 1))
def structB (r : Rule) : Bool := r.inj && plainB r
theorem ref24_IsPlain (r : Rule) (ht : r.thin) : Pure Tryz.prog 214 [r.d] (.bool (plainB r)) := by
  obtain ⟨ht1, ht2, ht3⟩ := ht
  refine Tz.pK ⟨fun _ => false, fun _ => []⟩ Tryz.func214 rfl (fun Q hQ => ?_)
  try simp [go_sem, seval]
  repeat (first | intro _ | (refine ⟨obl, ?_⟩))
  exact hQ _ _ (by first | (left; (simp [go_sem, plainB, Bool.and_assoc]); done) | (right; (simp [go_sem, plainB, Bool.and_assoc]); done))
theorem ref32_Plain (r : Rule) (ht : r.thin) : Pure Tryz.prog 140 [r.d] (.bool (structB r)) := by
  refine Tz.pK ⟨fun _ => false, fun _ => []⟩ Tryz.func140 rfl (fun Q hQ => ?_)
  try simp [go_sem, seval]
  repeat (first | intro _ | (refine ⟨obl, ?_⟩))
  refine gcallQ_pure0 (fun hg => ref24_IsPlain r ht) (fun hg => (by first | rfl | (simp [go_sem, ← List.map_take, ← List.map_drop]; done))) ?_
  try simp [go_sem, seval]
  repeat (first | intro _ | (refine ⟨obl, ?_⟩))
  exact hQ _ _ (by first | (left; (simp [go_sem, structB]); done) | (right; (simp [go_sem, structB]); done))
theorem concurrent_structural (r : Rule) (ht : r.thin) : Pure Tryz.prog 58 [r.d] (.bool (structB r)) := by
  obtain ⟨ht1, ht2, ht3⟩ := ht
  refine Tz.pK ⟨fun _ => false, fun _ => []⟩ Tryz.func58 rfl (fun Q hQ => ?_)
  try simp [go_sem, seval]
  repeat (first | intro _ | (refine ⟨obl, ?_⟩))
  exact hQ _ _ (by first | (left; (simp [go_sem, structB, plainB, Bool.and_assoc]); done) | (right; (simp [go_sem, structB, plainB, Bool.and_assoc]); done))
theorem ref04_Below (t : Types) (ht : t.ok) (a : Int) : Pure Tryz.prog 272 [t.d, dI a] (.tup [dLI (belowT t a), dI (given2F t a a)]) := by
  refine Tz.pK ⟨fun t => t == 7, fun _ => []⟩ Tryz.func272 rfl (fun Q hQ => ?_)
  try simp [go_sem, seval]
  refine callQ_pure0 (ref04_given t ht a a) ((by first | rfl | (simp [go_sem, ← List.map_take, ← List.map_drop]; done))) ?_
  try simp [go_sem, seval]
  refine condQ_mk (fun h2 => ?_) (fun h2 => ?_)
  · try simp [go_sem] at h2
    try simp [go_sem, seval]
    exact hQ _ _ (by first | (left; (simp [go_sem, belowT, h2]); done) | (right; (simp [go_sem, belowT, h2]); done))
  · try simp [go_sem] at h2
    obtain ⟨hv, h0, h1⟩ := given2_one h2
    have hN := hv.fewN
    try simp [go_sem, seval]
    obtain ⟨I0, hI0⟩ := mkI fun i e H => (∃ xs : List Int, (e 2 = .adr t.c) ∧ (e 1 = dI a) ∧ (e 7 = .own 0 xs.length) ∧ (e 8 = dI i) ∧ (H.get 0 = some ⟨3, 1, xs.map cI, false⟩) ∧ (0 < H.next) ∧ (i ≤ t.nodes.length) ∧ (xs.length ≤ i) ∧ (xs = ((List.range i).filter fun (b : Nat) => mem (t.line b) a).map (fun (b : Nat) => (b : Int))))
    refine loopK I0 (fun i => t.nodes.length - i) (0) ((hI0 _ _ _).2 ⟨([]), ?_, ?_, ?_, ?_, ?_, ?_, (by first | assumption | omega | (simp [go_sem]; done) | (simp_all; done)), (by simp), (by rfl)⟩) ?_
    iterate 6 (first | omega | (simp [go_sem, seval] <;> omega))
    intro i e H hi0
    obtain ⟨xs, q2_0, q1_0, q7_0, q8_0, g0_0, n0_0, hi, hl, hx⟩ := (hI0 _ _ _).1 hi0
    have x0 := frs n0_0
    have F0 := And.intro q2_0 (And.intro q1_0 (And.intro q7_0 (And.intro q8_0 x0)))
    try simp [go_sem, seval, F0, g0_0]
    repeat (first | intro _ | (refine ⟨obl, ?_⟩))
    refine condQ_mk (fun h6 => ?_) (fun h6 => ?_)
    ·try simp [go_sem] at h6
     try simp [go_sem, seval, F0, g0_0, h6]
     refine callQ_pure0 (ref04_Below1 t hv a h0 i (by omega)) ((by first | rfl | (simp [go_sem, ← List.map_take, ← List.map_drop, F0, g0_0, h6]; done))) ?_
     try simp [go_sem, seval, F0, g0_0, h6]
     refine condQ_mk (fun h8 => ?_) (fun h8 => ?_)
     ·try simp [go_sem] at h8
      try simp [go_sem, seval, F0, g0_0, h6, h8]
      repeat (first | intro _ | (refine ⟨obl, ?_⟩))
      refine nextQ_mk (i + 1) (by omega) ((hI0 _ _ _).2 ⟨(xs ++ (if mem (t.line i) a = true then [(i : Int)] else [])), ?_, ?_, ?_, ?_, ?_, ?_, (by first | assumption | omega | (simp [go_sem, F0, g0_0, h6, h8, h2]; done) | (simp_all <;> omega)), (by (rw [List.length_append]; split <;> simp <;> omega)), (by (rw [range_filter_succ, ← hx]))⟩) <;> first | omega | (simp [go_sem, seval, F0, g0_0, h6, h8] <;> omega)
     ·try simp [go_sem] at h8
      try simp [go_sem, seval, F0, g0_0, h6, h8]
      repeat (first | intro _ | (refine ⟨obl, ?_⟩))
      refine nextQ_mk (i + 1) (by omega) ((hI0 _ _ _).2 ⟨(xs ++ (if mem (t.line i) a = true then [(i : Int)] else [])), ?_, ?_, ?_, ?_, ?_, ?_, (by first | assumption | omega | (simp [go_sem, F0, g0_0, h6, h8, h2]; done) | (simp_all <;> omega)), (by (rw [List.length_append]; split <;> simp <;> omega)), (by (rw [range_filter_succ, ← hx]))⟩) <;> first | omega | (simp [go_sem, seval, F0, g0_0, h6, h8] <;> omega)
    ·try simp [go_sem] at h6
     try simp [go_sem, seval, F0, g0_0]
     exact hQ _ _ (by first | (left; (simp [go_sem, g0_0, belowT, h2]; rw [hx, show i = t.nodes.length by omega]; simp); done) | (right; (simp [go_sem, g0_0, belowT, h2]; rw [hx, show i = t.nodes.length by omega]; simp); done))
def leafB (t : Types) (l : List Int) : Bool := l.all fun k => decide ((belowT t k).length ≤ 1)
theorem ref32_leaves (t : Types) (ht : t.ok) (g : Graph) : Pure Tryz.prog 215 [t.d, g.d] (.bool (leafB t g.nodes)) := by
  refine Tz.pK ⟨fun _ => false, fun _ => []⟩ Tryz.func215 rfl (fun Q hQ => ?_)
  try simp [go_sem, seval]
  obtain ⟨I0, hI0⟩ := mkI fun i e H => ((e 2 = .adr t.c) ∧ (e 3 = .adr g.c) ∧ (e 5 = dI i) ∧ (i ≤ g.nodes.length) ∧ ((g.nodes.take i).all (fun k => decide ((belowT t k).length ≤ 1)) = true))
  refine loopK I0 (fun i => g.nodes.length - i) (0) ((hI0 _ _ _).2 ⟨?_, ?_, ?_, (by first | assumption | omega | (simp [go_sem]; done) | (simp_all; done)), (by rfl)⟩) ?_
  iterate 3 (first | omega | (simp [go_sem, seval] <;> omega))
  intro i e H hi0
  obtain ⟨q2_0, q3_0, q5_0, hi, ha⟩ := (hI0 _ _ _).1 hi0
  have F0 := And.intro q2_0 (And.intro q3_0 q5_0)
  try simp [go_sem, seval, F0]
  repeat (first | intro _ | (refine ⟨obl, ?_⟩))
  refine condQ_mk (fun h2 => ?_) (fun h2 => ?_)
  · try simp [go_sem] at h2
    try simp [go_sem, seval, F0, h2, lge h2]
    repeat (first | intro _ | (refine ⟨obl, ?_⟩))
    refine dcallQ_pure0 (ref04_Below t ht g.nodes[i]) ((by first | rfl | (simp [go_sem, ← List.map_take, ← List.map_drop, F0, h2, lge h2]; done))) ?_
    try simp [go_sem, seval, F0, h2, lge h2]
    repeat (first | intro _ | (refine ⟨obl, ?_⟩))
    refine condQ_mk (fun h5 => ?_) (fun h5 => ?_)
    ·try simp [go_sem] at h5
     try simp [go_sem, seval, F0, h2, lge h2]
     have hF : leafB t g.nodes = false := by
      rw [Bool.eq_false_iff]; intro hh
      have := List.all_eq_true.1 hh _ (lgm h2)
      simp at this; omega
     exact hQ _ _ (by first | (left; (simp [go_sem, hF]); done) | (right; (simp [go_sem, hF]); done))
    ·try simp [go_sem] at h5
     try simp [go_sem, seval, F0, h2, lge h2]
     repeat (first | intro _ | (refine ⟨obl, ?_⟩))
     refine nextQ_mk (i + 1) (by omega) ((hI0 _ _ _).2 ⟨?_, ?_, ?_, (by first | assumption | omega | (simp [go_sem, F0, h2, lge h2, h5]; done) | (simp_all <;> omega)), (by (rw [List.take_succ_eq_append_getElem h2, List.all_append, ha]; simp; omega))⟩) <;> first | omega | (simp [go_sem, seval, F0, h2, lge h2] <;> omega)
  · try simp [go_sem] at h2
    try simp [go_sem, seval, F0]
    have hT : leafB t g.nodes = true := by rw [List.take_of_length_le (by omega)] at ha; exact ha
    exact hQ _ _ (by first | (left; (simp [go_sem, hT]); done) | (right; (simp [go_sem, hT]); done))
theorem ref32_exact (t : Types) (ht : t.ok) (r : Rule) : Pure Tryz.prog 141 [t.d, r.d] (.bool (leafB t r.left.graph.nodes && leafB t r.right.graph.nodes)) := by
  refine Tz.pK ⟨fun _ => false, fun _ => []⟩ Tryz.func141 rfl (fun Q hQ => ?_)
  try simp [go_sem, seval]
  repeat (first | intro _ | (refine ⟨obl, ?_⟩))
  refine callQ_pure0 (ref32_leaves t ht r.left.graph) ((by first | rfl | (simp [go_sem, ← List.map_take, ← List.map_drop]; done))) ?_
  try simp [go_sem, seval]
  repeat (first | intro _ | (refine ⟨obl, ?_⟩))
  refine gcallQ_pure0 (fun hg => ref32_leaves t ht r.right.graph) (fun hg => (by first | rfl | (simp [go_sem, ← List.map_take, ← List.map_drop]; done))) ?_
  try simp [go_sem, seval]
  repeat (first | intro _ | (refine ⟨obl, ?_⟩))
  exact hQ _ _ (by simp [go_sem] <;> first | omega | (rw [bei]; simp <;> omega) | (simp_all <;> omega))
def oneR (t : Types) (r : Rule) : Int := if ruleF t r ≠ 0 then ruleF t r else if structB r = false then 8 else if (leafB t r.left.graph.nodes && leafB t r.right.graph.nodes) = false then 13 else 0
theorem ref32_one (t : Types) (ht : t.ok) (r : Rule) (hr : r.ok) (hth : r.thin) : Pure Tryz.prog 69 [t.d, r.d] (dI (oneR t r)) := by
  refine Tz.pK ⟨fun _ => false, fun _ => []⟩ Tryz.func69 rfl (fun Q hQ => ?_)
  try simp [go_sem, seval]
  refine callQ_pure0 (ref24_Valid t ht r hr) ((by first | rfl | (simp [go_sem, ← List.map_take, ← List.map_drop]; done))) ?_
  try simp [go_sem, seval]
  refine condQ_mk (fun h2 => ?_) (fun h2 => ?_)
  · try simp [go_sem] at h2
    try simp [go_sem, seval]
    exact hQ _ _ (by simp [go_sem, h2, oneR] <;> first | omega | (rw [bei]; simp <;> omega) | (simp_all <;> omega))
  · try simp [go_sem] at h2
    try simp [go_sem, seval]
    repeat (first | intro _ | (refine ⟨obl, ?_⟩))
    refine callQ_pure0 (ref32_Plain r hth) ((by first | rfl | (simp [go_sem, ← List.map_take, ← List.map_drop]; done))) ?_
    try simp [go_sem, seval]
    repeat (first | intro _ | (refine ⟨obl, ?_⟩))
    refine condQ_mk (fun h4 => ?_) (fun h4 => ?_)
    ·try simp [go_sem] at h4
     try simp [go_sem, seval]
     exact hQ _ _ (by simp [go_sem, h2, h4, oneR] <;> first | omega | (rw [bei]; simp <;> omega) | (simp_all <;> omega))
    ·try simp [go_sem] at h4
     try simp [go_sem, seval]
     repeat (first | intro _ | (refine ⟨obl, ?_⟩))
     refine callQ_pure0 (ref32_exact t ht r) ((by first | rfl | (simp [go_sem, ← List.map_take, ← List.map_drop]; done))) ?_
     try simp [go_sem, seval]
     repeat (first | intro _ | (refine ⟨obl, ?_⟩))
     refine condQ_mk (fun h6 => ?_) (fun h6 => ?_)
     ·try simp [go_sem] at h6
      try simp [go_sem, seval]
      have hE : oneR t r = 13 := by unfold oneR; rw [if_neg (by simp [h2]), if_neg (by simp [h4]), if_pos (by rcases h6 with h6 | h6 <;> simp [h6])]
      exact hQ _ _ (by first | (left; (simp [go_sem, hE]); done) | (right; (simp [go_sem, hE]); done))
     ·try simp [go_sem] at h6
      try simp [go_sem, seval]
      have hE : oneR t r = 0 := by unfold oneR; rw [if_neg (by simp [h2]), if_neg (by simp [h4]), if_neg (by simp [h6])]
      exact hQ _ _ (by first | (left; (simp [go_sem, hE]); done) | (right; (simp [go_sem, hE]); done))
def givenR (t : Types) (a b : Rule) : Int := if (validF t).2 ≠ 0 then (validF t).2 else if oneR t a ≠ 0 then oneR t a else oneR t b
theorem ref32_given (t : Types) (ht : t.ok) (a b : Rule) (ha : a.ok) (hb : b.ok) (hat : a.thin) (hbt : b.thin) : Pure Tryz.prog 29 [t.d, a.d, b.d] (dI (givenR t a b)) := by
  refine Tz.pK ⟨fun _ => false, fun _ => []⟩ Tryz.func29 rfl (fun Q hQ => ?_)
  try simp [go_sem, seval]
  refine callQ_pure0 (ref04_Valid t ht) ((by first | rfl | (simp [go_sem, ← List.map_take, ← List.map_drop]; done))) ?_
  try simp [go_sem, seval]
  refine condQ_mk (fun h2 => ?_) (fun h2 => ?_)
  · try simp [go_sem] at h2
    try simp [go_sem, seval]
    exact hQ _ _ (by simp [go_sem, h2, givenR] <;> first | omega | (rw [bei]; simp <;> omega) | (simp_all <;> omega))
  · try simp [go_sem] at h2
    try simp [go_sem, seval]
    refine callQ_pure0 (ref32_one t ht a ha hat) ((by first | rfl | (simp [go_sem, ← List.map_take, ← List.map_drop]; done))) ?_
    try simp [go_sem, seval]
    refine condQ_mk (fun h5 => ?_) (fun h5 => ?_)
    ·try simp [go_sem] at h5
     try simp [go_sem, seval]
     exact hQ _ _ (by simp [go_sem, h2, h5, givenR] <;> first | omega | (rw [bei]; simp <;> omega) | (simp_all <;> omega))
    ·try simp [go_sem] at h5
     try simp [go_sem, seval]
     refine callQ_pure0 (ref32_one t ht b hb hbt) ((by first | rfl | (simp [go_sem, ← List.map_take, ← List.map_drop]; done))) ?_
     try simp [go_sem, seval]
     exact hQ _ _ (by simp [go_sem, h2, h5, givenR] <;> first | omega | (rw [bei]; simp <;> omega) | (simp_all <;> omega))
end Go.Abs
end
section
set_option maxRecDepth 8000
set_option maxHeartbeats 1000000
open Go Go.Proofs
namespace Go.Abs
@[go_sem] theorem rsvD_ptr (H : AHeap) (a b c d : Nat) : rsvD H (.ptr a b c d) = .ptr a b c d := rfl
@[go_sem] theorem ownIds_ptr (a b c d : Nat) : ownIds (.ptr a b c d) = [] := rfl
@[go_sem] theorem next_frz (H : AHeap) (i : Nat) : (H.frz i).next = H.next := (frz_al H i).2
@[go_sem] theorem get_frz (H : AHeap) (i j : Nat) : (H.frz i).get j = if j = i then (H.get i).map (fun k => { k with fz := true }) else H.get j := by
  by_cases h : j = i
  · subst h
    unfold AHeap.frz
    cases hk : H.get j <;> simp [AHeap.put, hk]
  · rw [if_neg h, frz_other H i j h]
theorem callQ_nz {P : Program} {md : Nat → Bool} {ops : Array Oper} {rest : List Oper} {e : Env} {dst : Option Tmp} {K : Env → AHeap → Prop} {f : FuncId} {args args' : List D} {H : AHeap} (ha : args.map nz1 = args') (h : callQ P md ops rest e dst K f args' H) : callQ P md ops rest e dst K f args H := by
  subst ha; unfold callQ at h ⊢
  exact ⟨h.1, fun M0 σ w vals hR hr => h.2 M0 σ w vals hR ⟨by simpa using hr.len, fun j u d hu hd => by
    rw [List.getElem?_map, Option.map_eq_some_iff] at hd
    obtain ⟨y, hy, rfl⟩ := hd
    exact nz1_rep (hr.rep j u y hu hy)⟩⟩
theorem range_fold_succ {β : Type} (f : β → Nat → β) (b : β) (n : Nat) : (List.range (n + 1)).foldl f b = f ((List.range n).foldl f b) n := by
  rw [List.range_succ, List.foldl_append]; rfl
def edgL (y : Edge) : List Int := [y.type, y.from_, y.to_]
def wantL (b : Graph) (ns : List Int) (i : Nat) : List Int := edgL (gluX b ns i)
def edB (a b : Graph) (ns es : List Int) (j : Nat) : Bool := decide (edgL (a.edges[j]?.getD zeroEdge) = wantL b ns es.length) && !mem es j
def ovE (a b : Graph) (ns : List Int) : Nat → List Int → List Ovl → List Ovl
  | 0, es, out => if 2000 < out.length then out else out ++ [glu a b ns es]
  | k + 1, es, out => if 2000 < out.length then out else
    (List.range a.edges.length).foldl (fun out j => if edB a b ns es j = true then ovE a b ns k (es ++ [(j : Int)]) out else out) (ovE a b ns k (es ++ [-1]) out)
theorem ovE_full (a b : Graph) (ns : List Int) (k : Nat) (es : List Int) {out : List Ovl} (h : 2000 < out.length) : ovE a b ns k es out = out := by
  cases k <;> simp only [ovE, if_pos h]
theorem ovE_le (a b : Graph) (ns : List Int) : ∀ (k : Nat) (es : List Int) (out : List Ovl), out.length ≤ 2001 → (ovE a b ns k es out).length ≤ 2001
  | 0, es, out, h => by
    simp only [ovE]
    split
    · exact h
    · simp; omega
  | k + 1, es, out, h => by
    simp only [ovE]
    split
    · exact h
    · have : ∀ (l : List Nat) (o : List Ovl), o.length ≤ 2001 → (l.foldl (fun out j => if edB a b ns es j = true then ovE a b ns k (es ++ [(j : Int)]) out else out) o).length ≤ 2001 := by
        intro l
        induction l with
        | nil => intro o ho; exact ho
        | cons j l ih =>
          intro o ho
          rw [List.foldl_cons]
          refine ih _ ?_
          split
          · exact ovE_le a b ns k _ _ ho
          · exact ho
      exact this _ _ (ovE_le a b ns k _ _ h)
def ndB (a b : Graph) (ns : List Int) (j : Nat) : Bool := decide (a.nodes[j]?.getD 0 = b.nodes[ns.length]?.getD 0) && !mem ns j
def ovN (a b : Graph) : Nat → List Int → List Ovl → List Ovl
  | 0, ns, out => if 2000 < out.length then out else ovE a b ns b.edges.length [] out
  | k + 1, ns, out => if 2000 < out.length then out else
    (List.range a.nodes.length).foldl (fun out j => if ndB a b ns j = true then ovN a b k (ns ++ [(j : Int)]) out else out) (ovN a b k (ns ++ [-1]) out)
theorem ovN_full (a b : Graph) (k : Nat) (ns : List Int) {out : List Ovl} (h : 2000 < out.length) : ovN a b k ns out = out := by
  cases k <;> simp only [ovN, if_pos h]
theorem ovN_le (a b : Graph) : ∀ (k : Nat) (ns : List Int) (out : List Ovl), out.length ≤ 2001 → (ovN a b k ns out).length ≤ 2001
  | 0, ns, out, h => by
    simp only [ovN]
    split
    · exact h
    · exact ovE_le a b ns _ _ _ h
  | k + 1, ns, out, h => by
    simp only [ovN]
    split
    · exact h
    · have : ∀ (l : List Nat) (o : List Ovl), o.length ≤ 2001 → (l.foldl (fun out j => if ndB a b ns j = true then ovN a b k (ns ++ [(j : Int)]) out else out) o).length ≤ 2001 := by
        intro l
        induction l with
        | nil => intro o ho; exact ho
        | cons j l ih =>
          intro o ho
          rw [List.foldl_cons]
          refine ih _ ?_
          split
          · exact ovN_le a b k _ _ ho
          · exact ho
      exact this _ _ (ovN_le a b k _ _ h)
structure OvS (ty f o : Nat) (a b : Graph) (out : List Ovl) (H : AHeap) : Prop where
  bf : H.get f = some ⟨ty, 5, [[dLI a.nodes, .list (a.edges.map Edge.c), dLI b.nodes, .list (b.edges.map Edge.c), .own o out.length]], false⟩
  bo : H.get o = some ⟨45, 6, out.map Ovl.c, false⟩
  le : out.length ≤ 2001
@[go_sem] theorem asInts_edge (x : Edge) : asInts x.c = some (edgL x) := rfl
theorem factor_edges (a b : Graph) (ha : graphF a = 0) (hb : graphF b = 0) (ns : List Int) (hns : ns.length = b.nodes.length) (f o : Nat) (hd : f ≠ o) :
    ∀ (k : Nat) (es : List Int) (out : List Ovl) (G : AHeap) (Q : D → AHeap → Prop), es.length + k = b.edges.length → f < G.next → o < G.next → OvS 177 f o a b out G →
    (∀ H', OvS 177 f o a b (ovE a b ns k es out) H' → (∀ j, j ≠ f → j ≠ o → j < G.next → H'.get j = G.get j) → G.next ≤ H'.next → Q (.tup []) H') → ACalls Tryz.prog 178 [.ptr f 1 0 0, dLI ns, dLI es] G Q := by
  have hla := graphF_le ha
  have hlb := graphF_le hb
  have hib : ∀ x ∈ b.edges, (0 ≤ x.from_ ∧ x.from_ < b.nodes.length) ∧ (0 ≤ x.to_ ∧ x.to_ < b.nodes.length) := fun x hx => ((graphF_in hb).2 x hx).2
  intro k
  induction k using Nat.strongRecOn with
  | _ k ih =>
  intro es out G Q hk hfN hoN hF hQ
  obtain ⟨gf, go, hle⟩ := hF
  have hds := hd.symm
  have ff := frs hfN
  have fo := frs hoN
  refine (acalls_of_body (cfg := ⟨fun t => t == 6 || t == 7 || t == 9, fun r => match r with | 2 => [(2, 16), (3, 16), (4, 16)] | 4 => [(0, 13), (1, 13), (3, 13), (4, 13), (5, 13), (6, 13), (8, 13), (9, 13), (10, 13), (11, 13)] | _ => []⟩) Tz.mixed Tryz.func178 rfl rfl (nlb rfl) (by kernel_rfl) ?_)
  try simp [go_sem, seval, gf, go, hd, hds, ff, fo, Ovl.d, Ovl.c]
  repeat first | intro _ | refine ⟨obs, ?_⟩
  refine condQ_mk (fun h0 => ?_) (fun h0 => ?_)
  · try simp [go_sem] at h0
    have hfull : 2000 < out.length := by omega
    try simp [go_sem, seval, gf, go, hd, hds, ff, fo, Ovl.d, Ovl.c]
    exact hQ _ (by rw [ovE_full _ _ _ _ _ hfull]; exact ⟨gf, go, hle⟩) (by intro j _ _ _; rfl) (Nat.le_refl _)
  · try simp [go_sem] at h0
    have hnf : ¬ 2000 < out.length := by omega
    try simp [go_sem, seval, gf, go, hd, hds, ff, fo, Ovl.d, Ovl.c]
    repeat first | intro _ | refine ⟨obs, ?_⟩
    refine condQ_mk (fun h1 => ?_) (fun h1 => ?_)
    · try simp [go_sem] at h1
      have hk0 : k = 0 := by omega
      subst hk0
      try simp [go_sem, seval, gf, go, hd, hds, ff, fo, Ovl.d, Ovl.c]
      repeat first | intro _ | refine ⟨obs, ?_⟩
      refine dcallQ_pure0 (factor_glued a b ha hb ns es hns (by omega)) ((by first | rfl | (simp [go_sem, ← List.map_take, ← List.map_drop, gf, go, hd, hds, ff, fo, Ovl.d, Ovl.c]; done))) ?_
      try simp [go_sem, seval, gf, go, hd, hds, ff, fo, Ovl.d, Ovl.c]
      repeat first | intro _ | refine ⟨obs, ?_⟩
      exact hQ _ (by simp only [ovE]; rw [if_neg hnf]; exact ⟨by simp [go_sem, gf, go, hd, hds, ff, fo, Ovl.d, Ovl.c], by simp [go_sem, gf, go, hd, hds, ff, fo, Ovl.d, Ovl.c, Ovl.d], by simp; omega⟩) (by intro j h1 h2 h3; simp [go_sem, h1, h2]) (by simp [go_sem] <;> omega)
    · try simp [go_sem] at h1
      obtain ⟨k', rfl⟩ : ∃ k', k = k' + 1 := ⟨k - 1, by omega⟩
      have hel : es.length < b.edges.length := by omega
      have hbx := hib _ (lgm hel)
      have hf1 : b.edges[es.length].from_.toNat < ns.length := by omega
      have hft : b.edges[es.length].to_.toNat < ns.length := by omega
      have hgx : gluX b ns es.length = ⟨b.edges[es.length].type, ns[b.edges[es.length].from_.toNat], ns[b.edges[es.length].to_.toNat]⟩ := by simp only [gluX, lge hel, Option.getD_some, lge hf1, lge hft]
      try simp [go_sem, seval, gf, go, hd, hds, ff, fo, Ovl.d, Ovl.c, lge hel, lge hf1, lge hft]
      repeat first | intro _ | refine ⟨obs, ?_⟩
      refine callQ_own0 (clone_int es (by omega)) ((by first | rfl | (simp [go_sem, ← List.map_take, ← List.map_drop, gf, go, hd, hds, ff, fo, Ovl.d, Ovl.c, lge hel, lge hf1, lge hft]; done))) ?_
      try simp [go_sem, seval, gf, go, hd, hds, ff, fo, Ovl.d, Ovl.c, lge hel, lge hf1, lge hft]
      repeat first | intro _ | refine ⟨obs, ?_⟩
      refine callQ_frz (args' := [.ptr f 1 0 0, dLI ns, dLI (es ++ [-1])]) (by simp [go_sem, gf, go, hd, hds, ff, fo, Ovl.d, Ovl.c, lge hel, lge hf1, lge hft, dLI]) rfl ?_
      unfold callQ
      refine ih k' (by omega) (es ++ [-1]) out _ _ (by simp; omega) (by simp [go_sem]; omega) (by simp [go_sem]; omega) ⟨by simp [go_sem, gf, go, hd, hds, ff, fo, Ovl.d, Ovl.c, lge hel, lge hf1, lge hft], by simp [go_sem, gf, go, hd, hds, ff, fo, Ovl.d, Ovl.c, lge hel, lge hf1, lge hft], hle⟩ (fun H2 hF2 hf2 hn2 => ?_)
      obtain ⟨gf2, go2, hle2⟩ := hF2
      obtain ⟨w7, hw7⟩ : ∃ x, x = G.next + 1 + 13 := ⟨_, rfl⟩
      have gw2 := hf2 w7 (by omega) (by omega) (by simp [go_sem]; omega)
      simp [go_sem, hw7, gf, go, hd, hds, ff, fo, Ovl.d, Ovl.c, lge hel, lge hf1, lge hft] at gw2
      simp [go_sem] at hn2
      have hfr2 : ∀ j, j ≠ f → j ≠ o → j < G.next → H2.get j = G.get j := fun j h1 h2 h3 => by
        have e1 := frs h3
        rw [hf2 j h1 h2 (by simp [go_sem]; omega)]
        simp [go_sem, h1, h2, e1]
      obtain ⟨o1, ho1⟩ : ∃ x, x = ovE a b ns k' (es ++ [-1]) out := ⟨_, rfl⟩
      rw [← ho1] at gf2 go2 hle2
      rw [← hw7] at gw2
      try simp [go_sem, seval, gf, go, hd, hds, ff, fo, Ovl.d, Ovl.c, lge hel, lge hf1, lge hft, gf2, go2, gw2]
      repeat first | intro _ | refine ⟨obs, ?_⟩
      obtain ⟨I0, hI0⟩ := mkI fun j e H => (∃ ou : List Ovl, (e 0 = .ptr f 1 0 0) ∧ (e 1 = dLI ns) ∧ (e 2 = dLI es) ∧ (e 7 = .ptr w7 1 0 0) ∧ (e 78 = .list (a.edges.map Edge.c)) ∧ (e 79 = dI a.edges.length) ∧ (e 80 = dI j) ∧ (H.get f = some ⟨177, 5, [[dLI a.nodes, .list (a.edges.map Edge.c), dLI b.nodes, .list (b.edges.map Edge.c), .own o ou.length]], false⟩) ∧ (f < H.next) ∧ (H.get o = some ⟨45, 6, ou.map Ovl.c, false⟩) ∧ (o < H.next) ∧ (H.get w7 = some ⟨124, 3, [[dI b.edges[es.length].type, dI ns[b.edges[es.length].from_.toNat], dI ns[b.edges[es.length].to_.toNat]]], false⟩) ∧ (w7 < H.next) ∧ (j ≤ a.edges.length) ∧ (ou.length ≤ 2001) ∧ (ou = (List.range j).foldl (fun out j => if edB a b ns es j = true then ovE a b ns k' (es ++ [(j : Int)]) out else out) o1) ∧ (∀ q, q ≠ f → q ≠ o → q < G.next → H.get q = G.get q) ∧ (G.next ≤ H.next))
      refine loopK I0 (fun j => a.edges.length - j) (0) ((hI0 _ _ _).2 ⟨(o1), ?_, ?_, ?_, ?_, ?_, ?_, ?_, ?_, ?_, ?_, ?_, ?_, ?_, (by first | assumption | omega | (simp [go_sem, gf, go, hd, hds, ff, fo, Ovl.d, Ovl.c, lge hel, lge hf1, lge hft, gf2, go2, gw2]; done) | (simp_all; done)), (by (exact hle2)), (by rfl), (by (exact hfr2)), (by omega)⟩) ?_
      iterate 13 (first | omega | (simp [go_sem, seval, gf, go, hd, hds, ff, fo, Ovl.d, Ovl.c, lge hel, lge hf1, lge hft, gf2, go2, gw2] <;> omega))
      intro j e H hi0
      obtain ⟨ou, q0_0, q1_0, q2_0, q7_0, q78_0, q79_0, q80_0, gf_0, nf_0, go_0, no_0, gw7_0, nw7_0, hj, hou, hst, hfr, hnx⟩ := (hI0 _ _ _).1 hi0
      have xf := frs nf_0
      have xo := frs no_0
      have xw7 := frs nw7_0
      have F0 := And.intro q0_0 (And.intro q1_0 (And.intro q2_0 (And.intro q7_0 (And.intro q78_0 (And.intro q79_0 (And.intro q80_0 (And.intro gf_0 (And.intro go_0 (And.intro gw7_0 (And.intro xf (And.intro xo xw7)))))))))))
      have di1 := And.intro (nep (show w7 ≠ o by omega)) (And.intro (nep (show w7 ≠ f by omega)) (nep (show o ≠ f by omega)))
      try simp [go_sem, seval, gf, go, hd, hds, ff, fo, Ovl.d, Ovl.c, lge hel, lge hf1, lge hft, gf2, go2, gw2, F0, di1]
      refine condQ_mk (fun h7 => ?_) (fun h7 => ?_)
      · try simp [go_sem] at h7
        have hEj : edB a b ns es j = (decide (edgL a.edges[j] = edgL (gluX b ns es.length)) && !mem es j) := by unfold edB wantL; rw [lge h7]; rfl
        rw [hgx] at hEj
        try simp [go_sem, seval, gf, go, hd, hds, ff, fo, Ovl.d, Ovl.c, lge hel, lge hf1, lge hft, gf2, go2, gw2, F0, di1, h7, lge h7]
        repeat first | intro _ | refine ⟨obs, ?_⟩
        refine gcallQ_pure0 (fun hg => contains_int es j) (fun hg => (by first | rfl | (simp [go_sem, ← List.map_take, ← List.map_drop, gf, go, hd, hds, ff, fo, Ovl.d, Ovl.c, lge hel, lge hf1, lge hft, gf2, go2, gw2, F0, di1, h7, lge h7]; done))) ?_
        try simp [go_sem, seval, gf, go, hd, hds, ff, fo, Ovl.d, Ovl.c, lge hel, lge hf1, lge hft, gf2, go2, gw2, F0, di1, h7, lge h7]
        repeat first | intro _ | refine ⟨obs, ?_⟩
        refine condQ_mk (fun h9 => ?_) (fun h9 => ?_)
        · try simp [go_sem] at h9
          have hE : edB a b ns es j = true := by rw [hEj]; simpa [edgL] using h9
          obtain ⟨ou2, hou2⟩ : ∃ x, x = ovE a b ns k' (es ++ [(j : Int)]) ou := ⟨_, rfl⟩
          try simp [go_sem, seval, gf, go, hd, hds, ff, fo, Ovl.d, Ovl.c, lge hel, lge hf1, lge hft, gf2, go2, gw2, F0, di1, h7, lge h7]
          repeat first | intro _ | refine ⟨obs, ?_⟩
          refine callQ_own0 (clone_int es (by omega)) ((by first | rfl | (simp [go_sem, ← List.map_take, ← List.map_drop, gf, go, hd, hds, ff, fo, Ovl.d, Ovl.c, lge hel, lge hf1, lge hft, gf2, go2, gw2, F0, di1, h7, lge h7]; done))) ?_
          try simp [go_sem, seval, gf, go, hd, hds, ff, fo, Ovl.d, Ovl.c, lge hel, lge hf1, lge hft, gf2, go2, gw2, F0, di1, h7, lge h7]
          repeat first | intro _ | refine ⟨obs, ?_⟩
          refine callQ_frz (args' := [.ptr f 1 0 0, dLI ns, dLI (es ++ [(j : Int)])]) (by simp [go_sem, gf, go, hd, hds, ff, fo, Ovl.d, Ovl.c, lge hel, lge hf1, lge hft, gf2, go2, gw2, F0, di1, h7, lge h7, dLI]) rfl ?_
          unfold callQ
          refine ih k' (by omega) (es ++ [(j : Int)]) ou _ _ (by simp; omega) (by simp [go_sem]; omega) (by simp [go_sem]; omega) ⟨by simp [go_sem, gf, go, hd, hds, ff, fo, Ovl.d, Ovl.c, lge hel, lge hf1, lge hft, gf2, go2, gw2, F0, di1, h7, lge h7], by simp [go_sem, gf, go, hd, hds, ff, fo, Ovl.d, Ovl.c, lge hel, lge hf1, lge hft, gf2, go2, gw2, F0, di1, h7, lge h7], hou⟩ (fun H3 hF3 hf3 hn3 => ?_)
          rw [← hou2] at hF3
          obtain ⟨gf3, go3, hle3⟩ := hF3
          have gw3 := hf3 w7 (by omega) (by omega) (by simp [go_sem]; omega)
          simp [go_sem, gf, go, hd, hds, ff, fo, Ovl.d, Ovl.c, lge hel, lge hf1, lge hft, gf2, go2, gw2, F0, di1, h7, lge h7] at gw3
          simp [go_sem] at hn3
          have hfr3 : ∀ j, j ≠ f → j ≠ o → j < G.next → H3.get j = G.get j := fun j h1 h2 h3 => by
            have e1 := frs (show j < H.next by omega)
            rw [hf3 j h1 h2 (by simp [go_sem]; omega)]
            simp [go_sem, h1, h2, e1]
            exact hfr j h1 h2 h3
          have fr2 := And.intro (frs (show f < H3.next by omega)) (And.intro (frs (show o < H3.next by omega)) (frs (show w7 < H3.next by omega)))
          try simp [go_sem, seval, gf, go, hd, hds, ff, fo, Ovl.d, Ovl.c, lge hel, lge hf1, lge hft, gf2, go2, gw2, F0, di1, h7, lge h7, gf3, go3, gw3, hou2, fr2]
          repeat first | intro _ | refine ⟨obs, ?_⟩
          refine nextQ_mk (j + 1) (by omega) ((hI0 _ _ _).2 ⟨(ou2), ?_, ?_, ?_, ?_, ?_, ?_, ?_, ?_, ?_, ?_, ?_, ?_, ?_, (by first | assumption | omega | (simp [go_sem, gf, go, hd, hds, ff, fo, Ovl.d, Ovl.c, lge hel, lge hf1, lge hft, gf2, go2, gw2, F0, di1, h7, lge h7, gf3, go3, gw3, hou2, fr2, h0, h1, h9]; done) | (simp_all <;> omega)), (by (rw [hou2]; first | exact hou | exact ovE_le _ _ _ _ _ _ hou)), (by (rw [range_fold_succ, ← hst, hou2]; first | rw [if_pos hE] | rw [if_neg (by rw [hE]; simp)])), (by (first | exact hfr3 | (intro q h1 h2 h3; simp [go_sem, h1, h2, frs (show q < H.next by omega)]; exact hfr q h1 h2 h3))), (by (first | omega | (simp [go_sem]; omega)))⟩) <;> first | omega | (simp [go_sem, seval, gf, go, hd, hds, ff, fo, Ovl.d, Ovl.c, lge hel, lge hf1, lge hft, gf2, go2, gw2, F0, di1, h7, lge h7, gf3, go3, gw3, hou2, fr2] <;> omega)
        · try simp [go_sem] at h9
          have hE : edB a b ns es j = false := by rw [hEj, Bool.eq_false_iff]; intro hb'; simp [edgL] at hb' h9; simp_all
          obtain ⟨ou2, hou2⟩ : ∃ x, x = ou := ⟨_, rfl⟩
          try simp [go_sem, seval, gf, go, hd, hds, ff, fo, Ovl.d, Ovl.c, lge hel, lge hf1, lge hft, gf2, go2, gw2, F0, di1, h7, lge h7, hou2]
          repeat first | intro _ | refine ⟨obs, ?_⟩
          refine nextQ_mk (j + 1) (by omega) ((hI0 _ _ _).2 ⟨(ou2), ?_, ?_, ?_, ?_, ?_, ?_, ?_, ?_, ?_, ?_, ?_, ?_, ?_, (by first | assumption | omega | (simp [go_sem, gf, go, hd, hds, ff, fo, Ovl.d, Ovl.c, lge hel, lge hf1, lge hft, gf2, go2, gw2, F0, di1, h7, lge h7, hou2, h0, h1, h9]; done) | (simp_all <;> omega)), (by (rw [hou2]; first | exact hou | exact ovE_le _ _ _ _ _ _ hou)), (by (rw [range_fold_succ, ← hst, hou2]; first | rw [if_pos hE] | rw [if_neg (by rw [hE]; simp)])), (by (first | exact hfr3 | (intro q h1 h2 h3; simp [go_sem, h1, h2, frs (show q < H.next by omega)]; exact hfr q h1 h2 h3))), (by (first | omega | (simp [go_sem]; omega)))⟩) <;> first | omega | (simp [go_sem, seval, gf, go, hd, hds, ff, fo, Ovl.d, Ovl.c, lge hel, lge hf1, lge hft, gf2, go2, gw2, F0, di1, h7, lge h7, hou2] <;> omega)
      · try simp [go_sem] at h7
        have hJ : j = a.edges.length := by omega
        have hOV : ovE a b ns (k' + 1) es out = ou := by simp only [ovE]; rw [if_neg hnf, ← ho1, hst, hJ]
        try simp [go_sem, seval, gf, go, hd, hds, ff, fo, Ovl.d, Ovl.c, lge hel, lge hf1, lge hft, gf2, go2, gw2, F0, di1]
        exact hQ _ (by rw [hOV]; exact ⟨by assumption, by assumption, hou⟩) hfr hnx
end Go.Abs
end
section
namespace Go.Abs
def ren (id : Nat) : D → D
  | .own 0 n => .own id n
  | d => d
section
variable {P : Program} {M0 : Nat → Prop} {H : AHeap} {σ : Nat → Option Ow} {w : World}
theorem ren_own (id n : Nat) : ren id (.own 0 n) = .own id n := rfl
theorem push0_get (k : Blk) : (AHeap.emp.push 0 k).get 0 = some k := rfl
theorem ACalls.turn {f : FuncId} {args : List D} {k k' : Blk} {r : D} {id : Nat} {Q : D → AHeap → Prop}
    (h : ACalls P f args (AHeap.emp.push 0 k) fun d H' => rsvT H' d = r ∧ r.cl = true ∧ 0 ∉ ownT d ∧ H'.get 0 = some k')
    (hargs : ∀ d ∈ args, d.cl = true ∨ d = .own 0 k.es.length) (hk : k.fz = false) (hk' : k'.fz = false) (hcl : D.clLL k.es = true) (hfl : ∀ d ∈ k'.es.flatten, d.flat = true) (hg : H.get id = some k) (hQ : Q r (H.put id k')) :
    ACalls P f (args.map (ren id)) H Q := by
  refine ⟨h.1, fun M0 σ w vals hR ha => ?_⟩
  obtain ⟨o, ho, l⟩ := hR.lies id k hg
  obtain ⟨xs, hrow, hx1, hrep⟩ := l.row
  obtain ⟨σ0, hσ0⟩ : ∃ s : Nat → Option Ow, s = fun i => if i = 0 then some o else none := ⟨_, rfl⟩
  obtain ⟨M1, hM1⟩ : ∃ m : Nat → Prop, m = fun b => Mut M0 H σ b ∧ o.block ≠ some b := ⟨_, rfl⟩
  have s0 : σ0 0 = some o := by rw [hσ0]; rfl
  have sn : ∀ i o', σ0 i = some o' → i = 0 ∧ o' = o := fun i o' hi => by
    rw [hσ0] at hi
    by_cases h0 : i = 0
    · simp only [h0, if_true, Option.some.injEq] at hi; exact ⟨h0, hi.symm⟩
    · simp only [h0, if_false] at hi; cases hi
  have g0 : ∀ i k1, (AHeap.emp.push 0 k).get i = some k1 → i = 0 ∧ k1 = k := fun i k1 hi => by
    by_cases h0 : i = 0
    · subst h0; rw [push0_get] at hi; exact ⟨rfl, (Option.some.inj hi).symm⟩
    · simp [AHeap.push, AHeap.emp, h0] at hi
  have hob : ∀ b, o.block = some b → Mut M0 H σ b := fun b hb => .inr ⟨id, k, o, hg, hk, ho, hb⟩
  have hmut : ∀ b, Mut M1 (AHeap.emp.push 0 k) σ0 b → Mut M0 H σ b := by
    rintro b (hb | ⟨i, k1, o1, hk1, hf, ho1, hb⟩)
    · rw [hM1] at hb; exact hb.1
    · obtain ⟨_, rfl⟩ := sn i o1 ho1
      exact hob b hb
  have hcF : ∀ {es : List (List D)}, D.clLL es = true → D.clL es.flatten = true := fun {es} hc => D.clL_of fun d hd => by
    obtain ⟨c, hcm, hxm⟩ := List.mem_flatten.1 hd
    exact D.clL_mem (D.clLL_mem hc c hcm) d hxm
  have hR0 : Rel M1 (AHeap.emp.push 0 k) σ0 w := by
    refine ⟨fun i hi => ?_, fun i hi => ?_, fun i k1 hk1 => ?_, fun i j oi oj b hi hj hbi hbj => ?_, fun i oi b hi hbi => ?_, fun b hb => ?_⟩
    · have h0 : i ≠ 0 := fun e => hi (.inl e)
      exact ⟨by rw [hσ0]; simp [h0], by simp [AHeap.push, AHeap.emp, h0]⟩
    · rcases hi with hi | hi
      · subst hi; simp [AHeap.push, AHeap.emp]
      · exact hi.elim
    · obtain ⟨h0, h1⟩ := g0 i k1 hk1
      subst h0; subst h1
      exact ⟨o, s0, l.ver, l.ty, l.sz, l.esz, xs, hrow, hx1, repL_closed (fun b hb hb' => hb (hmut b hb')) hrep (hcF hcl)⟩
    · rw [(sn i oi hi).1, (sn j oj hj).1]
    · obtain ⟨_, rfl⟩ := sn i oi hi
      exact ⟨(hR.lt id oi b ho hbi).1, fun hb => by rw [hM1] at hb; exact hb.2 hbi⟩
    · rw [hM1] at hb; exact mut_lt hR b hb.1
  have ha0 : RepL (Mut M1 (AHeap.emp.push 0 k) σ0) σ0 (AHeap.emp.push 0 k).al w vals args := by
    refine ⟨by simpa using ha.len, fun j u d hu hd => ?_⟩
    have hj := ha.rep j u (ren id d) hu (by rw [List.getElem?_map, hd]; rfl)
    rcases hargs d (List.mem_of_getElem? hd) with hc | rfl
    · have hren : ren id d = d := by cases d <;> first | rfl | (simp [D.cl] at hc)
      rw [hren] at hj
      exact hj.closed (fun ad u hm hu => ⟨fun hm' => hm (hmut _ hm'), hu⟩) hc
    · rw [ren_own] at hj
      cases hj
      rename_i h1 hN hv
      exact .own u _ _ (.inl rfl) (by first | exact h1 | exact hN) fun o1 ho1 => by
        obtain ⟨_, rfl⟩ := sn 0 o1 ho1
        exact hv o1 ho
  refine (h.2 M1 σ0 w vals hR0 ha0).mono fun e w' ⟨v, d, H', σ', he, hR', hv, hst, hkp, hr, hrcl, hr0, hg'⟩ => ?_
  obtain ⟨o', ho', l'⟩ := hR'.lies 0 k' hg'
  obtain ⟨xs', hrow', hx1', hrep'⟩ := l'.row
  obtain ⟨o2, ho2, hle⟩ := hkp.own 0 o' (.inl rfl) ho'
  rw [s0] at ho2
  cases ho2
  have hgr : w.grownBy w' o.block := ⟨hst.os, hst.tape, hst.output, hst.size, fun b hb hne => hst.old b hb fun i o1 hi => by
    obtain ⟨_, rfl⟩ := sn i o1 hi
    exact fun hb' => hne (by first | simpa using hb' | exact hb'.symm | exact hb')⟩
  have hnew : ∀ b, o'.block = some b → o.block = some b ∨ w.heap.size ≤ b := fun b hb => by
    rcases hst.new 0 o' b ho' hb with h1 | ⟨o1, h1, h2⟩
    · exact .inr h1
    · rw [s0] at h1; cases h1; exact .inl h2
  obtain ⟨p1, p2, p3⟩ := Rel.put hR hg hk ho k' o' hgr hnew hle l'.ver l'.ty l'.sz l'.esz xs' hrow' hx1'
    ⟨hrep'.len, fun j u d hu hd => flat_rep (hrep'.rep j u d hu hd) (hfl d (List.mem_of_getElem? hd))⟩
  have hv' := rsvT_frozen hR' hv (ownT d) fun i hi => hi
  rw [hr] at hv'
  obtain ⟨_, _, _, f4⟩ := frzs_sound (ownT d) hR'
  refine ⟨v, r, _, _, he, p1, hv'.closed (fun ad u hm hu => ⟨fun hm' => hm ?_, hu⟩) hrcl, p2, p3, hQ⟩
  rcases hm' with h0 | ⟨i, k1, o1, hk1, hf, ho1, hb⟩
  · left
    rw [hM1]
    exact ⟨.inl h0, fun hb => (hR.lt id o _ ho hb).2 h0⟩
  · by_cases hi : i = id
    · simp only [hi, if_true, Option.some.injEq] at ho1
      subst ho1
      right
      obtain ⟨f41, f42⟩ := f4 0
      rw [hg'] at f41
      cases hq : (frzs (ownT d) H').get 0 with
      | none => rw [hq] at f41; cases f41
      | some kq =>
        refine ⟨0, kq, o', hq, ?_, ho', hb⟩
        rw [frzs_other _ _ 0 hr0, hg'] at hq
        cases hq
        exact hk'
    · simp only [hi, if_false] at ho1
      simp only [AHeap.put, hi, if_false] at hk1
      left
      rw [hM1]
      exact ⟨.inr ⟨i, k1, o1, hk1, hf, ho1, hb⟩, fun hb' => hi (hR.inj i id o1 o _ ho1 ho hb hb')⟩
end
section
variable {P : Program} {M0 : Nat → Prop} {H : AHeap} {σ : Nat → Option Ow} {w : World}
def Own2T (P : Program) (f : FuncId) (args : List D) (b1 b2 : Blk) (tl : List D) : Prop :=
  Ent P f ∧ D.clL tl = true ∧ b1.fz = false ∧ b2.fz = false ∧ ∀ (M : Nat → Prop) (w : World) (vals : List Value), (∀ b, M b → b < w.heap.size) → RepL M noRef noId w vals args →
    Calls P f vals.toArray w fun e w' => ∃ v1 v2 xs1 xs2 us, e = .returned (.tuple (Value.agg #[v1, v2] :: us).toArray) ∧ RepL (fun b => M b ∨ v1.ownBlock = some b ∨ v2.ownBlock = some b) noRef noId w' us tl ∧ Made (fun b => M b ∨ v1.ownBlock = some b ∨ v2.ownBlock = some b) w w' v1 b1 xs1 ∧ Made (fun b => M b ∨ v1.ownBlock = some b ∨ v2.ownBlock = some b) w w' v2 b2 xs2 ∧
      (∀ b, v1.ownBlock = some b → v2.ownBlock ≠ some b) ∧ RowKit.Below w.heap.size w w'
theorem own2T_of_calls {f : FuncId} {args : List D} {b1 b2 : Blk} {tl : List D} (htl : D.clL tl = true) (hf1 : b1.fz = false) (hf2 : b2.fz = false) (hcl1 : D.clLL b1.es = true) (hcl2 : D.clLL b2.es = true)
    (h : ACalls P f args .emp fun d H' => ∃ i j, i ≠ j ∧ d = .tup (.agg [.own i b1.es.length, .own j b2.es.length] :: tl) ∧ H'.get i = some b1 ∧ H'.get j = some b2) : Own2T P f args b1 b2 tl := by
  refine ⟨h.1, htl, hf1, hf2, fun M w vals hM ha => (h.2 M noRef w vals (rel_emp M w hM) (by rw [mut_emp]; exact ha)).mono fun e w' ⟨v, d, H', σ', he, hR, hv, hst, hk, i, j, hij, hd, hg1, hg2⟩ => ?_⟩
  subst hd
  cases hv
  rename_i vt hlt hrt
  obtain ⟨v0, us, rfl⟩ : ∃ v0 us, vt = v0 :: us := by
    match vt, hlt with
    | a :: l, _ => exact ⟨a, l, rfl⟩
  have hv0 := hrt 0 v0 _ rfl rfl
  cases hv0
  rename_i vs hv1 hl hr
  obtain ⟨v1, v2, rfl⟩ : ∃ v1 v2, vs = [v1, v2] := by
    match vs, hl with
    | [a, b], _ => exact ⟨a, b, rfl⟩
  have r1 := hr 0 v1 _ rfl rfl
  have r2 := hr 1 v2 _ rfl rfl
  obtain ⟨o1, ho1, l1⟩ := hR.lies i b1 hg1
  obtain ⟨o2, ho2, l2⟩ := hR.lies j b2 hg2
  obtain ⟨xs1, row1, x1, p1⟩ := l1.row
  obtain ⟨xs2, row2, x2, p2⟩ := l2.row
  have e1 : v1 = o1.val := by
    cases r1
    rename_i _ _ hval
    rcases hval o1 ho1 with hlt | ⟨_, h⟩
    · have := l1.ver; omega
    · exact h
  have e2 : v2 = o2.val := by
    cases r2
    rename_i _ _ hval
    rcases hval o2 ho2 with hlt | ⟨_, h⟩
    · have := l2.ver; omega
    · exact h
  subst e1 e2
  have hM' : ∀ b, ¬ (M b ∨ o1.val.ownBlock = some b ∨ o2.val.ownBlock = some b) ↔ ¬ M b ∧ ¬ o1.val.ownBlock = some b ∧ ¬ o2.val.ownBlock = some b := fun b => by simp only [not_or]
  have hmu : ∀ b, ¬ Mut M H' σ' b → ¬ (M b ∨ o1.val.ownBlock = some b ∨ o2.val.ownBlock = some b) := fun b hm hh => by
    rcases hh with hh | hh | hh
    · exact hm (.inl hh)
    · exact hm (.inr ⟨i, b1, o1, hg1, hf1, ho1, hh⟩)
    · exact hm (.inr ⟨j, b2, o2, hg2, hf2, ho2, hh⟩)
  have hflat : ∀ {es : List (List D)}, D.clLL es = true → D.clL es.flatten = true := fun {es} hc => D.clL_of fun d hd => by
    obtain ⟨c, hcm, hxm⟩ := List.mem_flatten.1 hd
    exact D.clL_mem (D.clLL_mem hc c hcm) d hxm
  have hrow : ∀ {o : Ow} {b : Blk} {q : Nat} {xs : List Value}, σ' q = some o → w'.ownsRow 0 b.ty o.esz o.val b.es.length xs → o.esz = b.sz → w'.ownsRow w.heap.size b.ty b.sz o.val b.es.length xs := fun {o b q xs} ho hrow hs => by
    rw [← hs]
    refine ⟨hrow.1, ?_⟩
    rcases hrow.2 with hn | ⟨g, cap, cur, h1, _, h3⟩
    · exact .inl hn
    · refine .inr ⟨g, cap, cur, h1, ?_, h3⟩
      rcases hst.new q o g ho (by simp [Ow.block, h1, Value.ownBlock]) with h | ⟨o', h, _⟩
      · exact h
      · simp [noRef] at h
  refine ⟨o1.val, o2.val, xs1, xs2, us, he, repL_closed hmu ⟨by simpa using hlt, fun j u d hu hd => hrt (j + 1) u d (by simpa using hu) (by simpa using hd)⟩ htl, ⟨hrow ho1 row1 l1.sz, x1, repL_closed hmu p1 (hflat hcl1), hcl1, fun c hc => (l1.esz c hc).trans l1.sz⟩, ⟨hrow ho2 row2 l2.sz, x2, repL_closed hmu p2 (hflat hcl2), hcl2, fun c hc => (l2.esz c hc).trans l2.sz⟩, fun b hb hb' => ?_, stp_below hst⟩
  exact hij (hR.inj i j o1 o2 b ho1 ho2 hb hb')
theorem own2TK {f : FuncId} {args : List D} {b1 b2 : Blk} {tl : List D} (htl : D.clL tl = true) (hf1 : b1.fz = false := by rfl) (hf2 : b2.fz = false := by rfl) (hcl1 : D.clLL b1.es = true) (hcl2 : D.clLL b2.es = true)
    (h : ∀ Q : D → AHeap → Prop, (∀ i j n m H', i ≠ j → n = b1.es.length → m = b2.es.length → H'.get i = some b1 → H'.get j = some b2 → Q (.tup (.agg [.own i n, .own j m] :: tl)) H') → ACalls P f args .emp Q) : Own2T P f args b1 b2 tl :=
  own2T_of_calls htl hf1 hf2 hcl1 hcl2 (h _ fun i j n m H' hij hn hm h1 h2 => ⟨i, j, hij, by rw [hn, hm], h1, h2⟩)
theorem ACalls.own2TQ {f : FuncId} {args : List D} {b1 b2 : Blk} {tl : List D} {Q : D → AHeap → Prop} (hp : Own2T P f args b1 b2 tl) (hcl : D.clL args = true) (i j : Nat) (hij : i ≠ j) (hi : ¬ H.al i) (hj : ¬ H.al j)
    (hQ : Q (.tup (.agg [.own i b1.es.length, .own j b2.es.length] :: tl)) ((H.push i b1).push j b2)) : ACalls P f args H Q := by
  refine ⟨hp.1, fun M0 σ w vals hR ha => (hp.2.2.2.2 (Mut M0 H σ) w vals (mut_lt hR) (repL_closed (fun _ h => h) ha hcl)).mono fun e w' ⟨v1, v2, xs1, xs2, us, he, hus, m1, m2, hdis, hb⟩ => ?_⟩
  have hflat : ∀ {es : List (List D)}, D.clLL es = true → D.clL es.flatten = true := fun {es} hc => D.clL_of fun d hd => by
    obtain ⟨c, hcm, hxm⟩ := List.mem_flatten.1 hd
    exact D.clL_mem (D.clLL_mem hc c hcm) d hxm
  have hG : ∀ ad, ¬ (Mut M0 H σ ad ∨ v1.ownBlock = some ad ∨ v2.ownBlock = some ad) → ¬ Mut M0 ((H.push i b1).push j b2) (fun q => if q = j then some (Ow.mk b2.es.length v2 b2.sz b2.ty) else if q = i then some (Ow.mk b1.es.length v1 b1.sz b1.ty) else σ q) ad := by
    intro ad hm h
    rcases h with h | ⟨q, k', o', hk', hf, ho', hb'⟩
    · exact hm (.inl (.inl h))
    · by_cases e2 : q = j
      · simp only [e2, if_true, Option.some.injEq] at ho'
        subst ho'
        exact hm (.inr (.inr hb'))
      · by_cases e1 : q = i
        · simp only [e1, hij, if_false, if_true, Option.some.injEq] at ho'
          subst ho'
          exact hm (.inr (.inl hb'))
        · simp only [e1, e2, if_false] at ho'
          simp only [AHeap.push, e1, e2, if_false] at hk'
          exact hm (.inl (.inr ⟨q, k', o', hk', hf, ho', hb'⟩))
  obtain ⟨p1, p2, p3⟩ := Rel.push2 hR i j hij hi hj (w' := w') hb.os hb.tape hb.output hb.size hb.block b1 b2 ⟨b1.es.length, v1, b1.sz, b1.ty⟩ ⟨b2.es.length, v2, b2.sz, b2.ty⟩
    (made_block m1) (made_block m2) hdis rfl rfl rfl rfl rfl rfl m1.sz m2.sz xs1 xs2 (made_row0 m1) (made_row0 m2) m1.one m2.one ⟨repL_closed hG m1.rep (hflat m1.cl), repL_closed hG m2.rep (hflat m2.cl)⟩
  refine ⟨_, _, _, _, he, p1, ?_, p2, p3, hQ⟩
  have hus' : RepL (Mut M0 ((H.push i b1).push j b2) (fun q => if q = j then some (Ow.mk b2.es.length v2 b2.sz b2.ty) else if q = i then some (Ow.mk b1.es.length v1 b1.sz b1.ty) else σ q)) (fun q => if q = j then some (Ow.mk b2.es.length v2 b2.sz b2.ty) else if q = i then some (Ow.mk b1.es.length v1 b1.sz b1.ty) else σ q) ((H.push i b1).push j b2).al w' us tl := repL_closed hG hus hp.2.1
  refine .tup (Value.agg #[v1, v2] :: us) (.agg [.own i b1.es.length, .own j b2.es.length] :: tl) (by simpa using hus'.len) fun q u d hu hd => ?_
  match q with
  | q + 1 => exact hus'.rep q u d (by simpa using hu) (by simpa using hd)
  | 0 =>
  simp only [List.getElem?_cons_zero, Option.some.injEq] at hu hd
  subst hu hd
  refine .agg [v1, v2] [.own i b1.es.length, .own j b2.es.length] rfl (fun u hu => ?_) fun q u d hu hd => ?_
  · simp only [List.mem_cons, List.not_mem_nil, or_false] at hu
    rcases hu with rfl | rfl
    · exact made_one m1
    · exact made_one m2
  · match q with
    | 0 =>
      simp only [List.getElem?_cons_zero, Option.some.injEq] at hu hd
      subst hu hd
      exact .own v1 _ _ (.inr (.inl rfl)) (made_one m1) (fun o ho => by simp [hij] at ho; subst ho; exact .inr ⟨rfl, rfl⟩)
    | 1 =>
      simp only [List.getElem?_cons_succ, List.getElem?_cons_zero, Option.some.injEq] at hu hd
      subst hu hd
      exact .own v2 _ _ (.inl rfl) (made_one m2) (fun o ho => by simp at ho; subst ho; exact .inr ⟨rfl, rfl⟩)
    | q + 2 => simp at hu
end
theorem callQ_own2T {P : Program} {md : Nat → Bool} {ops : Array Oper} {rest : List Oper} {e : Env} {dst : Option Tmp} {K : Env → AHeap → Prop} {f : FuncId} {args : List D} {H : AHeap} {b1 b2 : Blk} {tl : List D} (hp : Own2T P f args b1 b2 tl) (hcl : D.clL args = true) (hfr : ¬ H.al H.next ∧ ¬ H.al (H.next + 1))
    (h : aOps P md ops rest (upd e dst (.tup (.agg [.own H.next b1.es.length, .own (H.next + 1) b2.es.length] :: tl))) ((H.push H.next b1).push (H.next + 1) b2) K) : callQ P md ops rest e dst K f args H := by
  unfold callQ; exact ACalls.own2TQ hp hcl _ _ (by omega) hfr.1 hfr.2 h
section
variable {P : Program} {md : Nat → Bool} {ops : Array Oper} {sp : List (Nat × Nat)} {n0 i : Nat} {rest : List Oper} {acc : List (Nat × List Nat)} {e : Env} {dst : Option Tmp} {K : Env → AHeap → Prop} {f : FuncId} {args args' : List D} {H : AHeap}
theorem dcallQ_turn {k k' : Blk} {r : D} (id : Nat) (h : ACalls P f args (AHeap.emp.push 0 k) fun d H' => rsvT H' d = r ∧ r.cl = true ∧ 0 ∉ ownT d ∧ H'.get 0 = some k')
    (hargs : ∀ d ∈ args, d.cl = true ∨ d = .own 0 k.es.length) (hk : k.fz = false) (hk' : k'.fz = false) (hcl : D.clLL k.es = true) (hfl : ∀ d ∈ k'.es.flatten, d.flat = true) (hg : H.get id = some k) (ha : args.map (ren id) = args') (hmd : mdd md dst = true)
    (hc : chk sp i [id] acc) (hN : aDraw P md ops sp n0 (i + 1) rest ((i, [id]) :: acc) (upd e dst r) (H.put id k') K) : dcallQ P md ops sp n0 i rest acc e dst K f args' H := by
  unfold dcallQ
  subst ha
  exact Or.inr ⟨hmd, r, [id], [(id, k')], [], fun p hp => (by
      have : p = (id, k') := by simpa using hp
      subst this; simp), (fun _ h => by cases h),
    fun H' hag _ => ACalls.turn h hargs hk hk' hcl hfl ((hag id (by simp)).trans hg) ⟨rfl, rfl⟩, by simpa using hc, by simpa [AHeap.puts, AHeap.pushs] using hN⟩
end
theorem ACalls.ghosts {P : Program} {f : FuncId} {args : List D} {H H' : AHeap} {Q : D → AHeap → Prop} (hg : Ghosts H H') (h : ACalls P f args H' Q) : ACalls P f args H Q :=
  ⟨h.1, fun M0 σ w vals hR ha => by
    obtain ⟨σ1, g1, g2, g3⟩ := ghosts_sound hg hR
    exact (h.2 M0 σ1 w vals g1 (ha.keep g3)).mono fun e w' ⟨v, d, H1, σ2, he, h1, hv, hs, hk, hq⟩ => ⟨v, d, H1, σ2, he, h1, hv, g2.trans hs, g3.trans hk, hq⟩⟩
theorem callQ_ghosts {P : Program} {md : Nat → Bool} {ops : Array Oper} {rest : List Oper} {e : Env} {dst : Option Tmp} {K : Env → AHeap → Prop} {f : FuncId} {args : List D} {H H' : AHeap} (hg : Ghosts H H') (h : callQ P md ops rest e dst K f args H') : callQ P md ops rest e dst K f args H := by
  unfold callQ at h ⊢; exact ACalls.ghosts hg h
theorem ACalls.frzTl {P : Program} {f : FuncId} {args : List D} {H : AHeap} {Q Q' : D → AHeap → Prop} (hQ : ∀ d H', Q' d H' → ∃ x tl, d = .tup (x :: tl) ∧ Q (.tup (x :: tl.map (rsvD H'))) (frzs (tl.flatMap ownIds) H')) (h : ACalls P f args H Q') : ACalls P f args H Q :=
  ⟨h.1, fun M0 σ w vals hR ha => (h.2 M0 σ w vals hR ha).mono fun e w' ⟨v, d, H', σ', he, hR', hv, hst, hk, hq⟩ => by
    obtain ⟨x, tl, rfl, hq'⟩ := hQ d H' hq
    obtain ⟨f1, f2, _, _⟩ := frzs_sound (tl.flatMap ownIds) hR'
    cases hv
    rename_i vs hl hr
    obtain ⟨v0, us, rfl⟩ : ∃ v0 us, vs = v0 :: us := by
      match vs, hl with
      | a :: l, _ => exact ⟨a, l, rfl⟩
    have ht := repL_rsv hR' (vals := us) (args := tl) ⟨by simpa using hl, fun j u d hu hd => hr (j + 1) u d (by simpa using hu) (by simpa using hd)⟩ (tl.flatMap ownIds) fun _ h => h
    refine ⟨_, _, _, σ', he, f1, .tup (v0 :: us) (x :: tl.map (rsvD H')) (by simpa using hl) fun j u d hu hd => ?_, hst, hk.trans f2, hq'⟩
    match j with
    | 0 =>
      simp only [List.getElem?_cons_zero, Option.some.injEq] at hu hd
      subst hu hd
      exact (hr 0 v0 x rfl rfl).keep f2
    | j + 1 => exact ht.rep j u d (by simpa using hu) (by simpa using hd)⟩
end Go.Abs
end
