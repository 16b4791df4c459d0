/- Layer 41, the reference: right, Check, Find, Rest. · counting.Find, Rest; ref41.Find, Rest. · counting.Check. · counting.Rank, at graphs with no edges (the example of the chapter). · copy and slices.overlaps in the world, at elements of more cells than one. -/
import Derived.Test.YtjhccdolbhjmaaaGreatZdAA
import Derived.Test.YtjhccdolbhjmaaaGreatZdAS
import Derived.Shelf.Spec.SlicesInsert
import Derived.Lib.AppendZerosOnto
section
set_option linter.unusedVariables false
set_option linter.unusedSimpArgs false
set_option maxRecDepth 8000
set_option maxHeartbeats 2000000
open Go Go.Proofs
namespace Go.Abs
theorem lowL_iff {ls : List (List Int)} {m : List Bool} (hm : m.length = ls.length) {w : List Int} {r : Int} : r ∈ lowL ls m w ↔ 0 ≤ r ∧ lowM ls m w r.toNat = true := by
  constructor
  · exact lowL_mem
  · rintro ⟨h1, h2⟩
    have h3 := (List.getElem?_eq_some_iff.1 (lowM_on h2)).1
    unfold lowL
    exact List.mem_map.2 ⟨r.toNat, List.mem_filter.2 ⟨List.mem_range.2 (by omega), h2⟩, by omega⟩
theorem mem_low {ls : List (List Int)} {m : List Bool} (hm : m.length = ls.length) (w : List Int) (r : Int) : mem (lowL ls m w) r = (decide (0 ≤ r) && lowM ls m w r.toNat) := by
  rw [Bool.eq_iff_iff, mem_iff, lowL_iff hm, Bool.and_eq_true, decide_eq_true_eq]
theorem range_all_succ (p : Nat → Bool) (i : Nat) : (List.range (i + 1)).all p = ((List.range i).all p && p i) := by
  rw [List.range_succ, List.all_append]; simp
theorem ref41_right (n : Nat) (hn : n ≤ 1000) (ls : List (List Int)) (hls : ls.length ≤ 6) (hl : ∀ l ∈ ls, l.length = n) (hb : ∀ l ∈ ls, ∀ x ∈ l, -100000 ≤ x ∧ x ≤ 100000) (m : List Bool) (hm : m.length = ls.length) (s : Stage) :
    Pure Tryz.prog 43 [.list (ls.map cL), .list (m.map cB), .agg s.c, dI n] (.bool (rightB ls n m s)) := by
  refine pureK (by first | rfl | (simp [go_sem]; done)) (fun Q hQ => (acalls_of_body (cfg := ⟨fun _ => false, fun _ => []⟩) Tz.mixed Tryz.func43 rfl rfl (Nat.le_of_ble_eq_true rfl) (by kernel_rfl) ?_))
  try simp [go_sem, seval]
  repeat (first | intro _ | (refine ⟨obs, ?_⟩))
  refine condQ_mk (fun h1 => ?_) (fun h1 => ?_)
  · try simp [go_sem] at h1
    have hR : rightB ls n m s = false := by
      unfold rightB
      rcases h1 with h | h
      · rw [decide_eq_false (show ¬ s.weights.length = n by omega)]; rfl
      · simp [h]
    try simp [go_sem, seval]
    exact hQ _ _ (by first | (left; (simp [go_sem, hR]); done) | (right; (simp [go_sem, hR]); done))
  · try simp [go_sem] at h1
    have hsl : s.weights.length = n := by omega
    have hsr : s.removed ≠ [] := h1.2
    try simp [go_sem, seval]
    obtain ⟨I0, hI0⟩ : ∃ I0 : Nat → Env → AHeap → Prop, ∀ (i : Nat) (e : Env) (H : AHeap), I0 i e H ↔ ((e 0 = .list (ls.map cL)) ∧ (e 1 = .list (m.map cB)) ∧ (e 6 = .adr s.c) ∧ (e 3 = dI n) ∧ (e 9 = dI i) ∧ (i ≤ n) ∧ ((s.weights.take i).any oddB = false)) := ⟨fun i e H => _, fun _ _ _ => Iff.rfl⟩
    refine loopK I0 (fun i => n - i) (0) ((hI0 _ _ _).2 ⟨?_, ?_, ?_, ?_, ?_, (by first | assumption | omega | (simp [go_sem]; done) | (simp_all; done)), (by rfl)⟩) ?_
    iterate 5 (first | omega | (simp [go_sem, seval] <;> omega))
    intro i e H hi0
    obtain ⟨q0_0, q1_0, q6_0, q3_0, q9_0, hi, ho⟩ := (hI0 _ _ _).1 hi0
    have F0 := And.intro q0_0 (And.intro q1_0 (And.intro q6_0 (And.intro q3_0 q9_0)))
    try simp [go_sem, seval, F0]
    refine condQ_mk (fun h4 => ?_) (fun h4 => ?_)
    · try simp [go_sem] at h4
      have hiw : i < s.weights.length := by omega
      try simp [go_sem, seval, F0, h4, hiw, List.getElem?_eq_getElem hiw]
      repeat (first | intro _ | (refine ⟨obs, ?_⟩))
      refine condQ_mk (fun h6 => ?_) (fun h6 => ?_)
      · try simp [go_sem] at h6
        have ha : s.weights.any oddB = true := List.any_eq_true.2 ⟨_, List.getElem_mem hiw, by simp [oddB]; omega⟩
        have hR : rightB ls n m s = false := by unfold rightB; rw [ha]; simp
        try simp [go_sem, seval, F0, h4, hiw, List.getElem?_eq_getElem hiw]
        exact hQ _ _ (by first | (left; (simp [go_sem, hR]); done) | (right; (simp [go_sem, hR]); done))
      · try simp [go_sem] at h6
        try simp [go_sem, seval, F0, h4, hiw, List.getElem?_eq_getElem hiw]
        repeat (first | intro _ | (refine ⟨obs, ?_⟩))
        refine nextQ_mk (i + 1) (by omega) ((hI0 _ _ _).2 ⟨?_, ?_, ?_, ?_, ?_, (by first | assumption | omega | (simp [go_sem, F0, h4, hiw, List.getElem?_eq_getElem hiw, h1, h6]; done) | (simp_all; done) | (simp_all; omega)), (by (rw [any_take_succ _ _ _ hiw, ho]; simp [oddB]; omega))⟩) <;> first | omega | (simp [go_sem, seval, F0, h4, hiw, List.getElem?_eq_getElem hiw] <;> omega)
    · try simp [go_sem] at h4
      rw [List.take_of_length_le (by omega)] at ho
      have hwd : ∀ x ∈ s.weights, 0 ≤ x ∧ x ≤ 1000 := fun x hx => by have := List.any_eq_false.1 ho x hx; simp [oddB] at this; omega
      try simp [go_sem, seval, F0]
      refine callQ_pure0 (ref41_lowered ls (by omega) m hm s.weights (fun l hl' => ⟨by rw [hl l hl']; omega, by omega, fun x hx => by have := hwd x hx; omega, hb l hl'⟩)) ((by first | rfl | (simp [go_sem, ← List.map_take, ← List.map_drop, F0]; done))) ?_
      try simp [go_sem, seval, F0]
      repeat (first | intro _ | (refine ⟨obs, ?_⟩))
      refine condQ_mk (fun h9 => ?_) (fun h9 => ?_)
      · try simp [go_sem] at h9
        have hR : rightB ls n m s = false := by unfold rightB; rw [h9]; simp
        try simp [go_sem, seval, F0]
        exact hQ _ _ (by first | (left; (simp [go_sem, hR]); done) | (right; (simp [go_sem, hR]); done))
      · try simp [go_sem] at h9
        have hok : okM ls m s.weights = true := h9
        try simp [go_sem, seval, F0, hok]
        obtain ⟨I2, hI2⟩ : ∃ I2 : Nat → Env → AHeap → Prop, ∀ (i : Nat) (e : Env) (H : AHeap), I2 i e H ↔ ((e 0 = .list (ls.map cL)) ∧ (e 1 = .list (m.map cB)) ∧ (e 6 = .adr s.c) ∧ (e 3 = dI n) ∧ (e 10 = dLI (lowL ls m s.weights)) ∧ (e 12 = dI i) ∧ (i ≤ s.removed.length) ∧ ((List.range i).all (remB ls m s.weights s.removed) = true)) := ⟨fun i e H => _, fun _ _ _ => Iff.rfl⟩
        refine loopK I2 (fun i => s.removed.length - i) (0) ((hI2 _ _ _).2 ⟨?_, ?_, ?_, ?_, ?_, ?_, (by first | assumption | omega | (simp [go_sem, F0, hok]; done) | (simp_all; done)), (by rfl)⟩) ?_
        iterate 6 (first | omega | (simp [go_sem, seval, F0, hok] <;> omega))
        intro i e H hi2
        obtain ⟨q0_2, q1_2, q6_2, q3_2, q10_2, q12_2, hi, hall⟩ := (hI2 _ _ _).1 hi2
        have F2 := And.intro q0_2 (And.intro q1_2 (And.intro q6_2 (And.intro q3_2 (And.intro q10_2 q12_2))))
        try simp [go_sem, seval, hok, F2]
        repeat (first | intro _ | (refine ⟨obs, ?_⟩))
        refine condQ_mk (fun h12 => ?_) (fun h12 => ?_)
        · try simp [go_sem] at h12
          have htn : ((i : Int) - 1).toNat = i - 1 := by omega
          have hk1 : i - 1 < s.removed.length := by omega
          have hrem : remB ls m s.weights s.removed i = (mem (lowL ls m s.weights) s.removed[i] && (decide (i = 0) || decide (s.removed[i - 1] < s.removed[i]))) := by
            unfold remB; rw [List.getElem?_eq_getElem h12, List.getElem?_eq_getElem hk1, mem_low hm]; rfl
          try simp [go_sem, seval, hok, F2, h12, List.getElem?_eq_getElem h12, htn, List.getElem?_eq_getElem hk1, h12, hk1]
          repeat (first | intro _ | (refine ⟨obs, ?_⟩))
          refine dcallQ_pure0 (ref41_in (lowL ls m s.weights) s.removed[i]) ((by first | rfl | (simp [go_sem, ← List.map_take, ← List.map_drop, hok, F2, h12, List.getElem?_eq_getElem h12, htn, List.getElem?_eq_getElem hk1, h12, hk1]; done))) ?_
          try simp [go_sem, seval, hok, F2, h12, List.getElem?_eq_getElem h12, htn, List.getElem?_eq_getElem hk1, h12, hk1]
          repeat (first | intro _ | (refine ⟨obs, ?_⟩))
          refine condQ_mk (fun h14 => ?_) (fun h14 => ?_)
          · try simp [go_sem] at h14
            have hR : rightB ls n m s = false := by
              have ha : (List.range s.removed.length).all (remB ls m s.weights s.removed) = false := by
                rw [List.all_eq_false]
                refine ⟨i, List.mem_range.2 h12, ?_⟩
                rw [hrem]
                rcases h14 with h | h
                · simp [h]
                · simp; omega
              unfold rightB; rw [ha]; simp
            try simp [go_sem, seval, hok, F2, h12, List.getElem?_eq_getElem h12, htn, List.getElem?_eq_getElem hk1, h12, hk1]
            exact hQ _ _ (by first | (left; (simp [go_sem, hR]); done) | (right; (simp [go_sem, hR]); done))
          · try simp [go_sem] at h14
            have hr14 : remB ls m s.weights s.removed i = true := by
              rw [hrem, h14.1]
              rcases Nat.eq_zero_or_pos i with h0 | h0
              · simp [h0]
              · simp; exact .inr (h14.2 h0)
            try simp [go_sem, seval, hok, F2, h12, List.getElem?_eq_getElem h12, htn, List.getElem?_eq_getElem hk1, h12, hk1]
            repeat (first | intro _ | (refine ⟨obs, ?_⟩))
            refine nextQ_mk (i + 1) (by omega) ((hI2 _ _ _).2 ⟨?_, ?_, ?_, ?_, ?_, ?_, (by first | assumption | omega | (simp [go_sem, hok, F2, h12, List.getElem?_eq_getElem h12, htn, List.getElem?_eq_getElem hk1, h12, hk1, h1, h4, h9, h14]; done) | (simp_all; done) | (simp_all; omega)), (by (rw [range_all_succ, hall, hr14]; rfl))⟩) <;> first | omega | (simp [go_sem, seval, hok, F2, h12, List.getElem?_eq_getElem h12, htn, List.getElem?_eq_getElem hk1, h12, hk1] <;> omega)
        · try simp [go_sem] at h12
          rw [show i = s.removed.length by omega] at hall
          have ho2 : s.weights.any oddB = false := any_odd hwd
          have hR : rightB ls n m s = true := by unfold rightB; rw [decide_eq_true hsl, decide_eq_false hsr, ho2, hall, hok]; rfl
          try simp [go_sem, seval, hok, F2]
          exact hQ _ _ (by first | (left; (simp [go_sem, hR]); done) | (right; (simp [go_sem, hR]); done))
theorem ref41_Check (t : Types) (ht : t.ok) (rs : List Rule) (hr : ∀ r ∈ rs, r.ok) (st : List Stage) : Pure Tryz.prog 15 [t.d, .list (rs.map Rule.c), .list (st.map Stage.c)] (.bool (chkF t rs st)) := by
  refine pureK (by first | rfl | (simp [go_sem]; done)) (fun Q hQ => (acalls_of_body (cfg := ⟨fun _ => false, fun _ => []⟩) Tz.mixed Tryz.func15 rfl rfl (Nat.le_of_ble_eq_true rfl) (by kernel_rfl) ?_))
  try simp [go_sem, seval, cntM_all]
  refine callQ_pure0 (ref39_Effects t ht rs hr) ((by first | rfl | (simp [go_sem, ← List.map_take, ← List.map_drop, cntM_all]; done))) ?_
  try simp [go_sem, seval, cntM_all]
  refine condQ_mk (fun h2 => ?_) (fun h2 => ?_)
  · try simp [go_sem] at h2
    have hR : chkF t rs st = false := by unfold chkF; rw [decide_eq_false h2]; rfl
    try simp [go_sem, seval, cntM_all]
    exact hQ _ _ (by first | (left; (simp [go_sem, hR]); done) | (right; (simp [go_sem, hR]); done))
  · try simp [go_sem] at h2
    have hv := valid_of (effsE_of h2).1
    have hN := hv.fewN
    have hE := hv.fewE
    have hV : effsV t rs = rs.map (effV t) := if_pos h2
    have hX0 := FX_of h2
    have hVl : (effsV t rs).length = rs.length := by rw [hV, List.length_map]
    have hlen6 := (effsE_of h2).2.1
    have hxl := hX0.xl
    have hxb := hX0.xb
    obtain ⟨ls, hls⟩ : ∃ ls, effsV t rs = ls := ⟨_, rfl⟩
    have hchk : chkF t rs st = chkL ls (t.nodes.length + t.edges.length) st (List.replicate rs.length true) := by unfold chkF; rw [decide_eq_true h2, hls]; rfl
    rw [hls] at hVl hxl hxb
    try simp [go_sem, seval, cntM_all, hls]
    repeat (first | intro _ | (refine ⟨obs, ?_⟩))
    obtain ⟨I0, hI0⟩ : ∃ I0 : Nat → Env → AHeap → Prop, ∀ (i : Nat) (e : Env) (H : AHeap), I0 i e H ↔ ((e 3 = .adr t.c) ∧ (e 1 = .list (rs.map Rule.c)) ∧ (e 2 = .list (st.map Stage.c)) ∧ (e 7 = .list (ls.map cL)) ∧ (e 9 = .own 0 rs.length) ∧ (e 10 = dI rs.length) ∧ (e 11 = dI i) ∧ (H.get 0 = some ⟨4, 1, (stepM rs.length i).map cB, false⟩) ∧ (0 < H.next) ∧ (i ≤ rs.length) ∧ ((stepM rs.length i).length = rs.length)) := ⟨fun i e H => _, fun _ _ _ => Iff.rfl⟩
    refine loopK I0 (fun i => rs.length - i) (0) ((hI0 _ _ _).2 ⟨?_, ?_, ?_, ?_, ?_, ?_, ?_, (by (simp [go_sem, stepM_zero])), ?_, (by first | assumption | omega | (simp [go_sem, cntM_all, hls]; done) | (simp_all; done)), (by (exact stepM_len (Nat.zero_le _)))⟩) ?_
    iterate 8 (first | omega | (simp [go_sem, seval, cntM_all, hls] <;> omega))
    intro i e H hi0
    obtain ⟨q3_0, q1_0, q2_0, q7_0, q9_0, q10_0, q11_0, g0_0, n0_0, hi, hsl⟩ := (hI0 _ _ _).1 hi0
    have x0 := frs n0_0
    have F0 := And.intro q3_0 (And.intro q1_0 (And.intro q2_0 (And.intro q7_0 (And.intro q9_0 (And.intro q10_0 (And.intro q11_0 x0))))))
    try simp [go_sem, seval, cntM_all, hls, F0, g0_0, hsl]
    refine condQ_mk (fun h7 => ?_) (fun h7 => ?_)
    · try simp [go_sem] at h7
      have hk : i < (stepM rs.length i).length := by rw [stepM_len (by omega)]; exact h7
      try simp [go_sem, seval, cntM_all, hls, F0, g0_0, hsl, h7, List.getElem?_eq_getElem hk, h7]
      repeat (first | intro _ | (refine ⟨obs, ?_⟩))
      refine nextQ_mk (i + 1) (by omega) ((hI0 _ _ _).2 ⟨?_, ?_, ?_, ?_, ?_, ?_, ?_, (by (simp [go_sem, cntM_all, hls, F0, g0_0, hsl, h7, List.getElem?_eq_getElem hk, h7, ← stepM_set h7, List.map_set])), ?_, (by first | assumption | omega | (simp [go_sem, cntM_all, hls, F0, g0_0, hsl, h7, List.getElem?_eq_getElem hk, h7, h2]; done) | (simp_all; done) | (simp_all; omega)), (by (exact stepM_len (by omega)))⟩) <;> first | omega | (simp [go_sem, seval, cntM_all, hls, F0, g0_0, hsl, h7, List.getElem?_eq_getElem hk, h7] <;> omega)
    · try simp [go_sem] at h7
      have hie : i = rs.length := by omega
      subst hie
      rw [stepM_end] at g0_0
      try simp [go_sem, seval, cntM_all, hls, F0, g0_0, hsl]
      obtain ⟨I2, hI2⟩ : ∃ I2 : Nat → Env → AHeap → Prop, ∀ (k : Nat) (e : Env) (H : AHeap), I2 k e H ↔ (∃ m : List Bool, (e 3 = .adr t.c) ∧ (e 1 = .list (rs.map Rule.c)) ∧ (e 2 = .list (st.map Stage.c)) ∧ (e 7 = .list (ls.map cL)) ∧ (e 9 = .own 0 rs.length) ∧ (e 10 = dI (cntM m)) ∧ (e 12 = dI k) ∧ (H.get 0 = some ⟨4, 1, m.map cB, false⟩) ∧ (0 < H.next) ∧ (k ≤ st.length) ∧ (m.length = rs.length) ∧ (chkL ls (t.nodes.length + t.edges.length) (st.drop k) m = chkF t rs st)) := ⟨fun k e H => _, fun _ _ _ => Iff.rfl⟩
      refine loopK I2 (fun k => st.length - k) (0) ((hI2 _ _ _).2 ⟨(List.replicate rs.length true), ?_, ?_, ?_, ?_, ?_, ?_, ?_, ?_, ?_, (by first | assumption | omega | (simp [go_sem, cntM_all, hls, F0, g0_0, hsl]; done) | (simp_all; done)), (by simp), (by (rw [hchk]; rfl))⟩) ?_
      iterate 9 (first | omega | (simp [go_sem, seval, cntM_all, hls, F0, g0_0, hsl] <;> omega))
      intro k e H hi2
      obtain ⟨m, q3_2, q1_2, q2_2, q7_2, q9_2, q10_2, q12_2, g0_2, n0_2, hk, hm, hF⟩ := (hI2 _ _ _).1 hi2
      have x0 := frs n0_2
      have F2 := And.intro q3_2 (And.intro q1_2 (And.intro q2_2 (And.intro q7_2 (And.intro q9_2 (And.intro q10_2 (And.intro q12_2 (And.intro g0_2 x0)))))))
      try simp [go_sem, seval, cntM_all, hls, hsl, F2, hm]
      repeat (first | intro _ | (refine ⟨obs, ?_⟩))
      refine condQ_mk (fun h11 => ?_) (fun h11 => ?_)
      · try simp [go_sem] at h11
        have hd : st.drop k = st[k] :: st.drop (k + 1) := List.drop_eq_getElem_cons h11
        rw [hd] at hF
        try simp [go_sem, seval, cntM_all, hls, hsl, F2, hm, h11]
        repeat (first | intro _ | (refine ⟨obs, ?_⟩))
        refine dcallQ_pure0 (ref41_kinds t (by omega) (by omega)) ((by first | rfl | (simp [go_sem, ← List.map_take, ← List.map_drop, cntM_all, hls, hsl, F2, hm, h11]; done))) ?_
        try simp [go_sem, seval, cntM_all, hls, hsl, F2, hm, h11]
        repeat (first | intro _ | (refine ⟨obs, ?_⟩))
        refine dcallQ_pureF ((ref41_right (t.nodes.length + t.edges.length) (by omega) ls (by omega) hxl hxb m (by omega) st[k])) (by simp [rsvC, rsvP, cellsAt, go_sem, ← List.map_take, ← List.map_drop, cntM_all, hls, hsl, F2, hm, h11]) ((by first | rfl | (simp [go_sem, ← List.map_take, ← List.map_drop, cntM_all, hls, hsl, F2, hm, h11]; done))) ( rfl) rfl (by simp [go_sem, cntM_all, hls, hsl, F2, hm, h11]) ?_
        try simp [go_sem, seval, cntM_all, hls, hsl, F2, hm, h11]
        repeat (first | intro _ | (refine ⟨obs, ?_⟩))
        refine condQ_mk (fun h13 => ?_) (fun h13 => ?_)
        · try simp [go_sem] at h13
          have hR : chkF t rs st = false := by rw [← hF]; simp only [chkL, h13, Bool.false_and]
          try simp [go_sem, seval, cntM_all, hls, hsl, F2, hm, h11]
          exact hQ _ _ (by first | (left; (simp [go_sem, hR]); done) | (right; (simp [go_sem, hR]); done))
        · try simp [go_sem] at h13
          have hR : rightB ls (t.nodes.length + t.edges.length) m st[k] = true := h13
          obtain ⟨r1, r2, r3, r4, r5⟩ := rightB_on hR
          have hoff := cntM_off _ _ r4 r5
          have hcl := cntM_le m
          try simp [go_sem, seval, cntM_all, hls, hsl, F2, hm, h11]
          obtain ⟨I4, hI4⟩ : ∃ I4 : Nat → Env → AHeap → Prop, ∀ (j : Nat) (e : Env) (H : AHeap), I4 j e H ↔ ((e 3 = .adr t.c) ∧ (e 1 = .list (rs.map Rule.c)) ∧ (e 2 = .list (st.map Stage.c)) ∧ (e 7 = .list (ls.map cL)) ∧ (e 9 = .own 0 rs.length) ∧ (e 10 = dI ((cntM m : Int) - j)) ∧ (e 12 = dI k) ∧ (e 13 = dI j) ∧ (H.get 0 = some ⟨4, 1, (offM m (st[k].removed.take j)).map cB, false⟩) ∧ (0 < H.next) ∧ (j ≤ st[k].removed.length)) := ⟨fun j e H => _, fun _ _ _ => Iff.rfl⟩
          refine loopK I4 (fun j => st[k].removed.length - j) (0) ((hI4 _ _ _).2 ⟨?_, ?_, ?_, ?_, ?_, ?_, ?_, ?_, (by (simp [go_sem, cntM_all, hls, hsl, F2, hm, h11, offM])), ?_, (by first | assumption | omega | (simp [go_sem, cntM_all, hls, hsl, F2, hm, h11]; done) | (simp_all; done))⟩) ?_
          iterate 9 (first | omega | (simp [go_sem, seval, cntM_all, hls, hsl, F2, hm, h11] <;> omega))
          intro j e H hi4
          obtain ⟨q3_4, q1_4, q2_4, q7_4, q9_4, q10_4, q12_4, q13_4, g0_4, n0_4, hj⟩ := (hI4 _ _ _).1 hi4
          have x0 := frs n0_4
          have F4 := And.intro q3_4 (And.intro q1_4 (And.intro q2_4 (And.intro q7_4 (And.intro q9_4 (And.intro q10_4 (And.intro q12_4 (And.intro q13_4 x0)))))))
          try simp [go_sem, seval, cntM_all, hls, hsl, hm, h11, F4, g0_4]
          repeat (first | intro _ | (refine ⟨obs, ?_⟩))
          refine condQ_mk (fun h16 => ?_) (fun h16 => ?_)
          · try simp [go_sem] at h16
            have hrr := r5 _ (List.getElem_mem h16)
            have hrm := (List.getElem?_eq_some_iff.1 hrr.2).1
            have hrl : st[k].removed[j] < rs.length := by omega
            have hrt : st[k].removed[j].toNat < rs.length := by omega
            have hofl : (offM m (st[k].removed.take j)).length = rs.length := by rw [offM_len]; exact hm
            have hset : offM m (st[k].removed.take (j + 1)) = (offM m (st[k].removed.take j)).set st[k].removed[j].toNat false := by rw [List.take_succ_eq_append_getElem h16, offM_append]
            try simp [go_sem, seval, cntM_all, hls, hsl, hm, h11, F4, g0_4, h16, List.getElem?_eq_getElem h16, hset, hofl, hrl, hrt, h16]
            repeat (first | intro _ | (refine ⟨obs, ?_⟩))
            refine nextQ_mk (j + 1) (by omega) ((hI4 _ _ _).2 ⟨?_, ?_, ?_, ?_, ?_, ?_, ?_, ?_, (by (simp [go_sem, cntM_all, hls, hsl, hm, h11, F4, g0_4, h16, List.getElem?_eq_getElem h16, hset, hofl, hrl, hrt, h16, List.map_set])), ?_, (by first | assumption | omega | (simp [go_sem, cntM_all, hls, hsl, hm, h11, F4, g0_4, h16, List.getElem?_eq_getElem h16, hset, hofl, hrl, hrt, h16, h2, h7, h13]; done) | (simp_all; done) | (simp_all; omega))⟩) <;> first | omega | (simp [go_sem, seval, cntM_all, hls, hsl, hm, h11, F4, g0_4, h16, List.getElem?_eq_getElem h16, hset, hofl, hrl, hrt, h16] <;> omega)
          · try simp [go_sem] at h16
            rw [List.take_of_length_le (by omega)] at g0_4
            have hje : j = st[k].removed.length := by omega
            subst hje
            try simp [go_sem, seval, cntM_all, hls, hsl, hm, h11, F4, g0_4]
            repeat (first | intro _ | (refine ⟨obs, ?_⟩))
            refine nextQ_mk (k + 1) (by omega) ((hI2 _ _ _).2 ⟨(offM m st[k].removed), ?_, ?_, ?_, ?_, ?_, ?_, ?_, ?_, ?_, (by first | assumption | omega | (simp [go_sem, cntM_all, hls, hsl, hm, h11, F4, g0_4, h2, h7, h13, h16]; done) | (simp_all; done) | (simp_all; omega)), (by (rw [offM_len]; exact hm)), (by (rw [← hF]; simp only [chkL, hR, Bool.true_and]))⟩) <;> first | omega | (simp [go_sem, seval, cntM_all, hls, hsl, hm, h11, F4, g0_4] <;> omega)
      · try simp [go_sem] at h11
        rw [List.drop_eq_nil_of_le (by omega)] at hF
        have hE2 : chkF t rs st = decide (cntM m = 0) := by rw [← hF]; rfl
        try simp [go_sem, seval, cntM_all, hls, hsl, F2, hm]
        exact hQ _ _ (by first | (left; (simp [go_sem, cntM_all, hls, hsl, F2, hm, hE2]; rw [Bool.eq_iff_iff]; simp <;> omega); done) | (right; (simp [go_sem, cntM_all, hls, hsl, F2, hm, hE2]; rw [Bool.eq_iff_iff]; simp <;> omega); done))
end Go.Abs
end
section
set_option linter.unusedVariables false
set_option linter.unusedSimpArgs false
set_option maxRecDepth 8000
set_option maxHeartbeats 2000000
open Go Go.Proofs
namespace Go.Abs
def findE (t : Types) (rs : List Rule) : Int := if effsE t rs = 0 ∧ rstV t rs ≠ [] then 10 else effsE t rs
theorem counting_Find (t : Types) (ht : t.ok) (rs : List Rule) (hr : ∀ r ∈ rs, r.ok) : Pure Tryz.prog 23 [t.d, .list (rs.map Rule.c)] (.tup [.list ((stV t rs).map Stage.c), dI (findE t rs)]) := by
  refine pureK (by first | rfl | (simp [go_sem]; done)) (fun Q hQ => (acalls_of_body (cfg := ⟨fun _ => false, fun _ => []⟩) Tz.mixed Tryz.func23 rfl rfl (Nat.le_of_ble_eq_true rfl) (by kernel_rfl) ?_))
  try simp [go_sem, seval]
  refine callQ_pure0 (counting_stages t ht rs hr) ((by first | rfl | (simp [go_sem, ← List.map_take, ← List.map_drop]; done))) ?_
  try simp [go_sem, seval]
  repeat (first | intro _ | (refine ⟨obl, ?_⟩))
  refine condQ_mk (fun h2 => ?_) (fun h2 => ?_)
  · try simp [go_sem] at h2
    have hE : findE t rs = 10 := if_pos ⟨h2.1, fun h => by rw [h] at h2; simp at h2⟩
    try simp [go_sem, seval]
    exact hQ _ _ (by first | (left; (simp [go_sem, hE]); done) | (right; (simp [go_sem, hE]); done))
  · try simp [go_sem] at h2
    have hE : findE t rs = effsE t rs := if_neg (fun h => h.2 (h2 h.1))
    try simp [go_sem, seval]
    exact hQ _ _ (by first | (left; (simp [go_sem, hE]); done) | (right; (simp [go_sem, hE]); done))
end Go.Abs
end
section
set_option linter.unusedVariables false
set_option linter.unusedSimpArgs false
set_option maxRecDepth 8000
set_option maxHeartbeats 4000000
open Go Go.Proofs
namespace Go.Abs
theorem mem_cnt (m : List Bool) : mem m true = !decide (cntM m = 0) := by
  rw [Bool.eq_iff_iff, mem_iff]
  unfold cntM
  rw [← List.count_pos_iff]
  simp only [Bool.not_eq_true', decide_eq_false_iff_not]
  omega
theorem counting_Check (t : Types) (ht : t.ok) (rs : List Rule) (hr : ∀ r ∈ rs, r.ok) (st : List Stage) : Pure Tryz.prog 13 [t.d, .list (rs.map Rule.c), .list (st.map Stage.c)] (.bool (chkF t rs st)) := by
  refine pureK (by first | rfl | (simp [go_sem]; done)) (fun Q hQ => (acalls_of_body (cfg := ⟨fun t => t == 12, fun _ => []⟩) Tz.mixed Tryz.func13 rfl rfl (Nat.le_of_ble_eq_true rfl) (by kernel_rfl) ?_))
  try simp [go_sem, seval, cntM_all]
  refine callQ_pure0 (counting_effects t ht rs hr) ((by first | rfl | (simp [go_sem, ← List.map_take, ← List.map_drop, cntM_all]; done))) ?_
  try simp [go_sem, seval, cntM_all]
  refine condQ_mk (fun h2 => ?_) (fun h2 => ?_)
  · try simp [go_sem] at h2
    have hR : chkF t rs st = false := by unfold chkF; rw [decide_eq_false h2]; rfl
    try simp [go_sem, seval, cntM_all]
    exact hQ _ _ (by first | (left; (simp [go_sem, hR]); done) | (right; (simp [go_sem, hR]); done))
  · try simp [go_sem] at h2
    have hv := valid_of (effsE_of h2).1
    have hN := hv.fewN
    have hE := hv.fewE
    have hV : effsV t rs = rs.map (effV t) := if_pos h2
    have hX0 := FX_of h2
    have hVl : (effsV t rs).length = rs.length := by rw [hV, List.length_map]
    have hlen6 := (effsE_of h2).2.1
    have hxl := hX0.xl
    have hxb := hX0.xb
    obtain ⟨ls, hls⟩ : ∃ ls, effsV t rs = ls := ⟨_, rfl⟩
    have hchk : chkF t rs st = chkL ls (t.nodes.length + t.edges.length) st (List.replicate rs.length true) := by unfold chkF; rw [decide_eq_true h2, hls]; rfl
    rw [hls] at hVl hxl hxb
    try simp [go_sem, seval, cntM_all, hls]
    repeat (first | intro _ | (refine ⟨obs, ?_⟩))
    obtain ⟨I0, hI0⟩ : ∃ I0 : Nat → Env → AHeap → Prop, ∀ (i : Nat) (e : Env) (H : AHeap), I0 i e H ↔ ((e 3 = .adr t.c) ∧ (e 1 = .list (rs.map Rule.c)) ∧ (e 2 = .list (st.map Stage.c)) ∧ (e 7 = .list (ls.map cL)) ∧ (e 9 = .own 0 rs.length) ∧ (e 30 = dI rs.length) ∧ (e 31 = dI i) ∧ (H.get 0 = some ⟨4, 1, (stepM rs.length i).map cB, false⟩) ∧ (0 < H.next) ∧ (i ≤ rs.length) ∧ ((stepM rs.length i).length = rs.length)) := ⟨fun i e H => _, fun _ _ _ => Iff.rfl⟩
    refine loopK I0 (fun i => rs.length - i) (0) ((hI0 _ _ _).2 ⟨?_, ?_, ?_, ?_, ?_, ?_, ?_, (by (simp [go_sem, stepM_zero])), ?_, (by first | assumption | omega | (simp [go_sem, cntM_all, hls]; done) | (simp_all; done)), (by (exact stepM_len (Nat.zero_le _)))⟩) ?_
    iterate 8 (first | omega | (simp [go_sem, seval, cntM_all, hls] <;> omega))
    intro i e H hi0
    obtain ⟨q3_0, q1_0, q2_0, q7_0, q9_0, q30_0, q31_0, g0_0, n0_0, hi, hsl⟩ := (hI0 _ _ _).1 hi0
    have x0 := frs n0_0
    have F0 := And.intro q3_0 (And.intro q1_0 (And.intro q2_0 (And.intro q7_0 (And.intro q9_0 (And.intro q30_0 (And.intro q31_0 x0))))))
    try simp [go_sem, seval, cntM_all, hls, F0, g0_0, hsl]
    refine condQ_mk (fun h6 => ?_) (fun h6 => ?_)
    · try simp [go_sem] at h6
      have hk : i < (stepM rs.length i).length := by rw [stepM_len (by omega)]; exact h6
      try simp [go_sem, seval, cntM_all, hls, F0, g0_0, hsl, h6, List.getElem?_eq_getElem hk, h6]
      repeat (first | intro _ | (refine ⟨obs, ?_⟩))
      refine nextQ_mk (i + 1) (by omega) ((hI0 _ _ _).2 ⟨?_, ?_, ?_, ?_, ?_, ?_, ?_, (by (simp [go_sem, cntM_all, hls, F0, g0_0, hsl, h6, List.getElem?_eq_getElem hk, h6, ← stepM_set h6, List.map_set])), ?_, (by first | assumption | omega | (simp [go_sem, cntM_all, hls, F0, g0_0, hsl, h6, List.getElem?_eq_getElem hk, h6, h2]; done) | (simp_all; done) | (simp_all; omega)), (by (exact stepM_len (by omega)))⟩) <;> first | omega | (simp [go_sem, seval, cntM_all, hls, F0, g0_0, hsl, h6, List.getElem?_eq_getElem hk, h6] <;> omega)
    · try simp [go_sem] at h6
      have hie : i = rs.length := by omega
      subst hie
      rw [stepM_end] at g0_0
      try simp [go_sem, seval, cntM_all, hls, F0, g0_0, hsl]
      repeat (first | intro _ | (refine ⟨obs, ?_⟩))
      obtain ⟨I2, hI2⟩ : ∃ I2 : Nat → Env → AHeap → Prop, ∀ (q : Nat) (e : Env) (H : AHeap), I2 q e H ↔ (∃ m : List Bool, (e 3 = .adr t.c) ∧ (e 1 = .list (rs.map Rule.c)) ∧ (e 2 = .list (st.map Stage.c)) ∧ (e 7 = .list (ls.map cL)) ∧ (e 9 = .own 0 rs.length) ∧ (e 38 = .list (st.map Stage.c)) ∧ (e 39 = dI st.length) ∧ (e 40 = dI q) ∧ (H.get 0 = some ⟨4, 1, m.map cB, false⟩) ∧ (0 < H.next) ∧ (q ≤ st.length) ∧ (m.length = rs.length) ∧ (chkL ls (t.nodes.length + t.edges.length) (st.drop q) m = chkF t rs st)) := ⟨fun q e H => _, fun _ _ _ => Iff.rfl⟩
      refine loopK I2 (fun q => st.length - q) (0) ((hI2 _ _ _).2 ⟨(List.replicate rs.length true), ?_, ?_, ?_, ?_, ?_, ?_, ?_, ?_, ?_, ?_, (by first | assumption | omega | (simp [go_sem, cntM_all, hls, F0, g0_0, hsl]; done) | (simp_all; done)), (by simp), (by (rw [hchk]; rfl))⟩) ?_
      iterate 10 (first | omega | (simp [go_sem, seval, cntM_all, hls, F0, g0_0, hsl] <;> omega))
      intro q e H hi2
      obtain ⟨m, q3_2, q1_2, q2_2, q7_2, q9_2, q38_2, q39_2, q40_2, g0_2, n0_2, hq, hm, hF⟩ := (hI2 _ _ _).1 hi2
      have x0 := frs n0_2
      have F2 := And.intro q3_2 (And.intro q1_2 (And.intro q2_2 (And.intro q7_2 (And.intro q9_2 (And.intro q38_2 (And.intro q39_2 (And.intro q40_2 (And.intro g0_2 x0))))))))
      try simp [go_sem, seval, cntM_all, hls, hsl, F2, hm]
      refine condQ_mk (fun h11 => ?_) (fun h11 => ?_)
      · try simp [go_sem] at h11
        have hd : st.drop q = st[q] :: st.drop (q + 1) := List.drop_eq_getElem_cons h11
        rw [hd] at hF
        have hml : m.length = ls.length := by omega
        try simp [go_sem, seval, cntM_all, hls, hsl, F2, hm, h11, h11, List.getElem?_eq_getElem h11]
        repeat (first | intro _ | (refine ⟨obs, ?_⟩))
        refine gcallQ_pure0 (fun hg => (containsFunc_int st[q].weights 40 [] oddB rfl (by simp [go_sem]) (fun x _ => counting_Check1 x))) (fun hg => (by first | rfl | (simp [go_sem, ← List.map_take, ← List.map_drop, cntM_all, hls, hsl, F2, hm, h11, h11, List.getElem?_eq_getElem h11]; done))) ?_
        try simp [go_sem, seval, cntM_all, hls, hsl, F2, hm, h11, h11, List.getElem?_eq_getElem h11]
        repeat (first | intro _ | (refine ⟨obs, ?_⟩))
        refine condQ_mk (fun h13 => ?_) (fun h13 => ?_)
        · try simp [go_sem] at h13
          have hR : rightB ls (t.nodes.length + t.edges.length) m st[q] = false := by
            unfold rightB
            rcases h13 with (h | h) | ⟨x, hx, ho⟩
            · rw [decide_eq_false (show ¬ st[q].weights.length = t.nodes.length + t.edges.length by omega)]; rfl
            · simp [h]
            · rw [List.any_eq_true.2 ⟨x, hx, ho⟩]; simp
          have hC : chkF t rs st = false := by rw [← hF]; simp only [chkL, hR, Bool.false_and]
          try simp [go_sem, seval, cntM_all, hls, hsl, F2, hm, h11, h11, List.getElem?_eq_getElem h11]
          exact hQ _ _ (by first | (left; (simp [go_sem, hC]); done) | (right; (simp [go_sem, hC]); done))
        · try simp [go_sem] at h13
          have hsl2 : st[q].weights.length = t.nodes.length + t.edges.length := by have := h13.1.1; omega
          have hsr : st[q].removed ≠ [] := h13.1.2
          have ho : st[q].weights.any oddB = false := List.any_eq_false.2 (fun x hx => by rw [h13.2 x hx]; simp)
          have hwd : ∀ x ∈ st[q].weights, 0 ≤ x ∧ x ≤ 1000 := fun x hx => by have := List.any_eq_false.1 ho x hx; simp [oddB] at this; omega
          have hPO : ∀ l ∈ ls, ProdOk st[q].weights l := fun l hl' => ⟨by rw [hxl l hl']; omega, by omega, fun x hx => by have := hwd x hx; omega, hxb l hl'⟩
          try simp [go_sem, seval, cntM_all, hls, hsl, F2, hm, h11, h11, List.getElem?_eq_getElem h11]
          repeat (first | intro _ | (refine ⟨obs, ?_⟩))
          obtain ⟨I4, hI4⟩ : ∃ I4 : Nat → Env → AHeap → Prop, ∀ (i : Nat) (e : Env) (H : AHeap), I4 i e H ↔ (∃ b : Nat, (e 3 = .adr t.c) ∧ (e 1 = .list (rs.map Rule.c)) ∧ (e 2 = .list (st.map Stage.c)) ∧ (e 7 = .list (ls.map cL)) ∧ (e 9 = .own 0 rs.length) ∧ (e 12 = .ptr b 1 0 0) ∧ (e 38 = .list (st.map Stage.c)) ∧ (e 39 = dI st.length) ∧ (e 40 = dI q) ∧ (e 67 = dLI st[q].removed) ∧ (e 68 = dI st[q].removed.length) ∧ (e 69 = dI i) ∧ (H.get 0 = some ⟨4, 1, m.map cB, false⟩) ∧ (0 < H.next) ∧ (H.get b = some ⟨33, 2, [st[q].c], false⟩) ∧ (b < H.next) ∧ (i ≤ st[q].removed.length) ∧ (b ≠ 0) ∧ ((List.range i).all (remB ls m st[q].weights st[q].removed) = true)) := ⟨fun i e H => _, fun _ _ _ => Iff.rfl⟩
          refine loopK I4 (fun i => st[q].removed.length - i) (0) ((hI4 _ _ _).2 ⟨(H.next), ?_, ?_, ?_, ?_, ?_, ?_, ?_, ?_, ?_, ?_, ?_, ?_, ?_, ?_, ?_, ?_, (by first | assumption | omega | (simp [go_sem, cntM_all, hls, hsl, F2, hm, h11, h11, List.getElem?_eq_getElem h11]; done) | (simp_all; done)), (by omega), (by rfl)⟩) ?_
          iterate 16 (first | omega | (simp [go_sem, seval, cntM_all, hls, hsl, F2, hm, h11, h11, List.getElem?_eq_getElem h11] <;> omega))
          intro i e H hi4
          obtain ⟨b, q3_4, q1_4, q2_4, q7_4, q9_4, q12_4, q38_4, q39_4, q40_4, q67_4, q68_4, q69_4, g0_4, n0_4, gb_4, nb_4, hi, hb0, hall⟩ := (hI4 _ _ _).1 hi4
          have x0 := frs n0_4
          have xb := frs nb_4
          have F4 := And.intro q3_4 (And.intro q1_4 (And.intro q2_4 (And.intro q7_4 (And.intro q9_4 (And.intro q12_4 (And.intro q38_4 (And.intro q39_4 (And.intro q40_4 (And.intro q67_4 (And.intro q68_4 (And.intro q69_4 (And.intro g0_4 (And.intro gb_4 x0)))))))))))))
          have di1 := nep (show 0 ≠ b by omega)
          try simp [go_sem, seval, cntM_all, hls, hsl, hm, h11, h11, List.getElem?_eq_getElem h11, F4, xb, Stage.c, di1]
          refine condQ_mk (fun h16 => ?_) (fun h16 => ?_)
          · try simp [go_sem] at h16
            obtain ⟨kk, hkk⟩ : ∃ kk, st[q].removed[i] = kk := ⟨_, rfl⟩
            have htn : ((i : Int) - 1).toNat = i - 1 := by omega
            have hk1 : i - 1 < st[q].removed.length := by omega
            have hrem : remB ls m st[q].weights st[q].removed i = (decide (0 ≤ kk) && lowM ls m st[q].weights kk.toNat && (decide (i = 0) || decide (st[q].removed[i - 1] < kk))) := by
              unfold remB; rw [List.getElem?_eq_getElem h16, List.getElem?_eq_getElem hk1]; simp only [Option.getD_some, hkk]
            have hkA : 0 ≤ kk ∧ kk < rs.length → kk.toNat < ls.length := by omega
            have hkM : 0 ≤ kk ∧ kk < rs.length → kk.toNat < m.length := by omega
            have hT : kk < 0 → kk.toNat = 0 := by omega
            have hbad : ¬ (0 ≤ kk ∧ kk < rs.length) → chkF t rs st = false := fun h => by
              have hrf : remB ls m st[q].weights st[q].removed i = false := by
                rw [hrem, Bool.eq_false_iff]
                intro h0
                simp only [Bool.and_eq_true, decide_eq_true_eq] at h0
                have := (List.getElem?_eq_some_iff.1 (lowM_on h0.1.2)).1
                omega
              have ha : (List.range st[q].removed.length).all (remB ls m st[q].weights st[q].removed) = false := by
                rw [List.all_eq_false]
                exact ⟨i, List.mem_range.2 h16, by rw [hrf]; simp⟩
              have hR : rightB ls (t.nodes.length + t.edges.length) m st[q] = false := by unfold rightB; rw [ha]; simp
              rw [← hF]; simp only [chkL, hR, Bool.false_and]
            rcases (show (kk < 0 ∧ rs.length = 0) ∨ (kk < 0 ∧ 0 < rs.length) ∨ (0 ≤ kk ∧ (rs.length : Int) ≤ kk) ∨ (0 ≤ kk ∧ kk < rs.length) by omega) with hc | hc | hc | hc
            · simp [go_sem, seval, cntM_all, hls, hsl, hm, h11, h11, List.getElem?_eq_getElem h11, F4, xb, Stage.c, di1, h16, List.getElem?_eq_getElem h16, hkk, htn, List.getElem?_eq_getElem hk1, h16, hk1, hc.1, hT hc.1, List.getElem?_eq_none (show m.length ≤ 0 by omega), List.getElem?_eq_none (show ls.length ≤ 0 by omega)]
              refine dgcallQ_pure0 (r := .int .i64 0) (fun hg => absurd hg (by simp)) (fun hg => absurd hg (by simp)) ?_
              simp [go_sem, seval, cntM_all, hls, hsl, hm, h11, h11, List.getElem?_eq_getElem h11, F4, xb, Stage.c, di1, h16, List.getElem?_eq_getElem h16, hkk, htn, List.getElem?_eq_getElem hk1, h16, hk1, hc.1, hT hc.1, List.getElem?_eq_none (show m.length ≤ 0 by omega), List.getElem?_eq_none (show ls.length ≤ 0 by omega)]
              exact hQ _ _ (by left; simp [go_sem, hbad (by omega)])
            · simp [go_sem, seval, cntM_all, hls, hsl, hm, h11, h11, List.getElem?_eq_getElem h11, F4, xb, Stage.c, di1, h16, List.getElem?_eq_getElem h16, hkk, htn, List.getElem?_eq_getElem hk1, h16, hk1, hc.1, hT hc.1, List.getElem?_eq_getElem (show 0 < m.length by omega), List.getElem?_eq_getElem (show 0 < ls.length by omega)]
              refine dgcallQ_pure0 (r := .int .i64 0) (fun hg => absurd hg (by simp)) (fun hg => absurd hg (by simp)) ?_
              simp [go_sem, seval, cntM_all, hls, hsl, hm, h11, h11, List.getElem?_eq_getElem h11, F4, xb, Stage.c, di1, h16, List.getElem?_eq_getElem h16, hkk, htn, List.getElem?_eq_getElem hk1, h16, hk1, hc.1, hT hc.1, List.getElem?_eq_getElem (show 0 < m.length by omega), List.getElem?_eq_getElem (show 0 < ls.length by omega)]
              exact hQ _ _ (by left; simp [go_sem, hbad (by omega)])
            · simp [go_sem, seval, cntM_all, hls, hsl, hm, h11, h11, List.getElem?_eq_getElem h11, F4, xb, Stage.c, di1, h16, List.getElem?_eq_getElem h16, hkk, htn, List.getElem?_eq_getElem hk1, h16, hk1, hc.2, Int.not_lt.2 hc.1, List.getElem?_eq_none (show m.length ≤ kk.toNat by omega), List.getElem?_eq_none (show ls.length ≤ kk.toNat by omega)]
              refine dgcallQ_pure0 (r := .int .i64 0) (fun hg => absurd hg (by simp)) (fun hg => absurd hg (by simp)) ?_
              simp [go_sem, seval, cntM_all, hls, hsl, hm, h11, h11, List.getElem?_eq_getElem h11, F4, xb, Stage.c, di1, h16, List.getElem?_eq_getElem h16, hkk, htn, List.getElem?_eq_getElem hk1, h16, hk1, hc.2, Int.not_lt.2 hc.1, List.getElem?_eq_none (show m.length ≤ kk.toNat by omega), List.getElem?_eq_none (show ls.length ≤ kk.toNat by omega)]
              exact hQ _ _ (by left; simp [go_sem, hbad (by omega)])
            try simp [go_sem, seval, cntM_all, hls, hsl, hm, h11, h11, List.getElem?_eq_getElem h11, F4, xb, Stage.c, di1, h16, List.getElem?_eq_getElem h16, hkk, htn, List.getElem?_eq_getElem hk1, h16, hk1, hc.2, Int.not_lt.2 hc.1, Int.not_le.2 hc.2, hc.1, List.getElem?_eq_getElem (hkA hc), List.getElem?_eq_getElem (hkM hc), hkA hc, hkM hc]
            repeat (first | intro _ | (refine ⟨obs, ?_⟩))
            refine dgcallQ_pure0 (fun hg => (by exact counting_product st[q].weights (ls[kk.toNat]'(hkA hc)) (hPO _ (List.getElem_mem _)))) (fun hg => (by first | rfl | (simp [go_sem, ← List.map_take, ← List.map_drop, cntM_all, hls, hsl, hm, h11, h11, List.getElem?_eq_getElem h11, F4, xb, Stage.c, di1, h16, List.getElem?_eq_getElem h16, hkk, htn, List.getElem?_eq_getElem hk1, h16, hk1, hc.2, Int.not_lt.2 hc.1, Int.not_le.2 hc.2, hc.1, List.getElem?_eq_getElem (hkA hc), List.getElem?_eq_getElem (hkM hc), hkA hc, hkM hc]; done))) ?_
            try simp [go_sem, seval, cntM_all, hls, hsl, hm, h11, h11, List.getElem?_eq_getElem h11, F4, xb, Stage.c, di1, h16, List.getElem?_eq_getElem h16, hkk, htn, List.getElem?_eq_getElem hk1, h16, hk1, hc.2, Int.not_lt.2 hc.1, Int.not_le.2 hc.2, hc.1, List.getElem?_eq_getElem (hkA hc), List.getElem?_eq_getElem (hkM hc), hkA hc, hkM hc]
            repeat (first | intro _ | (refine ⟨obs, ?_⟩))
            refine condQ_mk (fun h18 => ?_) (fun h18 => ?_)
            · try simp [go_sem] at h18
              have hlow : lowM ls m st[q].weights kk.toNat = (m[kk.toNat]'(hkM hc) && decide (prodF st[q].weights (ls[kk.toNat]'(hkA hc)) < 0)) := by simp [lowM, List.getElem?_eq_getElem (hkA hc), List.getElem?_eq_getElem (hkM hc)]
              have hr18 : remB ls m st[q].weights st[q].removed i = false := by
                rw [hrem, hlow, Bool.eq_false_iff]
                intro h0
                simp only [Bool.and_eq_true, Bool.or_eq_true, decide_eq_true_eq] at h0
                rcases h18 with (h | h) | h
                · rw [h] at h0; simp at h0
                · omega
                · omega
              have hR : rightB ls (t.nodes.length + t.edges.length) m st[q] = false := by
                have ha : (List.range st[q].removed.length).all (remB ls m st[q].weights st[q].removed) = false := by
                  rw [List.all_eq_false]
                  exact ⟨i, List.mem_range.2 h16, by rw [hr18]; simp⟩
                unfold rightB; rw [ha]; simp
              have hC : chkF t rs st = false := by rw [← hF]; simp only [chkL, hR, Bool.false_and]
              try simp [go_sem, seval, cntM_all, hls, hsl, hm, h11, h11, List.getElem?_eq_getElem h11, F4, xb, Stage.c, di1, h16, List.getElem?_eq_getElem h16, hkk, htn, List.getElem?_eq_getElem hk1, h16, hk1, hc.2, Int.not_lt.2 hc.1, Int.not_le.2 hc.2, hc.1, List.getElem?_eq_getElem (hkA hc), List.getElem?_eq_getElem (hkM hc), hkA hc, hkM hc]
              exact hQ _ _ (by first | (left; (simp [go_sem, hC]); done) | (right; (simp [go_sem, hC]); done))
            · try simp [go_sem] at h18
              have hlow : lowM ls m st[q].weights kk.toNat = (m[kk.toNat]'(hkM hc) && decide (prodF st[q].weights (ls[kk.toNat]'(hkA hc)) < 0)) := by simp [lowM, List.getElem?_eq_getElem (hkA hc), List.getElem?_eq_getElem (hkM hc)]
              have hr18 : remB ls m st[q].weights st[q].removed i = true := by
                rw [hrem, hlow, h18.1.1, decide_eq_true hc.1, decide_eq_true h18.2]
                rcases Nat.eq_zero_or_pos i with h0 | h0
                · simp [h0]
                · simp; exact .inr (h18.1.2 h0)
              try simp [go_sem, seval, cntM_all, hls, hsl, hm, h11, h11, List.getElem?_eq_getElem h11, F4, xb, Stage.c, di1, h16, List.getElem?_eq_getElem h16, hkk, htn, List.getElem?_eq_getElem hk1, h16, hk1, hc.2, Int.not_lt.2 hc.1, Int.not_le.2 hc.2, hc.1, List.getElem?_eq_getElem (hkA hc), List.getElem?_eq_getElem (hkM hc), hkA hc, hkM hc]
              repeat (first | intro _ | (refine ⟨obs, ?_⟩))
              refine nextQ_mk (i + 1) (by omega) ((hI4 _ _ _).2 ⟨(b), ?_, ?_, ?_, ?_, ?_, ?_, ?_, ?_, ?_, ?_, ?_, ?_, ?_, ?_, ?_, ?_, (by first | assumption | omega | (simp [go_sem, cntM_all, hls, hsl, hm, h11, h11, List.getElem?_eq_getElem h11, F4, xb, Stage.c, di1, h16, List.getElem?_eq_getElem h16, hkk, htn, List.getElem?_eq_getElem hk1, h16, hk1, hc.2, Int.not_lt.2 hc.1, Int.not_le.2 hc.2, hc.1, List.getElem?_eq_getElem (hkA hc), List.getElem?_eq_getElem (hkM hc), hkA hc, hkM hc, h2, h6, h13, h18]; done) | (simp_all; done) | (simp_all; omega)), (by first | assumption | omega | (simp [go_sem, cntM_all, hls, hsl, hm, h11, h11, List.getElem?_eq_getElem h11, F4, xb, Stage.c, di1, h16, List.getElem?_eq_getElem h16, hkk, htn, List.getElem?_eq_getElem hk1, h16, hk1, hc.2, Int.not_lt.2 hc.1, Int.not_le.2 hc.2, hc.1, List.getElem?_eq_getElem (hkA hc), List.getElem?_eq_getElem (hkM hc), hkA hc, hkM hc, h2, h6, h13, h18]; done) | (simp_all; done) | (simp_all; omega)), (by (rw [range_all_succ, hall, hr18]; rfl))⟩) <;> first | omega | (simp [go_sem, seval, cntM_all, hls, hsl, hm, h11, h11, List.getElem?_eq_getElem h11, F4, xb, Stage.c, di1, h16, List.getElem?_eq_getElem h16, hkk, htn, List.getElem?_eq_getElem hk1, h16, hk1, hc.2, Int.not_lt.2 hc.1, Int.not_le.2 hc.2, hc.1, List.getElem?_eq_getElem (hkA hc), List.getElem?_eq_getElem (hkM hc), hkA hc, hkM hc] <;> omega)
          · try simp [go_sem] at h16
            rw [show i = st[q].removed.length by omega] at hall
            try simp [go_sem, seval, cntM_all, hls, hsl, hm, h11, h11, List.getElem?_eq_getElem h11, F4, xb, Stage.c, di1]
            repeat (first | intro _ | (refine ⟨obs, ?_⟩))
            obtain ⟨I6, hI6⟩ : ∃ I6 : Nat → Env → AHeap → Prop, ∀ (j : Nat) (e : Env) (H : AHeap), I6 j e H ↔ ((e 3 = .adr t.c) ∧ (e 1 = .list (rs.map Rule.c)) ∧ (e 2 = .list (st.map Stage.c)) ∧ (e 7 = .list (ls.map cL)) ∧ (e 9 = .own 0 rs.length) ∧ (e 12 = .ptr b 1 0 0) ∧ (e 38 = .list (st.map Stage.c)) ∧ (e 39 = dI st.length) ∧ (e 40 = dI q) ∧ (e 115 = dI rs.length) ∧ (e 116 = dI j) ∧ (H.get 0 = some ⟨4, 1, m.map cB, false⟩) ∧ (0 < H.next) ∧ (H.get b = some ⟨33, 2, [st[q].c], false⟩) ∧ (b < H.next) ∧ (j ≤ rs.length) ∧ ((List.range j).any (highM ls m st[q].weights) = false)) := ⟨fun j e H => _, fun _ _ _ => Iff.rfl⟩
            refine loopK I6 (fun j => rs.length - j) (0) ((hI6 _ _ _).2 ⟨?_, ?_, ?_, ?_, ?_, ?_, ?_, ?_, ?_, ?_, ?_, ?_, ?_, ?_, ?_, (by first | assumption | omega | (simp [go_sem, cntM_all, hls, hsl, hm, h11, h11, List.getElem?_eq_getElem h11, F4, xb, Stage.c, di1]; done) | (simp_all; done)), (by rfl)⟩) ?_
            iterate 15 (first | omega | (simp [go_sem, seval, cntM_all, hls, hsl, hm, h11, h11, List.getElem?_eq_getElem h11, F4, xb, Stage.c, di1] <;> omega))
            intro j e H hi6
            obtain ⟨q3_6, q1_6, q2_6, q7_6, q9_6, q12_6, q38_6, q39_6, q40_6, q115_6, q116_6, g0_6, n0_6, gb_6, nb_6, hj, hok⟩ := (hI6 _ _ _).1 hi6
            have x0 := frs n0_6
            have xb := frs nb_6
            have F6 := And.intro q3_6 (And.intro q1_6 (And.intro q2_6 (And.intro q7_6 (And.intro q9_6 (And.intro q12_6 (And.intro q38_6 (And.intro q39_6 (And.intro q40_6 (And.intro q115_6 (And.intro q116_6 (And.intro g0_6 (And.intro gb_6 x0))))))))))))
            try simp [go_sem, seval, cntM_all, hls, hsl, hm, h11, h11, List.getElem?_eq_getElem h11, Stage.c, di1, F6, xb, Stage.c]
            refine condQ_mk (fun h22 => ?_) (fun h22 => ?_)
            · try simp [go_sem] at h22
              have hjl : j < ls.length := by omega
              have hjm : j < m.length := by omega
              have hhi0 : highM ls m st[q].weights j = (m[j] && decide (0 < prodF st[q].weights ls[j])) := by simp [highM, List.getElem?_eq_getElem hjl, List.getElem?_eq_getElem hjm]
              try simp [go_sem, seval, cntM_all, hls, hsl, hm, h11, h11, List.getElem?_eq_getElem h11, Stage.c, di1, F6, xb, Stage.c, h22, List.getElem?_eq_getElem hjl, List.getElem?_eq_getElem hjm, hjl, hjm]
              repeat (first | intro _ | (refine ⟨obs, ?_⟩))
              refine dgcallQ_pure0 (fun hg => (by exact counting_product st[q].weights ls[j] (hPO _ (List.getElem_mem hjl)))) (fun hg => (by first | rfl | (simp [go_sem, ← List.map_take, ← List.map_drop, cntM_all, hls, hsl, hm, h11, h11, List.getElem?_eq_getElem h11, Stage.c, di1, F6, xb, Stage.c, h22, List.getElem?_eq_getElem hjl, List.getElem?_eq_getElem hjm, hjl, hjm]; done))) ?_
              try simp [go_sem, seval, cntM_all, hls, hsl, hm, h11, h11, List.getElem?_eq_getElem h11, Stage.c, di1, F6, xb, Stage.c, h22, List.getElem?_eq_getElem hjl, List.getElem?_eq_getElem hjm, hjl, hjm]
              repeat (first | intro _ | (refine ⟨obs, ?_⟩))
              refine condQ_mk (fun h24 => ?_) (fun h24 => ?_)
              · try simp [go_sem] at h24
                have hK : okM ls m st[q].weights = false := by
                  have : (List.range ls.length).any (highM ls m st[q].weights) = true := List.any_eq_true.2 ⟨j, List.mem_range.2 hjl, by rw [hhi0]; simp; exact h24⟩
                  unfold okM; rw [this]; rfl
                have hR : rightB ls (t.nodes.length + t.edges.length) m st[q] = false := by unfold rightB; rw [hK]; simp
                have hC : chkF t rs st = false := by rw [← hF]; simp only [chkL, hR, Bool.false_and]
                try simp [go_sem, seval, cntM_all, hls, hsl, hm, h11, h11, List.getElem?_eq_getElem h11, Stage.c, di1, F6, xb, Stage.c, h22, List.getElem?_eq_getElem hjl, List.getElem?_eq_getElem hjm, hjl, hjm]
                exact hQ _ _ (by first | (left; (simp [go_sem, hC]); done) | (right; (simp [go_sem, hC]); done))
              · try simp [go_sem] at h24
                have hhi : highM ls m st[q].weights j = false := by rw [hhi0]; simp; exact h24
                try simp [go_sem, seval, cntM_all, hls, hsl, hm, h11, h11, List.getElem?_eq_getElem h11, Stage.c, di1, F6, xb, Stage.c, h22, List.getElem?_eq_getElem hjl, List.getElem?_eq_getElem hjm, hjl, hjm]
                repeat (first | intro _ | (refine ⟨obs, ?_⟩))
                refine nextQ_mk (j + 1) (by omega) ((hI6 _ _ _).2 ⟨?_, ?_, ?_, ?_, ?_, ?_, ?_, ?_, ?_, ?_, ?_, ?_, ?_, ?_, ?_, (by first | assumption | omega | (simp [go_sem, cntM_all, hls, hsl, hm, h11, h11, List.getElem?_eq_getElem h11, Stage.c, di1, F6, xb, Stage.c, h22, List.getElem?_eq_getElem hjl, List.getElem?_eq_getElem hjm, hjl, hjm, h2, h6, h13, h16, h24]; done) | (simp_all; done) | (simp_all; omega)), (by (rw [range_any_succ, hok, hhi]; rfl))⟩) <;> first | omega | (simp [go_sem, seval, cntM_all, hls, hsl, hm, h11, h11, List.getElem?_eq_getElem h11, Stage.c, di1, F6, xb, Stage.c, h22, List.getElem?_eq_getElem hjl, List.getElem?_eq_getElem hjm, hjl, hjm] <;> omega)
            · try simp [go_sem] at h22
              have hok2 : okM ls m st[q].weights = true := by unfold okM; rw [show ls.length = j by omega, hok]; rfl
              have hR : rightB ls (t.nodes.length + t.edges.length) m st[q] = true := by unfold rightB; rw [decide_eq_true hsl2, decide_eq_false hsr, ho, hall, hok2]; rfl
              obtain ⟨r1, r2, r3, r4, r5⟩ := rightB_on hR
              try simp [go_sem, seval, cntM_all, hls, hsl, hm, h11, h11, List.getElem?_eq_getElem h11, Stage.c, di1, F6, xb, Stage.c]
              repeat (first | intro _ | (refine ⟨obs, ?_⟩))
              obtain ⟨I8, hI8⟩ : ∃ I8 : Nat → Env → AHeap → Prop, ∀ (p : Nat) (e : Env) (H : AHeap), I8 p e H ↔ ((e 3 = .adr t.c) ∧ (e 1 = .list (rs.map Rule.c)) ∧ (e 2 = .list (st.map Stage.c)) ∧ (e 7 = .list (ls.map cL)) ∧ (e 9 = .own 0 rs.length) ∧ (e 38 = .list (st.map Stage.c)) ∧ (e 39 = dI st.length) ∧ (e 40 = dI q) ∧ (e 135 = dLI st[q].removed) ∧ (e 136 = dI st[q].removed.length) ∧ (e 137 = dI p) ∧ (H.get 0 = some ⟨4, 1, (offM m (st[q].removed.take p)).map cB, false⟩) ∧ (0 < H.next) ∧ (p ≤ st[q].removed.length)) := ⟨fun p e H => _, fun _ _ _ => Iff.rfl⟩
              refine loopK I8 (fun p => st[q].removed.length - p) (0) ((hI8 _ _ _).2 ⟨?_, ?_, ?_, ?_, ?_, ?_, ?_, ?_, ?_, ?_, ?_, (by (simp [go_sem, cntM_all, hls, hsl, hm, h11, h11, List.getElem?_eq_getElem h11, Stage.c, di1, F6, xb, Stage.c, offM])), ?_, (by first | assumption | omega | (simp [go_sem, cntM_all, hls, hsl, hm, h11, h11, List.getElem?_eq_getElem h11, Stage.c, di1, F6, xb, Stage.c]; done) | (simp_all; done))⟩) ?_
              iterate 12 (first | omega | (simp [go_sem, seval, cntM_all, hls, hsl, hm, h11, h11, List.getElem?_eq_getElem h11, Stage.c, di1, F6, xb, Stage.c] <;> omega))
              intro p e H hi8
              obtain ⟨q3_8, q1_8, q2_8, q7_8, q9_8, q38_8, q39_8, q40_8, q135_8, q136_8, q137_8, g0_8, n0_8, hp⟩ := (hI8 _ _ _).1 hi8
              have x0 := frs n0_8
              have F8 := And.intro q3_8 (And.intro q1_8 (And.intro q2_8 (And.intro q7_8 (And.intro q9_8 (And.intro q38_8 (And.intro q39_8 (And.intro q40_8 (And.intro q135_8 (And.intro q136_8 (And.intro q137_8 x0))))))))))
              try simp [go_sem, seval, cntM_all, hls, hsl, hm, h11, h11, List.getElem?_eq_getElem h11, Stage.c, di1, Stage.c, F8, g0_8]
              refine condQ_mk (fun h28 => ?_) (fun h28 => ?_)
              · try simp [go_sem] at h28
                have hrr := r5 _ (List.getElem_mem h28)
                have hrm := (List.getElem?_eq_some_iff.1 hrr.2).1
                have hrl : st[q].removed[p] < rs.length := by omega
                have hrt : st[q].removed[p].toNat < rs.length := by omega
                have hofl : (offM m (st[q].removed.take p)).length = rs.length := by rw [offM_len]; exact hm
                have hset : offM m (st[q].removed.take (p + 1)) = (offM m (st[q].removed.take p)).set st[q].removed[p].toNat false := by rw [List.take_succ_eq_append_getElem h28, offM_append]
                try simp [go_sem, seval, cntM_all, hls, hsl, hm, h11, h11, List.getElem?_eq_getElem h11, Stage.c, di1, Stage.c, F8, g0_8, h28, List.getElem?_eq_getElem h28, hset, hofl, hrl, hrt, h28]
                repeat (first | intro _ | (refine ⟨obs, ?_⟩))
                refine nextQ_mk (p + 1) (by omega) ((hI8 _ _ _).2 ⟨?_, ?_, ?_, ?_, ?_, ?_, ?_, ?_, ?_, ?_, ?_, (by (simp [go_sem, cntM_all, hls, hsl, hm, h11, h11, List.getElem?_eq_getElem h11, Stage.c, di1, Stage.c, F8, g0_8, h28, List.getElem?_eq_getElem h28, hset, hofl, hrl, hrt, h28, List.map_set])), ?_, (by first | assumption | omega | (simp [go_sem, cntM_all, hls, hsl, hm, h11, h11, List.getElem?_eq_getElem h11, Stage.c, di1, Stage.c, F8, g0_8, h28, List.getElem?_eq_getElem h28, hset, hofl, hrl, hrt, h28, h2, h6, h13, h16, h22]; done) | (simp_all; done) | (simp_all; omega))⟩) <;> first | omega | (simp [go_sem, seval, cntM_all, hls, hsl, hm, h11, h11, List.getElem?_eq_getElem h11, Stage.c, di1, Stage.c, F8, g0_8, h28, List.getElem?_eq_getElem h28, hset, hofl, hrl, hrt, h28] <;> omega)
              · try simp [go_sem] at h28
                rw [List.take_of_length_le (by omega)] at g0_8
                try simp [go_sem, seval, cntM_all, hls, hsl, hm, h11, h11, List.getElem?_eq_getElem h11, Stage.c, di1, Stage.c, F8, g0_8]
                repeat (first | intro _ | (refine ⟨obs, ?_⟩))
                refine nextQ_mk (q + 1) (by omega) ((hI2 _ _ _).2 ⟨(offM m st[q].removed), ?_, ?_, ?_, ?_, ?_, ?_, ?_, ?_, ?_, ?_, (by first | assumption | omega | (simp [go_sem, cntM_all, hls, hsl, hm, h11, h11, List.getElem?_eq_getElem h11, Stage.c, di1, Stage.c, F8, g0_8, h2, h6, h13, h16, h22, h28]; done) | (simp_all; done) | (simp_all; omega)), (by (rw [offM_len]; exact hm)), (by (rw [← hF]; simp only [chkL, hR, Bool.true_and]))⟩) <;> first | omega | (simp [go_sem, seval, cntM_all, hls, hsl, hm, h11, h11, List.getElem?_eq_getElem h11, Stage.c, di1, Stage.c, F8, g0_8] <;> omega)
      · try simp [go_sem] at h11
        rw [List.drop_eq_nil_of_le (by omega)] at hF
        have hE2 : chkF t rs st = decide (cntM m = 0) := by rw [← hF]; rfl
        try simp [go_sem, seval, cntM_all, hls, hsl, F2, hm]
        repeat (first | intro _ | (refine ⟨obs, ?_⟩))
        refine callQ_pureF (contains_bool m true) (by simp [rsvC, rsvP, cellsAt, go_sem, ← List.map_take, ← List.map_drop, cntM_all, hls, hsl, F2, hm]) ((by first | rfl | (simp [go_sem, ← List.map_take, ← List.map_drop, cntM_all, hls, hsl, F2, hm]; done))) ( rfl) ?_
        try simp [go_sem, seval, cntM_all, hls, hsl, F2, hm]
        repeat (first | intro _ | (refine ⟨obs, ?_⟩))
        exact hQ _ _ (by first | (left; (simp [go_sem, cntM_all, hls, hsl, F2, hm, hE2, mem_cnt]); done) | (right; (simp [go_sem, cntM_all, hls, hsl, F2, hm, hE2, mem_cnt]); done))
end Go.Abs
end
section
set_option linter.unusedVariables false
set_option linter.unusedSimpArgs false
set_option maxRecDepth 8000
set_option maxHeartbeats 2000000
open Go Go.Proofs
namespace Go.Abs
def preC (xs : List Cnt) (i : Nat) : List Cnt := (xs.take i).foldl cntF []
theorem preC_succ {xs : List Cnt} {i : Nat} (h : i < xs.length) : preC xs (i + 1) = cntF (preC xs i) xs[i] := by
  unfold preC; rw [List.take_succ_eq_append_getElem h, List.foldl_append]; rfl
structure CntOk (xs : List Cnt) : Prop where
  sm : ∀ x ∈ xs, x.small
  pre : ∀ i, i ≤ xs.length → (preC xs i).length ≤ 1000 ∧ ∀ y ∈ preC xs i, y.small
  ins : ∀ i (h : i < xs.length), cntB (preC xs i) xs[i] = false → InsOk (preC xs i) (cntK (preC xs i) xs[i]) xs[i]
def cntG (g : Graph) : List Cnt := g.nodes.map fun n => ⟨n, 0, 0, 1⟩
theorem statistic_OfC (t : Types) (ht : t.ok) (g : Graph) (hT : typed18 t g = 0) (hE0 : g.edges = []) (ok : CntOk (cntG g)) (Q : D → AHeap → Prop) (hQ : ∀ c H', c.cl = true → c.cell = true → (∀ H, rsv1 H c = c) → Q (.tup [.agg [c, .nil], dI 0]) H') : ACalls Tryz.prog 44 [t.d, g.d] .emp Q := by
  refine (acalls_of_body (cfg := ⟨fun t => t == 4 || t == 7 || t == 1000000, fun _ => []⟩) Tz.mixed Tryz.func44 rfl rfl (Nat.le_of_ble_eq_true rfl) (by kernel_rfl) ?_)
  try simp [go_sem, seval, hT]
  refine callQ_pure0 (statistic_typed t ht g) ((by first | rfl | (simp [go_sem, ← List.map_take, ← List.map_drop, hT]; done))) ?_
  try simp [go_sem, seval, hT]
  repeat (first | intro _ | (refine ⟨obs, ?_⟩))
  obtain ⟨I0, hI0⟩ : ∃ I0 : Nat → Env → AHeap → Prop, ∀ (i : Nat) (e : Env) (H : AHeap), I0 i e H ↔ (∃ c : D, (e 2 = .adr t.c) ∧ (e 3 = .adr g.c) ∧ (e 4 = .ptr 0 1 0 0) ∧ (e 7 = .ptr 1 1 0 0) ∧ (e 20 = dLI g.nodes) ∧ (e 21 = dI g.nodes.length) ∧ (e 22 = dI i) ∧ (H.get 0 = some ⟨106, 2, [[.nil, .nil]], false⟩) ∧ (0 < H.next) ∧ (H.get 1 = some ⟨106, 2, [[c, .nil]], false⟩) ∧ (1 < H.next) ∧ (i ≤ g.nodes.length) ∧ (c = .nil ∨ ∃ es, c = .list es) ∧ (c.cl = true ∧ Own Tryz.prog 121 [c] 144 4 ((preC (cntG g) i).map Cnt.c))) := ⟨fun i e H => _, fun _ _ _ => Iff.rfl⟩
  refine loopK I0 (fun i => g.nodes.length - i) (0) ((hI0 _ _ _).2 ⟨(.nil), ?_, ?_, ?_, ?_, ?_, ?_, ?_, ?_, ?_, ?_, ?_, (by first | assumption | omega | (simp [go_sem, hT]; done) | (simp_all; done)), (by exact .inl rfl), (by exact ⟨rfl, clone_cnt0⟩)⟩) ?_
  iterate 11 (first | omega | (simp [go_sem, seval, hT] <;> omega))
  intro i e H hi0
  obtain ⟨c, q2_0, q3_0, q4_0, q7_0, q20_0, q21_0, q22_0, g0_0, n0_0, g1_0, n1_0, hi, hcv, hc⟩ := (hI0 _ _ _).1 hi0
  have x0 := frs n0_0
  have x1 := frs n1_0
  have F0 := And.intro q2_0 (And.intro q3_0 (And.intro q4_0 (And.intro q7_0 (And.intro q20_0 (And.intro q21_0 (And.intro q22_0 (And.intro g0_0 (And.intro g1_0 (And.intro x0 x1)))))))))
  have hcl : c.cl = true := hc.1
  have hr1 : ∀ H, rsv1 H c = c := fun H => by rcases hcv with rfl | ⟨es, rfl⟩ <;> rfl
  have hr2 : ids1 c = [] := by rcases hcv with rfl | ⟨es, rfl⟩ <;> rfl
  have hr3 : c.cell = true := by rcases hcv with rfl | ⟨es, rfl⟩ <;> rfl
  have hr4 := hr3
  unfold D.cell at hr4
  try simp [go_sem, seval, hT, F0, hcl, hr1, hr2, hr3, hr4]
  refine condQ_mk (fun h6 => ?_) (fun h6 => ?_)
  · try simp [go_sem] at h6
    have hil : i < (cntG g).length := by unfold cntG; rw [List.length_map]; exact h6
    have hx : (cntG g)[i] = ⟨g.nodes[i], 0, 0, 1⟩ := by simp [cntG]
    have hps := preC_succ hil
    rw [hx] at hps
    try simp [go_sem, seval, hT, F0, hcl, hr1, hr2, hr3, hr4, h6, h6, List.getElem?_eq_getElem h6, hps]
    repeat (first | intro _ | (refine ⟨obs, ?_⟩))
    refine callQ_own0 ((by have hq := statistic_counted c (preC (cntG g) i) (ok.pre i (Nat.le_of_lt hil)).1 hc.2 hc.1 (ok.pre i (Nat.le_of_lt hil)).2 ((cntG g)[i]'hil) (ok.sm _ (List.getElem_mem _)) (ok.ins i hil); simp only [hx] at hq; exact hq)) ((by first | rfl | (simp [go_sem, ← List.map_take, ← List.map_drop, hT, F0, hcl, hr1, hr2, hr3, hr4, h6, h6, List.getElem?_eq_getElem h6, hps]; done))) ?_
    try simp [go_sem, seval, hT, F0, hcl, hr1, hr2, hr3, hr4, h6, h6, List.getElem?_eq_getElem h6, hps]
    repeat (first | intro _ | (refine ⟨obs, ?_⟩))
    refine nextQ_mk (i + 1) (by omega) ((hI0 _ _ _).2 ⟨(.list ((preC (cntG g) (i + 1)).map Cnt.c)), ?_, ?_, ?_, ?_, ?_, ?_, ?_, ?_, ?_, ?_, ?_, (by first | assumption | omega | (simp [go_sem, hT, F0, hcl, hr1, hr2, hr3, hr4, h6, h6, List.getElem?_eq_getElem h6, hps]; done) | (simp_all; done) | (simp_all; omega)), (by exact .inr ⟨_, rfl⟩), (by (exact ⟨by simp [go_sem], clone_cnt _ (Nat.le_trans (ok.pre (i + 1) hil).1 (by decide))⟩))⟩) <;> first | omega | (simp [go_sem, seval, hT, F0, hcl, hr1, hr2, hr3, hr4, h6, h6, List.getElem?_eq_getElem h6, hps] <;> omega)
  · try simp [go_sem] at h6
    try simp [go_sem, seval, hT, F0, hcl, hr1, hr2, hr3, hr4]
    repeat (first | intro _ | (refine ⟨obs, ?_⟩))
    obtain ⟨I2, hI2⟩ : ∃ I2 : Nat → Env → AHeap → Prop, ∀ (k : Nat) (e : Env) (H : AHeap), I2 k e H ↔ ((e 2 = .adr t.c) ∧ (e 3 = .adr g.c) ∧ (e 4 = .ptr 0 1 0 0) ∧ (e 7 = .ptr 1 1 0 0) ∧ (e 34 = .list (g.edges.map Edge.c)) ∧ (e 35 = dI g.edges.length) ∧ (e 36 = dI k) ∧ (H.get 0 = some ⟨106, 2, [[.nil, .nil]], false⟩) ∧ (0 < H.next) ∧ (H.get 1 = some ⟨106, 2, [[c, .nil]], false⟩) ∧ (1 < H.next)) := ⟨fun k e H => _, fun _ _ _ => Iff.rfl⟩
    refine loopK I2 (fun k => g.edges.length - k) (0) ((hI2 _ _ _).2 ⟨?_, ?_, ?_, ?_, ?_, ?_, ?_, ?_, ?_, ?_, ?_⟩) ?_
    iterate 11 (first | omega | (simp [go_sem, seval, hT, F0, hcl, hr1, hr2, hr3, hr4] <;> omega))
    intro k e H hi2
    obtain ⟨q2_2, q3_2, q4_2, q7_2, q34_2, q35_2, q36_2, g0_2, n0_2, g1_2, n1_2⟩ := (hI2 _ _ _).1 hi2
    have x0 := frs n0_2
    have x1 := frs n1_2
    have F2 := And.intro q2_2 (And.intro q3_2 (And.intro q4_2 (And.intro q7_2 (And.intro q34_2 (And.intro q35_2 (And.intro q36_2 (And.intro g0_2 (And.intro g1_2 (And.intro x0 x1)))))))))
    try simp [go_sem, seval, hT, hcl, hr1, hr2, hr3, hr4, F2]
    refine condQ_mk (fun h11 => ?_) (fun h11 => ?_)
    · rw [hE0] at h11; simp at h11
    · try simp [go_sem] at h11
      try simp [go_sem, seval, hT, hcl, hr1, hr2, hr3, hr4, F2]
      exact hQ c _ hcl hr3 hr1
theorem counting_RankA (t : Types) (ht : t.ok) (st : List Stage) (g : Graph) (hT : typed18 t g = 0) (hE0 : g.edges = []) (ok : CntOk (cntG g)) : Pure Tryz.prog 18 [t.d, .list (st.map Stage.c), g.d] (.tup [dLI (rankF t st g), dI (rankE t st g)]) := by
  have hSt : PureE Tryz.prog 44 [t.d, g.d] (fun r => ∃ c, c.cell = true ∧ r = .tup [.agg [c, .nil], dI 0]) :=
    pureE_of_calls (statistic_OfC t ht g hT hE0 ok _ fun c H' h1 h2 h3 => by
      have e : rsvT H' (.tup [.agg [c, .nil], dI 0]) = .tup [.agg [c, .nil], dI 0] := by simp [go_sem, h3, dI]
      rw [e]
      exact ⟨⟨c, h2, rfl⟩, by simp [go_sem, h1, dI]⟩)
  refine pureK (by first | rfl | (simp [go_sem]; done)) (fun Q hQ => (acalls_of_body (cfg := ⟨fun t => t == 8 || t == 10 || t == 12, fun _ => []⟩) Tz.mixed Tryz.func18 rfl rfl (Nat.le_of_ble_eq_true rfl) (by kernel_rfl) ?_))
  try simp [go_sem, seval]
  unfold callQ; refine ACalls.pureE hSt (by simp [go_sem]) (fun r hR hrc => ?_); obtain ⟨c, hr3, rfl⟩ := hR; have hr4 := hr3; unfold D.cell at hr4
  try simp [go_sem, seval, hr3, hr4]
  repeat (first | intro _ | (refine ⟨obl, ?_⟩))
  refine condQ_mk (fun h4 => ?_) (fun h4 => ?_)
  · try simp [go_sem] at h4
    have hE : rankE t st g = 3 := by unfold rankE; rw [if_neg (by omega), if_pos (by omega)]
    try simp [go_sem, seval, hr3, hr4]
    exact hQ _ _ (by first | (left; (simp [go_sem, rankF, hE]); done) | (right; (simp [go_sem, rankF, hE]); done))
  · try simp [go_sem] at h4
    have hE : rankE t st g = listE (fun s => weightE t s.weights g) st := by unfold rankE; rw [if_neg (by omega), if_neg (by omega)]
    try simp [go_sem, seval, hr3, hr4]
    repeat (first | intro _ | (refine ⟨obl, ?_⟩))
    obtain ⟨I0, hI0⟩ : ∃ I0 : Nat → Env → AHeap → Prop, ∀ (i : Nat) (e : Env) (H : AHeap), I0 i e H ↔ (∃ xs : List Int, (e 3 = .adr t.c) ∧ (e 5 = .adr g.c) ∧ (e 1 = .list (st.map Stage.c)) ∧ (e 10 = .own 1 xs.length) ∧ (e 27 = .list (st.map Stage.c)) ∧ (e 28 = dI st.length) ∧ (e 29 = dI i) ∧ (H.get 1 = some ⟨3, 1, xs.map cI, false⟩) ∧ (1 < H.next) ∧ (i ≤ st.length) ∧ (xs = (st.take i).map (fun s => weightF t s.weights g)) ∧ (listE (fun s => weightE t s.weights g) (st.drop i) = rankE t st g)) := ⟨fun i e H => _, fun _ _ _ => Iff.rfl⟩
    refine loopK I0 (fun i => st.length - i) (0) ((hI0 _ _ _).2 ⟨([]), ?_, ?_, ?_, ?_, ?_, ?_, ?_, ?_, ?_, (by first | assumption | omega | (simp [go_sem, hr3, hr4]; done) | (simp_all; done)), (by rfl), (by (exact hE.symm))⟩) ?_
    iterate 9 (first | omega | (simp [go_sem, seval, hr3, hr4] <;> omega))
    intro i e H hi0
    obtain ⟨xs, q3_0, q5_0, q1_0, q10_0, q27_0, q28_0, q29_0, g1_0, n1_0, hi, hx, hL⟩ := (hI0 _ _ _).1 hi0
    have x1 := frs n1_0
    have F0 := And.intro q3_0 (And.intro q5_0 (And.intro q1_0 (And.intro q10_0 (And.intro q27_0 (And.intro q28_0 (And.intro q29_0 (And.intro g1_0 x1)))))))
    try simp [go_sem, seval, hr3, hr4, F0]
    refine condQ_mk (fun h8 => ?_) (fun h8 => ?_)
    · try simp [go_sem] at h8
      have hst := hL
      rw [listE_step _ h8] at hst
      have hxl : xs.length = i := by rw [hx]; simp; omega
      try simp [go_sem, seval, hr3, hr4, F0, h8]
      repeat (first | intro _ | (refine ⟨obl, ?_⟩))
      refine callQ_pure0 (weight_Of t ht st[i].weights g) ((by first | rfl | (simp [go_sem, ← List.map_take, ← List.map_drop, hr3, hr4, F0, h8]; done))) ?_
      try simp [go_sem, seval, hr3, hr4, F0, h8]
      repeat (first | intro _ | (refine ⟨obl, ?_⟩))
      refine condQ_mk (fun h11 => ?_) (fun h11 => ?_)
      · try simp [go_sem] at h11
        rw [if_pos (by omega)] at hst
        have hF : rankF t st g = [] := if_neg (by omega)
        try simp [go_sem, seval, hr3, hr4, F0, h8]
        exact hQ _ _ (by first | (left; (simp [go_sem, hF, ← hst]); done) | (right; (simp [go_sem, hF, ← hst]); done))
      · try simp [go_sem] at h11
        rw [if_neg (by omega)] at hst
        try simp [go_sem, seval, hr3, hr4, F0, h8]
        repeat (first | intro _ | (refine ⟨obl, ?_⟩))
        refine nextQ_mk (i + 1) (by omega) ((hI0 _ _ _).2 ⟨(xs ++ [weightF t st[i].weights g]), ?_, ?_, ?_, ?_, ?_, ?_, ?_, ?_, ?_, (by first | assumption | omega | (simp [go_sem, hr3, hr4, F0, h8, h4, h11]; done) | (simp_all; done) | (simp_all; omega)), (by (rw [map_take_succ _ h8, ← hx])), (by exact hst)⟩) <;> first | omega | (simp [go_sem, seval, hr3, hr4, F0, h8] <;> omega)
    · try simp [go_sem] at h8
      have hL0 : rankE t st g = 0 := by rw [← hL, listE_end _ (by omega)]
      have hX : xs = rankF t st g := by unfold rankF; rw [if_pos hL0, hx, map_take_end _ (by omega)]
      try simp [go_sem, seval, hr3, hr4, F0]
      exact hQ _ _ (by first | (left; (simp [go_sem, hr3, hr4, F0, hL0, ← hX]); done) | (right; (simp [go_sem, hr3, hr4, F0, hL0, ← hX]); done))
theorem cntOk_awake : CntOk (cntG ⟨[0, 1, 1], []⟩) where
  sm x hx := by
    simp [cntG] at hx
    rcases hx with rfl | rfl <;> simp [Cnt.small]
  pre i hi := by
    have h : ∀ j, j ≤ 3 → (preC (cntG ⟨[0, 1, 1], []⟩) j).length ≤ 1000 ∧ ∀ y ∈ preC (cntG ⟨[0, 1, 1], []⟩) j, y.small := by
      intro j hj
      have e0 : preC (cntG ⟨[0, 1, 1], []⟩) 0 = [] := rfl
      have e1 : preC (cntG ⟨[0, 1, 1], []⟩) 1 = [⟨0, 0, 0, 1⟩] := by rfl
      have e2 : preC (cntG ⟨[0, 1, 1], []⟩) 2 = [⟨0, 0, 0, 1⟩, ⟨1, 0, 0, 1⟩] := by rfl
      have e3 : preC (cntG ⟨[0, 1, 1], []⟩) 3 = [⟨0, 0, 0, 1⟩, ⟨1, 0, 0, 2⟩] := by rfl
      rcases (show j = 0 ∨ j = 1 ∨ j = 2 ∨ j = 3 by omega) with rfl | rfl | rfl | rfl
      · rw [e0]; simp
      · rw [e1]; simp [Cnt.small]
      · rw [e2]; simp [Cnt.small]
      · rw [e3]; simp [Cnt.small]
    exact h i hi
  ins i hi hb := by
    have h : i < 3 := hi
    rcases (show i = 0 ∨ i = 1 ∨ i = 2 by omega) with rfl | rfl | rfl
    · exact insert_end [] (by simp) _
    · exact insert_end [⟨0, 0, 0, 1⟩] (by simp) _
    · have hb' : cntB [⟨0, 0, 0, 1⟩, ⟨1, 0, 0, 1⟩] ⟨1, 0, 0, 1⟩ = false := hb
      exact absurd hb' (by decide)
theorem counting_Rank_awake (ht : twoT.ok) : Pure Tryz.prog 18 [twoT.d, .list ([(⟨[3, 1], [0, 1]⟩ : Stage)].map Stage.c), Graph.d ⟨[0, 1, 1], []⟩] (.tup [dLI (rankF twoT [⟨[3, 1], [0, 1]⟩] ⟨[0, 1, 1], []⟩), dI (rankE twoT [⟨[3, 1], [0, 1]⟩] ⟨[0, 1, 1], []⟩)]) :=
  counting_RankA twoT ht [⟨[3, 1], [0, 1]⟩] ⟨[0, 1, 1], []⟩ (by decide +kernel) rfl cntOk_awake
end Go.Abs
end
section
set_option linter.unusedVariables false
set_option linter.unusedSimpArgs false
namespace Go.Abs
variable {P : Program}
theorem run_copy_rowK (w : World) (dT sT ty elem : TypeId) (sz : Nat) (g o dLen dCap : Nat) (a : Addr) (sLen sCap n : Nat) (cur : Array Value) (t : TypeId) (cs : List Value)
    (hu : P.underlying dT = some (.slice elem)) (hs : (P.info? elem).map (·.size) = some sz)
    (hg : w.heap[g]? = some (.cells cur t (0, 0))) (hn : n = Nat.min sLen dLen) (hcl : cs.length = n * sz)
    (hsrc : ∀ j v, cs[j]? = some v → w.cell? (a.add j) = some v) (hfit : o + cs.length ≤ cur.size) (h1 : ∀ v ∈ cs, v.oneCell' = true) :
    (Builtin.copy_ #[dT, sT] ty #[.slice (some ⟨g, o, none⟩) dLen dCap, .slice (some a) sLen sCap]).run P w =
      .ok (goInt n) (w.setRow g (cur.toList.take o ++ cs ++ cur.toList.drop (o + cs.length)).toArray) := by
  have hl := run_loadCells_list (P := P) w a cs hsrc
  have hst := run_storeCells_at P g o t cs 0 cur w hg (by simpa using hfit) h1
  cases hq : P.info? elem with
  | none => simp [hq] at hs
  | some i =>
    have hi : i.size = sz := by simpa [hq] using hs
    rw [hcl] at hl
    simp [Builtin.copy_, run_underlying hu, Builtin.lenOf, Builtin.firstCells, sizeOf, typeInfo, hq, hi, ← hn, hl, hst]
theorem shape_of_cell {w : World} {a : Addr} {v : Value} (h : w.cell? a = some v) : ∃ t k, w.shape? a.block = some (t, k + 1) := by
  unfold World.cell? at h
  cases hb : w.heap[a.block]? with
  | none => rw [hb] at h; cases h
  | some o =>
    rw [hb] at h
    cases o with
    | cells c e f =>
      simp only at h
      split at h
      · cases h
      · have hlt := (Array.getElem?_eq_some_iff.1 h).1
        exact ⟨e, c.size - 1, by unfold World.shape?; rw [hb]; simp only; rw [show c.size - 1 + 1 = c.size by omega]⟩
    | _ => cases h
theorem run_overlaps_own (w : World) (tS tR e : TypeId) (ht : P.underlying tS = some (.slice e)) (size : Nat) (hz : ∀ w, (Go.sizeOf e).run P w = .ok size w)
    (a b : Addr) (la ca lb cb : Nat) (hne : a.block ≠ b.block) (tA : TypeId) (kA : Nat) (hsa : w.shape? a.block = some (tA, kA + 1)) {cur : Array Value} {tB : TypeId} (hb : w.heap[b.block]? = some (.cells cur tB (0, 0))) (hkB : cur.size ≠ 0) :
    (Extern.SlicesOverlaps.overlaps #[tS, tS] #[tR] #[.slice (some a) la ca, .slice (some b) lb cb]).run P w = .ok (.bool false) w := by
  have hnb : (a.block != b.block) = true := by simpa using hne
  have hnb' : (a.block == b.block) = false := by simpa using hne
  have hsb : w.shape? b.block = some (tB, cur.size) := by unfold World.shape?; rw [hb]
  have hf : ∀ o s, w.frozen? ⟨b.block, o, s⟩ = false := fun o s => by simp [World.frozen?, hb]
  have hf' : w.frozen? b = false := by simp [World.frozen?, hb]
  change Sem.run P (α := Value) (do
    let some t := (#[tS, tS] : Array TypeId)[0]? | stuck "none"
    let .slice elem ← underlying t | stuck _
    let size ← sizeOf elem
    match (some a : Option Addr), (some b : Option Addr) with
    | some a, some b =>
      if la = 0 ∨ lb = 0 ∨ size = 0 then pure (Value.bool false)
      else if a.block != b.block && (← frozen a) && (← frozen b) then unsupported .addressObserved
      else do
        if a.block != b.block then do
          noView a; noView b
          if ← mayBeOne a b then return Value.bool ((← choose _) == 1)
        pure (Value.bool (a.block == b.block && a.off < b.off + lb * size && b.off < a.off + la * size))
    | _, _ => pure (Value.bool false)) w = _
  by_cases h0 : la = 0 ∨ lb = 0 ∨ size = 0
  · simp [run_underlying ht, hz, h0]
  · obtain ⟨kB, hkB'⟩ : ∃ k, cur.size = k + 1 := ⟨cur.size - 1, by omega⟩
    rw [hkB'] at hsb
    cases hfa : w.frozen? a <;> cases hfe : w.frozen? ⟨a.block, kA + 1, none⟩ <;>
      simp [run_underlying ht, hz, h0, hnb, hnb', frozen, noView, viewAt, mayBeOne, stringish, shape, Sem.run, hsa, hsb, hfa, hfe, hf, hf']
theorem ins_row {cur : List Value} {xs vs : List Value} {n c i m : Nat} (hc : cur.length = c * 4) (hxs : cur.take (n * 4) = xs) (hi : i ≤ n) (hroom : n + m ≤ c) (hvl : vs.length = m * 4) (r1 r2 : List Value)
    (h1 : r1 = cur.take ((i + m) * 4) ++ xs.drop (i * 4) ++ cur.drop ((i + m) * 4 + (xs.drop (i * 4)).length)) (h2 : r2 = r1.take (i * 4) ++ vs ++ r1.drop (i * 4 + vs.length)) :
    r1.length = c * 4 ∧ r2.length = c * 4 ∧ r2.take ((n + m) * 4) = xs.take (i * 4) ++ vs ++ xs.drop (i * 4) := by
  have hxl : xs.length = n * 4 := by rw [← hxs, List.length_take, hc]; omega
  have hd : (xs.drop (i * 4)).length = (n - i) * 4 := by rw [List.length_drop, hxl]; omega
  have l1 : r1.length = c * 4 := by rw [h1]; simp only [List.length_append, List.length_take, List.length_drop, hc, hxl]; omega
  have l2 : r2.length = c * 4 := by rw [h2]; simp only [List.length_append, List.length_take, List.length_drop, l1, hvl]; omega
  refine ⟨l1, l2, List.ext_getElem? fun j => ?_⟩
  rw [List.getElem?_take]
  by_cases hj : j < (n + m) * 4
  · rw [if_pos hj, h2, getElem?_splice, getElem?_splice]
    simp only [List.length_take, l1, hvl, hxl, List.getElem?_take, List.getElem?_drop]
    have e1 : min (i * 4) (c * 4) = i * 4 := by omega
    have e2 : min (i * 4) (n * 4) = i * 4 := by omega
    rw [e1, e2]
    by_cases a1 : j < i * 4
    · rw [if_pos a1, if_pos a1, if_pos a1, if_pos a1, h1, getElem?_splice]
      simp only [List.length_take, hc, List.getElem?_take]
      rw [if_pos (by omega), if_pos (by omega), ← hxs, List.getElem?_take, if_pos (by omega)]
    · rw [if_neg a1, if_neg a1]
      by_cases a2 : j < i * 4 + m * 4
      · rw [if_pos a2, if_pos a2]
      · rw [if_neg a2, if_neg a2, h1, getElem?_splice]
        simp only [List.length_take, hc, hd, List.getElem?_drop]
        rw [if_neg (by omega), if_pos (by omega)]
        congr 1; omega
  · rw [if_neg hj, List.getElem?_eq_none (by simp only [List.length_append, List.length_take, List.length_drop, hvl, hxl]; omega)]
theorem ins_row2 {row : List Value} {xs vs : List Value} {n G i m : Nat} (hr : row.length = G * 4) (hxl : xs.length = n * 4) (hrow : row.take (i * 4) = xs.take (i * 4)) (hi : i ≤ n) (hG : n + m ≤ G) (hvl : vs.length = m * 4) (r1 r2 : List Value)
    (h1 : r1 = row.take (i * 4) ++ vs ++ row.drop (i * 4 + vs.length)) (h2 : r2 = r1.take ((i + m) * 4) ++ xs.drop (i * 4) ++ r1.drop ((i + m) * 4 + (xs.drop (i * 4)).length)) :
    r1.length = G * 4 ∧ r2.length = G * 4 ∧ r2.take ((n + m) * 4) = xs.take (i * 4) ++ vs ++ xs.drop (i * 4) := by
  have hd : (xs.drop (i * 4)).length = (n - i) * 4 := by rw [List.length_drop, hxl]; omega
  have l1 : r1.length = G * 4 := by rw [h1]; simp only [List.length_append, List.length_take, List.length_drop, hr, hvl]; omega
  have l2 : r2.length = G * 4 := by rw [h2]; simp only [List.length_append, List.length_take, List.length_drop, l1, hxl]; omega
  refine ⟨l1, l2, List.ext_getElem? fun j => ?_⟩
  rw [List.getElem?_take]
  by_cases hj : j < (n + m) * 4
  · rw [if_pos hj, h2, getElem?_splice, getElem?_splice]
    simp only [List.length_take, l1, hvl, hxl, hd, List.getElem?_take, List.getElem?_drop]
    have e1 : min ((i + m) * 4) (G * 4) = (i + m) * 4 := by omega
    have e2 : min (i * 4) (n * 4) = i * 4 := by omega
    rw [e1, e2]
    by_cases a1 : j < (i + m) * 4
    · rw [if_pos a1, if_pos a1, h1, getElem?_splice]
      simp only [List.length_take, hr, hvl]
      have e3 : min (i * 4) (G * 4) = i * 4 := by omega
      rw [e3]
      by_cases a2 : j < i * 4
      · rw [if_pos a2, if_pos a2, if_pos a2, hrow, List.getElem?_take, if_pos a2]
      · rw [if_neg a2, if_neg a2, if_pos (by omega), if_pos (by omega)]
    · rw [if_neg a1, if_pos (by omega), if_neg (by omega), if_neg (by omega)]
      congr 1; omega
  · rw [if_neg hj, List.getElem?_eq_none (by simp only [List.length_append, List.length_take, List.length_drop, hvl, hxl]; omega)]
end Go.Abs
end
