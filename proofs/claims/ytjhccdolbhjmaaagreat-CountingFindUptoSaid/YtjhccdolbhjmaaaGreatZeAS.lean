/- Layer 41, the reference: stage and stages. · Layer 41, the reference: stages. -/
import Derived.Test.YtjhccdolbhjmaaaGreatZeAA
import Derived.Test.YtjhccdolbhjmaaaGreatZeAR
section
set_option linter.unusedVariables false
set_option linter.unusedSimpArgs false
set_option maxRecDepth 8000
set_option maxHeartbeats 2000000
open Go Go.Proofs
namespace Go.Abs
theorem callQ_ownF {P : Program} {md : Nat → Bool} {ops : Array Oper} {rest : List Oper} {e : Env} {dst : Option Tmp} {K : Env → AHeap → Prop} {f : FuncId} {args args' : List D} {H : AHeap} {ty : TypeId} {sz : Nat} {es : List (List D)}
    (hp : Own P f args' ty sz es) (ha : args.map (rsvD H) = args') (hcl : D.clL args' = true) (hf : ∀ d ∈ es.flatten, d.flat = true) (h : aOps P md ops rest (upd e dst (.list es)) H K) : callQ P md ops rest e dst K f args H := by
  subst ha; unfold callQ; exact ACalls.ownF hp hcl hf h
theorem flatI (zs : List Int) : ∀ d ∈ (zs.map cI).flatten, d.flat = true := by
  intro d hd; rw [flat_cI, List.mem_map] at hd; obtain ⟨x, _, rfl⟩ := hd; rfl
theorem ref41_touchedO (n : Nat) (hn : n ≤ 100000) (ls : List (List Int)) (mask : List Bool) (hm : mask.length = ls.length) (hl : ∀ l ∈ ls, l.length = n) : Own Tryz.prog 35 [.list (ls.map cL), .list (mask.map cB), dI n] 3 1 ((touchM n ls mask).map cI) := by
  refine ownK (by first | rfl | (simp [go_sem]; done)) (fun Q hQ => (acalls_of_body (cfg := ⟨fun t => t == 7, fun _ => []⟩) Tz.mixed Tryz.func35 rfl rfl (Nat.le_of_ble_eq_true rfl) (by kernel_rfl) ?_))
  try simp [go_sem, seval]
  obtain ⟨I0, hI0⟩ : ∃ I0 : Nat → Env → AHeap → Prop, ∀ (k : Nat) (e : Env) (H : AHeap), I0 k e H ↔ (∃ ys : List Int, (e 0 = .list (ls.map cL)) ∧ (e 1 = .list (mask.map cB)) ∧ (e 2 = dI n) ∧ (e 7 = .own 0 ys.length) ∧ (e 8 = dI k) ∧ (H.get 0 = some ⟨3, 1, ys.map cI, false⟩) ∧ (0 < H.next) ∧ (k ≤ n) ∧ (ys.length ≤ k) ∧ (ys = ((List.range k).filter fun (k : Nat) => (List.range ls.length).any (hitB ls mask k)).map (fun (b : Nat) => (b : Int)))) := ⟨fun k e H => _, fun _ _ _ => Iff.rfl⟩
  refine loopK I0 (fun k => n - k) (0) ((hI0 _ _ _).2 ⟨([]), ?_, ?_, ?_, ?_, ?_, ?_, ?_, (by first | assumption | omega | (simp [go_sem]; done) | (simp_all; done)), (by simp), (by rfl)⟩) ?_
  iterate 7 (first | omega | (simp [go_sem, seval] <;> omega))
  intro k e H hi0
  obtain ⟨ys, q0_0, q1_0, q2_0, q7_0, q8_0, g0_0, n0_0, hk, hyl, hy⟩ := (hI0 _ _ _).1 hi0
  have x0 := frs n0_0
  have F0 := And.intro q0_0 (And.intro q1_0 (And.intro q2_0 (And.intro q7_0 (And.intro q8_0 (And.intro g0_0 x0)))))
  try simp [go_sem, seval, F0]
  refine condQ_mk (fun h3 => ?_) (fun h3 => ?_)
  · try simp [go_sem] at h3
    try simp [go_sem, seval, F0, h3]
    obtain ⟨I2, hI2⟩ : ∃ I2 : Nat → Env → AHeap → Prop, ∀ (i : Nat) (e : Env) (H : AHeap), I2 i e H ↔ ((e 0 = .list (ls.map cL)) ∧ (e 1 = .list (mask.map cB)) ∧ (e 2 = dI n) ∧ (e 7 = .own 0 ys.length) ∧ (e 8 = dI k) ∧ (e 9 = .bool ((List.range i).any (hitB ls mask k))) ∧ (e 10 = dI i) ∧ (H.get 0 = some ⟨3, 1, ys.map cI, false⟩) ∧ (0 < H.next) ∧ (i ≤ ls.length)) := ⟨fun i e H => _, fun _ _ _ => Iff.rfl⟩
    refine loopK I2 (fun i => ls.length - i) (0) ((hI2 _ _ _).2 ⟨?_, ?_, ?_, ?_, ?_, ?_, ?_, ?_, ?_, (by first | assumption | omega | (simp [go_sem, F0, h3]; done) | (simp_all; done))⟩) ?_
    iterate 9 (first | omega | (simp [go_sem, seval, F0, h3] <;> omega))
    intro i e H hi2
    obtain ⟨q0_2, q1_2, q2_2, q7_2, q8_2, q9_2, q10_2, g0_2, n0_2, hi⟩ := (hI2 _ _ _).1 hi2
    have x0 := frs n0_2
    have F2 := And.intro q0_2 (And.intro q1_2 (And.intro q2_2 (And.intro q7_2 (And.intro q8_2 (And.intro q10_2 (And.intro g0_2 x0))))))
    try simp [go_sem, seval, h3, F2, q9_2]
    repeat (first | intro _ | (refine ⟨obl, ?_⟩))
    refine condQ_mk (fun h7 => ?_) (fun h7 => ?_)
    · try simp [go_sem] at h7
      have hlk : k < (ls[i]'(by omega)).length := by rw [hl _ (List.getElem_mem h7)]; omega
      have hmi : i < mask.length := by omega
      have hhit : hitB ls mask k i = (mask[i] && !decide (ls[i][k] = 0)) := by simp [hitB, List.getElem?_eq_getElem h7, List.getElem?_eq_getElem hlk, List.getElem?_eq_getElem hmi]
      have hts := range_any_succ (hitB ls mask k) i
      rw [hhit] at hts
      have hts2 : (ls[i][k] != 0) = !decide (ls[i][k] = 0) := rfl
      try simp [go_sem, seval, h3, F2, q9_2, h7, List.getElem?_eq_getElem hlk, List.getElem?_eq_getElem hmi, hhit, hts2, -List.any_eq_true, hmi]
      repeat (first | intro _ | (refine ⟨obl, ?_⟩))
      refine nextQ_mk (i + 1) (by omega) ((hI2 _ _ _).2 ⟨?_, ?_, ?_, ?_, ?_, ?_, ?_, ?_, ?_, (by first | assumption | omega | (simp [go_sem, h3, F2, q9_2, h7, List.getElem?_eq_getElem hlk, List.getElem?_eq_getElem hmi, hhit, hts2, -List.any_eq_true, hmi]; done) | (simp_all; done) | (simp_all; omega))⟩) <;> first | omega | (simp [go_sem, seval, h3, F2, q9_2, h7, List.getElem?_eq_getElem hlk, List.getElem?_eq_getElem hmi, hhit, hts2, -List.any_eq_true, hmi] <;> omega)
    · try simp [go_sem] at h7
      have hU : i = ls.length := by omega
      subst hU
      obtain ⟨b, hb⟩ : ∃ b, (List.range ls.length).any (hitB ls mask k) = b := ⟨_, rfl⟩
      rw [hb] at q9_2
      try simp [go_sem, seval, h3, F2, q9_2, hb]
      refine condQ_mk (fun h10 => ?_) (fun h10 => ?_)
      · try simp [go_sem] at h10
        try simp [go_sem, seval, h3, F2, q9_2, hb, h10]
        repeat (first | intro _ | (refine ⟨obl, ?_⟩))
        refine nextQ_mk (k + 1) (by omega) ((hI0 _ _ _).2 ⟨(ys ++ (if ((List.range ls.length).any (hitB ls mask k)) = true then [(k : Int)] else [])), ?_, ?_, ?_, ?_, ?_, ?_, ?_, (by first | assumption | omega | (simp [go_sem, h3, F2, q9_2, hb, h10, h7]; done) | (simp_all; done) | (simp_all; omega)), (by (rw [List.length_append]; split <;> simp <;> omega)), (by (rw [range_filter_succ, ← hy]))⟩) <;> first | omega | (simp [go_sem, seval, h3, F2, q9_2, hb, h10] <;> omega)
      · try simp [go_sem] at h10
        try simp [go_sem, seval, h3, F2, q9_2, hb, h10]
        repeat (first | intro _ | (refine ⟨obl, ?_⟩))
        refine nextQ_mk (k + 1) (by omega) ((hI0 _ _ _).2 ⟨(ys ++ (if ((List.range ls.length).any (hitB ls mask k)) = true then [(k : Int)] else [])), ?_, ?_, ?_, ?_, ?_, ?_, ?_, (by first | assumption | omega | (simp [go_sem, h3, F2, q9_2, hb, h10, h7]; done) | (simp_all; done) | (simp_all; omega)), (by (rw [List.length_append]; split <;> simp <;> omega)), (by (rw [range_filter_succ, ← hy]))⟩) <;> first | omega | (simp [go_sem, seval, h3, F2, q9_2, hb, h10] <;> omega)
  · try simp [go_sem] at h3
    have hY : touchM n ls mask = ys := by rw [hy, show k = n by omega]; rfl
    try simp [go_sem, seval, F0]
    exact hQ _ _ _ (by simp [go_sem, F0, hY]) (by simp [go_sem, F0, hY])
def lowR (ls : List (List Int)) (mask : List Bool) (w : List Int) : List Int := if okM ls mask w = true then lowL ls mask w else []
theorem ref41_loweredO (ls : List (List Int)) (hls : ls.length ≤ 1000) (mask : List Bool) (hm : mask.length = ls.length) (w : List Int) (n : Nat) (hwn : w.length = n) (hw : ∀ l ∈ ls, ProdOk w l) (q mq : Nat) (G : AHeap) (hg : G.get q = some ⟨3, 1, w.map cI, false⟩) (hqn : q < G.next) (hgm : G.get mq = some ⟨4, 1, mask.map cB, false⟩) (hmqn : mq < G.next) (Q : D → AHeap → Prop)
    (hQ : ∀ id H', G.next ≤ id → id < H'.next → H'.get id = some ⟨3, 1, (lowR ls mask w).map cI, false⟩ → (∀ j, j < G.next → H'.get j = G.get j) → G.next ≤ H'.next → Q (.tup [.own id (lowR ls mask w).length, .bool (okM ls mask w)]) H') :
    ACalls Tryz.prog 74 [.list (ls.map cL), .own mq ls.length, .own q n] G Q := by
  refine (acalls_of_body (cfg := ⟨fun t => t == 6 || t == 8, fun _ => []⟩) Tz.mixed Tryz.func74 rfl rfl (Nat.le_of_ble_eq_true rfl) (by kernel_rfl) ?_)
  have fq0 := frs hqn
  have fm0 := frs hmqn
  try simp [go_sem, seval, hg, hwn, hgm, hm, fq0, fm0]
  obtain ⟨I0, hI0⟩ : ∃ I0 : Nat → Env → AHeap → Prop, ∀ (i : Nat) (e : Env) (H : AHeap), I0 i e H ↔ (∃ id : Nat, ∃ ys : List Int, (e 0 = .list (ls.map cL)) ∧ (e 1 = .own mq ls.length) ∧ (e 2 = .own q n) ∧ (e 8 = .own id ys.length) ∧ (e 9 = dI i) ∧ (H.get id = some ⟨3, 1, ys.map cI, false⟩) ∧ (id < H.next) ∧ (G.next ≤ id) ∧ (H.get q = some ⟨3, 1, w.map cI, false⟩) ∧ (H.get mq = some ⟨4, 1, mask.map cB, false⟩) ∧ (∀ j, j < G.next → H.get j = G.get j) ∧ (i ≤ ls.length) ∧ (ys.length ≤ i) ∧ (ys = ((List.range i).filter (lowM ls mask w)).map (fun (b : Nat) => (b : Int))) ∧ ((List.range i).any (highM ls mask w) = false)) := ⟨fun i e H => _, fun _ _ _ => Iff.rfl⟩
  refine loopK I0 (fun i => ls.length - i) (0) ((hI0 _ _ _).2 ⟨(G.next + 1), ([]), ?_, ?_, ?_, ?_, ?_, ?_, ?_, (by (simp)), (by (simp [go_sem, hg, fq0])), (by (simp [go_sem, hgm, fm0])), (by (intro j hj; simp [go_sem, frs hj])), (by first | assumption | omega | (simp [go_sem, hg, hwn, hgm, hm, fq0, fm0]; done) | (simp_all; done)), (by simp), (by rfl), (by rfl)⟩) ?_
  iterate 7 (first | omega | (simp [go_sem, seval, hg, hwn, hgm, hm, fq0, fm0] <;> omega))
  intro i e H hi0
  obtain ⟨id, ys, q0_0, q1_0, q2_0, q8_0, q9_0, gid_0, nid_0, hid, hgq, hgmq, hfr, hi, hyl, hy, hok⟩ := (hI0 _ _ _).1 hi0
  have xid := frs nid_0
  have F0 := And.intro q0_0 (And.intro q1_0 (And.intro q2_0 (And.intro q8_0 (And.intro q9_0 (And.intro gid_0 xid)))))
  try simp [go_sem, seval, hg, hwn, hgm, hm, fq0, fm0, F0, hgq, hgmq]
  repeat (first | intro _ | (refine ⟨obl, ?_⟩))
  refine condQ_mk (fun h3 => ?_) (fun h3 => ?_)
  · try simp [go_sem] at h3
    have hmi : i < mask.length := by omega
    have hlo : lowM ls mask w i = (mask[i] && decide (prodF w ls[i] < 0)) := by simp [lowM, List.getElem?_eq_getElem h3, List.getElem?_eq_getElem hmi]
    have hhi0 : highM ls mask w i = (mask[i] && decide (0 < prodF w ls[i])) := by simp [highM, List.getElem?_eq_getElem h3, List.getElem?_eq_getElem hmi]
    try simp [go_sem, seval, hg, hwn, hgm, hm, fq0, fm0, F0, hgq, hgmq, h3, List.getElem?_eq_getElem hmi, hmi]
    repeat (first | intro _ | (refine ⟨obl, ?_⟩))
    refine condQ_mk (fun h5 => ?_) (fun h5 => ?_)
    · try simp [go_sem] at h5
      have hlo2 : lowM ls mask w i = false := by simp [hlo, h5]
      have hhi : highM ls mask w i = false := by simp [hhi0, h5]
      try simp [go_sem, seval, hg, hwn, hgm, hm, fq0, fm0, F0, hgq, hgmq, h3, List.getElem?_eq_getElem hmi, hmi, hlo2]
      repeat (first | intro _ | (refine ⟨obl, ?_⟩))
      refine nextQ_mk (i + 1) (by omega) ((hI0 _ _ _).2 ⟨(id), (ys ++ (if lowM ls mask w i = true then [(i : Int)] else [])), ?_, ?_, ?_, ?_, ?_, ?_, ?_, (by omega), (by (simp [go_sem, hgq] <;> omega)), (by (simp [go_sem, hgmq] <;> omega)), (by (intro j hj; simp [go_sem, hfr j hj] <;> omega)), (by first | assumption | omega | (simp [go_sem, hg, hwn, hgm, hm, fq0, fm0, F0, hgq, hgmq, h3, List.getElem?_eq_getElem hmi, hmi, hlo2, h5]; done) | (simp_all; done) | (simp_all; omega)), (by (rw [List.length_append]; split <;> simp <;> omega)), (by (rw [range_filter_succ, ← hy])), (by (rw [range_any_succ, hok, hhi]; rfl))⟩) <;> first | omega | (simp [go_sem, seval, hg, hwn, hgm, hm, fq0, fm0, F0, hgq, hgmq, h3, List.getElem?_eq_getElem hmi, hmi, hlo2] <;> omega)
    · try simp [go_sem] at h5
      have hm1 : mask[i] = true := by simpa using h5
      try simp [go_sem, seval, hg, hwn, hgm, hm, fq0, fm0, F0, hgq, hgmq, h3, List.getElem?_eq_getElem hmi, hmi, h5]
      repeat (first | intro _ | (refine ⟨obl, ?_⟩))
      refine callQ_pureF ((ref39_Product w ls[i] (hw _ (List.getElem_mem h3)))) (by simp [rsvC, rsvP, cellsAt, go_sem, ← List.map_take, ← List.map_drop, hg, hwn, hgm, hm, fq0, fm0, F0, hgq, hgmq, h3, List.getElem?_eq_getElem hmi, hmi, h5]) ((by first | rfl | (simp [go_sem, ← List.map_take, ← List.map_drop, hg, hwn, hgm, hm, fq0, fm0, F0, hgq, hgmq, h3, List.getElem?_eq_getElem hmi, hmi, h5]; done))) ( rfl) ?_
      try simp [go_sem, seval, hg, hwn, hgm, hm, fq0, fm0, F0, hgq, hgmq, h3, List.getElem?_eq_getElem hmi, hmi, h5]
      repeat (first | intro _ | (refine ⟨obl, ?_⟩))
      refine condQ_mk (fun h7 => ?_) (fun h7 => ?_)
      · try simp [go_sem] at h7
        have hK : okM ls mask w = false := by
          have : (List.range ls.length).any (highM ls mask w) = true := List.any_eq_true.2 ⟨i, List.mem_range.2 h3, by rw [hhi0, hm1]; simp; omega⟩
          unfold okM; rw [this]; rfl
        have hR : lowR ls mask w = [] := by unfold lowR; rw [hK]; rfl
        try simp [go_sem, seval, hg, hwn, hgm, hm, fq0, fm0, F0, hgq, hgmq, h3, List.getElem?_eq_getElem hmi, hmi, h5]
        rw [hR, hK] at hQ; exact hQ H.next _ (by omega) (by simp [go_sem]) (by simp [go_sem]) (fun j hj => by simp [go_sem, hfr j hj] <;> omega) (by simp [go_sem]; omega)
      · try simp [go_sem] at h7
        have hhi : highM ls mask w i = false := by rw [hhi0]; simp; omega
        try simp [go_sem, seval, hg, hwn, hgm, hm, fq0, fm0, F0, hgq, hgmq, h3, List.getElem?_eq_getElem hmi, hmi, h5]
        refine condQ_mk (fun h9 => ?_) (fun h9 => ?_)
        · try simp [go_sem] at h9
          have hlo2 : lowM ls mask w i = true := by rw [hlo, hm1]; simp; omega
          try simp [go_sem, seval, hg, hwn, hgm, hm, fq0, fm0, F0, hgq, hgmq, h3, List.getElem?_eq_getElem hmi, hmi, h5, hlo2]
          repeat (first | intro _ | (refine ⟨obl, ?_⟩))
          refine nextQ_mk (i + 1) (by omega) ((hI0 _ _ _).2 ⟨(id), (ys ++ (if lowM ls mask w i = true then [(i : Int)] else [])), ?_, ?_, ?_, ?_, ?_, ?_, ?_, (by omega), (by (simp [go_sem, hgq] <;> omega)), (by (simp [go_sem, hgmq] <;> omega)), (by (intro j hj; simp [go_sem, hfr j hj] <;> omega)), (by first | assumption | omega | (simp [go_sem, hg, hwn, hgm, hm, fq0, fm0, F0, hgq, hgmq, h3, List.getElem?_eq_getElem hmi, hmi, h5, hlo2, h7, h9]; done) | (simp_all; done) | (simp_all; omega)), (by (rw [List.length_append]; split <;> simp <;> omega)), (by (rw [range_filter_succ, ← hy])), (by (rw [range_any_succ, hok, hhi]; rfl))⟩) <;> first | omega | (simp [go_sem, seval, hg, hwn, hgm, hm, fq0, fm0, F0, hgq, hgmq, h3, List.getElem?_eq_getElem hmi, hmi, h5, hlo2] <;> omega)
        · try simp [go_sem] at h9
          have hlo2 : lowM ls mask w i = false := by rw [hlo]; simp; omega
          try simp [go_sem, seval, hg, hwn, hgm, hm, fq0, fm0, F0, hgq, hgmq, h3, List.getElem?_eq_getElem hmi, hmi, h5, hlo2]
          repeat (first | intro _ | (refine ⟨obl, ?_⟩))
          refine nextQ_mk (i + 1) (by omega) ((hI0 _ _ _).2 ⟨(id), (ys ++ (if lowM ls mask w i = true then [(i : Int)] else [])), ?_, ?_, ?_, ?_, ?_, ?_, ?_, (by omega), (by (simp [go_sem, hgq] <;> omega)), (by (simp [go_sem, hgmq] <;> omega)), (by (intro j hj; simp [go_sem, hfr j hj] <;> omega)), (by first | assumption | omega | (simp [go_sem, hg, hwn, hgm, hm, fq0, fm0, F0, hgq, hgmq, h3, List.getElem?_eq_getElem hmi, hmi, h5, hlo2, h7, h9]; done) | (simp_all; done) | (simp_all; omega)), (by (rw [List.length_append]; split <;> simp <;> omega)), (by (rw [range_filter_succ, ← hy])), (by (rw [range_any_succ, hok, hhi]; rfl))⟩) <;> first | omega | (simp [go_sem, seval, hg, hwn, hgm, hm, fq0, fm0, F0, hgq, hgmq, h3, List.getElem?_eq_getElem hmi, hmi, h5, hlo2] <;> omega)
  · try simp [go_sem] at h3
    have hU : i = ls.length := by omega
    have hK : okM ls mask w = true := by unfold okM; rw [← hU, hok]; rfl
    have hY : ys = lowR ls mask w := by unfold lowR; rw [if_pos hK, hy, hU]; rfl
    try simp [go_sem, seval, hg, hwn, hgm, hm, fq0, fm0, F0, hgq, hgmq]
    rw [← hK, show ys.length = (lowR ls mask w).length by rw [hY]]; exact hQ id _ hid (by assumption) (by rw [← hY]; assumption) hfr (by omega)
theorem betterS_iff {ls : List (List Int)} {mask : List Bool} {w : List Int} {S : Stage} : betterS ls mask w S = true ↔ okM ls mask w = true ∧ (S.removed.length < (lowL ls mask w).length ∨ (0 < (lowL ls mask w).length ∧ (lowL ls mask w).length = S.removed.length ∧ w.sum < S.weights.sum)) := by
  unfold betterS
  simp only [Bool.and_eq_true, Bool.or_eq_true, decide_eq_true_eq]
  constructor
  · rintro ⟨h, h' | ⟨⟨h1, h2⟩, h3⟩⟩
    · exact ⟨h, .inl (by omega)⟩
    · exact ⟨h, .inr ⟨by omega, by omega, h3⟩⟩
  · rintro ⟨h, h' | ⟨h1, h2, h3⟩⟩
    · exact ⟨h, .inl (by omega)⟩
    · exact ⟨h, .inr ⟨⟨by omega, by omega⟩, h3⟩⟩
theorem odo_dig {tch : List Int} {u v : List Int} (h : odoR tch u v) : (odoF tch tch.length u).1 = v := by rw [h]
theorem ref41_stageO (n : Nat) (hn : n ≤ 1000) (hn0 : 0 < n) (ls : List (List Int)) (hls : ls.length ≤ 6) (mask : List Bool) (hm : mask.length = ls.length) (hl : ∀ l ∈ ls, l.length = n) (hb : ∀ l ∈ ls, ∀ x ∈ l, -100000 ≤ x ∧ x ≤ 100000) (ht : (touchM n ls mask).length ≤ 6)
    (mq : Nat) (G : AHeap) (hgm : G.get mq = some ⟨4, 1, mask.map cB, false⟩) (hmqn : mq < G.next) (Q : D → AHeap → Prop)
    (hQ : ∀ i1 i2 H', G.next ≤ i1 → G.next ≤ i2 → i1 < H'.next → i2 < H'.next → i1 ≠ i2 → H'.get i1 = some ⟨3, 1, (bestS ls n mask).weights.map cI, false⟩ → H'.get i2 = some ⟨3, 1, (bestS ls n mask).removed.map cI, false⟩ → (∀ j, j < G.next → H'.get j = G.get j) → G.next ≤ H'.next → Q (.agg [.own i1 (bestS ls n mask).weights.length, .own i2 (bestS ls n mask).removed.length]) H') :
    ACalls Tryz.prog 92 [.list (ls.map cL), .own mq ls.length, dI n] G Q := by
  obtain ⟨l0, z, hen, hch, hla, hod⟩ := odo_enum (touchM n ls mask) touchM_in.1 n touchM_in.2 (touchM n ls mask).length 0 (by omega) (List.replicate n 0) (by simp) (fun _ _ _ => zeros_get n _)
  rw [List.drop_zero] at hen
  refine (acalls_of_body (cfg := ⟨fun t => t == 6 || t == 7 || t == 55, fun _ => []⟩) Tz.mixed Tryz.func92 rfl rfl (Nat.le_of_ble_eq_true rfl) (by kernel_rfl) ?_)
  have fm0 := frs hmqn
  have fz0 := nxs G.next
  try simp [go_sem, seval, hgm, hm, fm0, fz0]
  refine callQ_ownF (ref41_touchedO n (by omega) ls mask hm hl) (by simp [go_sem, hgm, hm, fm0, fz0]) (by simp [go_sem]) (flatI _) ?_
  try simp [go_sem, seval, hgm, hm, fm0, fz0]
  repeat (first | intro _ | (refine ⟨obs, ?_⟩))
  obtain ⟨I0, hI0⟩ : ∃ I0 : Nat → Env → AHeap → Prop, ∀ (c : Nat) (e : Env) (H : AHeap), I0 c e H ↔ (∃ b6 : Nat, ∃ b7 : Nat, ∃ q : Nat, ∃ i1 : Nat, ∃ i2 : Nat, ∃ w : List Int, ∃ S : Stage, ∃ rest : List (List Int), (e 0 = .list (ls.map cL)) ∧ (e 1 = .own mq ls.length) ∧ (e 2 = dI n) ∧ (e 6 = .ptr b6 1 0 0) ∧ (e 7 = .ptr b7 1 0 0) ∧ (e 8 = dLI (touchM n ls mask)) ∧ (e 9 = .own q n) ∧ (H.get b6 = some ⟨33, 2, [[.nil, .nil]], false⟩) ∧ (b6 < H.next) ∧ (H.get b7 = some ⟨33, 2, [[.own i1 S.weights.length, .own i2 S.removed.length]], false⟩) ∧ (b7 < H.next) ∧ (H.get q = some ⟨3, 1, w.map cI, false⟩) ∧ (q < H.next) ∧ (H.get i1 = some ⟨3, 1, S.weights.map cI, false⟩) ∧ (i1 < H.next) ∧ (H.get i2 = some ⟨3, 1, S.removed.map cI, false⟩) ∧ (i2 < H.next) ∧ (mq < b6 ∧ b6 < b7 ∧ b7 < q ∧ q < i1 ∧ q < i2 ∧ i1 ≠ i2 ∧ G.next ≤ b6) ∧ (H.get mq = some ⟨4, 1, mask.map cB, false⟩) ∧ (∀ j, j < G.next → H.get j = G.get j) ∧ (w.length = n) ∧ (∀ x ∈ w, 0 ≤ x ∧ x ≤ 6) ∧ (S.weights.length ≤ 1000) ∧ (∀ x ∈ S.weights, 0 ≤ x ∧ x ≤ 6) ∧ ((w :: rest).foldl (leafS ls mask) S = bestS ls n mask) ∧ (chainR (odoR (touchM n ls mask)) (w :: rest)) ∧ ((w :: rest).getLast? = some z) ∧ (rest.length = c)) := ⟨fun c e H => _, fun _ _ _ => Iff.rfl⟩
  refine loopKG (Ghosts.step (Ghosts.step (Ghosts.refl _) (G.next+1) 0 0 3 1 _ _ ((by simp [go_sem] : AHeap.get _ _ = some ⟨33, 2, [[.nil, .nil]], false⟩)) rfl rfl rfl) (G.next+1) 0 1 3 1 _ _ ((by simp [go_sem] : AHeap.get _ _ = some ⟨33, 2, [[.own (G.next + 3) 0, .nil]], false⟩)) rfl rfl rfl) I0 (fun c => c) (l0.length) ((hI0 _ _ _).2 ⟨(G.next), (G.next + 1), (G.next + 2), (G.next + 3), (G.next + 4), (List.replicate n 0), (⟨[], []⟩), (l0), ?_, ?_, ?_, ?_, ?_, ?_, ?_, ?_, ?_, ?_, ?_, ?_, ?_, ?_, ?_, ?_, ?_, (by omega), (by (simp [go_sem, hgm, fm0])), (by (intro j hj; simp [go_sem, frs hj])), (by simp), (by exact zeros_dig n), (by simp), (by simp), (by (unfold bestS; rw [hen])), (by exact hch), (by exact hla), (by rfl)⟩) ?_
  iterate 17 (first | omega | (simp [go_sem, seval, hgm, hm, fm0, fz0] <;> omega))
  intro c e H hi0
  obtain ⟨b6, b7, q, i1, i2, w, S, rest, q0_0, q1_0, q2_0, q6_0, q7_0, q8_0, q9_0, gb6_0, nb6_0, gb7_0, nb7_0, gq_0, nq_0, gi1_0, ni1_0, gi2_0, ni2_0, hord, hgmq, hfr, hwl, hwd, hSl, hSd, hfo, hcr, hz, hc⟩ := (hI0 _ _ _).1 hi0
  have xb6 := frs nb6_0
  have xb7 := frs nb7_0
  have xq := frs nq_0
  have xi1 := frs ni1_0
  have xi2 := frs ni2_0
  have F0 := And.intro q0_0 (And.intro q1_0 (And.intro q2_0 (And.intro q6_0 (And.intro q7_0 (And.intro q8_0 (And.intro q9_0 (And.intro gb6_0 (And.intro gb7_0 (And.intro gq_0 (And.intro gi1_0 (And.intro gi2_0 (And.intro xb6 (And.intro xb7 (And.intro xq (And.intro xi1 xi2)))))))))))))))
  have di1 := And.intro (nep (show i2 ≠ i1 by omega)) (And.intro (nep (show i2 ≠ q by omega)) (And.intro (nep (show i2 ≠ b7 by omega)) (And.intro (nep (show i2 ≠ b6 by omega)) (And.intro (nep (show i2 ≠ mq by omega)) (And.intro (nep (show i1 ≠ q by omega)) (And.intro (nep (show i1 ≠ b7 by omega)) (And.intro (nep (show i1 ≠ b6 by omega)) (And.intro (nep (show i1 ≠ mq by omega)) (And.intro (nep (show q ≠ b7 by omega)) (And.intro (nep (show q ≠ b6 by omega)) (And.intro (nep (show q ≠ mq by omega)) (And.intro (nep (show b7 ≠ b6 by omega)) (And.intro (nep (show b7 ≠ mq by omega)) (nep (show b6 ≠ mq by omega)))))))))))))))
  try simp [go_sem, seval, hgm, hm, fm0, fz0, F0, hgmq, hwl, di1]
  unfold callQ; refine ref41_loweredO ls (by omega) mask hm w n hwl (fun l hl' => ⟨by rw [hl l hl']; omega, by omega, fun x hx => by have := hwd x hx; omega, hb l hl'⟩) q mq _ (by simp [hgm, hm, fm0, fz0, F0, hgmq, hwl, di1]) (by omega) (by simp [hgm, hm, fm0, fz0, F0, hgmq, hwl, di1]) (by omega) _ (fun il H2 ha1 ha2 ha3 ha4 ha5 => ?_)
  have k6 := ha4 b6 (by omega)
  have k7 := ha4 b7 (by omega)
  have kq := ha4 q (by omega)
  have k1 := ha4 i1 (by omega)
  have k2 := ha4 i2 (by omega)
  have km := ha4 mq (by omega)
  simp only [hgm, hm, fm0, fz0, F0, hgmq, hwl, di1] at k6 k7 kq k1 k2 km
  have di2 := And.intro (nep (show il ≠ i2 by omega)) (And.intro (nep (show il ≠ i1 by omega)) (And.intro (nep (show il ≠ q by omega)) (And.intro (nep (show il ≠ b7 by omega)) (And.intro (nep (show il ≠ b6 by omega)) (And.intro (nep (show il ≠ mq by omega)) (And.intro (nep (show i2 ≠ i1 by omega)) (And.intro (nep (show i2 ≠ q by omega)) (And.intro (nep (show i2 ≠ b7 by omega)) (And.intro (nep (show i2 ≠ b6 by omega)) (And.intro (nep (show i2 ≠ mq by omega)) (And.intro (nep (show i1 ≠ q by omega)) (And.intro (nep (show i1 ≠ b7 by omega)) (And.intro (nep (show i1 ≠ b6 by omega)) (And.intro (nep (show i1 ≠ mq by omega)) (And.intro (nep (show q ≠ b7 by omega)) (And.intro (nep (show q ≠ b6 by omega)) (And.intro (nep (show q ≠ mq by omega)) (And.intro (nep (show b7 ≠ b6 by omega)) (And.intro (nep (show b7 ≠ mq by omega)) (nep (show b6 ≠ mq by omega)))))))))))))))))))))
  have fr3 := And.intro (frs (show mq < H2.next by omega)) (And.intro (frs (show b6 < H2.next by omega)) (And.intro (frs (show b7 < H2.next by omega)) (And.intro (frs (show q < H2.next by omega)) (And.intro (frs (show i1 < H2.next by omega)) (And.intro (frs (show i2 < H2.next by omega)) (frs (show il < H2.next by omega)))))))
  try simp [go_sem, seval, hgm, hm, fm0, fz0, F0, hgmq, hwl, di1, k6, k7, kq, k1, k2, km, ha3, di2, fr3]
  repeat (first | intro _ | (refine ⟨obs, ?_⟩))
  refine dgcallQ_pureF (fun hg => (ref41_total w (by omega) hwd)) (by simp [rsvC, rsvP, cellsAt, go_sem, ← List.map_take, ← List.map_drop, hgm, hm, fm0, fz0, F0, hgmq, hwl, di1, k6, k7, kq, k1, k2, km, ha3, di2, fr3]) (fun hg => (by first | rfl | (simp [go_sem, ← List.map_take, ← List.map_drop, hgm, hm, fm0, fz0, F0, hgmq, hwl, di1, k6, k7, kq, k1, k2, km, ha3, di2, fr3]; done))) (fun hg =>  rfl) rfl (by simp [go_sem, hgm, hm, fm0, fz0, F0, hgmq, hwl, di1, k6, k7, kq, k1, k2, km, ha3, di2, fr3]) ?_
  try simp [go_sem, seval, hgm, hm, fm0, fz0, F0, hgmq, hwl, di1, k6, k7, kq, k1, k2, km, ha3, di2, fr3]
  repeat (first | intro _ | (refine ⟨obs, ?_⟩))
  refine dgcallQ_pureF (fun hg => (ref41_total S.weights hSl hSd)) (by simp [rsvC, rsvP, cellsAt, go_sem, ← List.map_take, ← List.map_drop, hgm, hm, fm0, fz0, F0, hgmq, hwl, di1, k6, k7, kq, k1, k2, km, ha3, di2, fr3]) (fun hg => (by first | rfl | (simp [go_sem, ← List.map_take, ← List.map_drop, hgm, hm, fm0, fz0, F0, hgmq, hwl, di1, k6, k7, kq, k1, k2, km, ha3, di2, fr3]; done))) (fun hg =>  rfl) rfl (by simp [go_sem, hgm, hm, fm0, fz0, F0, hgmq, hwl, di1, k6, k7, kq, k1, k2, km, ha3, di2, fr3]) ?_
  try simp [go_sem, seval, hgm, hm, fm0, fz0, F0, hgmq, hwl, di1, k6, k7, kq, k1, k2, km, ha3, di2, fr3]
  repeat (first | intro _ | (refine ⟨obs, ?_⟩))
  refine condQ_mk (fun h5 => ?_) (fun h5 => ?_)
  · try simp [go_sem] at h5
    have hok : okM ls mask w = true := h5.1
    have hRL : lowR ls mask w = lowL ls mask w := if_pos hok
    have hB : betterS ls mask w S = true := by
      rw [betterS_iff]; refine ⟨hok, ?_⟩; rw [hRL] at h5; have h5' := h5.2; omega
    obtain ⟨j1, hj1⟩ : ∃ j, j = H2.next + 30 := ⟨_, rfl⟩
    obtain ⟨j2, hj2⟩ : ∃ j, j = il := ⟨_, rfl⟩
    have hLS : leafS ls mask S w = ⟨w, lowR ls mask w⟩ := by unfold leafS; rw [if_pos hB, hRL]
    try simp [go_sem, seval, hgm, hm, fm0, fz0, F0, hgmq, hwl, di1, k6, k7, kq, k1, k2, km, ha3, di2, fr3, hj1, hj2, hLS]
    repeat (first | intro _ | (refine ⟨obs, ?_⟩))
    unfold callQ; refine ref41_next (touchM n ls mask) n touchM_in.2 (by omega) q w hwl hwd _ (by simp [go_sem, hgm, hm, fm0, fz0, F0, hgmq, hwl, di1, k6, k7, kq, k1, k2, km, ha3, di2, fr3, hj1, hj2, hLS]) _ (fun H3 hb1 hb2 hb3 hb4 hb5 => ?_)
    have m6 := hb4 b6 (by omega)
    have m7 := hb4 b7 (by omega)
    have m1 := hb4 j1 (by omega)
    have m2 := hb4 j2 (by omega)
    have mm := hb4 mq (by omega)
    have hb5' : H2.next ≤ H3.next := Nat.le_trans (by simp [go_sem] <;> omega) hb5
    have hb5s := hb5
    simp [go_sem] at hb5s
    have hfr3 : ∀ j, j < G.next → H3.get j = G.get j := by
      intro j hj
      have e0 : (j = b7) = False := eq_false (by omega)
      have e1 := frs (show j < H2.next by omega)
      rw [hb4 j (by omega)]
      simp [go_sem, e0, e1, hj1, hj2]
      rw [ha4 j (by omega), hfr j hj]
    simp [go_sem, hgm, hm, fm0, fz0, F0, hgmq, hwl, di1, k6, k7, kq, k1, k2, km, ha3, di2, fr3, hj1, hj2, hLS] at m6 m7 m1 m2 mm
    have fr4 := And.intro (frs (show mq < H3.next by omega)) (And.intro (frs (show b6 < H3.next by omega)) (And.intro (frs (show b7 < H3.next by omega)) (And.intro (frs (show q < H3.next by omega)) (And.intro (frs (show j1 < H3.next by omega)) (frs (show j2 < H3.next by omega))))))
    try simp [go_sem, seval, hgm, hm, fm0, fz0, F0, hgmq, hwl, di1, k6, k7, kq, k1, k2, km, ha3, di2, fr3, hj1, hj2, hLS, m6, m7, m1, m2, mm, fr4]
    repeat (first | intro _ | (refine ⟨obs, ?_⟩))
    refine condQ_mk (fun h7 => ?_) (fun h7 => ?_)
    · try simp [go_sem] at h7
      have hr0 : rest = [] := by
        cases rest with
        | nil => rfl
        | cons v r2 => have := hcr.1; unfold odoR at this; rw [this] at h7; simp at h7
      have hbe : bestS ls n mask = leafS ls mask S w := by rw [← hfo, hr0]; rfl
      rw [hbe, hLS] at hQ
      try simp only [hwl] at hQ
      have t1 : (j1 = b6) = False := eq_false (by omega)
      have t2 : (j2 = b6) = False := eq_false (by omega)
      try simp [go_sem, seval, hgm, hm, fm0, fz0, F0, hgmq, hwl, di1, k6, k7, kq, k1, k2, km, ha3, di2, fr3, hj1, hj2, hLS, m6, m7, m1, m2, mm, fr4]
      subst hj1 hj2; exact hQ _ _ _ (by omega) (by omega) (by simp [go_sem]; omega) (by simp [go_sem]; omega) (by omega) (by simp [go_sem, t1, m1]) (by simp [go_sem, t2, m2]) (fun j hj => by simp [go_sem, (show (j = b6) = False from eq_false (by omega)), hfr3 j hj]) (by simp [go_sem]; omega)
    · try simp [go_sem] at h7
      obtain ⟨v, r2, hr2⟩ : ∃ v r2, rest = v :: r2 := by
        cases rest with
        | nil =>
          have h0 : w = z := by simpa using hz
          rw [← h0] at hod
          rw [hod] at h7
          simp [odoF] at h7
        | cons v r2 => exact ⟨v, r2, rfl⟩
      subst hr2
      have hv : (odoF (touchM n ls mask) (touchM n ls mask).length w).1 = v := odo_dig hcr.1
      have hc0 : 0 < c := by rw [← hc]; simp
      try simp [go_sem, seval, hgm, hm, fm0, fz0, F0, hgmq, hwl, di1, k6, k7, kq, k1, k2, km, ha3, di2, fr3, hj1, hj2, hLS, m6, m7, m1, m2, mm, fr4, hv]
      refine nextQ_mk (c - 1) (by omega) ((hI0 _ _ _).2 ⟨(b6), (b7), (q), (j1), (j2), ((odoF (touchM n ls mask) (touchM n ls mask).length w).1), (leafS ls mask S w), (r2), ?_, ?_, ?_, ?_, ?_, ?_, ?_, ?_, ?_, ?_, ?_, ?_, ?_, ?_, ?_, ?_, ?_, (by omega), (by exact mm), (by exact hfr3), (by exact hb2), (by exact hb3), (by (rw [hLS]; first | exact hSl | (show w.length ≤ 1000; omega))), (by (rw [hLS]; first | exact hSd | exact hwd)), (by (rw [hv]; exact hfo)), (by (rw [hv]; exact hcr.2)), (by (rw [hv]; rw [List.getLast?_cons_cons] at hz; exact hz)), (by (show r2.length = c - 1; rw [← hc]; rfl))⟩) <;> first | omega | (simp [go_sem, seval, hgm, hm, fm0, fz0, F0, hgmq, hwl, di1, k6, k7, kq, k1, k2, km, ha3, di2, fr3, hj1, hj2, hLS, m6, m7, m1, m2, mm, fr4, hv] <;> omega)
  · try simp [go_sem] at h5
    have hB : ¬ betterS ls mask w S = true := by
      rw [betterS_iff]; rintro ⟨hok, h⟩
      have hRL : lowR ls mask w = lowL ls mask w := if_pos hok
      have h5' := h5 hok
      rw [hRL] at h5'
      rcases h with h | ⟨h1, h2, h3⟩
      · omega
      · have := h5'.2 h1 (by omega); omega
    obtain ⟨j1, hj1⟩ : ∃ j, j = i1 := ⟨_, rfl⟩
    obtain ⟨j2, hj2⟩ : ∃ j, j = i2 := ⟨_, rfl⟩
    have hLS : leafS ls mask S w = S := if_neg hB
    try simp [go_sem, seval, hgm, hm, fm0, fz0, F0, hgmq, hwl, di1, k6, k7, kq, k1, k2, km, ha3, di2, fr3, hj1, hj2, hLS]
    repeat (first | intro _ | (refine ⟨obs, ?_⟩))
    unfold callQ; refine ref41_next (touchM n ls mask) n touchM_in.2 (by omega) q w hwl hwd _ (by simp [go_sem, hgm, hm, fm0, fz0, F0, hgmq, hwl, di1, k6, k7, kq, k1, k2, km, ha3, di2, fr3, hj1, hj2, hLS]) _ (fun H3 hb1 hb2 hb3 hb4 hb5 => ?_)
    have m6 := hb4 b6 (by omega)
    have m7 := hb4 b7 (by omega)
    have m1 := hb4 j1 (by omega)
    have m2 := hb4 j2 (by omega)
    have mm := hb4 mq (by omega)
    have hb5' : H2.next ≤ H3.next := Nat.le_trans (by simp [go_sem] <;> omega) hb5
    have hb5s := hb5
    simp [go_sem] at hb5s
    have hfr3 : ∀ j, j < G.next → H3.get j = G.get j := by
      intro j hj
      have e0 : (j = b7) = False := eq_false (by omega)
      have e1 := frs (show j < H2.next by omega)
      rw [hb4 j (by omega)]
      simp [go_sem, e0, e1, hj1, hj2]
      rw [ha4 j (by omega), hfr j hj]
    simp [go_sem, hgm, hm, fm0, fz0, F0, hgmq, hwl, di1, k6, k7, kq, k1, k2, km, ha3, di2, fr3, hj1, hj2, hLS] at m6 m7 m1 m2 mm
    have fr5 := And.intro (frs (show mq < H3.next by omega)) (And.intro (frs (show b6 < H3.next by omega)) (And.intro (frs (show b7 < H3.next by omega)) (And.intro (frs (show q < H3.next by omega)) (And.intro (frs (show j1 < H3.next by omega)) (frs (show j2 < H3.next by omega))))))
    try simp [go_sem, seval, hgm, hm, fm0, fz0, F0, hgmq, hwl, di1, k6, k7, kq, k1, k2, km, ha3, di2, fr3, hj1, hj2, hLS, m6, m7, m1, m2, mm, fr5]
    repeat (first | intro _ | (refine ⟨obs, ?_⟩))
    refine condQ_mk (fun h7 => ?_) (fun h7 => ?_)
    · try simp [go_sem] at h7
      have hr0 : rest = [] := by
        cases rest with
        | nil => rfl
        | cons v r2 => have := hcr.1; unfold odoR at this; rw [this] at h7; simp at h7
      have hbe : bestS ls n mask = leafS ls mask S w := by rw [← hfo, hr0]; rfl
      rw [hbe, hLS] at hQ
      try simp only [hwl] at hQ
      have t1 : (j1 = b6) = False := eq_false (by omega)
      have t2 : (j2 = b6) = False := eq_false (by omega)
      try simp [go_sem, seval, hgm, hm, fm0, fz0, F0, hgmq, hwl, di1, k6, k7, kq, k1, k2, km, ha3, di2, fr3, hj1, hj2, hLS, m6, m7, m1, m2, mm, fr5]
      subst hj1 hj2; exact hQ _ _ _ (by omega) (by omega) (by simp [go_sem]; omega) (by simp [go_sem]; omega) (by omega) (by simp [go_sem, t1, m1]) (by simp [go_sem, t2, m2]) (fun j hj => by simp [go_sem, (show (j = b6) = False from eq_false (by omega)), hfr3 j hj]) (by simp [go_sem]; omega)
    · try simp [go_sem] at h7
      obtain ⟨v, r2, hr2⟩ : ∃ v r2, rest = v :: r2 := by
        cases rest with
        | nil =>
          have h0 : w = z := by simpa using hz
          rw [← h0] at hod
          rw [hod] at h7
          simp [odoF] at h7
        | cons v r2 => exact ⟨v, r2, rfl⟩
      subst hr2
      have hv : (odoF (touchM n ls mask) (touchM n ls mask).length w).1 = v := odo_dig hcr.1
      have hc0 : 0 < c := by rw [← hc]; simp
      try simp [go_sem, seval, hgm, hm, fm0, fz0, F0, hgmq, hwl, di1, k6, k7, kq, k1, k2, km, ha3, di2, fr3, hj1, hj2, hLS, m6, m7, m1, m2, mm, fr5, hv]
      refine nextQ_mk (c - 1) (by omega) ((hI0 _ _ _).2 ⟨(b6), (b7), (q), (j1), (j2), ((odoF (touchM n ls mask) (touchM n ls mask).length w).1), (leafS ls mask S w), (r2), ?_, ?_, ?_, ?_, ?_, ?_, ?_, ?_, ?_, ?_, ?_, ?_, ?_, ?_, ?_, ?_, ?_, (by omega), (by exact mm), (by exact hfr3), (by exact hb2), (by exact hb3), (by (rw [hLS]; first | exact hSl | (show w.length ≤ 1000; omega))), (by (rw [hLS]; first | exact hSd | exact hwd)), (by (rw [hv]; exact hfo)), (by (rw [hv]; exact hcr.2)), (by (rw [hv]; rw [List.getLast?_cons_cons] at hz; exact hz)), (by (show r2.length = c - 1; rw [← hc]; rfl))⟩) <;> first | omega | (simp [go_sem, seval, hgm, hm, fm0, fz0, F0, hgmq, hwl, di1, k6, k7, kq, k1, k2, km, ha3, di2, fr3, hj1, hj2, hLS, m6, m7, m1, m2, mm, fr5, hv] <;> omega)
end Go.Abs
end
section
set_option linter.unusedVariables false
set_option linter.unusedSimpArgs false
set_option maxRecDepth 8000
set_option maxHeartbeats 2000000
open Go Go.Proofs
namespace Go.Abs
theorem ref41_stages (n : Nat) (hn : n ≤ 1000) (hn0 : 0 < n) (ls : List (List Int)) (hls : ls.length ≤ 6) (hl : ∀ l ∈ ls, l.length = n) (hb : ∀ l ∈ ls, ∀ x ∈ l, -100000 ≤ x ∧ x ≤ 100000) (ht : (touchL n ls).length ≤ 6) :
    Pure Tryz.prog 61 [.list (ls.map cL), dI n] (.tup [.list ((stagesF ls n ls.length (List.replicate ls.length true)).1.map Stage.c), .list ((stagesF ls n ls.length (List.replicate ls.length true)).2.map cB)]) := by
  refine pureK (by first | rfl | (simp [go_sem]; done)) (fun Q hQ => (acalls_of_body (cfg := ⟨fun t => t == 9 || t == 10, fun _ => []⟩) Tz.mixed Tryz.func61 rfl rfl (Nat.le_of_ble_eq_true rfl) (by kernel_rfl) ?_))
  try simp [go_sem, seval, cntM_all]
  repeat (first | intro _ | (refine ⟨obs, ?_⟩))
  obtain ⟨I0, hI0⟩ : ∃ I0 : Nat → Env → AHeap → Prop, ∀ (i : Nat) (e : Env) (H : AHeap), I0 i e H ↔ ((e 0 = .list (ls.map cL)) ∧ (e 1 = dI n) ∧ (e 6 = .own 0 ls.length) ∧ (e 7 = dI ls.length) ∧ (e 8 = dI i) ∧ (H.get 0 = some ⟨4, 1, (stepM ls.length i).map cB, false⟩) ∧ (0 < H.next) ∧ (i ≤ ls.length) ∧ ((stepM ls.length i).length = ls.length)) := ⟨fun i e H => _, fun _ _ _ => Iff.rfl⟩
  refine loopK I0 (fun i => ls.length - i) (0) ((hI0 _ _ _).2 ⟨?_, ?_, ?_, ?_, ?_, (by (simp [go_sem, stepM_zero])), ?_, (by first | assumption | omega | (simp [go_sem, cntM_all]; done) | (simp_all; done)), (by (exact stepM_len (Nat.zero_le _)))⟩) ?_
  iterate 6 (first | omega | (simp [go_sem, seval, cntM_all] <;> omega))
  intro i e H hi0
  obtain ⟨q0_0, q1_0, q6_0, q7_0, q8_0, g0_0, n0_0, hi, hsl⟩ := (hI0 _ _ _).1 hi0
  have x0 := frs n0_0
  have F0 := And.intro q0_0 (And.intro q1_0 (And.intro q6_0 (And.intro q7_0 (And.intro q8_0 x0))))
  try simp [go_sem, seval, cntM_all, F0, g0_0, hsl]
  refine condQ_mk (fun h4 => ?_) (fun h4 => ?_)
  · try simp [go_sem] at h4
    have hk : i < (stepM ls.length i).length := by rw [stepM_len (by omega)]; exact h4
    try simp [go_sem, seval, cntM_all, F0, g0_0, hsl, h4, List.getElem?_eq_getElem hk, h4]
    repeat (first | intro _ | (refine ⟨obs, ?_⟩))
    refine nextQ_mk (i + 1) (by omega) ((hI0 _ _ _).2 ⟨?_, ?_, ?_, ?_, ?_, (by (simp [go_sem, cntM_all, F0, g0_0, hsl, h4, List.getElem?_eq_getElem hk, h4, ← stepM_set h4, List.map_set])), ?_, (by first | assumption | omega | (simp [go_sem, cntM_all, F0, g0_0, hsl, h4, List.getElem?_eq_getElem hk, h4]; done) | (simp_all; done) | (simp_all; omega)), (by (exact stepM_len (by omega)))⟩) <;> first | omega | (simp [go_sem, seval, cntM_all, F0, g0_0, hsl, h4, List.getElem?_eq_getElem hk, h4] <;> omega)
  · try simp [go_sem] at h4
    have hie : i = ls.length := by omega
    subst hie
    rw [stepM_end] at g0_0
    try simp [go_sem, seval, cntM_all, F0, g0_0, hsl]
    obtain ⟨I2, hI2⟩ : ∃ I2 : Nat → Env → AHeap → Prop, ∀ (k : Nat) (e : Env) (H : AHeap), I2 k e H ↔ (∃ m : List Bool, ∃ o : Nat, ∃ out : List Stage, (e 0 = .list (ls.map cL)) ∧ (e 1 = dI n) ∧ (e 6 = .own 0 ls.length) ∧ (e 7 = dI (cntM m)) ∧ (e 9 = .own o out.length) ∧ (H.get 0 = some ⟨4, 1, m.map cB, false⟩) ∧ (0 < H.next) ∧ (H.get o = some ⟨33, 2, out.map Stage.c, false⟩) ∧ (o < H.next) ∧ (o ≠ 0) ∧ (m.length = ls.length) ∧ (cntM m ≤ k) ∧ (out.length + k ≤ ls.length) ∧ (stagesF ls n ls.length (List.replicate ls.length true) = (out ++ (stagesF ls n k m).1, (stagesF ls n k m).2))) := ⟨fun k e H => _, fun _ _ _ => Iff.rfl⟩
    refine loopK I2 (fun k => k) (ls.length) ((hI2 _ _ _).2 ⟨(List.replicate ls.length true), (H.next), ([]), ?_, ?_, ?_, ?_, ?_, ?_, ?_, ?_, ?_, (by omega), (by simp), (by (rw [cntM_all]; exact Nat.le_refl _)), (by simp), (by simp)⟩) ?_
    iterate 9 (first | omega | (simp [go_sem, seval, cntM_all, F0, g0_0, hsl] <;> omega))
    intro k e H hi2
    obtain ⟨m, o, out, q0_2, q1_2, q6_2, q7_2, q9_2, g0_2, n0_2, go_2, no_2, o0, hm, hk, hol, hF⟩ := (hI2 _ _ _).1 hi2
    have x0 := frs n0_2
    have xo := frs no_2
    have F2 := And.intro q0_2 (And.intro q1_2 (And.intro q6_2 (And.intro q7_2 (And.intro q9_2 (And.intro g0_2 (And.intro go_2 (And.intro x0 xo)))))))
    try simp [go_sem, seval, cntM_all, hsl, F2, o0, o0.symm, hm]
    refine condQ_mk (fun h8 => ?_) (fun h8 => ?_)
    · try simp [go_sem] at h8
      try simp [go_sem, seval, cntM_all, hsl, F2, o0, o0.symm, hm, h8]
      unfold callQ; refine ref41_stageO n hn hn0 ls hls m hm hl hb (Nat.le_trans touchM_few ht) 0 _ (by simp [cntM_all, hsl, F2, o0, o0.symm, hm, h8]) (by omega) _ (fun i1 i2 H2 ha1 ha2 ha3 ha4 ha5 ha6 ha7 ha8 ha9 => ?_)
      have k0 := ha8 0 (by omega)
      have ko := ha8 o (by omega)
      simp only [cntM_all, hsl, F2, o0, o0.symm, hm, h8] at k0 ko
      obtain ⟨b, hbb⟩ : ∃ b, b = H2.next := ⟨_, rfl⟩
      have z1 := nep (show i1 ≠ 0 by omega)
      have z2 := nep (show i2 ≠ 0 by omega)
      have z3 := nep ha5
      have di1 := nep (show i1 ≠ o by omega)
      have di2 := nep (show i2 ≠ o by omega)
      have fr3 := And.intro (frs (show 0 < H2.next by omega)) (And.intro (frs (show o < H2.next by omega)) (And.intro (frs (show i1 < H2.next by omega)) (frs (show i2 < H2.next by omega))))
      try simp [go_sem, seval, cntM_all, hsl, F2, o0, o0.symm, hm, h8, k0, ko, ha6, ha7, z1, z2, z3, di1, di2, fr3]
      repeat (first | intro _ | (refine ⟨obs, ?_⟩))
      refine condQ_mk (fun h10 => ?_) (fun h10 => ?_)
      · try simp [go_sem] at h10
        have hr0 : (bestS ls n m).removed = [] := by simpa using h10
        rw [stagesF_stop (k := k) (m := m) (.inr hr0)] at hF
        try simp [go_sem, seval, cntM_all, hsl, F2, o0, o0.symm, hm, h8, k0, ko, ha6, ha7, z1, z2, z3, di1, di2, fr3]
        exact hQ _ _ (by first | (left; (simp [go_sem, cntM_all, hsl, F2, o0, o0.symm, hm, h8, k0, ko, ha6, ha7, z1, z2, z3, di1, di2, fr3, hF]); done) | (right; (simp [go_sem, cntM_all, hsl, F2, o0, o0.symm, hm, h8, k0, ko, ha6, ha7, z1, z2, z3, di1, di2, fr3, hF]); done))
      · try simp [go_sem] at h10
        have hr0 : (bestS ls n m).removed ≠ [] := by simpa using h10
        have hon := bestS_on (ls := ls) (n := n) hm
        have hoff := cntM_off _ _ hon.1 hon.2
        have hcl := cntM_le m
        have hrp : 0 < (bestS ls n m).removed.length := List.length_pos_iff.2 hr0
        obtain ⟨k2, hk2⟩ : ∃ k2, k = k2 + 1 := ⟨k - 1, by omega⟩
        rw [hk2, stagesF_step (k := k2) (m := m) (by omega) hr0] at hF
        try simp [go_sem, seval, cntM_all, hsl, F2, o0, o0.symm, hm, h8, k0, ko, ha6, ha7, z1, z2, z3, di1, di2, fr3]
        obtain ⟨I4, hI4⟩ : ∃ I4 : Nat → Env → AHeap → Prop, ∀ (j : Nat) (e : Env) (H : AHeap), I4 j e H ↔ (∃ b : Nat, (e 0 = .list (ls.map cL)) ∧ (e 1 = dI n) ∧ (e 6 = .own 0 ls.length) ∧ (e 7 = dI ((cntM m : Int) - j)) ∧ (e 9 = .own o out.length) ∧ (e 10 = .ptr b 1 0 0) ∧ (e 11 = dI j) ∧ (H.get 0 = some ⟨4, 1, (offM m ((bestS ls n m).removed.take j)).map cB, false⟩) ∧ (0 < H.next) ∧ (H.get o = some ⟨33, 2, out.map Stage.c, false⟩) ∧ (o < H.next) ∧ (H.get b = some ⟨33, 2, [[.own i1 (bestS ls n m).weights.length, .own i2 (bestS ls n m).removed.length]], false⟩) ∧ (b < H.next) ∧ (H.get i1 = some ⟨3, 1, (bestS ls n m).weights.map cI, false⟩) ∧ (i1 < H.next) ∧ (H.get i2 = some ⟨3, 1, (bestS ls n m).removed.map cI, false⟩) ∧ (i2 < H.next) ∧ (j ≤ (bestS ls n m).removed.length) ∧ (0 < b) ∧ (o < b ∧ i1 < b ∧ i2 < b)) := ⟨fun j e H => _, fun _ _ _ => Iff.rfl⟩
        refine loopK I4 (fun j => (bestS ls n m).removed.length - j) (0) ((hI4 _ _ _).2 ⟨(H2.next), ?_, ?_, ?_, ?_, ?_, ?_, ?_, (by (simp [go_sem, cntM_all, hsl, F2, o0, o0.symm, hm, h8, k0, ko, ha6, ha7, z1, z2, z3, di1, di2, fr3, offM])), ?_, ?_, ?_, ?_, ?_, ?_, ?_, ?_, ?_, (by first | assumption | omega | (simp [go_sem, cntM_all, hsl, F2, o0, o0.symm, hm, h8, k0, ko, ha6, ha7, z1, z2, z3, di1, di2, fr3]; done) | (simp_all; done)), (by omega), (by omega)⟩) ?_
        iterate 16 (first | omega | (simp [go_sem, seval, cntM_all, hsl, F2, o0, o0.symm, hm, h8, k0, ko, ha6, ha7, z1, z2, z3, di1, di2, fr3] <;> omega))
        intro j e H hi4
        obtain ⟨b, q0_4, q1_4, q6_4, q7_4, q9_4, q10_4, q11_4, g0_4, n0_4, go_4, no_4, gb_4, nb_4, gi1_4, ni1_4, gi2_4, ni2_4, hj, hb0, hb1⟩ := (hI4 _ _ _).1 hi4
        have x0 := frs n0_4
        have xo := frs no_4
        have xb := frs nb_4
        have xi1 := frs ni1_4
        have xi2 := frs ni2_4
        have F4 := And.intro q0_4 (And.intro q1_4 (And.intro q6_4 (And.intro q7_4 (And.intro q9_4 (And.intro q10_4 (And.intro q11_4 (And.intro go_4 (And.intro gb_4 (And.intro gi1_4 (And.intro gi2_4 (And.intro x0 (And.intro xo (And.intro xb (And.intro xi1 xi2))))))))))))))
        have di4 := And.intro (nep (show b ≠ i2 by omega)) (And.intro (nep (show b ≠ i1 by omega)) (And.intro (nep (show b ≠ o by omega)) (And.intro (nep (show i2 ≠ i1 by omega)) (And.intro (nep (show i2 ≠ o by omega)) (nep (show i1 ≠ o by omega))))))
        have hbz := nep (show b ≠ 0 by omega)
        try simp [go_sem, seval, cntM_all, hsl, o0, o0.symm, hm, h8, k0, ko, ha6, ha7, z1, z2, z3, di1, di2, fr3, F4, g0_4, di4, hbz]
        repeat (first | intro _ | (refine ⟨obs, ?_⟩))
        refine condQ_mk (fun h13 => ?_) (fun h13 => ?_)
        · try simp [go_sem] at h13
          have hr := hon.2 _ (List.getElem_mem h13)
          have hrm := (List.getElem?_eq_some_iff.1 hr.2).1
          have hrl : (bestS ls n m).removed[j] < ls.length := by omega
          have hrt : (bestS ls n m).removed[j].toNat < ls.length := by omega
          have hofl : (offM m ((bestS ls n m).removed.take j)).length = ls.length := by rw [offM_len]; exact hm
          have hset : offM m ((bestS ls n m).removed.take (j + 1)) = (offM m ((bestS ls n m).removed.take j)).set (bestS ls n m).removed[j].toNat false := by rw [List.take_succ_eq_append_getElem h13, offM_append]
          try simp [go_sem, seval, cntM_all, hsl, o0, o0.symm, hm, h8, k0, ko, ha6, ha7, z1, z2, z3, di1, di2, fr3, F4, g0_4, di4, hbz, h13, List.getElem?_eq_getElem h13, hset, hofl, hrl, hrt, h13]
          repeat (first | intro _ | (refine ⟨obs, ?_⟩))
          refine nextQ_mk (j + 1) (by omega) ((hI4 _ _ _).2 ⟨(b), ?_, ?_, ?_, ?_, ?_, ?_, ?_, (by (simp [go_sem, cntM_all, hsl, o0, o0.symm, hm, h8, k0, ko, ha6, ha7, z1, z2, z3, di1, di2, fr3, F4, g0_4, di4, hbz, h13, List.getElem?_eq_getElem h13, hset, hofl, hrl, hrt, h13, List.map_set])), ?_, ?_, ?_, ?_, ?_, ?_, ?_, ?_, ?_, (by first | assumption | omega | (simp [go_sem, cntM_all, hsl, o0, o0.symm, hm, h8, k0, ko, ha6, ha7, z1, z2, z3, di1, di2, fr3, F4, g0_4, di4, hbz, h13, List.getElem?_eq_getElem h13, hset, hofl, hrl, hrt, h13, h4, h10]; done) | (simp_all; done) | (simp_all; omega)), (by first | assumption | omega | (simp [go_sem, cntM_all, hsl, o0, o0.symm, hm, h8, k0, ko, ha6, ha7, z1, z2, z3, di1, di2, fr3, F4, g0_4, di4, hbz, h13, List.getElem?_eq_getElem h13, hset, hofl, hrl, hrt, h13, h4, h10]; done) | (simp_all; done) | (simp_all; omega)), (by first | assumption | omega | (simp [go_sem, cntM_all, hsl, o0, o0.symm, hm, h8, k0, ko, ha6, ha7, z1, z2, z3, di1, di2, fr3, F4, g0_4, di4, hbz, h13, List.getElem?_eq_getElem h13, hset, hofl, hrl, hrt, h13, h4, h10]; done) | (simp_all; done) | (simp_all; omega))⟩) <;> first | omega | (simp [go_sem, seval, cntM_all, hsl, o0, o0.symm, hm, h8, k0, ko, ha6, ha7, z1, z2, z3, di1, di2, fr3, F4, g0_4, di4, hbz, h13, List.getElem?_eq_getElem h13, hset, hofl, hrl, hrt, h13] <;> omega)
        · try simp [go_sem] at h13
          rw [List.take_of_length_le (by omega)] at g0_4
          have hje : j = (bestS ls n m).removed.length := by omega
          subst hje
          try simp [go_sem, seval, cntM_all, hsl, o0, o0.symm, hm, h8, k0, ko, ha6, ha7, z1, z2, z3, di1, di2, fr3, F4, g0_4, di4, hbz]
          repeat (first | intro _ | (refine ⟨obs, ?_⟩))
          refine nextQ_mk (k - 1) (by omega) ((hI2 _ _ _).2 ⟨(offM m (bestS ls n m).removed), (o), (out ++ [bestS ls n m]), ?_, ?_, ?_, ?_, ?_, ?_, ?_, ?_, ?_, (by first | assumption | omega | (simp [go_sem, cntM_all, hsl, o0, o0.symm, hm, h8, k0, ko, ha6, ha7, z1, z2, z3, di1, di2, fr3, F4, g0_4, di4, hbz, h4, h10, h13]; done) | (simp_all; done) | (simp_all; omega)), (by (rw [offM_len]; exact hm)), (by omega), (by (simp; omega)), (by (rw [show k - 1 = k2 by omega, hF]; simp))⟩) <;> first | omega | (simp [go_sem, seval, cntM_all, hsl, o0, o0.symm, hm, h8, k0, ko, ha6, ha7, z1, z2, z3, di1, di2, fr3, F4, g0_4, di4, hbz] <;> omega)
    · try simp [go_sem] at h8
      rw [stagesF_stop (k := k) (m := m) (.inl (by omega))] at hF
      try simp [go_sem, seval, cntM_all, hsl, F2, o0, o0.symm, hm]
      exact hQ _ _ (by first | (left; (simp [go_sem, cntM_all, hsl, F2, o0, o0.symm, hm, hF]); done) | (right; (simp [go_sem, cntM_all, hsl, F2, o0, o0.symm, hm, hF]); done))
end Go.Abs
end
