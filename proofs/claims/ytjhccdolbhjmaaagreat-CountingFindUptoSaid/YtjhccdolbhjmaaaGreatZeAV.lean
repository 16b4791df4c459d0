/- counting.Rank, at graphs with no edges (the example of the chapter). · law41: what the statements come to. · law41: CountingFind. · From a reading of an argument to an abstract value of a typed structure; and what a call's end owes. · What the bound on the bulk of the arguments gives. · The readings of the argument types. -/
import Derived.Test.YtjhccdolbhjmaaaGreatZeAA
import Derived.Test.YtjhccdolbhjmaaaGreatZeAT
import Derived.Test.YtjhccdolbhjmaaaGreatZeAU
import Derived.Test.YtjhccdolbhjmaaaGreatZeAD
import Derived.Test.YtjhccdolbhjmaaaGreatZeAP
import Derived.Carry
import Derived.ChangeArms
import Derived.WideShapes
import Derived.DataElems
import Derived.Test.YtjhccdolbhjmaaaGreatRows
section
set_option linter.unusedVariables false
set_option linter.unusedSimpArgs false
set_option maxRecDepth 8000
set_option maxHeartbeats 2000000
open Go Go.Proofs
namespace Go.Abs
def preC (xs : List Cnt) (i : Nat) : List Cnt := (xs.take i).foldl cntF []
theorem preC_succ {xs : List Cnt} {i : Nat} (h : i < xs.length) : preC xs (i + 1) = cntF (preC xs i) xs[i] := by
  unfold preC; rw [List.take_succ_eq_append_getElem h, List.foldl_append]; rfl
structure CntOk (xs : List Cnt) : Prop where
  sm : ∀ x ∈ xs, x.small
  pre : ∀ i, i ≤ xs.length → (preC xs i).length ≤ 1000 ∧ ∀ y ∈ preC xs i, y.small
  ins : ∀ i (h : i < xs.length), cntB (preC xs i) xs[i] = false → InsOk (preC xs i) (cntK (preC xs i) xs[i]) xs[i]
def cntG (g : Graph) : List Cnt := g.nodes.map fun n => ⟨n, 0, 0, 1⟩
theorem statistic_OfC (t : Types) (ht : t.ok) (g : Graph) (hT : typed18 t g = 0) (hE0 : g.edges = []) (ok : CntOk (cntG g)) (Q : D → AHeap → Prop) (hQ : ∀ c H', c.cl = true → c.cell = true → (∀ H, rsv1 H c = c) → Q (.tup [.agg [c, .nil], dI 0]) H') : ACalls Tryz.prog 44 [t.d, g.d] .emp Q := by
  refine (acalls_of_body (cfg := ⟨fun t => t == 4 || t == 7 || t == 1000000, fun _ => []⟩) Tz.mixed Tryz.func44 rfl rfl (Nat.le_of_ble_eq_true rfl) (by kernel_rfl) ?_)
  try simp [go_sem, seval, hT]
  refine callQ_pure0 (statistic_typed t ht g) ((by first | rfl | (simp [go_sem, ← List.map_take, ← List.map_drop, hT]; done))) ?_
  try simp [go_sem, seval, hT]
  repeat (first | intro _ | (refine ⟨obs, ?_⟩))
  obtain ⟨I0, hI0⟩ : ∃ I0 : Nat → Env → AHeap → Prop, ∀ (i : Nat) (e : Env) (H : AHeap), I0 i e H ↔ (∃ c : D, (e 2 = .adr t.c) ∧ (e 3 = .adr g.c) ∧ (e 4 = .ptr 0 1 0 0) ∧ (e 7 = .ptr 1 1 0 0) ∧ (e 20 = dLI g.nodes) ∧ (e 21 = dI g.nodes.length) ∧ (e 22 = dI i) ∧ (H.get 0 = some ⟨106, 2, [[.nil, .nil]], false⟩) ∧ (0 < H.next) ∧ (H.get 1 = some ⟨106, 2, [[c, .nil]], false⟩) ∧ (1 < H.next) ∧ (i ≤ g.nodes.length) ∧ (c = .nil ∨ ∃ es, c = .list es) ∧ (c.cl = true ∧ Own Tryz.prog 121 [c] 144 4 ((preC (cntG g) i).map Cnt.c))) := ⟨fun i e H => _, fun _ _ _ => Iff.rfl⟩
  refine loopK I0 (fun i => g.nodes.length - i) (0) ((hI0 _ _ _).2 ⟨(.nil), ?_, ?_, ?_, ?_, ?_, ?_, ?_, ?_, ?_, ?_, ?_, (by first | assumption | omega | (simp [go_sem, hT]; done) | (simp_all; done)), (by exact .inl rfl), (by exact ⟨rfl, clone_cnt0⟩)⟩) ?_
  iterate 11 (first | omega | (simp [go_sem, seval, hT] <;> omega))
  intro i e H hi0
  obtain ⟨c, q2_0, q3_0, q4_0, q7_0, q20_0, q21_0, q22_0, g0_0, n0_0, g1_0, n1_0, hi, hcv, hc⟩ := (hI0 _ _ _).1 hi0
  have x0 := frs n0_0
  have x1 := frs n1_0
  have F0 := And.intro q2_0 (And.intro q3_0 (And.intro q4_0 (And.intro q7_0 (And.intro q20_0 (And.intro q21_0 (And.intro q22_0 (And.intro g0_0 (And.intro g1_0 (And.intro x0 x1)))))))))
  have hcl : c.cl = true := hc.1
  have hr1 : ∀ H, rsv1 H c = c := fun H => by rcases hcv with rfl | ⟨es, rfl⟩ <;> rfl
  have hr2 : ids1 c = [] := by rcases hcv with rfl | ⟨es, rfl⟩ <;> rfl
  have hr3 : c.cell = true := by rcases hcv with rfl | ⟨es, rfl⟩ <;> rfl
  have hr4 := hr3
  unfold D.cell at hr4
  try simp [go_sem, seval, hT, F0, hcl, hr1, hr2, hr3, hr4]
  refine condQ_mk (fun h6 => ?_) (fun h6 => ?_)
  · try simp [go_sem] at h6
    have hil : i < (cntG g).length := by unfold cntG; rw [List.length_map]; exact h6
    have hx : (cntG g)[i] = ⟨g.nodes[i], 0, 0, 1⟩ := by simp [cntG]
    have hps := preC_succ hil
    rw [hx] at hps
    try simp [go_sem, seval, hT, F0, hcl, hr1, hr2, hr3, hr4, h6, h6, List.getElem?_eq_getElem h6, hps]
    repeat (first | intro _ | (refine ⟨obs, ?_⟩))
    refine callQ_own0 ((by have hq := statistic_counted c (preC (cntG g) i) (ok.pre i (Nat.le_of_lt hil)).1 hc.2 hc.1 (ok.pre i (Nat.le_of_lt hil)).2 ((cntG g)[i]'hil) (ok.sm _ (List.getElem_mem _)) (ok.ins i hil); simp only [hx] at hq; exact hq)) ((by first | rfl | (simp [go_sem, ← List.map_take, ← List.map_drop, hT, F0, hcl, hr1, hr2, hr3, hr4, h6, h6, List.getElem?_eq_getElem h6, hps]; done))) ?_
    try simp [go_sem, seval, hT, F0, hcl, hr1, hr2, hr3, hr4, h6, h6, List.getElem?_eq_getElem h6, hps]
    repeat (first | intro _ | (refine ⟨obs, ?_⟩))
    refine nextQ_mk (i + 1) (by omega) ((hI0 _ _ _).2 ⟨(.list ((preC (cntG g) (i + 1)).map Cnt.c)), ?_, ?_, ?_, ?_, ?_, ?_, ?_, ?_, ?_, ?_, ?_, (by first | assumption | omega | (simp [go_sem, hT, F0, hcl, hr1, hr2, hr3, hr4, h6, h6, List.getElem?_eq_getElem h6, hps]; done) | (simp_all; done) | (simp_all; omega)), (by exact .inr ⟨_, rfl⟩), (by (exact ⟨by simp [go_sem], clone_cnt _ (Nat.le_trans (ok.pre (i + 1) hil).1 (by decide))⟩))⟩) <;> first | omega | (simp [go_sem, seval, hT, F0, hcl, hr1, hr2, hr3, hr4, h6, h6, List.getElem?_eq_getElem h6, hps] <;> omega)
  · try simp [go_sem] at h6
    try simp [go_sem, seval, hT, F0, hcl, hr1, hr2, hr3, hr4]
    repeat (first | intro _ | (refine ⟨obs, ?_⟩))
    obtain ⟨I2, hI2⟩ : ∃ I2 : Nat → Env → AHeap → Prop, ∀ (k : Nat) (e : Env) (H : AHeap), I2 k e H ↔ ((e 2 = .adr t.c) ∧ (e 3 = .adr g.c) ∧ (e 4 = .ptr 0 1 0 0) ∧ (e 7 = .ptr 1 1 0 0) ∧ (e 34 = .list (g.edges.map Edge.c)) ∧ (e 35 = dI g.edges.length) ∧ (e 36 = dI k) ∧ (H.get 0 = some ⟨106, 2, [[.nil, .nil]], false⟩) ∧ (0 < H.next) ∧ (H.get 1 = some ⟨106, 2, [[c, .nil]], false⟩) ∧ (1 < H.next)) := ⟨fun k e H => _, fun _ _ _ => Iff.rfl⟩
    refine loopK I2 (fun k => g.edges.length - k) (0) ((hI2 _ _ _).2 ⟨?_, ?_, ?_, ?_, ?_, ?_, ?_, ?_, ?_, ?_, ?_⟩) ?_
    iterate 11 (first | omega | (simp [go_sem, seval, hT, F0, hcl, hr1, hr2, hr3, hr4] <;> omega))
    intro k e H hi2
    obtain ⟨q2_2, q3_2, q4_2, q7_2, q34_2, q35_2, q36_2, g0_2, n0_2, g1_2, n1_2⟩ := (hI2 _ _ _).1 hi2
    have x0 := frs n0_2
    have x1 := frs n1_2
    have F2 := And.intro q2_2 (And.intro q3_2 (And.intro q4_2 (And.intro q7_2 (And.intro q34_2 (And.intro q35_2 (And.intro q36_2 (And.intro g0_2 (And.intro g1_2 (And.intro x0 x1)))))))))
    try simp [go_sem, seval, hT, hcl, hr1, hr2, hr3, hr4, F2]
    refine condQ_mk (fun h11 => ?_) (fun h11 => ?_)
    · rw [hE0] at h11; simp at h11
    · try simp [go_sem] at h11
      try simp [go_sem, seval, hT, hcl, hr1, hr2, hr3, hr4, F2]
      exact hQ c _ hcl hr3 hr1
theorem counting_RankA (t : Types) (ht : t.ok) (st : List Stage) (g : Graph) (hT : typed18 t g = 0) (hE0 : g.edges = []) (ok : CntOk (cntG g)) : Pure Tryz.prog 18 [t.d, .list (st.map Stage.c), g.d] (.tup [dLI (rankF t st g), dI (rankE t st g)]) := by
  have hSt : PureE Tryz.prog 44 [t.d, g.d] (fun r => ∃ c, c.cell = true ∧ r = .tup [.agg [c, .nil], dI 0]) :=
    pureE_of_calls (statistic_OfC t ht g hT hE0 ok _ fun c H' h1 h2 h3 => by
      have e : rsvT H' (.tup [.agg [c, .nil], dI 0]) = .tup [.agg [c, .nil], dI 0] := by simp [go_sem, h3, dI]
      rw [e]
      exact ⟨⟨c, h2, rfl⟩, by simp [go_sem, h1, dI]⟩)
  refine pureK (by first | rfl | (simp [go_sem]; done)) (fun Q hQ => (acalls_of_body (cfg := ⟨fun t => t == 8 || t == 10 || t == 12, fun _ => []⟩) Tz.mixed Tryz.func18 rfl rfl (Nat.le_of_ble_eq_true rfl) (by kernel_rfl) ?_))
  try simp [go_sem, seval]
  unfold callQ; refine ACalls.pureE hSt (by simp [go_sem]) (fun r hR hrc => ?_); obtain ⟨c, hr3, rfl⟩ := hR; have hr4 := hr3; unfold D.cell at hr4
  try simp [go_sem, seval, hr3, hr4]
  repeat (first | intro _ | (refine ⟨obl, ?_⟩))
  refine condQ_mk (fun h4 => ?_) (fun h4 => ?_)
  · try simp [go_sem] at h4
    have hE : rankE t st g = 3 := by unfold rankE; rw [if_neg (by omega), if_pos (by omega)]
    try simp [go_sem, seval, hr3, hr4]
    exact hQ _ _ (by first | (left; (simp [go_sem, rankF, hE]); done) | (right; (simp [go_sem, rankF, hE]); done))
  · try simp [go_sem] at h4
    have hE : rankE t st g = listE (fun s => weightE t s.weights g) st := by unfold rankE; rw [if_neg (by omega), if_neg (by omega)]
    try simp [go_sem, seval, hr3, hr4]
    repeat (first | intro _ | (refine ⟨obl, ?_⟩))
    obtain ⟨I0, hI0⟩ : ∃ I0 : Nat → Env → AHeap → Prop, ∀ (i : Nat) (e : Env) (H : AHeap), I0 i e H ↔ (∃ xs : List Int, (e 3 = .adr t.c) ∧ (e 5 = .adr g.c) ∧ (e 1 = .list (st.map Stage.c)) ∧ (e 10 = .own 1 xs.length) ∧ (e 27 = .list (st.map Stage.c)) ∧ (e 28 = dI st.length) ∧ (e 29 = dI i) ∧ (H.get 1 = some ⟨3, 1, xs.map cI, false⟩) ∧ (1 < H.next) ∧ (i ≤ st.length) ∧ (xs = (st.take i).map (fun s => weightF t s.weights g)) ∧ (listE (fun s => weightE t s.weights g) (st.drop i) = rankE t st g)) := ⟨fun i e H => _, fun _ _ _ => Iff.rfl⟩
    refine loopK I0 (fun i => st.length - i) (0) ((hI0 _ _ _).2 ⟨([]), ?_, ?_, ?_, ?_, ?_, ?_, ?_, ?_, ?_, (by first | assumption | omega | (simp [go_sem, hr3, hr4]; done) | (simp_all; done)), (by rfl), (by (exact hE.symm))⟩) ?_
    iterate 9 (first | omega | (simp [go_sem, seval, hr3, hr4] <;> omega))
    intro i e H hi0
    obtain ⟨xs, q3_0, q5_0, q1_0, q10_0, q27_0, q28_0, q29_0, g1_0, n1_0, hi, hx, hL⟩ := (hI0 _ _ _).1 hi0
    have x1 := frs n1_0
    have F0 := And.intro q3_0 (And.intro q5_0 (And.intro q1_0 (And.intro q10_0 (And.intro q27_0 (And.intro q28_0 (And.intro q29_0 (And.intro g1_0 x1)))))))
    try simp [go_sem, seval, hr3, hr4, F0]
    refine condQ_mk (fun h8 => ?_) (fun h8 => ?_)
    · try simp [go_sem] at h8
      have hst := hL
      rw [listE_step _ h8] at hst
      have hxl : xs.length = i := by rw [hx]; simp; omega
      try simp [go_sem, seval, hr3, hr4, F0, h8]
      repeat (first | intro _ | (refine ⟨obl, ?_⟩))
      refine callQ_pure0 (weight_Of t ht st[i].weights g) ((by first | rfl | (simp [go_sem, ← List.map_take, ← List.map_drop, hr3, hr4, F0, h8]; done))) ?_
      try simp [go_sem, seval, hr3, hr4, F0, h8]
      repeat (first | intro _ | (refine ⟨obl, ?_⟩))
      refine condQ_mk (fun h11 => ?_) (fun h11 => ?_)
      · try simp [go_sem] at h11
        rw [if_pos (by omega)] at hst
        have hF : rankF t st g = [] := if_neg (by omega)
        try simp [go_sem, seval, hr3, hr4, F0, h8]
        exact hQ _ _ (by first | (left; (simp [go_sem, hF, ← hst]); done) | (right; (simp [go_sem, hF, ← hst]); done))
      · try simp [go_sem] at h11
        rw [if_neg (by omega)] at hst
        try simp [go_sem, seval, hr3, hr4, F0, h8]
        repeat (first | intro _ | (refine ⟨obl, ?_⟩))
        refine nextQ_mk (i + 1) (by omega) ((hI0 _ _ _).2 ⟨(xs ++ [weightF t st[i].weights g]), ?_, ?_, ?_, ?_, ?_, ?_, ?_, ?_, ?_, (by first | assumption | omega | (simp [go_sem, hr3, hr4, F0, h8, h4, h11]; done) | (simp_all; done) | (simp_all; omega)), (by (rw [map_take_succ _ h8, ← hx])), (by exact hst)⟩) <;> first | omega | (simp [go_sem, seval, hr3, hr4, F0, h8] <;> omega)
    · try simp [go_sem] at h8
      have hL0 : rankE t st g = 0 := by rw [← hL, listE_end _ (by omega)]
      have hX : xs = rankF t st g := by unfold rankF; rw [if_pos hL0, hx, map_take_end _ (by omega)]
      try simp [go_sem, seval, hr3, hr4, F0]
      exact hQ _ _ (by first | (left; (simp [go_sem, hr3, hr4, F0, hL0, ← hX]); done) | (right; (simp [go_sem, hr3, hr4, F0, hL0, ← hX]); done))
theorem cntOk_awake : CntOk (cntG ⟨[0, 1, 1], []⟩) where
  sm x hx := by
    simp [cntG] at hx
    rcases hx with rfl | rfl <;> simp [Cnt.small]
  pre i hi := by
    have h : ∀ j, j ≤ 3 → (preC (cntG ⟨[0, 1, 1], []⟩) j).length ≤ 1000 ∧ ∀ y ∈ preC (cntG ⟨[0, 1, 1], []⟩) j, y.small := by
      intro j hj
      have e0 : preC (cntG ⟨[0, 1, 1], []⟩) 0 = [] := rfl
      have e1 : preC (cntG ⟨[0, 1, 1], []⟩) 1 = [⟨0, 0, 0, 1⟩] := by rfl
      have e2 : preC (cntG ⟨[0, 1, 1], []⟩) 2 = [⟨0, 0, 0, 1⟩, ⟨1, 0, 0, 1⟩] := by rfl
      have e3 : preC (cntG ⟨[0, 1, 1], []⟩) 3 = [⟨0, 0, 0, 1⟩, ⟨1, 0, 0, 2⟩] := by rfl
      rcases (show j = 0 ∨ j = 1 ∨ j = 2 ∨ j = 3 by omega) with rfl | rfl | rfl | rfl
      · rw [e0]; simp
      · rw [e1]; simp [Cnt.small]
      · rw [e2]; simp [Cnt.small]
      · rw [e3]; simp [Cnt.small]
    exact h i hi
  ins i hi hb := by
    have h : i < 3 := hi
    rcases (show i = 0 ∨ i = 1 ∨ i = 2 by omega) with rfl | rfl | rfl
    · exact insert_end [] (by simp) _
    · exact insert_end [⟨0, 0, 0, 1⟩] (by simp) _
    · have hb' : cntB [⟨0, 0, 0, 1⟩, ⟨1, 0, 0, 1⟩] ⟨1, 0, 0, 1⟩ = false := hb
      exact absurd hb' (by decide)
theorem counting_Rank_awake (ht : twoT.ok) : Pure Tryz.prog 18 [twoT.d, .list ([(⟨[3, 1], [0, 1]⟩ : Stage)].map Stage.c), Graph.d ⟨[0, 1, 1], []⟩] (.tup [dLI (rankF twoT [⟨[3, 1], [0, 1]⟩] ⟨[0, 1, 1], []⟩), dI (rankE twoT [⟨[3, 1], [0, 1]⟩] ⟨[0, 1, 1], []⟩)]) :=
  counting_RankA twoT ht [⟨[3, 1], [0, 1]⟩] ⟨[0, 1, 1], []⟩ (by decide +kernel) rfl cntOk_awake
end Go.Abs
end
section
set_option linter.unusedVariables false
set_option linter.unusedSimpArgs false
set_option maxRecDepth 8000
set_option maxHeartbeats 400000
open Go Go.Proofs
namespace Go.Abs
theorem ACalls.nz {P : Program} {f : FuncId} {args args' : List D} {H : AHeap} {Q : D → AHeap → Prop} (ha : args.map nzA = args') (h : ACalls P f args' H Q) : ACalls P f args H Q := by
  subst ha
  refine ⟨h.1, fun M0 σ w vals hR hv => h.2 M0 σ w vals hR ⟨by simpa using hv.len, fun j u d hu hd => ?_⟩⟩
  rw [List.getElem?_map, Option.map_eq_some_iff] at hd
  obtain ⟨y, hy, rfl⟩ := hd
  exact nzA_rep (hv.rep j u y hu hy)
theorem twoT_few : fewT twoT = true := by decide +kernel
theorem two_few : fewRs [splitR, dropR] = true := by decide +kernel
theorem awakeS : stV twoT [splitR, dropR] = [⟨[3, 1], [0, 1]⟩] := by decide +kernel
theorem awakeF : findE twoT [splitR, dropR] = 0 := by decide +kernel
theorem awakeK : rankE twoT [⟨[3, 1], [0, 1]⟩] ⟨[0, 1, 1], []⟩ = 0 := by decide +kernel
theorem awakeV : rankF twoT [⟨[3, 1], [0, 1]⟩] ⟨[0, 1, 1], []⟩ = [5] := by decide +kernel
theorem awakeC : chkF twoT [splitR, dropR] [⟨[3, 1], [0, 1]⟩] = true := by decide +kernel
theorem law41_awake : Pure Tryz.prog 9 [] (.bool true) := by
  have ht := fewT_ok twoT_few
  have hr := (fewRs_ok two_few).2
  refine pureK (by first | rfl | (simp [go_sem]; done)) (fun Q hQ => (acalls_of_body (cfg := ⟨fun _ => false, fun _ => []⟩) Tz.mixed Tryz.func9 rfl rfl (Nat.le_of_ble_eq_true rfl) (by kernel_rfl) ?_))
  try simp [go_sem, seval, awakeS, awakeF, awakeK, awakeV, awakeC]
  refine callQ_pure0 (law41_two) ((by first | rfl | (simp [go_sem, ← List.map_take, ← List.map_drop, awakeS, awakeF, awakeK, awakeV, awakeC]; done))) ?_
  try simp [go_sem, seval, awakeS, awakeF, awakeK, awakeV, awakeC]
  refine callQ_pure0 (law41_rules) ((by first | rfl | (simp [go_sem, ← List.map_take, ← List.map_drop, awakeS, awakeF, awakeK, awakeV, awakeC]; done))) ?_
  try simp [go_sem, seval, awakeS, awakeF, awakeK, awakeV, awakeC]
  refine callQ_pure0 (counting_Find twoT ht [splitR, dropR] hr) ((by first | rfl | (simp [go_sem, ← List.map_take, ← List.map_drop, awakeS, awakeF, awakeK, awakeV, awakeC]; done))) ?_
  try simp [go_sem, seval, awakeS, awakeF, awakeK, awakeV, awakeC]
  refine callQ_pure0 (law41_two) ((by first | rfl | (simp [go_sem, ← List.map_take, ← List.map_drop, awakeS, awakeF, awakeK, awakeV, awakeC]; done))) ?_
  try simp [go_sem, seval, awakeS, awakeF, awakeK, awakeV, awakeC]
  unfold callQ; refine ACalls.nz (args' := [twoT.d, .list ([(⟨[3, 1], [0, 1]⟩ : Stage)].map Stage.c), Graph.d ⟨[0, 1, 1], []⟩]) (by simp [go_sem, twoT, NodeTy.c, Stage.c, Types.d, Types.c, Graph.d, Graph.c, dLI, dI, cI, dLS]) (ACalls.pure0 (counting_Rank_awake ht) (by simp [go_sem]) ?_)
  try simp [go_sem, seval, awakeS, awakeF, awakeK, awakeV, awakeC]
  repeat (first | intro _ | (refine ⟨obl, ?_⟩))
  refine gcallQ_pure0 (fun hg => ref41_SameStages [⟨[3, 1], [0, 1]⟩] [⟨[3, 1], [0, 1]⟩]) (fun hg => (by first | rfl | (simp [go_sem, ← List.map_take, ← List.map_drop, awakeS, awakeF, awakeK, awakeV, awakeC]; done))) ?_
  try simp [go_sem, seval, awakeS, awakeF, awakeK, awakeV, awakeC]
  repeat (first | intro _ | (refine ⟨obl, ?_⟩))
  refine gcallQ_pure0 (fun hg => equal_int [5] [5]) (fun hg => (by first | rfl | (simp [go_sem, ← List.map_take, ← List.map_drop, awakeS, awakeF, awakeK, awakeV, awakeC]; done))) ?_
  try simp [go_sem, seval, awakeS, awakeF, awakeK, awakeV, awakeC]
  repeat (first | intro _ | (refine ⟨obl, ?_⟩))
  refine gcallQ_pure0 (fun hg => law41_two) (fun hg => (by first | rfl | (simp [go_sem, ← List.map_take, ← List.map_drop, awakeS, awakeF, awakeK, awakeV, awakeC]; done))) ?_
  try simp [go_sem, seval, awakeS, awakeF, awakeK, awakeV, awakeC]
  repeat (first | intro _ | (refine ⟨obl, ?_⟩))
  refine gcallQ_pure0 (fun hg => law41_rules) (fun hg => (by first | rfl | (simp [go_sem, ← List.map_take, ← List.map_drop, awakeS, awakeF, awakeK, awakeV, awakeC]; done))) ?_
  try simp [go_sem, seval, awakeS, awakeF, awakeK, awakeV, awakeC]
  repeat (first | intro _ | (refine ⟨obl, ?_⟩))
  refine gcallQ_pure0 (fun hg => counting_Check twoT ht [splitR, dropR] hr [⟨[3, 1], [0, 1]⟩]) (fun hg => (by first | rfl | (simp [go_sem, ← List.map_take, ← List.map_drop, awakeS, awakeF, awakeK, awakeV, awakeC]; done))) ?_
  try simp [go_sem, seval, awakeS, awakeF, awakeK, awakeV, awakeC]
  repeat (first | intro _ | (refine ⟨obl, ?_⟩))
  exact hQ _ _ (by simp [go_sem, awakeS, awakeF, awakeK, awakeV, awakeC] <;> first | omega | (rw [Bool.eq_iff_iff]; simp <;> omega) | (simp_all <;> omega))
theorem light_few {t : Types} {rs : List Rule} (h : lightB t rs = true) : fewT t = true ∧ fewRs rs = true := by
  unfold lightB at h
  cases h1 : fewT t <;> cases h2 : fewRs rs <;> simp [h1, h2] at h ⊢
theorem law41_CountingCheck (t : Types) (h1 : ∀ n ∈ t.nodes, n.attrs.length ≤ 1000000000000000) (rs : List Rule) (hr0 : ∀ r ∈ rs, r.le) (st : List Stage) : Pure Tryz.prog 3 [t.d, .list (rs.map Rule.c), .list (st.map Stage.c)] (.bool true) := by
  refine pureK (by first | rfl | (simp [go_sem]; done)) (fun Q hQ => (acalls_of_body (cfg := ⟨fun _ => false, fun _ => []⟩) Tz.mixed Tryz.func3 rfl rfl (Nat.le_of_ble_eq_true rfl) (by kernel_rfl) ?_))
  try simp [go_sem, seval]
  repeat (first | intro _ | (refine ⟨obl, ?_⟩))
  refine callQ_pure0 (law41_awake) ((by first | rfl | (simp [go_sem, ← List.map_take, ← List.map_drop]; done))) ?_
  try simp [go_sem, seval]
  repeat (first | intro _ | (refine ⟨obl, ?_⟩))
  refine gcallQ_pure0 (fun hg => ref41_Light t h1 rs hr0) (fun hg => (by first | rfl | (simp [go_sem, ← List.map_take, ← List.map_drop]; done))) ?_
  try simp [go_sem, seval]
  repeat (first | intro _ | (refine ⟨obl, ?_⟩))
  refine gcallQ_pure0 (fun hg => containsFunc_stage st 12 [] bigB rfl (by simp [go_sem]) (fun x _ => law41_Check1 x)) (fun hg => (by first | rfl | (simp [go_sem, ← List.map_take, ← List.map_drop]; done))) ?_
  try simp [go_sem, seval]
  repeat (first | intro _ | (refine ⟨obl, ?_⟩))
  refine condQ_mk (fun h1 => ?_) (fun h1 => ?_)
  · try simp [go_sem] at h1
    try simp [go_sem, seval]
    refine callQ_pure0 (law41_awake) ((by first | rfl | (simp [go_sem, ← List.map_take, ← List.map_drop]; done))) ?_
    try simp [go_sem, seval]
    exact hQ _ _ (by simp [go_sem, h1] <;> first | omega | (rw [Bool.eq_iff_iff]; simp <;> omega) | (simp_all <;> omega))
  · try simp [go_sem] at h1
    have hL : lightB t rs = true := h1.1.1
    have hlen : st.length ≤ 10 := by have := h1.1.2; omega
    have ht := fewT_ok (light_few hL).1
    have hr := (fewRs_ok (light_few hL).2).2
    try simp [go_sem, seval]
    refine dcallQ_pure0 ((clone_stage st (by omega)).pure) ((by first | rfl | (simp [go_sem, ← List.map_take, ← List.map_drop]; done))) ?_
    try simp [go_sem, seval]
    refine dcallQ_pure0 (counting_Check t ht rs hr st) ((by first | rfl | (simp [go_sem, ← List.map_take, ← List.map_drop]; done))) ?_
    try simp [go_sem, seval]
    refine dcallQ_pure0 (ref41_Check t ht rs hr st) ((by first | rfl | (simp [go_sem, ← List.map_take, ← List.map_drop]; done))) ?_
    try simp [go_sem, seval]
    exact hQ _ _ (by simp [go_sem, h1] <;> first | omega | (rw [Bool.eq_iff_iff]; simp <;> omega) | (simp_all <;> omega))
end Go.Abs
end
section
set_option linter.unusedVariables false
set_option linter.unusedSimpArgs false
set_option maxRecDepth 8000
set_option maxHeartbeats 400000
open Go Go.Proofs
namespace Go.Abs
theorem w_seqN (P : Program) (c : Cfg) (Q : Exit → Env → AHeap → Prop) (e : Env) (H : AHeap) (a b : Code) : AWp P c (.seq a b) Q e H = AWp P c a (thenQ (AWp P c b Q) Q) e H := Eq.trans (w_seq P c Q e H a b) rfl
theorem aOps_env {P : Program} {md : Nat → Bool} {ops : Array Oper} {rest : List Oper} {e : Env} {H : AHeap} {K : Env → AHeap → Prop} (l : List (Nat × D)) (hl : ∀ p ∈ l, e p.1 = p.2) (h : ∀ e' : Env, (∀ p ∈ l, e' p.1 = p.2) → aOps P md ops rest e' H K) : aOps P md ops rest e H K := h e hl
theorem law41_FindG (t : Types) (rs : List Rule) (S : List Stage) (R : List Int) (E X : Int) (b k : Bool) (hL : Pure Tryz.prog 10 [t.d, .list (rs.map Rule.c)] (.bool b))
    (c1 : b = true → Pure Tryz.prog 23 [t.d, .list (rs.map Rule.c)] (.tup [.list (S.map Stage.c), dI E]))
    (c2 : b = true → Pure Tryz.prog 24 [t.d, .list (rs.map Rule.c)] (.tup [.list (S.map Stage.c), dI E]))
    (c3 : b = true → Pure Tryz.prog 25 [t.d, .list (rs.map Rule.c)] (.tup [dLI R, dI X]))
    (c4 : b = true → Pure Tryz.prog 26 [t.d, .list (rs.map Rule.c)] (.tup [dLI R, dI X]))
    (c5 : b = true → Pure Tryz.prog 13 [t.d, .list (rs.map Rule.c), .list (S.map Stage.c)] (.bool k))
    (c6 : Pure Tryz.prog 27 [.list (S.map Stage.c), .list (S.map Stage.c)] (.bool true))
    (c7 : Pure Tryz.prog 20 [dLI R, dLI R] (.bool true))
    (hk : b = true → E = 0 → k = true ∧ R = []) : Pure Tryz.prog 6 [t.d, .list (rs.map Rule.c)] (.bool true) := by
  refine pureK (by first | rfl | (simp [go_sem]; done)) (fun Q hQ => (acalls_of_body (cfg := ⟨fun _ => false, fun _ => []⟩) Tz.mixed Tryz.func6 rfl rfl (Nat.le_of_ble_eq_true rfl) (by kernel_rfl) ?_))
  try simp [go_sem, seval, w_seqN]
  repeat (first | intro _ | (refine ⟨obl, ?_⟩))
  refine callQ_pure0 (law41_awake) ((by first | rfl | (simp [go_sem, ← List.map_take, ← List.map_drop, w_seqN]; done))) ?_
  try simp [go_sem, seval, w_seqN]
  repeat (first | intro _ | (refine ⟨obl, ?_⟩))
  refine gcallQ_pure0 (fun hg => hL) (fun hg => (by first | rfl | (simp [go_sem, ← List.map_take, ← List.map_drop, w_seqN]; done))) ?_
  try simp [go_sem, seval, w_seqN]
  repeat (first | intro _ | (refine ⟨obl, ?_⟩))
  refine condQ_mk (fun h1 => ?_) (fun h1 => ?_)
  · try simp [go_sem] at h1
    try simp [go_sem, seval, w_seqN]
    refine callQ_pure0 (law41_awake) ((by first | rfl | (simp [go_sem, ← List.map_take, ← List.map_drop, w_seqN]; done))) ?_
    try simp [go_sem, seval, w_seqN]
    exact hQ _ _ (by simp [go_sem, w_seqN, h1] <;> first | omega | (rw [Bool.eq_iff_iff]; simp <;> omega) | (simp_all <;> omega))
  · try simp [go_sem] at h1
    have hb : b = true := h1
    have hk := hk hb
    try simp [go_sem, seval, w_seqN]
    refine callQ_pure0 (c1 hb) ((by first | rfl | (simp [go_sem, ← List.map_take, ← List.map_drop, w_seqN]; done))) ?_
    try simp [go_sem, seval, w_seqN]
    refine callQ_pure0 (c2 hb) ((by first | rfl | (simp [go_sem, ← List.map_take, ← List.map_drop, w_seqN]; done))) ?_
    try simp [go_sem, seval, w_seqN]
    refine callQ_pure0 (c3 hb) ((by first | rfl | (simp [go_sem, ← List.map_take, ← List.map_drop, w_seqN]; done))) ?_
    try simp [go_sem, seval, w_seqN]
    refine callQ_pure0 (c4 hb) ((by first | rfl | (simp [go_sem, ← List.map_take, ← List.map_drop, w_seqN]; done))) ?_
    try simp [go_sem, seval, w_seqN]
    repeat (first | intro _ | (refine ⟨obl, ?_⟩))
    refine gcallQ_pure0 (fun hg => c6) (fun hg => (by first | rfl | (simp [go_sem, ← List.map_take, ← List.map_drop, w_seqN]; done))) ?_
    try simp [go_sem, seval, w_seqN]
    repeat (first | intro _ | (refine ⟨obl, ?_⟩))
    refine gcallQ_pure0 (fun hg => c7) (fun hg => (by first | rfl | (simp [go_sem]; done))) ?_
    refine aOps_env [(59, .bool true), (62, .opt true (.bool true)), (6, dI E), (2, .adr t.c), (1, .list (rs.map Rule.c)), (5, .list (S.map Stage.c)), (9, dLI R)] (by simp [go_sem]) (fun e' he => ?_)
    simp only [List.forall_mem_cons, List.not_mem_nil, false_implies, implies_true, and_true] at he
    try simp [go_sem, seval, w_seqN, he]
    repeat (first | intro _ | (refine ⟨obl, ?_⟩))
    refine gcallQ_pure0 (fun hg => c5 hb) (fun hg => (by first | rfl | (simp [go_sem, ← List.map_take, ← List.map_drop, w_seqN, he]; done))) ?_
    try simp [go_sem, seval, w_seqN, he]
    repeat (first | intro _ | (refine ⟨obl, ?_⟩))
    have hfin : (!decide (E = 0) || k && ((R.length : Int) == 0)) = true := by
      by_cases hE : E = 0
      · obtain ⟨hk1, hR⟩ := hk hE
        rw [hR, hk1]; simp
      · simp [hE]
    rw [hfin]
    exact hQ _ _ (by simp [go_sem])
theorem law41_CountingFind (t : Types) (h1 : ∀ n ∈ t.nodes, n.attrs.length ≤ 1000000000000000) (rs : List Rule) (hr0 : ∀ r ∈ rs, r.le) : Pure Tryz.prog 6 [t.d, .list (rs.map Rule.c)] (.bool true) := by
  have hh : lightB t rs = true → t.ok ∧ ∀ r ∈ rs, r.ok := fun hL => ⟨fewT_ok (light_few hL).1, (fewRs_ok (light_few hL).2).2⟩
  refine law41_FindG t rs (stV t rs) (rstV t rs) (findE t rs) (effsE t rs) (lightB t rs) (chkF t rs (stV t rs)) (ref41_Light t h1 rs hr0) (fun h => counting_Find t (hh h).1 rs (hh h).2) (fun h => ref41_Find t (hh h).1 rs (hh h).2)
    (fun h => counting_Rest t (hh h).1 rs (hh h).2) (fun h => ref41_Rest t (hh h).1 rs (hh h).2) (fun h => counting_Check t (hh h).1 rs (hh h).2 (stV t rs)) ?_ ?_ (fun h hF => ?_)
  · have := ref41_SameStages (stV t rs) (stV t rs)
    rwa [decide_eq_true (rfl : stV t rs = stV t rs)] at this
  · have := equal_int (rstV t rs) (rstV t rs)
    rwa [decide_eq_true (rfl : rstV t rs = rstV t rs)] at this
  · have hX : effsE t rs = 0 ∧ rstV t rs = [] := by
      unfold findE at hF; split at hF
      · cases hF
      · rename_i hn; exact ⟨hF, Decidable.byContradiction fun h => hn ⟨hF, h⟩⟩
    exact ⟨chkF_stV hX.1 hX.2, hX.2⟩
end Go.Abs
end
section
set_option linter.unusedVariables false
namespace Go.Abs
open Go.ChangeShapes Go.WideShapes Go.RowKit
structure Bulk {H : Type} (bulk : DataW H → Nat) : Prop where
  len : ∀ e s, e.length ≤ bulk (.slice e s)
  el : ∀ e s, ∀ d ∈ e, bulk d ≤ bulk (.slice e s)
  part : ∀ l, ∀ d ∈ l, bulk d ≤ bulk (.agg l)
  str : ∀ s : List UInt8, s.length ≤ bulk (.lit (.string s))
abbrev noM : Nat → Prop := fun _ => False
section
variable {H : Type} {enc : TypeId × Value → H} {P : Program} {w : World} {base : Nat} {spare : Nat → Bool} {held : Bool} {bulk : DataW H → Nat} {B : Nat}
def Opens (enc : TypeId × Value → H) (P : Program) (w : World) (base : Nat) (spare : Nat → Bool) (held : Bool) (bulk : DataW H → Nat) (B : Nat) (n : Nat) (t : TypeId) {α : Type} (C : α → List D) (G : α → Prop) : Prop :=
  ∀ (fuel : Nat) (cs : List Value) (x : DataW H × List MemPlace), fuel ≤ n → DataW.trod enc P w base spare held fuel t cs = some x → bulk x.1 ≤ B →
    ∃ a, G a ∧ RepL noM noRef noId w cs (C a) ∧ ∀ u ∈ cs, u.oneCell' = true
variable {n : Nat} {t : TypeId}
theorem Opens.mono {α : Type} {C : α → List D} {G : α → Prop} {m : Nat} (h : Opens enc P w base spare held bulk B n t C G) (hm : m ≤ n) : Opens enc P w base spare held bulk B m t C G :=
  fun fuel cs x hf hx hb => h fuel cs x (Nat.le_trans hf hm) hx hb
theorem Opens.zero {α : Type} {C : α → List D} {G : α → Prop} : Opens enc P w base spare held bulk B 0 t C G := fun fuel cs x hf hx _ => by
  have : fuel = 0 := by omega
  subst this
  simp [DataW.trod] at hx
theorem Opens.map {α β : Type} {C : α → List D} {G : α → Prop} {C' : β → List D} {G' : β → Prop} (h : Opens enc P w base spare held bulk B n t C G) (f : α → β) (hC : ∀ a, C a = C' (f a)) (hG : ∀ a, G a → G' (f a)) : Opens enc P w base spare held bulk B n t C' G' :=
  fun fuel cs x hf hx hb => by
    obtain ⟨a, h1, h2, h3⟩ := h fuel cs x hf hx hb
    exact ⟨f a, hG a h1, by rw [← hC]; exact h2, h3⟩
theorem repL_one {v : Value} {d : D} (h : RepV noM noRef noId w v d) : RepL noM noRef noId w [v] [d] :=
  ⟨rfl, fun j u x hu hx => by
    cases j with
    | zero => simp at hu hx; subst hu; subst hx; exact h
    | succ j => simp at hu⟩
theorem repL_app {a b : List Value} {c d : List D} (h : RepL noM noRef noId w a c) (k : RepL noM noRef noId w b d) : RepL noM noRef noId w (a ++ b) (c ++ d) := by
  refine ⟨by simp [h.len, k.len], fun j u x hu hx => ?_⟩
  by_cases hj : j < a.length
  · rw [List.getElem?_append_left hj] at hu
    rw [List.getElem?_append_left (by rw [← h.len]; exact hj)] at hx
    exact h.rep j u x hu hx
  · rw [List.getElem?_append_right (by omega)] at hu
    rw [List.getElem?_append_right (by rw [← h.len]; omega), ← h.len] at hx
    exact k.rep _ u x hu hx
theorem opens_bool (ht : P.underlying t = some .bool) : Opens enc P w base spare held bulk B n t (fun b : Bool => [D.bool b]) (fun _ => True) := fun fuel cs x _ hx _ => by
  obtain ⟨b, rfl, _⟩ := DataW.trod_bool ht hx
  exact ⟨b, trivial, repL_one (.bool b), by simp [Value.oneCell']⟩
theorem opens_int {k : IntKind} (ht : P.underlying t = some (.int k)) : Opens enc P w base spare held bulk B n t (fun z : Int => [D.int k z]) (fun z => (Lit.int k z).wf = true) := fun fuel cs x _ hx _ => by
  obtain ⟨z, rfl, _, hw⟩ := DataW.trod_int ht hx
  exact ⟨z, hw, repL_one (.int k z), by simp [Value.oneCell']⟩
theorem opens_string (hB : Bulk bulk) (ht : P.underlying t = some .string) : Opens enc P w base spare held bulk B n t (fun s : ByteArray => [D.str s]) (fun s => s.size ≤ B) := fun fuel cs x _ hx hb => by
  obtain ⟨s, rfl, rfl, hs⟩ := DataW.trod_string ht hx
  refine ⟨s, ?_, repL_one (.str s), by simp [Value.oneCell']⟩
  have := hB.str s.data.toList
  have hl : s.data.toList.length = s.size := by rw [Array.length_toList]; rfl
  simp only at hb
  omega
theorem rows {α : Type} {C : α → List D} {G : α → Prop} {ad : Addr} {sz : Nat} : ∀ (len : Nat),
    (∀ i, i < len → ∃ c a, w.cells? base (ad.add (i * sz)) sz = some c ∧ G a ∧ RepL noM noRef noId w c (C a) ∧ ∀ u ∈ c, u.oneCell' = true) →
    ∃ (l : List α) (xs : List Value), l.length = len ∧ (∀ a ∈ l, G a) ∧ RepL noM noRef noId w xs (l.map C).flatten ∧ (∀ u ∈ xs, u.oneCell' = true) ∧ xs.length = len * sz ∧
      (∀ (j : Nat) (u : Value), xs[j]? = some u → w.cell? (ad.add j) = some u) ∧ ∀ c ∈ l.map C, c.length = sz
  | 0, _ => ⟨[], [], rfl, by simp, ⟨rfl, fun j u d hu => by simp at hu⟩, by simp, by simp, by simp, by simp⟩
  | len + 1, h => by
    obtain ⟨l, xs, h1, h2, h3, h4, h5, h6, h7⟩ := rows len fun i hi => h i (by omega)
    obtain ⟨c, a, hc, hg, hr, h1c⟩ := h len (by omega)
    obtain ⟨_, hcl, hcell⟩ := World.cells?_some hc
    refine ⟨l ++ [a], xs ++ c, by simp [h1], fun b hb => ?_, ?_, fun u hu => ?_, by rw [List.length_append, h5, hcl, Nat.succ_mul], fun j u hu => ?_, fun b hb => ?_⟩
    · rcases List.mem_append.1 hb with h | h
      · exact h2 b h
      · simp at h; subst h; exact hg
    · rw [List.map_append, List.flatten_append]
      refine repL_app h3 ?_
      simpa using hr
    · rcases List.mem_append.1 hu with h | h
      · exact h4 u h
      · exact h1c u h
    · by_cases hj : j < xs.length
      · rw [List.getElem?_append_left hj] at hu; exact h6 j u hu
      · rw [List.getElem?_append_right (by omega)] at hu
        have hlt : j - xs.length < sz := by rw [← hcl]; exact (List.getElem?_eq_some_iff.1 hu).1
        have := hcell (j - xs.length) hlt
        rw [Addr.add_add, hu] at this
        rwa [show len * sz + (j - xs.length) = j by omega] at this
    · rw [List.map_append] at hb
      rcases List.mem_append.1 hb with h | h
      · exact h7 b h
      · simp at h; subst h; rw [← hr.len, hcl]
theorem opens_slice (hB : Bulk bulk) {e : TypeId} (ht : P.underlying t = some (.slice e)) {α : Type} {C : α → List D} {G : α → Prop} (h : Opens enc P w base spare held bulk B n e C G) :
    Opens enc P w base spare held bulk B (n + 1) t (fun l : List α => [.list (l.map C)]) (fun l => l.length ≤ B ∧ ∀ a ∈ l, G a) := fun fuel cs x hf hx hb => by
  rcases DataW.trod_slice ht hx with ⟨rfl, rfl⟩ | ⟨ad, len, cap, elems, rest, m, rfl, rfl, rfl, hbase, hlc, hcap, hlen, hel, _, _⟩
  · exact ⟨[], ⟨Nat.zero_le _, by simp⟩, repL_one .listN, by simp [Value.oneCell']⟩
  · simp only at hb
    have hb1 := hB.len (elems.map (·.1)) (rest.map (·.1))
    rw [List.length_map] at hb1
    obtain ⟨l, xs, h1, h2, h3, h4, h5, h6, h7⟩ := rows (w := w) (base := base) (C := C) (G := G) (ad := ad) (sz := P.cellsOf e) len fun i hi => by
      have := hel i hi
      rw [List.getElem?_eq_getElem (by omega), Option.bind_eq_some_iff] at this
      obtain ⟨c, hc, hd⟩ := this
      obtain ⟨a, g1, g2, g3⟩ := h m c _ (by omega) hd (Nat.le_trans (hB.el _ (rest.map (·.1)) _ (List.mem_map.2 ⟨_, List.getElem_mem (by omega), rfl⟩)) hb)
      exact ⟨c, a, hc, g1, g2, g3⟩
    refine ⟨l, ⟨by omega, h2⟩, repL_one ?_, by simp [Value.oneCell']⟩
    have key := RepV.list (M := noM) (σ := noRef) (N := noId) (w := w) ad cap (P.cellsOf e) xs (l.map C) (by rw [List.length_map]; omega) hcap h7 h3.len h4 (fun j u hu => ⟨fun h => h, h6 j u hu⟩) h3.rep
    rw [List.length_map, h1] at key
    exact key
def Segs (enc : TypeId × Value → H) (P : Program) (w : World) (base : Nat) (spare : Nat → Bool) (held : Bool) (bulk : DataW H → Nat) (B n : Nat) : List TypeId → List Value → Prop
  | [], cs => cs = []
  | t :: ts, cs => (∃ y, DataW.trod enc P w base spare held n t (cs.take (P.cellsOf t)) = some y ∧ bulk y.1 ≤ B) ∧ Segs enc P w base spare held bulk B n ts (cs.drop (P.cellsOf t))
def OpensL (enc : TypeId × Value → H) (P : Program) (w : World) (base : Nat) (spare : Nat → Bool) (held : Bool) (bulk : DataW H → Nat) (B : Nat) (n : Nat) (ts : List TypeId) {α : Type} (C : α → List D) (G : α → Prop) : Prop :=
  ∀ (fuel : Nat) (cs : List Value), fuel ≤ n → Segs enc P w base spare held bulk B fuel ts cs → ∃ a, G a ∧ RepL noM noRef noId w cs (C a) ∧ ∀ u ∈ cs, u.oneCell' = true
theorem opensL_nil : OpensL enc P w base spare held bulk B n [] (fun _ : Unit => []) (fun _ => True) := fun fuel cs _ h => by
  have h : cs = [] := h
  subst h
  exact ⟨(), trivial, ⟨rfl, fun j u d hu => by simp at hu⟩, by simp⟩
theorem opensL_cons {ts : List TypeId} {α β : Type} {C : α → List D} {G : α → Prop} {C' : β → List D} {G' : β → Prop} (h : Opens enc P w base spare held bulk B n t C G) (k : OpensL enc P w base spare held bulk B n ts C' G') :
    OpensL enc P w base spare held bulk B n (t :: ts) (fun p : α × β => C p.1 ++ C' p.2) (fun p => G p.1 ∧ G' p.2) := fun fuel cs hf hs => by
  obtain ⟨⟨y, hy, hyb⟩, hs⟩ := hs
  obtain ⟨a, a1, a2, a3⟩ := h fuel _ y hf hy hyb
  obtain ⟨b, b1, b2, b3⟩ := k fuel _ hf hs
  refine ⟨(a, b), ⟨a1, b1⟩, ?_, fun u hu => ?_⟩
  · have := repL_app a2 b2
    rwa [List.take_append_drop] at this
  · rw [← List.take_append_drop (P.cellsOf t) cs] at hu
    rcases List.mem_append.1 hu with h | h
    · exact a3 u h
    · exact b3 u h
def offs (P : Program) : Nat → List Field → Option Nat
  | o, [] => some o
  | o, f :: r => if f.offset = o then offs P (o + P.cellsOf f.type) r else none
theorem segs_of {fuel : Nat} {cs : List Value} : ∀ (fs : List Field) (o : Nat), offs P o fs = some cs.length →
    (∀ f ∈ fs, ∃ y, DataW.trod enc P w base spare held fuel f.type ((cs.drop f.offset).take (P.cellsOf f.type)) = some y ∧ bulk y.1 ≤ B) → o ≤ cs.length ∧ Segs enc P w base spare held bulk B fuel (fs.map (·.type)) (cs.drop o)
  | [], o, ho, _ => by
    simp only [offs, Option.some.injEq] at ho
    subst ho
    exact ⟨Nat.le_refl _, by show cs.drop cs.length = []; simp⟩
  | f :: fs, o, ho, h => by
    unfold offs at ho
    split at ho
    · rename_i hof
      subst hof
      obtain ⟨h1, h2⟩ := segs_of fs _ ho fun g hg => h g (by simp [hg])
      refine ⟨by omega, ?_⟩
      refine ⟨h f (by simp), ?_⟩
      rw [List.drop_drop]
      exact h2
    · cases ho
theorem opens_struct (hB : Bulk bulk) {fs : Array Field} (ht : P.underlying t = some (.struct fs)) (ho : offs P 0 fs.toList = some (P.cellsOf t)) {α : Type} {C : α → List D} {G : α → Prop} (h : OpensL enc P w base spare held bulk B n (fs.toList.map (·.type)) C G) :
    Opens enc P w base spare held bulk B (n + 1) t C G := fun fuel cs x hf hx hb => by
  obtain ⟨xs, m, rfl, rfl, hcl, hxl, hfl⟩ := DataW.trod_struct ht hx
  simp only at hb
  have hs := (segs_of (enc := enc) (P := P) (w := w) (base := base) (spare := spare) (held := held) (bulk := bulk) (B := B) (fuel := m) (cs := cs) fs.toList 0 (by rw [hcl]; exact ho) fun f hfm => by
    obtain ⟨i, hi, rfl⟩ := List.getElem_of_mem hfm
    have hi' : i < fs.size := by simpa using hi
    have hfi := hfl i (fs.toList[i]) (by simp [hi'])
    rw [List.getElem?_eq_getElem (by omega)] at hfi
    exact ⟨_, hfi, Nat.le_trans (hB.part _ _ (List.mem_map.2 ⟨_, List.getElem_mem (by omega), rfl⟩)) hb⟩).2
  rw [List.drop_zero] at hs
  exact h m cs (by omega) hs
theorem arg_struct {r : Reach} {b0 : Nat} {fs : Array Field} {v : Value} {d : DataW H} {ps : List MemPlace} {α : Type} {C : α → List D} {G : α → Prop} (ht : P.underlying t = some (.struct fs)) (h : ∀ n, Opens enc P w base spare held bulk B n t C G)
    (hval : Value.okWide P w r b0 t v) (hd : DataW.Trod enc P w base spare held t v d ps) (hb : bulk d ≤ B) : ∃ a, G a ∧ RepV noM noRef noId w v (.agg (C a)) := by
  obtain ⟨cs, rfl, _⟩ := okWide_struct ht hval
  obtain ⟨fuel, hf⟩ := hd
  obtain ⟨a, h1, h2, h3⟩ := h fuel fuel _ _ (Nat.le_refl _) hf hb
  have hc : (Value.agg cs).cells.toList = cs.toList := rfl
  rw [hc] at h2 h3
  have := RepV.agg (M := noM) (σ := noRef) (N := noId) (w := w) cs.toList (C a) h2.len h3 h2.rep
  exact ⟨a, h1, by simpa using this⟩
theorem arg_slice {r : Reach} {b0 : Nat} {e : TypeId} {v : Value} {d : DataW H} {ps : List MemPlace} {α : Type} {c : α → D} {G : α → Prop} (ht : P.underlying t = some (.slice e)) (h : ∀ n, Opens enc P w base spare held bulk B n t (fun a => [c a]) G)
    (hval : Value.okWide P w r b0 t v) (hd : DataW.Trod enc P w base spare held t v d ps) (hb : bulk d ≤ B) : ∃ a, G a ∧ RepV noM noRef noId w v (c a) := by
  obtain ⟨a0, len, cap, rfl⟩ := okWide_slice ht hval
  obtain ⟨fuel, hf⟩ := hd
  obtain ⟨a, h1, h2, h3⟩ := h fuel fuel _ _ (Nat.le_refl _) hf hb
  exact ⟨a, h1, h2.rep 0 _ _ rfl rfl⟩
theorem trodAll_stays (hl : laidOutB P = true) {W W' : World} {sp' : Nat → Bool} (hb : Below W.heap.size W W') : ∀ {ts : List TypeId} {vs : List Value} {ds : List (DataW H)} {ps : List MemPlace}, (∀ t ∈ ts, P.readableRec t = true ∧ t < P.types.size) →
    DataW.TrodAll enc P W 0 (fun _ => true) true ts vs ds ps → (∀ x ∈ ps, x.block < W.heap.size) → (∀ x ∈ ps, sp' x.block = true) → DataW.TrodAll enc P W' 0 sp' true ts vs ds ps
  | [], _, _, _, _, h, _, _ => by
    obtain ⟨rfl, rfl, rfl⟩ := trodAll_nil h
    rfl
  | t :: ts, _, _, _, hr, h, hlt, hs => by
    obtain ⟨v, vs, d, ds, p, q, rfl, rfl, rfl, h1, h2⟩ := trodAll_cons h
    refine ⟨p, q, WideElems.Trod_stays hl (hr t (by simp)).1 (hr t (by simp)).2 h1 (fun x hx => hb.same (hlt x (by simp [hx]))) (fun x hx => hs x (by simp [hx])), trodAll_stays hl hb (fun u hu => hr u (by simp [hu])) h2 (fun x hx => hlt x (by simp [hx])) (fun x hx => hs x (by simp [hx])), rfl⟩
theorem post_of_below (hl : laidOutB P = true) {f : Func} {s : ChangeSpec} {apart fresh handsOn again : Bool} {W W' : World} {args : Array Value} {v : Value} {ds gs : List (DataW H)} {before : List MemPlace}
    (hr : ∀ t ∈ f.params.toList, P.readableRec t = true ∧ t < P.types.size) (hvars : s.vars = []) (hW : DataW.Whole enc P f.params.toList s.vars apart W args.toList ds gs before)
    (hres : ∀ (b : Nat) (sp : Nat → Bool) (hd : Bool), DataW.TrodAll enc P W' b sp hd f.resultTypes.toList (v.resultList f.resultTypes.size) (s.fn H (ds ++ gs)).results [])
    (hargs : (s.fn H (ds ++ gs)).args = ds) (hvs : (s.fn H (ds ++ gs)).vars = []) (hb : Below W.heap.size W W')
    (hok : ∀ (j : Nat) (t : TypeId) (r : Value), f.resultTypes[j]? = some t → (v.resultList f.resultTypes.size)[j]? = some r → Value.okWide P W' .any 0 t r) :
    s.post enc P f apart fresh handsOn again W args v W' := by
  have hW' := hW
  obtain ⟨p, q, hA, hV, rfl, hz, hn⟩ := hW
  rw [hvars] at hV
  obtain ⟨rfl, rfl⟩ := trodVars_none hV
  rw [List.append_nil] at hW' hz hn
  have hlt : ∀ x ∈ p, x.block < W.heap.size := fun x hx => by simpa using hW'.lt x hx
  have hTr : ∀ sp : Nat → Bool, (∀ x ∈ p, sp x.block = true) → DataW.TrodAll enc P W' 0 sp true f.params.toList args.toList (s.fn H (ds ++ [])).args p := fun sp hs => by
    rw [hargs]; exact trodAll_stays hl hb hr hA hlt hs
  have hVr : ∀ sp : Nat → Bool, DataW.TrodVars enc P W' sp s.vars (s.fn H (ds ++ [])).vars [] := fun sp => by rw [hvars, hvs]; rfl
  refine ⟨ds, [], p, [], p, [], hW', hres _ _ _, hTr _ (fun x hx => by simpa using hlt x hx), hVr _, World.keptBut_mono (fun x hx => ⟨hx, .inr (by simpa using hx)⟩) (hb.frame (· ∈ p)), fun _ => ?_⟩
  refine ⟨hok, _, _, ([] ++ p) ++ [], ⟨[] ++ p, [], trodAll_append (hTr _ (fun _ _ => rfl)) (hres _ _ _), hVr _, rfl, ?_, ?_⟩, ?_⟩
  · intro b off hp
    have hp' : MemPlace.cell b off ∈ p := by simpa using hp
    have := hz b off hp'
    rw [← this]
    exact hb.frozen (hlt _ hp')
  · intro ha
    simpa using hn ha
  · intro x hx _
    simpa using hx
end
end Go.Abs
end
section
set_option linter.unusedVariables false
namespace Go.Proofs.YtjhccdolbhjmaaaGreat.bulks
theorem one_le {H : Type} (d : DataW H) : 1 ≤ Rows.uptoBulk d := by
  cases d with
  | lit l => cases l <;> simp [Rows.uptoBulk]
  | _ => simp [Rows.uptoBulk]
theorem mem_le {H : Type} {d : DataW H} : ∀ {l : List (DataW H)}, d ∈ l → Rows.uptoBulk d ≤ Rows.uptoBulkAll l
  | [], h => by cases h
  | x :: r, h => by
    simp only [Rows.uptoBulkAll]
    rcases List.mem_cons.1 h with rfl | h
    · omega
    · have := mem_le h; omega
theorem len_le {H : Type} : ∀ l : List (DataW H), l.length ≤ Rows.uptoBulkAll l
  | [] => by simp [Rows.uptoBulkAll]
  | x :: r => by have := one_le x; have := len_le r; simp only [Rows.uptoBulkAll, List.length_cons]; omega
theorem ok {H : Type} : Go.Abs.Bulk (Rows.uptoBulk (H := H)) where
  len e s := by have := len_le e; simp only [Rows.uptoBulk]; omega
  el e s d h := by have := mem_le h; simp only [Rows.uptoBulk]; omega
  part l d h := by have := mem_le h; simp only [Rows.uptoBulk]; omega
  str s := by simp [Rows.uptoBulk]
theorem bound {H : Type} {l : List (DataW H)} (hk : Rows.uptoSmall H l = true) : ∀ d ∈ l, Rows.uptoBulk d ≤ 1048576 := fun d hd => by
  have h := of_decide_eq_true hk
  have := mem_le hd
  omega
end Go.Proofs.YtjhccdolbhjmaaaGreat.bulks
end
section
set_option linter.unusedVariables false
set_option linter.unusedSimpArgs false
open Go Go.Proofs
namespace Go.Abs
mutual
def Cond.bnd (B : Nat) : Cond → Prop
  | .mk k l m p => (m.nodes.length ≤ B ∧ m.edges.length ≤ B) ∧ Cond.bnds B l
def Cond.bnds (B : Nat) : List Cond → Prop
  | [] => True
  | c :: l => c.bnd B ∧ Cond.bnds B l
end
theorem Cond.bnds_iff (B : Nat) (l : List Cond) : Cond.bnds B l ↔ ∀ c ∈ l, c.bnd B := by
  induction l with
  | nil => simp [Cond.bnds]
  | cons a l ih => simp [Cond.bnds, ih]
theorem Cond.bnd_iff (B : Nat) (c : Cond) : c.bnd B ↔ (c.map.nodes.length ≤ B ∧ c.map.edges.length ≤ B) ∧ ∀ k ∈ c.kids, k.bnd B := by cases c; simp [Cond.bnd, Cond.bnds_iff, Cond.kids, Cond.map]
theorem Cond.bnd_le {B : Nat} (hB : B ≤ 1000000000000000) : ∀ c : Cond, c.bnd B → c.le := by
  refine Cond.ind fun c ih h => ?_
  obtain ⟨h1, h2⟩ := (Cond.bnd_iff B c).1 h
  exact (Cond.le_iff c).2 ⟨⟨by omega, by omega⟩, fun k hk => ih k hk (h2 k hk)⟩
def Rule.bnd (B : Nat) (x : Rule) : Prop := (x.keep.nodes.length ≤ B ∧ x.keep.edges.length ≤ B) ∧ (x.into.nodes.length ≤ B ∧ x.into.edges.length ≤ B) ∧ x.cond.bnd B
theorem Rule.bnd_le {B : Nat} (hB : B ≤ 1000000000000000) {r : Rule} (h : r.bnd B) : r.le := by
  obtain ⟨⟨h1, h2⟩, ⟨h3, h4⟩, h5⟩ := h
  exact ⟨⟨by omega, by omega⟩, ⟨by omega, by omega⟩, Cond.bnd_le hB _ h5⟩
section
variable {H : Type} {enc : TypeId × Value → H} {w : World} {base : Nat} {spare : Nat → Bool} {held : Bool} {bulk : DataW H → Nat} {B : Nat}
theorem op9 (hB : Bulk bulk) : ∀ n, Opens enc Tryz.prog w base spare held bulk B n 9 cS (fun _ => True) := fun n => (opens_string hB Tryz.underlying9).map id (fun _ => rfl) (fun _ _ => trivial)
theorem op3 : ∀ n, Opens enc Tryz.prog w base spare held bulk B n 3 cI (fun _ => True) := fun n => (opens_int Tryz.underlying3).map id (fun _ => rfl) (fun _ _ => trivial)
theorem op4 : ∀ n, Opens enc Tryz.prog w base spare held bulk B n 4 (fun b : Bool => [D.bool b]) (fun _ => True) := fun n => opens_bool Tryz.underlying4
theorem op99 (hB : Bulk bulk) : ∀ n, Opens enc Tryz.prog w base spare held bulk B n 99 (fun l : List ByteArray => [D.list (l.map cS)]) (fun l => l.length ≤ B ∧ ∀ a ∈ l, (fun _ => True) a)
  | 0 => Opens.zero
  | n + 1 => opens_slice hB Tryz.underlying99 (op9 hB n)
theorem op101 (hB : Bulk bulk) : ∀ n, Opens enc Tryz.prog w base spare held bulk B n 101 Attr.c (fun _ => True)
  | 0 => Opens.zero
  | n + 1 => (opens_struct hB Tryz.underlying101 (by kernel_rfl) (opensL_cons (op9 hB n) (opensL_cons (op3 n) (opensL_cons (op3 n) (opensL_cons (op99 hB n) opensL_nil))))).map (fun p => ⟨p.1, p.2.1, p.2.2.1, p.2.2.2.1⟩) (fun p => rfl) (fun p h => trivial)
theorem op96 (hB : Bulk bulk) : ∀ n, Opens enc Tryz.prog w base spare held bulk B n 96 (fun l : List Attr => [D.list (l.map Attr.c)]) (fun l => l.length ≤ B ∧ ∀ a ∈ l, (fun _ => True) a)
  | 0 => Opens.zero
  | n + 1 => opens_slice hB Tryz.underlying96 (op101 hB n)
theorem op98 (hB : Bulk bulk) : ∀ n, Opens enc Tryz.prog w base spare held bulk B n 98 NodeTy.c (fun x => x.attrs.length ≤ B)
  | 0 => Opens.zero
  | n + 1 => (opens_struct hB Tryz.underlying98 (by kernel_rfl) (opensL_cons (op9 hB n) (opensL_cons (op3 n) (opensL_cons (op4 n) (opensL_cons (op96 hB n) opensL_nil))))).map (fun p => ⟨p.1, p.2.1, p.2.2.1, p.2.2.2.1⟩) (fun p => rfl) (fun p h => h.2.2.2.1.1)
theorem op22 (hB : Bulk bulk) : ∀ n, Opens enc Tryz.prog w base spare held bulk B n 22 (fun l : List NodeTy => [D.list (l.map NodeTy.c)]) (fun l => l.length ≤ B ∧ ∀ a ∈ l, (fun x => x.attrs.length ≤ B) a)
  | 0 => Opens.zero
  | n + 1 => opens_slice hB Tryz.underlying22 (op98 hB n)
theorem op103 (hB : Bulk bulk) : ∀ n, Opens enc Tryz.prog w base spare held bulk B n 103 EdgeTy.c (fun _ => True)
  | 0 => Opens.zero
  | n + 1 => (opens_struct hB Tryz.underlying103 (by kernel_rfl) (opensL_cons (op9 hB n) (opensL_cons (op3 n) (opensL_cons (op3 n) (opensL_cons (op3 n) (opensL_cons (op3 n) (opensL_cons (op3 n) (opensL_cons (op3 n) opensL_nil)))))))).map (fun p => ⟨p.1, p.2.1, p.2.2.1, p.2.2.2.1, p.2.2.2.2.1, p.2.2.2.2.2.1, p.2.2.2.2.2.2.1⟩) (fun p => rfl) (fun p h => trivial)
theorem op23 (hB : Bulk bulk) : ∀ n, Opens enc Tryz.prog w base spare held bulk B n 23 (fun l : List EdgeTy => [D.list (l.map EdgeTy.c)]) (fun l => l.length ≤ B ∧ ∀ a ∈ l, (fun _ => True) a)
  | 0 => Opens.zero
  | n + 1 => opens_slice hB Tryz.underlying23 (op103 hB n)
theorem op25 (hB : Bulk bulk) : ∀ n, Opens enc Tryz.prog w base spare held bulk B n 25 Types.c (fun x => x.nodes.length ≤ B ∧ x.edges.length ≤ B ∧ ∀ n ∈ x.nodes, n.attrs.length ≤ B)
  | 0 => Opens.zero
  | n + 1 => (opens_struct hB Tryz.underlying25 (by kernel_rfl) (opensL_cons (op22 hB n) (opensL_cons (op23 hB n) opensL_nil))).map (fun p => ⟨p.1, p.2.1⟩) (fun p => rfl) (fun p h => ⟨h.1.1, h.2.1.1, h.1.2⟩)
theorem op31 (hB : Bulk bulk) : ∀ n, Opens enc Tryz.prog w base spare held bulk B n 31 (fun l : List Int => [D.list (l.map cI)]) (fun l => l.length ≤ B ∧ ∀ a ∈ l, (fun _ => True) a)
  | 0 => Opens.zero
  | n + 1 => opens_slice hB Tryz.underlying31 (op3 n)
theorem op146 (hB : Bulk bulk) : ∀ n, Opens enc Tryz.prog w base spare held bulk B n 146 Edge.c (fun _ => True)
  | 0 => Opens.zero
  | n + 1 => (opens_struct hB Tryz.underlying146 (by kernel_rfl) (opensL_cons (op3 n) (opensL_cons (op3 n) (opensL_cons (op3 n) opensL_nil)))).map (fun p => ⟨p.1, p.2.1, p.2.2.1⟩) (fun p => rfl) (fun p h => trivial)
theorem op37 (hB : Bulk bulk) : ∀ n, Opens enc Tryz.prog w base spare held bulk B n 37 (fun l : List Edge => [D.list (l.map Edge.c)]) (fun l => l.length ≤ B ∧ ∀ a ∈ l, (fun _ => True) a)
  | 0 => Opens.zero
  | n + 1 => opens_slice hB Tryz.underlying37 (op146 hB n)
theorem op39 (hB : Bulk bulk) : ∀ n, Opens enc Tryz.prog w base spare held bulk B n 39 Graph.c (fun x => x.nodes.length ≤ B ∧ x.edges.length ≤ B)
  | 0 => Opens.zero
  | n + 1 => (opens_struct hB Tryz.underlying39 (by kernel_rfl) (opensL_cons (op31 hB n) (opensL_cons (op37 hB n) opensL_nil))).map (fun p => ⟨p.1, p.2.1⟩) (fun p => rfl) (fun p h => ⟨h.1.1, h.2.1.1⟩)
theorem op243 (hB : Bulk bulk) : ∀ n, Opens enc Tryz.prog w base spare held bulk B n 243 Term.c (fun _ => True)
  | 0 => Opens.zero
  | n + 1 => (opens_struct hB Tryz.underlying243 (by kernel_rfl) (opensL_cons (op3 n) (opensL_cons (op3 n) opensL_nil))).map (fun p => ⟨p.1, p.2.1⟩) (fun p => rfl) (fun p h => trivial)
theorem op245 (hB : Bulk bulk) : ∀ n, Opens enc Tryz.prog w base spare held bulk B n 245 Slot.c (fun _ => True)
  | 0 => Opens.zero
  | n + 1 => (opens_struct hB Tryz.underlying245 (by kernel_rfl) (opensL_cons (op3 n) (opensL_cons (op3 n) (opensL_cons (op243 hB n) opensL_nil)))).map (fun p => ⟨p.1, p.2.1, p.2.2.1⟩) (fun p => by simp [Slot.c, Term.c, cI, dI]) (fun p h => trivial)
theorem op63 (hB : Bulk bulk) : ∀ n, Opens enc Tryz.prog w base spare held bulk B n 63 (fun l : List Slot => [D.list (l.map Slot.c)]) (fun l => l.length ≤ B ∧ ∀ a ∈ l, (fun _ => True) a)
  | 0 => Opens.zero
  | n + 1 => opens_slice hB Tryz.underlying63 (op245 hB n)
theorem op268 (hB : Bulk bulk) : ∀ n, Opens enc Tryz.prog w base spare held bulk B n 268 Test.c (fun _ => True)
  | 0 => Opens.zero
  | n + 1 => (opens_struct hB Tryz.underlying268 (by kernel_rfl) (opensL_cons (op3 n) (opensL_cons (op243 hB n) (opensL_cons (op243 hB n) opensL_nil)))).map (fun p => ⟨p.1, p.2.1, p.2.2.1⟩) (fun p => by simp [Test.c, Term.c, cI, dI]) (fun p h => trivial)
theorem op64 (hB : Bulk bulk) : ∀ n, Opens enc Tryz.prog w base spare held bulk B n 64 (fun l : List Test => [D.list (l.map Test.c)]) (fun l => l.length ≤ B ∧ ∀ a ∈ l, (fun _ => True) a)
  | 0 => Opens.zero
  | n + 1 => opens_slice hB Tryz.underlying64 (op268 hB n)
theorem op66 (hB : Bulk bulk) : ∀ n, Opens enc Tryz.prog w base spare held bulk B n 66 Pattern.c (fun _ => True)
  | 0 => Opens.zero
  | n + 1 => (opens_struct hB Tryz.underlying66 (by kernel_rfl) (opensL_cons (op39 hB n) (opensL_cons (op63 hB n) (opensL_cons (op3 n) (opensL_cons (op64 hB n) opensL_nil))))).map (fun p => ⟨p.1, p.2.1, p.2.2.1, p.2.2.2.1⟩) (fun p => by simp [Pattern.c, Graph.c, cI, dI]) (fun p h => trivial)
theorem op68 (hB : Bulk bulk) : ∀ n, Opens enc Tryz.prog w base spare held bulk B n 68 Part.c (fun x => x.nodes.length ≤ B ∧ x.edges.length ≤ B)
  | 0 => Opens.zero
  | n + 1 => (opens_struct hB Tryz.underlying68 (by kernel_rfl) (opensL_cons (op31 hB n) (opensL_cons (op31 hB n) opensL_nil))).map (fun p => ⟨p.1, p.2.1⟩) (fun p => rfl) (fun p h => ⟨h.1.1, h.2.1.1⟩)
theorem op69 (hB : Bulk bulk) : ∀ n, Opens enc Tryz.prog w base spare held bulk B n 69 Part.c (fun x => x.nodes.length ≤ B ∧ x.edges.length ≤ B)
  | 0 => Opens.zero
  | n + 1 => (opens_struct hB Tryz.underlying69 (by kernel_rfl) (opensL_cons (op31 hB n) (opensL_cons (op31 hB n) opensL_nil))).map (fun p => ⟨p.1, p.2.1⟩) (fun p => rfl) (fun p h => ⟨h.1.1, h.2.1.1⟩)
theorem op72 (hB : Bulk bulk) : ∀ n, Opens enc Tryz.prog w base spare held bulk B n 72 Cond.c (fun c => c.bnd B)
  | 0 => Opens.zero
  | n + 1 =>
    have hk : Opens enc Tryz.prog w base spare held bulk B n 70 (fun l : List Cond => [D.list (l.map Cond.c)]) (fun l => l.length ≤ B ∧ ∀ a ∈ l, Cond.bnd B a) := match n with
      | 0 => Opens.zero
      | m + 1 => opens_slice hB Tryz.underlying70 ((op72 hB (m + 1)).mono (Nat.le_succ m))
    (opens_struct hB Tryz.underlying72 (by kernel_rfl) (opensL_cons (op3 n) (opensL_cons hk (opensL_cons (op69 hB n) (opensL_cons (op66 hB n) opensL_nil))))).map (fun p => Cond.mk p.1 p.2.1 p.2.2.1 p.2.2.2.1) (fun p => by simp [Cond.c, Cond.cs_eq, Part.c, Pattern.c, cI, dI]) (fun p h => (Cond.bnd_iff B _).2 ⟨h.2.2.1, h.2.1.2⟩)
theorem op74 (hB : Bulk bulk) : ∀ n, Opens enc Tryz.prog w base spare held bulk B n 74 Rule.c (fun x => (x.keep.nodes.length ≤ B ∧ x.keep.edges.length ≤ B) ∧ (x.into.nodes.length ≤ B ∧ x.into.edges.length ≤ B) ∧ x.cond.bnd B)
  | 0 => Opens.zero
  | n + 1 => (opens_struct hB Tryz.underlying74 (by kernel_rfl) (opensL_cons (op9 hB n) (opensL_cons (op66 hB n) (opensL_cons (op66 hB n) (opensL_cons (op68 hB n) (opensL_cons (op69 hB n) (opensL_cons (op4 n) (opensL_cons (op72 hB n) opensL_nil)))))))).map (fun p => ⟨p.1, p.2.1, p.2.2.1, p.2.2.2.1, p.2.2.2.2.1, p.2.2.2.2.2.1, p.2.2.2.2.2.2.1⟩) (fun p => by simp [Rule.c, Pattern.c, Part.c, Cond.c_eq, cS, cI, dI]) (fun p h => ⟨h.2.2.2.1, h.2.2.2.2.1, h.2.2.2.2.2.2.1⟩)
theorem op26 (hB : Bulk bulk) : ∀ n, Opens enc Tryz.prog w base spare held bulk B n 26 (fun l : List Rule => [D.list (l.map Rule.c)]) (fun l => l.length ≤ B ∧ ∀ a ∈ l, (fun x => (x.keep.nodes.length ≤ B ∧ x.keep.edges.length ≤ B) ∧ (x.into.nodes.length ≤ B ∧ x.into.edges.length ≤ B) ∧ x.cond.bnd B) a)
  | 0 => Opens.zero
  | n + 1 => opens_slice hB Tryz.underlying26 (op74 hB n)
theorem op33 (hB : Bulk bulk) : ∀ n, Opens enc Tryz.prog w base spare held bulk B n 33 Stage.c (fun x => x.weights.length ≤ B ∧ x.removed.length ≤ B)
  | 0 => Opens.zero
  | n + 1 => (opens_struct hB Tryz.underlying33 (by kernel_rfl) (opensL_cons (op31 hB n) (opensL_cons (op31 hB n) opensL_nil))).map (fun p => ⟨p.1, p.2.1⟩) (fun p => rfl) (fun p h => ⟨h.1.1, h.2.1.1⟩)
theorem op27 (hB : Bulk bulk) : ∀ n, Opens enc Tryz.prog w base spare held bulk B n 27 (fun l : List Stage => [D.list (l.map Stage.c)]) (fun l => l.length ≤ B ∧ ∀ a ∈ l, (fun x => x.weights.length ≤ B ∧ x.removed.length ≤ B) a)
  | 0 => Opens.zero
  | n + 1 => opens_slice hB Tryz.underlying27 (op33 hB n)
end
end Go.Abs
end
