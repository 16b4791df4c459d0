/- The rules of drafts; the host of a draft. · Layer 32, drafts -/
import Derived.Test.YthnegcfdjjhfgaaGreatZmA
import Derived.Test.YthnegcfdjjhfgaaGreatZmS
import Derived.Test.YthnegcfdjjhfgaaGreatZmE
import Derived.Carry
import Derived.ChangeArms
import Derived.WideShapes
import Derived.DataElems
import Derived.Test.YthnegcfdjjhfgaaGreatRows
set_option linter.unusedVariables false
set_option linter.unusedSimpArgs false
section
set_option maxRecDepth 8000
set_option maxHeartbeats 4000000
open Go Go.Proofs
namespace Go.Abs
structure Host where
  graph : Graph
  values : List (List Int)
def Host.c (h : Host) : List D := [dLI h.graph.nodes, .list (h.graph.edges.map Edge.c), .list (h.values.map cL)]
def Host.d (h : Host) : D := .agg h.c
@[go_sem] theorem cLs_cl (l : List (List Int)) : D.clLL (l.map cL) = true := clLL_map _ (fun a => by simp [cL, D.clL, dLI_cl]) l
@[go_sem] theorem Host.cl (h : Host) : h.d.cl = true := by simp [Host.d, Host.c, D.cl, D.clL, dLI_cl, cLs_cl, edgesG_cl]
structure Dr15 where
  nodes : List B2
  edges : List B3
def Dr15.c (d : Dr15) : List D := [.list (d.nodes.map cP), .list (d.edges.map cT3)]
@[go_sem] theorem Dr15.cl (d : Dr15) : D.clL d.c = true := by simp [Dr15.c, D.clL, D.cl, cPs_cl, cT3s_cl]
def val15 (l : List Attr) (b : UInt8) (k : Nat) : Int := match l[k]? with | some a => a.low + ((b.toNat : Int) + 7 * (k : Int)).tmod (a.high - a.low + 1) | none => 0
def vals15 (l : List Attr) (b : UInt8) (k : Nat) : List Int := (List.range k).map (val15 l b)
def kind15 (t : Types) (x : B2) : Int := pickL (concL t) x.1
def row15 (t : Types) (x : B2) : List Int := vals15 (attrsT t (kind15 t x)) x.2 (attrsT t (kind15 t x)).length
def ns15 (t : Types) (ds : List B2) (k : Nat) : List Int := (List.range k).map fun i => kind15 t (nth2 ds i)
def vs15 (t : Types) (ds : List B2) (k : Nat) : List (List Int) := (List.range k).map fun i => row15 t (nth2 ds i)
def made15 (t : Types) (d : Dr15) : Host :=
  ⟨⟨ns15 t d.nodes (if (concL t).length = 0 then 0 else min d.nodes.length 8),
    grE t (ns15 t d.nodes (if (concL t).length = 0 then 0 else min d.nodes.length 8)) [] d.edges (if (ns15 t d.nodes (if (concL t).length = 0 then 0 else min d.nodes.length 8)).length = 0 ∨ t.edges.length = 0 then 0 else min d.edges.length 10)⟩,
    vs15 t d.nodes (if (concL t).length = 0 then 0 else min d.nodes.length 8)⟩
theorem vals15_succ (l : List Attr) (b : UInt8) (k : Nat) : vals15 l b (k + 1) = vals15 l b k ++ [val15 l b k] := by simp [vals15, List.range_succ]
theorem vals15_len (l : List Attr) (b : UInt8) (k : Nat) : (vals15 l b k).length = k := by simp [vals15]
theorem ns15_succ (t : Types) (ds : List B2) (k : Nat) : ns15 t ds (k + 1) = ns15 t ds k ++ [kind15 t (nth2 ds k)] := by simp [ns15, List.range_succ]
theorem ns15_len (t : Types) (ds : List B2) (k : Nat) : (ns15 t ds k).length = k := by simp [ns15]
theorem vs15_succ (t : Types) (ds : List B2) (k : Nat) : vs15 t ds (k + 1) = vs15 t ds k ++ [row15 t (nth2 ds k)] := by simp [vs15, List.range_succ]
theorem vs15_len (t : Types) (ds : List B2) (k : Nat) : (vs15 t ds k).length = k := by simp [vs15]
theorem ref15_Made (t : Types) (ht : t.fine) (d : Dr15) : Pure Tryz.prog 51 [t.d, .agg d.c] (made15 t d).d := by
  have hfN := ht.ok.fewN
  have hfE := ht.ok.fewE
  obtain ⟨C, hC⟩ : ∃ C, concL t = C := ⟨_, rfl⟩
  refine Tz.pK ⟨fun t => t == 4 || t == 5 || t == 15 || t == 53 || t == 11, fun r => match r with | 13 => [(0, 4), (1, 4), (2, 4), (4, 6), (5, 6), (4, 7), (5, 7), (0, 9), (1, 9), (2, 9), (4, 9), (5, 9), (6, 9), (7, 9), (9, 11), (10, 11), (9, 12), (10, 12)] | 18 => [(0, 30), (1, 30), (3, 30), (4, 30), (5, 30), (7, 30), (8, 30), (9, 30), (11, 30), (12, 30), (14, 30), (15, 30), (16, 30), (20, 30), (21, 30), (23, 30), (24, 30), (25, 30)] | _ => []⟩ Tryz.func51 rfl (fun Q hQ => ?_)
  try simp [go_sem, seval, Dr15.c]
  refine callQ_pure0 ((by have hq := ref15_concrete t (by omega); rw [hC] at hq; exact hq)) ((by first | rfl | (simp [go_sem, ← List.map_take, ← List.map_drop, Dr15.c]; done))) ?_
  try simp [go_sem, seval, Dr15.c]
  obtain ⟨I0, hI0⟩ := mkI fun i e H => ((e 2 = .adr t.c) ∧ (e 3 = .adr d.c) ∧ (e 4 = .ptr 0 1 0 0) ∧ (e 5 = .ptr 1 1 0 0) ∧ (e 6 = dLI C) ∧ (e 7 = dI i) ∧ (H.get 0 = some ⟨77, 3, [[.nil, .nil, .nil]], false⟩) ∧ (0 < H.next) ∧ (H.get 1 = some ⟨77, 3, [[.own 2 i, .nil, .own 3 i]], false⟩) ∧ (1 < H.next) ∧ (H.get 2 = some ⟨3, 1, (ns15 t d.nodes i).map cI, false⟩) ∧ (2 < H.next) ∧ (H.get 3 = some ⟨26, 1, (vs15 t d.nodes i).map cL, false⟩) ∧ (3 < H.next) ∧ (i ≤ 8) ∧ (i ≤ d.nodes.length) ∧ (C.length = 0 → i = 0) ∧ ((ns15 t d.nodes i).length = i) ∧ ((vs15 t d.nodes i).length = i))
  refine loopKG (Ghosts.step (Ghosts.step (Ghosts.refl _) 1 0 0 3 1 _ _ (rfl) rfl rfl rfl) 1 0 2 26 1 _ _ ((by simp [go_sem, Dr15.c] : AHeap.get _ _ = some ⟨77, 3, [[.own 2 0, .nil, .nil]], false⟩)) rfl rfl rfl) I0 (fun i => 8 - i) (0) ((hI0 _ _ _).2 ⟨?_, ?_, ?_, ?_, ?_, ?_, ?_, ?_, ?_, ?_, (by rfl), ?_, (by rfl), ?_, (by first | assumption | omega | (simp [go_sem, Dr15.c]; done) | (simp_all; done)), (by first | assumption | omega | (simp [go_sem, Dr15.c]; done) | (simp_all; done)), (by (intro _; rfl)), (by (exact ns15_len _ _ _)), (by (exact vs15_len _ _ _))⟩) ?_
  iterate 12 (first | omega | (simp [go_sem, seval, Dr15.c] <;> omega))
  intro i e H hi0
  obtain ⟨q2_0, q3_0, q4_0, q5_0, q6_0, q7_0, g0_0, n0_0, g1_0, n1_0, g2_0, n2_0, g3_0, n3_0, hi, hid, hz, hnl, hvl⟩ := (hI0 _ _ _).1 hi0
  have x0 := frs n0_0
  have x1 := frs n1_0
  have x2 := frs n2_0
  have x3 := frs n3_0
  have F0 := And.intro q2_0 (And.intro q3_0 (And.intro q4_0 (And.intro q5_0 (And.intro q6_0 (And.intro q7_0 (And.intro g0_0 (And.intro g1_0 (And.intro g2_0 (And.intro g3_0 (And.intro x0 (And.intro x1 (And.intro x2 x3))))))))))))
  try simp [go_sem, seval, Dr15.c, F0, hnl, hvl]
  repeat first | intro _ | refine ⟨obs, ?_⟩
  refine condQ_mk (fun h4 => ?_) (fun h4 => ?_)
  · try simp [go_sem] at h4
    have hil : i < d.nodes.length := by omega
    have hC0 : 0 < C.length := by omega
    have hCn : ¬C = [] := List.length_pos_iff.1 hC0
    obtain ⟨x, hx⟩ : ∃ x, d.nodes[i] = x := ⟨_, rfl⟩
    have hgx : nth2 d.nodes i = x := by unfold nth2; rw [lge hil, ← hx]; rfl
    have hx1 := u8_lt x.1
    have hx2 := u8_lt x.2
    have tm := tmod_in (show 0 ≤ (x.1.toNat : Int) by omega) (show (0 : Int) < C.length by omega)
    obtain ⟨kk, hpk⟩ := pickL_in hC0 x.1
    obtain ⟨kd, hkd0⟩ : ∃ kd, C[((x.1.toNat : Int).tmod C.length).toNat] = kd := ⟨_, rfl⟩
    have hkd : kind15 t (nth2 d.nodes i) = kd := by unfold kind15; rw [hgx, hC, hpk, hkd0]
    have hne0 : (C.length : Int) ≠ 0 := by omega
    obtain ⟨la, hla⟩ : ∃ la, attrsT t kd = la := ⟨_, rfl⟩
    have hgood := ht.good kd
    rw [hla] at hgood
    try simp [go_sem, seval, Dr15.c, F0, hnl, hvl, h4, lge hil, hx, cP, lge kk, hkd0, hne0, hkd, hla]
    repeat first | intro _ | refine ⟨obs, ?_⟩
    refine callQ_pure0 (ref04_Attrs t ht.ok kd) ((by first | rfl | (simp [go_sem, ← List.map_take, ← List.map_drop, Dr15.c, F0, hnl, hvl, h4, lge hil, hx, cP, lge kk, hkd0, hne0, hkd, hla]; done))) ?_
    try simp [go_sem, seval, Dr15.c, F0, hnl, hvl, h4, lge hil, hx, cP, lge kk, hkd0, hne0, hkd, hla]
    repeat first | intro _ | refine ⟨obs, ?_⟩
    obtain ⟨I2, hI2⟩ := mkI fun k e H => (∃ c : Nat, (e 2 = .adr t.c) ∧ (e 3 = .adr d.c) ∧ (e 4 = .ptr 0 1 0 0) ∧ (e 5 = .ptr 1 1 0 0) ∧ (e 6 = dLI C) ∧ (e 7 = dI i) ∧ (e 8 = dI kd) ∧ (e 9 = .list (la.map Attr.c)) ∧ (e 11 = .own c k) ∧ (e 12 = dI k) ∧ (H.get 0 = some ⟨77, 3, [[.nil, .nil, .nil]], false⟩) ∧ (0 < H.next) ∧ (H.get 1 = some ⟨77, 3, [[.own 2 i, .nil, .own 3 i]], false⟩) ∧ (1 < H.next) ∧ (H.get 2 = some ⟨3, 1, (ns15 t d.nodes i).map cI, false⟩) ∧ (2 < H.next) ∧ (H.get 3 = some ⟨26, 1, (vs15 t d.nodes i).map cL, false⟩) ∧ (3 < H.next) ∧ (H.get c = some ⟨3, 1, (vals15 la x.2 k).map cI, false⟩) ∧ (c < H.next) ∧ (k ≤ la.length) ∧ (3 < c) ∧ ((vals15 la x.2 k).length = k))
    refine loopK I2 (fun k => la.length - k) (0) ((hI2 _ _ _).2 ⟨(H.next), ?_, ?_, ?_, ?_, ?_, ?_, ?_, ?_, ?_, ?_, ?_, ?_, ?_, ?_, ?_, ?_, ?_, ?_, (by (simp [go_sem, Dr15.c, F0, hnl, hvl, h4, lge hil, hx, cP, lge kk, hkd0, hne0, hkd, hla, vals15])), ?_, (by first | assumption | omega | (simp [go_sem, Dr15.c, F0, hnl, hvl, h4, lge hil, hx, cP, lge kk, hkd0, hne0, hkd, hla]; done) | (simp_all; done)), (by omega), (by (exact vals15_len _ _ _))⟩) ?_
    iterate 19 (first | omega | (simp [go_sem, seval, Dr15.c, F0, hnl, hvl, h4, lge hil, hx, cP, lge kk, hkd0, hne0, hkd, hla] <;> omega))
    intro k e H hi2
    obtain ⟨c, q2_2, q3_2, q4_2, q5_2, q6_2, q7_2, q8_2, q9_2, q11_2, q12_2, g0_2, n0_2, g1_2, n1_2, g2_2, n2_2, g3_2, n3_2, gc_2, nc_2, hk, hc, hvl2⟩ := (hI2 _ _ _).1 hi2
    have x0 := frs n0_2
    have x1 := frs n1_2
    have x2 := frs n2_2
    have x3 := frs n3_2
    have xc := frs nc_2
    have F2 := And.intro q2_2 (And.intro q3_2 (And.intro q4_2 (And.intro q5_2 (And.intro q6_2 (And.intro q7_2 (And.intro q8_2 (And.intro q9_2 (And.intro q11_2 (And.intro q12_2 (And.intro g0_2 (And.intro g1_2 (And.intro g2_2 (And.intro g3_2 (And.intro gc_2 (And.intro x0 (And.intro x1 (And.intro x2 (And.intro x3 xc))))))))))))))))))
    have di1 := And.intro (nep (show c ≠ 3 by omega)) (And.intro (nep (show c ≠ 2 by omega)) (And.intro (nep (show c ≠ 1 by omega)) (And.intro (nep (show c ≠ 0 by omega)) (And.intro (nep (show 3 ≠ 2 by omega)) (And.intro (nep (show 3 ≠ 1 by omega)) (And.intro (nep (show 3 ≠ 0 by omega)) (And.intro (nep (show 2 ≠ 1 by omega)) (And.intro (nep (show 2 ≠ 0 by omega)) (nep (show 1 ≠ 0 by omega))))))))))
    try simp [go_sem, seval, Dr15.c, hnl, hvl, h4, lge hil, hx, cP, lge kk, hkd0, hne0, hkd, hla, F2, hvl2, di1]
    repeat first | intro _ | refine ⟨obs, ?_⟩
    refine condQ_mk (fun h10 => ?_) (fun h10 => ?_)
    ·try simp [go_sem] at h10
     have hg := hgood.1 _ (lgm h10)
     unfold Attr.good at hg
     have hl8 := hgood.2
     have tv := tmod_in (show 0 ≤ (x.2.toNat : Int) + 7 * (k : Int) by omega) (show 0 < la[k].high - la[k].low + 1 by omega)
     have hval : val15 la x.2 k = la[k].low + ((x.2.toNat : Int) + 7 * (k : Int)).tmod (la[k].high - la[k].low + 1) := by unfold val15; rw [lge h10]
     have hneq : la[k].high - la[k].low + 1 ≠ 0 := by omega
     try simp [go_sem, seval, Dr15.c, hnl, hvl, h4, lge hil, hx, cP, lge kk, hkd0, hne0, hkd, hla, F2, hvl2, di1, h10, lge h10, hneq]
     repeat first | intro _ | refine ⟨obs, ?_⟩
     refine nextQ_mk (k + 1) (by omega) ((hI2 _ _ _).2 ⟨(c), ?_, ?_, ?_, ?_, ?_, ?_, ?_, ?_, ?_, ?_, ?_, ?_, ?_, ?_, ?_, ?_, ?_, ?_, (by (simp [go_sem, Dr15.c, hnl, hvl, h4, lge hil, hx, cP, lge kk, hkd0, hne0, hkd, hla, F2, hvl2, di1, h10, lge h10, hneq, vals15_succ, hval])), ?_, (by first | assumption | omega | (simp [go_sem, Dr15.c, hnl, hvl, h4, lge hil, hx, cP, lge kk, hkd0, hne0, hkd, hla, F2, hvl2, di1, h10, lge h10, hneq]; done) | (simp_all <;> omega)), (by omega), (by (exact vals15_len _ _ _))⟩) <;> first | omega | (simp [go_sem, seval, Dr15.c, hnl, hvl, h4, lge hil, hx, cP, lge kk, hkd0, hne0, hkd, hla, F2, hvl2, di1, h10, lge h10, hneq] <;> omega)
    ·try simp [go_sem] at h10
     have hK : k = la.length := by omega
     have hrow : row15 t (nth2 d.nodes i) = vals15 la x.2 k := by unfold row15; rw [hkd, hla, hgx, hK]
     have hl8 := hgood.2
     have nx := nxs H.next
     try simp [go_sem, seval, Dr15.c, hnl, hvl, h4, lge hil, hx, cP, lge kk, hkd0, hne0, hkd, hla, F2, hvl2, di1, nx]
     repeat first | intro _ | refine ⟨obs, ?_⟩
     refine nextQ_mk (i + 1) (by omega) ((hI0 _ _ _).2 ⟨?_, ?_, ?_, ?_, ?_, ?_, ?_, ?_, ?_, ?_, (by (simp [go_sem, Dr15.c, hnl, hvl, h4, lge hil, hx, cP, lge kk, hkd0, hne0, hkd, hla, F2, hvl2, di1, nx, ns15_succ, hkd])), ?_, (by (simp [go_sem, Dr15.c, hnl, hvl, h4, lge hil, hx, cP, lge kk, hkd0, hne0, hkd, hla, F2, hvl2, di1, nx, vs15_succ, hrow, cL, dLI])), ?_, (by first | assumption | omega | (simp [go_sem, Dr15.c, hnl, hvl, h4, lge hil, hx, cP, lge kk, hkd0, hne0, hkd, hla, F2, hvl2, di1, nx, h10]; done) | (simp_all <;> omega)), (by first | assumption | omega | (simp [go_sem, Dr15.c, hnl, hvl, h4, lge hil, hx, cP, lge kk, hkd0, hne0, hkd, hla, F2, hvl2, di1, nx, h10]; done) | (simp_all <;> omega)), (by omega), (by (exact ns15_len _ _ _)), (by (exact vs15_len _ _ _))⟩) <;> first | omega | (simp [go_sem, seval, Dr15.c, hnl, hvl, h4, lge hil, hx, cP, lge kk, hkd0, hne0, hkd, hla, F2, hvl2, di1, nx] <;> omega)
  · try simp [go_sem] at h4
    have hI : i = (if C.length = 0 then 0 else min d.nodes.length 8) := by
     split
     ·rename_i h; exact hz h
     ·rename_i h
      have hq : ¬ (i < d.nodes.length ∧ i < 8) := fun hh => h (by rw [h4 hh.1 (by omega)]; rfl)
      omega
    obtain ⟨ns, hns⟩ : ∃ ns, ns15 t d.nodes i = ns := ⟨_, rfl⟩
    rw [hns] at hnl
    try simp [go_sem, seval, Dr15.c, F0, hnl, hvl, hns]
    repeat first | intro _ | refine ⟨obs, ?_⟩
    obtain ⟨I4, hI4⟩ := mkI fun k e H => (∃ e4 : Nat, ∃ ys : List Edge, (e 2 = .adr t.c) ∧ (e 3 = .adr d.c) ∧ (e 4 = .ptr 0 1 0 0) ∧ (e 5 = .ptr 1 1 0 0) ∧ (e 13 = dI i) ∧ (e 14 = dI k) ∧ (H.get 0 = some ⟨77, 3, [[.nil, .nil, .nil]], false⟩) ∧ (0 < H.next) ∧ (H.get 1 = some ⟨77, 3, [[.own 2 i, .own e4 ys.length, .own 3 i]], false⟩) ∧ (1 < H.next) ∧ (H.get 2 = some ⟨3, 1, ns.map cI, false⟩) ∧ (2 < H.next) ∧ (H.get 3 = some ⟨26, 1, (vs15 t d.nodes i).map cL, false⟩) ∧ (3 < H.next) ∧ (H.get e4 = some ⟨124, 3, ys.map Edge.c, false⟩) ∧ (e4 < H.next) ∧ (k ≤ 10) ∧ (k ≤ d.edges.length) ∧ (ns.length = 0 ∨ t.edges.length = 0 → k = 0) ∧ (3 < e4) ∧ (ys = grE t ns [] d.edges k) ∧ (ys.length ≤ k))
    refine loopKG (Ghosts.step (Ghosts.refl _) 1 0 1 124 3 _ _ (g1_0) rfl rfl rfl) I4 (fun k => 10 - k) (0) ((hI4 _ _ _).2 ⟨(H.next), ([]), ?_, ?_, ?_, ?_, ?_, ?_, ?_, ?_, ?_, ?_, ?_, ?_, ?_, ?_, ?_, ?_, (by first | assumption | omega | (simp [go_sem, Dr15.c, F0, hnl, hvl, hns]; done) | (simp_all; done)), (by first | assumption | omega | (simp [go_sem, Dr15.c, F0, hnl, hvl, hns]; done) | (simp_all; done)), (by (intro _; rfl)), (by omega), (by (simp [grE])), (by simp)⟩) ?_
    iterate 16 (first | omega | (simp [go_sem, seval, Dr15.c, F0, hnl, hvl, hns] <;> omega))
    intro k e H hi4
    obtain ⟨e4, ys, q2_4, q3_4, q4_4, q5_4, q13_4, q14_4, g0_4, n0_4, g1_4, n1_4, g2_4, n2_4, g3_4, n3_4, ge4_4, ne4_4, hk, hkd, hzz, he4, hy, hyl⟩ := (hI4 _ _ _).1 hi4
    have x0 := frs n0_4
    have x1 := frs n1_4
    have x2 := frs n2_4
    have x3 := frs n3_4
    have xe4 := frs ne4_4
    have F4 := And.intro q2_4 (And.intro q3_4 (And.intro q4_4 (And.intro q5_4 (And.intro q13_4 (And.intro q14_4 (And.intro g0_4 (And.intro g1_4 (And.intro g2_4 (And.intro g3_4 (And.intro ge4_4 (And.intro x0 (And.intro x1 (And.intro x2 (And.intro x3 xe4))))))))))))))
    have di2 := And.intro (nep (show e4 ≠ 3 by omega)) (And.intro (nep (show e4 ≠ 2 by omega)) (And.intro (nep (show e4 ≠ 1 by omega)) (And.intro (nep (show e4 ≠ 0 by omega)) (And.intro (nep (show 3 ≠ 2 by omega)) (And.intro (nep (show 3 ≠ 1 by omega)) (And.intro (nep (show 3 ≠ 0 by omega)) (And.intro (nep (show 2 ≠ 1 by omega)) (And.intro (nep (show 2 ≠ 0 by omega)) (nep (show 1 ≠ 0 by omega))))))))))
    try simp [go_sem, seval, Dr15.c, hnl, hvl, hns, F4, di2]
    repeat first | intro _ | refine ⟨obs, ?_⟩
    refine condQ_mk (fun h16 => ?_) (fun h16 => ?_)
    ·try simp [go_sem] at h16
     have hkl : k < d.edges.length := by omega
     have hE0 : 0 < t.edges.length := by omega
     have hn0 : 0 < i := by omega
     have hee0 : ¬t.edges = [] := List.length_pos_iff.1 hE0
     have hnn0 : ¬ns = [] := List.length_pos_iff.1 (by omega)
     obtain ⟨x, hx⟩ : ∃ x, d.edges[k] = x := ⟨_, rfl⟩
     have hgx : d.edges[k]?.getD (0, 0, 0) = x := by rw [lge hkl, ← hx]; rfl
     have hx1 := u8_lt x.1
     have hx2 := u8_lt x.2.1
     have hx3 := u8_lt x.2.2
     have t1 := tmod_in (show 0 ≤ (x.1.toNat : Int) by omega) (show (0 : Int) < t.edges.length by omega)
     have t2 := tmod_in (show 0 ≤ (x.2.1.toNat : Int) by omega) (show (0 : Int) < i by omega)
     have t3 := tmod_in (show 0 ≤ (x.2.2.toNat : Int) by omega) (show (0 : Int) < i by omega)
     have hf : ((x.2.1.toNat : Int).tmod i).toNat < ns.length := by omega
     have hto : ((x.2.2.toNat : Int).tmod i).toNat < ns.length := by omega
     have hne0 : (t.edges.length : Int) ≠ 0 := by omega
     have hne1 : (i : Int) ≠ 0 := by omega
     have nx2 := nxs H.next
     try simp [go_sem, seval, Dr15.c, hnl, hvl, hns, F4, di2, h16, lge hkl, hx, hgx, cT3, lge hf, lge hto, hne0, hne1, nx2]
     repeat first | intro _ | refine ⟨obs, ?_⟩
     refine dcallQ_pure0 (ref04_Fits t ht.ok _ _ _) ((by first | rfl | (simp [go_sem, ← List.map_take, ← List.map_drop, Dr15.c, hnl, hvl, hns, F4, di2, h16, lge hkl, hx, hgx, cT3, lge hf, lge hto, hne0, hne1, nx2]; done))) ?_
     try simp [go_sem, seval, Dr15.c, hnl, hvl, hns, F4, di2, h16, lge hkl, hx, hgx, cT3, lge hf, lge hto, hne0, hne1, nx2]
     repeat first | intro _ | refine ⟨obs, ?_⟩
     refine condQ_mk (fun h19 => ?_) (fun h19 => ?_)
     ·try simp [go_sem] at h19
      have hE : grE1 t ns x = [mkEd t i x] := by unfold grE1 nN; rw [hnl]; unfold mkEd; rw [if_pos (by simpa [lge hf, lge hto] using h19)]
      try simp [go_sem, seval, Dr15.c, hnl, hvl, hns, F4, di2, h16, lge hkl, hx, hgx, cT3, lge hf, lge hto, hne0, hne1, nx2, hE, mkEd]
      repeat first | intro _ | refine ⟨obs, ?_⟩
      refine nextQ_mk (k + 1) (by omega) ((hI4 _ _ _).2 ⟨(e4), (ys ++ grE1 t ns (d.edges[k]?.getD (0, 0, 0))), ?_, ?_, ?_, ?_, ?_, ?_, ?_, ?_, ?_, ?_, ?_, ?_, ?_, ?_, ?_, ?_, (by first | assumption | omega | (simp [go_sem, Dr15.c, hnl, hvl, hns, F4, di2, h16, lge hkl, hx, hgx, cT3, lge hf, lge hto, hne0, hne1, nx2, hE, mkEd, h4, h19]; done) | (simp_all <;> omega)), (by first | assumption | omega | (simp [go_sem, Dr15.c, hnl, hvl, hns, F4, di2, h16, lge hkl, hx, hgx, cT3, lge hf, lge hto, hne0, hne1, nx2, hE, mkEd, h4, h19]; done) | (simp_all <;> omega)), (by omega), (by omega), (by (rw [grE_succ, ← hy])), (by (rw [List.length_append]; have := grE1_len t ns (d.edges[k]?.getD (0, 0, 0)); omega))⟩) <;> first | omega | (simp [go_sem, seval, Dr15.c, hnl, hvl, hns, F4, di2, h16, lge hkl, hx, hgx, cT3, lge hf, lge hto, hne0, hne1, nx2, hE, mkEd] <;> omega)
     ·try simp [go_sem] at h19
      have hE : grE1 t ns x = [] := by unfold grE1 nN; rw [hnl]; unfold mkEd; rw [if_neg (by simpa [lge hf, lge hto] using h19)]
      try simp [go_sem, seval, Dr15.c, hnl, hvl, hns, F4, di2, h16, lge hkl, hx, hgx, cT3, lge hf, lge hto, hne0, hne1, nx2, hE]
      repeat first | intro _ | refine ⟨obs, ?_⟩
      refine nextQ_mk (k + 1) (by omega) ((hI4 _ _ _).2 ⟨(e4), (ys ++ grE1 t ns (d.edges[k]?.getD (0, 0, 0))), ?_, ?_, ?_, ?_, ?_, ?_, ?_, ?_, ?_, ?_, ?_, ?_, ?_, ?_, ?_, ?_, (by first | assumption | omega | (simp [go_sem, Dr15.c, hnl, hvl, hns, F4, di2, h16, lge hkl, hx, hgx, cT3, lge hf, lge hto, hne0, hne1, nx2, hE, h4, h19]; done) | (simp_all <;> omega)), (by first | assumption | omega | (simp [go_sem, Dr15.c, hnl, hvl, hns, F4, di2, h16, lge hkl, hx, hgx, cT3, lge hf, lge hto, hne0, hne1, nx2, hE, h4, h19]; done) | (simp_all <;> omega)), (by omega), (by omega), (by (rw [grE_succ, ← hy])), (by (rw [List.length_append]; have := grE1_len t ns (d.edges[k]?.getD (0, 0, 0)); omega))⟩) <;> first | omega | (simp [go_sem, seval, Dr15.c, hnl, hvl, hns, F4, di2, h16, lge hkl, hx, hgx, cT3, lge hf, lge hto, hne0, hne1, nx2, hE] <;> omega)
    ·try simp [go_sem] at h16
     have hK : k = (if ns.length = 0 ∨ t.edges.length = 0 then 0 else min d.edges.length 10) := by
      split
      ·rename_i h; exact hzz h
      ·rename_i h
       have hq : ¬ (k < d.edges.length ∧ k < 10) := fun hh => h (.inr (by rw [h16 hh.1 (by omega) (by omega)]; rfl))
       omega
     have hfin : made15 t d = ⟨⟨ns, ys⟩, vs15 t d.nodes i⟩ := by
      unfold made15
      rw [hC, ← hI, hns, ← hK, hy]
     try simp [go_sem, seval, Dr15.c, hnl, hvl, hns, F4, di2]
     exact hQ _ _ (by first | (left; (simp [go_sem, Dr15.c, hnl, hvl, hns, F4, di2, hfin, Host.d, Host.c]); done) | (right; (simp [go_sem, Dr15.c, hnl, hvl, hns, F4, di2, hfin, Host.d, Host.c]); done))
end Go.Abs
end
section
set_option maxRecDepth 60000
set_option maxHeartbeats 4000000
open Go Go.Proofs
namespace Go.Abs
theorem rule_Deleted0 (t : Types) (ht : t.ok) (r : Rule) (hr : r.ok) (h0 : ruleF t r = 0) : Pure Tryz.prog 17 [t.d, r.d] (.tup [dLI r.goneN, dLI r.goneE, dI 0]) := by
  have hp := ruleF_parts h0
  have hgl := graphF_le hp.gl
  have hv := rule_Valid t ht r hr
  rw [h0] at hv
  refine Tz.pK ⟨fun _ => false, fun _ => []⟩ Tryz.func17 rfl (fun Q hQ => ?_)
  try simp [go_sem, seval]
  refine callQ_pure0 (hv) ((by first | rfl | (simp [go_sem, ← List.map_take, ← List.map_drop]; done))) ?_
  try simp [go_sem, seval]
  refine callQ_pure0 (rule_deleted r (by omega) (by omega)) ((by first | rfl | (simp [go_sem, ← List.map_take, ← List.map_drop]; done))) ?_
  try simp [go_sem, seval]
  exact hQ _ _ (by simp [go_sem] <;> first | omega | (rw [bei]; simp <;> omega) | (simp_all <;> omega))
theorem rule_Created0 (t : Types) (ht : t.ok) (r : Rule) (hr : r.ok) (h0 : ruleF t r = 0) : Pure Tryz.prog 18 [t.d, r.d] (.tup [dLI r.freshN, dLI r.freshE, dI 0]) := by
  have hp := ruleF_parts h0
  have hgl := graphF_le hp.gr
  have hv := rule_Valid t ht r hr
  rw [h0] at hv
  refine Tz.pK ⟨fun _ => false, fun _ => []⟩ Tryz.func18 rfl (fun Q hQ => ?_)
  try simp [go_sem, seval]
  refine callQ_pure0 (hv) ((by first | rfl | (simp [go_sem, ← List.map_take, ← List.map_drop]; done))) ?_
  try simp [go_sem, seval]
  refine callQ_pure0 (rule_created r (by omega) (by omega)) ((by first | rfl | (simp [go_sem, ← List.map_take, ← List.map_drop]; done))) ?_
  try simp [go_sem, seval]
  exact hQ _ _ (by simp [go_sem] <;> first | omega | (rw [bei]; simp <;> omega) | (simp_all <;> omega))
@[go_sem] theorem hd_cU (o : Option UInt8) (a0 : D) : ((Option.map cU o).getD [a0]).length = 1 := by cases o <;> rfl
@[go_sem] theorem hd_cT3 (o : Option B3) (a0 a1 a2 : D) : ((Option.map cT3 o).getD [a0, a1, a2]).length = 3 := by cases o <;> rfl
@[go_sem] theorem hd_cP (o : Option B2) (a0 a1 : D) : ((Option.map cP o).getD [a0, a1]).length = 2 := by cases o <;> rfl
theorem nz_cL (l : List (List Int)) : nzAss (l.map cL) = l.map cL := nzAss_id fun c hc => by
  rw [List.mem_map] at hc; obtain ⟨x, _, rfl⟩ := hc
  simp [cL, dLI, nzAs, nzA, nz_ints]
theorem min_if (n a : Nat) : (if a < n then (a : Int) else (n : Int)) = ((min n a : Nat) : Int) := by split <;> omega
def small (d : Dr5) (a b : Nat) : Dr5 := ⟨d.nodes.take (min d.nodes.length a), d.edges.take (min d.edges.length b)⟩
theorem ref26_Small (d : Dr5) (a b : Nat) (ha : a ≤ 1000) (hb : b ≤ 1000) : Pure Tryz.prog 49 [.agg d.c, dI a, dI b] (.agg (small d a b).c) := by
  have hm1 := min_if d.nodes.length a
  have hm2 := min_if d.edges.length b
  obtain ⟨ma, hma⟩ : ∃ m, min d.nodes.length a = m := ⟨_, rfl⟩
  obtain ⟨mb, hmb⟩ : ∃ m, min d.edges.length b = m := ⟨_, rfl⟩
  rw [hma] at hm1
  rw [hmb] at hm2
  have hma' : ma ≤ d.nodes.length := by omega
  have hmb' : mb ≤ d.edges.length := by omega
  refine Tz.pK ⟨fun t => t == 6, fun _ => []⟩ Tryz.func49 rfl (fun Q hQ => ?_)
  try simp [go_sem, seval, Dr5.c, hm1, hm2]
  repeat (first | intro _ | (refine ⟨obl, ?_⟩))
  exact hQ _ _ (by first | (left; (simp [go_sem, small, Dr5.c, hm1, hm2, hma, hmb]); done) | (right; (simp [go_sem, small, Dr5.c, hm1, hm2, hma, hmb]); done))
structure Dr32 where
  types : List B2
  ends : List B2
  a : Dr24
  b : Dr24
  host : Dr15
def Dr32.c (d : Dr32) : List D := [.list (d.types.map cP), .list (d.ends.map cP)] ++ d.a.c ++ d.b.c ++ d.host.c
def slim24 (d : Dr24) : Dr24 := { d with left := { d.left with graph := small d.left.graph 2 2 }, plain := true, inj := true }
def t32 (d : Dr32) : Types := madeT (flat2 d.types) d.ends
def a32 (d : Dr32) : Rule := made24 (t32 d) (slim24 d.a)
def b32 (d : Dr32) : Rule := made24 (t32 d) (slim24 d.b)
def h32 (d : Dr32) : Host := made15 (t32 d) ⟨d.host.nodes.take (min d.host.nodes.length 5), d.host.edges.take (min d.host.edges.length 6)⟩
theorem flat2_take_succ (l : List B2) {i : Nat} (h : i < l.length) : flat2 (l.take (i + 1)) = flat2 (l.take i) ++ [(0, l[i].2)] := by
  unfold flat2; rw [List.take_succ_eq_append_getElem h, List.map_append]; rfl
theorem law32_Made (d : Dr32) (hdl : d.types.length ≤ 2000000) : Pure Tryz.prog 16 [.agg d.c] (.tup [(t32 d).d, (a32 d).d, (b32 d).d, (h32 d).d]) := by
  have hf := (flat_made d.types d.ends).fine
  obtain ⟨T, hT⟩ : ∃ T, madeT (flat2 d.types) d.ends = T := ⟨_, rfl⟩
  have hM := ref04_Made (flat2 d.types) d.ends
  rw [hT] at hf hM
  obtain ⟨ds, hds⟩ : ∃ ds, ds = [d.a, d.b] := ⟨_, rfl⟩
  have hm1 : (if (5 : Int) < (d.host.nodes.length : Int) then (5 : Int) else (d.host.nodes.length : Int)) = ((min d.host.nodes.length 5 : Nat) : Int) := by split <;> omega
  have hm2 : (if (6 : Int) < (d.host.edges.length : Int) then (6 : Int) else (d.host.edges.length : Int)) = ((min d.host.edges.length 6 : Nat) : Int) := by split <;> omega
  obtain ⟨ma, hma⟩ : ∃ m, min d.host.nodes.length 5 = m := ⟨_, rfl⟩
  obtain ⟨mb, hmb⟩ : ∃ m, min d.host.edges.length 6 = m := ⟨_, rfl⟩
  rw [hma] at hm1
  rw [hmb] at hm2
  have hma' : ma ≤ d.host.nodes.length := by omega
  have hmb' : mb ≤ d.host.edges.length := by omega
  refine pureKA (by first | rfl | (simp [go_sem]; done)) (fun Q hQ => (acalls_of_body (cfg := ⟨fun t => t == 2 || t == 3 || t == 4 || t == 5 || t == 6 || t == 8 || t == 9 || t == 10 || t == 12 || t == 13, fun r => match r with | 16 => [(0, 19), (1, 19), (2, 19), (3, 19), (4, 19), (5, 19), (6, 19), (7, 19), (8, 19), (9, 19), (10, 19), (11, 19), (12, 19), (13, 19), (14, 19), (15, 19), (16, 19), (17, 19)] | 17 => [(2, 10), (3, 10), (5, 10), (6, 10), (5, 11), (6, 11)] | _ => []⟩) Tz.mixed Tryz.func16 rfl rfl (nlb rfl) (by kernel_rfl) ?_))
  try simp -implicitDefEqProofs [go_sem, seval, Dr32.c, Dr24.c, Dr15.c, Dr5.c, Host.d, Host.c, hm1, hm2]
  repeat first | intro _ | refine ⟨obs, ?_⟩
  obtain ⟨I0, hI0⟩ := mkI fun i e H => (∃ xs : List B2, (e 1 = .adr d.c) ∧ (e 2 = .ptr 0 1 0 0) ∧ (e 3 = .ptr 1 1 0 0) ∧ (e 4 = .ptr 2 1 0 0) ∧ (e 5 = .ptr 3 1 0 0) ∧ (e 6 = .own 4 xs.length) ∧ (e 15 = .list (d.types.map cP)) ∧ (e 16 = dI d.types.length) ∧ (e 17 = dI i) ∧ (H.get 0 = some ⟨25, 2, [[.nil, .nil]], false⟩) ∧ (0 < H.next) ∧ (H.get 1 = some ⟨41, 25, [[.str ⟨#[]⟩, .nil, .nil, .nil, .int .i64 0, .nil, .nil, .nil, .nil, .int .i64 0, .nil, .nil, .nil, .nil, .nil, .bool false, .int .i64 0, .nil, .nil, .nil, .nil, .nil, .nil, .int .i64 0, .nil]], false⟩) ∧ (1 < H.next) ∧ (H.get 2 = some ⟨41, 25, [[.str ⟨#[]⟩, .nil, .nil, .nil, .int .i64 0, .nil, .nil, .nil, .nil, .int .i64 0, .nil, .nil, .nil, .nil, .nil, .bool false, .int .i64 0, .nil, .nil, .nil, .nil, .nil, .nil, .int .i64 0, .nil]], false⟩) ∧ (2 < H.next) ∧ (H.get 3 = some ⟨77, 3, [[.nil, .nil, .nil]], false⟩) ∧ (3 < H.next) ∧ (H.get 4 = some ⟨115, 2, xs.map cP, false⟩) ∧ (4 < H.next) ∧ (i ≤ d.types.length) ∧ (xs.length = i) ∧ (xs = flat2 (d.types.take i)))
  refine loopK I0 (fun i => d.types.length - i) (0) ((hI0 _ _ _).2 ⟨([]), ?_, ?_, ?_, ?_, ?_, ?_, ?_, ?_, ?_, ?_, ?_, ?_, ?_, ?_, ?_, ?_, ?_, ?_, ?_, (by first | assumption | omega | (simp [go_sem, Dr32.c, Dr24.c, Dr15.c, Dr5.c, Host.d, Host.c, hm1, hm2]; done) | (simp_all; done)), (by rfl), (by rfl)⟩) ?_
  iterate 19 (first | omega | (simp [go_sem, seval, Dr32.c, Dr24.c, Dr15.c, Dr5.c, Host.d, Host.c, hm1, hm2] <;> omega))
  intro i e H hi0
  obtain ⟨xs, q1_0, q2_0, q3_0, q4_0, q5_0, q6_0, q15_0, q16_0, q17_0, g0_0, n0_0, g1_0, n1_0, g2_0, n2_0, g3_0, n3_0, g4_0, n4_0, hi, hxl, hx⟩ := (hI0 _ _ _).1 hi0
  have x0 := frs n0_0
  have x1 := frs n1_0
  have x2 := frs n2_0
  have x3 := frs n3_0
  have x4 := frs n4_0
  have F0 := And.intro q1_0 (And.intro q2_0 (And.intro q3_0 (And.intro q4_0 (And.intro q5_0 (And.intro q6_0 (And.intro q15_0 (And.intro q16_0 (And.intro q17_0 (And.intro g0_0 (And.intro g1_0 (And.intro g2_0 (And.intro g3_0 (And.intro g4_0 (And.intro x0 (And.intro x1 (And.intro x2 (And.intro x3 x4)))))))))))))))))
  try simp -implicitDefEqProofs [go_sem, seval, Dr32.c, Dr24.c, Dr15.c, Dr5.c, Host.d, Host.c, hm1, hm2, F0]
  refine condQ_mk (fun h3 => ?_) (fun h3 => ?_)
  · try simp [go_sem] at h3
    try simp -implicitDefEqProofs [go_sem, seval, Dr32.c, Dr24.c, Dr15.c, Dr5.c, Host.d, Host.c, hm1, hm2, F0, h3, lge h3, cP]
    repeat first | intro _ | refine ⟨obs, ?_⟩
    refine nextQ_mk (i + 1) (by omega) ((hI0 _ _ _).2 ⟨(xs ++ [(0, d.types[i].2)]), ?_, ?_, ?_, ?_, ?_, ?_, ?_, ?_, ?_, ?_, ?_, ?_, ?_, ?_, ?_, ?_, ?_, ?_, ?_, (by first | assumption | omega | (simp [go_sem, Dr32.c, Dr24.c, Dr15.c, Dr5.c, Host.d, Host.c, hm1, hm2, F0, h3, lge h3, cP]; done) | (simp_all <;> omega)), (by (simp [hxl])), (by (rw [flat2_take_succ _ h3, ← hx]))⟩) <;> first | omega | (simp [go_sem, seval, Dr32.c, Dr24.c, Dr15.c, Dr5.c, Host.d, Host.c, hm1, hm2, F0, h3, lge h3, cP] <;> omega)
  · try simp [go_sem] at h3
    have hX : xs = flat2 d.types := by rw [hx, List.take_of_length_le (by omega)]
    subst hX
    try simp -implicitDefEqProofs [go_sem, seval, Dr32.c, Dr24.c, Dr15.c, Dr5.c, Host.d, Host.c, hm1, hm2, F0]
    refine callQ_pureZ (hM) (by (simp [go_sem, Dr32.c, Dr24.c, Dr15.c, Dr5.c, Host.d, Host.c, hm1, hm2, F0]) <;> rfl) ((by first | rfl | (simp [go_sem, ← List.map_take, ← List.map_drop, Dr32.c, Dr24.c, Dr15.c, Dr5.c, Host.d, Host.c, hm1, hm2, F0]; done))) (by (simp [go_sem, Dr32.c, Dr24.c, Dr15.c, Dr5.c, Host.d, Host.c, hm1, hm2, F0]) <;> rfl) ?_
    try simp -implicitDefEqProofs [go_sem, seval, Dr32.c, Dr24.c, Dr15.c, Dr5.c, Host.d, Host.c, hm1, hm2, F0]
    repeat first | intro _ | refine ⟨obs, ?_⟩
    obtain ⟨I2, hI2⟩ := mkI fun i e H => (∃ l : List (List D), ∃ c : Nat, ∃ q : Nat, ∃ rs : List Rule, (e 1 = .adr d.c) ∧ (e 2 = .ptr 0 1 0 0) ∧ (e 3 = .ptr 1 1 0 0) ∧ (e 4 = .ptr 2 1 0 0) ∧ (e 5 = .ptr 3 1 0 0) ∧ (e 9 = .ptr c 1 0 0) ∧ (e 10 = .own q rs.length) ∧ (e 36 = .list l) ∧ (e 37 = dI 2) ∧ (e 38 = dI i) ∧ (H.get 0 = some ⟨25, 2, [[.nil, .nil]], false⟩) ∧ (0 < H.next) ∧ (H.get 1 = some ⟨41, 25, [[.str ⟨#[]⟩, .nil, .nil, .nil, .int .i64 0, .nil, .nil, .nil, .nil, .int .i64 0, .nil, .nil, .nil, .nil, .nil, .bool false, .int .i64 0, .nil, .nil, .nil, .nil, .nil, .nil, .int .i64 0, .nil]], false⟩) ∧ (1 < H.next) ∧ (H.get 2 = some ⟨41, 25, [[.str ⟨#[]⟩, .nil, .nil, .nil, .int .i64 0, .nil, .nil, .nil, .nil, .int .i64 0, .nil, .nil, .nil, .nil, .nil, .bool false, .int .i64 0, .nil, .nil, .nil, .nil, .nil, .nil, .int .i64 0, .nil]], false⟩) ∧ (2 < H.next) ∧ (H.get 3 = some ⟨77, 3, [[.nil, .nil, .nil]], false⟩) ∧ (3 < H.next) ∧ (H.get c = some ⟨25, 2, [T.c], false⟩) ∧ (c < H.next) ∧ (H.get q = some ⟨41, 25, rs.map Rule.c, false⟩) ∧ (q < H.next) ∧ (i ≤ 2) ∧ (l = ds.map Dr24.c) ∧ (rs = (ds.take i).map (fun x => made24 T (slim24 x))) ∧ (c ≠ 0) ∧ (c ≠ 1) ∧ (c ≠ 2) ∧ (c ≠ 3) ∧ (q ≠ 0) ∧ (q ≠ 1) ∧ (q ≠ 2) ∧ (q ≠ 3) ∧ (q ≠ c))
    refine loopK I2 (fun i => 2 - i) (0) ((hI2 _ _ _).2 ⟨([d.a.c, d.b.c]), (H.next), (H.next + 1), ([]), ?_, ?_, ?_, ?_, ?_, ?_, ?_, ?_, ?_, ?_, ?_, ?_, ?_, ?_, ?_, ?_, ?_, ?_, ?_, ?_, ?_, ?_, (by first | assumption | omega | (simp [go_sem, Dr32.c, Dr24.c, Dr15.c, Dr5.c, Host.d, Host.c, hm1, hm2, F0]; done) | (simp_all; done)), (by (rw [hds]; rfl)), (by rfl), (by omega), (by omega), (by omega), (by omega), (by omega), (by omega), (by omega), (by omega), (by omega)⟩) ?_
    iterate 22 (first | omega | (simp [go_sem, seval, Dr32.c, Dr24.c, Dr15.c, Dr5.c, Host.d, Host.c, hm1, hm2, F0] <;> omega))
    intro i e H hi2
    obtain ⟨l, c, q, rs, q1_2, q2_2, q3_2, q4_2, q5_2, q9_2, q10_2, q36_2, q37_2, q38_2, g0_2, n0_2, g1_2, n1_2, g2_2, n2_2, g3_2, n3_2, gc_2, nc_2, gq_2, nq_2, hi, hl, hr, c0, c1, c2, c3, q0, q1, q2, q3, qc⟩ := (hI2 _ _ _).1 hi2
    have x0 := frs n0_2
    have x1 := frs n1_2
    have x2 := frs n2_2
    have x3 := frs n3_2
    have xc := frs nc_2
    have xq := frs nq_2
    have F2 := And.intro q1_2 (And.intro q2_2 (And.intro q3_2 (And.intro q4_2 (And.intro q5_2 (And.intro q9_2 (And.intro q10_2 (And.intro q36_2 (And.intro q37_2 (And.intro q38_2 (And.intro g0_2 (And.intro g1_2 (And.intro g2_2 (And.intro g3_2 (And.intro gc_2 (And.intro gq_2 (And.intro x0 (And.intro x1 (And.intro x2 (And.intro x3 (And.intro xc xq))))))))))))))))))))
    try simp -implicitDefEqProofs [go_sem, seval, Dr32.c, Dr24.c, Dr15.c, Dr5.c, Host.d, Host.c, hm1, hm2, F2, c0, c1, c2, c3, q0, q1, q2, q3, qc, c0.symm, c1.symm, c2.symm, c3.symm, q0.symm, q1.symm, q2.symm, q3.symm, qc.symm]
    refine condQ_mk (fun h10 => ?_) (fun h10 => ?_)
    ·try simp [go_sem] at h10
     have hgl : i < ds.length := by rw [hds]; simp; omega
     have hrl : rs.length = i := by rw [hr]; simp; omega
     try simp -implicitDefEqProofs [go_sem, seval, Dr32.c, Dr24.c, Dr15.c, Dr5.c, Host.d, Host.c, hm1, hm2, F2, c0, c1, c2, c3, q0, q1, q2, q3, qc, c0.symm, c1.symm, c2.symm, c3.symm, q0.symm, q1.symm, q2.symm, q3.symm, qc.symm, h10, hl, lge hgl]
     repeat first | intro _ | refine ⟨obs, ?_⟩
     refine callQ_pure0 (ref26_Small ds[i].left.graph 2 2 (by omega) (by omega)) ((by first | rfl | (simp [go_sem, ← List.map_take, ← List.map_drop, Dr32.c, Dr24.c, Dr15.c, Dr5.c, Host.d, Host.c, hm1, hm2, F2, c0, c1, c2, c3, q0, q1, q2, q3, qc, c0.symm, c1.symm, c2.symm, c3.symm, q0.symm, q1.symm, q2.symm, q3.symm, qc.symm, h10, hl, lge hgl]; done))) ?_
     try simp -implicitDefEqProofs [go_sem, seval, Dr32.c, Dr24.c, Dr15.c, Dr5.c, Host.d, Host.c, hm1, hm2, F2, c0, c1, c2, c3, q0, q1, q2, q3, qc, c0.symm, c1.symm, c2.symm, c3.symm, q0.symm, q1.symm, q2.symm, q3.symm, qc.symm, h10, hl, lge hgl]
     repeat first | intro _ | refine ⟨obs, ?_⟩
     refine callQ_pure0 (ref24_Made T hf (slim24 ds[i])) ((by first | rfl | (simp [go_sem, ← List.map_take, ← List.map_drop, Dr32.c, Dr24.c, Dr15.c, Dr5.c, Host.d, Host.c, hm1, hm2, F2, c0, c1, c2, c3, q0, q1, q2, q3, qc, c0.symm, c1.symm, c2.symm, c3.symm, q0.symm, q1.symm, q2.symm, q3.symm, qc.symm, h10, hl, lge hgl]; done))) ?_
     try simp -implicitDefEqProofs [go_sem, seval, Dr32.c, Dr24.c, Dr15.c, Dr5.c, Host.d, Host.c, hm1, hm2, F2, c0, c1, c2, c3, q0, q1, q2, q3, qc, c0.symm, c1.symm, c2.symm, c3.symm, q0.symm, q1.symm, q2.symm, q3.symm, qc.symm, h10, hl, lge hgl]
     repeat first | intro _ | refine ⟨obs, ?_⟩
     refine nextQ_mk (i + 1) (by omega) ((hI2 _ _ _).2 ⟨(l), (c), (q), (rs ++ [made24 T (slim24 ds[i])]), ?_, ?_, ?_, ?_, ?_, ?_, ?_, ?_, ?_, ?_, ?_, ?_, ?_, ?_, ?_, ?_, ?_, ?_, ?_, ?_, ?_, ?_, (by first | assumption | omega | (simp [go_sem, Dr32.c, Dr24.c, Dr15.c, Dr5.c, Host.d, Host.c, hm1, hm2, F2, c0, c1, c2, c3, q0, q1, q2, q3, qc, c0.symm, c1.symm, c2.symm, c3.symm, q0.symm, q1.symm, q2.symm, q3.symm, qc.symm, h10, hl, lge hgl, h3]; done) | (simp_all <;> omega)), (by (exact hl)), (by (rw [map_take_succ _ hgl, ← hr])), (by first | assumption | omega | (simp [go_sem, Dr32.c, Dr24.c, Dr15.c, Dr5.c, Host.d, Host.c, hm1, hm2, F2, c0, c1, c2, c3, q0, q1, q2, q3, qc, c0.symm, c1.symm, c2.symm, c3.symm, q0.symm, q1.symm, q2.symm, q3.symm, qc.symm, h10, hl, lge hgl, h3]; done) | (simp_all <;> omega)), (by first | assumption | omega | (simp [go_sem, Dr32.c, Dr24.c, Dr15.c, Dr5.c, Host.d, Host.c, hm1, hm2, F2, c0, c1, c2, c3, q0, q1, q2, q3, qc, c0.symm, c1.symm, c2.symm, c3.symm, q0.symm, q1.symm, q2.symm, q3.symm, qc.symm, h10, hl, lge hgl, h3]; done) | (simp_all <;> omega)), (by first | assumption | omega | (simp [go_sem, Dr32.c, Dr24.c, Dr15.c, Dr5.c, Host.d, Host.c, hm1, hm2, F2, c0, c1, c2, c3, q0, q1, q2, q3, qc, c0.symm, c1.symm, c2.symm, c3.symm, q0.symm, q1.symm, q2.symm, q3.symm, qc.symm, h10, hl, lge hgl, h3]; done) | (simp_all <;> omega)), (by first | assumption | omega | (simp [go_sem, Dr32.c, Dr24.c, Dr15.c, Dr5.c, Host.d, Host.c, hm1, hm2, F2, c0, c1, c2, c3, q0, q1, q2, q3, qc, c0.symm, c1.symm, c2.symm, c3.symm, q0.symm, q1.symm, q2.symm, q3.symm, qc.symm, h10, hl, lge hgl, h3]; done) | (simp_all <;> omega)), (by first | assumption | omega | (simp [go_sem, Dr32.c, Dr24.c, Dr15.c, Dr5.c, Host.d, Host.c, hm1, hm2, F2, c0, c1, c2, c3, q0, q1, q2, q3, qc, c0.symm, c1.symm, c2.symm, c3.symm, q0.symm, q1.symm, q2.symm, q3.symm, qc.symm, h10, hl, lge hgl, h3]; done) | (simp_all <;> omega)), (by first | assumption | omega | (simp [go_sem, Dr32.c, Dr24.c, Dr15.c, Dr5.c, Host.d, Host.c, hm1, hm2, F2, c0, c1, c2, c3, q0, q1, q2, q3, qc, c0.symm, c1.symm, c2.symm, c3.symm, q0.symm, q1.symm, q2.symm, q3.symm, qc.symm, h10, hl, lge hgl, h3]; done) | (simp_all <;> omega)), (by first | assumption | omega | (simp [go_sem, Dr32.c, Dr24.c, Dr15.c, Dr5.c, Host.d, Host.c, hm1, hm2, F2, c0, c1, c2, c3, q0, q1, q2, q3, qc, c0.symm, c1.symm, c2.symm, c3.symm, q0.symm, q1.symm, q2.symm, q3.symm, qc.symm, h10, hl, lge hgl, h3]; done) | (simp_all <;> omega)), (by first | assumption | omega | (simp [go_sem, Dr32.c, Dr24.c, Dr15.c, Dr5.c, Host.d, Host.c, hm1, hm2, F2, c0, c1, c2, c3, q0, q1, q2, q3, qc, c0.symm, c1.symm, c2.symm, c3.symm, q0.symm, q1.symm, q2.symm, q3.symm, qc.symm, h10, hl, lge hgl, h3]; done) | (simp_all <;> omega)), (by first | assumption | omega | (simp [go_sem, Dr32.c, Dr24.c, Dr15.c, Dr5.c, Host.d, Host.c, hm1, hm2, F2, c0, c1, c2, c3, q0, q1, q2, q3, qc, c0.symm, c1.symm, c2.symm, c3.symm, q0.symm, q1.symm, q2.symm, q3.symm, qc.symm, h10, hl, lge hgl, h3]; done) | (simp_all <;> omega))⟩) <;> first | omega | (simp [go_sem, seval, Dr32.c, Dr24.c, Dr15.c, Dr5.c, Host.d, Host.c, hm1, hm2, F2, c0, c1, c2, c3, q0, q1, q2, q3, qc, c0.symm, c1.symm, c2.symm, c3.symm, q0.symm, q1.symm, q2.symm, q3.symm, qc.symm, h10, hl, lge hgl] <;> omega)
    ·try simp [go_sem] at h10
     have hie : i = 2 := by omega
     subst hie
     have hR : rs = [made24 T (slim24 d.a), made24 T (slim24 d.b)] := by rw [hr, hds]; rfl
     subst hR
     try simp -implicitDefEqProofs [go_sem, seval, Dr32.c, Dr24.c, Dr15.c, Dr5.c, Host.d, Host.c, hm1, hm2, F2, c0, c1, c2, c3, q0, q1, q2, q3, qc, c0.symm, c1.symm, c2.symm, c3.symm, q0.symm, q1.symm, q2.symm, q3.symm, qc.symm]
     repeat first | intro _ | refine ⟨obs, ?_⟩
     refine dcallQ_pure0 ((by have hq := ref15_Made T hf ⟨d.host.nodes.take ma, d.host.edges.take mb⟩; simpa [go_sem, Dr15.c, Host.d, Host.c] using hq)) ((by first | rfl | (simp [go_sem, ← List.map_take, ← List.map_drop, Dr32.c, Dr24.c, Dr15.c, Dr5.c, Host.d, Host.c, hm1, hm2, F2, c0, c1, c2, c3, q0, q1, q2, q3, qc, c0.symm, c1.symm, c2.symm, c3.symm, q0.symm, q1.symm, q2.symm, q3.symm, qc.symm]; done))) ?_
     try simp -implicitDefEqProofs [go_sem, seval, Dr32.c, Dr24.c, Dr15.c, Dr5.c, Host.d, Host.c, hm1, hm2, F2, c0, c1, c2, c3, q0, q1, q2, q3, qc, c0.symm, c1.symm, c2.symm, c3.symm, q0.symm, q1.symm, q2.symm, q3.symm, qc.symm]
     repeat first | intro _ | refine ⟨obs, ?_⟩
     exact hQ _ _ (by simp [go_sem, Dr32.c, Dr24.c, Dr15.c, Dr5.c, Host.d, Host.c, hm1, hm2, F2, c0, c1, c2, c3, q0, q1, q2, q3, qc, c0.symm, c1.symm, c2.symm, c3.symm, q0.symm, q1.symm, q2.symm, q3.symm, qc.symm, t32, a32, b32, h32, hT, hma, hmb, Types.d, Types.c, Host.d, Host.c, Rule.d, nz_nodes, nz_edgeTys, nz_ints, nz_edges, nz_slots, nz_tests, nz_conds, nz_cL])
end Go.Abs
end
section
set_option maxRecDepth 60000
set_option maxHeartbeats 4000000
open Go Go.Proofs
namespace Go.Abs
theorem law32_Counts1 (o : Ovl) (n y : Int) (hn : 0 ≤ n ∧ n < o.left.nodes.length) (hy : 0 ≤ y ∧ y < o.right.nodes.length) : Pure Tryz.prog 21 [dI y, .adr [dI n], .adr o.c] (.bool (decide (iA o.left.nodes n = iA o.right.nodes y))) := by
  have h1 : n.toNat < o.left.nodes.length := by omega
  have h2 : y.toNat < o.right.nodes.length := by omega
  have e1 : iA o.left.nodes n = o.left.nodes[n.toNat] := by unfold iA; rw [lge h1]; rfl
  have e2 : iA o.right.nodes y = o.right.nodes[y.toNat] := by unfold iA; rw [lge h2]; rfl
  refine Tz.pK ⟨fun _ => false, fun _ => []⟩ Tryz.func21 rfl (fun Q hQ => ?_)
  try simp [go_sem, seval, Ovl.c, lge h1, lge h2]
  repeat (first | intro _ | (refine ⟨obl, ?_⟩))
  exact hQ _ _ (by first | (left; (simp [go_sem, e1, e2, hn, hy]; rw [bei]; simp); done) | (right; (simp [go_sem, e1, e2, hn, hy]; rw [bei]; simp); done))
theorem ovErr_or {a b : Graph} (ha : graphF a = 0) (hb : graphF b = 0) : ovErr a b = 0 ∨ ovErr a b = 3 := by
  unfold ovErr
  rw [if_neg (by rw [ha]; simp), if_neg (by rw [hb]; simp)]
  split
  · exact .inr rfl
  · split
    ·exact .inr rfl
    ·exact .inl rfl
theorem made24_ok {t : Types} (d : Dr24) (hp : d.plain = true) : (made24 t d).ok ∧ (made24 t d).thin := by
  have hl := made17_len t d.left.graph
  have h7 := made7_len (made21 t d.left).graph d.keep
  have hx := extractG_len (made21 t d.left).graph (kept24 t d)
  have e0 : (made21 t d.left).graph = made17 t d.left.graph := rfl
  rw [e0] at h7 hx
  have h7' : (kept24 t d).nodes.length ≤ (made17 t d.left.graph).nodes.length ∧ (kept24 t d).edges.length ≤ (made17 t d.left.graph).edges.length := h7
  have hx' : (kg24 t d).nodes.length ≤ (kept24 t d).nodes.length ∧ (kg24 t d).edges.length ≤ (kept24 t d).edges.length := hx
  rw [made24_plain hp]
  refine ⟨⟨by show (⟨#[114]⟩ : ByteArray).size ≤ 100000; decide, by show (kept24 t d).nodes.length ≤ _; omega, by show (kept24 t d).edges.length ≤ _; omega, by show (List.take _ _).length ≤ _; rw [List.length_take]; omega, by show (List.take _ _).length ≤ _; rw [List.length_take]; omega, ?_, ?_⟩, by show (0 : Nat) ≤ _; omega, by show (0 : Nat) ≤ _; omega, by show (0 : Nat) ≤ _; omega⟩
  · show Cond.ok trueC
    refine ⟨⟨by decide, by decide, by decide, by decide, by decide, by decide⟩, trivial⟩
  · show Cond.size trueC ≤ 1000000
    decide
def cntF (a b : Rule) (o : Ovl) (i : Nat) : Nat := ((a.freshN.take i).filter fun n => b.goneN.any fun y => decide (iA o.left.nodes n = iA o.right.nodes y)).length
theorem cntF_succ (a b : Rule) (o : Ovl) {i : Nat} (h : i < a.freshN.length) : cntF a b o (i + 1) = cntF a b o i + (if (b.goneN.any fun y => decide (iA o.left.nodes a.freshN[i] = iA o.right.nodes y)) = true then 1 else 0) := by
  unfold cntF
  rw [filter_take_succ _ h, List.length_append]
  split <;> rename_i q <;> simp [q]
@[go_sem] theorem cntF_zero (a b : Rule) (o : Ovl) : cntF a b o 0 = 0 := rfl
theorem cntF_le (a b : Rule) (o : Ovl) (i : Nat) : cntF a b o i ≤ i := by
  unfold cntF
  refine Nat.le_trans (List.length_filter_le _ _) ?_
  rw [List.length_take]; omega
theorem cntF_end (a b : Rule) (o : Ovl) : cntF a b o a.freshN.length = bothN a b o := by unfold cntF bothN; rw [List.take_length]
theorem law32_ConcurrentCounts (d : Dr32) (hdl : d.types.length ≤ 2000000) (x : UInt8) : Pure Tryz.prog 5 [.agg d.c, .int .u8 (x.toNat : Int)] (.bool true) := by
  have hft := flat_made d.types d.ends
  have ht : (t32 d).ok := hft.fine.ok
  have hx := u8_lt x
  have hg : givenR (t32 d) (a32 d) (b32 d) = 0 := made_given hft rfl rfl rfl rfl
  obtain ⟨ha, hb⟩ := givenR_parts hg
  have oa := made24_ok (t := t32 d) (slim24 d.a) rfl
  have ob := made24_ok (t := t32 d) (slim24 d.b) rfl
  have va : ruleF (t32 d) (a32 d) = 0 := made24_rule hft rfl
  have vb : ruleF (t32 d) (b32 d) = 0 := made24_rule hft rfl
  have hM := law32_Made d hdl
  obtain ⟨t, htt⟩ : ∃ t, t32 d = t := ⟨_, rfl⟩
  obtain ⟨a, haa⟩ : ∃ a, a32 d = a := ⟨_, rfl⟩
  obtain ⟨b, hbb⟩ : ∃ b, b32 d = b := ⟨_, rfl⟩
  obtain ⟨h, hhh⟩ : ∃ h, h32 d = h := ⟨_, rfl⟩
  change (a32 d).ok ∧ (a32 d).thin at oa
  change (b32 d).ok ∧ (b32 d).thin at ob
  simp only [htt, haa, hbb, hhh] at hg va vb ha hb hM ht oa ob
  have hor := ovErr_or ha.gr hb.gl
  have hOv := concurrent_Overlaps t ht a b oa.1 ob.1 oa.2 ob.2
  have hE : rOvlE t a b = ovErr a.right.graph b.left.graph := if_neg (by rw [hg]; simp)
  have hmem : ∀ o ∈ rOvlL t a b, wholeE a b o = 0 := fun o ho => by
    unfold rOvlL at ho
    split at ho
    ·unfold rOvl at ho; simpa using (List.mem_filter.1 ho).2
    ·cases ho
  have hlen : (rOvlL t a b).length ≤ 2000 := by
    unfold rOvlL
    split
    ·unfold rOvl; exact Nat.le_trans (List.length_filter_le _ _) (ovL_le _ _)
    ·simp
  obtain ⟨ls, hls⟩ : ∃ ls, rOvlL t a b = ls := ⟨_, rfl⟩
  rw [hls] at hOv hmem hlen
  refine Tz.pK ⟨fun t => t == 5 || t == 6 || t == 7 || t == 8 || t == 11 || t == 12 || t == 34, fun _ => []⟩ Tryz.func5 rfl (fun Q hQ => ?_)
  try simp -implicitDefEqProofs [go_sem, seval, Rule.c, Ovl.c, Dr32.c, Dr24.c, Dr15.c, Host.d, Host.c]
  repeat first | intro _ | refine ⟨obs, ?_⟩
  refine callQ_pure0 (law32_awake) ((by first | rfl | (simp [go_sem, ← List.map_take, ← List.map_drop, Rule.c, Ovl.c, Dr32.c, Dr24.c, Dr15.c, Host.d, Host.c]; done))) ?_
  try simp -implicitDefEqProofs [go_sem, seval, Rule.c, Ovl.c, Dr32.c, Dr24.c, Dr15.c, Host.d, Host.c]
  repeat first | intro _ | refine ⟨obs, ?_⟩
  refine callQ_pure0 (hM) ((by first | rfl | (simp [go_sem, ← List.map_take, ← List.map_drop, Rule.c, Ovl.c, Dr32.c, Dr24.c, Dr15.c, Host.d, Host.c]; done))) ?_
  try simp -implicitDefEqProofs [go_sem, seval, Rule.c, Ovl.c, Dr32.c, Dr24.c, Dr15.c, Host.d, Host.c]
  repeat first | intro _ | refine ⟨obs, ?_⟩
  refine callQ_pure0 (hOv) ((by first | rfl | (simp [go_sem, ← List.map_take, ← List.map_drop, Rule.c, Ovl.c, Dr32.c, Dr24.c, Dr15.c, Host.d, Host.c]; done))) ?_
  try simp -implicitDefEqProofs [go_sem, seval, Rule.c, Ovl.c, Dr32.c, Dr24.c, Dr15.c, Host.d, Host.c]
  repeat first | intro _ | refine ⟨obs, ?_⟩
  refine condQ_mk (fun h5 => ?_) (fun h5 => ?_)
  · try simp [go_sem] at h5
    have h53 : (decide (rOvlE t a b = 0) || decide (rOvlE t a b = 3)) = true := by rw [hE]; rcases hor with q | q <;> rw [q] <;> rfl
    try simp -implicitDefEqProofs [go_sem, seval, Rule.c, Ovl.c, Dr32.c, Dr24.c, Dr15.c, Host.d, Host.c]
    repeat first | intro _ | refine ⟨obs, ?_⟩
    exact hQ _ _ (by first | (left; (simp [go_sem]; simpa using h53); done) | (right; (simp [go_sem]; simpa using h53); done))
  · try simp [go_sem] at h5
    have hpos : 0 < ls.length := by have := h5.2; cases ls with
     | nil => simp at this
     | cons y r => simp
    have hlne : ls ≠ [] := List.length_pos_iff.1 hpos
    have tm := tmod_in (show 0 ≤ (x.toNat : Int) by omega) (show (0 : Int) < ls.length by omega)
    obtain ⟨k, hk⟩ : ∃ k, k = ((x.toNat : Int).tmod ls.length).toNat := ⟨_, rfl⟩
    have hkl : ((x.toNat : Int).tmod ls.length).toNat < ls.length := by omega
    obtain ⟨o, ho⟩ : ∃ o, ls[((x.toNat : Int).tmod ls.length).toNat] = o := ⟨_, rfl⟩
    have hw : wholeE a b o = 0 := hmem o (by rw [← ho]; exact lgm _)
    obtain ⟨hpp, _, _⟩ := whole_parts hw
    have gk := parts_ok hpp
    have hre : rErr t a b o = 0 := by unfold rErr; rw [if_neg (by rw [hg]; simp), hw]
    have hRu := concurrent_Rule t ht a b o oa.1 ob.1 oa.2 ob.2
    rw [hre] at hRu
    have hD0 := rule_Deleted0 t ht (rRule t a b o) (rRule_ok hre) (rRule_valid hre)
    have hC0 := rule_Created0 t ht (rRule t a b o) (rRule_ok hre) (rRule_valid hre)
    have hV1 := ref06_Valid a.right.graph o.graph o.left
    have hV2 := ref06_Valid b.left.graph o.graph o.right
    rw [gk.m1] at hV1
    rw [gk.m2] at hV2
    have hcc := conc_counts ha hb hpp
    have hZ : rRule t a b o = concOf (refL a b o (partsD a b o) (partsF a b o)) (refR a b o (partsD a b o) (partsF a b o)) (partsD a b o) (partsF a b o) := by
     unfold rRule wholeR; rw [if_neg (by rw [hg]; simp), if_pos hw]
    have hc1 : ((rRule t a b o).goneN.length : Int) = a.goneN.length + b.goneN.length - bothN a b o := by rw [hZ]; exact hcc.1
    have hc2 : ((rRule t a b o).freshN.length : Int) = a.freshN.length + b.freshN.length - bothN a b o := by rw [hZ]; exact hcc.2
    obtain ⟨R, hRR⟩ : ∃ R, rRule t a b o = R := ⟨_, rfl⟩
    rw [hRR] at hRu hD0 hC0 hc1 hc2
    have b1 := othersL_len a.into.nodes a.right.graph.nodes.length
    have b2 := othersL_len b.keep.nodes b.left.graph.nodes.length
    have b3 := othersL_len a.keep.nodes a.left.graph.nodes.length
    have b4 := othersL_len b.into.nodes b.right.graph.nodes.length
    have g1 := graphF_le ha.gl
    have g2 := graphF_le ha.gr
    have g3 := graphF_le hb.gl
    have g4 := graphF_le hb.gr
    have b1' : a.freshN.length ≤ 40 := by unfold Rule.freshN; omega
    have b2' : b.goneN.length ≤ 40 := by unfold Rule.goneN; omega
    have b3' : a.goneN.length ≤ 40 := by unfold Rule.goneN; omega
    have b4' : b.freshN.length ≤ 40 := by unfold Rule.freshN; omega
    have hbn := cntF_le a b o a.freshN.length
    rw [cntF_end] at hbn
    obtain ⟨_, _, ll1, _⟩ := morphF_len gk.m1
    obtain ⟨_, _, ll2, _⟩ := morphF_len gk.m2
    try simp -implicitDefEqProofs [go_sem, seval, Rule.c, Ovl.c, Dr32.c, Dr24.c, Dr15.c, Host.d, Host.c, lge hkl, ho, hlne]
    repeat first | intro _ | refine ⟨obs, ?_⟩
    refine callQ_pure0 (hRu) ((by first | rfl | (simp [go_sem, ← List.map_take, ← List.map_drop, Rule.c, Ovl.c, Dr32.c, Dr24.c, Dr15.c, Host.d, Host.c, lge hkl, ho, hlne]; done))) ?_
    try simp -implicitDefEqProofs [go_sem, seval, Rule.c, Ovl.c, Dr32.c, Dr24.c, Dr15.c, Host.d, Host.c, lge hkl, ho, hlne]
    repeat first | intro _ | refine ⟨obs, ?_⟩
    refine callQ_pure0 (hD0) ((by first | rfl | (simp [go_sem, ← List.map_take, ← List.map_drop, Rule.c, Ovl.c, Dr32.c, Dr24.c, Dr15.c, Host.d, Host.c, lge hkl, ho, hlne]; done))) ?_
    try simp -implicitDefEqProofs [go_sem, seval, Rule.c, Ovl.c, Dr32.c, Dr24.c, Dr15.c, Host.d, Host.c, lge hkl, ho, hlne]
    repeat first | intro _ | refine ⟨obs, ?_⟩
    refine callQ_pure0 (hC0) ((by first | rfl | (simp [go_sem, ← List.map_take, ← List.map_drop, Rule.c, Ovl.c, Dr32.c, Dr24.c, Dr15.c, Host.d, Host.c, lge hkl, ho, hlne]; done))) ?_
    try simp -implicitDefEqProofs [go_sem, seval, Rule.c, Ovl.c, Dr32.c, Dr24.c, Dr15.c, Host.d, Host.c, lge hkl, ho, hlne]
    repeat first | intro _ | refine ⟨obs, ?_⟩
    refine callQ_pure0 (rule_Deleted0 t ht a oa.1 va) ((by first | rfl | (simp [go_sem, ← List.map_take, ← List.map_drop, Rule.c, Ovl.c, Dr32.c, Dr24.c, Dr15.c, Host.d, Host.c, lge hkl, ho, hlne]; done))) ?_
    try simp -implicitDefEqProofs [go_sem, seval, Rule.c, Ovl.c, Dr32.c, Dr24.c, Dr15.c, Host.d, Host.c, lge hkl, ho, hlne]
    repeat first | intro _ | refine ⟨obs, ?_⟩
    refine callQ_pure0 (rule_Created0 t ht a oa.1 va) ((by first | rfl | (simp [go_sem, ← List.map_take, ← List.map_drop, Rule.c, Ovl.c, Dr32.c, Dr24.c, Dr15.c, Host.d, Host.c, lge hkl, ho, hlne]; done))) ?_
    try simp -implicitDefEqProofs [go_sem, seval, Rule.c, Ovl.c, Dr32.c, Dr24.c, Dr15.c, Host.d, Host.c, lge hkl, ho, hlne]
    repeat first | intro _ | refine ⟨obs, ?_⟩
    refine callQ_pure0 (rule_Deleted0 t ht b ob.1 vb) ((by first | rfl | (simp [go_sem, ← List.map_take, ← List.map_drop, Rule.c, Ovl.c, Dr32.c, Dr24.c, Dr15.c, Host.d, Host.c, lge hkl, ho, hlne]; done))) ?_
    try simp -implicitDefEqProofs [go_sem, seval, Rule.c, Ovl.c, Dr32.c, Dr24.c, Dr15.c, Host.d, Host.c, lge hkl, ho, hlne]
    repeat first | intro _ | refine ⟨obs, ?_⟩
    refine callQ_pure0 (rule_Created0 t ht b ob.1 vb) ((by first | rfl | (simp [go_sem, ← List.map_take, ← List.map_drop, Rule.c, Ovl.c, Dr32.c, Dr24.c, Dr15.c, Host.d, Host.c, lge hkl, ho, hlne]; done))) ?_
    try simp -implicitDefEqProofs [go_sem, seval, Rule.c, Ovl.c, Dr32.c, Dr24.c, Dr15.c, Host.d, Host.c, lge hkl, ho, hlne]
    repeat first | intro _ | refine ⟨obs, ?_⟩
    refine callQ_pure0 (hV1) ((by first | rfl | (simp [go_sem, ← List.map_take, ← List.map_drop, Rule.c, Ovl.c, Dr32.c, Dr24.c, Dr15.c, Host.d, Host.c, lge hkl, ho, hlne]; done))) ?_
    try simp -implicitDefEqProofs [go_sem, seval, Rule.c, Ovl.c, Dr32.c, Dr24.c, Dr15.c, Host.d, Host.c, lge hkl, ho, hlne]
    repeat first | intro _ | refine ⟨obs, ?_⟩
    refine gcallQ_pure0 (fun hg => hV2) (fun hg => (by first | rfl | (simp [go_sem, ← List.map_take, ← List.map_drop, Rule.c, Ovl.c, Dr32.c, Dr24.c, Dr15.c, Host.d, Host.c, lge hkl, ho, hlne]; done))) ?_
    try simp -implicitDefEqProofs [go_sem, seval, Rule.c, Ovl.c, Dr32.c, Dr24.c, Dr15.c, Host.d, Host.c, lge hkl, ho, hlne]
    repeat first | intro _ | refine ⟨obs, ?_⟩
    obtain ⟨I0, hI0⟩ := mkI fun i e H => ((e 11 = .ptr 4 1 0 0) ∧ (e 14 = dLI R.goneN) ∧ (e 17 = dLI R.freshN) ∧ (e 20 = dLI a.goneN) ∧ (e 23 = dLI a.freshN) ∧ (e 26 = dLI b.goneN) ∧ (e 29 = dLI b.freshN) ∧ (e 32 = dI (cntF a b o i)) ∧ (e 168 = dLI a.freshN) ∧ (e 169 = dI a.freshN.length) ∧ (e 170 = dI i) ∧ (H.get 4 = some ⟨45, 6, [o.c], false⟩) ∧ (4 < H.next) ∧ (i ≤ a.freshN.length))
    refine loopK I0 (fun i => a.freshN.length - i) (0) ((hI0 _ _ _).2 ⟨?_, ?_, ?_, ?_, ?_, ?_, ?_, ?_, ?_, ?_, ?_, ?_, ?_, (by first | assumption | omega | (simp [go_sem, Rule.c, Ovl.c, Dr32.c, Dr24.c, Dr15.c, Host.d, Host.c, lge hkl, ho, hlne]; done) | (simp_all; done))⟩) ?_
    iterate 13 (first | omega | (simp [go_sem, seval, Rule.c, Ovl.c, Dr32.c, Dr24.c, Dr15.c, Host.d, Host.c, lge hkl, ho, hlne] <;> omega))
    intro i e H hi0
    obtain ⟨q11_0, q14_0, q17_0, q20_0, q23_0, q26_0, q29_0, q32_0, q168_0, q169_0, q170_0, g4_0, n4_0, hi⟩ := (hI0 _ _ _).1 hi0
    have x4 := frs n4_0
    have F0 := And.intro q11_0 (And.intro q14_0 (And.intro q17_0 (And.intro q20_0 (And.intro q23_0 (And.intro q26_0 (And.intro q29_0 (And.intro q32_0 (And.intro q168_0 (And.intro q169_0 (And.intro q170_0 (And.intro g4_0 x4)))))))))))
    try simp -implicitDefEqProofs [go_sem, seval, Rule.c, Ovl.c, Dr32.c, Dr24.c, Dr15.c, Host.d, Host.c, lge hkl, ho, hlne, F0]
    refine condQ_mk (fun h21 => ?_) (fun h21 => ?_)
    ·try simp [go_sem] at h21
     have hcs := cntF_succ a b o h21
     have hcl := cntF_le a b o i
     have hnr := othersL_mem (lgm h21)
     have hcf := containsFunc_int b.goneN 21 [.adr [dI a.freshN[i]], .adr o.c] (fun y => decide (iA o.left.nodes a.freshN[i] = iA o.right.nodes y)) (by simp [go_sem, Ovl.c]) (by simp [go_sem]) (fun y hy => law32_Counts1 o a.freshN[i] y (by omega) (by have := othersL_mem hy; omega))
     obtain ⟨vb', hvb⟩ : ∃ vb', (b.goneN.any fun y => decide (iA o.left.nodes a.freshN[i] = iA o.right.nodes y)) = vb' := ⟨_, rfl⟩
     rw [hvb] at hcf hcs
     try simp -implicitDefEqProofs [go_sem, seval, Rule.c, Ovl.c, Dr32.c, Dr24.c, Dr15.c, Host.d, Host.c, lge hkl, ho, hlne, F0, h21, lge h21]
     repeat first | intro _ | refine ⟨obs, ?_⟩
     refine callQ_pureC (hcf) (by simp [rsvC, rsvP, cellsAt, go_sem, ← List.map_take, ← List.map_drop, Rule.c, Ovl.c, Dr32.c, Dr24.c, Dr15.c, Host.d, Host.c, lge hkl, ho, hlne, F0, h21, lge h21]) ((by first | rfl | (simp [go_sem, ← List.map_take, ← List.map_drop, Rule.c, Ovl.c, Dr32.c, Dr24.c, Dr15.c, Host.d, Host.c, lge hkl, ho, hlne, F0, h21, lge h21]; done))) ( rfl) ?_
     try simp -implicitDefEqProofs [go_sem, seval, Rule.c, Ovl.c, Dr32.c, Dr24.c, Dr15.c, Host.d, Host.c, lge hkl, ho, hlne, F0, h21, lge h21]
     repeat first | intro _ | refine ⟨obs, ?_⟩
     refine condQ_mk (fun h23 => ?_) (fun h23 => ?_)
     ·try simp [go_sem] at h23
      rw [if_pos h23] at hcs
      try simp -implicitDefEqProofs [go_sem, seval, Rule.c, Ovl.c, Dr32.c, Dr24.c, Dr15.c, Host.d, Host.c, lge hkl, ho, hlne, F0, h21, lge h21, hcs]
      repeat first | intro _ | refine ⟨obs, ?_⟩
      refine nextQ_mk (i + 1) (by omega) ((hI0 _ _ _).2 ⟨?_, ?_, ?_, ?_, ?_, ?_, ?_, ?_, ?_, ?_, ?_, ?_, ?_, (by first | assumption | omega | (simp [go_sem, Rule.c, Ovl.c, Dr32.c, Dr24.c, Dr15.c, Host.d, Host.c, lge hkl, ho, hlne, F0, h21, lge h21, hcs, h5, h23]; done) | (simp_all <;> omega))⟩) <;> first | omega | (simp [go_sem, seval, Rule.c, Ovl.c, Dr32.c, Dr24.c, Dr15.c, Host.d, Host.c, lge hkl, ho, hlne, F0, h21, lge h21, hcs] <;> omega)
     ·try simp [go_sem] at h23
      rw [if_neg (by rw [h23]; simp), Nat.add_zero] at hcs
      try simp -implicitDefEqProofs [go_sem, seval, Rule.c, Ovl.c, Dr32.c, Dr24.c, Dr15.c, Host.d, Host.c, lge hkl, ho, hlne, F0, h21, lge h21, hcs]
      repeat first | intro _ | refine ⟨obs, ?_⟩
      refine nextQ_mk (i + 1) (by omega) ((hI0 _ _ _).2 ⟨?_, ?_, ?_, ?_, ?_, ?_, ?_, ?_, ?_, ?_, ?_, ?_, ?_, (by first | assumption | omega | (simp [go_sem, Rule.c, Ovl.c, Dr32.c, Dr24.c, Dr15.c, Host.d, Host.c, lge hkl, ho, hlne, F0, h21, lge h21, hcs, h5, h23]; done) | (simp_all <;> omega))⟩) <;> first | omega | (simp [go_sem, seval, Rule.c, Ovl.c, Dr32.c, Dr24.c, Dr15.c, Host.d, Host.c, lge hkl, ho, hlne, F0, h21, lge h21, hcs] <;> omega)
    ·try simp [go_sem] at h21
     have hie : i = a.freshN.length := by omega
     subst hie
     have hce := cntF_end a b o
     try simp -implicitDefEqProofs [go_sem, seval, Rule.c, Ovl.c, Dr32.c, Dr24.c, Dr15.c, Host.d, Host.c, lge hkl, ho, hlne, F0, hce]
     repeat first | intro _ | refine ⟨obs, ?_⟩
     have e1 : (R.goneN.length : Int) = a.goneN.length + b.goneN.length - bothN a b o := hc1
     exact hQ _ _ (by first | (left; (simp [go_sem, Rule.c, Ovl.c, Dr32.c, Dr24.c, Dr15.c, Host.d, Host.c, lge hkl, ho, hlne, F0, hce, hc1, hc2]); done) | (right; (simp [go_sem, Rule.c, Ovl.c, Dr32.c, Dr24.c, Dr15.c, Host.d, Host.c, lge hkl, ho, hlne, F0, hce, hc1, hc2]); done))
end Go.Abs
end
section
namespace Go.Abs
open Go.ChangeShapes Go.WideShapes Go.RowKit
structure Bulk {H : Type} (bulk : DataW H → Nat) : Prop where
  len : ∀ e s, e.length ≤ bulk (.slice e s)
  el : ∀ e s, ∀ d ∈ e, bulk d ≤ bulk (.slice e s)
  part : ∀ l, ∀ d ∈ l, bulk d ≤ bulk (.agg l)
  str : ∀ s : List UInt8, s.length ≤ bulk (.lit (.string s))
abbrev noM : Nat → Prop := fun _ => False
section
variable {H : Type} {enc : TypeId × Value → H} {P : Program} {w : World} {base : Nat} {spare : Nat → Bool} {held : Bool} {bulk : DataW H → Nat} {B : Nat}
def Opens (enc : TypeId × Value → H) (P : Program) (w : World) (base : Nat) (spare : Nat → Bool) (held : Bool) (bulk : DataW H → Nat) (B : Nat) (n : Nat) (t : TypeId) {α : Type} (C : α → List D) (G : α → Prop) : Prop :=
  ∀ (fuel : Nat) (cs : List Value) (x : DataW H × List MemPlace), fuel ≤ n → DataW.trod enc P w base spare held fuel t cs = some x → bulk x.1 ≤ B →
    ∃ a, G a ∧ RepL noM noRef noId w cs (C a) ∧ ∀ u ∈ cs, u.oneCell' = true
variable {n : Nat} {t : TypeId}
theorem Opens.mono {α : Type} {C : α → List D} {G : α → Prop} {m : Nat} (h : Opens enc P w base spare held bulk B n t C G) (hm : m ≤ n) : Opens enc P w base spare held bulk B m t C G :=
  fun fuel cs x hf hx hb => h fuel cs x (Nat.le_trans hf hm) hx hb
theorem Opens.zero {α : Type} {C : α → List D} {G : α → Prop} : Opens enc P w base spare held bulk B 0 t C G := fun fuel cs x hf hx _ => by
  have : fuel = 0 := by omega
  subst this
  simp [DataW.trod] at hx
theorem Opens.map {α β : Type} {C : α → List D} {G : α → Prop} {C' : β → List D} {G' : β → Prop} (h : Opens enc P w base spare held bulk B n t C G) (f : α → β) (hC : ∀ a, C a = C' (f a)) (hG : ∀ a, G a → G' (f a)) : Opens enc P w base spare held bulk B n t C' G' :=
  fun fuel cs x hf hx hb => by
    obtain ⟨a, h1, h2, h3⟩ := h fuel cs x hf hx hb
    exact ⟨f a, hG a h1, by rw [← hC]; exact h2, h3⟩
theorem repL_one {v : Value} {d : D} (h : RepV noM noRef noId w v d) : RepL noM noRef noId w [v] [d] :=
  ⟨rfl, fun j u x hu hx => by
    cases j with
    | zero => simp at hu hx; subst hu; subst hx; exact h
    | succ j => simp at hu⟩
theorem repL_app {a b : List Value} {c d : List D} (h : RepL noM noRef noId w a c) (k : RepL noM noRef noId w b d) : RepL noM noRef noId w (a ++ b) (c ++ d) := by
  refine ⟨by simp [h.len, k.len], fun j u x hu hx => ?_⟩
  by_cases hj : j < a.length
  · rw [List.getElem?_append_left hj] at hu
    rw [List.getElem?_append_left (by rw [← h.len]; exact hj)] at hx
    exact h.rep j u x hu hx
  · rw [List.getElem?_append_right (by omega)] at hu
    rw [List.getElem?_append_right (by rw [← h.len]; omega), ← h.len] at hx
    exact k.rep _ u x hu hx
theorem opens_bool (ht : P.underlying t = some .bool) : Opens enc P w base spare held bulk B n t (fun b : Bool => [D.bool b]) (fun _ => True) := fun fuel cs x _ hx _ => by
  obtain ⟨b, rfl, _⟩ := DataW.trod_bool ht hx
  exact ⟨b, trivial, repL_one (.bool b), by simp [Value.oneCell']⟩
theorem rows {α : Type} {C : α → List D} {G : α → Prop} {ad : Addr} {sz : Nat} : ∀ (len : Nat),
    (∀ i, i < len → ∃ c a, w.cells? base (ad.add (i * sz)) sz = some c ∧ G a ∧ RepL noM noRef noId w c (C a) ∧ ∀ u ∈ c, u.oneCell' = true) →
    ∃ (l : List α) (xs : List Value), l.length = len ∧ (∀ a ∈ l, G a) ∧ RepL noM noRef noId w xs (l.map C).flatten ∧ (∀ u ∈ xs, u.oneCell' = true) ∧ xs.length = len * sz ∧
      (∀ (j : Nat) (u : Value), xs[j]? = some u → w.cell? (ad.add j) = some u) ∧ ∀ c ∈ l.map C, c.length = sz
  | 0, _ => ⟨[], [], rfl, by simp, ⟨rfl, fun j u d hu => by simp at hu⟩, by simp, by simp, by simp, by simp⟩
  | len + 1, h => by
    obtain ⟨l, xs, h1, h2, h3, h4, h5, h6, h7⟩ := rows len fun i hi => h i (by omega)
    obtain ⟨c, a, hc, hg, hr, h1c⟩ := h len (by omega)
    obtain ⟨_, hcl, hcell⟩ := World.cells?_some hc
    refine ⟨l ++ [a], xs ++ c, by simp [h1], fun b hb => ?_, ?_, fun u hu => ?_, by rw [List.length_append, h5, hcl, Nat.succ_mul], fun j u hu => ?_, fun b hb => ?_⟩
    · rcases List.mem_append.1 hb with h | h
      · exact h2 b h
      · simp at h; subst h; exact hg
    · rw [List.map_append, List.flatten_append]
      refine repL_app h3 ?_
      simpa using hr
    · rcases List.mem_append.1 hu with h | h
      · exact h4 u h
      · exact h1c u h
    · by_cases hj : j < xs.length
      · rw [List.getElem?_append_left hj] at hu; exact h6 j u hu
      · rw [List.getElem?_append_right (by omega)] at hu
        have hlt : j - xs.length < sz := by rw [← hcl]; exact (List.getElem?_eq_some_iff.1 hu).1
        have := hcell (j - xs.length) hlt
        rw [Addr.add_add, hu] at this
        rwa [show len * sz + (j - xs.length) = j by omega] at this
    · rw [List.map_append] at hb
      rcases List.mem_append.1 hb with h | h
      · exact h7 b h
      · simp at h; subst h; rw [← hr.len, hcl]
theorem opens_slice (hB : Bulk bulk) {e : TypeId} (ht : P.underlying t = some (.slice e)) {α : Type} {C : α → List D} {G : α → Prop} (h : Opens enc P w base spare held bulk B n e C G) :
    Opens enc P w base spare held bulk B (n + 1) t (fun l : List α => [.list (l.map C)]) (fun l => l.length ≤ B ∧ ∀ a ∈ l, G a) := fun fuel cs x hf hx hb => by
  rcases DataW.trod_slice ht hx with ⟨rfl, rfl⟩ | ⟨ad, len, cap, elems, rest, m, rfl, rfl, rfl, hbase, hlc, hcap, hlen, hel, _, _⟩
  · exact ⟨[], ⟨Nat.zero_le _, by simp⟩, repL_one .listN, by simp [Value.oneCell']⟩
  · simp only at hb
    have hb1 := hB.len (elems.map (·.1)) (rest.map (·.1))
    rw [List.length_map] at hb1
    obtain ⟨l, xs, h1, h2, h3, h4, h5, h6, h7⟩ := rows (w := w) (base := base) (C := C) (G := G) (ad := ad) (sz := P.cellsOf e) len fun i hi => by
      have := hel i hi
      rw [lge (by omega), Option.bind_eq_some_iff] at this
      obtain ⟨c, hc, hd⟩ := this
      obtain ⟨a, g1, g2, g3⟩ := h m c _ (by omega) hd (Nat.le_trans (hB.el _ (rest.map (·.1)) _ (List.mem_map.2 ⟨_, lgm (by omega), rfl⟩)) hb)
      exact ⟨c, a, hc, g1, g2, g3⟩
    refine ⟨l, ⟨by omega, h2⟩, repL_one ?_, by simp [Value.oneCell']⟩
    have key := RepV.list (M := noM) (σ := noRef) (N := noId) (w := w) ad cap (P.cellsOf e) xs (l.map C) (by rw [List.length_map]; omega) hcap h7 h3.len h4 (fun j u hu => ⟨fun h => h, h6 j u hu⟩) h3.rep
    rw [List.length_map, h1] at key
    exact key
def Segs (enc : TypeId × Value → H) (P : Program) (w : World) (base : Nat) (spare : Nat → Bool) (held : Bool) (bulk : DataW H → Nat) (B n : Nat) : List TypeId → List Value → Prop
  | [], cs => cs = []
  | t :: ts, cs => (∃ y, DataW.trod enc P w base spare held n t (cs.take (P.cellsOf t)) = some y ∧ bulk y.1 ≤ B) ∧ Segs enc P w base spare held bulk B n ts (cs.drop (P.cellsOf t))
def OpensL (enc : TypeId × Value → H) (P : Program) (w : World) (base : Nat) (spare : Nat → Bool) (held : Bool) (bulk : DataW H → Nat) (B : Nat) (n : Nat) (ts : List TypeId) {α : Type} (C : α → List D) (G : α → Prop) : Prop :=
  ∀ (fuel : Nat) (cs : List Value), fuel ≤ n → Segs enc P w base spare held bulk B fuel ts cs → ∃ a, G a ∧ RepL noM noRef noId w cs (C a) ∧ ∀ u ∈ cs, u.oneCell' = true
theorem opensL_nil : OpensL enc P w base spare held bulk B n [] (fun _ : Unit => []) (fun _ => True) := fun fuel cs _ h => by
  have h : cs = [] := h
  subst h
  exact ⟨(), trivial, ⟨rfl, fun j u d hu => by simp at hu⟩, by simp⟩
theorem opensL_cons {ts : List TypeId} {α β : Type} {C : α → List D} {G : α → Prop} {C' : β → List D} {G' : β → Prop} (h : Opens enc P w base spare held bulk B n t C G) (k : OpensL enc P w base spare held bulk B n ts C' G') :
    OpensL enc P w base spare held bulk B n (t :: ts) (fun p : α × β => C p.1 ++ C' p.2) (fun p => G p.1 ∧ G' p.2) := fun fuel cs hf hs => by
  obtain ⟨⟨y, hy, hyb⟩, hs⟩ := hs
  obtain ⟨a, a1, a2, a3⟩ := h fuel _ y hf hy hyb
  obtain ⟨b, b1, b2, b3⟩ := k fuel _ hf hs
  refine ⟨(a, b), ⟨a1, b1⟩, ?_, fun u hu => ?_⟩
  · have := repL_app a2 b2
    rwa [List.take_append_drop] at this
  · rw [← List.take_append_drop (P.cellsOf t) cs] at hu
    rcases List.mem_append.1 hu with h | h
    · exact a3 u h
    · exact b3 u h
def offs (P : Program) : Nat → List Field → Option Nat
  | o, [] => some o
  | o, f :: r => if f.offset = o then offs P (o + P.cellsOf f.type) r else none
theorem segs_of {fuel : Nat} {cs : List Value} : ∀ (fs : List Field) (o : Nat), offs P o fs = some cs.length →
    (∀ f ∈ fs, ∃ y, DataW.trod enc P w base spare held fuel f.type ((cs.drop f.offset).take (P.cellsOf f.type)) = some y ∧ bulk y.1 ≤ B) → o ≤ cs.length ∧ Segs enc P w base spare held bulk B fuel (fs.map (·.type)) (cs.drop o)
  | [], o, ho, _ => by
    simp only [offs, Option.some.injEq] at ho
    subst ho
    exact ⟨Nat.le_refl _, by show cs.drop cs.length = []; simp⟩
  | f :: fs, o, ho, h => by
    unfold offs at ho
    split at ho
    · rename_i hof
      subst hof
      obtain ⟨h1, h2⟩ := segs_of fs _ ho fun g hg => h g (by simp [hg])
      refine ⟨by omega, ?_⟩
      refine ⟨h f (by simp), ?_⟩
      rw [List.drop_drop]
      exact h2
    · cases ho
theorem opens_struct (hB : Bulk bulk) {fs : Array Field} (ht : P.underlying t = some (.struct fs)) (ho : offs P 0 fs.toList = some (P.cellsOf t)) {α : Type} {C : α → List D} {G : α → Prop} (h : OpensL enc P w base spare held bulk B n (fs.toList.map (·.type)) C G) :
    Opens enc P w base spare held bulk B (n + 1) t C G := fun fuel cs x hf hx hb => by
  obtain ⟨xs, m, rfl, rfl, hcl, hxl, hfl⟩ := DataW.trod_struct ht hx
  simp only at hb
  have hs := (segs_of (enc := enc) (P := P) (w := w) (base := base) (spare := spare) (held := held) (bulk := bulk) (B := B) (fuel := m) (cs := cs) fs.toList 0 (by rw [hcl]; exact ho) fun f hfm => by
    obtain ⟨i, hi, rfl⟩ := List.getElem_of_mem hfm
    have hi' : i < fs.size := by simpa using hi
    have hfi := hfl i (fs.toList[i]) (by simp [hi'])
    rw [lge (by omega)] at hfi
    exact ⟨_, hfi, Nat.le_trans (hB.part _ _ (List.mem_map.2 ⟨_, lgm (by omega), rfl⟩)) hb⟩).2
  rw [List.drop_zero] at hs
  exact h m cs (by omega) hs
theorem arg_struct {r : Reach} {b0 : Nat} {fs : Array Field} {v : Value} {d : DataW H} {ps : List MemPlace} {α : Type} {C : α → List D} {G : α → Prop} (ht : P.underlying t = some (.struct fs)) (h : ∀ n, Opens enc P w base spare held bulk B n t C G)
    (hval : Value.okWide P w r b0 t v) (hd : DataW.Trod enc P w base spare held t v d ps) (hb : bulk d ≤ B) : ∃ a, G a ∧ RepV noM noRef noId w v (.agg (C a)) := by
  obtain ⟨cs, rfl, _⟩ := okWide_struct ht hval
  obtain ⟨fuel, hf⟩ := hd
  obtain ⟨a, h1, h2, h3⟩ := h fuel fuel _ _ (Nat.le_refl _) hf hb
  have hc : (Value.agg cs).cells.toList = cs.toList := rfl
  rw [hc] at h2 h3
  have := RepV.agg (M := noM) (σ := noRef) (N := noId) (w := w) cs.toList (C a) h2.len h3 h2.rep
  exact ⟨a, h1, by simpa using this⟩
theorem arg_int {r : Reach} {b0 : Nat} {k : IntKind} {v : Value} {d : DataW H} {ps : List MemPlace} (ht : P.underlying t = some (.int k)) (hval : Value.okWide P w r b0 t v) (hd : DataW.Trod enc P w base spare held t v d ps) :
    ∃ z, (Lit.int k z).wf = true ∧ RepV noM noRef noId w v (.int k z) := by
  obtain ⟨z, rfl, _, _, hw⟩ := open_int ht hval hd
  exact ⟨z, hw, .int k z⟩
/-! ### the end -/
theorem trodAll_stays (hl : laidOutB P = true) {W W' : World} {sp' : Nat → Bool} (hb : Below W.heap.size W W') : ∀ {ts : List TypeId} {vs : List Value} {ds : List (DataW H)} {ps : List MemPlace}, (∀ t ∈ ts, P.readableRec t = true ∧ t < P.types.size) →
    DataW.TrodAll enc P W 0 (fun _ => true) true ts vs ds ps → (∀ x ∈ ps, x.block < W.heap.size) → (∀ x ∈ ps, sp' x.block = true) → DataW.TrodAll enc P W' 0 sp' true ts vs ds ps
  | [], _, _, _, _, h, _, _ => by
    obtain ⟨rfl, rfl, rfl⟩ := trodAll_nil h
    rfl
  | t :: ts, _, _, _, hr, h, hlt, hs => by
    obtain ⟨v, vs, d, ds, p, q, rfl, rfl, rfl, h1, h2⟩ := trodAll_cons h
    refine ⟨p, q, WideElems.Trod_stays hl (hr t (by simp)).1 (hr t (by simp)).2 h1 (fun x hx => hb.same (hlt x (by simp [hx]))) (fun x hx => hs x (by simp [hx])), trodAll_stays hl hb (fun u hu => hr u (by simp [hu])) h2 (fun x hx => hlt x (by simp [hx])) (fun x hx => hs x (by simp [hx])), rfl⟩
theorem post_of_below (hl : laidOutB P = true) {f : Func} {s : ChangeSpec} {apart fresh handsOn again : Bool} {W W' : World} {args : Array Value} {v : Value} {ds gs : List (DataW H)} {before : List MemPlace}
    (hr : ∀ t ∈ f.params.toList, P.readableRec t = true ∧ t < P.types.size) (hvars : s.vars = []) (hW : DataW.Whole enc P f.params.toList s.vars apart W args.toList ds gs before)
    (hres : ∀ (b : Nat) (sp : Nat → Bool) (hd : Bool), DataW.TrodAll enc P W' b sp hd f.resultTypes.toList (v.resultList f.resultTypes.size) (s.fn H (ds ++ gs)).results [])
    (hargs : (s.fn H (ds ++ gs)).args = ds) (hvs : (s.fn H (ds ++ gs)).vars = []) (hb : Below W.heap.size W W')
    (hok : ∀ (j : Nat) (t : TypeId) (r : Value), f.resultTypes[j]? = some t → (v.resultList f.resultTypes.size)[j]? = some r → Value.okWide P W' .any 0 t r) :
    s.post enc P f apart fresh handsOn again W args v W' := by
  have hW' := hW
  obtain ⟨p, q, hA, hV, rfl, hz, hn⟩ := hW
  rw [hvars] at hV
  obtain ⟨rfl, rfl⟩ := trodVars_none hV
  rw [List.append_nil] at hW' hz hn
  have hlt : ∀ x ∈ p, x.block < W.heap.size := fun x hx => by simpa using hW'.lt x hx
  have hTr : ∀ sp : Nat → Bool, (∀ x ∈ p, sp x.block = true) → DataW.TrodAll enc P W' 0 sp true f.params.toList args.toList (s.fn H (ds ++ [])).args p := fun sp hs => by
    rw [hargs]; exact trodAll_stays hl hb hr hA hlt hs
  have hVr : ∀ sp : Nat → Bool, DataW.TrodVars enc P W' sp s.vars (s.fn H (ds ++ [])).vars [] := fun sp => by rw [hvars, hvs]; rfl
  refine ⟨ds, [], p, [], p, [], hW', hres _ _ _, hTr _ (fun x hx => by simpa using hlt x hx), hVr _, World.keptBut_mono (fun x hx => ⟨hx, .inr (by simpa using hx)⟩) (hb.frame (· ∈ p)), fun _ => ?_⟩
  refine ⟨hok, _, _, ([] ++ p) ++ [], ⟨[] ++ p, [], trodAll_append (hTr _ (fun _ _ => rfl)) (hres _ _ _), hVr _, rfl, ?_, ?_⟩, ?_⟩
  · intro b off hp
    have hp' : MemPlace.cell b off ∈ p := by simpa using hp
    have := hz b off hp'
    rw [← this]
    exact hb.frozen (hlt _ hp')
  · intro ha
    simpa using hn ha
  · intro x hx _
    simpa using hx
end
end Go.Abs
end
section
namespace Go.Proofs.YthnegcfdjjhfgaaGreat.bulks
theorem one_le {H : Type} (d : DataW H) : 1 ≤ Rows.uptoBulk d := by
  cases d with
  | lit l => cases l <;> simp [Rows.uptoBulk]
  | _ => simp [Rows.uptoBulk]
theorem mem_le {H : Type} {d : DataW H} : ∀ {l : List (DataW H)}, d ∈ l → Rows.uptoBulk d ≤ Rows.uptoBulkAll l
  | [], h => by cases h
  | x :: r, h => by
    simp only [Rows.uptoBulkAll]
    rcases List.mem_cons.1 h with rfl | h
    · omega
    · have := mem_le h; omega
theorem len_le {H : Type} : ∀ l : List (DataW H), l.length ≤ Rows.uptoBulkAll l
  | [] => by simp [Rows.uptoBulkAll]
  | x :: r => by have := one_le x; have := len_le r; simp only [Rows.uptoBulkAll, List.length_cons]; omega
theorem ok {H : Type} : Go.Abs.Bulk (Rows.uptoBulk (H := H)) where
  len e s := by have := len_le e; simp only [Rows.uptoBulk]; omega
  el e s d h := by have := mem_le h; simp only [Rows.uptoBulk]; omega
  part l d h := by have := mem_le h; simp only [Rows.uptoBulk]; omega
  str s := by simp [Rows.uptoBulk]
theorem bound {H : Type} {l : List (DataW H)} (hk : Rows.uptoSmall H l = true) : ∀ d ∈ l, Rows.uptoBulk d ≤ 1048576 := fun d hd => by
  have h := of_decide_eq_true hk
  have := mem_le hd
  omega
end Go.Proofs.YthnegcfdjjhfgaaGreat.bulks
end
