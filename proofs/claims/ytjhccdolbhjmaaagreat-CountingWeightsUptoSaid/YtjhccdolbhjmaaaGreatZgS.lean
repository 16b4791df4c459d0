/- The rules of drafts; the host of a draft. · Few and Light of -/
import Derived.Test.YtjhccdolbhjmaaaGreatZgE
import Derived.Test.YtjhccdolbhjmaaaGreatZgR
set_option linter.unusedVariables false
set_option linter.unusedSimpArgs false
section
set_option maxRecDepth 8000
set_option maxHeartbeats 4000000
open Go Go.Proofs
namespace Go.Abs
def made39 (t : Types) (l : List Dr24) : List Rule := (l.take 6).map (made24 t)
theorem ref39_Made (t : Types) (ht : t.fine) (l : List Dr24) : Pure Tryz.prog 49 [t.d, .list (l.map Dr24.c)] (.list ((made39 t l).map Rule.c)) := by
  refine Tz.pK ⟨fun t => t == 5, fun _ => []⟩ Tryz.func49 rfl (fun Q hQ => ?_)
  try simp [go_sem]
  obtain ⟨I0, hI0⟩ := mkI fun i e H => (∃ xs : List Rule, (e 2 = .adr t.c) ∧ (e 1 = .list (l.map Dr24.c)) ∧ (e 5 = .own 0 xs.length) ∧ (e 6 = dI i) ∧ (H.get 0 = some ⟨74, 25, xs.map Rule.c, false⟩) ∧ (0 < H.next) ∧ (i ≤ 6) ∧ (i ≤ l.length) ∧ (xs.length = i) ∧ (xs = (l.take i).map (made24 t)))
  refine loopK I0 (fun i => 6 - i) (0) ((hI0 _ _ _).2 ⟨([]), ?_, ?_, ?_, ?_, ?_, ?_, (by first | assumption | omega | (simp [go_sem]; done) | (simp_all; done)), (by first | assumption | omega | (simp [go_sem]; done) | (simp_all; done)), (by rfl), (by rfl)⟩) ?_
  iterate 6 (first | omega | (simp [go_sem] <;> omega))
  intro i e H hi0
  obtain ⟨xs, q2_0, q1_0, q5_0, q6_0, g0_0, n0_0, hi, hil, hxl, hx⟩ := (hI0 _ _ _).1 hi0
  have x0 := frs n0_0
  have F0 := And.intro q2_0 (And.intro q1_0 (And.intro q5_0 (And.intro q6_0 (And.intro g0_0 x0))))
  try simp [go_sem, F0, hxl]
  repeat first | intro _ | refine ⟨obs, ?_⟩
  refine condQ_mk (fun h3 => ?_) (fun h3 => ?_)
  · try simp [go_sem] at h3
    obtain ⟨R, hR⟩ : ∃ R, made24 t l[i] = R := ⟨_, rfl⟩
    have hRd : R.d = .agg R.c := rfl
    have hdl : (l[i].c).length = 15 := rfl
    have hdt : (l[i].c).take 15 = l[i].c := rfl
    have hRl : R.c.length = 25 := rfl
    try simp [go_sem, F0, hxl, h3, lge h3.1, hR, hRd, hRl, hdl, hdt]
    repeat first | intro _ | refine ⟨obs, ?_⟩
    refine dcq0 (ref24_Made t ht l[i]) ?_
    try simp [go_sem, F0, hxl, h3, lge h3.1, hR, hRd, hRl, hdl, hdt]
    repeat first | intro _ | refine ⟨obs, ?_⟩
    refine nextQ_mk (i + 1) (by omega) ((hI0 _ _ _).2 ⟨(xs ++ [made24 t l[i]]), ?_, ?_, ?_, ?_, ?_, ?_, (by first | assumption | omega | (simp [go_sem, F0, hxl, h3, lge h3.1, hR, hRd, hRl, hdl, hdt]; done) | (simp_all <;> omega)), (by first | assumption | omega | (simp [go_sem, F0, hxl, h3, lge h3.1, hR, hRd, hRl, hdl, hdt]; done) | (simp_all <;> omega)), (by (rw [List.length_append, hxl]; rfl)), (by (rw [map_take_succ _ h3.1, ← hx]))⟩) <;> first | omega | (simp [go_sem, F0, hxl, h3, lge h3.1, hR, hRd, hRl, hdl, hdt] <;> omega)
  · try simp [go_sem] at h3
    have hI : i = min 6 l.length := by omega
    have hfin : made39 t l = xs := by unfold made39; rw [hx, hI, List.take_eq_take_min]
    try simp [go_sem, F0, hxl]
    exact hQ _ _ (.inl (by simp [go_sem, F0, hxl, hfin]))
structure Host where
  graph : Graph
  values : List (List Int)
def Host.c (h : Host) : List D := [dLI h.graph.nodes, .list (h.graph.edges.map Edge.c), .list (h.values.map cL)]
def Host.d (h : Host) : D := .agg h.c
@[go_sem] theorem cLs_cl (l : List (List Int)) : D.clLL (l.map cL) = true := clLL_map _ (fun a => by simp [cL, D.clL, dLI_cl]) l
@[go_sem] theorem Host.cl (h : Host) : h.d.cl = true := by simp [Host.d, Host.c, D.cl, D.clL, dLI_cl, cLs_cl, edgesG_cl]
structure Dr15 where
  nodes : List B2
  edges : List B3
def Dr15.c (d : Dr15) : List D := [.list (d.nodes.map cP), .list (d.edges.map cT3)]
@[go_sem] theorem Dr15.cl (d : Dr15) : D.clL d.c = true := by simp [Dr15.c, D.clL, D.cl, cPs_cl, cT3s_cl]
def val15 (l : List Attr) (b : UInt8) (k : Nat) : Int := match l[k]? with | some a => a.low + ((b.toNat : Int) + 7 * (k : Int)).tmod (a.high - a.low + 1) | none => 0
def vals15 (l : List Attr) (b : UInt8) (k : Nat) : List Int := (List.range k).map (val15 l b)
def kind15 (t : Types) (x : B2) : Int := pickL (concL t) x.1
def row15 (t : Types) (x : B2) : List Int := vals15 (attrsT t (kind15 t x)) x.2 (attrsT t (kind15 t x)).length
def ns15 (t : Types) (ds : List B2) (k : Nat) : List Int := (List.range k).map fun i => kind15 t (nth2 ds i)
def vs15 (t : Types) (ds : List B2) (k : Nat) : List (List Int) := (List.range k).map fun i => row15 t (nth2 ds i)
def made15 (t : Types) (d : Dr15) : Host :=
  ⟨⟨ns15 t d.nodes (if (concL t).length = 0 then 0 else min d.nodes.length 8),
    grE t (ns15 t d.nodes (if (concL t).length = 0 then 0 else min d.nodes.length 8)) [] d.edges (if (ns15 t d.nodes (if (concL t).length = 0 then 0 else min d.nodes.length 8)).length = 0 ∨ t.edges.length = 0 then 0 else min d.edges.length 10)⟩,
    vs15 t d.nodes (if (concL t).length = 0 then 0 else min d.nodes.length 8)⟩
theorem vals15_succ (l : List Attr) (b : UInt8) (k : Nat) : vals15 l b (k + 1) = vals15 l b k ++ [val15 l b k] := by simp [vals15, List.range_succ]
theorem vals15_len (l : List Attr) (b : UInt8) (k : Nat) : (vals15 l b k).length = k := by simp [vals15]
theorem ns15_succ (t : Types) (ds : List B2) (k : Nat) : ns15 t ds (k + 1) = ns15 t ds k ++ [kind15 t (nth2 ds k)] := by simp [ns15, List.range_succ]
theorem ns15_len (t : Types) (ds : List B2) (k : Nat) : (ns15 t ds k).length = k := by simp [ns15]
theorem vs15_succ (t : Types) (ds : List B2) (k : Nat) : vs15 t ds (k + 1) = vs15 t ds k ++ [row15 t (nth2 ds k)] := by simp [vs15, List.range_succ]
theorem vs15_len (t : Types) (ds : List B2) (k : Nat) : (vs15 t ds k).length = k := by simp [vs15]
theorem ref15_Made (t : Types) (ht : t.fine) (d : Dr15) : Pure Tryz.prog 50 [t.d, .agg d.c] (made15 t d).d := by
  have hfN := ht.ok.fewN
  have hfE := ht.ok.fewE
  obtain ⟨C, hC⟩ : ∃ C, concL t = C := ⟨_, rfl⟩
  refine Tz.pK ⟨fun t => t == 4 || t == 5 || t == 15 || t == 53 || t == 11, fun r => match r with | 13 => [(0, 4), (1, 4), (2, 4), (4, 6), (5, 6), (4, 7), (5, 7), (0, 9), (1, 9), (2, 9), (4, 9), (5, 9), (6, 9), (7, 9), (9, 11), (10, 11), (9, 12), (10, 12)] | 18 => [(0, 30), (1, 30), (3, 30), (4, 30), (5, 30), (7, 30), (8, 30), (9, 30), (11, 30), (12, 30), (14, 30), (15, 30), (16, 30), (20, 30), (21, 30), (23, 30), (24, 30), (25, 30)] | _ => []⟩ Tryz.func50 rfl (fun Q hQ => ?_)
  try simp [go_sem, Dr15.c]
  refine cq0 ((by have hq := ref15_concrete t (by omega); rw [hC] at hq; exact hq)) ?_
  try simp [go_sem, Dr15.c]
  obtain ⟨I0, hI0⟩ := mkI fun i e H => ((e 2 = .adr t.c) ∧ (e 3 = .adr d.c) ∧ (e 4 = .ptr 0 1 0 0) ∧ (e 5 = .ptr 1 1 0 0) ∧ (e 6 = dLI C) ∧ (e 7 = dI i) ∧ (H.get 0 = some ⟨55, 3, [[.nil, .nil, .nil]], false⟩) ∧ (0 < H.next) ∧ (H.get 1 = some ⟨55, 3, [[.own 2 i, .nil, .own 3 i]], false⟩) ∧ (1 < H.next) ∧ (H.get 2 = some ⟨3, 1, (ns15 t d.nodes i).map cI, false⟩) ∧ (2 < H.next) ∧ (H.get 3 = some ⟨31, 1, (vs15 t d.nodes i).map cL, false⟩) ∧ (3 < H.next) ∧ (i ≤ 8) ∧ (i ≤ d.nodes.length) ∧ (C.length = 0 → i = 0) ∧ ((ns15 t d.nodes i).length = i) ∧ ((vs15 t d.nodes i).length = i))
  refine loopKG (Ghosts.step (Ghosts.step (Ghosts.refl _) 1 0 0 3 1 _ _ (rfl) rfl rfl rfl) 1 0 2 31 1 _ _ ((by simp [go_sem, Dr15.c] : AHeap.get _ _ = some ⟨55, 3, [[.own 2 0, .nil, .nil]], false⟩)) rfl rfl rfl) I0 (fun i => 8 - i) (0) ((hI0 _ _ _).2 ⟨?_, ?_, ?_, ?_, ?_, ?_, ?_, ?_, ?_, ?_, (by rfl), ?_, (by rfl), ?_, (by first | assumption | omega | (simp [go_sem, Dr15.c]; done) | (simp_all; done)), (by first | assumption | omega | (simp [go_sem, Dr15.c]; done) | (simp_all; done)), (by (intro _; rfl)), (by (exact ns15_len _ _ _)), (by (exact vs15_len _ _ _))⟩) ?_
  iterate 12 (first | omega | (simp [go_sem, Dr15.c] <;> omega))
  intro i e H hi0
  obtain ⟨q2_0, q3_0, q4_0, q5_0, q6_0, q7_0, g0_0, n0_0, g1_0, n1_0, g2_0, n2_0, g3_0, n3_0, hi, hid, hz, hnl, hvl⟩ := (hI0 _ _ _).1 hi0
  have x0 := frs n0_0
  have x1 := frs n1_0
  have x2 := frs n2_0
  have x3 := frs n3_0
  have F0 := And.intro q2_0 (And.intro q3_0 (And.intro q4_0 (And.intro q5_0 (And.intro q6_0 (And.intro q7_0 (And.intro g0_0 (And.intro g1_0 (And.intro g2_0 (And.intro g3_0 (And.intro x0 (And.intro x1 (And.intro x2 x3))))))))))))
  try simp [go_sem, Dr15.c, F0, hnl, hvl]
  repeat first | intro _ | refine ⟨obs, ?_⟩
  refine condQ_mk (fun h4 => ?_) (fun h4 => ?_)
  · try simp [go_sem] at h4
    have hil : i < d.nodes.length := by omega
    have hC0 : 0 < C.length := by omega
    have hCn : ¬C = [] := List.length_pos_iff.1 hC0
    obtain ⟨x, hx⟩ : ∃ x, d.nodes[i] = x := ⟨_, rfl⟩
    have hgx : nth2 d.nodes i = x := by unfold nth2; rw [lge hil, ← hx]; rfl
    have hx1 := u8_lt x.1
    have hx2 := u8_lt x.2
    have tm := tmod_in (show 0 ≤ (x.1.toNat : Int) by omega) (show (0 : Int) < C.length by omega)
    obtain ⟨kk, hpk⟩ := pickL_in hC0 x.1
    obtain ⟨kd, hkd0⟩ : ∃ kd, C[((x.1.toNat : Int).tmod C.length).toNat] = kd := ⟨_, rfl⟩
    have hkd : kind15 t (nth2 d.nodes i) = kd := by unfold kind15; rw [hgx, hC, hpk, hkd0]
    have hne0 : (C.length : Int) ≠ 0 := by omega
    obtain ⟨la, hla⟩ : ∃ la, attrsT t kd = la := ⟨_, rfl⟩
    have hgood := ht.good kd
    rw [hla] at hgood
    try simp [go_sem, Dr15.c, F0, hnl, hvl, h4, lge hil, hx, cP, lge kk, hkd0, hne0, hkd, hla]
    repeat first | intro _ | refine ⟨obs, ?_⟩
    refine cq0 (ref04_Attrs t ht.ok kd) ?_
    try simp [go_sem, Dr15.c, F0, hnl, hvl, h4, lge hil, hx, cP, lge kk, hkd0, hne0, hkd, hla]
    repeat first | intro _ | refine ⟨obs, ?_⟩
    obtain ⟨I2, hI2⟩ := mkI fun k e H => (∃ c : Nat, (e 2 = .adr t.c) ∧ (e 3 = .adr d.c) ∧ (e 4 = .ptr 0 1 0 0) ∧ (e 5 = .ptr 1 1 0 0) ∧ (e 6 = dLI C) ∧ (e 7 = dI i) ∧ (e 8 = dI kd) ∧ (e 9 = .list (la.map Attr.c)) ∧ (e 11 = .own c k) ∧ (e 12 = dI k) ∧ (H.get 0 = some ⟨55, 3, [[.nil, .nil, .nil]], false⟩) ∧ (0 < H.next) ∧ (H.get 1 = some ⟨55, 3, [[.own 2 i, .nil, .own 3 i]], false⟩) ∧ (1 < H.next) ∧ (H.get 2 = some ⟨3, 1, (ns15 t d.nodes i).map cI, false⟩) ∧ (2 < H.next) ∧ (H.get 3 = some ⟨31, 1, (vs15 t d.nodes i).map cL, false⟩) ∧ (3 < H.next) ∧ (H.get c = some ⟨3, 1, (vals15 la x.2 k).map cI, false⟩) ∧ (c < H.next) ∧ (k ≤ la.length) ∧ (3 < c) ∧ ((vals15 la x.2 k).length = k))
    refine loopK I2 (fun k => la.length - k) (0) ((hI2 _ _ _).2 ⟨(H.next), ?_, ?_, ?_, ?_, ?_, ?_, ?_, ?_, ?_, ?_, ?_, ?_, ?_, ?_, ?_, ?_, ?_, ?_, (by (simp [go_sem, Dr15.c, F0, hnl, hvl, h4, lge hil, hx, cP, lge kk, hkd0, hne0, hkd, hla, vals15])), ?_, (by first | assumption | omega | (simp [go_sem, Dr15.c, F0, hnl, hvl, h4, lge hil, hx, cP, lge kk, hkd0, hne0, hkd, hla]; done) | (simp_all; done)), (by omega), (by (exact vals15_len _ _ _))⟩) ?_
    iterate 19 (first | omega | (simp [go_sem, Dr15.c, F0, hnl, hvl, h4, lge hil, hx, cP, lge kk, hkd0, hne0, hkd, hla] <;> omega))
    intro k e H hi2
    obtain ⟨c, q2_2, q3_2, q4_2, q5_2, q6_2, q7_2, q8_2, q9_2, q11_2, q12_2, g0_2, n0_2, g1_2, n1_2, g2_2, n2_2, g3_2, n3_2, gc_2, nc_2, hk, hc, hvl2⟩ := (hI2 _ _ _).1 hi2
    have x0 := frs n0_2
    have x1 := frs n1_2
    have x2 := frs n2_2
    have x3 := frs n3_2
    have xc := frs nc_2
    have F2 := And.intro q2_2 (And.intro q3_2 (And.intro q4_2 (And.intro q5_2 (And.intro q6_2 (And.intro q7_2 (And.intro q8_2 (And.intro q9_2 (And.intro q11_2 (And.intro q12_2 (And.intro g0_2 (And.intro g1_2 (And.intro g2_2 (And.intro g3_2 (And.intro gc_2 (And.intro x0 (And.intro x1 (And.intro x2 (And.intro x3 xc))))))))))))))))))
    have di1 := And.intro (nep (show c ≠ 3 by omega)) (And.intro (nep (show c ≠ 2 by omega)) (And.intro (nep (show c ≠ 1 by omega)) (And.intro (nep (show c ≠ 0 by omega)) (And.intro (nep (show 3 ≠ 2 by omega)) (And.intro (nep (show 3 ≠ 1 by omega)) (And.intro (nep (show 3 ≠ 0 by omega)) (And.intro (nep (show 2 ≠ 1 by omega)) (And.intro (nep (show 2 ≠ 0 by omega)) (nep (show 1 ≠ 0 by omega))))))))))
    try simp [go_sem, Dr15.c, hnl, hvl, h4, lge hil, hx, cP, lge kk, hkd0, hne0, hkd, hla, F2, hvl2, di1]
    repeat first | intro _ | refine ⟨obs, ?_⟩
    refine condQ_mk (fun h10 => ?_) (fun h10 => ?_)
    ·try simp [go_sem] at h10
     have hg := hgood.1 _ (lgm h10)
     unfold Attr.good at hg
     have hl8 := hgood.2
     have tv := tmod_in (show 0 ≤ (x.2.toNat : Int) + 7 * (k : Int) by omega) (show 0 < la[k].high - la[k].low + 1 by omega)
     have hval : val15 la x.2 k = la[k].low + ((x.2.toNat : Int) + 7 * (k : Int)).tmod (la[k].high - la[k].low + 1) := by unfold val15; rw [lge h10]
     have hneq : la[k].high - la[k].low + 1 ≠ 0 := by omega
     try simp [go_sem, Dr15.c, hnl, hvl, h4, lge hil, hx, cP, lge kk, hkd0, hne0, hkd, hla, F2, hvl2, di1, h10, lge h10, hneq]
     repeat first | intro _ | refine ⟨obs, ?_⟩
     refine nextQ_mk (k + 1) (by omega) ((hI2 _ _ _).2 ⟨(c), ?_, ?_, ?_, ?_, ?_, ?_, ?_, ?_, ?_, ?_, ?_, ?_, ?_, ?_, ?_, ?_, ?_, ?_, (by (simp [go_sem, Dr15.c, hnl, hvl, h4, lge hil, hx, cP, lge kk, hkd0, hne0, hkd, hla, F2, hvl2, di1, h10, lge h10, hneq, vals15_succ, hval])), ?_, (by first | assumption | omega | (simp [go_sem, Dr15.c, hnl, hvl, h4, lge hil, hx, cP, lge kk, hkd0, hne0, hkd, hla, F2, hvl2, di1, h10, lge h10, hneq]; done) | (simp_all <;> omega)), (by omega), (by (exact vals15_len _ _ _))⟩) <;> first | omega | (simp [go_sem, Dr15.c, hnl, hvl, h4, lge hil, hx, cP, lge kk, hkd0, hne0, hkd, hla, F2, hvl2, di1, h10, lge h10, hneq] <;> omega)
    ·try simp [go_sem] at h10
     have hK : k = la.length := by omega
     have hrow : row15 t (nth2 d.nodes i) = vals15 la x.2 k := by unfold row15; rw [hkd, hla, hgx, hK]
     have hl8 := hgood.2
     have nx := nxs H.next
     try simp [go_sem, Dr15.c, hnl, hvl, h4, lge hil, hx, cP, lge kk, hkd0, hne0, hkd, hla, F2, hvl2, di1, nx]
     repeat first | intro _ | refine ⟨obs, ?_⟩
     refine nextQ_mk (i + 1) (by omega) ((hI0 _ _ _).2 ⟨?_, ?_, ?_, ?_, ?_, ?_, ?_, ?_, ?_, ?_, (by (simp [go_sem, Dr15.c, hnl, hvl, h4, lge hil, hx, cP, lge kk, hkd0, hne0, hkd, hla, F2, hvl2, di1, nx, ns15_succ, hkd])), ?_, (by (simp [go_sem, Dr15.c, hnl, hvl, h4, lge hil, hx, cP, lge kk, hkd0, hne0, hkd, hla, F2, hvl2, di1, nx, vs15_succ, hrow, cL, dLI])), ?_, (by first | assumption | omega | (simp [go_sem, Dr15.c, hnl, hvl, h4, lge hil, hx, cP, lge kk, hkd0, hne0, hkd, hla, F2, hvl2, di1, nx, h10]; done) | (simp_all <;> omega)), (by first | assumption | omega | (simp [go_sem, Dr15.c, hnl, hvl, h4, lge hil, hx, cP, lge kk, hkd0, hne0, hkd, hla, F2, hvl2, di1, nx, h10]; done) | (simp_all <;> omega)), (by omega), (by (exact ns15_len _ _ _)), (by (exact vs15_len _ _ _))⟩) <;> first | omega | (simp [go_sem, Dr15.c, hnl, hvl, h4, lge hil, hx, cP, lge kk, hkd0, hne0, hkd, hla, F2, hvl2, di1, nx] <;> omega)
  · try simp [go_sem] at h4
    have hI : i = (if C.length = 0 then 0 else min d.nodes.length 8) := by
     split
     ·rename_i h; exact hz h
     ·rename_i h
      have hq : ¬ (i < d.nodes.length ∧ i < 8) := fun hh => h (by rw [h4 hh.1 (by omega)]; rfl)
      omega
    obtain ⟨ns, hns⟩ : ∃ ns, ns15 t d.nodes i = ns := ⟨_, rfl⟩
    rw [hns] at hnl
    try simp [go_sem, Dr15.c, F0, hnl, hvl, hns]
    repeat first | intro _ | refine ⟨obs, ?_⟩
    obtain ⟨I4, hI4⟩ := mkI fun k e H => (∃ e4 : Nat, ∃ ys : List Edge, (e 2 = .adr t.c) ∧ (e 3 = .adr d.c) ∧ (e 4 = .ptr 0 1 0 0) ∧ (e 5 = .ptr 1 1 0 0) ∧ (e 13 = dI i) ∧ (e 14 = dI k) ∧ (H.get 0 = some ⟨55, 3, [[.nil, .nil, .nil]], false⟩) ∧ (0 < H.next) ∧ (H.get 1 = some ⟨55, 3, [[.own 2 i, .own e4 ys.length, .own 3 i]], false⟩) ∧ (1 < H.next) ∧ (H.get 2 = some ⟨3, 1, ns.map cI, false⟩) ∧ (2 < H.next) ∧ (H.get 3 = some ⟨31, 1, (vs15 t d.nodes i).map cL, false⟩) ∧ (3 < H.next) ∧ (H.get e4 = some ⟨146, 3, ys.map Edge.c, false⟩) ∧ (e4 < H.next) ∧ (k ≤ 10) ∧ (k ≤ d.edges.length) ∧ (ns.length = 0 ∨ t.edges.length = 0 → k = 0) ∧ (3 < e4) ∧ (ys = grE t ns [] d.edges k) ∧ (ys.length ≤ k))
    refine loopKG (Ghosts.step (Ghosts.refl _) 1 0 1 146 3 _ _ (g1_0) rfl rfl rfl) I4 (fun k => 10 - k) (0) ((hI4 _ _ _).2 ⟨(H.next), ([]), ?_, ?_, ?_, ?_, ?_, ?_, ?_, ?_, ?_, ?_, ?_, ?_, ?_, ?_, ?_, ?_, (by first | assumption | omega | (simp [go_sem, Dr15.c, F0, hnl, hvl, hns]; done) | (simp_all; done)), (by first | assumption | omega | (simp [go_sem, Dr15.c, F0, hnl, hvl, hns]; done) | (simp_all; done)), (by (intro _; rfl)), (by omega), (by (simp [grE])), (by simp)⟩) ?_
    iterate 16 (first | omega | (simp [go_sem, Dr15.c, F0, hnl, hvl, hns] <;> omega))
    intro k e H hi4
    obtain ⟨e4, ys, q2_4, q3_4, q4_4, q5_4, q13_4, q14_4, g0_4, n0_4, g1_4, n1_4, g2_4, n2_4, g3_4, n3_4, ge4_4, ne4_4, hk, hkd, hzz, he4, hy, hyl⟩ := (hI4 _ _ _).1 hi4
    have x0 := frs n0_4
    have x1 := frs n1_4
    have x2 := frs n2_4
    have x3 := frs n3_4
    have xe4 := frs ne4_4
    have F4 := And.intro q2_4 (And.intro q3_4 (And.intro q4_4 (And.intro q5_4 (And.intro q13_4 (And.intro q14_4 (And.intro g0_4 (And.intro g1_4 (And.intro g2_4 (And.intro g3_4 (And.intro ge4_4 (And.intro x0 (And.intro x1 (And.intro x2 (And.intro x3 xe4))))))))))))))
    have di2 := And.intro (nep (show e4 ≠ 3 by omega)) (And.intro (nep (show e4 ≠ 2 by omega)) (And.intro (nep (show e4 ≠ 1 by omega)) (And.intro (nep (show e4 ≠ 0 by omega)) (And.intro (nep (show 3 ≠ 2 by omega)) (And.intro (nep (show 3 ≠ 1 by omega)) (And.intro (nep (show 3 ≠ 0 by omega)) (And.intro (nep (show 2 ≠ 1 by omega)) (And.intro (nep (show 2 ≠ 0 by omega)) (nep (show 1 ≠ 0 by omega))))))))))
    try simp [go_sem, Dr15.c, hnl, hvl, hns, F4, di2]
    repeat first | intro _ | refine ⟨obs, ?_⟩
    refine condQ_mk (fun h16 => ?_) (fun h16 => ?_)
    ·try simp [go_sem] at h16
     have hkl : k < d.edges.length := by omega
     have hE0 : 0 < t.edges.length := by omega
     have hn0 : 0 < i := by omega
     have hee0 : ¬t.edges = [] := List.length_pos_iff.1 hE0
     have hnn0 : ¬ns = [] := List.length_pos_iff.1 (by omega)
     obtain ⟨x, hx⟩ : ∃ x, d.edges[k] = x := ⟨_, rfl⟩
     have hgx : d.edges[k]?.getD (0, 0, 0) = x := by rw [lge hkl, ← hx]; rfl
     have hx1 := u8_lt x.1
     have hx2 := u8_lt x.2.1
     have hx3 := u8_lt x.2.2
     have t1 := tmod_in (show 0 ≤ (x.1.toNat : Int) by omega) (show (0 : Int) < t.edges.length by omega)
     have t2 := tmod_in (show 0 ≤ (x.2.1.toNat : Int) by omega) (show (0 : Int) < i by omega)
     have t3 := tmod_in (show 0 ≤ (x.2.2.toNat : Int) by omega) (show (0 : Int) < i by omega)
     have hf : ((x.2.1.toNat : Int).tmod i).toNat < ns.length := by omega
     have hto : ((x.2.2.toNat : Int).tmod i).toNat < ns.length := by omega
     have hne0 : (t.edges.length : Int) ≠ 0 := by omega
     have hne1 : (i : Int) ≠ 0 := by omega
     have nx2 := nxs H.next
     try simp [go_sem, Dr15.c, hnl, hvl, hns, F4, di2, h16, lge hkl, hx, hgx, cT3, lge hf, lge hto, hne0, hne1, nx2]
     repeat first | intro _ | refine ⟨obs, ?_⟩
     refine dcq0 (ref04_Fits t ht.ok _ _ _) ?_
     try simp [go_sem, Dr15.c, hnl, hvl, hns, F4, di2, h16, lge hkl, hx, hgx, cT3, lge hf, lge hto, hne0, hne1, nx2]
     repeat first | intro _ | refine ⟨obs, ?_⟩
     refine condQ_mk (fun h19 => ?_) (fun h19 => ?_)
     ·try simp [go_sem] at h19
      have hE : grE1 t ns x = [mkEd t i x] := by unfold grE1 nN; rw [hnl]; unfold mkEd; rw [if_pos (by simpa [lge hf, lge hto] using h19)]
      try simp [go_sem, Dr15.c, hnl, hvl, hns, F4, di2, h16, lge hkl, hx, hgx, cT3, lge hf, lge hto, hne0, hne1, nx2, hE, mkEd]
      repeat first | intro _ | refine ⟨obs, ?_⟩
      refine nextQ_mk (k + 1) (by omega) ((hI4 _ _ _).2 ⟨(e4), (ys ++ grE1 t ns (d.edges[k]?.getD (0, 0, 0))), ?_, ?_, ?_, ?_, ?_, ?_, ?_, ?_, ?_, ?_, ?_, ?_, ?_, ?_, ?_, ?_, (by first | assumption | omega | (simp [go_sem, Dr15.c, hnl, hvl, hns, F4, di2, h16, lge hkl, hx, hgx, cT3, lge hf, lge hto, hne0, hne1, nx2, hE, mkEd, h4, h19]; done) | (simp_all <;> omega)), (by first | assumption | omega | (simp [go_sem, Dr15.c, hnl, hvl, hns, F4, di2, h16, lge hkl, hx, hgx, cT3, lge hf, lge hto, hne0, hne1, nx2, hE, mkEd, h4, h19]; done) | (simp_all <;> omega)), (by omega), (by omega), (by (rw [grE_succ, ← hy])), (by (rw [List.length_append]; have := grE1_len t ns (d.edges[k]?.getD (0, 0, 0)); omega))⟩) <;> first | omega | (simp [go_sem, Dr15.c, hnl, hvl, hns, F4, di2, h16, lge hkl, hx, hgx, cT3, lge hf, lge hto, hne0, hne1, nx2, hE, mkEd] <;> omega)
     ·try simp [go_sem] at h19
      have hE : grE1 t ns x = [] := by unfold grE1 nN; rw [hnl]; unfold mkEd; rw [if_neg (by simpa [lge hf, lge hto] using h19)]
      try simp [go_sem, Dr15.c, hnl, hvl, hns, F4, di2, h16, lge hkl, hx, hgx, cT3, lge hf, lge hto, hne0, hne1, nx2, hE]
      repeat first | intro _ | refine ⟨obs, ?_⟩
      refine nextQ_mk (k + 1) (by omega) ((hI4 _ _ _).2 ⟨(e4), (ys ++ grE1 t ns (d.edges[k]?.getD (0, 0, 0))), ?_, ?_, ?_, ?_, ?_, ?_, ?_, ?_, ?_, ?_, ?_, ?_, ?_, ?_, ?_, ?_, (by first | assumption | omega | (simp [go_sem, Dr15.c, hnl, hvl, hns, F4, di2, h16, lge hkl, hx, hgx, cT3, lge hf, lge hto, hne0, hne1, nx2, hE, h4, h19]; done) | (simp_all <;> omega)), (by first | assumption | omega | (simp [go_sem, Dr15.c, hnl, hvl, hns, F4, di2, h16, lge hkl, hx, hgx, cT3, lge hf, lge hto, hne0, hne1, nx2, hE, h4, h19]; done) | (simp_all <;> omega)), (by omega), (by omega), (by (rw [grE_succ, ← hy])), (by (rw [List.length_append]; have := grE1_len t ns (d.edges[k]?.getD (0, 0, 0)); omega))⟩) <;> first | omega | (simp [go_sem, Dr15.c, hnl, hvl, hns, F4, di2, h16, lge hkl, hx, hgx, cT3, lge hf, lge hto, hne0, hne1, nx2, hE] <;> omega)
    ·try simp [go_sem] at h16
     have hK : k = (if ns.length = 0 ∨ t.edges.length = 0 then 0 else min d.edges.length 10) := by
      split
      ·rename_i h; exact hzz h
      ·rename_i h
       have hq : ¬ (k < d.edges.length ∧ k < 10) := fun hh => h (.inr (by rw [h16 hh.1 (by omega) (by omega)]; rfl))
       omega
     have hfin : made15 t d = ⟨⟨ns, ys⟩, vs15 t d.nodes i⟩ := by
      unfold made15
      rw [hC, ← hI, hns, ← hK, hy]
     try simp [go_sem, Dr15.c, hnl, hvl, hns, F4, di2]
     exact hQ _ _ (.inl (by simp [go_sem, Dr15.c, hnl, hvl, hns, F4, di2, hfin, Host.d, Host.c]))
end Go.Abs
end
section
set_option maxRecDepth 8000
set_option maxHeartbeats 2000000
open Go Go.Proofs
namespace Go.Abs
attribute [go_sem] Host.d Host.c
def longB (l : List Int) : Bool := decide (12 < (l.length : Int))
def fewH (h : Host) : Bool := fewG h.graph && decide ((h.values.length : Int) ≤ 45) && !(h.values.any longB)
theorem ref15_Few (h : Host) : Pure Tryz.prog 142 [h.d] (.bool (fewH h)) := by
  refine Tz.pK ⟨fun _ => false, fun _ => []⟩ Tryz.func142 rfl (fun Q hQ => ?_)
  try simp [go_sem, Host.d, Host.c]
  repeat (first | intro _ | (refine ⟨obl, ?_⟩))
  refine cq0 (ref05_Few h.graph) ?_
  try simp [go_sem, Host.d, Host.c]
  repeat (first | intro _ | (refine ⟨obl, ?_⟩))
  refine condQ_mk (fun h1 => ?_) (fun h1 => ?_)
  · try simp [go_sem] at h1
    have hF : fewH h = false := by cases hg : fewG h.graph <;> simp [hg] at h1 <;> simp [fewH, hg] <;> omega
    try simp [go_sem, Host.d, Host.c]
    exact hQ _ _ (.inl (by simp [go_sem, hF]))
  · try simp [go_sem] at h1
    have hG : fewG h.graph = true ∧ (h.values.length : Int) ≤ 45 := by cases hg : fewG h.graph <;> simp [hg] at h1 <;> exact ⟨rfl, by omega⟩
    try simp [go_sem, Host.d, Host.c]
    obtain ⟨I0, hI0⟩ := mkI fun i e H => ((e 1 = .adr h.c) ∧ (e 3 = dI i) ∧ (i ≤ h.values.length) ∧ ((h.values.take i).any longB = false))
    refine loopK I0 (fun i => h.values.length - i) (0) ((hI0 _ _ _).2 ⟨?_, ?_, (by first | assumption | omega | (simp [go_sem, Host.d, Host.c]; done) | (simp_all; done)), (by rfl)⟩) ?_
    iterate 2 (first | omega | (simp [go_sem, Host.d, Host.c] <;> omega))
    intro i e H hi0
    obtain ⟨q1_0, q3_0, hi, ha⟩ := (hI0 _ _ _).1 hi0
    have F0 := And.intro q1_0 q3_0
    try simp [go_sem, Host.d, Host.c, F0]
    repeat (first | intro _ | (refine ⟨obl, ?_⟩))
    refine condQ_mk (fun h4 => ?_) (fun h4 => ?_)
    ·try simp [go_sem] at h4
     try simp [go_sem, Host.d, Host.c, F0, h4, lge h4, cL]
     repeat (first | intro _ | (refine ⟨obl, ?_⟩))
     refine condQ_mk (fun h6 => ?_) (fun h6 => ?_)
     ·try simp [go_sem] at h6
      try simp [go_sem, Host.d, Host.c, F0, h4, lge h4, cL]
      have hF : fewH h = false := by
       have : h.values.any longB = true := List.any_eq_true.2 ⟨_, lgm h4, by unfold longB; simp; omega⟩
       unfold fewH; rw [this]; simp
      exact hQ _ _ (.inl (by simp [go_sem, hF]))
     ·try simp [go_sem] at h6
      try simp [go_sem, Host.d, Host.c, F0, h4, lge h4, cL]
      repeat (first | intro _ | (refine ⟨obl, ?_⟩))
      refine nextQ_mk (i + 1) (by omega) ((hI0 _ _ _).2 ⟨?_, ?_, (by first | assumption | omega | (simp [go_sem, Host.d, Host.c, F0, h4, lge h4, cL, h1, h6]; done) | (simp_all <;> omega)), (by (rw [any_take_succ _ _ _ h4, ha]; unfold longB; simp; omega))⟩) <;> first | omega | (simp [go_sem, Host.d, Host.c, F0, h4, lge h4, cL] <;> omega)
    ·try simp [go_sem] at h4
     have hF : fewH h = true := by have := any_end ha h4; unfold fewH; rw [hG.1, this, decide_eq_true hG.2]; rfl
     try simp [go_sem, Host.d, Host.c, F0]
     exact hQ _ _ (.inl (by simp [go_sem, hF]))
def given17 (t : Types) (g h : Graph) : Int := if (validF t).2 ≠ 0 then (validF t).2 else if graphF g ≠ 0 then graphF g else if graphF h ≠ 0 then graphF h else if (!typed17 t g || !typed17 t h) = true then 13 else 0
theorem ref17_given (t : Types) (ht : t.ok) (g h : Graph) : Pure Tryz.prog 211 [t.d, g.d, h.d] (dI (given17 t g h)) := by
  refine Tz.pK ⟨fun _ => false, fun _ => []⟩ Tryz.func211 rfl (fun Q hQ => ?_)
  try simp [go_sem]
  refine cq0 (ref04_Valid t ht) ?_
  try simp [go_sem]
  refine condQ_mk (fun h2 => ?_) (fun h2 => ?_)
  · try simp [go_sem] at h2
    try simp [go_sem]
    exact hQ _ _ (.inl (by simp [go_sem, given17, h2]))
  · try simp [go_sem] at h2
    try simp [go_sem]
    refine cq0 (ref05_Valid g) ?_
    try simp [go_sem]
    refine condQ_mk (fun h5 => ?_) (fun h5 => ?_)
    ·try simp [go_sem] at h5
     try simp [go_sem]
     exact hQ _ _ (.inl (by simp [go_sem, given17, h2, h5]))
    ·try simp [go_sem] at h5
     try simp [go_sem]
     refine cq0 (ref05_Valid h) ?_
     try simp [go_sem]
     refine condQ_mk (fun h8 => ?_) (fun h8 => ?_)
     ·try simp [go_sem] at h8
      try simp [go_sem]
      exact hQ _ _ (.inl (by simp [go_sem, given17, h2, h5, h8]))
     ·try simp [go_sem] at h8
      try simp [go_sem]
      repeat (first | intro _ | (refine ⟨obl, ?_⟩))
      refine cq0 (ref17_Typed t g) ?_
      try simp [go_sem]
      repeat (first | intro _ | (refine ⟨obl, ?_⟩))
      refine gcq0 (fun hg => ref17_Typed t h) ?_
      try simp [go_sem]
      repeat (first | intro _ | (refine ⟨obl, ?_⟩))
      refine condQ_mk (fun h10 => ?_) (fun h10 => ?_)
      ·try simp [go_sem] at h10
       try simp [go_sem]
       exact hQ _ _ (.inl (by simp [go_sem, given17, h2, h5, h8]; intro hg; rcases h10 with h | h <;> simp_all))
      ·try simp [go_sem] at h10
       try simp [go_sem]
       exact hQ _ _ (.inl (by simp [go_sem, given17, h2, h5, h8]; simpa using h10))
def light17 (t : Types) (g h : Graph) : Bool := fewT t && fewG g && fewG h && (decide (given17 t g h ≠ 0) || (decide ((g.nodes.length : Int) + g.edges.length ≤ 6) && decide ((h.nodes.length : Int) ≤ 8) && decide ((h.edges.length : Int) ≤ 12)))
theorem ref17_Light (t : Types) (ht : t.ok) (g h : Graph) : Pure Tryz.prog 209 [t.d, g.d, h.d] (.bool (light17 t g h)) := by
  refine Tz.pK ⟨fun _ => false, fun _ => []⟩ Tryz.func209 rfl (fun Q hQ => ?_)
  have ho : fewT t = true → fewG g = true → fewG h = true → given17 t g h = 0 → InR .i64 ((g.nodes.length : Int) + g.edges.length) := fun _ hg _ _ => by simp [fewG] at hg; exact inR_i64 (by omega) (by omega)
  try simp [go_sem]
  repeat (first | intro _ | (refine ⟨obl, ?_⟩))
  refine cq0 (ref04_Few t (fun n hn => Nat.le_trans (ht.nodes n hn).few (by omega))) ?_
  try simp [go_sem]
  repeat (first | intro _ | (refine ⟨obl, ?_⟩))
  refine gcq0 (fun hg => ref05_Few g) ?_
  try simp [go_sem]
  repeat (first | intro _ | (refine ⟨obl, ?_⟩))
  refine gcq0 (fun hg => ref05_Few h) ?_
  try simp [go_sem]
  repeat (first | intro _ | (refine ⟨obl, ?_⟩))
  refine gcq0 (fun hg => ref17_given t ht g h) ?_
  try simp [go_sem]
  repeat (first | intro _ | (refine ⟨obl, ?_⟩))
  exact hQ _ _ (by simp [go_sem, light17] <;> first | omega | (rw [bei]; simp <;> omega) | (simp_all <;> omega))
def light21 (t : Types) (p : Pattern) (h : Host) : Bool := fewP p && fewH h && light17 t p.graph h.graph
theorem ref21_Light (t : Types) (ht : t.ok) (p : Pattern) (h : Host) : Pure Tryz.prog 144 [t.d, p.d, h.d] (.bool (light21 t p h)) := by
  refine Tz.pK ⟨fun _ => false, fun _ => []⟩ Tryz.func144 rfl (fun Q hQ => ?_)
  try simp [go_sem, Host.c, Pattern.c]
  repeat (first | intro _ | (refine ⟨obl, ?_⟩))
  refine cq0 (ref21_Few p) ?_
  try simp [go_sem, Host.c, Pattern.c]
  repeat (first | intro _ | (refine ⟨obl, ?_⟩))
  refine gcq0 (fun hg => ref15_Few h) ?_
  try simp [go_sem, Host.c, Pattern.c]
  repeat (first | intro _ | (refine ⟨obl, ?_⟩))
  refine gcq0 (fun hg => ref17_Light t ht p.graph h.graph) ?_
  try simp [go_sem, Host.c, Pattern.c]
  repeat (first | intro _ | (refine ⟨obl, ?_⟩))
  exact hQ _ _ (by simp [go_sem, Host.c, Pattern.c, light21] <;> first | omega | (rw [bei]; simp <;> omega) | (simp_all <;> omega))
theorem indexFunc_rule (xs : List Rule) (g : FuncId) (caps : List D) (p : Rule → Bool) (hc : D.clL caps = true) (hg : ∀ x ∈ xs, Pure Tryz.prog g (.agg x.c :: caps) (.bool (p x))) :
    Pure Tryz.prog 86 [.list (xs.map Rule.c), .fn g caps] (dI (idxF xs p)) := by
  refine pure_of_calls (acalls_of_body (cfg := ⟨fun _ => false, fun _ => []⟩) Tz.mixed Tryz.func86 rfl rfl (nlb rfl) (by kernel_rfl) ?_)
  simp [go_sem, dI, dLI]
  intro hlen
  refine loop_rule (ι := Nat) (fun i e H => H = .emp ∧ i ≤ xs.length ∧ e 0 = .list (xs.map Rule.c) ∧ e 1 = .fn g caps ∧ e 7 = dI xs.length ∧ e 8 = dI i ∧ (∀ j x, j < i → xs[j]? = some x → p x = false)) (fun i => xs.length - i) 0 (by simp [go_sem, dI, dLI]) ?_
  intro i e H ⟨hH, hi, h0, h1, h7, h8, hn⟩
  subst hH
  simp [go_sem, h0, h1, h7, h8, dI, dLI]
  refine condQ_dec (fun hlt => ?_) (fun hge => ?_)
  · have hgx := hg xs[i] (lgm hlt)
    simp [go_sem, h0, h1, h7, h8, dI, dLI, hlt, Rule.c] at hgx ⊢
    refine callQ_pure0 hgx (by simp [go_sem, hc]) ?_
    simp [go_sem, h0, h1, h7, h8, dI, dLI]
    refine condQ_mk (fun h => ?_) (fun h => ?_)
    ·simp [go_sem, h0, h1, h7, h8, dI, dLI]
     rw [idxF_some hn hlt h]
    ·simp [go_sem, h0, h1, h7, h8, dI, dLI]
     refine ⟨inR_i64 (by omega) (by omega), i + 1, by omega, by omega, by omega, fun j x hj hx => ?_⟩
     rcases Nat.lt_or_ge j i with hj' | hj'
     ·exact hn j x hj' hx
     ·have : j = i := by omega
      subst this
      rw [lge hlt] at hx
      cases hx; exact h
  · simp [go_sem, h0, h1, h7, h8, dI, dLI]
    rw [idxF_none fun j x hj => hn j x (by omega)]
theorem containsFunc_rule (xs : List Rule) (g : FuncId) (caps : List D) (p : Rule → Bool) (hc : D.clL caps = true) (hl : D.cl (.list (xs.map Rule.c)) = true) (hg : ∀ x ∈ xs, Pure Tryz.prog g (.agg x.c :: caps) (.bool (p x))) :
    Pure Tryz.prog 51 [.list (xs.map Rule.c), .fn g caps] (.bool (xs.any p)) := by
  refine pure_of_calls (acalls_of_body (cfg := ⟨fun _ => false, fun _ => []⟩) Tz.mixed Tryz.func51 rfl rfl (nlb rfl) (by kernel_rfl) ?_)
  simp [go_sem]
  refine callQ_pure0 (indexFunc_rule xs g caps p hc hg) (by simp only [D.clL, hl, Bool.true_and]; simp [D.cl, hc]) ?_
  simp [go_sem, dI, idxF_any]
end Go.Abs
end
section
set_option maxRecDepth 8000
set_option maxHeartbeats 2000000
open Go Go.Proofs
namespace Go.Abs
mutual
def narrowB : Cond → Bool
  | .mk k l m p => narrowL l && decide ((p.graph.nodes.length : Int) + p.graph.edges.length ≤ 6)
def narrowL : List Cond → Bool
  | [] => true
  | c :: l => narrowB c && narrowL l
end
theorem narrowL_all (l : List Cond) : narrowL l = l.all narrowB := by
  induction l with
  | nil => simp [narrowL]
  | cons a l ih => simp [narrowL, ih]
theorem narrowB_eq (c : Cond) : narrowB c = (c.kids.all narrowB && decide ((c.pattern.graph.nodes.length : Int) + c.pattern.graph.edges.length ≤ 6)) := by
  cases c; simp only [narrowB, narrowL_all, Cond.kids, Cond.pattern]; try rfl
theorem all_take_succ {α : Type} (l : List α) (p : α → Bool) {i : Nat} (h : i < l.length) : (l.take (i + 1)).all p = ((l.take i).all p && p l[i]) := by
  rw [List.take_succ_eq_append_getElem h, List.all_append]; simp
theorem ref22_narrow : ∀ c : Cond, c.ok → Pure Tryz.prog 145 [.agg c.c] (.bool (narrowB c)) := by
  refine Cond.ind fun c ih hc => ?_
  obtain ⟨hs, hk⟩ := (Cond.ok_iff c).1 hc
  have p1 := hs.p1
  have p2 := hs.p2
  refine Tz.pK ⟨fun _ => false, fun _ => []⟩ Tryz.func145 rfl (fun Q hQ => ?_)
  try simp [go_sem, Cond.c_eq]
  obtain ⟨I0, hI0⟩ := mkI fun i e H => ((e 1 = .adr c.c) ∧ (e 3 = dI i) ∧ (i ≤ c.kids.length) ∧ ((c.kids.take i).all narrowB = true))
  refine loopK I0 (fun i => c.kids.length - i) (0) ((hI0 _ _ _).2 ⟨?_, ?_, (by first | assumption | omega | (simp [go_sem, Cond.c_eq]; done) | (simp_all; done)), (by rfl)⟩) ?_
  iterate 2 (first | omega | (simp [go_sem, Cond.c_eq] <;> omega))
  intro i e H hi0
  obtain ⟨q1_0, q3_0, hi, ha⟩ := (hI0 _ _ _).1 hi0
  have F0 := And.intro q1_0 q3_0
  try simp [go_sem, Cond.c_eq, F0]
  repeat (first | intro _ | (refine ⟨obl, ?_⟩))
  refine condQ_mk (fun h2 => ?_) (fun h2 => ?_)
  · try simp [go_sem] at h2
    try simp [go_sem, Cond.c_eq, F0, h2, lge h2]
    repeat (first | intro _ | (refine ⟨obl, ?_⟩))
    refine cq0 ((by have := ih _ (lgm h2) (hk _ (lgm h2)); rwa [Cond.c_eq] at this)) ?_
    try simp [go_sem, Cond.c_eq, F0, h2, lge h2]
    repeat (first | intro _ | (refine ⟨obl, ?_⟩))
    refine condQ_mk (fun h4 => ?_) (fun h4 => ?_)
    ·try simp [go_sem] at h4
     try simp [go_sem, Cond.c_eq, F0, h2, lge h2]
     have hF : narrowB c = false := by
      have : c.kids.all narrowB = false := by
       rw [Bool.eq_false_iff]; intro h; exact absurd (List.all_eq_true.1 h _ (lgm h2)) (by simpa using h4)
      rw [narrowB_eq, this]; rfl
     exact hQ _ _ (.inl (by simp [go_sem, hF]))
    ·try simp [go_sem] at h4
     try simp [go_sem, Cond.c_eq, F0, h2, lge h2]
     repeat (first | intro _ | (refine ⟨obl, ?_⟩))
     refine nextQ_mk (i + 1) (by omega) ((hI0 _ _ _).2 ⟨?_, ?_, (by first | assumption | omega | (simp [go_sem, Cond.c_eq, F0, h2, lge h2, h4]; done) | (simp_all <;> omega)), (by (rw [all_take_succ _ _ h2, ha]; simpa using h4))⟩) <;> first | omega | (simp [go_sem, Cond.c_eq, F0, h2, lge h2] <;> omega)
  · try simp [go_sem] at h2
    have hA : c.kids.all narrowB = true := by rw [List.take_of_length_le (by omega)] at ha; exact ha
    have hF : narrowB c = decide ((c.pattern.graph.nodes.length : Int) + c.pattern.graph.edges.length ≤ 6) := by rw [narrowB_eq, hA]; rfl
    try simp [go_sem, Cond.c_eq, F0]
    repeat (first | intro _ | (refine ⟨obl, ?_⟩))
    exact hQ _ _ (.inl (by simp [go_sem, hF]))
def ways (p q : Pattern) : Int := ((14 ^ (q.graph.nodes.length - p.graph.nodes.length) * 18 ^ (q.graph.edges.length - p.graph.edges.length) : Nat) : Int)
def nextP (k : Int) (p' p : Pattern) : Pattern := if k = 5 then p' else p
mutual
def boundB : Cond → Pattern → Bool
  | .mk k l m p', p => boundL l (nextP k p' p) && decide (ways p (nextP k p' p) ≤ 5000)
def boundL : List Cond → Pattern → Bool
  | [], _ => true
  | c :: l, q => boundB c q && boundL l q
end
theorem boundL_all (l : List Cond) (q : Pattern) : boundL l q = l.all fun c => boundB c q := by
  induction l with
  | nil => simp [boundL]
  | cons a l ih => simp [boundL, ih]
theorem boundB_eq (c : Cond) (p : Pattern) : boundB c p = ((c.kids.all fun k => boundB k (nextP c.kind c.pattern p)) && decide (ways p (nextP c.kind c.pattern p) ≤ 5000)) := by
  cases c; simp only [boundB, boundL_all, Cond.kids, Cond.pattern, Cond.kind]; try rfl
theorem pow_small {a j : Nat} (ha : 1 ≤ a) (hj : j ≤ 6) : a ^ j ≤ a ^ 6 ∧ 1 ≤ a ^ j := ⟨Nat.pow_le_pow_right ha hj, by first | exact Nat.one_le_pow _ _ ha | exact Nat.pow_pos ha | exact Nat.pos_pow_of_pos _ ha⟩
theorem take66 (q : Pattern) : q.c.take 5 = q.c := rfl
theorem ref22_Bounded : ∀ c : Cond, c.ok → narrowB c = true → ∀ p : Pattern, p.graph.nodes.length ≤ 1000000 → p.graph.edges.length ≤ 1000000 → Pure Tryz.prog 146 [p.d, .agg c.c, dI 14, dI 18] (.bool (boundB c p)) := by
  refine Cond.ind fun c ih hc hn p hp1 hp2 => ?_
  obtain ⟨hs, hk⟩ := (Cond.ok_iff c).1 hc
  have q1 := hs.p1
  have q2 := hs.p2
  rw [narrowB_eq] at hn
  simp only [Bool.and_eq_true, decide_eq_true_eq, List.all_eq_true] at hn
  obtain ⟨q, hq⟩ : ∃ q, nextP c.kind c.pattern p = q := ⟨_, rfl⟩
  have hqs : q.graph.nodes.length - p.graph.nodes.length ≤ 6 ∧ q.graph.edges.length - p.graph.edges.length ≤ 6 ∧ q.graph.nodes.length ≤ 1000000 ∧ q.graph.edges.length ≤ 1000000 := by
    rw [← hq]; unfold nextP; split <;> omega
  refine Tz.pK ⟨fun t => t == 9, fun _ => []⟩ Tryz.func146 rfl (fun Q hQ => ?_)
  try simp [go_sem, Cond.c_eq]
  refine condQ_mk (fun h2 => ?_) (fun h2 => ?_)
  · try simp [go_sem] at h2
    have hqc : c.pattern = q := by rw [← hq]; exact (if_pos h2).symm
    try simp [go_sem, Cond.c_eq]
    repeat first | intro _ | refine ⟨obs, ?_⟩
    obtain ⟨I0, hI0⟩ := mkI fun i e H => (∃ w : Nat, (e 4 = .adr p.c) ∧ (e 5 = .adr c.c) ∧ (e 2 = dI 14) ∧ (e 3 = dI 18) ∧ (e 9 = .ptr 0 1 0 0) ∧ (e 10 = dI w) ∧ (e 11 = dI i) ∧ (H.get 0 = some ⟨66, 5, [q.c], false⟩) ∧ (0 < H.next) ∧ (p.graph.nodes.length ≤ i) ∧ (i ≤ q.graph.nodes.length ∨ i = p.graph.nodes.length) ∧ (w = 14 ^ (i - p.graph.nodes.length)))
    refine loopK I0 (fun i => q.graph.nodes.length - i) (p.graph.nodes.length) ((hI0 _ _ _).2 ⟨(1), ?_, ?_, ?_, ?_, ?_, ?_, ?_, (by (simp [go_sem, hqc, take66])), ?_, (by first | assumption | omega | (simp [go_sem, Cond.c_eq]; done) | (simp_all; done)), (by first | assumption | omega | (simp [go_sem, Cond.c_eq]; done) | (simp_all; done)), (by (simp))⟩) ?_
    iterate 8 (first | omega | (simp [go_sem, Cond.c_eq] <;> omega))
    intro i e H hi0
    obtain ⟨w, q4_0, q5_0, q2_0, q3_0, q9_0, q10_0, q11_0, g0_0, n0_0, hi, hi2, hw⟩ := (hI0 _ _ _).1 hi0
    have x0 := frs n0_0
    have F0 := And.intro q4_0 (And.intro q5_0 (And.intro q2_0 (And.intro q3_0 (And.intro q9_0 (And.intro q10_0 (And.intro q11_0 (And.intro g0_0 x0)))))))
    try simp [go_sem, Cond.c_eq, F0]
    repeat first | intro _ | refine ⟨obs, ?_⟩
    refine condQ_mk (fun h6 => ?_) (fun h6 => ?_)
    ·try simp [go_sem] at h6
     have hwb := (pow_small (a := 14) (j := i - p.graph.nodes.length) (by omega) (by omega)).1
     rw [← hw] at hwb
     have hwb' : w ≤ 7529536 := hwb
     try simp [go_sem, Cond.c_eq, F0, h6]
     repeat first | intro _ | refine ⟨obs, ?_⟩
     refine nextQ_mk (i + 1) (by omega) ((hI0 _ _ _).2 ⟨(w * 14), ?_, ?_, ?_, ?_, ?_, ?_, ?_, (by (simp [go_sem, Cond.c_eq, F0, h6])), ?_, (by first | assumption | omega | (simp [go_sem, Cond.c_eq, F0, h6, h2]; done) | (simp_all <;> omega)), (by first | assumption | omega | (simp [go_sem, Cond.c_eq, F0, h6, h2]; done) | (simp_all <;> omega)), (by (rw [show i + 1 - p.graph.nodes.length = (i - p.graph.nodes.length) + 1 by omega, Nat.pow_succ, hw]))⟩) <;> first | omega | (simp [go_sem, Cond.c_eq, F0, h6] <;> omega)
    ·try simp [go_sem] at h6
     have hw' : w = 14 ^ (q.graph.nodes.length - p.graph.nodes.length) := by rw [hw]; congr 1; omega
     have hwb := (pow_small (a := 14) (j := q.graph.nodes.length - p.graph.nodes.length) (by omega) hqs.1).1
     rw [← hw'] at hwb
     have hwb' : w ≤ 7529536 := hwb
     try simp [go_sem, Cond.c_eq, F0]
     repeat first | intro _ | refine ⟨obs, ?_⟩
     obtain ⟨I2, hI2⟩ := mkI fun k e H => (∃ v : Nat, (e 4 = .adr p.c) ∧ (e 5 = .adr c.c) ∧ (e 2 = dI 14) ∧ (e 3 = dI 18) ∧ (e 9 = .ptr 0 1 0 0) ∧ (e 10 = dI v) ∧ (e 12 = dI k) ∧ (H.get 0 = some ⟨66, 5, [q.c], false⟩) ∧ (0 < H.next) ∧ (p.graph.edges.length ≤ k) ∧ (k ≤ q.graph.edges.length ∨ k = p.graph.edges.length) ∧ (v = w * 18 ^ (k - p.graph.edges.length)))
     refine loopK I2 (fun k => q.graph.edges.length - k) (p.graph.edges.length) ((hI2 _ _ _).2 ⟨(w), ?_, ?_, ?_, ?_, ?_, ?_, ?_, (by (simp [go_sem, Cond.c_eq, F0])), ?_, (by first | assumption | omega | (simp [go_sem, Cond.c_eq, F0]; done) | (simp_all; done)), (by first | assumption | omega | (simp [go_sem, Cond.c_eq, F0]; done) | (simp_all; done)), (by (simp))⟩) ?_
     iterate 8 (first | omega | (simp [go_sem, Cond.c_eq, F0] <;> omega))
     intro k e H hi2
     obtain ⟨v, q4_2, q5_2, q2_2, q3_2, q9_2, q10_2, q12_2, g0_2, n0_2, hk1, hk2, hv⟩ := (hI2 _ _ _).1 hi2
     have x0 := frs n0_2
     have F2 := And.intro q4_2 (And.intro q5_2 (And.intro q2_2 (And.intro q3_2 (And.intro q9_2 (And.intro q10_2 (And.intro q12_2 (And.intro g0_2 x0)))))))
     try simp [go_sem, Cond.c_eq, F2]
     repeat first | intro _ | refine ⟨obs, ?_⟩
     refine condQ_mk (fun h10 => ?_) (fun h10 => ?_)
     ·try simp [go_sem] at h10
      have hvb := (pow_small (a := 18) (j := k - p.graph.edges.length) (by omega) (by omega)).1
      have hvb' : v ≤ 7529536 * 34012224 := by rw [hv]; exact Nat.mul_le_mul hwb' hvb
      try simp [go_sem, Cond.c_eq, F2, h10]
      repeat first | intro _ | refine ⟨obs, ?_⟩
      refine nextQ_mk (k + 1) (by omega) ((hI2 _ _ _).2 ⟨(v * 18), ?_, ?_, ?_, ?_, ?_, ?_, ?_, (by (simp [go_sem, Cond.c_eq, F2, h10])), ?_, (by first | assumption | omega | (simp [go_sem, Cond.c_eq, F2, h10, h2, h6]; done) | (simp_all <;> omega)), (by first | assumption | omega | (simp [go_sem, Cond.c_eq, F2, h10, h2, h6]; done) | (simp_all <;> omega)), (by (rw [show k + 1 - p.graph.edges.length = (k - p.graph.edges.length) + 1 by omega, Nat.pow_succ, hv, Nat.mul_assoc]))⟩) <;> first | omega | (simp [go_sem, Cond.c_eq, F2, h10] <;> omega)
     ·try simp [go_sem] at h10
      have hv' : v = w * 18 ^ (q.graph.edges.length - p.graph.edges.length) := by rw [hv]; congr 2; omega
      try simp [go_sem, Cond.c_eq, F2]
      obtain ⟨I4, hI4⟩ := mkI fun j e H => ((e 4 = .adr p.c) ∧ (e 5 = .adr c.c) ∧ (e 2 = dI 14) ∧ (e 3 = dI 18) ∧ (e 9 = .ptr 0 1 0 0) ∧ (e 10 = dI v) ∧ (e 13 = dI j) ∧ (H.get 0 = some ⟨66, 5, [q.c], false⟩) ∧ (0 < H.next) ∧ (j ≤ c.kids.length) ∧ ((c.kids.take j).all (fun x => boundB x q) = true))
      refine loopK I4 (fun j => c.kids.length - j) (0) ((hI4 _ _ _).2 ⟨?_, ?_, ?_, ?_, ?_, ?_, ?_, (by (simp [go_sem, Cond.c_eq, F2])), ?_, (by first | assumption | omega | (simp [go_sem, Cond.c_eq, F2]; done) | (simp_all; done)), (by rfl)⟩) ?_
      iterate 8 (first | omega | (simp [go_sem, Cond.c_eq, F2] <;> omega))
      intro j e H hi4
      obtain ⟨q4_4, q5_4, q2_4, q3_4, q9_4, q10_4, q13_4, g0_4, n0_4, hj, ha⟩ := (hI4 _ _ _).1 hi4
      have x0 := frs n0_4
      have F4 := And.intro q4_4 (And.intro q5_4 (And.intro q2_4 (And.intro q3_4 (And.intro q9_4 (And.intro q10_4 (And.intro q13_4 (And.intro g0_4 x0)))))))
      try simp [go_sem, Cond.c_eq, F4]
      repeat first | intro _ | refine ⟨obs, ?_⟩
      refine condQ_mk (fun h14 => ?_) (fun h14 => ?_)
      ·try simp [go_sem] at h14
       try simp [go_sem, Cond.c_eq, F4, h14, lge h14, take66]
       repeat first | intro _ | refine ⟨obs, ?_⟩
       refine dcq0 ((by have hz := ih _ (lgm h14) (hk _ (lgm h14)) (hn.1 _ (lgm h14)) q hqs.2.2.1 hqs.2.2.2; rwa [Cond.c_eq] at hz)) ?_
       try simp [go_sem, Cond.c_eq, F4, h14, lge h14, take66]
       repeat first | intro _ | refine ⟨obs, ?_⟩
       refine condQ_mk (fun h16 => ?_) (fun h16 => ?_)
       ·try simp [go_sem] at h16
        try simp [go_sem, Cond.c_eq, F4, h14, lge h14, take66]
        have hF : boundB c p = false := by
         have : (c.kids.all fun x => boundB x q) = false := by
          rw [Bool.eq_false_iff]; intro h; exact absurd (List.all_eq_true.1 h _ (lgm h14)) (by simpa using h16)
         rw [boundB_eq, hq, this]; rfl
        exact hQ _ _ (.inl (by simp [go_sem, hF]))
       ·try simp [go_sem] at h16
        try simp [go_sem, Cond.c_eq, F4, h14, lge h14, take66]
        repeat first | intro _ | refine ⟨obs, ?_⟩
        refine nextQ_mk (j + 1) (by omega) ((hI4 _ _ _).2 ⟨?_, ?_, ?_, ?_, ?_, ?_, ?_, (by (simp [go_sem, Cond.c_eq, F4, h14, lge h14, take66])), ?_, (by first | assumption | omega | (simp [go_sem, Cond.c_eq, F4, h14, lge h14, take66, h2, h6, h10, h16]; done) | (simp_all <;> omega)), (by (rw [all_take_succ _ _ h14, ha]; simpa using h16))⟩) <;> first | omega | (simp [go_sem, Cond.c_eq, F4, h14, lge h14, take66] <;> omega)
      ·try simp [go_sem] at h14
       have hA : (c.kids.all fun x => boundB x q) = true := by rw [List.take_of_length_le (by omega)] at ha; exact ha
       have hF : boundB c p = decide ((v : Int) ≤ 5000) := by rw [boundB_eq, hq, hA, hv', hw']; rfl
       try simp [go_sem, Cond.c_eq, F4]
       exact hQ _ _ (.inl (by simp [go_sem, hF]))
  · try simp [go_sem] at h2
    have hqc : p = q := by rw [← hq]; exact (if_neg h2).symm
    try simp [go_sem, Cond.c_eq]
    repeat first | intro _ | refine ⟨obs, ?_⟩
    obtain ⟨I0, hI0⟩ := mkI fun i e H => (∃ w : Nat, (e 4 = .adr p.c) ∧ (e 5 = .adr c.c) ∧ (e 2 = dI 14) ∧ (e 3 = dI 18) ∧ (e 9 = .ptr 0 1 0 0) ∧ (e 10 = dI w) ∧ (e 11 = dI i) ∧ (H.get 0 = some ⟨66, 5, [q.c], false⟩) ∧ (0 < H.next) ∧ (p.graph.nodes.length ≤ i) ∧ (i ≤ q.graph.nodes.length ∨ i = p.graph.nodes.length) ∧ (w = 14 ^ (i - p.graph.nodes.length)))
    refine loopK I0 (fun i => q.graph.nodes.length - i) (p.graph.nodes.length) ((hI0 _ _ _).2 ⟨(1), ?_, ?_, ?_, ?_, ?_, ?_, ?_, (by (simp [go_sem, hqc, take66])), ?_, (by first | assumption | omega | (simp [go_sem, Cond.c_eq]; done) | (simp_all; done)), (by first | assumption | omega | (simp [go_sem, Cond.c_eq]; done) | (simp_all; done)), (by (simp))⟩) ?_
    iterate 8 (first | omega | (simp [go_sem, Cond.c_eq] <;> omega))
    intro i e H hi0
    obtain ⟨w, q4_0, q5_0, q2_0, q3_0, q9_0, q10_0, q11_0, g0_0, n0_0, hi, hi2, hw⟩ := (hI0 _ _ _).1 hi0
    have x0 := frs n0_0
    have F0 := And.intro q4_0 (And.intro q5_0 (And.intro q2_0 (And.intro q3_0 (And.intro q9_0 (And.intro q10_0 (And.intro q11_0 (And.intro g0_0 x0)))))))
    try simp [go_sem, Cond.c_eq, F0]
    repeat first | intro _ | refine ⟨obs, ?_⟩
    refine condQ_mk (fun h6 => ?_) (fun h6 => ?_)
    ·try simp [go_sem] at h6
     have hwb := (pow_small (a := 14) (j := i - p.graph.nodes.length) (by omega) (by omega)).1
     rw [← hw] at hwb
     have hwb' : w ≤ 7529536 := hwb
     try simp [go_sem, Cond.c_eq, F0, h6]
     repeat first | intro _ | refine ⟨obs, ?_⟩
     refine nextQ_mk (i + 1) (by omega) ((hI0 _ _ _).2 ⟨(w * 14), ?_, ?_, ?_, ?_, ?_, ?_, ?_, (by (simp [go_sem, Cond.c_eq, F0, h6])), ?_, (by first | assumption | omega | (simp [go_sem, Cond.c_eq, F0, h6, h2]; done) | (simp_all <;> omega)), (by first | assumption | omega | (simp [go_sem, Cond.c_eq, F0, h6, h2]; done) | (simp_all <;> omega)), (by (rw [show i + 1 - p.graph.nodes.length = (i - p.graph.nodes.length) + 1 by omega, Nat.pow_succ, hw]))⟩) <;> first | omega | (simp [go_sem, Cond.c_eq, F0, h6] <;> omega)
    ·try simp [go_sem] at h6
     have hw' : w = 14 ^ (q.graph.nodes.length - p.graph.nodes.length) := by rw [hw]; congr 1; omega
     have hwb := (pow_small (a := 14) (j := q.graph.nodes.length - p.graph.nodes.length) (by omega) hqs.1).1
     rw [← hw'] at hwb
     have hwb' : w ≤ 7529536 := hwb
     try simp [go_sem, Cond.c_eq, F0]
     repeat first | intro _ | refine ⟨obs, ?_⟩
     obtain ⟨I2, hI2⟩ := mkI fun k e H => (∃ v : Nat, (e 4 = .adr p.c) ∧ (e 5 = .adr c.c) ∧ (e 2 = dI 14) ∧ (e 3 = dI 18) ∧ (e 9 = .ptr 0 1 0 0) ∧ (e 10 = dI v) ∧ (e 12 = dI k) ∧ (H.get 0 = some ⟨66, 5, [q.c], false⟩) ∧ (0 < H.next) ∧ (p.graph.edges.length ≤ k) ∧ (k ≤ q.graph.edges.length ∨ k = p.graph.edges.length) ∧ (v = w * 18 ^ (k - p.graph.edges.length)))
     refine loopK I2 (fun k => q.graph.edges.length - k) (p.graph.edges.length) ((hI2 _ _ _).2 ⟨(w), ?_, ?_, ?_, ?_, ?_, ?_, ?_, (by (simp [go_sem, Cond.c_eq, F0])), ?_, (by first | assumption | omega | (simp [go_sem, Cond.c_eq, F0]; done) | (simp_all; done)), (by first | assumption | omega | (simp [go_sem, Cond.c_eq, F0]; done) | (simp_all; done)), (by (simp))⟩) ?_
     iterate 8 (first | omega | (simp [go_sem, Cond.c_eq, F0] <;> omega))
     intro k e H hi2
     obtain ⟨v, q4_2, q5_2, q2_2, q3_2, q9_2, q10_2, q12_2, g0_2, n0_2, hk1, hk2, hv⟩ := (hI2 _ _ _).1 hi2
     have x0 := frs n0_2
     have F2 := And.intro q4_2 (And.intro q5_2 (And.intro q2_2 (And.intro q3_2 (And.intro q9_2 (And.intro q10_2 (And.intro q12_2 (And.intro g0_2 x0)))))))
     try simp [go_sem, Cond.c_eq, F2]
     repeat first | intro _ | refine ⟨obs, ?_⟩
     refine condQ_mk (fun h10 => ?_) (fun h10 => ?_)
     ·try simp [go_sem] at h10
      have hvb := (pow_small (a := 18) (j := k - p.graph.edges.length) (by omega) (by omega)).1
      have hvb' : v ≤ 7529536 * 34012224 := by rw [hv]; exact Nat.mul_le_mul hwb' hvb
      try simp [go_sem, Cond.c_eq, F2, h10]
      repeat first | intro _ | refine ⟨obs, ?_⟩
      refine nextQ_mk (k + 1) (by omega) ((hI2 _ _ _).2 ⟨(v * 18), ?_, ?_, ?_, ?_, ?_, ?_, ?_, (by (simp [go_sem, Cond.c_eq, F2, h10])), ?_, (by first | assumption | omega | (simp [go_sem, Cond.c_eq, F2, h10, h2, h6]; done) | (simp_all <;> omega)), (by first | assumption | omega | (simp [go_sem, Cond.c_eq, F2, h10, h2, h6]; done) | (simp_all <;> omega)), (by (rw [show k + 1 - p.graph.edges.length = (k - p.graph.edges.length) + 1 by omega, Nat.pow_succ, hv, Nat.mul_assoc]))⟩) <;> first | omega | (simp [go_sem, Cond.c_eq, F2, h10] <;> omega)
     ·try simp [go_sem] at h10
      have hv' : v = w * 18 ^ (q.graph.edges.length - p.graph.edges.length) := by rw [hv]; congr 2; omega
      try simp [go_sem, Cond.c_eq, F2]
      obtain ⟨I4, hI4⟩ := mkI fun j e H => ((e 4 = .adr p.c) ∧ (e 5 = .adr c.c) ∧ (e 2 = dI 14) ∧ (e 3 = dI 18) ∧ (e 9 = .ptr 0 1 0 0) ∧ (e 10 = dI v) ∧ (e 13 = dI j) ∧ (H.get 0 = some ⟨66, 5, [q.c], false⟩) ∧ (0 < H.next) ∧ (j ≤ c.kids.length) ∧ ((c.kids.take j).all (fun x => boundB x q) = true))
      refine loopK I4 (fun j => c.kids.length - j) (0) ((hI4 _ _ _).2 ⟨?_, ?_, ?_, ?_, ?_, ?_, ?_, (by (simp [go_sem, Cond.c_eq, F2])), ?_, (by first | assumption | omega | (simp [go_sem, Cond.c_eq, F2]; done) | (simp_all; done)), (by rfl)⟩) ?_
      iterate 8 (first | omega | (simp [go_sem, Cond.c_eq, F2] <;> omega))
      intro j e H hi4
      obtain ⟨q4_4, q5_4, q2_4, q3_4, q9_4, q10_4, q13_4, g0_4, n0_4, hj, ha⟩ := (hI4 _ _ _).1 hi4
      have x0 := frs n0_4
      have F4 := And.intro q4_4 (And.intro q5_4 (And.intro q2_4 (And.intro q3_4 (And.intro q9_4 (And.intro q10_4 (And.intro q13_4 (And.intro g0_4 x0)))))))
      try simp [go_sem, Cond.c_eq, F4]
      repeat first | intro _ | refine ⟨obs, ?_⟩
      refine condQ_mk (fun h14 => ?_) (fun h14 => ?_)
      ·try simp [go_sem] at h14
       try simp [go_sem, Cond.c_eq, F4, h14, lge h14, take66]
       repeat first | intro _ | refine ⟨obs, ?_⟩
       refine dcq0 ((by have hz := ih _ (lgm h14) (hk _ (lgm h14)) (hn.1 _ (lgm h14)) q hqs.2.2.1 hqs.2.2.2; rwa [Cond.c_eq] at hz)) ?_
       try simp [go_sem, Cond.c_eq, F4, h14, lge h14, take66]
       repeat first | intro _ | refine ⟨obs, ?_⟩
       refine condQ_mk (fun h16 => ?_) (fun h16 => ?_)
       ·try simp [go_sem] at h16
        try simp [go_sem, Cond.c_eq, F4, h14, lge h14, take66]
        have hF : boundB c p = false := by
         have : (c.kids.all fun x => boundB x q) = false := by
          rw [Bool.eq_false_iff]; intro h; exact absurd (List.all_eq_true.1 h _ (lgm h14)) (by simpa using h16)
         rw [boundB_eq, hq, this]; rfl
        exact hQ _ _ (.inl (by simp [go_sem, hF]))
       ·try simp [go_sem] at h16
        try simp [go_sem, Cond.c_eq, F4, h14, lge h14, take66]
        repeat first | intro _ | refine ⟨obs, ?_⟩
        refine nextQ_mk (j + 1) (by omega) ((hI4 _ _ _).2 ⟨?_, ?_, ?_, ?_, ?_, ?_, ?_, (by (simp [go_sem, Cond.c_eq, F4, h14, lge h14, take66])), ?_, (by first | assumption | omega | (simp [go_sem, Cond.c_eq, F4, h14, lge h14, take66, h2, h6, h10, h16]; done) | (simp_all <;> omega)), (by (rw [all_take_succ _ _ h14, ha]; simpa using h16))⟩) <;> first | omega | (simp [go_sem, Cond.c_eq, F4, h14, lge h14, take66] <;> omega)
      ·try simp [go_sem] at h14
       have hA : (c.kids.all fun x => boundB x q) = true := by rw [List.take_of_length_le (by omega)] at ha; exact ha
       have hF : boundB c p = decide ((v : Int) ≤ 5000) := by rw [boundB_eq, hq, hA, hv', hw']; rfl
       try simp [go_sem, Cond.c_eq, F4]
       exact hQ _ _ (.inl (by simp [go_sem, hF]))
def light22 (t : Types) (p : Pattern) (c : Cond) (h : Host) : Bool := fewC c && fewP p && fewH h && (decide (condF t p c ≠ 0) || (light21 t p h && narrowB c && decide ((h.graph.nodes.length : Int) ≤ 6) && decide ((h.graph.edges.length : Int) ≤ 8) && boundB c p))
theorem ref22_Light (t : Types) (ht : t.ok) (p : Pattern) (c : Cond) (hc : c.le) (h : Host) : Pure Tryz.prog 87 [t.d, p.d, .agg c.c, h.d] (.bool (light22 t p c h)) := by
  refine Tz.pK ⟨fun _ => false, fun _ => []⟩ Tryz.func87 rfl (fun Q hQ => ?_)
  try simp [go_sem, Host.c, Pattern.c, Cond.c_eq]
  repeat (first | intro _ | (refine ⟨obl, ?_⟩))
  refine cq0 ((by have hz := ref22_Few c hc; rwa [Cond.c_eq] at hz)) ?_
  try simp [go_sem, Host.c, Pattern.c, Cond.c_eq]
  repeat (first | intro _ | (refine ⟨obl, ?_⟩))
  refine gcq0 (fun hg => ref21_Few p) ?_
  try simp [go_sem, Host.c, Pattern.c, Cond.c_eq]
  repeat (first | intro _ | (refine ⟨obl, ?_⟩))
  refine gcq0 (fun hg => ref15_Few h) ?_
  try simp [go_sem, Host.c, Pattern.c, Cond.c_eq]
  repeat (first | intro _ | (refine ⟨obl, ?_⟩))
  refine condQ_mk (fun h1 => ?_) (fun h1 => ?_)
  · try simp [go_sem] at h1
    have hF : (fewC c && fewP p && fewH h) = false := by cases ha : fewC c <;> cases hb : fewP p <;> cases hd : fewH h <;> simp [ha, hb, hd] at h1 <;> rfl
    try simp [go_sem, Host.c, Pattern.c, Cond.c_eq]
    exact hQ _ _ (.inl (by simp [go_sem, light22, hF]))
  · try simp [go_sem] at h1
    have hF : fewC c = true ∧ fewP p = true ∧ fewH h = true := by cases ha : fewC c <;> cases hb : fewP p <;> cases hd : fewH h <;> simp [ha, hb, hd] at h1 <;> exact ⟨rfl, rfl, rfl⟩
    have hO : c.ok ∧ c.size ≤ 1000000 := by
     have h6 := hF.1
     simp [fewC] at h6
     have h7 := leftC_ok c 40 (by omega) h6
     exact ⟨h7.1, by omega⟩
    have hO2 : p.graph.nodes.length ≤ 1000000 ∧ p.graph.edges.length ≤ 1000000 := by
     have h6 := hF.2.1
     simp [fewP, fewG] at h6
     omega
    try simp [go_sem, Host.c, Pattern.c, Cond.c_eq]
    repeat (first | intro _ | (refine ⟨obl, ?_⟩))
    refine cq0 ((by have hz := ref22_Valid t ht p c hO.1 hO.2; rwa [Cond.c_eq] at hz)) ?_
    try simp [go_sem, Host.c, Pattern.c, Cond.c_eq]
    repeat (first | intro _ | (refine ⟨obl, ?_⟩))
    refine gcq0 (fun hg => ref21_Light t ht p h) ?_
    try simp [go_sem, Host.c, Pattern.c, Cond.c_eq]
    repeat (first | intro _ | (refine ⟨obl, ?_⟩))
    refine gcq0 (fun hg => (by have hz := ref22_narrow c hO.1; rwa [Cond.c_eq] at hz)) ?_
    try simp [go_sem, Host.c, Pattern.c, Cond.c_eq]
    repeat (first | intro _ | (refine ⟨obl, ?_⟩))
    refine gcq0 (fun hg => (by have hz := ref22_Bounded c hO.1 (by simp at hg; simp_all) p hO2.1 hO2.2; rwa [Cond.c_eq] at hz)) ?_
    try simp [go_sem, Host.c, Pattern.c, Cond.c_eq]
    repeat (first | intro _ | (refine ⟨obl, ?_⟩))
    exact hQ _ _ (.inl (by simp [go_sem, light22, hF.1, hF.2.1, hF.2.2]))
def light26 (t : Types) (r : Rule) (h : Host) : Bool := fewT t && fewR r && light22 t r.left r.cond h
theorem ref26_Light (t : Types) (ht : t.ok) (r : Rule) (hr : r.le) (h : Host) : Pure Tryz.prog 53 [t.d, .agg r.c, h.d] (.bool (light26 t r h)) := by
  refine Tz.pK ⟨fun _ => false, fun _ => []⟩ Tryz.func53 rfl (fun Q hQ => ?_)
  try simp [go_sem, Host.c, Rule.c, Cond.c_eq]
  repeat (first | intro _ | (refine ⟨obl, ?_⟩))
  refine cq0 (ref04_Few t (fun n hn => Nat.le_trans (ht.nodes n hn).few (by omega))) ?_
  try simp [go_sem, Host.c, Rule.c, Cond.c_eq]
  repeat (first | intro _ | (refine ⟨obl, ?_⟩))
  refine gcq0 (fun hg => (by have hz := ref24_Few r hr; simpa [Rule.d, Rule.c, Cond.c_eq, go_sem] using hz)) ?_
  try simp [go_sem, Host.c, Rule.c, Cond.c_eq]
  repeat (first | intro _ | (refine ⟨obl, ?_⟩))
  refine gcq0 (fun hg => (by have hz := ref22_Light t ht r.left r.cond hr.cond h; rwa [Cond.c_eq] at hz)) ?_
  try simp [go_sem, Host.c, Rule.c, Cond.c_eq]
  repeat (first | intro _ | (refine ⟨obl, ?_⟩))
  exact hQ _ _ (by simp [go_sem, Host.c, Rule.c, Cond.c_eq, light26] <;> first | omega | (rw [bei]; simp <;> omega) | (simp_all <;> omega))
end Go.Abs
end
section
set_option maxRecDepth 8000
set_option maxHeartbeats 4000000
open Go Go.Proofs
namespace Go.Abs
theorem rsvP_agree {S : List Nat} {H H' : AHeap} (ha : Agree S H' H) {d : D} (hd : ∀ x ∈ idsP d, x ∈ S) : rsvP H' d = rsvP H d := by
  cases d <;> try rfl
  case own id n => exact rsv1_agree (d := .own id n) ha hd
  case ptr id ver i off =>
    have := ha id (hd id (by simp [idsP]))
    simp only [rsvP, cellsAt, this]
theorem rsvC_agree {S : List Nat} {H H' : AHeap} (ha : Agree S H' H) {d : D} (hd : ∀ x ∈ idsC d, x ∈ S) : rsvC H' d = rsvC H d := by
  cases d <;> try rfl
  case own id n => exact rsvD_agree (d := .own id n) ha hd
  case agg l => exact rsvD_agree (d := .agg l) ha hd
  case ptr id ver i off => exact rsvP_agree (d := .ptr id ver i off) ha hd
  case fn g caps =>
    simp only [rsvC]
    congr 1
    exact List.map_congr_left fun x hx => rsvP_agree ha fun y hy => hd y (by simp only [idsC, List.mem_flatMap]; exact ⟨x, hx, hy⟩)
theorem dgcallQ_pureC {P : Program} {md : Nat → Bool} {ops : Array Oper} {sp : List (Nat × Nat)} {n0 i : Nat} {rest : List Oper} {acc : List (Nat × List Nat)} {e : Env} {dst : Option Tmp} {K : Env → AHeap → Prop} {f : FuncId} {args args' : List D} {H : AHeap} {r : D} {t : Bool}
    (hp : t = true → Pure P f args' r) (ha : args.map (rsvC H) = args') (hcl : t = true → D.clL args' = true) (hf : t = true → r.flat = true) {S : List Nat} (hS : args.flatMap idsC = S) (hc : chk sp i S acc)
    (h : aDraw P md ops sp n0 (i + 1) rest ((i, S) :: acc) (upd e dst (.opt t r)) H K) : dgcallQ P md ops sp n0 i rest acc e dst K t f args H := by
  subst ha hS
  unfold dgcallQ
  refine ⟨r, _, fun ht H' hag => ?_, hc, h⟩
  have he : args.map (rsvC H') = args.map (rsvC H) := List.map_congr_left fun d hm => rsvC_agree hag fun x hx => List.mem_flatMap.2 ⟨d, hm, hx⟩
  exact ACalls.pureC (by rw [he]; exact hp ht) (by rw [he]; exact hcl ht) (hf ht) ⟨rfl, rfl⟩
theorem Part.le_mk (a b : List Int) : Part.le ⟨a, b⟩ ↔ a.length ≤ 1000000000000000 ∧ b.length ≤ 1000000000000000 := ⟨fun h => ⟨h.1, h.2⟩, fun h => ⟨h.1, h.2⟩⟩
theorem forb_le (t : Types) (p : Pattern) (h1 : p.graph.nodes.length ≤ 1000) (h2 : p.graph.edges.length ≤ 1000) (x : B4) : (forb t p x).le := by
  unfold forb
  split
  · simp [forbC, trueC, Cond.le, Cond.les, numL_len, Part.le_mk]; omega
  · split
    ·split
     ·simp [trueC, Cond.le, Cond.les, Part.le_mk]
     ·simp [forbC, trueC, Cond.le, Cond.les, numL_len, Part.le_mk]; omega
    ·simp [trueC, Cond.le, Cond.les, Part.le_mk]
theorem rule24_le (t : Types) (d : Dr24) : (rule24 t d).le := by
  have hL4 := made21_in t d.left
  have hKl := made7_len (made21 t d.left).graph d.keep
  have hGl := extractG_len (made21 t d.left).graph (made7 (made21 t d.left).graph d.keep)
  refine ⟨⟨?_, ?_⟩, ⟨?_, ?_⟩, ?_⟩
  · show (made7 (made21 t d.left).graph d.keep).nodes.length ≤ _; omega
  · show (made7 (made21 t d.left).graph d.keep).edges.length ≤ _; omega
  · show (List.take _ _).length ≤ _; rw [List.length_take]; unfold kg24 kept24; omega
  · show (List.take _ _).length ≤ _; rw [List.length_take]; unfold kg24 kept24; omega
  · exact forb_le t _ (by omega) (by omega) d.forbid
theorem made24_le (t : Types) (d : Dr24) : (made24 t d).le := by
  unfold made24
  split
  · have h := rule24_le t d
    exact ⟨h.1, h.2, by simp [plain24, trueC, Cond.le, Cond.les, Part.le_mk]⟩
  · exact rule24_le t d
structure DrT where
  nodes : List B2
  edges : List B2
  rules : List Dr24
  host : Dr15
def DrT.c (d : DrT) : List D := [.list (d.nodes.map cP), .list (d.edges.map cP), .list (d.rules.map Dr24.c), .list (d.host.nodes.map cP), .list (d.host.edges.map cT3)]
@[go_sem] theorem DrT.cl (d : DrT) : D.clL d.c = true := by simp [DrT.c, D.clL, D.cl, cPs_cl, cT3s_cl, Dr24s_cl]
def DrT.small (d : DrT) : Bool := decide ((d.nodes.length : Int) ≤ 5) && decide ((d.edges.length : Int) ≤ 4) && decide ((d.rules.length : Int) ≤ 3) && decide ((d.host.nodes.length : Int) ≤ 5) && decide ((d.host.edges.length : Int) ≤ 6)
def DrT.t (d : DrT) : Types := madeT d.nodes d.edges
def DrT.l (d : DrT) : List Rule := made39 d.t d.rules
def DrT.h (d : DrT) : Host := made15 d.t d.host
def DrT.light (d : DrT) : Bool := lightB d.t d.l && !(d.l.any fun r => !light26 d.t r d.h)
def DrT.v (d : DrT) : D := if d.small = true then .tup [d.t.d, .list (d.l.map Rule.c), d.h.d, .bool d.light] else .tup [.agg [.list [], .list []], .list [], .agg [.list [], .list [], .list []], .bool false]
theorem parts1 (t : Types) (ht : t.ok) (h : Host) (r : Rule) (hr : r.le) : Pure Tryz.prog 52 [.agg r.c, .adr t.c, .adr h.c] (.bool (!light26 t r h)) := by
  refine Tz.pK ⟨fun _ => false, fun _ => []⟩ Tryz.func52 rfl (fun Q hQ => ?_)
  try simp [go_sem, Host.c, Rule.c, Cond.c_eq]
  repeat (first | intro _ | (refine ⟨obl, ?_⟩))
  refine cq0 ((by have hz := ref26_Light t ht r hr h; simpa [Rule.d, Rule.c, Cond.c_eq, go_sem] using hz)) ?_
  try simp [go_sem, Host.c, Rule.c, Cond.c_eq]
  repeat (first | intro _ | (refine ⟨obl, ?_⟩))
  exact hQ _ _ (by simp [go_sem, Host.c, Rule.c, Cond.c_eq] <;> first | omega | (rw [bei]; simp <;> omega) | (simp_all <;> omega))
@[go_sem] theorem DrT.vcl (d : DrT) : d.v.cl = true := by
  unfold DrT.v; split <;> simp [go_sem, D.cl, D.clL]
theorem law41_parts (d : DrT) : Pure Tryz.prog 21 [.agg d.c] d.v := by
  have hT : d.t.fine := madeT_fine d.nodes d.edges
  have ht := hT.ok
  have hle : ∀ r ∈ d.l, r.le := fun r hr => by
    obtain ⟨x, _, rfl⟩ := List.mem_map.1 hr
    exact made24_le _ _
  refine Tz.pK ⟨fun t => t == 2 || t == 4 || t == 6 || t == 8, fun r => match r with | 4 => [(0, 8), (1, 8), (2, 8), (3, 8), (4, 8), (5, 8), (6, 8), (7, 8)] | 5 => [(2, 12)] | _ => []⟩ Tryz.func21 rfl (fun Q hQ => ?_)
  try simp [go_sem, DrT.c, Dr15.c]
  repeat first | intro _ | refine ⟨obs, ?_⟩
  refine condQ_mk (fun h1 => ?_) (fun h1 => ?_)
  · try simp [go_sem] at h1
    have hF : d.small = false := by
     rw [Bool.eq_false_iff]; intro h; simp [DrT.small] at h; omega
    try simp [go_sem, DrT.c, Dr15.c]
    exact hQ _ _ (by first | (left; (simp [go_sem, DrT.v, hF, nzA, nzAs]); done) | (right; (simp [go_sem, DrT.v, hF, nzA, nzAs]); done))
  · try simp [go_sem] at h1
    have hF : d.small = true := by simp [DrT.small]; omega
    try simp [go_sem, DrT.c, Dr15.c]
    refine cq0 ((show Pure Tryz.prog _ _ d.t.d from ref04_Made d.nodes d.edges)) ?_
    try simp [go_sem, DrT.c, Dr15.c]
    refine dcq0 ((show Pure Tryz.prog _ _ (.list (d.l.map Rule.c)) from ref39_Made d.t hT d.rules)) ?_
    try simp [go_sem, DrT.c, Dr15.c]
    refine dcq0 ((show Pure Tryz.prog _ _ d.h.d from ref15_Made d.t hT d.host)) ?_
    try simp [go_sem, DrT.c, Dr15.c]
    repeat first | intro _ | refine ⟨obs, ?_⟩
    refine dcq0 (ref41_Light d.t (fun n hn => Nat.le_trans (ht.nodes n hn).few (by omega)) d.l hle) ?_
    try simp [go_sem, DrT.c, Dr15.c]
    repeat first | intro _ | refine ⟨obs, ?_⟩
    refine dgcallQ_pureC (fun hg => (containsFunc_rule d.l 52 [.adr d.t.c, .adr d.h.c] (fun r => !light26 d.t r d.h) (by simp [go_sem]) (by simp [go_sem]) (fun r hr => parts1 d.t ht d.h r (hle r hr)))) (by simp [rsvC, rsvP, cellsAt, go_sem, ← List.map_take, ← List.map_drop, DrT.c, Dr15.c]) (fun hg => (by first | rfl | (simp [go_sem, ← List.map_take, ← List.map_drop, DrT.c, Dr15.c]; done))) (fun hg =>  rfl) rfl (by simp [go_sem, DrT.c, Dr15.c]) ?_
    try simp [go_sem, DrT.c, Dr15.c]
    repeat first | intro _ | refine ⟨obs, ?_⟩
    exact hQ _ _ (.inl (by simp [go_sem, DrT.v, hF, DrT.light]))
end Go.Abs
end
section
namespace Go.Abs
section
variable {P : Program} {c : Cfg} {n : Nat} {M0 : Nat → Prop} {H : AHeap} {σ : Nat → Option Ow} {w : World} {e : Env} {a : Act}
def SemQ (P : Program) (n : Nat) (x : Code) (Q : Exit → Env → AHeap → Prop) (e : Env) (H : AHeap) : Prop :=
  ∀ (M0 : Nat → Prop) (σ : Nat → Option Ow) (w : World) (a : Act), St n M0 H σ w e a → x.wp P (CameX n M0 H σ w Q) a w
theorem sem_awp {x : Code} {Q : Exit → Env → AHeap → Prop} (hm : P.follows .mixedOrders = true) (hok : codeOK c n x = true) (h : AWp P c x Q e H) : SemQ P n x Q e H :=
  fun M0 σ w a hS => awp_sound hm x Q e H h hok σ w a hS
theorem sem_seq {x y : Code} {Q : Exit → Env → AHeap → Prop} (h : SemQ P n x (thenQ (SemQ P n y Q) Q) e H) : SemQ P n (.seq x y) Q e H := fun M0 σ w a hS => by
  refine wp_seq (Code.wp_weak (h M0 σ w a hS) fun ex a' w' hc => ?_)
  cases ex <;> first | exact hc | skip
  obtain ⟨e', H', σ', hq, hS', hst, hk⟩ := hc
  exact Code.wp_weak (hq M0 σ' w' a' hS') fun ex a'' w'' hc' => Came.trans hst hk hc'
theorem aOps_then {md : Nat → Bool} {ops : Array Oper} {Q : Exit → Act → World → Prop} {l2 : List Oper} : ∀ (l : List Oper) (e : Nat → D) (H : AHeap) (K : (Nat → D) → AHeap → Prop), aOps P md ops l e H K → (∀ o ∈ l, dstOK n o.dst = true) →
    ∀ (σ : Nat → Option Ow) (w : World) (a : Act), St n M0 H σ w e a → (∀ a' w', Came n M0 H σ w K a' w' → wpList P ops Q l2 a' w') → wpList P ops Q (l ++ l2) a w
  | [], e, H, K, h, hd, σ, w, a, hS, hQ => hQ a w ⟨e, H, σ, h, hS, .refl _ _, .refl _ _ _ _⟩
  | o :: l, e, H, K, h, hd, σ, w, a, hS, hQ => by
    unfold aOps at h
    have hs := aStep_sound (Q := Q) h hS (fun hn => Nat.lt_irrefl _ (hS.rel.nxt _ hn)) (hd o (by simp))
    have := StepC.mono (K' := wpList P ops Q (l ++ l2)) (fun a' w' ⟨v, H', F, σ', hk, hS', hst, hkp⟩ =>
      aOps_then l _ _ _ hk (fun o' ho' => hd o' (by simp [ho'])) σ' w' a' hS' fun a'' w'' hc => hQ a'' w'' (hc.trans hst hkp)) hs
    unfold StepC at this
    rw [List.cons_append]
    unfold wpList
    exact this
theorem one_sem {ops : Array Oper} {Q : Exit → Act → World → Prop} {o : Oper} {d : D} {H' : AHeap} {K : (Nat → D) → AHeap → Prop} (hg : o.guard = none) (hS : St n M0 H σ w e a) (hop : OpN P (execOp a.eval o) M0 H σ w d H')
    (hd : dstOK n o.dst = true) (hK : K (upd e o.dst d) H') (hQ : ∀ a' w', Came n M0 H σ w K a' w' → Q .normal a' w') : wpList P ops Q [o] a w := by
  obtain ⟨v, w', σ', h2, h3, h4, h5, h6⟩ := hop
  refine wpList_plain hg fun K' hK' => ?_
  have hc : Came n M0 H σ w K (a.put o.dst v) w' := ⟨_, _, σ', hK, hS.put h3 h6 hd h4, h5, h6⟩
  unfold Oper.wp
  rcases h2 with h2 | ⟨h2, rfl⟩
  · rw [h2, Oper.upon_value]; exact hK' _ _ (wpList_nil (hQ _ _ hc))
  · rw [h2, Oper.upon_skip]; exact hK' _ _ (wpList_nil (hQ _ _ hc))
theorem slice_own_sound {t : TypeId} {v vl : Value} {id m : Nat} {k : Blk} {kd : IntKind} {l : Int} {s : SlI} (hR : Rel M0 H σ w) (hx : RepV (Mut M0 H σ) σ H.al w v (.own id m)) (hk : H.get id = some k) (hm : k.es.length = m)
    (hl : RepV (Mut M0 H σ) σ H.al w vl (.int kd l)) (hs : sl P t = some s) (h0 : 0 ≤ l) (h1 : l ≤ m) : OpS P (Instr.sliceAt t v (some vl) none none) M0 H σ w .junk H := by
  cases hl
  obtain ⟨hu, ti, z, hti, hz, hisz, _, hsz, _, _, hszl, _⟩ := sl_some hs
  rcases own_val hR hx hk hm with ⟨rfl, rfl⟩ | ⟨b, cap, rfl, hle, hcm, _⟩
  · have hrun := slice_run (P := P) (w := w) hu hti none 0 0 (Nat.le_refl _) (some (.int kd l)) none l 0 (.inr ⟨kd, rfl⟩) (.inl ⟨rfl, rfl⟩) h0 (by omega) (by simp)
    exact .pure hR hrun (.junk _)
  · have hrun := slice_run (P := P) (w := w) hu hti (some ⟨b, 0, none⟩) m cap hle (some (.int kd l)) none l m (.inr ⟨kd, rfl⟩) (.inl ⟨rfl, rfl⟩) h0 h1 (Int.le_refl _)
    exact .pure hR hrun (.junk _)
theorem sem_slice {rid : Nat} {l : List Oper} {d : Tmp} {t ty : TypeId} {x lo : Tmp} {p : String} {af : Array Go.Edge} {sl0 : Oper} (hsl : sl0 = { dst := some d, op := .slice t (.tmp x) (some (.tmp lo)) none none, type := ty, pos := p, after := af, guard := none }) {Q : Exit → Env → AHeap → Prop} {md : Nat → Bool} (hd : ∀ o ∈ l, dstOK n o.dst = true) (hdd : dstOK n (some d) = true) {s : SlI} (hs : sl P t = some s)
    (h : aOps P md (l ++ [sl0]).toArray l e H fun e' H' => ∃ id m k kd q, e' x = .own id m ∧ H'.get id = some k ∧ k.es.length = m ∧ e' lo = .int kd q ∧ 0 ≤ q ∧ q ≤ m ∧ Q .normal (upd e' (some d) .junk) H') :
    SemQ P n (.region rid (l ++ [sl0]).toArray false) Q e H := fun M0 σ w a hS => by
  subst hsl
  refine wp_region_list ?_
  refine aOps_then l e H _ h hd σ w a hS fun a' w' hc => ?_
  obtain ⟨e', H', σ', ⟨id, m, k, kd, q, h1, h2, h3, h4, h5, h6, hq⟩, hS', hst, hk⟩ := hc
  have hop : OpS P (Instr.sliceAt t (a'.eval (.tmp x)) (some (a'.eval (.tmp lo))) none none) M0 H' σ' w' .junk H' :=
    slice_own_sound hS'.rel (by have := hS'.envR.ev (.tmp x); rw [evD_tmp, h1] at this; exact this) h2 h3 (by have := hS'.envR.ev (.tmp lo); rw [evD_tmp, h4] at this; exact this) hs h5 h6
  exact one_sem (K := fun e H => Q .normal e H) rfl hS' hop.next hdd hq fun a'' w'' hc => Came.trans hst hk hc
theorem acalls_of_sem {f : FuncId} {fn : Func} {x : Code} {args : List D} {Q : D → AHeap → Prop} (hf : P.funcs[f]? = some fn) (hb : fn.body = some x)
    (hnm : (fn.name == "runtime.NumGoroutine") = false) (hlen : args.length ≤ fn.ntmps) (h : SemQ P fn.ntmps x (retQ P fn.results.toList Q) (envP args) H) : ACalls P f args H Q := by
  refine ⟨⟨fn, hf, hnm, by simp [hb]⟩, fun M0 σ w vals hR ha => calls_of_wp hf hb ?_⟩
  have hS : St fn.ntmps M0 H σ w (envP args) { tmps := vals.toArray ++ Array.replicate (fn.ntmps - vals.toArray.size) undef, defers := [] } := by
    refine ⟨hR, fun t => ?_, rfl, by simp [ha.len]; omega⟩
    simp only [envP]
    by_cases ht : t < vals.length
    · have h1 : vals[t]? = some vals[t] := lge ht
      have h2 : args[t]? = some (args[t]'(by rw [← ha.len]; exact ht)) := lge _
      have := ha.rep t _ _ h1 h2
      rw [List.getD_eq_getElem?_getD, h2]
      simp only [Option.getD_some, Array.getD_eq_getD_getElem?]
      rw [Array.getElem?_append_left (by simpa using ht)]
      simpa [h1] using this
    · rw [List.getD_eq_getElem?_getD, List.getElem?_eq_none (by rw [← ha.len]; omega)]
      exact .junk _
  refine Code.wp_weak (h M0 σ w _ hS) fun ex a' w' hc => ?_
  obtain ⟨e', H', σ', hq, hS', hst, hk⟩ := hc
  have fin : aRes P fn.results.toList e' H' (fun l => Q (tupD l) H') → a'.defers = [] ∧ ∃ v, (results fn a'.tmps).run P w' = .ok v w' ∧
      ∃ v2 d H2 σ2, Ending.returned v = .returned v2 ∧ Rel M0 H2 σ2 w' ∧ RepV (Mut M0 H2 σ2) σ2 H2.al w' v2 d ∧ Stp σ w σ2 w' ∧ Keeps (Mut M0 H σ) σ H.al w (Mut M0 H2 σ2) σ2 H2.al w' ∧ Q d H2 := by
    intro hq
    obtain ⟨vs, l, h1, h2, h3⟩ := aRes_sound hS' _ _ hq
    obtain ⟨v, hv1, hv2⟩ := results_run (fn := fn) h1 h2
    exact ⟨hS'.defers, v, hv1, v, _, H', σ', rfl, hS'.rel, hv2, hst, hk, h3⟩
  cases ex <;> first | exact fin hq | exact hq.elim
end
end Go.Abs
end
