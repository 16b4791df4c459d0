/- The pattern of a draft. · The right side of a drafted rule.  -/
import Derived.Test.YtjhccdolbhjmaaaGreatZgE
import Derived.Test.YtjhccdolbhjmaaaGreatZgQ
set_option linter.unusedVariables false
set_option linter.unusedSimpArgs false
section
set_option maxRecDepth 8000
set_option maxHeartbeats 4000000
open Go Go.Proofs
namespace Go.Abs
structure Dr21 where
  graph : Dr5
  slots : List B3
  tests : List T4
def Dr21.c (d : Dr21) : List D := [.list (d.graph.nodes.map cU), .list (d.graph.edges.map cT3), .list (d.slots.map cT3), .list (d.tests.map cT4)]
@[go_sem] theorem Dr21.cl (d : Dr21) : D.clL d.c = true := by simp [Dr21.c, D.clL, D.cl, cUs_cl, cT3s_cl, cT4s_cl]
def c2 (x : Nat × Nat) : List D := [dI x.1, dI x.2]
def atN (t : Types) (ns : List Int) (i : Nat) : List Attr := attrsT t (ns[i]?.getD 0)
def allR (t : Types) (ns : List Int) (i k : Nat) : List (Nat × Nat) := (List.range k).map fun j => (i, j)
def allL (t : Types) (ns : List Int) (k : Nat) : List (Nat × Nat) := (List.range k).flatMap fun i => allR t ns i (atN t ns i).length
theorem allL_zero (t : Types) (ns : List Int) : allL t ns 0 = [] := rfl
theorem allL_succ (t : Types) (ns : List Int) (k : Nat) : allL t ns (k + 1) = allL t ns k ++ allR t ns k (atN t ns k).length := by simp [allL, List.range_succ]
theorem allR_succ (t : Types) (ns : List Int) (i k : Nat) : allR t ns i (k + 1) = allR t ns i k ++ [(i, k)] := by simp [allR, List.range_succ]
theorem allR_len (t : Types) (ns : List Int) (i k : Nat) : (allR t ns i k).length = k := by simp [allR]
theorem allL_len (t : Types) (ht : t.fine) (ns : List Int) : ∀ k, (allL t ns k).length ≤ 8 * k
  | 0 => by simp [allL]
  | k + 1 => by rw [allL_succ, List.length_append, allR_len]; have := allL_len t ht ns k; have := (ht.good (ns[k]?.getD 0)).2; unfold atN; omega
def atL (all : List (Nat × Nat)) (b : UInt8) : Nat × Nat := all[((b.toNat : Int).tmod all.length).toNat]?.getD (0, 0)
def m21S (all : List (Nat × Nat)) (st : List Slot × Int) (x : B3) : List Slot × Int :=
  if st.2 ≤ (x.2.1.toNat : Int).tmod 5 - 1 then
    if 3 < st.2 + 1 then (st.1 ++ [⟨(atL all x.1).1, (atL all x.1).2, ⟨0, 0⟩⟩], 3) else (st.1 ++ [⟨(atL all x.1).1, (atL all x.1).2, ⟨st.2, 0⟩⟩], st.2 + 1)
  else (st.1 ++ [⟨(atL all x.1).1, (atL all x.1).2, ⟨(x.2.1.toNat : Int).tmod 5 - 1, (x.2.2.toNat : Int).tmod 5 - 2⟩⟩], st.2)
def m21F (all : List (Nat × Nat)) (ds : List B3) (k : Nat) : List Slot × Int := (List.range k).foldl (fun st i => m21S all st (ds[i]?.getD (0, 0, 0))) ([], 0)
theorem m21F_succ (all : List (Nat × Nat)) (ds : List B3) (k : Nat) : m21F all ds (k + 1) = m21S all (m21F all ds k) (ds[k]?.getD (0, 0, 0)) := by simp [m21F, List.range_succ]
theorem m21F_in (all : List (Nat × Nat)) (ds : List B3) : ∀ k, (m21F all ds k).1.length = k ∧ 0 ≤ (m21F all ds k).2 ∧ (m21F all ds k).2 ≤ 3
  | 0 => by simp [m21F]
  | k + 1 => by
    obtain ⟨h1, h2, h3⟩ := m21F_in all ds k
    rw [m21F_succ]
    unfold m21S
    split
    ·split
     ·simp only [List.length_append, List.length_singleton]; omega
     ·simp only [List.length_append, List.length_singleton]; omega
    ·simp only [List.length_append, List.length_singleton]; omega
def m21T (v : Int) (ts : List T4) (k : Nat) : List Test := (List.range k).map fun i => made3 v (ts[i]?.getD (0, 0, 0, 0))
theorem m21T_succ (v : Int) (ts : List T4) (k : Nat) : m21T v ts (k + 1) = m21T v ts k ++ [made3 v (ts[k]?.getD (0, 0, 0, 0))] := by simp [m21T, List.range_succ]
theorem m21T_len (v : Int) (ts : List T4) (k : Nat) : (m21T v ts k).length = k := by simp [m21T]
def all21 (t : Types) (d : Dr21) : List (Nat × Nat) := allL t (made17 t d.graph).nodes (made17 t d.graph).nodes.length
def slots21 (t : Types) (d : Dr21) : List Slot × Int := if (all21 t d).length = 0 then ([], 0) else m21F (all21 t d) d.slots (min d.slots.length 4)
def made21 (t : Types) (d : Dr21) : Pattern := ⟨made17 t d.graph, (slots21 t d).1, (slots21 t d).2, m21T (slots21 t d).2 d.tests (min d.tests.length 3)⟩
theorem ref21_Made (t : Types) (ht : t.fine) (d : Dr21) : Pure Tryz.prog 132 [t.d, .agg d.c] (made21 t d).d := by
  obtain ⟨G, hG⟩ : ∃ G, made17 t d.graph = G := ⟨_, rfl⟩
  have hGl := made17_len t d.graph
  rw [hG] at hGl
  refine Tz.pK ⟨fun t => t == 4 || t == 5 || t == 6 || t == 12 || t == 13 || t == 14, fun r => match r with | 27 => [(0, 10), (1, 10)] | _ => []⟩ Tryz.func132 rfl (fun Q hQ => ?_)
  try simp [go_sem, Dr21.c, allL_zero]
  refine cq0 ((by have hq := ref17_Made t ht d.graph; rw [hG] at hq; exact hq)) ?_
  try simp [go_sem, Dr21.c, allL_zero]
  obtain ⟨I0, hI0⟩ := mkI fun i e H => ((e 2 = .adr t.c) ∧ (e 3 = .adr d.c) ∧ (e 5 = .ptr 1 1 0 0) ∧ (e 4 = .ptr 0 1 0 0) ∧ (e 6 = .own 2 (allL t G.nodes i).length) ∧ (e 7 = dI i) ∧ (H.get 0 = some ⟨66, 5, [[.nil, .nil, .nil, dI 0, .nil]], false⟩) ∧ (0 < H.next) ∧ (H.get 1 = some ⟨66, 5, [[dLI G.nodes, .list (G.edges.map Edge.c), .nil, dI 0, .nil]], false⟩) ∧ (1 < H.next) ∧ (H.get 2 = some ⟨266, 2, (allL t G.nodes i).map c2, false⟩) ∧ (2 < H.next) ∧ (i ≤ G.nodes.length))
  refine loopK I0 (fun i => G.nodes.length - i) (0) ((hI0 _ _ _).2 ⟨?_, ?_, ?_, ?_, ?_, ?_, ?_, ?_, ?_, ?_, (by (simp [go_sem, allL])), ?_, (by first | assumption | omega | (simp [go_sem, Dr21.c, allL_zero]; done) | (simp_all; done))⟩) ?_
  iterate 11 (first | omega | (simp [go_sem, Dr21.c, allL_zero] <;> omega))
  intro i e H hi0
  obtain ⟨q2_0, q3_0, q5_0, q4_0, q6_0, q7_0, g0_0, n0_0, g1_0, n1_0, g2_0, n2_0, hi⟩ := (hI0 _ _ _).1 hi0
  have x0 := frs n0_0
  have x1 := frs n1_0
  have x2 := frs n2_0
  have F0 := And.intro q2_0 (And.intro q3_0 (And.intro q5_0 (And.intro q4_0 (And.intro q6_0 (And.intro q7_0 (And.intro g0_0 (And.intro g1_0 (And.intro g2_0 (And.intro x0 (And.intro x1 x2))))))))))
  try simp [go_sem, Dr21.c, allL_zero, F0]
  repeat first | intro _ | refine ⟨obs, ?_⟩
  refine condQ_mk (fun h4 => ?_) (fun h4 => ?_)
  · try simp [go_sem] at h4
    have hAl := (ht.good G.nodes[i]).2
    have hAN : atN t G.nodes i = attrsT t G.nodes[i] := by simp [atN, lge h4]
    have hal := allL_len t ht G.nodes i
    try simp [go_sem, Dr21.c, allL_zero, F0, h4, lge h4]
    repeat first | intro _ | refine ⟨obs, ?_⟩
    refine dcq0 (ref04_Attrs t ht.ok G.nodes[i]) ?_
    try simp [go_sem, Dr21.c, allL_zero, F0, h4, lge h4]
    repeat first | intro _ | refine ⟨obs, ?_⟩
    obtain ⟨I2, hI2⟩ := mkI fun k e H => ((e 2 = .adr t.c) ∧ (e 3 = .adr d.c) ∧ (e 5 = .ptr 1 1 0 0) ∧ (e 4 = .ptr 0 1 0 0) ∧ (e 6 = .own 2 ((allL t G.nodes i).length + k)) ∧ (e 7 = dI i) ∧ (e 8 = .list ((attrsT t G.nodes[i]).map Attr.c)) ∧ (e 10 = dI k) ∧ (H.get 0 = some ⟨66, 5, [[.nil, .nil, .nil, dI 0, .nil]], false⟩) ∧ (0 < H.next) ∧ (H.get 1 = some ⟨66, 5, [[dLI G.nodes, .list (G.edges.map Edge.c), .nil, dI 0, .nil]], false⟩) ∧ (1 < H.next) ∧ (H.get 2 = some ⟨266, 2, (allL t G.nodes i).map c2 ++ (allR t G.nodes i k).map c2, false⟩) ∧ (2 < H.next) ∧ (k ≤ (attrsT t G.nodes[i]).length) ∧ ((allR t G.nodes i k).length = k))
    refine loopK I2 (fun k => (attrsT t G.nodes[i]).length - k) (0) ((hI2 _ _ _).2 ⟨?_, ?_, ?_, ?_, ?_, ?_, ?_, ?_, ?_, ?_, ?_, ?_, (by (simp [go_sem, Dr21.c, allL_zero, F0, h4, lge h4, allR])), ?_, (by first | assumption | omega | (simp [go_sem, Dr21.c, allL_zero, F0, h4, lge h4]; done) | (simp_all; done)), (by (exact allR_len _ _ _ _))⟩) ?_
    iterate 13 (first | omega | (simp [go_sem, Dr21.c, allL_zero, F0, h4, lge h4] <;> omega))
    intro k e H hi2
    obtain ⟨q2_2, q3_2, q5_2, q4_2, q6_2, q7_2, q8_2, q10_2, g0_2, n0_2, g1_2, n1_2, g2_2, n2_2, hk, hrl⟩ := (hI2 _ _ _).1 hi2
    have x0 := frs n0_2
    have x1 := frs n1_2
    have x2 := frs n2_2
    have F2 := And.intro q2_2 (And.intro q3_2 (And.intro q5_2 (And.intro q4_2 (And.intro q6_2 (And.intro q7_2 (And.intro q8_2 (And.intro q10_2 (And.intro g0_2 (And.intro g1_2 (And.intro g2_2 (And.intro x0 (And.intro x1 x2))))))))))))
    try simp [go_sem, Dr21.c, allL_zero, h4, lge h4, F2, hrl]
    repeat first | intro _ | refine ⟨obs, ?_⟩
    refine condQ_mk (fun h8 => ?_) (fun h8 => ?_)
    ·try simp [go_sem] at h8
     try simp [go_sem, Dr21.c, allL_zero, h4, lge h4, F2, hrl, h8]
     repeat first | intro _ | refine ⟨obs, ?_⟩
     refine nextQ_mk (k + 1) (by omega) ((hI2 _ _ _).2 ⟨?_, ?_, ?_, ?_, ?_, ?_, ?_, ?_, ?_, ?_, ?_, ?_, (by (simp [go_sem, Dr21.c, allL_zero, h4, lge h4, F2, hrl, h8, allR_succ, c2])), ?_, (by first | assumption | omega | (simp [go_sem, Dr21.c, allL_zero, h4, lge h4, F2, hrl, h8]; done) | (simp_all <;> omega)), (by (exact allR_len _ _ _ _))⟩) <;> first | omega | (simp [go_sem, Dr21.c, allL_zero, h4, lge h4, F2, hrl, h8] <;> omega)
    ·try simp [go_sem] at h8
     have hK : k = (attrsT t G.nodes[i]).length := by omega
     have hAt : (allL t G.nodes (i + 1)).length = (allL t G.nodes i).length + k := by rw [allL_succ, List.length_append, allR_len, hAN, hK]
     subst hK
     try simp [go_sem, Dr21.c, allL_zero, h4, lge h4, F2, hrl]
     repeat first | intro _ | refine ⟨obs, ?_⟩
     refine nextQ_mk (i + 1) (by omega) ((hI0 _ _ _).2 ⟨?_, ?_, ?_, ?_, ?_, ?_, ?_, ?_, ?_, ?_, (by (simp [go_sem, Dr21.c, allL_zero, h4, lge h4, F2, hrl, allL_succ, hAt, hAN])), ?_, (by first | assumption | omega | (simp [go_sem, Dr21.c, allL_zero, h4, lge h4, F2, hrl, h8]; done) | (simp_all <;> omega))⟩) <;> first | omega | (simp [go_sem, Dr21.c, allL_zero, h4, lge h4, F2, hrl] <;> omega)
  · try simp [go_sem] at h4
    have hI : i = G.nodes.length := by omega
    obtain ⟨all, hall⟩ : ∃ all, allL t G.nodes i = all := ⟨_, rfl⟩
    have hal := allL_len t ht G.nodes i
    rw [hall] at hal
    try simp [go_sem, Dr21.c, allL_zero, F0, hall]
    obtain ⟨I4, hI4⟩ := mkI fun n e H => (∃ j : Nat, ∃ sl : List Slot, ∃ v : Int, (e 2 = .adr t.c) ∧ (e 3 = .adr d.c) ∧ (e 5 = .ptr 1 1 0 0) ∧ (e 4 = .ptr 0 1 0 0) ∧ (e 6 = .own 2 all.length) ∧ (e 11 = dI n) ∧ (H.get 0 = some ⟨66, 5, [[.nil, .nil, .nil, dI 0, .nil]], false⟩) ∧ (0 < H.next) ∧ (H.get 1 = some ⟨66, 5, [[dLI G.nodes, .list (G.edges.map Edge.c), .own j sl.length, dI v, .nil]], false⟩) ∧ (1 < H.next) ∧ (H.get 2 = some ⟨266, 2, all.map c2, false⟩) ∧ (2 < H.next) ∧ (H.get j = some ⟨245, 4, sl.map Slot.c, false⟩) ∧ (j < H.next) ∧ (n ≤ 4) ∧ (n ≤ d.slots.length) ∧ ((sl, v) = m21F all d.slots n) ∧ (all.length = 0 → n = 0) ∧ (2 < j))
    refine loopKG (Ghosts.step (Ghosts.refl _) 1 0 2 245 4 _ _ (g1_0) rfl rfl rfl) I4 (fun n => 4 - n) (0) ((hI4 _ _ _).2 ⟨(H.next), ([]), (0), ?_, ?_, ?_, ?_, ?_, ?_, ?_, ?_, ?_, ?_, ?_, ?_, ?_, ?_, (by first | assumption | omega | (simp [go_sem, Dr21.c, allL_zero, F0, hall]; done) | (simp_all; done)), (by first | assumption | omega | (simp [go_sem, Dr21.c, allL_zero, F0, hall]; done) | (simp_all; done)), (by rfl), (by (intro _; rfl)), (by omega)⟩) ?_
    iterate 14 (first | omega | (simp [go_sem, Dr21.c, allL_zero, F0, hall] <;> omega))
    intro n e H hi4
    obtain ⟨j, sl, v, q2_4, q3_4, q5_4, q4_4, q6_4, q11_4, g0_4, n0_4, g1_4, n1_4, g2_4, n2_4, gj_4, nj_4, hn, hnd, hst, hz, hj2⟩ := (hI4 _ _ _).1 hi4
    have x0 := frs n0_4
    have x1 := frs n1_4
    have x2 := frs n2_4
    have xj := frs nj_4
    have F4 := And.intro q2_4 (And.intro q3_4 (And.intro q5_4 (And.intro q4_4 (And.intro q6_4 (And.intro q11_4 (And.intro g0_4 (And.intro g1_4 (And.intro g2_4 (And.intro gj_4 (And.intro x0 (And.intro x1 (And.intro x2 xj))))))))))))
    have di1 := And.intro (nep (show j ≠ 2 by omega)) (And.intro (nep (show j ≠ 1 by omega)) (And.intro (nep (show j ≠ 0 by omega)) (And.intro (nep (show 2 ≠ 1 by omega)) (And.intro (nep (show 2 ≠ 0 by omega)) (nep (show 1 ≠ 0 by omega))))))
    try simp [go_sem, Dr21.c, allL_zero, hall, F4, di1]
    repeat first | intro _ | refine ⟨obs, ?_⟩
    refine condQ_mk (fun h12 => ?_) (fun h12 => ?_)
    ·try simp [go_sem] at h12
     have hnl : n < d.slots.length := by omega
     have ha0 : 0 < all.length := by omega
     have hann : ¬all = [] := by intro h; rw [h] at ha0; simp at ha0
     obtain ⟨x, hx⟩ : ∃ x, d.slots[n] = x := ⟨_, rfl⟩
     have hgx : d.slots[n]?.getD (0, 0, 0) = x := by rw [lge hnl, ← hx]; rfl
     have hx1 := u8_lt x.1
     have hx2 := u8_lt x.2.1
     have hx3 := u8_lt x.2.2
     have hin := m21F_in all d.slots n
     rw [← hst] at hin
     simp only at hin
     have tm := tmod_in (show 0 ≤ (x.1.toNat : Int) by omega) (show (0 : Int) < all.length by omega)
     have t2 := tmod_in (show 0 ≤ (x.2.1.toNat : Int) by omega) (show (0 : Int) < 5 by omega)
     have t3 := tmod_in (show 0 ≤ (x.2.2.toNat : Int) by omega) (show (0 : Int) < 5 by omega)
     have hal2 : ((x.1.toNat : Int).tmod all.length).toNat < all.length := by omega
     have hat : all[((x.1.toNat : Int).tmod all.length).toNat] = atL all x.1 := by unfold atL; rw [lge hal2]; rfl
     have hne0 : (all.length : Int) ≠ 0 := by omega
     have hs1 : m21F all d.slots (n + 1) = m21S all (sl, v) x := by rw [m21F_succ, hgx, ← hst]
     unfold m21S at hs1
     have nx := nxs H.next
     try simp [go_sem, Dr21.c, allL_zero, hall, F4, di1, h12, lge hnl, hx, cT3, lge hal2, hat, hne0, c2, nx]
     repeat first | intro _ | refine ⟨obs, ?_⟩
     refine condQ_mk (fun h17 => ?_) (fun h17 => ?_)
     ·try simp [go_sem] at h17
      rw [if_pos (by simp only; omega)] at hs1
      try simp [go_sem, Dr21.c, allL_zero, hall, F4, di1, h12, lge hnl, hx, cT3, lge hal2, hat, hne0, c2, nx]
      repeat first | intro _ | refine ⟨obs, ?_⟩
      refine condQ_mk (fun h20 => ?_) (fun h20 => ?_)
      ·try simp [go_sem] at h20
       rw [if_pos (by simp only; omega)] at hs1
       obtain ⟨sl', hsl'⟩ : ∃ y : List Slot, y = sl ++ [⟨(atL all x.1).1, (atL all x.1).2, ⟨0, 0⟩⟩] := ⟨_, rfl⟩
       obtain ⟨v', hv'⟩ : ∃ y : Int, y = 3 := ⟨_, rfl⟩
       have hst' : (sl', v') = m21F all d.slots (n + 1) := by rw [hs1, hsl', hv']
       try simp [go_sem, Dr21.c, allL_zero, hall, F4, di1, h12, lge hnl, hx, cT3, lge hal2, hat, hne0, c2, nx, hsl', hv']
       repeat first | intro _ | refine ⟨obs, ?_⟩
       refine nextQ_mk (n + 1) (by omega) ((hI4 _ _ _).2 ⟨(j), (sl'), (v'), ?_, ?_, ?_, ?_, ?_, ?_, ?_, ?_, ?_, ?_, ?_, ?_, ?_, ?_, (by first | assumption | omega | (simp [go_sem, Dr21.c, allL_zero, hall, F4, di1, h12, lge hnl, hx, cT3, lge hal2, hat, hne0, c2, nx, hsl', hv', h4, h17, h20]; done) | (simp_all <;> omega)), (by first | assumption | omega | (simp [go_sem, Dr21.c, allL_zero, hall, F4, di1, h12, lge hnl, hx, cT3, lge hal2, hat, hne0, c2, nx, hsl', hv', h4, h17, h20]; done) | (simp_all <;> omega)), (by exact hst'), (by omega), (by omega)⟩) <;> first | omega | (simp [go_sem, Dr21.c, allL_zero, hall, F4, di1, h12, lge hnl, hx, cT3, lge hal2, hat, hne0, c2, nx, hsl', hv'] <;> omega)
      ·try simp [go_sem] at h20
       rw [if_neg (by simp only; omega)] at hs1
       obtain ⟨sl', hsl'⟩ : ∃ y : List Slot, y = sl ++ [⟨(atL all x.1).1, (atL all x.1).2, ⟨v, 0⟩⟩] := ⟨_, rfl⟩
       obtain ⟨v', hv'⟩ : ∃ y : Int, y = v + 1 := ⟨_, rfl⟩
       have hst' : (sl', v') = m21F all d.slots (n + 1) := by rw [hs1, hsl', hv']
       try simp [go_sem, Dr21.c, allL_zero, hall, F4, di1, h12, lge hnl, hx, cT3, lge hal2, hat, hne0, c2, nx, hsl', hv']
       repeat first | intro _ | refine ⟨obs, ?_⟩
       refine nextQ_mk (n + 1) (by omega) ((hI4 _ _ _).2 ⟨(j), (sl'), (v'), ?_, ?_, ?_, ?_, ?_, ?_, ?_, ?_, ?_, ?_, ?_, ?_, ?_, ?_, (by first | assumption | omega | (simp [go_sem, Dr21.c, allL_zero, hall, F4, di1, h12, lge hnl, hx, cT3, lge hal2, hat, hne0, c2, nx, hsl', hv', h4, h17, h20]; done) | (simp_all <;> omega)), (by first | assumption | omega | (simp [go_sem, Dr21.c, allL_zero, hall, F4, di1, h12, lge hnl, hx, cT3, lge hal2, hat, hne0, c2, nx, hsl', hv', h4, h17, h20]; done) | (simp_all <;> omega)), (by exact hst'), (by omega), (by omega)⟩) <;> first | omega | (simp [go_sem, Dr21.c, allL_zero, hall, F4, di1, h12, lge hnl, hx, cT3, lge hal2, hat, hne0, c2, nx, hsl', hv'] <;> omega)
     ·try simp [go_sem] at h17
      rw [if_neg (by simp only; omega)] at hs1
      have h3v : ¬ (3 : Int) < v := by omega
      obtain ⟨sl', hsl'⟩ : ∃ y : List Slot, y = sl ++ [⟨(atL all x.1).1, (atL all x.1).2, ⟨(x.2.1.toNat : Int).tmod 5 - 1, (x.2.2.toNat : Int).tmod 5 - 2⟩⟩] := ⟨_, rfl⟩
      obtain ⟨v', hv'⟩ : ∃ y : Int, y = v := ⟨_, rfl⟩
      have hst' : (sl', v') = m21F all d.slots (n + 1) := by rw [hs1, hsl', hv']
      try simp [go_sem, Dr21.c, allL_zero, hall, F4, di1, h12, lge hnl, hx, cT3, lge hal2, hat, hne0, c2, nx, hsl', hv', h3v]
      repeat first | intro _ | refine ⟨obs, ?_⟩
      refine nextQ_mk (n + 1) (by omega) ((hI4 _ _ _).2 ⟨(j), (sl'), (v'), ?_, ?_, ?_, ?_, ?_, ?_, ?_, ?_, ?_, ?_, ?_, ?_, ?_, ?_, (by first | assumption | omega | (simp [go_sem, Dr21.c, allL_zero, hall, F4, di1, h12, lge hnl, hx, cT3, lge hal2, hat, hne0, c2, nx, hsl', hv', h3v, h4, h17]; done) | (simp_all <;> omega)), (by first | assumption | omega | (simp [go_sem, Dr21.c, allL_zero, hall, F4, di1, h12, lge hnl, hx, cT3, lge hal2, hat, hne0, c2, nx, hsl', hv', h3v, h4, h17]; done) | (simp_all <;> omega)), (by exact hst'), (by omega), (by omega)⟩) <;> first | omega | (simp [go_sem, Dr21.c, allL_zero, hall, F4, di1, h12, lge hnl, hx, cT3, lge hal2, hat, hne0, c2, nx, hsl', hv', h3v] <;> omega)
    ·try simp [go_sem] at h12
     have hin := m21F_in all d.slots n
     rw [← hst] at hin
     simp only at hin
     have hv3 : 0 ≤ v ∧ v ≤ 1000 := by omega
     have hS : slots21 t d = (sl, v) := by
      unfold slots21 all21
      rw [hG, ← hI, hall, hst]
      split
      ·rename_i h0; rw [hz h0]; rfl
      ·rename_i h0
       have hq : ¬ (n < d.slots.length ∧ n < 4) := fun h => h0 (by rw [h12 h.1 (by omega)]; rfl)
       rw [show n = min d.slots.length 4 by omega]
     try simp [go_sem, Dr21.c, allL_zero, hall, F4, di1]
     obtain ⟨I6, hI6⟩ := mkI fun m e H => (∃ q : Nat, (e 2 = .adr t.c) ∧ (e 3 = .adr d.c) ∧ (e 5 = .ptr 1 1 0 0) ∧ (e 4 = .ptr 0 1 0 0) ∧ (e 15 = dI m) ∧ (H.get 0 = some ⟨66, 5, [[.nil, .nil, .nil, dI 0, .nil]], false⟩) ∧ (0 < H.next) ∧ (H.get 1 = some ⟨66, 5, [[dLI G.nodes, .list (G.edges.map Edge.c), .own j sl.length, dI v, .own q m]], false⟩) ∧ (1 < H.next) ∧ (H.get j = some ⟨245, 4, sl.map Slot.c, false⟩) ∧ (j < H.next) ∧ (H.get q = some ⟨268, 5, (m21T v d.tests m).map Test.c, false⟩) ∧ (q < H.next) ∧ (m ≤ 3) ∧ (m ≤ d.tests.length) ∧ (1 < j ∧ j < q) ∧ ((m21T v d.tests m).length = m))
     refine loopKG (Ghosts.step (Ghosts.refl _) 1 0 4 268 5 _ _ (g1_4) rfl rfl rfl) I6 (fun m => 3 - m) (0) ((hI6 _ _ _).2 ⟨(H.next), ?_, ?_, ?_, ?_, ?_, ?_, ?_, ?_, ?_, ?_, ?_, (by (simp [go_sem, Dr21.c, allL_zero, hall, F4, di1, m21T])), ?_, (by first | assumption | omega | (simp [go_sem, Dr21.c, allL_zero, hall, F4, di1]; done) | (simp_all; done)), (by first | assumption | omega | (simp [go_sem, Dr21.c, allL_zero, hall, F4, di1]; done) | (simp_all; done)), (by omega), (by (exact m21T_len _ _ _))⟩) ?_
     iterate 12 (first | omega | (simp [go_sem, Dr21.c, allL_zero, hall, F4, di1] <;> omega))
     intro m e H hi6
     obtain ⟨q, q2_6, q3_6, q5_6, q4_6, q15_6, g0_6, n0_6, g1_6, n1_6, gj_6, nj_6, gq_6, nq_6, hm, hmd, hjq, htl⟩ := (hI6 _ _ _).1 hi6
     have x0 := frs n0_6
     have x1 := frs n1_6
     have xj := frs nj_6
     have xq := frs nq_6
     have F6 := And.intro q2_6 (And.intro q3_6 (And.intro q5_6 (And.intro q4_6 (And.intro q15_6 (And.intro g0_6 (And.intro g1_6 (And.intro gj_6 (And.intro gq_6 (And.intro x0 (And.intro x1 (And.intro xj xq)))))))))))
     have di2 := And.intro (nep (show q ≠ j by omega)) (And.intro (nep (show q ≠ 1 by omega)) (And.intro (nep (show q ≠ 0 by omega)) (And.intro (nep (show j ≠ 1 by omega)) (And.intro (nep (show j ≠ 0 by omega)) (nep (show 1 ≠ 0 by omega))))))
     try simp [go_sem, Dr21.c, allL_zero, hall, di1, F6, htl, di2]
     repeat first | intro _ | refine ⟨obs, ?_⟩
     refine condQ_mk (fun h25 => ?_) (fun h25 => ?_)
     ·try simp [go_sem] at h25
      have hml : m < d.tests.length := by omega
      have hgt : d.tests[m]?.getD (0, 0, 0, 0) = d.tests[m] := by rw [lge hml]; rfl
      try simp [go_sem, Dr21.c, allL_zero, hall, di1, F6, htl, di2, h25, lge hml, cT4]
      repeat first | intro _ | refine ⟨obs, ?_⟩
      refine dcq0 (ref03_Made v hv3 d.tests[m]) ?_
      try simp [go_sem, Dr21.c, allL_zero, hall, di1, F6, htl, di2, h25, lge hml, cT4]
      repeat first | intro _ | refine ⟨obs, ?_⟩
      refine nextQ_mk (m + 1) (by omega) ((hI6 _ _ _).2 ⟨(q), ?_, ?_, ?_, ?_, ?_, ?_, ?_, ?_, ?_, ?_, ?_, (by (simp [go_sem, Dr21.c, allL_zero, hall, di1, F6, htl, di2, h25, lge hml, cT4, m21T_succ, hgt])), ?_, (by first | assumption | omega | (simp [go_sem, Dr21.c, allL_zero, hall, di1, F6, htl, di2, h25, lge hml, cT4, h4, h12]; done) | (simp_all <;> omega)), (by first | assumption | omega | (simp [go_sem, Dr21.c, allL_zero, hall, di1, F6, htl, di2, h25, lge hml, cT4, h4, h12]; done) | (simp_all <;> omega)), (by omega), (by (exact m21T_len _ _ _))⟩) <;> first | omega | (simp [go_sem, Dr21.c, allL_zero, hall, di1, F6, htl, di2, h25, lge hml, cT4] <;> omega)
     ·try simp [go_sem] at h25
      have hM : m = min d.tests.length 3 := by omega
      try simp [go_sem, Dr21.c, allL_zero, hall, di1, F6, htl, di2]
      exact hQ _ _ (.inl (by simp [go_sem, Dr21.c, allL_zero, hall, di1, F6, htl, di2, made21, hG, hS, ← hM]))
end Go.Abs
end
section
set_option maxRecDepth 8000
set_option maxHeartbeats 4000000
open Go Go.Proofs
namespace Go.Abs
abbrev B4 := UInt8 × UInt8 × UInt8 × UInt8
def cU4 (x : B4) : List D := [.int .u8 (x.1.toNat : Int), .int .u8 (x.2.1.toNat : Int), .int .u8 (x.2.2.1.toNat : Int), .int .u8 (x.2.2.2.toNat : Int)]
structure Dr24 where
  left : Dr21
  keep : UInt64
  nodes : List UInt8
  edges : List B3
  slots : List B3
  plain : Bool
  inj : Bool
  forbid : B4
  order : List UInt8
def Dr24.c (d : Dr24) : List D := [.list (d.left.graph.nodes.map cU), .list (d.left.graph.edges.map cT3), .list (d.left.slots.map cT3), .list (d.left.tests.map cT4), .int .u64 (d.keep.toNat : Int), .list (d.nodes.map cU), .list (d.edges.map cT3), .list (d.slots.map cT3), .bool d.plain, .bool d.inj,
  .int .u8 (d.forbid.1.toNat : Int), .int .u8 (d.forbid.2.1.toNat : Int), .int .u8 (d.forbid.2.2.1.toNat : Int), .int .u8 (d.forbid.2.2.2.toNat : Int), .list (d.order.map cU)]
@[go_sem] theorem Dr24.cl (d : Dr24) : D.clL d.c = true := by simp [Dr24.c, D.clL, D.cl, cUs_cl, cT3s_cl, cT4s_cl]
@[go_sem] theorem Dr24s_cl (l : List Dr24) : D.clLL (l.map Dr24.c) = true := clLL_map _ Dr24.cl l
def mkEd (t : Types) (n : Nat) (x : B3) : Edge := ⟨(x.1.toNat : Int).tmod t.edges.length, (x.2.1.toNat : Int).tmod n, (x.2.2.toNat : Int).tmod n⟩
def nN (ns : List Int) (a : Int) : Int := ns[a.toNat]?.getD 0
def grN (t : Types) (base : List Int) (ds : List UInt8) (k : Nat) : List Int := base ++ (List.range k).map fun i => pickL (concL t) (ds[i]?.getD 0)
def grE1 (t : Types) (ns : List Int) (x : B3) : List Edge := if fitsT t (mkEd t ns.length x).type (nN ns (mkEd t ns.length x).from_) (nN ns (mkEd t ns.length x).to_) = true then [mkEd t ns.length x] else []
def grE (t : Types) (ns : List Int) (base : List Edge) (es : List B3) (k : Nat) : List Edge := base ++ (List.range k).flatMap fun i => grE1 t ns (es[i]?.getD (0, 0, 0))
def grown (t : Types) (g : Graph) (d : Dr24) : Graph :=
  ⟨grN t g.nodes d.nodes (if (concL t).length = 0 then 0 else min d.nodes.length 2),
    grE t (grN t g.nodes d.nodes (if (concL t).length = 0 then 0 else min d.nodes.length 2)) g.edges d.edges (if (grN t g.nodes d.nodes (if (concL t).length = 0 then 0 else min d.nodes.length 2)).length = 0 ∨ t.edges.length = 0 then 0 else min d.edges.length 2)⟩
theorem grN_succ (t : Types) (base : List Int) (ds : List UInt8) (k : Nat) : grN t base ds (k + 1) = grN t base ds k ++ [pickL (concL t) (ds[k]?.getD 0)] := by simp [grN, List.range_succ]
theorem grN_len (t : Types) (base : List Int) (ds : List UInt8) (k : Nat) : (grN t base ds k).length = base.length + k := by simp [grN]
theorem grE_succ (t : Types) (ns : List Int) (base : List Edge) (es : List B3) (k : Nat) : grE t ns base es (k + 1) = grE t ns base es k ++ grE1 t ns (es[k]?.getD (0, 0, 0)) := by simp [grE, List.range_succ]
theorem grE1_len (t : Types) (ns : List Int) (x : B3) : (grE1 t ns x).length ≤ 1 := by unfold grE1; split <;> simp
theorem grE_len (t : Types) (ns : List Int) (base : List Edge) (es : List B3) : ∀ k, (grE t ns base es k).length ≤ base.length + k
  | 0 => by simp [grE]
  | k + 1 => by rw [grE_succ, List.length_append]; have := grE_len t ns base es k; have := grE1_len t ns (es[k]?.getD (0, 0, 0)); omega
theorem ite_le2 (c : Prop) [Decidable c] (m : Nat) : (if c then 0 else min m 2) ≤ 2 := by split <;> omega
theorem ref24_grown (t : Types) (ht : t.fine) (g : Graph) (hgn : g.nodes.length ≤ 1000) (hge : g.edges.length ≤ 1000) (d : Dr24) : Pure Tryz.prog 135 [t.d, g.d, .agg d.c] (grown t g d).d := by
  have hfN := ht.ok.fewN
  have hfE := ht.ok.fewE
  obtain ⟨C, hC⟩ : ∃ C, concL t = C := ⟨_, rfl⟩
  refine Tz.pK ⟨fun t => t == 6 || t == 7 || t == 12, fun r => match r with | 6 => [(0, 14), (1, 14)] | 11 => [(0, 30), (1, 30), (3, 30), (4, 30), (5, 30), (7, 30), (8, 30), (9, 30), (11, 30), (12, 30), (14, 30), (15, 30), (16, 30), (20, 30), (21, 30), (23, 30), (24, 30), (25, 30)] | _ => []⟩ Tryz.func135 rfl (fun Q hQ => ?_)
  try simp [go_sem, Dr24.c]
  unfold callQ; refine ref05_CopiedO g (by omega) (by omega) _ _ (fun a b H1 ha hb hab han hbn hga hgb hfr hnn => ?_)
  have h0n : (0 : Nat) < H1.next := by omega
  have ha0 : a ≠ 0 := by simp [go_sem] at ha; omega
  have hb0 : b ≠ 0 := by simp [go_sem] at hb; omega
  have hg0 := hfr 0 (by simp [go_sem])
  simp [go_sem] at hg0
  have nx := nxs H1.next
  have fr1 := And.intro (frs (show a < H1.next by omega)) (And.intro (frs (show b < H1.next by omega)) (frs (show 0 < H1.next by omega)))
  have di2 := And.intro (nep (show 0 ≠ b by omega)) (And.intro (nep (show 0 ≠ a by omega)) (nep (show b ≠ a by omega)))
  try simp [go_sem, Dr24.c, fr1, di2, hga, hgb, hg0, nx]
  refine cq0 ((by have hq := ref24_concrete t (by omega); rw [hC] at hq; exact hq)) ?_
  try simp [go_sem, Dr24.c, fr1, di2, hga, hgb, hg0, nx]
  obtain ⟨I0, hI0⟩ := mkI fun i e H => (∃ c : Nat, (e 3 = .adr t.c) ∧ (e 4 = .adr g.c) ∧ (e 5 = .adr d.c) ∧ (e 6 = .ptr 0 1 0 0) ∧ (e 7 = .ptr c 1 0 0) ∧ (e 8 = dLI C) ∧ (e 9 = dI i) ∧ (H.get 0 = some ⟨39, 2, [[.nil, .nil]], false⟩) ∧ (0 < H.next) ∧ (H.get c = some ⟨39, 2, [[.own a (g.nodes.length + i), .own b g.edges.length]], false⟩) ∧ (c < H.next) ∧ (H.get a = some ⟨3, 1, (grN t g.nodes d.nodes i).map cI, false⟩) ∧ (a < H.next) ∧ (H.get b = some ⟨146, 3, g.edges.map Edge.c, false⟩) ∧ (b < H.next) ∧ (i ≤ 2) ∧ (i ≤ d.nodes.length) ∧ (C.length = 0 → i = 0) ∧ (a < c ∧ b < c ∧ 0 < c) ∧ ((grN t g.nodes d.nodes i).length = g.nodes.length + i))
  refine loopK I0 (fun i => 2 - i) (0) ((hI0 _ _ _).2 ⟨(H1.next), ?_, ?_, ?_, ?_, ?_, ?_, ?_, ?_, ?_, ?_, ?_, (by (simp [go_sem, Dr24.c, fr1, di2, hga, hgb, hg0, nx, grN])), ?_, ?_, ?_, (by first | assumption | omega | (simp [go_sem, Dr24.c, fr1, di2, hga, hgb, hg0, nx]; done) | (simp_all; done)), (by first | assumption | omega | (simp [go_sem, Dr24.c, fr1, di2, hga, hgb, hg0, nx]; done) | (simp_all; done)), (by (intro _; rfl)), (by omega), (by (exact grN_len _ _ _ _))⟩) ?_
  iterate 14 (first | omega | (simp [go_sem, Dr24.c, fr1, di2, hga, hgb, hg0, nx] <;> omega))
  intro i e H hi0
  obtain ⟨c, q3_0, q4_0, q5_0, q6_0, q7_0, q8_0, q9_0, g0_0, n0_0, gc_0, nc_0, ga_0, na_0, gb_0, nb_0, hi, hid, hz, hc, hrl⟩ := (hI0 _ _ _).1 hi0
  have x0 := frs n0_0
  have xc := frs nc_0
  have xa := frs na_0
  have xb := frs nb_0
  have F0 := And.intro q3_0 (And.intro q4_0 (And.intro q5_0 (And.intro q6_0 (And.intro q7_0 (And.intro q8_0 (And.intro q9_0 (And.intro g0_0 (And.intro gc_0 (And.intro ga_0 (And.intro gb_0 (And.intro x0 (And.intro xc (And.intro xa xb)))))))))))))
  have di3 := And.intro (nep (show 0 ≠ c by omega)) (And.intro (nep (show 0 ≠ b by omega)) (And.intro (nep (show 0 ≠ a by omega)) (And.intro (nep (show c ≠ b by omega)) (And.intro (nep (show c ≠ a by omega)) (nep (show b ≠ a by omega))))))
  try simp [go_sem, Dr24.c, fr1, di2, hga, hgb, hg0, nx, F0, hrl, di3]
  repeat first | intro _ | refine ⟨obs, ?_⟩
  refine condQ_mk (fun h4 => ?_) (fun h4 => ?_)
  · try simp [go_sem] at h4
    have hil : i < d.nodes.length := by omega
    have hC0 : 0 < C.length := by omega
    have hCn : ¬C = [] := by intro h; rw [h] at hC0; simp at hC0
    have hx1 := u8_lt d.nodes[i]
    have hgd : d.nodes[i]?.getD 0 = d.nodes[i] := by rw [lge hil]; rfl
    have tm := tmod_in (show 0 ≤ (d.nodes[i].toNat : Int) by omega) (show (0 : Int) < C.length by omega)
    obtain ⟨kk, hpk⟩ := pickL_in hC0 d.nodes[i]
    have hne0 : (C.length : Int) ≠ 0 := by omega
    try simp [go_sem, Dr24.c, fr1, di2, hga, hgb, hg0, nx, F0, hrl, di3, h4, lge hil, lge kk, hne0, cU]
    repeat first | intro _ | refine ⟨obs, ?_⟩
    refine nextQ_mk (i + 1) (by omega) ((hI0 _ _ _).2 ⟨(c), ?_, ?_, ?_, ?_, ?_, ?_, ?_, ?_, ?_, ?_, ?_, (by (simp [go_sem, Dr24.c, fr1, di2, hga, hgb, hg0, nx, F0, hrl, di3, h4, lge hil, lge kk, hne0, cU, grN_succ, hC, hgd, hpk])), ?_, ?_, ?_, (by first | assumption | omega | (simp [go_sem, Dr24.c, fr1, di2, hga, hgb, hg0, nx, F0, hrl, di3, h4, lge hil, lge kk, hne0, cU]; done) | (simp_all <;> omega)), (by first | assumption | omega | (simp [go_sem, Dr24.c, fr1, di2, hga, hgb, hg0, nx, F0, hrl, di3, h4, lge hil, lge kk, hne0, cU]; done) | (simp_all <;> omega)), (by omega), (by omega), (by (exact grN_len _ _ _ _))⟩) <;> first | omega | (simp [go_sem, Dr24.c, fr1, di2, hga, hgb, hg0, nx, F0, hrl, di3, h4, lge hil, lge kk, hne0, cU] <;> omega)
  · try simp [go_sem] at h4
    have hI : i = (if C.length = 0 then 0 else min d.nodes.length 2) := by
     split
     ·rename_i h; exact hz h
     ·rename_i h
      have hq : ¬ (i < d.nodes.length ∧ i < 2) := fun hh => h (by rw [h4 hh.1 (by omega)]; rfl)
      omega
    obtain ⟨ns, hns⟩ : ∃ ns, grN t g.nodes d.nodes i = ns := ⟨_, rfl⟩
    have hnl : ns.length = g.nodes.length + i := by rw [← hns]; exact hrl
    clear hrl
    have hrl : g.nodes.length + i = ns.length := hnl.symm
    have hnl1 : g.nodes.length + i = ns.length := hnl.symm
    have hnl2 : (g.nodes.length : Int) + (i : Int) = (ns.length : Int) := by omega
    try simp [go_sem, Dr24.c, fr1, di2, hga, hgb, hg0, nx, F0, hrl, di3, hns, hnl1, hnl2]
    repeat first | intro _ | refine ⟨obs, ?_⟩
    obtain ⟨I2, hI2⟩ := mkI fun k e H => (∃ ys : List Edge, (e 3 = .adr t.c) ∧ (e 4 = .adr g.c) ∧ (e 5 = .adr d.c) ∧ (e 6 = .ptr 0 1 0 0) ∧ (e 7 = .ptr c 1 0 0) ∧ (e 10 = dI ns.length) ∧ (e 11 = dI k) ∧ (H.get 0 = some ⟨39, 2, [[.nil, .nil]], false⟩) ∧ (0 < H.next) ∧ (H.get c = some ⟨39, 2, [[.own a ns.length, .own b ys.length]], false⟩) ∧ (c < H.next) ∧ (H.get a = some ⟨3, 1, ns.map cI, false⟩) ∧ (a < H.next) ∧ (H.get b = some ⟨146, 3, ys.map Edge.c, false⟩) ∧ (b < H.next) ∧ (k ≤ 2) ∧ (k ≤ d.edges.length) ∧ (ns.length = 0 ∨ t.edges.length = 0 → k = 0) ∧ (a < c ∧ b < c ∧ 0 < c) ∧ (ys = grE t ns g.edges d.edges k) ∧ (ys.length ≤ g.edges.length + k))
    refine loopK I2 (fun k => 2 - k) (0) ((hI2 _ _ _).2 ⟨(g.edges), ?_, ?_, ?_, ?_, ?_, ?_, ?_, ?_, ?_, ?_, ?_, ?_, ?_, ?_, ?_, (by first | assumption | omega | (simp [go_sem, Dr24.c, fr1, di2, hga, hgb, hg0, nx, F0, hrl, di3, hns, hnl1, hnl2]; done) | (simp_all; done)), (by first | assumption | omega | (simp [go_sem, Dr24.c, fr1, di2, hga, hgb, hg0, nx, F0, hrl, di3, hns, hnl1, hnl2]; done) | (simp_all; done)), (by (intro _; rfl)), (by omega), (by (simp [grE])), (by omega)⟩) ?_
    iterate 15 (first | omega | (simp [go_sem, Dr24.c, fr1, di2, hga, hgb, hg0, nx, F0, hrl, di3, hns, hnl1, hnl2] <;> omega))
    intro k e H hi2
    obtain ⟨ys, q3_2, q4_2, q5_2, q6_2, q7_2, q10_2, q11_2, g0_2, n0_2, gc_2, nc_2, ga_2, na_2, gb_2, nb_2, hk, hkd, hzz, hc2, hy, hyl⟩ := (hI2 _ _ _).1 hi2
    have x0 := frs n0_2
    have xc := frs nc_2
    have xa := frs na_2
    have xb := frs nb_2
    have F2 := And.intro q3_2 (And.intro q4_2 (And.intro q5_2 (And.intro q6_2 (And.intro q7_2 (And.intro q10_2 (And.intro q11_2 (And.intro g0_2 (And.intro gc_2 (And.intro ga_2 (And.intro gb_2 (And.intro x0 (And.intro xc (And.intro xa xb)))))))))))))
    have di4 := And.intro (nep (show 0 ≠ c by omega)) (And.intro (nep (show 0 ≠ b by omega)) (And.intro (nep (show 0 ≠ a by omega)) (And.intro (nep (show c ≠ b by omega)) (And.intro (nep (show c ≠ a by omega)) (nep (show b ≠ a by omega))))))
    try simp [go_sem, Dr24.c, fr1, di2, hga, hgb, hg0, nx, hrl, di3, hns, hnl1, hnl2, F2, di4]
    repeat first | intro _ | refine ⟨obs, ?_⟩
    refine condQ_mk (fun h9 => ?_) (fun h9 => ?_)
    ·try simp [go_sem] at h9
     have hkl : k < d.edges.length := by omega
     have hE0 : 0 < t.edges.length := by omega
     have hn0 : 0 < ns.length := by omega
     have hee0 : ¬t.edges = [] := by intro h; rw [h] at hE0; simp at hE0
     have hnn0 : ¬ns = [] := by intro h; rw [h] at hn0; simp at hn0
     obtain ⟨x, hx⟩ : ∃ x, d.edges[k] = x := ⟨_, rfl⟩
     have hgx : d.edges[k]?.getD (0, 0, 0) = x := by rw [lge hkl, ← hx]; rfl
     have hx1 := u8_lt x.1
     have hx2 := u8_lt x.2.1
     have hx3 := u8_lt x.2.2
     have t1 := tmod_in (show 0 ≤ (x.1.toNat : Int) by omega) (show (0 : Int) < t.edges.length by omega)
     have t2 := tmod_in (show 0 ≤ (x.2.1.toNat : Int) by omega) (show (0 : Int) < ns.length by omega)
     have t3 := tmod_in (show 0 ≤ (x.2.2.toNat : Int) by omega) (show (0 : Int) < ns.length by omega)
     have hf : ((x.2.1.toNat : Int).tmod ns.length).toNat < ns.length := by omega
     have hto : ((x.2.2.toNat : Int).tmod ns.length).toNat < ns.length := by omega
     have hne0 : (t.edges.length : Int) ≠ 0 := by omega
     have hne1 : (ns.length : Int) ≠ 0 := by omega
     have nx2 := nxs H.next
     try simp [go_sem, Dr24.c, fr1, di2, hga, hgb, hg0, nx, hrl, di3, hns, hnl1, hnl2, F2, di4, h9, lge hkl, hx, hgx, cT3, lge hf, lge hto, hne0, hne1, nx2]
     repeat first | intro _ | refine ⟨obs, ?_⟩
     refine dcq0 (ref04_Fits t ht.ok _ _ _) ?_
     try simp [go_sem, Dr24.c, fr1, di2, hga, hgb, hg0, nx, hrl, di3, hns, hnl1, hnl2, F2, di4, h9, lge hkl, hx, hgx, cT3, lge hf, lge hto, hne0, hne1, nx2]
     repeat first | intro _ | refine ⟨obs, ?_⟩
     refine condQ_mk (fun h12 => ?_) (fun h12 => ?_)
     ·try simp [go_sem] at h12
      have hE : grE1 t ns x = [mkEd t ns.length x] := by unfold grE1 nN mkEd; rw [if_pos (by simpa [lge hf, lge hto] using h12)]
      try simp [go_sem, Dr24.c, fr1, di2, hga, hgb, hg0, nx, hrl, di3, hns, hnl1, hnl2, F2, di4, h9, lge hkl, hx, hgx, cT3, lge hf, lge hto, hne0, hne1, nx2, hE, mkEd]
      repeat first | intro _ | refine ⟨obs, ?_⟩
      refine nextQ_mk (k + 1) (by omega) ((hI2 _ _ _).2 ⟨(ys ++ grE1 t ns (d.edges[k]?.getD (0, 0, 0))), ?_, ?_, ?_, ?_, ?_, ?_, ?_, ?_, ?_, ?_, ?_, ?_, ?_, ?_, ?_, (by first | assumption | omega | (simp [go_sem, Dr24.c, fr1, di2, hga, hgb, hg0, nx, hrl, di3, hns, hnl1, hnl2, F2, di4, h9, lge hkl, hx, hgx, cT3, lge hf, lge hto, hne0, hne1, nx2, hE, mkEd, h4, h12]; done) | (simp_all <;> omega)), (by first | assumption | omega | (simp [go_sem, Dr24.c, fr1, di2, hga, hgb, hg0, nx, hrl, di3, hns, hnl1, hnl2, F2, di4, h9, lge hkl, hx, hgx, cT3, lge hf, lge hto, hne0, hne1, nx2, hE, mkEd, h4, h12]; done) | (simp_all <;> omega)), (by omega), (by omega), (by (rw [grE_succ, ← hy])), (by (rw [List.length_append]; have := grE1_len t ns (d.edges[k]?.getD (0, 0, 0)); omega))⟩) <;> first | omega | (simp [go_sem, Dr24.c, fr1, di2, hga, hgb, hg0, nx, hrl, di3, hns, hnl1, hnl2, F2, di4, h9, lge hkl, hx, hgx, cT3, lge hf, lge hto, hne0, hne1, nx2, hE, mkEd] <;> omega)
     ·try simp [go_sem] at h12
      have hE : grE1 t ns x = [] := by unfold grE1 nN mkEd; rw [if_neg (by simpa [lge hf, lge hto] using h12)]
      try simp [go_sem, Dr24.c, fr1, di2, hga, hgb, hg0, nx, hrl, di3, hns, hnl1, hnl2, F2, di4, h9, lge hkl, hx, hgx, cT3, lge hf, lge hto, hne0, hne1, nx2, hE]
      repeat first | intro _ | refine ⟨obs, ?_⟩
      refine nextQ_mk (k + 1) (by omega) ((hI2 _ _ _).2 ⟨(ys ++ grE1 t ns (d.edges[k]?.getD (0, 0, 0))), ?_, ?_, ?_, ?_, ?_, ?_, ?_, ?_, ?_, ?_, ?_, ?_, ?_, ?_, ?_, (by first | assumption | omega | (simp [go_sem, Dr24.c, fr1, di2, hga, hgb, hg0, nx, hrl, di3, hns, hnl1, hnl2, F2, di4, h9, lge hkl, hx, hgx, cT3, lge hf, lge hto, hne0, hne1, nx2, hE, h4, h12]; done) | (simp_all <;> omega)), (by first | assumption | omega | (simp [go_sem, Dr24.c, fr1, di2, hga, hgb, hg0, nx, hrl, di3, hns, hnl1, hnl2, F2, di4, h9, lge hkl, hx, hgx, cT3, lge hf, lge hto, hne0, hne1, nx2, hE, h4, h12]; done) | (simp_all <;> omega)), (by omega), (by omega), (by (rw [grE_succ, ← hy])), (by (rw [List.length_append]; have := grE1_len t ns (d.edges[k]?.getD (0, 0, 0)); omega))⟩) <;> first | omega | (simp [go_sem, Dr24.c, fr1, di2, hga, hgb, hg0, nx, hrl, di3, hns, hnl1, hnl2, F2, di4, h9, lge hkl, hx, hgx, cT3, lge hf, lge hto, hne0, hne1, nx2, hE] <;> omega)
    ·try simp [go_sem] at h9
     have hK : k = (if ns.length = 0 ∨ t.edges.length = 0 then 0 else min d.edges.length 2) := by
      split
      ·rename_i h; exact hzz h
      ·rename_i h
       have hq : ¬ (k < d.edges.length ∧ k < 2) := fun hh => h (.inr (by rw [h9 hh.1 (by omega) (by omega)]; rfl))
       omega
     have hfin : grown t g d = ⟨ns, ys⟩ := by
      unfold grown
      rw [hC, ← hI, hns, ← hK, hy]
     try simp [go_sem, Dr24.c, fr1, di2, hga, hgb, hg0, nx, hrl, di3, hns, hnl1, hnl2, F2, di4]
     exact hQ _ _ (.inl (by simp [go_sem, Dr24.c, fr1, di2, hga, hgb, hg0, nx, hrl, di3, hns, hnl1, hnl2, F2, di4, hfin]))
end Go.Abs
end
section
set_option maxRecDepth 8000
set_option maxHeartbeats 4000000
open Go Go.Proofs
namespace Go.Abs
def tightS (vars : Int) (ns : List Int) (la : Nat) (x : B3) : Slot := ⟨(x.1.toNat : Int).tmod ns.length, (x.2.1.toNat : Int).tmod la, ⟨((x.2.1.toNat : Int) / 16).tmod (vars + 1) - 1, (x.2.2.toNat : Int).tmod 3⟩⟩
def twinB (s y : Slot) : Bool := y.node == s.node && y.attr == s.attr
def s24S (t : Types) (vars : Int) (ns : List Int) (out : List Slot) (x : B3) : List Slot :=
  if (attrsT t (nN ns ((x.1.toNat : Int).tmod ns.length))).length = 0 then out
  else if out.any (twinB (tightS vars ns (attrsT t (nN ns ((x.1.toNat : Int).tmod ns.length))).length x)) = true then out
  else out ++ [tightS vars ns (attrsT t (nN ns ((x.1.toNat : Int).tmod ns.length))).length x]
def s24F (t : Types) (vars : Int) (ns : List Int) (l : List B3) (k : Nat) : List Slot := (List.range k).foldl (fun out i => s24S t vars ns out (l[i]?.getD (0, 0, 0))) []
def slots24 (t : Types) (ns : List Int) (vars : Int) (l : List B3) : List Slot := s24F t vars ns l (if ns.length = 0 then 0 else min l.length 3)
theorem s24F_succ (t : Types) (vars : Int) (ns : List Int) (l : List B3) (k : Nat) : s24F t vars ns l (k + 1) = s24S t vars ns (s24F t vars ns l k) (l[k]?.getD (0, 0, 0)) := by simp [s24F, List.range_succ]
theorem s24S_len (t : Types) (vars : Int) (ns : List Int) (out : List Slot) (x : B3) : (s24S t vars ns out x).length ≤ out.length + 1 := by
  unfold s24S; split
  · omega
  · split
    ·omega
    ·simp
theorem s24F_len (t : Types) (vars : Int) (ns : List Int) (l : List B3) : ∀ k, (s24F t vars ns l k).length ≤ k
  | 0 => by simp [s24F]
  | k + 1 => by rw [s24F_succ]; have := s24S_len t vars ns (s24F t vars ns l k) (l[k]?.getD (0, 0, 0)); have := s24F_len t vars ns l k; omega
theorem ref24_slots (t : Types) (ht : t.fine) (g : Graph) (vars : Int) (hv : 0 ≤ vars ∧ vars ≤ 1000) (l : List B3) : Pure Tryz.prog 138 [t.d, g.d, dI vars, .list (l.map cT3)] (.list ((slots24 t g.nodes vars l).map Slot.c)) := by
  refine Tz.pK ⟨fun t => t == 9 || t == 14, fun r => match r with | 8 => [(3, 30), (4, 30), (5, 30), (8, 30), (12, 30), (13, 30), (14, 30), (23, 30), (24, 30), (25, 30)] | _ => []⟩ Tryz.func138 rfl (fun Q hQ => ?_)
  try simp [go_sem]
  obtain ⟨I0, hI0⟩ := mkI fun i e H => (∃ out : List Slot, (e 4 = .adr t.c) ∧ (e 5 = .adr g.c) ∧ (e 2 = dI vars) ∧ (e 3 = .list (l.map cT3)) ∧ (e 9 = .own 0 out.length) ∧ (e 10 = dI i) ∧ (H.get 0 = some ⟨245, 4, out.map Slot.c, false⟩) ∧ (0 < H.next) ∧ (i ≤ 3) ∧ (i ≤ l.length) ∧ (g.nodes.length = 0 → i = 0) ∧ (out = s24F t vars g.nodes l i))
  refine loopK I0 (fun i => 3 - i) (0) ((hI0 _ _ _).2 ⟨([]), ?_, ?_, ?_, ?_, ?_, ?_, ?_, ?_, (by first | assumption | omega | (simp [go_sem]; done) | (simp_all; done)), (by first | assumption | omega | (simp [go_sem]; done) | (simp_all; done)), (by (intro _; rfl)), (by rfl)⟩) ?_
  iterate 8 (first | omega | (simp [go_sem] <;> omega))
  intro i e H hi0
  obtain ⟨out, q4_0, q5_0, q2_0, q3_0, q9_0, q10_0, g0_0, n0_0, hi, hil, hz, ho⟩ := (hI0 _ _ _).1 hi0
  have x0 := frs n0_0
  have F0 := And.intro q4_0 (And.intro q5_0 (And.intro q2_0 (And.intro q3_0 (And.intro q9_0 (And.intro q10_0 (And.intro g0_0 x0))))))
  try simp [go_sem, F0]
  repeat first | intro _ | refine ⟨obs, ?_⟩
  refine condQ_mk (fun h3 => ?_) (fun h3 => ?_)
  · try simp [go_sem] at h3
    have hkl : i < l.length := by omega
    have hn0 : 0 < g.nodes.length := by omega
    have hnn0 : ¬g.nodes = [] := by intro h; rw [h] at hn0; simp at hn0
    obtain ⟨x, hx⟩ : ∃ x, l[i] = x := ⟨_, rfl⟩
    have hgx : l[i]?.getD (0, 0, 0) = x := by rw [lge hkl, ← hx]; rfl
    have hx1 := u8_lt x.1
    have hx2 := u8_lt x.2.1
    have hx3 := u8_lt x.2.2
    have t1 := tmod_in (show 0 ≤ (x.1.toNat : Int) by omega) (show (0 : Int) < g.nodes.length by omega)
    have hf : ((x.1.toNat : Int).tmod g.nodes.length).toNat < g.nodes.length := by omega
    have hnn : nN g.nodes ((x.1.toNat : Int).tmod g.nodes.length) = g.nodes[((x.1.toNat : Int).tmod g.nodes.length).toNat] := by unfold nN; rw [lge hf]; rfl
    have hne0 : (g.nodes.length : Int) ≠ 0 := by omega
    have hlen := s24F_len t vars g.nodes l i
    rw [← ho] at hlen
    have hS : s24F t vars g.nodes l (i + 1) = s24S t vars g.nodes out x := by rw [s24F_succ, hgx, ← ho]
    unfold s24S at hS
    rw [hnn] at hS
    have nx := nxs H.next
    try simp [go_sem, F0, h3, lge hkl, hx, cT3, lge hf, hne0, nx]
    repeat first | intro _ | refine ⟨obs, ?_⟩
    refine dcq0 (ref04_Attrs t ht.ok _) ?_
    try simp [go_sem, F0, h3, lge hkl, hx, cT3, lge hf, hne0, nx]
    repeat first | intro _ | refine ⟨obs, ?_⟩
    refine condQ_mk (fun h7 => ?_) (fun h7 => ?_)
    ·try simp [go_sem] at h7
     rw [if_pos (by rw [h7]; rfl)] at hS
     obtain ⟨out', hout⟩ : ∃ y : List Slot, y = out := ⟨_, rfl⟩
     have ho' : out' = s24F t vars g.nodes l (i + 1) := by rw [hS, hout]
     try simp [go_sem, F0, h3, lge hkl, hx, cT3, lge hf, hne0, nx, hout]
     repeat first | intro _ | refine ⟨obs, ?_⟩
     refine nextQ_mk (i + 1) (by omega) ((hI0 _ _ _).2 ⟨(out'), ?_, ?_, ?_, ?_, ?_, ?_, ?_, ?_, (by first | assumption | omega | (simp [go_sem, F0, h3, lge hkl, hx, cT3, lge hf, hne0, nx, hout, h7]; done) | (simp_all <;> omega)), (by first | assumption | omega | (simp [go_sem, F0, h3, lge hkl, hx, cT3, lge hf, hne0, nx, hout, h7]; done) | (simp_all <;> omega)), (by omega), (by exact ho')⟩) <;> first | omega | (simp [go_sem, F0, h3, lge hkl, hx, cT3, lge hf, hne0, nx, hout] <;> omega)
    ·try simp [go_sem] at h7
     rw [if_neg (fun h => h7 (List.length_eq_zero_iff.1 h))] at hS
     obtain ⟨la, hla⟩ : ∃ la, (attrsT t g.nodes[((x.1.toNat : Int).tmod g.nodes.length).toNat]).length = la := ⟨_, rfl⟩
     rw [hla] at hS
     have hla0 : 0 < la := by rw [← hla]; exact List.length_pos_iff.2 h7
     have t2 := tmod_in (show 0 ≤ (x.2.1.toNat : Int) by omega) (show (0 : Int) < la by omega)
     have t3 := tmod_in (show 0 ≤ (x.2.1.toNat : Int) / 16 by omega) (show 0 < vars + 1 by omega)
     have t4 := tmod_in (show 0 ≤ (x.2.2.toNat : Int) by omega) (show (0 : Int) < 3 by omega)
     have hu := inR_u8 (show 0 ≤ (x.2.1.toNat : Int) / 16 by omega) (by omega)
     have hne1 : (la : Int) ≠ 0 := by omega
     have hne2 : vars + 1 ≠ 0 := by omega
     obtain ⟨s, hs⟩ : ∃ s, tightS vars g.nodes la x = s := ⟨_, rfl⟩
     have hsn : s.node = (x.1.toNat : Int).tmod g.nodes.length := by rw [← hs]; rfl
     have hsa : s.attr = (x.2.1.toNat : Int).tmod la := by rw [← hs]; rfl
     have hsv : s.term.var = ((x.2.1.toNat : Int) / 16).tmod (vars + 1) - 1 := by rw [← hs]; rfl
     have hsd : s.term.add = (x.2.2.toNat : Int).tmod 3 := by rw [← hs]; rfl
     rw [hs] at hS
     try simp [go_sem, F0, h3, lge hkl, hx, cT3, lge hf, hne0, nx, h7, hla, hne1, hne2, hsn, hsa, hsv, hsd]
     repeat first | intro _ | refine ⟨obs, ?_⟩
     obtain ⟨I2, hI2⟩ := mkI fun k e H => (∃ b14 : Nat, (e 4 = .adr t.c) ∧ (e 5 = .adr g.c) ∧ (e 2 = dI vars) ∧ (e 3 = .list (l.map cT3)) ∧ (e 9 = .own 0 out.length) ∧ (e 10 = dI i) ∧ (e 14 = .ptr b14 1 0 0) ∧ (e 15 = .bool ((out.take k).any (twinB s))) ∧ (e 16 = dI k) ∧ (H.get 0 = some ⟨245, 4, out.map Slot.c, false⟩) ∧ (0 < H.next) ∧ (H.get b14 = some ⟨245, 4, [[dI s.node, dI s.attr, dI s.term.var, dI s.term.add]], false⟩) ∧ (b14 < H.next) ∧ (k ≤ out.length) ∧ (0 < b14))
     refine loopK I2 (fun k => out.length - k) (0) ((hI2 _ _ _).2 ⟨(H.next + 11 + 12 + 30), ?_, ?_, ?_, ?_, ?_, ?_, ?_, ?_, ?_, ?_, ?_, (by (simp [go_sem, F0, h3, lge hkl, hx, cT3, lge hf, hne0, nx, h7, hla, hne1, hne2, hsn, hsa, hsv, hsd, dI])), ?_, (by first | assumption | omega | (simp [go_sem, F0, h3, lge hkl, hx, cT3, lge hf, hne0, nx, h7, hla, hne1, hne2, hsn, hsa, hsv, hsd]; done) | (simp_all; done)), (by omega)⟩) ?_
     iterate 12 (first | omega | (simp [go_sem, F0, h3, lge hkl, hx, cT3, lge hf, hne0, nx, h7, hla, hne1, hne2, hsn, hsa, hsv, hsd] <;> omega))
     intro k e H hi2
     obtain ⟨b14, q4_2, q5_2, q2_2, q3_2, q9_2, q10_2, q14_2, q15_2, q16_2, g0_2, n0_2, gb14_2, nb14_2, hk, hb14⟩ := (hI2 _ _ _).1 hi2
     have x0 := frs n0_2
     have xb14 := frs nb14_2
     have F2 := And.intro q4_2 (And.intro q5_2 (And.intro q2_2 (And.intro q3_2 (And.intro q9_2 (And.intro q10_2 (And.intro q14_2 (And.intro q16_2 (And.intro g0_2 (And.intro gb14_2 (And.intro x0 xb14))))))))))
     have di1 := nep (show b14 ≠ 0 by omega)
     try simp [go_sem, h3, lge hkl, hx, cT3, lge hf, hne0, nx, h7, hla, hne1, hne2, hsn, hsa, hsv, hsd, F2, q15_2, di1]
     repeat first | intro _ | refine ⟨obs, ?_⟩
     refine condQ_mk (fun h11 => ?_) (fun h11 => ?_)
     ·try simp [go_sem] at h11
      have hts : (out.take (k + 1)).any (twinB s) = ((out.take k).any (twinB s) || (decide (out[k].node = (x.1.toNat : Int).tmod g.nodes.length) && out[k].attr == (x.2.1.toNat : Int).tmod la)) := by
       rw [List.take_succ_eq_append_getElem h11, List.any_append, List.any_cons, List.any_nil, Bool.or_false, ← hsn, ← hsa]; rfl
      obtain ⟨bb, hbb⟩ : ∃ bb, (out.take k).any (twinB s) = bb := ⟨_, rfl⟩
      rw [hbb] at q15_2 hts
      try simp [go_sem, h3, lge hkl, hx, cT3, lge hf, hne0, nx, h7, hla, hne1, hne2, hsn, hsa, hsv, hsd, F2, q15_2, di1, h11, lge h11, hts]
      repeat first | intro _ | refine ⟨obs, ?_⟩
      refine nextQ_mk (k + 1) (by omega) ((hI2 _ _ _).2 ⟨(b14), ?_, ?_, ?_, ?_, ?_, ?_, ?_, ?_, ?_, ?_, ?_, (by (simp [go_sem, h3, lge hkl, hx, cT3, lge hf, hne0, nx, h7, hla, hne1, hne2, hsn, hsa, hsv, hsd, F2, q15_2, di1, h11, lge h11, hts])), ?_, (by first | assumption | omega | (simp [go_sem, h3, lge hkl, hx, cT3, lge hf, hne0, nx, h7, hla, hne1, hne2, hsn, hsa, hsv, hsd, F2, q15_2, di1, h11, lge h11, hts]; done) | (simp_all <;> omega)), (by omega)⟩) <;> first | omega | (simp [go_sem, h3, lge hkl, hx, cT3, lge hf, hne0, nx, h7, hla, hne1, hne2, hsn, hsa, hsv, hsd, F2, q15_2, di1, h11, lge h11, hts] <;> omega)
     ·try simp [go_sem] at h11
      have hK : out.take k = out := List.take_of_length_le (by omega)
      rw [hK] at q15_2
      try simp [go_sem, h3, lge hkl, hx, cT3, lge hf, hne0, nx, h7, hla, hne1, hne2, hsn, hsa, hsv, hsd, F2, q15_2, di1, hK]
      repeat first | intro _ | refine ⟨obs, ?_⟩
      refine condQ_mk (fun h14 => ?_) (fun h14 => ?_)
      ·try simp [go_sem] at h14
       rw [if_neg (by simpa using h14)] at hS
       obtain ⟨out', hout⟩ : ∃ y : List Slot, y = out ++ [s] := ⟨_, rfl⟩
       have ho' : out' = s24F t vars g.nodes l (i + 1) := by rw [hS, hout]
       try simp [go_sem, h3, lge hkl, hx, cT3, lge hf, hne0, nx, h7, hla, hne1, hne2, hsn, hsa, hsv, hsd, F2, q15_2, di1, hK, hout]
       repeat first | intro _ | refine ⟨obs, ?_⟩
       refine nextQ_mk (i + 1) (by omega) ((hI0 _ _ _).2 ⟨(out'), ?_, ?_, ?_, ?_, ?_, ?_, ?_, ?_, (by first | assumption | omega | (simp [go_sem, h3, lge hkl, hx, cT3, lge hf, hne0, nx, h7, hla, hne1, hne2, hsn, hsa, hsv, hsd, F2, q15_2, di1, hK, hout, h11, h14]; done) | (simp_all <;> omega)), (by first | assumption | omega | (simp [go_sem, h3, lge hkl, hx, cT3, lge hf, hne0, nx, h7, hla, hne1, hne2, hsn, hsa, hsv, hsd, F2, q15_2, di1, hK, hout, h11, h14]; done) | (simp_all <;> omega)), (by omega), (by exact ho')⟩) <;> first | omega | (simp [go_sem, h3, lge hkl, hx, cT3, lge hf, hne0, nx, h7, hla, hne1, hne2, hsn, hsa, hsv, hsd, F2, q15_2, di1, hK, hout] <;> omega)
      ·try simp [go_sem] at h14
       rw [if_pos (by simpa using h14)] at hS
       obtain ⟨out', hout⟩ : ∃ y : List Slot, y = out := ⟨_, rfl⟩
       have ho' : out' = s24F t vars g.nodes l (i + 1) := by rw [hS, hout]
       try simp [go_sem, h3, lge hkl, hx, cT3, lge hf, hne0, nx, h7, hla, hne1, hne2, hsn, hsa, hsv, hsd, F2, q15_2, di1, hK, hout]
       repeat first | intro _ | refine ⟨obs, ?_⟩
       refine nextQ_mk (i + 1) (by omega) ((hI0 _ _ _).2 ⟨(out'), ?_, ?_, ?_, ?_, ?_, ?_, ?_, ?_, (by first | assumption | omega | (simp [go_sem, h3, lge hkl, hx, cT3, lge hf, hne0, nx, h7, hla, hne1, hne2, hsn, hsa, hsv, hsd, F2, q15_2, di1, hK, hout, h11, h14]; done) | (simp_all <;> omega)), (by first | assumption | omega | (simp [go_sem, h3, lge hkl, hx, cT3, lge hf, hne0, nx, h7, hla, hne1, hne2, hsn, hsa, hsv, hsd, F2, q15_2, di1, hK, hout, h11, h14]; done) | (simp_all <;> omega)), (by omega), (by exact ho')⟩) <;> first | omega | (simp [go_sem, h3, lge hkl, hx, cT3, lge hf, hne0, nx, h7, hla, hne1, hne2, hsn, hsa, hsv, hsd, F2, q15_2, di1, hK, hout] <;> omega)
  · try simp [go_sem] at h3
    have hI : i = (if g.nodes.length = 0 then 0 else min l.length 3) := by
     split
     ·rename_i h; exact hz h
     ·rename_i h
      have hq : ¬ (i < l.length ∧ i < 3) := fun hh => h (by rw [h3 hh.1 (by omega)]; rfl)
      omega
    have hfin : slots24 t g.nodes vars l = out := by unfold slots24; rw [← hI, ho]
    try simp [go_sem, F0]
    exact hQ _ _ (.inl (by simp [go_sem, F0, hfin]))
theorem nz_ints (l : List Int) : nzAss (l.map cI) = l.map cI := nzAss_id fun c hc => by
  rw [List.mem_map] at hc; obtain ⟨x, _, rfl⟩ := hc; rfl
theorem nz_edges (l : List Edge) : nzAss (l.map Edge.c) = l.map Edge.c := nzAss_id fun c hc => by
  rw [List.mem_map] at hc; obtain ⟨x, _, rfl⟩ := hc; rfl
def trueC : Cond := .mk 1 [] ⟨[], []⟩ ⟨⟨[], []⟩, [], 0, []⟩
def plain24 (r : Rule) : Rule := ⟨r.name, ⟨r.left.graph, [], 0, []⟩, ⟨r.right.graph, [], 0, []⟩, r.keep, r.into, r.inj, trueC⟩
theorem ref24_plain (r : Rule) (h1 : r.left.graph.nodes.length ≤ 1000 ∧ r.left.graph.edges.length ≤ 1000) (h2 : r.right.graph.nodes.length ≤ 1000 ∧ r.right.graph.edges.length ≤ 1000) (h3 : r.keep.nodes.length ≤ 1000 ∧ r.keep.edges.length ≤ 1000) (h4 : r.into.nodes.length ≤ 1000 ∧ r.into.edges.length ≤ 1000) : Pure Tryz.prog 140 [r.d] (plain24 r).d := by
  refine pureKA (by first | rfl | (simp [go_sem]; done)) (fun Q hQ => (acalls_of_body (cfg := ⟨fun t => t == 2 || t == 15 || t == 20 || t == 26 || t == 31, fun r => match r with | 1 => [(0, 12), (1, 12), (2, 12), (3, 12), (4, 12), (5, 12), (7, 12), (8, 12), (9, 12), (10, 12), (12, 13), (12, 14), (12, 15), (0, 16), (1, 16), (0, 17), (1, 17), (2, 17), (3, 17), (4, 17), (5, 17), (7, 17), (8, 17), (9, 17), (10, 17), (12, 17), (13, 17), (14, 17), (15, 17), (16, 17), (12, 18), (16, 18), (17, 18), (12, 19), (16, 19), (17, 19), (12, 20), (16, 20), (17, 20), (0, 21), (1, 21), (0, 23), (1, 23), (2, 23), (3, 23), (4, 23), (5, 23), (7, 23), (8, 23), (9, 23), (10, 23), (12, 23), (13, 23), (14, 23), (15, 23), (16, 23), (17, 23), (18, 23), (19, 23), (20, 23), (21, 23), (12, 24), (16, 24), (17, 24), (21, 24), (23, 24), (12, 25), (16, 25), (17, 25), (21, 25), (23, 25), (12, 26), (16, 26), (17, 26), (21, 26), (23, 26), (0, 27), (1, 27), (0, 28), (1, 28), (2, 28), (3, 28), (4, 28), (5, 28), (7, 28), (8, 28), (9, 28), (10, 28), (12, 28), (13, 28), (14, 28), (15, 28), (16, 28), (17, 28), (18, 28), (19, 28), (20, 28), (21, 28), (23, 28), (24, 28), (25, 28), (26, 28), (27, 28), (12, 29), (16, 29), (17, 29), (21, 29), (23, 29), (27, 29), (28, 29), (12, 30), (16, 30), (17, 30), (21, 30), (23, 30), (27, 30), (28, 30), (12, 31), (16, 31), (17, 31), (21, 31), (23, 31), (27, 31), (28, 31), (0, 32), (1, 32), (12, 34), (16, 34), (17, 34), (21, 34), (23, 34), (27, 34), (28, 34), (32, 34), (12, 35), (16, 35), (17, 35), (21, 35), (23, 35), (27, 35), (28, 35), (32, 35)] | _ => []⟩) Tz.mixed Tryz.func140 rfl rfl (nlb rfl) (by kernel_rfl) ?_))
  try simp [go_sem]
  repeat (first | intro _ | (refine ⟨obl, ?_⟩))
  refine dcq0 (ref05_Copied r.left.graph (by omega) (by omega)) ?_
  try simp [go_sem]
  repeat (first | intro _ | (refine ⟨obl, ?_⟩))
  refine dcq0 (ref05_Copied r.right.graph (by omega) (by omega)) ?_
  try simp [go_sem]
  repeat (first | intro _ | (refine ⟨obl, ?_⟩))
  exact hQ _ _ (by simp [go_sem, nz_ints, nz_edges, plain24, trueC, Rule.d, Rule.c, Cond.kind, Cond.kids, Cond.map, Cond.pattern])
end Go.Abs
end
section
set_option maxRecDepth 8000
set_option maxHeartbeats 4000000
open Go Go.Proofs
namespace Go.Abs
theorem nzAss_append (a b : List (List D)) : nzAss (a ++ b) = nzAss a ++ nzAss b := by simp [nzAss_map]
def forbC (p : Pattern) (g : Graph) : Cond := .mk 2 [.mk 5 [trueC] ⟨numL p.graph.nodes.length, numL p.graph.edges.length⟩ ⟨g, [], p.vars, []⟩] ⟨[], []⟩ ⟨⟨[], []⟩, [], 0, []⟩
def forb (t : Types) (p : Pattern) (x : B4) : Cond :=
  if (x.1.toNat : Int).tmod 4 = 1 then forbC p ⟨p.graph.nodes ++ [(x.2.1.toNat : Int).tmod t.nodes.length], p.graph.edges⟩
  else if (x.1.toNat : Int).tmod 4 = 2 then
    if p.graph.nodes.length = 0 ∨ t.edges.length = 0 then trueC
    else forbC p ⟨p.graph.nodes, p.graph.edges ++ [⟨(x.2.1.toNat : Int).tmod t.edges.length, (x.2.2.1.toNat : Int).tmod p.graph.nodes.length, (x.2.2.2.toNat : Int).tmod p.graph.nodes.length⟩]⟩
  else trueC
theorem ref24_forbid (t : Types) (ht : t.fine) (p : Pattern) (h1 : p.graph.nodes.length ≤ 1000) (h2 : p.graph.edges.length ≤ 1000) (x : B4) : Pure Tryz.prog 139 [t.d, p.d, .agg (cU4 x)] (.agg (forb t p x).c) := by
  have hfN := ht.ok.fewN
  have hfE := ht.ok.fewE
  have hne := ht.valid.ne
  have hx1 := u8_lt x.1
  have hx2 := u8_lt x.2.1
  have hx3 := u8_lt x.2.2.1
  have hx4 := u8_lt x.2.2.2
  refine pureKA (by first | rfl | (simp [go_sem]; done)) (fun Q hQ => (acalls_of_body (cfg := ⟨fun t => t == 6 || t == 7 || t == 9 || t == 10, fun r => match r with | 6 => [(0, 9), (1, 9)] | 10 => [(0, 20), (1, 20)] | _ => []⟩) Tz.mixed Tryz.func139 rfl rfl (nlb rfl) (by kernel_rfl) ?_))
  try simp [go_sem, cU4]
  unfold callQ; refine ref05_CopiedO p.graph (by omega) (by omega) _ _ (fun a b H1 ha hb hab han hbn hga hgb hfr hnn => ?_)
  have h0n : (0 : Nat) < H1.next := by omega
  have ha0 : a ≠ 0 := by simp [go_sem] at ha; omega
  have hb0 : b ≠ 0 := by simp [go_sem] at hb; omega
  have hg0 := hfr 0 (by simp [go_sem])
  simp [go_sem] at hg0
  have nx := nxs H1.next
  have fr1 := And.intro (frs (show a < H1.next by omega)) (And.intro (frs (show b < H1.next by omega)) (frs (show 0 < H1.next by omega)))
  have di2 := And.intro (nep (show 0 ≠ b by omega)) (And.intro (nep (show 0 ≠ a by omega)) (nep (show b ≠ a by omega)))
  try simp [go_sem, cU4, fr1, di2, hga, hgb, hg0, nx]
  repeat first | intro _ | refine ⟨obs, ?_⟩
  refine condQ_mk (fun h5 => ?_) (fun h5 => ?_)
  · try simp [go_sem] at h5
    have t1 := tmod_in (show 0 ≤ (x.2.1.toNat : Int) by omega) (show (0 : Int) < t.nodes.length by omega)
    have hnn0 : ¬t.nodes = [] := by intro h; rw [h] at hne; simp at hne
    have hne0 : (t.nodes.length : Int) ≠ 0 := by omega
    have hF : forb t p x = forbC p ⟨p.graph.nodes ++ [(x.2.1.toNat : Int).tmod t.nodes.length], p.graph.edges⟩ := by unfold forb; rw [if_pos h5]
    try simp [go_sem, cU4, fr1, di2, hga, hgb, hg0, nx, hne0, hF, forbC, trueC, Cond.c_eq, Cond.kind, Cond.kids, Cond.map, Cond.pattern]
    repeat first | intro _ | refine ⟨obs, ?_⟩
    refine cq0 (ref06_Of p.graph (by omega) (by omega)) ?_
    try simp [go_sem, cU4, fr1, di2, hga, hgb, hg0, nx, hne0, hF, forbC, trueC, Cond.c_eq, Cond.kind, Cond.kids, Cond.map, Cond.pattern]
    repeat first | intro _ | refine ⟨obs, ?_⟩
    exact hQ _ _ (by simp [go_sem, cU4, fr1, di2, hga, hgb, hg0, nx, hne0, hF, forbC, trueC, Cond.c_eq, Cond.kind, Cond.kids, Cond.map, Cond.pattern, nz_ints, nz_edges, nzAss_append])
  · try simp [go_sem] at h5
    try simp [go_sem, cU4, fr1, di2, hga, hgb, hg0, nx]
    refine condQ_mk (fun h7 => ?_) (fun h7 => ?_)
    ·try simp [go_sem] at h7
     try simp [go_sem, cU4, fr1, di2, hga, hgb, hg0, nx]
     repeat first | intro _ | refine ⟨obs, ?_⟩
     refine condQ_mk (fun h8 => ?_) (fun h8 => ?_)
     ·try simp [go_sem] at h8
      have hF : forb t p x = trueC := by unfold forb; rw [if_neg h5, if_pos h7, if_pos (h8.imp (fun h => by rw [h]; rfl) (fun h => by rw [h]; rfl))]
      try simp [go_sem, cU4, fr1, di2, hga, hgb, hg0, nx, hF, trueC, Cond.c_eq, Cond.kind, Cond.kids, Cond.map, Cond.pattern]
      exact hQ _ _ (by simp [go_sem, cU4, fr1, di2, hga, hgb, hg0, nx, hF, trueC, Cond.c_eq, Cond.kind, Cond.kids, Cond.map, Cond.pattern, h5, h7, h8] <;> first | omega | (rw [bei]; simp <;> omega) | (simp_all <;> omega))
     ·try simp [go_sem] at h8
      have hn0 : 0 < p.graph.nodes.length ∧ 0 < t.edges.length := by constructor <;> (apply List.length_pos_iff.2; intro h; simp [h] at h8)
      have hnn0 : ¬p.graph.nodes = [] := List.length_pos_iff.1 hn0.1
      have hee0 : ¬t.edges = [] := List.length_pos_iff.1 hn0.2
      have t1 := tmod_in (show 0 ≤ (x.2.1.toNat : Int) by omega) (show (0 : Int) < t.edges.length by omega)
      have t2 := tmod_in (show 0 ≤ (x.2.2.1.toNat : Int) by omega) (show (0 : Int) < p.graph.nodes.length by omega)
      have t3 := tmod_in (show 0 ≤ (x.2.2.2.toNat : Int) by omega) (show (0 : Int) < p.graph.nodes.length by omega)
      have hne0 : (t.edges.length : Int) ≠ 0 := by omega
      have hne1 : (p.graph.nodes.length : Int) ≠ 0 := by omega
      have hF : forb t p x = forbC p ⟨p.graph.nodes, p.graph.edges ++ [⟨(x.2.1.toNat : Int).tmod t.edges.length, (x.2.2.1.toNat : Int).tmod p.graph.nodes.length, (x.2.2.2.toNat : Int).tmod p.graph.nodes.length⟩]⟩ := by unfold forb; rw [if_neg h5, if_pos h7, if_neg (by omega)]
      try simp [go_sem, cU4, fr1, di2, hga, hgb, hg0, nx, hne0, hne1, hF, forbC, trueC, Cond.c_eq, Cond.kind, Cond.kids, Cond.map, Cond.pattern]
      repeat first | intro _ | refine ⟨obs, ?_⟩
      refine cq0 (ref06_Of p.graph (by omega) (by omega)) ?_
      try simp [go_sem, cU4, fr1, di2, hga, hgb, hg0, nx, hne0, hne1, hF, forbC, trueC, Cond.c_eq, Cond.kind, Cond.kids, Cond.map, Cond.pattern]
      repeat first | intro _ | refine ⟨obs, ?_⟩
      exact hQ _ _ (by simp [go_sem, cU4, fr1, di2, hga, hgb, hg0, nx, hne0, hne1, hF, forbC, trueC, Cond.c_eq, Cond.kind, Cond.kids, Cond.map, Cond.pattern, nz_ints, nz_edges, nzAss_append, Edge.c])
    ·try simp [go_sem] at h7
     have hF : forb t p x = trueC := by unfold forb; rw [if_neg h5, if_neg h7]
     try simp [go_sem, cU4, fr1, di2, hga, hgb, hg0, nx, hF, trueC, Cond.c_eq, Cond.kind, Cond.kids, Cond.map, Cond.pattern]
     exact hQ _ _ (by simp [go_sem, cU4, fr1, di2, hga, hgb, hg0, nx, hF, trueC, Cond.c_eq, Cond.kind, Cond.kids, Cond.map, Cond.pattern, h5, h7] <;> first | omega | (rw [bei]; simp <;> omega) | (simp_all <;> omega))
theorem markL_len (b : List Bool) : (markL b).length ≤ b.length := by
  unfold markL restI; rw [List.length_map]; exact Nat.le_trans (List.length_filter_le _ _) (by simp)
theorem bitL_len (k : UInt64) (off n : Nat) : (bitL k off n).length = n := by simp [bitL]
theorem made7_len (g : Graph) (k : UInt64) : (made7 g k).nodes.length ≤ g.nodes.length ∧ (made7 g k).edges.length ≤ g.edges.length := by
  refine ⟨Nat.le_trans (markL_len _) (by rw [leaN_len, bitL_len]; exact Nat.le_refl _), Nat.le_trans (markL_len _) (by rw [bitL_len]; exact Nat.le_refl _)⟩
theorem extractG_len (g : Graph) (p : Part) : (extractG g p).nodes.length ≤ p.nodes.length ∧ (extractG g p).edges.length ≤ p.edges.length := by
  unfold extractG; split <;> simp
def kept24 (t : Types) (d : Dr24) : Part := made7 (made21 t d.left).graph d.keep
def kg24 (t : Types) (d : Dr24) : Graph := extractG (made21 t d.left).graph (kept24 t d)
def gr24 (t : Types) (d : Dr24) : Graph := grown t (kg24 t d) d
def rg24 (t : Types) (d : Dr24) : Graph := reoF (gr24 t d) (shufF (gr24 t d).nodes.length d.order) (shufF (gr24 t d).edges.length d.order)
def rule24 (t : Types) (d : Dr24) : Rule :=
  ⟨⟨#[114]⟩, made21 t d.left, ⟨rg24 t d, slots24 t (rg24 t d).nodes (made21 t d.left).vars d.slots, (made21 t d.left).vars, []⟩, kept24 t d,
    ⟨(shufF (gr24 t d).nodes.length d.order).take (kg24 t d).nodes.length, (shufF (gr24 t d).edges.length d.order).take (kg24 t d).edges.length⟩, d.inj, forb t (made21 t d.left) d.forbid⟩
def made24 (t : Types) (d : Dr24) : Rule := if d.plain = true then plain24 (rule24 t d) else rule24 t d
end Go.Abs
end
section
set_option maxRecDepth 8000
set_option maxHeartbeats 4000000
open Go Go.Proofs
namespace Go.Abs
theorem made21_in (t : Types) (d : Dr21) : (made21 t d).graph.ends ∧ (made21 t d).graph.nodes.length ≤ 8 ∧ (made21 t d).graph.edges.length ≤ 10 ∧ (0 ≤ (made21 t d).vars ∧ (made21 t d).vars ≤ 3) := by
  have h1 := made17_ends t d.graph
  have h2 := made17_len t d.graph
  refine ⟨h1, h2.1, h2.2, ?_⟩
  show 0 ≤ (slots21 t d).2 ∧ (slots21 t d).2 ≤ 3
  unfold slots21
  split
  · exact ⟨by simp, by simp⟩
  · have := m21F_in (all21 t d) d.slots (min d.slots.length 4); omega
theorem reoF_len (g : Graph) (p q : List Int) : (reoF g p q).nodes.length ≤ g.nodes.length ∧ (reoF g p q).edges.length ≤ g.edges.length := by
  unfold reoF; split
  · simp only [reoN_len, reoE_len]; exact ⟨Nat.le_refl _, Nat.le_refl _⟩
  · simp
theorem headI (l : List Int) (z : List D) (hz : z.length = 1) : ((l.map cI).head?.getD z).length = 1 := by cases l <;> simp [cI, hz]
theorem grown_ge (t : Types) (g : Graph) (d : Dr24) : g.nodes.length ≤ (grown t g d).nodes.length ∧ g.edges.length ≤ (grown t g d).edges.length := by
  refine ⟨by simp only [grown, grN_len]; omega, by simp only [grown, grE, List.length_append]; omega⟩
theorem grown_len (t : Types) (g : Graph) (d : Dr24) : (grown t g d).nodes.length ≤ g.nodes.length + 2 ∧ (grown t g d).edges.length ≤ g.edges.length + 2 := by
  refine ⟨?_, ?_⟩
  · simp only [grown, grN_len]; have := ite_le2 ((concL t).length = 0) d.nodes.length; omega
  · exact Nat.le_trans (grE_len _ _ _ _ _) (Nat.add_le_add_left (ite_le2 _ _) _)
theorem Pure.nz {P : Program} {f : FuncId} {args args' : List D} {r : D} (ha : args.map nzD = args') (h : Pure P f args' r) : Pure P f args r := by
  subst ha
  refine ⟨h.1, fun M w vals hM hv => h.2 M w vals hM ⟨by simpa using hv.len, fun j u d hu hd => ?_⟩⟩
  rw [List.getElem?_map, Option.map_eq_some_iff] at hd
  obtain ⟨y, hy, rfl⟩ := hd
  exact nzD_rep (hv.rep j u y hu hy)
theorem ref24_Made (t : Types) (ht : t.fine) (d : Dr24) : Pure Tryz.prog 83 [t.d, .agg d.c] (made24 t d).d := by
  have hL4 := made21_in t d.left
  have hKl := made7_len (made21 t d.left).graph d.keep
  have hGl := extractG_len (made21 t d.left).graph (made7 (made21 t d.left).graph d.keep)
  have hRr : made24 t d = if d.plain = true then plain24 (rule24 t d) else rule24 t d := rfl
  unfold rule24 rg24 gr24 kg24 kept24 at hRr
  obtain ⟨L, hL⟩ : ∃ L, made21 t d.left = L := ⟨_, rfl⟩
  rw [hL] at hL4 hKl hGl hRr
  obtain ⟨K, hK⟩ : ∃ K, made7 L.graph d.keep = K := ⟨_, rfl⟩
  rw [hK] at hKl hGl hRr
  obtain ⟨kg, hkg⟩ : ∃ g, extractG L.graph K = g := ⟨_, rfl⟩
  rw [hkg] at hGl hRr
  have hgr := grown_len t kg d
  have hge := grown_ge t kg d
  obtain ⟨gr, hg⟩ : ∃ g, grown t kg d = g := ⟨_, rfl⟩
  rw [hg] at hgr hge hRr
  have hpp := shufF_perm gr.nodes.length d.order
  have hqq := shufF_perm gr.edges.length d.order
  obtain ⟨p, hp⟩ : ∃ p, shufF gr.nodes.length d.order = p := ⟨_, rfl⟩
  obtain ⟨q, hq⟩ : ∃ q, shufF gr.edges.length d.order = q := ⟨_, rfl⟩
  rw [hp] at hpp hRr
  rw [hq] at hqq hRr
  have hrl := reoF_len gr p q
  obtain ⟨rg, hrg⟩ : ∃ g, reoF gr p q = g := ⟨_, rfl⟩
  rw [hrg] at hrl hRr
  obtain ⟨sl, hsl⟩ : ∃ s, slots24 t rg.nodes L.vars d.slots = s := ⟨_, rfl⟩
  obtain ⟨fc, hfc⟩ : ∃ c, forb t L d.forbid = c := ⟨_, rfl⟩
  rw [hsl, hfc] at hRr
  have hpl := hpp.1
  have hql := hqq.1
  have hd1 := headI p
  have hd2 := headI q
  have hce := Cond.c_eq fc
  refine Tz.pK ⟨fun t => t == 4 || t == 5 || t == 6 || t == 7 || t == 8 || t == 10, fun r => match r with | 2 => [(0, 9), (1, 9), (2, 9), (3, 9), (4, 9), (5, 9), (6, 9), (7, 9)] | _ => []⟩ Tryz.func83 rfl (fun Q hQ => ?_)
  try simp [go_sem, Dr24.c, hd1, hd2, hpl, hql, hce]
  refine cq0 ((by have hz := ref21_Made t ht d.left; rw [hL] at hz; exact hz)) ?_
  try simp [go_sem, Dr24.c, hd1, hd2, hpl, hql, hce]
  refine dcq0 ((by have hz := ref07_Made L.graph (by omega) (by omega) hL4.1 d.keep; rw [hK] at hz; exact hz)) ?_
  try simp [go_sem, Dr24.c, hd1, hd2, hpl, hql, hce]
  refine cq0 ((by have hz := ref07_Extract L.graph K (by omega) (by omega); rw [hkg] at hz; exact hz)) ?_
  try simp [go_sem, Dr24.c, hd1, hd2, hpl, hql, hce]
  refine cq0 ((by have hz := ref24_grown t ht kg (by omega) (by omega) d; rw [hg] at hz; exact hz)) ?_
  try simp [go_sem, Dr24.c, hd1, hd2, hpl, hql, hce]
  repeat first | intro _ | refine ⟨obs, ?_⟩
  refine dcq0 ((by have hz := ref05_Shuffle gr.nodes.length (by omega) d.order; rw [hp] at hz; exact hz)) ?_
  try simp [go_sem, Dr24.c, hd1, hd2, hpl, hql, hce]
  repeat first | intro _ | refine ⟨obs, ?_⟩
  refine dcq0 ((by have hz := ref05_Shuffle gr.edges.length (by omega) d.order; rw [hq] at hz; exact hz)) ?_
  try simp [go_sem, Dr24.c, hd1, hd2, hpl, hql, hce]
  repeat first | intro _ | refine ⟨obs, ?_⟩
  refine cq0 ((by have hz := ref05_Reorder gr (by omega) (by omega) p q hpp hqq; rw [hrg] at hz; exact hz)) ?_
  try simp [go_sem, Dr24.c, hd1, hd2, hpl, hql, hce]
  repeat first | intro _ | refine ⟨obs, ?_⟩
  refine cq0 ((by have hz := ref24_slots t ht rg L.vars (by omega) d.slots; rw [hsl] at hz; exact hz)) ?_
  try simp [go_sem, Dr24.c, hd1, hd2, hpl, hql, hce]
  repeat first | intro _ | refine ⟨obs, ?_⟩
  refine cq0 ((by have hz := ref24_forbid t ht L (by omega) (by omega) d.forbid; rw [hfc] at hz; exact hz)) ?_
  try simp [go_sem, Dr24.c, hd1, hd2, hpl, hql, hce]
  repeat first | intro _ | refine ⟨obs, ?_⟩
  refine condQ_mk (fun h11 => ?_) (fun h11 => ?_)
  · try simp [go_sem] at h11
    try simp [go_sem, Dr24.c, hd1, hd2, hpl, hql, hce]
    refine cq0 (Pure.nz (by simp [go_sem, Rule.d, Rule.c, dLI]) (ref24_plain ⟨⟨#[114]⟩, L, ⟨rg, sl, L.vars, []⟩, K, ⟨p.take kg.nodes.length, q.take kg.edges.length⟩, d.inj, fc⟩ (by simp only; omega) (by simp only; omega) (by simp only; omega) (by simp only [List.length_take]; omega))) ?_
    try simp [go_sem, Dr24.c, hd1, hd2, hpl, hql, hce]
    exact hQ _ _ (by simp [go_sem, Dr24.c, hd1, hd2, hpl, hql, hce, h11] <;> first | omega | (rw [bei]; simp <;> omega) | (simp_all <;> omega))
  · try simp [go_sem] at h11
    try simp [go_sem, Dr24.c, hd1, hd2, hpl, hql, hce]
    exact hQ _ _ (by simp [go_sem, Dr24.c, hd1, hd2, hpl, hql, hce, h11] <;> first | omega | (rw [bei]; simp <;> omega) | (simp_all <;> omega))
end Go.Abs
end
