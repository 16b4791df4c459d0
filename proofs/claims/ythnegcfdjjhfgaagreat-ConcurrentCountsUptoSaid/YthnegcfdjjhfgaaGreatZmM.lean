/- Layer 13: the overlap that lists say. · Layer 32: lists and  -/
import Derived.Test.YthnegcfdjjhfgaaGreatZmA
import Derived.Test.YthnegcfdjjhfgaaGreatZmL
set_option linter.unusedVariables false
set_option linter.unusedSimpArgs false
section
set_option maxRecDepth 8000
set_option maxHeartbeats 1000000
open Go Go.Proofs
namespace Go.Abs
structure Ovl where
  graph : Graph
  left : Part
  right : Part
def Ovl.c (o : Ovl) : List D := [dLI o.graph.nodes, .list (o.graph.edges.map Edge.c), dLI o.left.nodes, dLI o.left.edges, dLI o.right.nodes, dLI o.right.edges]
def Ovl.d (o : Ovl) : D := .agg o.c
@[go_sem] theorem Ovl.cl (o : Ovl) : D.clL o.c = true := by simp [Ovl.c, D.clL, D.cl, dLI_cl, edgesG_cl]
@[go_sem] theorem Ovl.dcl (o : Ovl) : o.d.cl = true := by simp only [Ovl.d, D.cl]; exact Ovl.cl o
@[go_sem] theorem ovls_cl (l : List Ovl) : D.clLL (l.map Ovl.c) = true := clLL_map _ Ovl.cl l
def numL (n : Nat) : List Int := (List.range n).map fun (k : Nat) => (k : Int)
theorem numL_succ (i : Nat) : numL (i + 1) = numL i ++ [(i : Int)] := by simp [numL, List.range_succ]
theorem numL_len (n : Nat) : (numL n).length = n := by simp [numL]
theorem ref02_Finest (n : Nat) (hn : n ≤ 100000) : Pure Tryz.prog 253 [dI n] (dLI (numL n)) := by
  refine Tz.pK ⟨fun t => t == 3, fun _ => []⟩ Tryz.func253 rfl (fun Q hQ => ?_)
  try simp [go_sem, seval]
  obtain ⟨I0, hI0⟩ := mkI fun i e H => ((e 0 = dI n) ∧ (e 3 = .own 0 i) ∧ (e 4 = dI i) ∧ (H.get 0 = some ⟨3, 1, (numL i).map cI, false⟩) ∧ (0 < H.next) ∧ (i ≤ n) ∧ ((numL i).length = i))
  refine loopK I0 (fun i => n - i) (0) ((hI0 _ _ _).2 ⟨?_, ?_, ?_, (by rfl), ?_, (by first | assumption | omega | (simp [go_sem]; done) | (simp_all; done)), (by (exact numL_len _))⟩) ?_
  iterate 4 (first | omega | (simp [go_sem, seval] <;> omega))
  intro i e H hi0
  obtain ⟨q0_0, q3_0, q4_0, g0_0, n0_0, hi, hl⟩ := (hI0 _ _ _).1 hi0
  have x0 := frs n0_0
  have F0 := And.intro q0_0 (And.intro q3_0 (And.intro q4_0 (And.intro g0_0 x0)))
  try simp [go_sem, seval, F0, hl]
  refine condQ_mk (fun h3 => ?_) (fun h3 => ?_)
  · try simp [go_sem] at h3
    try simp [go_sem, seval, F0, hl, h3]
    repeat (first | intro _ | (refine ⟨obl, ?_⟩))
    refine nextQ_mk (i + 1) (by omega) ((hI0 _ _ _).2 ⟨?_, ?_, ?_, (by (simp [go_sem, F0, hl, h3, numL_succ])), ?_, (by first | assumption | omega | (simp [go_sem, F0, hl, h3]; done) | (simp_all <;> omega)), (by (exact numL_len _))⟩) <;> first | omega | (simp [go_sem, seval, F0, hl, h3] <;> omega)
  · try simp [go_sem] at h3
    have hie : i = n := by omega
    subst hie
    try simp [go_sem, seval, F0, hl]
    exact hQ _ _ (by simp [go_sem, F0, hl, h3] <;> first | omega | (rw [bei]; simp <;> omega) | (simp_all <;> omega))
theorem ref06_Of (g : Graph) (hn : g.nodes.length ≤ 100000) (he : g.edges.length ≤ 100000) : Pure Tryz.prog 190 [g.d] (Part.d ⟨numL g.nodes.length, numL g.edges.length⟩) := by
  refine Tz.pK ⟨fun t => t == 2, fun _ => []⟩ Tryz.func190 rfl (fun Q hQ => ?_)
  try simp [go_sem, seval]
  repeat (first | intro _ | (refine ⟨obl, ?_⟩))
  refine dcallQ_pure0 (ref02_Finest g.nodes.length hn) ((by first | rfl | (simp [go_sem, ← List.map_take, ← List.map_drop]; done))) ?_
  try simp [go_sem, seval]
  repeat (first | intro _ | (refine ⟨obl, ?_⟩))
  refine dcallQ_pure0 (ref02_Finest g.edges.length he) ((by first | rfl | (simp [go_sem, ← List.map_take, ← List.map_drop]; done))) ?_
  try simp [go_sem, seval]
  repeat (first | intro _ | (refine ⟨obl, ?_⟩))
  exact hQ _ _ (by simp [go_sem] <;> first | omega | (rw [bei]; simp <;> omega) | (simp_all <;> omega))
theorem numL_set (n i : Nat) (hi : i < n) : (numL i ++ List.replicate (n - i) 0).set i (i : Int) = numL (i + 1) ++ List.replicate (n - (i + 1)) 0 := by
  obtain ⟨k, hk⟩ : ∃ k, n - i = k + 1 := ⟨n - i - 1, by omega⟩
  rw [hk, show n - (i + 1) = k by omega, numL_succ, List.replicate_succ, List.set_append_right _ _ (by rw [numL_len]; omega), numL_len]
  simp
theorem morphism_numbers (n : Nat) (hn : n ≤ 100000) : Pure Tryz.prog 302 [dI n] (dLI (numL n)) := by
  refine Tz.pK ⟨fun t => t == 6, fun _ => []⟩ Tryz.func302 rfl (fun Q hQ => ?_)
  try simp [go_sem, seval]
  repeat (first | intro _ | (refine ⟨obl, ?_⟩))
  obtain ⟨I0, hI0⟩ := mkI fun i e H => (∃ zs : List Int, (e 7 = .own 0 n) ∧ (e 3 = .own 0 n) ∧ (e 8 = dI n) ∧ (e 9 = dI i) ∧ (H.get 0 = some ⟨3, 1, zs.map cI, false⟩) ∧ (0 < H.next) ∧ (i ≤ n) ∧ (zs.length = n) ∧ (zs = numL i ++ List.replicate (n - i) 0))
  refine loopK I0 (fun i => n - i) (0) ((hI0 _ _ _).2 ⟨(List.replicate n 0), ?_, ?_, ?_, ?_, (by (simp [go_sem, cI])), ?_, (by first | assumption | omega | (simp [go_sem]; done) | (simp_all; done)), (by (simp)), (by (simp [numL]))⟩) ?_
  iterate 5 (first | omega | (simp [go_sem, seval] <;> omega))
  intro i e H hi0
  obtain ⟨zs, q7_0, q3_0, q8_0, q9_0, g0_0, n0_0, hi, hl, hz⟩ := (hI0 _ _ _).1 hi0
  have x0 := frs n0_0
  have F0 := And.intro q7_0 (And.intro q3_0 (And.intro q8_0 (And.intro q9_0 (And.intro g0_0 x0))))
  try simp [go_sem, seval, F0, hl]
  refine condQ_mk (fun h3 => ?_) (fun h3 => ?_)
  · try simp [go_sem] at h3
    have hv : i < zs.length := by omega
    try simp [go_sem, seval, F0, hl, h3, lge hv]
    repeat (first | intro _ | (refine ⟨obl, ?_⟩))
    refine nextQ_mk (i + 1) (by omega) ((hI0 _ _ _).2 ⟨(zs.set i (i : Int)), ?_, ?_, ?_, ?_, (by (simp [go_sem, F0, hl, h3, lge hv, List.map_set, cI])), ?_, (by first | assumption | omega | (simp [go_sem, F0, hl, h3, lge hv]; done) | (simp_all <;> omega)), (by (simp [hl])), (by (rw [hz]; exact numL_set n i h3))⟩) <;> first | omega | (simp [go_sem, seval, F0, hl, h3, lge hv] <;> omega)
  · try simp [go_sem] at h3
    have hie : i = n := by omega
    subst hie
    have hr : zs = numL i := by rw [hz]; simp
    subst hr
    try simp [go_sem, seval, F0, hl]
    exact hQ _ _ (by simp [go_sem, F0, hl, h3] <;> first | omega | (rw [bei]; simp <;> omega) | (simp_all <;> omega))
theorem morphism_Identity (g : Graph) (h0 : graphF g = 0) : Pure Tryz.prog 283 [g.d] (.tup [Part.d ⟨numL g.nodes.length, numL g.edges.length⟩, dI 0]) := by
  have hl := graphF_le h0
  refine Tz.pK ⟨fun t => t == 2, fun _ => []⟩ Tryz.func283 rfl (fun Q hQ => ?_)
  try simp [go_sem, seval, h0]
  refine callQ_pure0 (graph_Valid g) ((by first | rfl | (simp [go_sem, ← List.map_take, ← List.map_drop, h0]; done))) ?_
  try simp [go_sem, seval, h0]
  repeat (first | intro _ | (refine ⟨obl, ?_⟩))
  refine dcallQ_pure0 (morphism_numbers g.nodes.length (by omega)) ((by first | rfl | (simp [go_sem, ← List.map_take, ← List.map_drop, h0]; done))) ?_
  try simp [go_sem, seval, h0]
  repeat (first | intro _ | (refine ⟨obl, ?_⟩))
  refine dcallQ_pure0 (morphism_numbers g.edges.length (by omega)) ((by first | rfl | (simp [go_sem, ← List.map_take, ← List.map_drop, h0]; done))) ?_
  try simp [go_sem, seval, h0]
  repeat (first | intro _ | (refine ⟨obl, ?_⟩))
  exact hQ _ _ (by simp [go_sem, h0] <;> first | omega | (rw [bei]; simp <;> omega) | (simp_all <;> omega))
theorem clone_edge0 : Own Tryz.prog 284 [.nil] 124 3 [] := by
  refine Tz.oK ⟨fun t => t == 2 || t == 5, fun _ => []⟩ Tryz.func284 rfl (fun Q hQ => ?_)
  try simp [go_sem, seval]
  exact hQ _ _ _ (by simp [go_sem] <;> first | omega | (rw [bei]; simp <;> omega) | (simp_all <;> omega)) (by simp [go_sem] <;> first | omega | (rw [bei]; simp <;> omega) | (simp_all <;> omega))
theorem clone_edgeE : Own Tryz.prog 284 [.ne] 124 3 [] := by
  refine Tz.oK ⟨fun t => t == 2 || t == 5, fun _ => []⟩ Tryz.func284 rfl (fun Q hQ => ?_)
  try simp [go_sem, seval]
  repeat (first | intro _ | (refine ⟨obl, ?_⟩))
  exact hQ _ _ _ (by simp [go_sem] <;> first | omega | (rw [bei]; simp <;> omega) | (simp_all <;> omega)) (by simp [go_sem] <;> first | omega | (rw [bei]; simp <;> omega) | (simp_all <;> omega))
theorem clone_edgeC (l : List Edge) (hl : l.length ≤ 1000000) (hne : l ≠ []) : Own Tryz.prog 284 [.list (l.map Edge.c)] 124 3 (l.map Edge.c) := by
  refine Tz.oK ⟨fun t => t == 2 || t == 5, fun _ => []⟩ Tryz.func284 rfl (fun Q hQ => ?_)
  try simp [go_sem, seval, hne]
  repeat (first | intro _ | (refine ⟨obl, ?_⟩))
  exact hQ _ _ _ (by simp [go_sem, hne] <;> first | omega | (rw [bei]; simp <;> omega) | (simp_all <;> omega)) (by simp [go_sem, hne] <;> first | omega | (rw [bei]; simp <;> omega) | (simp_all <;> omega))
theorem clone_edge (l : List Edge) (hl : l.length ≤ 1000000) : Own Tryz.prog 284 [.list (l.map Edge.c)] 124 3 (l.map Edge.c) := by
  by_cases hne : l = []
  · subst hne; exact own_split clone_edge0 clone_edgeE
  · exact clone_edgeC l hl hne
def gluN (a b : Graph) (ns : List Int) : Nat → List Int × List Int
  | 0 => (a.nodes, [])
  | i + 1 => if ns[i]?.getD 0 < 0 then ((gluN a b ns i).1 ++ [b.nodes[i]?.getD 0], (gluN a b ns i).2 ++ [((gluN a b ns i).1.length : Int)]) else ((gluN a b ns i).1, (gluN a b ns i).2 ++ [ns[i]?.getD 0])
def gluX (b : Graph) (rn : List Int) (i : Nat) : Edge := ⟨(b.edges[i]?.getD zeroEdge).type, rn[(b.edges[i]?.getD zeroEdge).from_.toNat]?.getD 0, rn[(b.edges[i]?.getD zeroEdge).to_.toNat]?.getD 0⟩
def gluE (a b : Graph) (rn es : List Int) : Nat → List Edge × List Int
  | 0 => (a.edges, [])
  | i + 1 => if es[i]?.getD 0 < 0 then ((gluE a b rn es i).1 ++ [gluX b rn i], (gluE a b rn es i).2 ++ [((gluE a b rn es i).1.length : Int)]) else ((gluE a b rn es i).1, (gluE a b rn es i).2 ++ [es[i]?.getD 0])
def glu (a b : Graph) (ns es : List Int) : Ovl :=
  ⟨⟨(gluN a b ns ns.length).1, (gluE a b (gluN a b ns ns.length).2 es es.length).1⟩, ⟨numL a.nodes.length, numL a.edges.length⟩, ⟨(gluN a b ns ns.length).2, (gluE a b (gluN a b ns ns.length).2 es es.length).2⟩⟩
theorem gluN_len (a b : Graph) (ns : List Int) : ∀ i, (gluN a b ns i).2.length = i ∧ a.nodes.length ≤ (gluN a b ns i).1.length ∧ (gluN a b ns i).1.length ≤ a.nodes.length + i
  | 0 => ⟨rfl, Nat.le_refl _, Nat.le_refl _⟩
  | i + 1 => by
    have := gluN_len a b ns i
    simp only [gluN]
    split <;> simp <;> omega
theorem gluE_len (a b : Graph) (rn es : List Int) : ∀ i, (gluE a b rn es i).2.length = i ∧ a.edges.length ≤ (gluE a b rn es i).1.length ∧ (gluE a b rn es i).1.length ≤ a.edges.length + i
  | 0 => ⟨rfl, Nat.le_refl _, Nat.le_refl _⟩
  | i + 1 => by
    have := gluE_len a b rn es i
    simp only [gluE]
    split <;> simp <;> omega
theorem factor_glued (a b : Graph) (ha : graphF a = 0) (hb : graphF b = 0) (ns es : List Int) (hnn : ns.length = b.nodes.length) (he : es.length ≤ b.edges.length) : Pure Tryz.prog 247 [a.d, b.d, dLI ns, dLI es] (glu a b ns es).d := by
  have hla := graphF_le ha
  have hlb := graphF_le hb
  have hib : ∀ x ∈ b.edges, (0 ≤ x.from_ ∧ x.from_ < b.nodes.length) ∧ (0 ≤ x.to_ ∧ x.to_ < b.nodes.length) := fun x hx => ((graphF_in hb).2 x hx).2
  refine pureK (by first | rfl | (simp [go_sem]; done)) (fun Q hQ => ACalls.bump 2 (acalls_of_body (cfg := ⟨fun t => t == 8 || t == 9 || t == 11 || t == 16 || t == 24 || t == 27, fun r => match r with | 2 => [(2, 3), (2, 4), (2, 7), (5, 7), (0, 9), (1, 9), (2, 9), (3, 9), (4, 9), (5, 9), (7, 9)] | 8 => [(0, 8), (1, 8), (2, 8)] | 17 => [(0, 20), (1, 20), (2, 20)] | _ => []⟩) Tz.mixed Tryz.func247 rfl rfl (nlb rfl) (by kernel_rfl) ?_))
  try simp [go_sem, seval]
  refine callQ_pure0 (morphism_Identity a ha) ((by first | rfl | (simp [go_sem, ← List.map_take, ← List.map_drop]; done))) ?_
  try simp [go_sem, seval]
  refine dcallQ_own1 0 (clone_int a.nodes (by omega)) (by first | rfl | (simp [go_sem]; done)) rfl (by first | omega | simp [go_sem]) (by simp [al_push, al_put, al_mk, al_emp]) (by first | trivial | (simp [go_sem]; done) | simp [go_sem, chk]) ?_
  try simp [go_sem, seval]
  refine dcallQ_own1 1 (clone_edge a.edges (by omega)) (by first | rfl | (simp [go_sem]; done)) rfl (by first | omega | simp [go_sem]) (by simp [al_push, al_put, al_mk, al_emp]) (by first | trivial | (simp [go_sem]; done) | simp [go_sem, chk]) ?_
  try simp [go_sem, seval]
  repeat first | intro _ | refine ⟨obs, ?_⟩
  obtain ⟨I0, hI0⟩ := mkI fun i e H => (∃ gs : List Int, ∃ rs : List Int, (e 31 = dLI ns) ∧ (e 32 = dI ns.length) ∧ (e 3 = dLI es) ∧ (e 5 = .adr b.c) ∧ (e 8 = .ptr 2 1 0 0) ∧ (e 11 = .ptr 13 1 0 0) ∧ (e 33 = dI i) ∧ (H.get 2 = some ⟨45, 6, [[.nil, .nil, .nil, .nil, .nil, .nil]], false⟩) ∧ (2 < H.next) ∧ (H.get 13 = some ⟨45, 6, [[.own 0 gs.length, .own 1 a.edges.length, dLI (numL a.nodes.length), dLI (numL a.edges.length), .own 15 rs.length, .nil]], false⟩) ∧ (13 < H.next) ∧ (H.get 0 = some ⟨3, 1, gs.map cI, false⟩) ∧ (0 < H.next) ∧ (H.get 1 = some ⟨124, 3, a.edges.map Edge.c, false⟩) ∧ (1 < H.next) ∧ (H.get 15 = some ⟨3, 1, rs.map cI, false⟩) ∧ (15 < H.next) ∧ (i ≤ ns.length) ∧ ((gs, rs) = gluN a b ns i))
  refine loopKG (Ghosts.step (Ghosts.refl _) 13 0 4 3 1 _ _ (rfl) rfl rfl rfl) I0 (fun i => ns.length - i) (0) ((hI0 _ _ _).2 ⟨(a.nodes), ([]), ?_, ?_, ?_, ?_, ?_, ?_, ?_, ?_, ?_, ?_, ?_, ?_, ?_, ?_, ?_, ?_, ?_, (by first | assumption | omega | (simp [go_sem]; done) | (simp_all; done)), (by rfl)⟩) ?_
  iterate 17 (first | omega | (simp [go_sem, seval] <;> omega))
  intro i e H hi0
  obtain ⟨gs, rs, q31_0, q32_0, q3_0, q5_0, q8_0, q11_0, q33_0, g2_0, n2_0, g13_0, n13_0, g0_0, n0_0, g1_0, n1_0, g15_0, n15_0, hi, hg⟩ := (hI0 _ _ _).1 hi0
  have x2 := frs n2_0
  have x13 := frs n13_0
  have x0 := frs n0_0
  have x1 := frs n1_0
  have x15 := frs n15_0
  have F0 := And.intro q31_0 (And.intro q32_0 (And.intro q3_0 (And.intro q5_0 (And.intro q8_0 (And.intro q11_0 (And.intro q33_0 (And.intro g2_0 (And.intro g13_0 (And.intro g0_0 (And.intro g1_0 (And.intro g15_0 (And.intro x2 (And.intro x13 (And.intro x0 (And.intro x1 x15)))))))))))))))
  try simp [go_sem, seval, F0]
  refine condQ_mk (fun h4 => ?_) (fun h4 => ?_)
  · try simp [go_sem] at h4
    have hbn : i < b.nodes.length := by omega
    have hgl := gluN_len a b ns i
    rw [← hg] at hgl
    simp only at hgl
    have hgs : gluN a b ns (i + 1) = if ns[i] < 0 then (gs ++ [b.nodes[i]], rs ++ [(gs.length : Int)]) else (gs, rs ++ [ns[i]]) := by simp only [gluN, ← hg, lge h4, lge hbn, Option.getD_some]
    try simp [go_sem, seval, F0, h4, lge h4, lge hbn]
    repeat first | intro _ | refine ⟨obs, ?_⟩
    refine condQ_mk (fun h6 => ?_) (fun h6 => ?_)
    ·try simp [go_sem] at h6
     obtain ⟨gs2, hgs2⟩ : ∃ x, x = gs ++ [b.nodes[i]] := ⟨_, rfl⟩
     obtain ⟨rs2, hrs2⟩ : ∃ x, x = rs ++ [(gs.length : Int)] := ⟨_, rfl⟩
     have hst : (gs2, rs2) = gluN a b ns (i + 1) := by rw [hgs, if_pos (by omega), hgs2, hrs2]
     try simp [go_sem, seval, F0, h4, lge h4, lge hbn, hgs2, hrs2]
     repeat first | intro _ | refine ⟨obs, ?_⟩
     refine nextQ_mk (i + 1) (by omega) ((hI0 _ _ _).2 ⟨(gs2), (rs2), ?_, ?_, ?_, ?_, ?_, ?_, ?_, ?_, ?_, ?_, ?_, ?_, ?_, ?_, ?_, ?_, ?_, (by first | assumption | omega | (simp [go_sem, F0, h4, lge h4, lge hbn, hgs2, hrs2, h6]; done) | (simp_all <;> omega)), (by (exact hst))⟩) <;> first | omega | (simp [go_sem, seval, F0, h4, lge h4, lge hbn, hgs2, hrs2] <;> omega)
    ·try simp [go_sem] at h6
     obtain ⟨gs2, hgs2⟩ : ∃ x, x = gs := ⟨_, rfl⟩
     obtain ⟨rs2, hrs2⟩ : ∃ x, x = rs ++ [ns[i]] := ⟨_, rfl⟩
     have hst : (gs2, rs2) = gluN a b ns (i + 1) := by rw [hgs, if_neg (by omega), hgs2, hrs2]
     try simp [go_sem, seval, F0, h4, lge h4, lge hbn, hgs2, hrs2]
     repeat first | intro _ | refine ⟨obs, ?_⟩
     refine nextQ_mk (i + 1) (by omega) ((hI0 _ _ _).2 ⟨(gs2), (rs2), ?_, ?_, ?_, ?_, ?_, ?_, ?_, ?_, ?_, ?_, ?_, ?_, ?_, ?_, ?_, ?_, ?_, (by first | assumption | omega | (simp [go_sem, F0, h4, lge h4, lge hbn, hgs2, hrs2, h6]; done) | (simp_all <;> omega)), (by (exact hst))⟩) <;> first | omega | (simp [go_sem, seval, F0, h4, lge h4, lge hbn, hgs2, hrs2] <;> omega)
  · try simp [go_sem] at h4
    have hI : i = ns.length := by omega
    subst hI
    have hgl := gluN_len a b ns ns.length
    rw [← hg] at hgl
    simp only at hgl
    try simp [go_sem, seval, F0]
    repeat first | intro _ | refine ⟨obs, ?_⟩
    obtain ⟨I2, hI2⟩ := mkI fun k e H => (∃ j : Nat, ∃ xs : List Edge, ∃ ys : List Int, (e 31 = dLI ns) ∧ (e 32 = dI ns.length) ∧ (e 65 = dLI es) ∧ (e 66 = dI es.length) ∧ (e 3 = dLI es) ∧ (e 5 = .adr b.c) ∧ (e 8 = .ptr 2 1 0 0) ∧ (e 11 = .ptr 13 1 0 0) ∧ (e 67 = dI k) ∧ (H.get 2 = some ⟨45, 6, [[.nil, .nil, .nil, .nil, .nil, .nil]], false⟩) ∧ (2 < H.next) ∧ (H.get 13 = some ⟨45, 6, [[.own 0 gs.length, .own 1 xs.length, dLI (numL a.nodes.length), dLI (numL a.edges.length), .own 15 rs.length, .own j ys.length]], false⟩) ∧ (13 < H.next) ∧ (H.get 0 = some ⟨3, 1, gs.map cI, false⟩) ∧ (0 < H.next) ∧ (H.get 1 = some ⟨124, 3, xs.map Edge.c, false⟩) ∧ (1 < H.next) ∧ (H.get 15 = some ⟨3, 1, rs.map cI, false⟩) ∧ (15 < H.next) ∧ (H.get j = some ⟨3, 1, ys.map cI, false⟩) ∧ (j < H.next) ∧ (15 < j) ∧ (k ≤ es.length) ∧ ((xs, ys) = gluE a b rs es k))
    refine loopKG (Ghosts.step (Ghosts.refl _) 13 0 5 3 1 _ _ (g13_0) rfl rfl rfl) I2 (fun k => es.length - k) (0) ((hI2 _ _ _).2 ⟨(H.next), (a.edges), ([]), ?_, ?_, ?_, ?_, ?_, ?_, ?_, ?_, ?_, ?_, ?_, ?_, ?_, ?_, ?_, ?_, ?_, ?_, ?_, ?_, ?_, (by omega), (by first | assumption | omega | (simp [go_sem, F0]; done) | (simp_all; done)), (by rfl)⟩) ?_
    iterate 21 (first | omega | (simp [go_sem, seval, F0] <;> omega))
    intro k e H hi2
    obtain ⟨j, xs, ys, q31_2, q32_2, q65_2, q66_2, q3_2, q5_2, q8_2, q11_2, q67_2, g2_2, n2_2, g13_2, n13_2, g0_2, n0_2, g1_2, n1_2, g15_2, n15_2, gj_2, nj_2, hj, hk, he2⟩ := (hI2 _ _ _).1 hi2
    have x2 := frs n2_2
    have x13 := frs n13_2
    have x0 := frs n0_2
    have x1 := frs n1_2
    have x15 := frs n15_2
    have xj := frs nj_2
    have F2 := And.intro q31_2 (And.intro q32_2 (And.intro q65_2 (And.intro q66_2 (And.intro q3_2 (And.intro q5_2 (And.intro q8_2 (And.intro q11_2 (And.intro q67_2 (And.intro g2_2 (And.intro g13_2 (And.intro g0_2 (And.intro g1_2 (And.intro g15_2 (And.intro gj_2 (And.intro x2 (And.intro x13 (And.intro x0 (And.intro x1 (And.intro x15 xj)))))))))))))))))))
    have di1 := And.intro (nep (show 2 ≠ 13 by omega)) (And.intro (nep (show 2 ≠ 15 by omega)) (And.intro (nep (show 2 ≠ 1 by omega)) (And.intro (nep (show 2 ≠ 0 by omega)) (And.intro (nep (show 2 ≠ j by omega)) (And.intro (nep (show 13 ≠ 15 by omega)) (And.intro (nep (show 13 ≠ 1 by omega)) (And.intro (nep (show 13 ≠ 0 by omega)) (And.intro (nep (show 13 ≠ j by omega)) (And.intro (nep (show 15 ≠ 1 by omega)) (And.intro (nep (show 15 ≠ 0 by omega)) (And.intro (nep (show 15 ≠ j by omega)) (And.intro (nep (show 1 ≠ 0 by omega)) (And.intro (nep (show 1 ≠ j by omega)) (nep (show 0 ≠ j by omega)))))))))))))))
    try simp [go_sem, seval, F2, di1]
    refine condQ_mk (fun h12 => ?_) (fun h12 => ?_)
    ·try simp [go_sem] at h12
     have hbe : k < b.edges.length := by omega
     have hel := gluE_len a b rs es k
     rw [← he2] at hel
     simp only at hel
     have hbx := hib _ (lgm hbe)
     have hf1 : b.edges[k].from_.toNat < rs.length := by omega
     have hf2 : b.edges[k].to_.toNat < rs.length := by omega
     have hgx : gluX b rs k = ⟨b.edges[k].type, rs[b.edges[k].from_.toNat], rs[b.edges[k].to_.toNat]⟩ := by simp only [gluX, lge hbe, Option.getD_some, lge hf1, lge hf2]
     have hes : gluE a b rs es (k + 1) = if es[k] < 0 then (xs ++ [gluX b rs k], ys ++ [(xs.length : Int)]) else (xs, ys ++ [es[k]]) := by simp only [gluE, ← he2, lge h12, Option.getD_some]
     try simp [go_sem, seval, F2, di1, h12, lge h12, lge hbe, lge hf1, lge hf2]
     repeat first | intro _ | refine ⟨obs, ?_⟩
     refine condQ_mk (fun h14 => ?_) (fun h14 => ?_)
     ·try simp [go_sem] at h14
      obtain ⟨xs2, hxs2⟩ : ∃ x, x = xs ++ [gluX b rs k] := ⟨_, rfl⟩
      obtain ⟨ys2, hys2⟩ : ∃ x, x = ys ++ [(xs.length : Int)] := ⟨_, rfl⟩
      have hst : (xs2, ys2) = gluE a b rs es (k + 1) := by rw [hes, if_pos (by omega), hxs2, hys2]
      try simp [go_sem, seval, F2, di1, h12, lge h12, lge hbe, lge hf1, lge hf2, hxs2, hys2, hgx, Edge.c]
      repeat first | intro _ | refine ⟨obs, ?_⟩
      refine nextQ_mk (k + 1) (by omega) ((hI2 _ _ _).2 ⟨(j), (xs2), (ys2), ?_, ?_, ?_, ?_, ?_, ?_, ?_, ?_, ?_, ?_, ?_, ?_, ?_, ?_, ?_, ?_, ?_, ?_, ?_, ?_, ?_, (by omega), (by first | assumption | omega | (simp [go_sem, F2, di1, h12, lge h12, lge hbe, lge hf1, lge hf2, hxs2, hys2, hgx, Edge.c, h4, h14]; done) | (simp_all <;> omega)), (by (exact hst))⟩) <;> first | omega | (simp [go_sem, seval, F2, di1, h12, lge h12, lge hbe, lge hf1, lge hf2, hxs2, hys2, hgx, Edge.c] <;> omega)
     ·try simp [go_sem] at h14
      obtain ⟨xs2, hxs2⟩ : ∃ x, x = xs := ⟨_, rfl⟩
      obtain ⟨ys2, hys2⟩ : ∃ x, x = ys ++ [es[k]] := ⟨_, rfl⟩
      have hst : (xs2, ys2) = gluE a b rs es (k + 1) := by rw [hes, if_neg (by omega), hxs2, hys2]
      try simp [go_sem, seval, F2, di1, h12, lge h12, lge hbe, lge hf1, lge hf2, hxs2, hys2]
      repeat first | intro _ | refine ⟨obs, ?_⟩
      refine nextQ_mk (k + 1) (by omega) ((hI2 _ _ _).2 ⟨(j), (xs2), (ys2), ?_, ?_, ?_, ?_, ?_, ?_, ?_, ?_, ?_, ?_, ?_, ?_, ?_, ?_, ?_, ?_, ?_, ?_, ?_, ?_, ?_, (by omega), (by first | assumption | omega | (simp [go_sem, F2, di1, h12, lge h12, lge hbe, lge hf1, lge hf2, hxs2, hys2, h4, h14]; done) | (simp_all <;> omega)), (by (exact hst))⟩) <;> first | omega | (simp [go_sem, seval, F2, di1, h12, lge h12, lge hbe, lge hf1, lge hf2, hxs2, hys2] <;> omega)
    ·try simp [go_sem] at h12
     have hK : k = es.length := by omega
     subst hK
     have hN1 : (gluN a b ns ns.length).1 = gs := by rw [← hg]
     have hN2 : (gluN a b ns ns.length).2 = rs := by rw [← hg]
     have hE1 : (gluE a b rs es es.length).1 = xs := by rw [← he2]
     have hE2 : (gluE a b rs es es.length).2 = ys := by rw [← he2]
     try simp [go_sem, seval, F2, di1]
     exact hQ _ _ (by first | (left; (simp [go_sem, F2, di1, glu, Ovl.d, Ovl.c, hN1, hN2, hE1, hE2]); done) | (right; (simp [go_sem, F2, di1, glu, Ovl.d, Ovl.c, hN1, hN2, hE1, hE2]); done))
end Go.Abs
end
section
set_option maxRecDepth 8000
set_option maxHeartbeats 1000000
open Go Go.Proofs
namespace Go.Abs
def inL (l : List Int) (n : Nat) : List Int := ((List.range n).filter fun (i : Nat) => mem l i).map fun (i : Nat) => (i : Int)
theorem concurrent_others (l : List Int) (n : Nat) (hn : n ≤ 1000000) : Pure Tryz.prog 137 [dLI l, dI n] (dLI (othersL l n)) := by
  refine Tz.pK ⟨fun t => t == 5, fun _ => []⟩ Tryz.func137 rfl (fun Q hQ => ?_)
  try simp [go_sem, seval]
  obtain ⟨I0, hI0⟩ := mkI fun i e H => (∃ xs : List Int, (e 0 = dLI l) ∧ (e 7 = dI n) ∧ (e 5 = .own 0 xs.length) ∧ (e 8 = dI i) ∧ (H.get 0 = some ⟨3, 1, xs.map cI, false⟩) ∧ (0 < H.next) ∧ (i ≤ n) ∧ (xs.length ≤ i) ∧ (xs = ((List.range i).filter fun (b : Nat) => !mem l b).map (fun (b : Nat) => (b : Int))))
  refine loopK I0 (fun i => n - i) (0) ((hI0 _ _ _).2 ⟨([]), ?_, ?_, ?_, ?_, ?_, ?_, (by first | assumption | omega | (simp [go_sem]; done) | (simp_all; done)), (by simp), (by rfl)⟩) ?_
  iterate 6 (first | omega | (simp [go_sem, seval] <;> omega))
  intro i e H hi0
  obtain ⟨xs, q0_0, q7_0, q5_0, q8_0, g0_0, n0_0, hi, hl, hx⟩ := (hI0 _ _ _).1 hi0
  have x0 := frs n0_0
  have F0 := And.intro q0_0 (And.intro q7_0 (And.intro q5_0 (And.intro q8_0 (And.intro g0_0 x0))))
  try simp [go_sem, seval, F0]
  refine condQ_mk (fun h3 => ?_) (fun h3 => ?_)
  · try simp [go_sem] at h3
    try simp [go_sem, seval, F0, h3]
    repeat (first | intro _ | (refine ⟨obl, ?_⟩))
    refine callQ_pure0 (contains_int l i) ((by first | rfl | (simp [go_sem, ← List.map_take, ← List.map_drop, F0, h3]; done))) ?_
    try simp [go_sem, seval, F0, h3]
    repeat (first | intro _ | (refine ⟨obl, ?_⟩))
    refine condQ_mk (fun h5 => ?_) (fun h5 => ?_)
    ·try simp [go_sem] at h5
     try simp [go_sem, seval, F0, h3, h5]
     repeat (first | intro _ | (refine ⟨obl, ?_⟩))
     refine nextQ_mk (i + 1) (by omega) ((hI0 _ _ _).2 ⟨(xs ++ (if (!mem l i) = true then [(i : Int)] else [])), ?_, ?_, ?_, ?_, ?_, ?_, (by first | assumption | omega | (simp [go_sem, F0, h3, h5]; done) | (simp_all <;> omega)), (by (rw [List.length_append]; split <;> simp <;> omega)), (by (rw [range_filter_succ, ← hx]))⟩) <;> first | omega | (simp [go_sem, seval, F0, h3, h5] <;> omega)
    ·try simp [go_sem] at h5
     try simp [go_sem, seval, F0, h3, h5]
     repeat (first | intro _ | (refine ⟨obl, ?_⟩))
     refine nextQ_mk (i + 1) (by omega) ((hI0 _ _ _).2 ⟨(xs ++ (if (!mem l i) = true then [(i : Int)] else [])), ?_, ?_, ?_, ?_, ?_, ?_, (by first | assumption | omega | (simp [go_sem, F0, h3, h5]; done) | (simp_all <;> omega)), (by (rw [List.length_append]; split <;> simp <;> omega)), (by (rw [range_filter_succ, ← hx]))⟩) <;> first | omega | (simp [go_sem, seval, F0, h3, h5] <;> omega)
  · try simp [go_sem] at h3
    try simp [go_sem, seval, F0]
    exact hQ _ _ (by first | (left; (simp [go_sem, F0, othersL]; rw [hx, show i = n by omega]; simp); done) | (right; (simp [go_sem, F0, othersL]; rw [hx, show i = n by omega]; simp); done))
theorem concurrent_sorted (xs : List Int) (hl : xs.length ≤ 1000000) : Pure Tryz.prog 64 [dLI xs] (dLI (sorted xs)) := by
  have hlen := sorted_len xs
  refine Tz.pK ⟨fun _ => false, fun _ => []⟩ Tryz.func64 rfl (fun Q hQ => ?_)
  try simp [go_sem, seval, hlen]
  refine callQ_own0 (clone_int xs hl) ((by first | rfl | (simp [go_sem, ← List.map_take, ← List.map_drop, hlen]; done))) ?_
  try simp [go_sem, seval, hlen]
  unfold callQ; refine sort_int (ty := 3) (xs := xs) (by simp [go_sem]) hl ?_
  try simp [go_sem, seval, hlen]
  exact hQ _ _ (by simp [go_sem, hlen] <;> first | omega | (rw [bei]; simp <;> omega) | (simp_all <;> omega))
def comA (d f : List Int) (n : Nat) : List Int := ((List.range n).filter fun (i : Nat) => mem f (d[i]?.getD 0)).map fun (i : Nat) => (i : Int)
def comB (d f : List Int) (n : Nat) : List Int := ((List.range n).filter fun (i : Nat) => mem f (d[i]?.getD 0)).map fun (i : Nat) => idx f (d[i]?.getD 0)
theorem comA_succ (d f : List Int) {i : Nat} (h : i < d.length) : comA d f (i + 1) = comA d f i ++ (if mem f d[i] = true then [(i : Int)] else []) := by
  unfold comA
  rw [List.range_succ, List.filter_append, List.map_append]
  congr 1
  by_cases hm : mem f d[i] = true <;> simp [h, hm]
theorem comB_succ (d f : List Int) {i : Nat} (h : i < d.length) : comB d f (i + 1) = comB d f i ++ (if mem f d[i] = true then [idx f d[i]] else []) := by
  unfold comB
  rw [List.range_succ, List.filter_append, List.map_append]
  congr 1
  by_cases hm : mem f d[i] = true <;> simp [h, hm]
theorem comA_len (d f : List Int) (n : Nat) : (comA d f n).length ≤ n := by
  unfold comA; rw [List.length_map]; exact Nat.le_trans (List.length_filter_le _ _) (by simp)
theorem comB_len (d f : List Int) (n : Nat) : (comB d f n).length ≤ n := by
  unfold comB; rw [List.length_map]; exact Nat.le_trans (List.length_filter_le _ _) (by simp)
theorem concurrent_common (d f : List Int) (hd : d.length ≤ 1000000) : Pure Tryz.prog 67 [dLI d, dLI f] (.tup [dLI (comA d f d.length), dLI (comB d f d.length)]) := by
  refine Tz.pK ⟨fun t => t == 6 || t == 7, fun _ => []⟩ Tryz.func67 rfl (fun Q hQ => ?_)
  try simp [go_sem, seval]
  repeat (first | intro _ | (refine ⟨obl, ?_⟩))
  obtain ⟨I0, hI0⟩ := mkI fun i e H => (∃ xs : List Int, ∃ ys : List Int, (e 11 = dLI d) ∧ (e 12 = dI d.length) ∧ (e 1 = dLI f) ∧ (e 6 = .own 0 xs.length) ∧ (e 7 = .own 1 ys.length) ∧ (e 13 = dI i) ∧ (H.get 0 = some ⟨3, 1, xs.map cI, false⟩) ∧ (0 < H.next) ∧ (H.get 1 = some ⟨3, 1, ys.map cI, false⟩) ∧ (1 < H.next) ∧ (i ≤ d.length) ∧ (xs.length ≤ i) ∧ (ys.length ≤ i) ∧ (xs = comA d f i) ∧ (ys = comB d f i))
  refine loopK I0 (fun i => d.length - i) (0) ((hI0 _ _ _).2 ⟨([]), ([]), ?_, ?_, ?_, ?_, ?_, ?_, ?_, ?_, ?_, ?_, (by first | assumption | omega | (simp [go_sem]; done) | (simp_all; done)), (by simp), (by simp), (by rfl), (by rfl)⟩) ?_
  iterate 10 (first | omega | (simp [go_sem, seval] <;> omega))
  intro i e H hi0
  obtain ⟨xs, ys, q11_0, q12_0, q1_0, q6_0, q7_0, q13_0, g0_0, n0_0, g1_0, n1_0, hi, hl, hl2, hx, hy⟩ := (hI0 _ _ _).1 hi0
  have x0 := frs n0_0
  have x1 := frs n1_0
  have F0 := And.intro q11_0 (And.intro q12_0 (And.intro q1_0 (And.intro q6_0 (And.intro q7_0 (And.intro q13_0 (And.intro g0_0 (And.intro g1_0 (And.intro x0 x1))))))))
  try simp [go_sem, seval, F0]
  refine condQ_mk (fun h3 => ?_) (fun h3 => ?_)
  · try simp [go_sem] at h3
    have hA := comA_succ d f h3
    have hB := comB_succ d f h3
    rw [← hx] at hA
    rw [← hy] at hB
    try simp [go_sem, seval, F0, h3, lge h3]
    repeat (first | intro _ | (refine ⟨obl, ?_⟩))
    refine callQ_pure0 (index_int f d[i]) ((by first | rfl | (simp [go_sem, ← List.map_take, ← List.map_drop, F0, h3, lge h3]; done))) ?_
    try simp [go_sem, seval, F0, h3, lge h3]
    repeat (first | intro _ | (refine ⟨obl, ?_⟩))
    refine condQ_mk (fun h6 => ?_) (fun h6 => ?_)
    ·try simp [go_sem] at h6
     have hm : mem f d[i] = true := by simpa [mem] using h6
     rw [if_pos hm] at hA hB
     obtain ⟨xs2, hxs2⟩ : ∃ x, x = xs ++ [(i : Int)] := ⟨_, rfl⟩
     obtain ⟨ys2, hys2⟩ : ∃ x, x = ys ++ [idx f d[i]] := ⟨_, rfl⟩
     have hx2 : xs2 = comA d f (i + 1) := by rw [hxs2, hA]
     have hy2 : ys2 = comB d f (i + 1) := by rw [hys2, hB]
     try simp [go_sem, seval, F0, h3, lge h3, hxs2, hys2]
     repeat (first | intro _ | (refine ⟨obl, ?_⟩))
     refine nextQ_mk (i + 1) (by omega) ((hI0 _ _ _).2 ⟨(xs2), (ys2), ?_, ?_, ?_, ?_, ?_, ?_, ?_, ?_, ?_, ?_, (by first | assumption | omega | (simp [go_sem, F0, h3, lge h3, hxs2, hys2, h6]; done) | (simp_all <;> omega)), (by (rw [hx2]; exact comA_len _ _ _)), (by (rw [hy2]; exact comB_len _ _ _)), (by (exact hx2)), (by (exact hy2))⟩) <;> first | omega | (simp [go_sem, seval, F0, h3, lge h3, hxs2, hys2] <;> omega)
    ·try simp [go_sem] at h6
     have hm : mem f d[i] = false := by simpa [mem] using h6
     rw [if_neg (by rw [hm]; simp)] at hA hB
     obtain ⟨xs2, hxs2⟩ : ∃ x, x = xs := ⟨_, rfl⟩
     obtain ⟨ys2, hys2⟩ : ∃ x, x = ys := ⟨_, rfl⟩
     have hx2 : xs2 = comA d f (i + 1) := by rw [hxs2, hA]; simp
     have hy2 : ys2 = comB d f (i + 1) := by rw [hys2, hB]; simp
     try simp [go_sem, seval, F0, h3, lge h3, hxs2, hys2]
     repeat (first | intro _ | (refine ⟨obl, ?_⟩))
     refine nextQ_mk (i + 1) (by omega) ((hI0 _ _ _).2 ⟨(xs2), (ys2), ?_, ?_, ?_, ?_, ?_, ?_, ?_, ?_, ?_, ?_, (by first | assumption | omega | (simp [go_sem, F0, h3, lge h3, hxs2, hys2, h6]; done) | (simp_all <;> omega)), (by (rw [hx2]; exact comA_len _ _ _)), (by (rw [hy2]; exact comB_len _ _ _)), (by (exact hx2)), (by (exact hy2))⟩) <;> first | omega | (simp [go_sem, seval, F0, h3, lge h3, hxs2, hys2] <;> omega)
  · try simp [go_sem] at h3
    have hie : i = d.length := by omega
    subst hie
    try simp [go_sem, seval, F0]
    exact hQ _ _ (by first | (left; (simp [go_sem, F0, hx, hy]); done) | (right; (simp [go_sem, F0, hx, hy]); done))
def ledL (l by_ : List Int) : List Int := l.map fun x => by_[x.toNat]?.getD 0
structure Rule.thin (r : Rule) : Prop where
  s1 : r.left.slots.length ≤ 1000000
  t1 : r.left.tests.length ≤ 1000000
  s2 : r.right.slots.length ≤ 1000000
def plainB (r : Rule) : Bool := decide (r.left.vars = 0) && (decide ((r.left.slots.length : Int) + r.left.tests.length + r.right.slots.length = 0) && (r.cond.kind == 1))
def structB (r : Rule) : Bool := r.inj && plainB r
theorem concurrent_structural (r : Rule) (ht : r.thin) : Pure Tryz.prog 58 [r.d] (.bool (structB r)) := by
  obtain ⟨ht1, ht2, ht3⟩ := ht
  refine Tz.pK ⟨fun _ => false, fun _ => []⟩ Tryz.func58 rfl (fun Q hQ => ?_)
  try simp [go_sem, seval]
  repeat (first | intro _ | (refine ⟨obl, ?_⟩))
  exact hQ _ _ (by first | (left; (simp [go_sem, structB, plainB, Bool.and_assoc]); done) | (right; (simp [go_sem, structB, plainB, Bool.and_assoc]); done))
def leafB (t : Types) (l : List Int) : Bool := l.all fun k => decide ((belowT t k).length ≤ 1)
def oneR (t : Types) (r : Rule) : Int := if ruleF t r ≠ 0 then ruleF t r else if structB r = false then 8 else if (leafB t r.left.graph.nodes && leafB t r.right.graph.nodes) = false then 13 else 0
def givenR (t : Types) (a b : Rule) : Int := if (validF t).2 ≠ 0 then (validF t).2 else if oneR t a ≠ 0 then oneR t a else oneR t b
end Go.Abs
end
section
set_option maxRecDepth 8000
set_option maxHeartbeats 1000000
open Go Go.Proofs
namespace Go.Abs
@[go_sem] theorem rsvD_ptr (H : AHeap) (a b c d : Nat) : rsvD H (.ptr a b c d) = .ptr a b c d := rfl
@[go_sem] theorem ownIds_ptr (a b c d : Nat) : ownIds (.ptr a b c d) = [] := rfl
@[go_sem] theorem next_frz (H : AHeap) (i : Nat) : (H.frz i).next = H.next := (frz_al H i).2
@[go_sem] theorem get_frz (H : AHeap) (i j : Nat) : (H.frz i).get j = if j = i then (H.get i).map (fun k => { k with fz := true }) else H.get j := by
  by_cases h : j = i
  · subst h
    unfold AHeap.frz
    cases hk : H.get j <;> simp [AHeap.put, hk]
  · rw [if_neg h, frz_other H i j h]
theorem callQ_nz {P : Program} {md : Nat → Bool} {ops : Array Oper} {rest : List Oper} {e : Env} {dst : Option Tmp} {K : Env → AHeap → Prop} {f : FuncId} {args args' : List D} {H : AHeap} (ha : args.map nz1 = args') (h : callQ P md ops rest e dst K f args' H) : callQ P md ops rest e dst K f args H := by
  subst ha; unfold callQ at h ⊢
  exact ⟨h.1, fun M0 σ w vals hR hr => h.2 M0 σ w vals hR ⟨by simpa using hr.len, fun j u d hu hd => by
    rw [List.getElem?_map, Option.map_eq_some_iff] at hd
    obtain ⟨y, hy, rfl⟩ := hd
    exact nz1_rep (hr.rep j u y hu hy)⟩⟩
theorem range_fold_succ {β : Type} (f : β → Nat → β) (b : β) (n : Nat) : (List.range (n + 1)).foldl f b = f ((List.range n).foldl f b) n := by
  rw [List.range_succ, List.foldl_append]; rfl
def edgL (y : Edge) : List Int := [y.type, y.from_, y.to_]
def wantL (b : Graph) (ns : List Int) (i : Nat) : List Int := edgL (gluX b ns i)
def edB (a b : Graph) (ns es : List Int) (j : Nat) : Bool := decide (edgL (a.edges[j]?.getD zeroEdge) = wantL b ns es.length) && !mem es j
def ovE (a b : Graph) (ns : List Int) : Nat → List Int → List Ovl → List Ovl
  | 0, es, out => if 2000 < out.length then out else out ++ [glu a b ns es]
  | k + 1, es, out => if 2000 < out.length then out else
    (List.range a.edges.length).foldl (fun out j => if edB a b ns es j = true then ovE a b ns k (es ++ [(j : Int)]) out else out) (ovE a b ns k (es ++ [-1]) out)
theorem ovE_full (a b : Graph) (ns : List Int) (k : Nat) (es : List Int) {out : List Ovl} (h : 2000 < out.length) : ovE a b ns k es out = out := by
  cases k <;> simp only [ovE, if_pos h]
theorem ovE_le (a b : Graph) (ns : List Int) : ∀ (k : Nat) (es : List Int) (out : List Ovl), out.length ≤ 2001 → (ovE a b ns k es out).length ≤ 2001
  | 0, es, out, h => by
    simp only [ovE]
    split
    · exact h
    · simp; omega
  | k + 1, es, out, h => by
    simp only [ovE]
    split
    · exact h
    · have : ∀ (l : List Nat) (o : List Ovl), o.length ≤ 2001 → (l.foldl (fun out j => if edB a b ns es j = true then ovE a b ns k (es ++ [(j : Int)]) out else out) o).length ≤ 2001 := by
        intro l
        induction l with
        | nil => intro o ho; exact ho
        | cons j l ih =>
          intro o ho
          rw [List.foldl_cons]
          refine ih _ ?_
          split
          · exact ovE_le a b ns k _ _ ho
          · exact ho
      exact this _ _ (ovE_le a b ns k _ _ h)
def ndB (a b : Graph) (ns : List Int) (j : Nat) : Bool := decide (a.nodes[j]?.getD 0 = b.nodes[ns.length]?.getD 0) && !mem ns j
def ovN (a b : Graph) : Nat → List Int → List Ovl → List Ovl
  | 0, ns, out => if 2000 < out.length then out else ovE a b ns b.edges.length [] out
  | k + 1, ns, out => if 2000 < out.length then out else
    (List.range a.nodes.length).foldl (fun out j => if ndB a b ns j = true then ovN a b k (ns ++ [(j : Int)]) out else out) (ovN a b k (ns ++ [-1]) out)
theorem ovN_full (a b : Graph) (k : Nat) (ns : List Int) {out : List Ovl} (h : 2000 < out.length) : ovN a b k ns out = out := by
  cases k <;> simp only [ovN, if_pos h]
theorem ovN_le (a b : Graph) : ∀ (k : Nat) (ns : List Int) (out : List Ovl), out.length ≤ 2001 → (ovN a b k ns out).length ≤ 2001
  | 0, ns, out, h => by
    simp only [ovN]
    split
    · exact h
    · exact ovE_le a b ns _ _ _ h
  | k + 1, ns, out, h => by
    simp only [ovN]
    split
    · exact h
    · have : ∀ (l : List Nat) (o : List Ovl), o.length ≤ 2001 → (l.foldl (fun out j => if ndB a b ns j = true then ovN a b k (ns ++ [(j : Int)]) out else out) o).length ≤ 2001 := by
        intro l
        induction l with
        | nil => intro o ho; exact ho
        | cons j l ih =>
          intro o ho
          rw [List.foldl_cons]
          refine ih _ ?_
          split
          · exact ovN_le a b k _ _ ho
          · exact ho
      exact this _ _ (ovN_le a b k _ _ h)
structure OvS (ty f o : Nat) (a b : Graph) (out : List Ovl) (H : AHeap) : Prop where
  bf : H.get f = some ⟨ty, 5, [[dLI a.nodes, .list (a.edges.map Edge.c), dLI b.nodes, .list (b.edges.map Edge.c), .own o out.length]], false⟩
  bo : H.get o = some ⟨45, 6, out.map Ovl.c, false⟩
  le : out.length ≤ 2001
@[go_sem] theorem asInts_edge (x : Edge) : asInts x.c = some (edgL x) := rfl
theorem factor_edges (a b : Graph) (ha : graphF a = 0) (hb : graphF b = 0) (ns : List Int) (hns : ns.length = b.nodes.length) (f o : Nat) (hd : f ≠ o) :
    ∀ (k : Nat) (es : List Int) (out : List Ovl) (G : AHeap) (Q : D → AHeap → Prop), es.length + k = b.edges.length → f < G.next → o < G.next → OvS 177 f o a b out G →
    (∀ H', OvS 177 f o a b (ovE a b ns k es out) H' → (∀ j, j ≠ f → j ≠ o → j < G.next → H'.get j = G.get j) → G.next ≤ H'.next → Q (.tup []) H') → ACalls Tryz.prog 178 [.ptr f 1 0 0, dLI ns, dLI es] G Q := by
  have hla := graphF_le ha
  have hlb := graphF_le hb
  have hib : ∀ x ∈ b.edges, (0 ≤ x.from_ ∧ x.from_ < b.nodes.length) ∧ (0 ≤ x.to_ ∧ x.to_ < b.nodes.length) := fun x hx => ((graphF_in hb).2 x hx).2
  intro k
  induction k using Nat.strongRecOn with
  | _ k ih =>
  intro es out G Q hk hfN hoN hF hQ
  obtain ⟨gf, go, hle⟩ := hF
  have hds := hd.symm
  have ff := frs hfN
  have fo := frs hoN
  refine (acalls_of_body (cfg := ⟨fun t => t == 6 || t == 7 || t == 9, fun r => match r with | 2 => [(2, 16), (3, 16), (4, 16)] | 4 => [(0, 13), (1, 13), (3, 13), (4, 13), (5, 13), (6, 13), (8, 13), (9, 13), (10, 13), (11, 13)] | _ => []⟩) Tz.mixed Tryz.func178 rfl rfl (nlb rfl) (by kernel_rfl) ?_)
  try simp [go_sem, seval, gf, go, hd, hds, ff, fo, Ovl.d, Ovl.c]
  repeat first | intro _ | refine ⟨obs, ?_⟩
  refine condQ_mk (fun h0 => ?_) (fun h0 => ?_)
  · try simp [go_sem] at h0
    have hfull : 2000 < out.length := by omega
    try simp [go_sem, seval, gf, go, hd, hds, ff, fo, Ovl.d, Ovl.c]
    exact hQ _ (by rw [ovE_full _ _ _ _ _ hfull]; exact ⟨gf, go, hle⟩) (by intro j _ _ _; rfl) (Nat.le_refl _)
  · try simp [go_sem] at h0
    have hnf : ¬ 2000 < out.length := by omega
    try simp [go_sem, seval, gf, go, hd, hds, ff, fo, Ovl.d, Ovl.c]
    repeat first | intro _ | refine ⟨obs, ?_⟩
    refine condQ_mk (fun h1 => ?_) (fun h1 => ?_)
    · try simp [go_sem] at h1
      have hk0 : k = 0 := by omega
      subst hk0
      try simp [go_sem, seval, gf, go, hd, hds, ff, fo, Ovl.d, Ovl.c]
      repeat first | intro _ | refine ⟨obs, ?_⟩
      refine dcallQ_pure0 (factor_glued a b ha hb ns es hns (by omega)) ((by first | rfl | (simp [go_sem, ← List.map_take, ← List.map_drop, gf, go, hd, hds, ff, fo, Ovl.d, Ovl.c]; done))) ?_
      try simp [go_sem, seval, gf, go, hd, hds, ff, fo, Ovl.d, Ovl.c]
      repeat first | intro _ | refine ⟨obs, ?_⟩
      exact hQ _ (by simp only [ovE]; rw [if_neg hnf]; exact ⟨by simp [go_sem, gf, go, hd, hds, ff, fo, Ovl.d, Ovl.c], by simp [go_sem, gf, go, hd, hds, ff, fo, Ovl.d, Ovl.c, Ovl.d], by simp; omega⟩) (by intro j h1 h2 h3; simp [go_sem, h1, h2]) (by simp [go_sem] <;> omega)
    · try simp [go_sem] at h1
      obtain ⟨k', rfl⟩ : ∃ k', k = k' + 1 := ⟨k - 1, by omega⟩
      have hel : es.length < b.edges.length := by omega
      have hbx := hib _ (lgm hel)
      have hf1 : b.edges[es.length].from_.toNat < ns.length := by omega
      have hft : b.edges[es.length].to_.toNat < ns.length := by omega
      have hgx : gluX b ns es.length = ⟨b.edges[es.length].type, ns[b.edges[es.length].from_.toNat], ns[b.edges[es.length].to_.toNat]⟩ := by simp only [gluX, lge hel, Option.getD_some, lge hf1, lge hft]
      try simp [go_sem, seval, gf, go, hd, hds, ff, fo, Ovl.d, Ovl.c, lge hel, lge hf1, lge hft]
      repeat first | intro _ | refine ⟨obs, ?_⟩
      refine callQ_own0 (clone_int es (by omega)) ((by first | rfl | (simp [go_sem, ← List.map_take, ← List.map_drop, gf, go, hd, hds, ff, fo, Ovl.d, Ovl.c, lge hel, lge hf1, lge hft]; done))) ?_
      try simp [go_sem, seval, gf, go, hd, hds, ff, fo, Ovl.d, Ovl.c, lge hel, lge hf1, lge hft]
      repeat first | intro _ | refine ⟨obs, ?_⟩
      refine callQ_frz (args' := [.ptr f 1 0 0, dLI ns, dLI (es ++ [-1])]) (by simp [go_sem, gf, go, hd, hds, ff, fo, Ovl.d, Ovl.c, lge hel, lge hf1, lge hft, dLI]) rfl ?_
      unfold callQ
      refine ih k' (by omega) (es ++ [-1]) out _ _ (by simp; omega) (by simp [go_sem]; omega) (by simp [go_sem]; omega) ⟨by simp [go_sem, gf, go, hd, hds, ff, fo, Ovl.d, Ovl.c, lge hel, lge hf1, lge hft], by simp [go_sem, gf, go, hd, hds, ff, fo, Ovl.d, Ovl.c, lge hel, lge hf1, lge hft], hle⟩ (fun H2 hF2 hf2 hn2 => ?_)
      obtain ⟨gf2, go2, hle2⟩ := hF2
      obtain ⟨w7, hw7⟩ : ∃ x, x = G.next + 1 + 13 := ⟨_, rfl⟩
      have gw2 := hf2 w7 (by omega) (by omega) (by simp [go_sem]; omega)
      simp [go_sem, hw7, gf, go, hd, hds, ff, fo, Ovl.d, Ovl.c, lge hel, lge hf1, lge hft] at gw2
      simp [go_sem] at hn2
      have hfr2 : ∀ j, j ≠ f → j ≠ o → j < G.next → H2.get j = G.get j := fun j h1 h2 h3 => by
        have e1 := frs h3
        rw [hf2 j h1 h2 (by simp [go_sem]; omega)]
        simp [go_sem, h1, h2, e1]
      obtain ⟨o1, ho1⟩ : ∃ x, x = ovE a b ns k' (es ++ [-1]) out := ⟨_, rfl⟩
      rw [← ho1] at gf2 go2 hle2
      rw [← hw7] at gw2
      try simp [go_sem, seval, gf, go, hd, hds, ff, fo, Ovl.d, Ovl.c, lge hel, lge hf1, lge hft, gf2, go2, gw2]
      repeat first | intro _ | refine ⟨obs, ?_⟩
      obtain ⟨I0, hI0⟩ := mkI fun j e H => (∃ ou : List Ovl, (e 0 = .ptr f 1 0 0) ∧ (e 1 = dLI ns) ∧ (e 2 = dLI es) ∧ (e 7 = .ptr w7 1 0 0) ∧ (e 78 = .list (a.edges.map Edge.c)) ∧ (e 79 = dI a.edges.length) ∧ (e 80 = dI j) ∧ (H.get f = some ⟨177, 5, [[dLI a.nodes, .list (a.edges.map Edge.c), dLI b.nodes, .list (b.edges.map Edge.c), .own o ou.length]], false⟩) ∧ (f < H.next) ∧ (H.get o = some ⟨45, 6, ou.map Ovl.c, false⟩) ∧ (o < H.next) ∧ (H.get w7 = some ⟨124, 3, [[dI b.edges[es.length].type, dI ns[b.edges[es.length].from_.toNat], dI ns[b.edges[es.length].to_.toNat]]], false⟩) ∧ (w7 < H.next) ∧ (j ≤ a.edges.length) ∧ (ou.length ≤ 2001) ∧ (ou = (List.range j).foldl (fun out j => if edB a b ns es j = true then ovE a b ns k' (es ++ [(j : Int)]) out else out) o1) ∧ (∀ q, q ≠ f → q ≠ o → q < G.next → H.get q = G.get q) ∧ (G.next ≤ H.next))
      refine loopK I0 (fun j => a.edges.length - j) (0) ((hI0 _ _ _).2 ⟨(o1), ?_, ?_, ?_, ?_, ?_, ?_, ?_, ?_, ?_, ?_, ?_, ?_, ?_, (by first | assumption | omega | (simp [go_sem, gf, go, hd, hds, ff, fo, Ovl.d, Ovl.c, lge hel, lge hf1, lge hft, gf2, go2, gw2]; done) | (simp_all; done)), (by (exact hle2)), (by rfl), (by (exact hfr2)), (by omega)⟩) ?_
      iterate 13 (first | omega | (simp [go_sem, seval, gf, go, hd, hds, ff, fo, Ovl.d, Ovl.c, lge hel, lge hf1, lge hft, gf2, go2, gw2] <;> omega))
      intro j e H hi0
      obtain ⟨ou, q0_0, q1_0, q2_0, q7_0, q78_0, q79_0, q80_0, gf_0, nf_0, go_0, no_0, gw7_0, nw7_0, hj, hou, hst, hfr, hnx⟩ := (hI0 _ _ _).1 hi0
      have xf := frs nf_0
      have xo := frs no_0
      have xw7 := frs nw7_0
      have F0 := And.intro q0_0 (And.intro q1_0 (And.intro q2_0 (And.intro q7_0 (And.intro q78_0 (And.intro q79_0 (And.intro q80_0 (And.intro gf_0 (And.intro go_0 (And.intro gw7_0 (And.intro xf (And.intro xo xw7)))))))))))
      have di1 := And.intro (nep (show w7 ≠ o by omega)) (And.intro (nep (show w7 ≠ f by omega)) (nep (show o ≠ f by omega)))
      try simp [go_sem, seval, gf, go, hd, hds, ff, fo, Ovl.d, Ovl.c, lge hel, lge hf1, lge hft, gf2, go2, gw2, F0, di1]
      refine condQ_mk (fun h7 => ?_) (fun h7 => ?_)
      · try simp [go_sem] at h7
        have hEj : edB a b ns es j = (decide (edgL a.edges[j] = edgL (gluX b ns es.length)) && !mem es j) := by unfold edB wantL; rw [lge h7]; rfl
        rw [hgx] at hEj
        try simp [go_sem, seval, gf, go, hd, hds, ff, fo, Ovl.d, Ovl.c, lge hel, lge hf1, lge hft, gf2, go2, gw2, F0, di1, h7, lge h7]
        repeat first | intro _ | refine ⟨obs, ?_⟩
        refine gcallQ_pure0 (fun hg => contains_int es j) (fun hg => (by first | rfl | (simp [go_sem, ← List.map_take, ← List.map_drop, gf, go, hd, hds, ff, fo, Ovl.d, Ovl.c, lge hel, lge hf1, lge hft, gf2, go2, gw2, F0, di1, h7, lge h7]; done))) ?_
        try simp [go_sem, seval, gf, go, hd, hds, ff, fo, Ovl.d, Ovl.c, lge hel, lge hf1, lge hft, gf2, go2, gw2, F0, di1, h7, lge h7]
        repeat first | intro _ | refine ⟨obs, ?_⟩
        refine condQ_mk (fun h9 => ?_) (fun h9 => ?_)
        · try simp [go_sem] at h9
          have hE : edB a b ns es j = true := by rw [hEj]; simpa [edgL] using h9
          obtain ⟨ou2, hou2⟩ : ∃ x, x = ovE a b ns k' (es ++ [(j : Int)]) ou := ⟨_, rfl⟩
          try simp [go_sem, seval, gf, go, hd, hds, ff, fo, Ovl.d, Ovl.c, lge hel, lge hf1, lge hft, gf2, go2, gw2, F0, di1, h7, lge h7]
          repeat first | intro _ | refine ⟨obs, ?_⟩
          refine callQ_own0 (clone_int es (by omega)) ((by first | rfl | (simp [go_sem, ← List.map_take, ← List.map_drop, gf, go, hd, hds, ff, fo, Ovl.d, Ovl.c, lge hel, lge hf1, lge hft, gf2, go2, gw2, F0, di1, h7, lge h7]; done))) ?_
          try simp [go_sem, seval, gf, go, hd, hds, ff, fo, Ovl.d, Ovl.c, lge hel, lge hf1, lge hft, gf2, go2, gw2, F0, di1, h7, lge h7]
          repeat first | intro _ | refine ⟨obs, ?_⟩
          refine callQ_frz (args' := [.ptr f 1 0 0, dLI ns, dLI (es ++ [(j : Int)])]) (by simp [go_sem, gf, go, hd, hds, ff, fo, Ovl.d, Ovl.c, lge hel, lge hf1, lge hft, gf2, go2, gw2, F0, di1, h7, lge h7, dLI]) rfl ?_
          unfold callQ
          refine ih k' (by omega) (es ++ [(j : Int)]) ou _ _ (by simp; omega) (by simp [go_sem]; omega) (by simp [go_sem]; omega) ⟨by simp [go_sem, gf, go, hd, hds, ff, fo, Ovl.d, Ovl.c, lge hel, lge hf1, lge hft, gf2, go2, gw2, F0, di1, h7, lge h7], by simp [go_sem, gf, go, hd, hds, ff, fo, Ovl.d, Ovl.c, lge hel, lge hf1, lge hft, gf2, go2, gw2, F0, di1, h7, lge h7], hou⟩ (fun H3 hF3 hf3 hn3 => ?_)
          rw [← hou2] at hF3
          obtain ⟨gf3, go3, hle3⟩ := hF3
          have gw3 := hf3 w7 (by omega) (by omega) (by simp [go_sem]; omega)
          simp [go_sem, gf, go, hd, hds, ff, fo, Ovl.d, Ovl.c, lge hel, lge hf1, lge hft, gf2, go2, gw2, F0, di1, h7, lge h7] at gw3
          simp [go_sem] at hn3
          have hfr3 : ∀ j, j ≠ f → j ≠ o → j < G.next → H3.get j = G.get j := fun j h1 h2 h3 => by
            have e1 := frs (show j < H.next by omega)
            rw [hf3 j h1 h2 (by simp [go_sem]; omega)]
            simp [go_sem, h1, h2, e1]
            exact hfr j h1 h2 h3
          have fr2 := And.intro (frs (show f < H3.next by omega)) (And.intro (frs (show o < H3.next by omega)) (frs (show w7 < H3.next by omega)))
          try simp [go_sem, seval, gf, go, hd, hds, ff, fo, Ovl.d, Ovl.c, lge hel, lge hf1, lge hft, gf2, go2, gw2, F0, di1, h7, lge h7, gf3, go3, gw3, hou2, fr2]
          repeat first | intro _ | refine ⟨obs, ?_⟩
          refine nextQ_mk (j + 1) (by omega) ((hI0 _ _ _).2 ⟨(ou2), ?_, ?_, ?_, ?_, ?_, ?_, ?_, ?_, ?_, ?_, ?_, ?_, ?_, (by first | assumption | omega | (simp [go_sem, gf, go, hd, hds, ff, fo, Ovl.d, Ovl.c, lge hel, lge hf1, lge hft, gf2, go2, gw2, F0, di1, h7, lge h7, gf3, go3, gw3, hou2, fr2, h0, h1, h9]; done) | (simp_all <;> omega)), (by (rw [hou2]; first | exact hou | exact ovE_le _ _ _ _ _ _ hou)), (by (rw [range_fold_succ, ← hst, hou2]; first | rw [if_pos hE] | rw [if_neg (by rw [hE]; simp)])), (by (first | exact hfr3 | (intro q h1 h2 h3; simp [go_sem, h1, h2, frs (show q < H.next by omega)]; exact hfr q h1 h2 h3))), (by (first | omega | (simp [go_sem]; omega)))⟩) <;> first | omega | (simp [go_sem, seval, gf, go, hd, hds, ff, fo, Ovl.d, Ovl.c, lge hel, lge hf1, lge hft, gf2, go2, gw2, F0, di1, h7, lge h7, gf3, go3, gw3, hou2, fr2] <;> omega)
        · try simp [go_sem] at h9
          have hE : edB a b ns es j = false := by rw [hEj, Bool.eq_false_iff]; intro hb'; simp [edgL] at hb' h9; simp_all
          obtain ⟨ou2, hou2⟩ : ∃ x, x = ou := ⟨_, rfl⟩
          try simp [go_sem, seval, gf, go, hd, hds, ff, fo, Ovl.d, Ovl.c, lge hel, lge hf1, lge hft, gf2, go2, gw2, F0, di1, h7, lge h7, hou2]
          repeat first | intro _ | refine ⟨obs, ?_⟩
          refine nextQ_mk (j + 1) (by omega) ((hI0 _ _ _).2 ⟨(ou2), ?_, ?_, ?_, ?_, ?_, ?_, ?_, ?_, ?_, ?_, ?_, ?_, ?_, (by first | assumption | omega | (simp [go_sem, gf, go, hd, hds, ff, fo, Ovl.d, Ovl.c, lge hel, lge hf1, lge hft, gf2, go2, gw2, F0, di1, h7, lge h7, hou2, h0, h1, h9]; done) | (simp_all <;> omega)), (by (rw [hou2]; first | exact hou | exact ovE_le _ _ _ _ _ _ hou)), (by (rw [range_fold_succ, ← hst, hou2]; first | rw [if_pos hE] | rw [if_neg (by rw [hE]; simp)])), (by (first | exact hfr3 | (intro q h1 h2 h3; simp [go_sem, h1, h2, frs (show q < H.next by omega)]; exact hfr q h1 h2 h3))), (by (first | omega | (simp [go_sem]; omega)))⟩) <;> first | omega | (simp [go_sem, seval, gf, go, hd, hds, ff, fo, Ovl.d, Ovl.c, lge hel, lge hf1, lge hft, gf2, go2, gw2, F0, di1, h7, lge h7, hou2] <;> omega)
      · try simp [go_sem] at h7
        have hJ : j = a.edges.length := by omega
        have hOV : ovE a b ns (k' + 1) es out = ou := by simp only [ovE]; rw [if_neg hnf, ← ho1, hst, hJ]
        try simp [go_sem, seval, gf, go, hd, hds, ff, fo, Ovl.d, Ovl.c, lge hel, lge hf1, lge hft, gf2, go2, gw2, F0, di1]
        exact hQ _ (by rw [hOV]; exact ⟨by assumption, by assumption, hou⟩) hfr hnx
end Go.Abs
end
section
namespace Go.Abs
def ren (id : Nat) : D → D
  | .own 0 n => .own id n
  | d => d
section
variable {P : Program} {M0 : Nat → Prop} {H : AHeap} {σ : Nat → Option Ow} {w : World}
theorem ren_own (id n : Nat) : ren id (.own 0 n) = .own id n := rfl
theorem push0_get (k : Blk) : (AHeap.emp.push 0 k).get 0 = some k := rfl
theorem ACalls.turn {f : FuncId} {args : List D} {k k' : Blk} {r : D} {id : Nat} {Q : D → AHeap → Prop}
    (h : ACalls P f args (AHeap.emp.push 0 k) fun d H' => rsvT H' d = r ∧ r.cl = true ∧ 0 ∉ ownT d ∧ H'.get 0 = some k')
    (hargs : ∀ d ∈ args, d.cl = true ∨ d = .own 0 k.es.length) (hk : k.fz = false) (hk' : k'.fz = false) (hcl : D.clLL k.es = true) (hfl : ∀ d ∈ k'.es.flatten, d.flat = true) (hg : H.get id = some k) (hQ : Q r (H.put id k')) :
    ACalls P f (args.map (ren id)) H Q := by
  refine ⟨h.1, fun M0 σ w vals hR ha => ?_⟩
  obtain ⟨o, ho, l⟩ := hR.lies id k hg
  obtain ⟨xs, hrow, hx1, hrep⟩ := l.row
  obtain ⟨σ0, hσ0⟩ : ∃ s : Nat → Option Ow, s = fun i => if i = 0 then some o else none := ⟨_, rfl⟩
  obtain ⟨M1, hM1⟩ : ∃ m : Nat → Prop, m = fun b => Mut M0 H σ b ∧ o.block ≠ some b := ⟨_, rfl⟩
  have s0 : σ0 0 = some o := by rw [hσ0]; rfl
  have sn : ∀ i o', σ0 i = some o' → i = 0 ∧ o' = o := fun i o' hi => by
    rw [hσ0] at hi
    by_cases h0 : i = 0
    · simp only [h0, if_true, Option.some.injEq] at hi; exact ⟨h0, hi.symm⟩
    · simp only [h0, if_false] at hi; cases hi
  have g0 : ∀ i k1, (AHeap.emp.push 0 k).get i = some k1 → i = 0 ∧ k1 = k := fun i k1 hi => by
    by_cases h0 : i = 0
    · subst h0; rw [push0_get] at hi; exact ⟨rfl, (Option.some.inj hi).symm⟩
    · simp [AHeap.push, AHeap.emp, h0] at hi
  have hob : ∀ b, o.block = some b → Mut M0 H σ b := fun b hb => .inr ⟨id, k, o, hg, hk, ho, hb⟩
  have hmut : ∀ b, Mut M1 (AHeap.emp.push 0 k) σ0 b → Mut M0 H σ b := by
    rintro b (hb | ⟨i, k1, o1, hk1, hf, ho1, hb⟩)
    · rw [hM1] at hb; exact hb.1
    · obtain ⟨_, rfl⟩ := sn i o1 ho1
      exact hob b hb
  have hcF : ∀ {es : List (List D)}, D.clLL es = true → D.clL es.flatten = true := fun {es} hc => D.clL_of fun d hd => by
    obtain ⟨c, hcm, hxm⟩ := List.mem_flatten.1 hd
    exact D.clL_mem (D.clLL_mem hc c hcm) d hxm
  have hR0 : Rel M1 (AHeap.emp.push 0 k) σ0 w := by
    refine ⟨fun i hi => ?_, fun i hi => ?_, fun i k1 hk1 => ?_, fun i j oi oj b hi hj hbi hbj => ?_, fun i oi b hi hbi => ?_, fun b hb => ?_⟩
    · have h0 : i ≠ 0 := fun e => hi (.inl e)
      exact ⟨by rw [hσ0]; simp [h0], by simp [AHeap.push, AHeap.emp, h0]⟩
    · rcases hi with hi | hi
      · subst hi; simp [AHeap.push, AHeap.emp]
      · exact hi.elim
    · obtain ⟨h0, h1⟩ := g0 i k1 hk1
      subst h0; subst h1
      exact ⟨o, s0, l.ver, l.ty, l.sz, l.esz, xs, hrow, hx1, repL_closed (fun b hb hb' => hb (hmut b hb')) hrep (hcF hcl)⟩
    · rw [(sn i oi hi).1, (sn j oj hj).1]
    · obtain ⟨_, rfl⟩ := sn i oi hi
      exact ⟨(hR.lt id oi b ho hbi).1, fun hb => by rw [hM1] at hb; exact hb.2 hbi⟩
    · rw [hM1] at hb; exact mut_lt hR b hb.1
  have ha0 : RepL (Mut M1 (AHeap.emp.push 0 k) σ0) σ0 (AHeap.emp.push 0 k).al w vals args := by
    refine ⟨by simpa using ha.len, fun j u d hu hd => ?_⟩
    have hj := ha.rep j u (ren id d) hu (by rw [List.getElem?_map, hd]; rfl)
    rcases hargs d (List.mem_of_getElem? hd) with hc | rfl
    · have hren : ren id d = d := by cases d <;> first | rfl | (simp [D.cl] at hc)
      rw [hren] at hj
      exact hj.closed (fun ad u hm hu => ⟨fun hm' => hm (hmut _ hm'), hu⟩) hc
    · rw [ren_own] at hj
      cases hj
      rename_i h1 hN hv
      exact .own u _ _ (.inl rfl) (by first | exact h1 | exact hN) fun o1 ho1 => by
        obtain ⟨_, rfl⟩ := sn 0 o1 ho1
        exact hv o1 ho
  refine (h.2 M1 σ0 w vals hR0 ha0).mono fun e w' ⟨v, d, H', σ', he, hR', hv, hst, hkp, hr, hrcl, hr0, hg'⟩ => ?_
  obtain ⟨o', ho', l'⟩ := hR'.lies 0 k' hg'
  obtain ⟨xs', hrow', hx1', hrep'⟩ := l'.row
  obtain ⟨o2, ho2, hle⟩ := hkp.own 0 o' (.inl rfl) ho'
  rw [s0] at ho2
  cases ho2
  have hgr : w.grownBy w' o.block := ⟨hst.os, hst.tape, hst.output, hst.size, fun b hb hne => hst.old b hb fun i o1 hi => by
    obtain ⟨_, rfl⟩ := sn i o1 hi
    exact fun hb' => hne (by first | simpa using hb' | exact hb'.symm | exact hb')⟩
  have hnew : ∀ b, o'.block = some b → o.block = some b ∨ w.heap.size ≤ b := fun b hb => by
    rcases hst.new 0 o' b ho' hb with h1 | ⟨o1, h1, h2⟩
    · exact .inr h1
    · rw [s0] at h1; cases h1; exact .inl h2
  obtain ⟨p1, p2, p3⟩ := Rel.put hR hg hk ho k' o' hgr hnew hle l'.ver l'.ty l'.sz l'.esz xs' hrow' hx1'
    ⟨hrep'.len, fun j u d hu hd => flat_rep (hrep'.rep j u d hu hd) (hfl d (List.mem_of_getElem? hd))⟩
  have hv' := rsvT_frozen hR' hv (ownT d) fun i hi => hi
  rw [hr] at hv'
  obtain ⟨_, _, _, f4⟩ := frzs_sound (ownT d) hR'
  refine ⟨v, r, _, _, he, p1, hv'.closed (fun ad u hm hu => ⟨fun hm' => hm ?_, hu⟩) hrcl, p2, p3, hQ⟩
  rcases hm' with h0 | ⟨i, k1, o1, hk1, hf, ho1, hb⟩
  · left
    rw [hM1]
    exact ⟨.inl h0, fun hb => (hR.lt id o _ ho hb).2 h0⟩
  · by_cases hi : i = id
    · simp only [hi, if_true, Option.some.injEq] at ho1
      subst ho1
      right
      obtain ⟨f41, f42⟩ := f4 0
      rw [hg'] at f41
      cases hq : (frzs (ownT d) H').get 0 with
      | none => rw [hq] at f41; cases f41
      | some kq =>
        refine ⟨0, kq, o', hq, ?_, ho', hb⟩
        rw [frzs_other _ _ 0 hr0, hg'] at hq
        cases hq
        exact hk'
    · simp only [hi, if_false] at ho1
      simp only [AHeap.put, hi, if_false] at hk1
      left
      rw [hM1]
      exact ⟨.inr ⟨i, k1, o1, hk1, hf, ho1, hb⟩, fun hb' => hi (hR.inj i id o1 o _ ho1 ho hb hb')⟩
end
section
variable {P : Program} {M0 : Nat → Prop} {H : AHeap} {σ : Nat → Option Ow} {w : World}
def Own2T (P : Program) (f : FuncId) (args : List D) (b1 b2 : Blk) (tl : List D) : Prop :=
  Ent P f ∧ D.clL tl = true ∧ b1.fz = false ∧ b2.fz = false ∧ ∀ (M : Nat → Prop) (w : World) (vals : List Value), (∀ b, M b → b < w.heap.size) → RepL M noRef noId w vals args →
    Calls P f vals.toArray w fun e w' => ∃ v1 v2 xs1 xs2 us, e = .returned (.tuple (Value.agg #[v1, v2] :: us).toArray) ∧ RepL (fun b => M b ∨ v1.ownBlock = some b ∨ v2.ownBlock = some b) noRef noId w' us tl ∧ Made (fun b => M b ∨ v1.ownBlock = some b ∨ v2.ownBlock = some b) w w' v1 b1 xs1 ∧ Made (fun b => M b ∨ v1.ownBlock = some b ∨ v2.ownBlock = some b) w w' v2 b2 xs2 ∧
      (∀ b, v1.ownBlock = some b → v2.ownBlock ≠ some b) ∧ RowKit.Below w.heap.size w w'
theorem own2T_of_calls {f : FuncId} {args : List D} {b1 b2 : Blk} {tl : List D} (htl : D.clL tl = true) (hf1 : b1.fz = false) (hf2 : b2.fz = false) (hcl1 : D.clLL b1.es = true) (hcl2 : D.clLL b2.es = true)
    (h : ACalls P f args .emp fun d H' => ∃ i j, i ≠ j ∧ d = .tup (.agg [.own i b1.es.length, .own j b2.es.length] :: tl) ∧ H'.get i = some b1 ∧ H'.get j = some b2) : Own2T P f args b1 b2 tl := by
  refine ⟨h.1, htl, hf1, hf2, fun M w vals hM ha => (h.2 M noRef w vals (rel_emp M w hM) (by rw [mut_emp]; exact ha)).mono fun e w' ⟨v, d, H', σ', he, hR, hv, hst, hk, i, j, hij, hd, hg1, hg2⟩ => ?_⟩
  subst hd
  cases hv
  rename_i vt hlt hrt
  obtain ⟨v0, us, rfl⟩ : ∃ v0 us, vt = v0 :: us := by
    match vt, hlt with
    | a :: l, _ => exact ⟨a, l, rfl⟩
  have hv0 := hrt 0 v0 _ rfl rfl
  cases hv0
  rename_i vs hv1 hl hr
  obtain ⟨v1, v2, rfl⟩ : ∃ v1 v2, vs = [v1, v2] := by
    match vs, hl with
    | [a, b], _ => exact ⟨a, b, rfl⟩
  have r1 := hr 0 v1 _ rfl rfl
  have r2 := hr 1 v2 _ rfl rfl
  obtain ⟨o1, ho1, l1⟩ := hR.lies i b1 hg1
  obtain ⟨o2, ho2, l2⟩ := hR.lies j b2 hg2
  obtain ⟨xs1, row1, x1, p1⟩ := l1.row
  obtain ⟨xs2, row2, x2, p2⟩ := l2.row
  have e1 : v1 = o1.val := by
    cases r1
    rename_i _ _ hval
    rcases hval o1 ho1 with hlt | ⟨_, h⟩
    · have := l1.ver; omega
    · exact h
  have e2 : v2 = o2.val := by
    cases r2
    rename_i _ _ hval
    rcases hval o2 ho2 with hlt | ⟨_, h⟩
    · have := l2.ver; omega
    · exact h
  subst e1 e2
  have hM' : ∀ b, ¬ (M b ∨ o1.val.ownBlock = some b ∨ o2.val.ownBlock = some b) ↔ ¬ M b ∧ ¬ o1.val.ownBlock = some b ∧ ¬ o2.val.ownBlock = some b := fun b => by simp only [not_or]
  have hmu : ∀ b, ¬ Mut M H' σ' b → ¬ (M b ∨ o1.val.ownBlock = some b ∨ o2.val.ownBlock = some b) := fun b hm hh => by
    rcases hh with hh | hh | hh
    · exact hm (.inl hh)
    · exact hm (.inr ⟨i, b1, o1, hg1, hf1, ho1, hh⟩)
    · exact hm (.inr ⟨j, b2, o2, hg2, hf2, ho2, hh⟩)
  have hflat : ∀ {es : List (List D)}, D.clLL es = true → D.clL es.flatten = true := fun {es} hc => D.clL_of fun d hd => by
    obtain ⟨c, hcm, hxm⟩ := List.mem_flatten.1 hd
    exact D.clL_mem (D.clLL_mem hc c hcm) d hxm
  have hrow : ∀ {o : Ow} {b : Blk} {q : Nat} {xs : List Value}, σ' q = some o → w'.ownsRow 0 b.ty o.esz o.val b.es.length xs → o.esz = b.sz → w'.ownsRow w.heap.size b.ty b.sz o.val b.es.length xs := fun {o b q xs} ho hrow hs => by
    rw [← hs]
    refine ⟨hrow.1, ?_⟩
    rcases hrow.2 with hn | ⟨g, cap, cur, h1, _, h3⟩
    · exact .inl hn
    · refine .inr ⟨g, cap, cur, h1, ?_, h3⟩
      rcases hst.new q o g ho (by simp [Ow.block, h1, Value.ownBlock]) with h | ⟨o', h, _⟩
      · exact h
      · simp [noRef] at h
  refine ⟨o1.val, o2.val, xs1, xs2, us, he, repL_closed hmu ⟨by simpa using hlt, fun j u d hu hd => hrt (j + 1) u d (by simpa using hu) (by simpa using hd)⟩ htl, ⟨hrow ho1 row1 l1.sz, x1, repL_closed hmu p1 (hflat hcl1), hcl1, fun c hc => (l1.esz c hc).trans l1.sz⟩, ⟨hrow ho2 row2 l2.sz, x2, repL_closed hmu p2 (hflat hcl2), hcl2, fun c hc => (l2.esz c hc).trans l2.sz⟩, fun b hb hb' => ?_, stp_below hst⟩
  exact hij (hR.inj i j o1 o2 b ho1 ho2 hb hb')
theorem own2TK {f : FuncId} {args : List D} {b1 b2 : Blk} {tl : List D} (htl : D.clL tl = true) (hf1 : b1.fz = false := by rfl) (hf2 : b2.fz = false := by rfl) (hcl1 : D.clLL b1.es = true) (hcl2 : D.clLL b2.es = true)
    (h : ∀ Q : D → AHeap → Prop, (∀ i j n m H', i ≠ j → n = b1.es.length → m = b2.es.length → H'.get i = some b1 → H'.get j = some b2 → Q (.tup (.agg [.own i n, .own j m] :: tl)) H') → ACalls P f args .emp Q) : Own2T P f args b1 b2 tl :=
  own2T_of_calls htl hf1 hf2 hcl1 hcl2 (h _ fun i j n m H' hij hn hm h1 h2 => ⟨i, j, hij, by rw [hn, hm], h1, h2⟩)
theorem ACalls.own2TQ {f : FuncId} {args : List D} {b1 b2 : Blk} {tl : List D} {Q : D → AHeap → Prop} (hp : Own2T P f args b1 b2 tl) (hcl : D.clL args = true) (i j : Nat) (hij : i ≠ j) (hi : ¬ H.al i) (hj : ¬ H.al j)
    (hQ : Q (.tup (.agg [.own i b1.es.length, .own j b2.es.length] :: tl)) ((H.push i b1).push j b2)) : ACalls P f args H Q := by
  refine ⟨hp.1, fun M0 σ w vals hR ha => (hp.2.2.2.2 (Mut M0 H σ) w vals (mut_lt hR) (repL_closed (fun _ h => h) ha hcl)).mono fun e w' ⟨v1, v2, xs1, xs2, us, he, hus, m1, m2, hdis, hb⟩ => ?_⟩
  have hflat : ∀ {es : List (List D)}, D.clLL es = true → D.clL es.flatten = true := fun {es} hc => D.clL_of fun d hd => by
    obtain ⟨c, hcm, hxm⟩ := List.mem_flatten.1 hd
    exact D.clL_mem (D.clLL_mem hc c hcm) d hxm
  have hG : ∀ ad, ¬ (Mut M0 H σ ad ∨ v1.ownBlock = some ad ∨ v2.ownBlock = some ad) → ¬ Mut M0 ((H.push i b1).push j b2) (fun q => if q = j then some (Ow.mk b2.es.length v2 b2.sz b2.ty) else if q = i then some (Ow.mk b1.es.length v1 b1.sz b1.ty) else σ q) ad := by
    intro ad hm h
    rcases h with h | ⟨q, k', o', hk', hf, ho', hb'⟩
    · exact hm (.inl (.inl h))
    · by_cases e2 : q = j
      · simp only [e2, if_true, Option.some.injEq] at ho'
        subst ho'
        exact hm (.inr (.inr hb'))
      · by_cases e1 : q = i
        · simp only [e1, hij, if_false, if_true, Option.some.injEq] at ho'
          subst ho'
          exact hm (.inr (.inl hb'))
        · simp only [e1, e2, if_false] at ho'
          simp only [AHeap.push, e1, e2, if_false] at hk'
          exact hm (.inl (.inr ⟨q, k', o', hk', hf, ho', hb'⟩))
  obtain ⟨p1, p2, p3⟩ := Rel.push2 hR i j hij hi hj (w' := w') hb.os hb.tape hb.output hb.size hb.block b1 b2 ⟨b1.es.length, v1, b1.sz, b1.ty⟩ ⟨b2.es.length, v2, b2.sz, b2.ty⟩
    (made_block m1) (made_block m2) hdis rfl rfl rfl rfl rfl rfl m1.sz m2.sz xs1 xs2 (made_row0 m1) (made_row0 m2) m1.one m2.one ⟨repL_closed hG m1.rep (hflat m1.cl), repL_closed hG m2.rep (hflat m2.cl)⟩
  refine ⟨_, _, _, _, he, p1, ?_, p2, p3, hQ⟩
  have hus' : RepL (Mut M0 ((H.push i b1).push j b2) (fun q => if q = j then some (Ow.mk b2.es.length v2 b2.sz b2.ty) else if q = i then some (Ow.mk b1.es.length v1 b1.sz b1.ty) else σ q)) (fun q => if q = j then some (Ow.mk b2.es.length v2 b2.sz b2.ty) else if q = i then some (Ow.mk b1.es.length v1 b1.sz b1.ty) else σ q) ((H.push i b1).push j b2).al w' us tl := repL_closed hG hus hp.2.1
  refine .tup (Value.agg #[v1, v2] :: us) (.agg [.own i b1.es.length, .own j b2.es.length] :: tl) (by simpa using hus'.len) fun q u d hu hd => ?_
  match q with
  | q + 1 => exact hus'.rep q u d (by simpa using hu) (by simpa using hd)
  | 0 =>
  simp only [List.getElem?_cons_zero, Option.some.injEq] at hu hd
  subst hu hd
  refine .agg [v1, v2] [.own i b1.es.length, .own j b2.es.length] rfl (fun u hu => ?_) fun q u d hu hd => ?_
  · simp only [List.mem_cons, List.not_mem_nil, or_false] at hu
    rcases hu with rfl | rfl
    · exact made_one m1
    · exact made_one m2
  · match q with
    | 0 =>
      simp only [List.getElem?_cons_zero, Option.some.injEq] at hu hd
      subst hu hd
      exact .own v1 _ _ (.inr (.inl rfl)) (made_one m1) (fun o ho => by simp [hij] at ho; subst ho; exact .inr ⟨rfl, rfl⟩)
    | 1 =>
      simp only [List.getElem?_cons_succ, List.getElem?_cons_zero, Option.some.injEq] at hu hd
      subst hu hd
      exact .own v2 _ _ (.inl rfl) (made_one m2) (fun o ho => by simp at ho; subst ho; exact .inr ⟨rfl, rfl⟩)
    | q + 2 => simp at hu
end
theorem callQ_own2T {P : Program} {md : Nat → Bool} {ops : Array Oper} {rest : List Oper} {e : Env} {dst : Option Tmp} {K : Env → AHeap → Prop} {f : FuncId} {args : List D} {H : AHeap} {b1 b2 : Blk} {tl : List D} (hp : Own2T P f args b1 b2 tl) (hcl : D.clL args = true) (hfr : ¬ H.al H.next ∧ ¬ H.al (H.next + 1))
    (h : aOps P md ops rest (upd e dst (.tup (.agg [.own H.next b1.es.length, .own (H.next + 1) b2.es.length] :: tl))) ((H.push H.next b1).push (H.next + 1) b2) K) : callQ P md ops rest e dst K f args H := by
  unfold callQ; exact ACalls.own2TQ hp hcl _ _ (by omega) hfr.1 hfr.2 h
section
variable {P : Program} {md : Nat → Bool} {ops : Array Oper} {sp : List (Nat × Nat)} {n0 i : Nat} {rest : List Oper} {acc : List (Nat × List Nat)} {e : Env} {dst : Option Tmp} {K : Env → AHeap → Prop} {f : FuncId} {args args' : List D} {H : AHeap}
theorem dcallQ_turn {k k' : Blk} {r : D} (id : Nat) (h : ACalls P f args (AHeap.emp.push 0 k) fun d H' => rsvT H' d = r ∧ r.cl = true ∧ 0 ∉ ownT d ∧ H'.get 0 = some k')
    (hargs : ∀ d ∈ args, d.cl = true ∨ d = .own 0 k.es.length) (hk : k.fz = false) (hk' : k'.fz = false) (hcl : D.clLL k.es = true) (hfl : ∀ d ∈ k'.es.flatten, d.flat = true) (hg : H.get id = some k) (ha : args.map (ren id) = args') (hmd : mdd md dst = true)
    (hc : chk sp i [id] acc) (hN : aDraw P md ops sp n0 (i + 1) rest ((i, [id]) :: acc) (upd e dst r) (H.put id k') K) : dcallQ P md ops sp n0 i rest acc e dst K f args' H := by
  unfold dcallQ
  subst ha
  exact Or.inr ⟨hmd, r, [id], [(id, k')], [], fun p hp => (by
      have : p = (id, k') := by simpa using hp
      subst this; simp), (fun _ h => by cases h),
    fun H' hag _ => ACalls.turn h hargs hk hk' hcl hfl ((hag id (by simp)).trans hg) ⟨rfl, rfl⟩, by simpa using hc, by simpa [AHeap.puts, AHeap.pushs] using hN⟩
end
theorem ACalls.ghosts {P : Program} {f : FuncId} {args : List D} {H H' : AHeap} {Q : D → AHeap → Prop} (hg : Ghosts H H') (h : ACalls P f args H' Q) : ACalls P f args H Q :=
  ⟨h.1, fun M0 σ w vals hR ha => by
    obtain ⟨σ1, g1, g2, g3⟩ := ghosts_sound hg hR
    exact (h.2 M0 σ1 w vals g1 (ha.keep g3)).mono fun e w' ⟨v, d, H1, σ2, he, h1, hv, hs, hk, hq⟩ => ⟨v, d, H1, σ2, he, h1, hv, g2.trans hs, g3.trans hk, hq⟩⟩
theorem callQ_ghosts {P : Program} {md : Nat → Bool} {ops : Array Oper} {rest : List Oper} {e : Env} {dst : Option Tmp} {K : Env → AHeap → Prop} {f : FuncId} {args : List D} {H H' : AHeap} (hg : Ghosts H H') (h : callQ P md ops rest e dst K f args H') : callQ P md ops rest e dst K f args H := by
  unfold callQ at h ⊢; exact ACalls.ghosts hg h
end Go.Abs
end
