/- Layer 32: the sides of the concurrent rule (program). · Laye -/
import Derived.Test.YthnegcfdjjhfgaaGreatZmA
import Derived.Test.YthnegcfdjjhfgaaGreatZmM
import Derived.Test.YthnegcfdjjhfgaaGreatZmF
set_option linter.unusedVariables false
set_option linter.unusedSimpArgs false
section
set_option maxRecDepth 8000
set_option maxHeartbeats 1000000
open Go Go.Proofs
namespace Go.Abs
theorem subgraph_ExtractO (g : Graph) (p : Part) (h0 : subF g p = 0) (hl : p.nodes.length ≤ 1000000) (hle : p.edges.length ≤ 1000000) : Own2T Tryz.prog 89 [g.d, p.d] ⟨3, 1, (extractG g p).nodes.map cI, false⟩ ⟨124, 3, (extractG g p).edges.map Edge.c, false⟩ [p.d, dI 0] := by
  refine own2TK (htl := by simp [go_sem, Part.d, Part.c]) (hcl1 := ints_cl _) (hcl2 := edgesG_cl _) (h := fun Q hQ => ?_)
  obtain ⟨hg, hs, hin, hie⟩ := subF_of h0
  refine (acalls_of_body (cfg := ⟨fun t => t == 4 || t == 5 || t == 8 || t == 13, fun r => match r with | 8 => [(0, 7), (1, 7)] | _ => []⟩) Tz.mixed Tryz.func89 rfl rfl (nlb rfl) (by kernel_rfl) ?_)
  try simp [go_sem, seval, h0]
  refine callQ_pure0 (subgraph_Valid g p hl) ((by first | rfl | (simp [go_sem, ← List.map_take, ← List.map_drop, h0]; done))) ?_
  try simp [go_sem, seval, h0]
  repeat (first | intro _ | (refine ⟨obl, ?_⟩))
  obtain ⟨I0, hI0⟩ := mkI fun i e H => (∃ xs : List Int, (e 2 = .adr g.c) ∧ (e 3 = .adr p.c) ∧ (e 4 = .ptr 0 1 0 0) ∧ (e 5 = .ptr 1 1 0 0) ∧ (e 8 = .ptr 2 1 0 0) ∧ (e 23 = dLI p.nodes) ∧ (e 24 = dI p.nodes.length) ∧ (e 25 = dI i) ∧ (H.get 0 = some ⟨29, 2, [[.nil, .nil]], false⟩) ∧ (0 < H.next) ∧ (H.get 1 = some ⟨36, 2, [[.nil, .nil]], false⟩) ∧ (1 < H.next) ∧ (H.get 2 = some ⟨29, 2, [[.own 3 xs.length, .nil]], false⟩) ∧ (2 < H.next) ∧ (H.get 3 = some ⟨3, 1, xs.map cI, false⟩) ∧ (3 < H.next) ∧ (i ≤ p.nodes.length) ∧ (xs = (p.nodes.take i).map (gN g)))
  refine loopKG (Ghosts.step (Ghosts.refl _) 2 0 0 3 1 _ _ (rfl) rfl rfl rfl) I0 (fun i => p.nodes.length - i) (0) ((hI0 _ _ _).2 ⟨([]), ?_, ?_, ?_, ?_, ?_, ?_, ?_, ?_, ?_, ?_, ?_, ?_, ?_, ?_, ?_, ?_, (by first | assumption | omega | (simp [go_sem, h0]; done) | (simp_all; done)), (by rfl)⟩) ?_
  iterate 16 (first | omega | (simp [go_sem, seval, h0] <;> omega))
  intro i e H hi0
  obtain ⟨xs, q2_0, q3_0, q4_0, q5_0, q8_0, q23_0, q24_0, q25_0, g0_0, n0_0, g1_0, n1_0, g2_0, n2_0, g3_0, n3_0, hi, hx⟩ := (hI0 _ _ _).1 hi0
  have x0 := frs n0_0
  have x1 := frs n1_0
  have x2 := frs n2_0
  have x3 := frs n3_0
  have F0 := And.intro q2_0 (And.intro q3_0 (And.intro q4_0 (And.intro q5_0 (And.intro q8_0 (And.intro q23_0 (And.intro q24_0 (And.intro q25_0 (And.intro g0_0 (And.intro g1_0 (And.intro g2_0 (And.intro g3_0 (And.intro x0 (And.intro x1 (And.intro x2 x3))))))))))))))
  try simp [go_sem, seval, h0, F0]
  refine condQ_mk (fun h6 => ?_) (fun h6 => ?_)
  · try simp [go_sem] at h6
    have hin' := hin _ (lgm h6)
    have hk : p.nodes[i].toNat < g.nodes.length := by omega
    have hxl : xs.length = i := by rw [hx]; simp; omega
    try simp [go_sem, seval, h0, F0, h6, lge hk, gN]
    repeat (first | intro _ | (refine ⟨obl, ?_⟩))
    refine nextQ_mk (i + 1) (by omega) ((hI0 _ _ _).2 ⟨(xs ++ [gN g p.nodes[i]]), ?_, ?_, ?_, ?_, ?_, ?_, ?_, ?_, ?_, ?_, ?_, ?_, ?_, ?_, ?_, ?_, (by first | assumption | omega | (simp [go_sem, h0, F0, h6, lge hk, gN]; done) | (simp_all <;> omega)), (by (rw [map_take_succ _ h6, ← hx]))⟩) <;> first | omega | (simp [go_sem, seval, h0, F0, h6, lge hk, gN] <;> omega)
  · try simp [go_sem] at h6
    have hX : xs = p.nodes.map (gN g) := by rw [hx, map_take_end _ (by omega)]
    try simp [go_sem, seval, h0, F0]
    repeat (first | intro _ | (refine ⟨obl, ?_⟩))
    obtain ⟨I2, hI2⟩ := mkI fun k e H => (∃ j : Nat, ∃ ys : List Edge, (e 2 = .adr g.c) ∧ (e 3 = .adr p.c) ∧ (e 4 = .ptr 0 1 0 0) ∧ (e 5 = .ptr 1 1 0 0) ∧ (e 8 = .ptr 2 1 0 0) ∧ (e 41 = dLI p.edges) ∧ (e 42 = dI p.edges.length) ∧ (e 43 = dI k) ∧ (H.get 0 = some ⟨29, 2, [[.nil, .nil]], false⟩) ∧ (0 < H.next) ∧ (H.get 1 = some ⟨36, 2, [[.nil, .nil]], false⟩) ∧ (1 < H.next) ∧ (H.get 2 = some ⟨29, 2, [[.own 3 xs.length, .own j ys.length]], false⟩) ∧ (2 < H.next) ∧ (H.get 3 = some ⟨3, 1, xs.map cI, false⟩) ∧ (3 < H.next) ∧ (H.get j = some ⟨124, 3, ys.map Edge.c, false⟩) ∧ (j < H.next) ∧ (k ≤ p.edges.length) ∧ (ys = (p.edges.take k).map (gEd g p)) ∧ (j ≠ 0) ∧ (j ≠ 1) ∧ (j ≠ 2) ∧ (j ≠ 3))
    refine loopKG (Ghosts.step (Ghosts.refl _) 2 0 1 124 3 _ _ (g2_0) rfl rfl rfl) I2 (fun k => p.edges.length - k) (0) ((hI2 _ _ _).2 ⟨(H.next), ([]), ?_, ?_, ?_, ?_, ?_, ?_, ?_, ?_, ?_, ?_, ?_, ?_, ?_, ?_, ?_, ?_, ?_, ?_, (by first | assumption | omega | (simp [go_sem, h0, F0]; done) | (simp_all; done)), (by rfl), (by omega), (by omega), (by omega), (by omega)⟩) ?_
    iterate 18 (first | omega | (simp [go_sem, seval, h0, F0] <;> omega))
    intro k e H hi2
    obtain ⟨j, ys, q2_2, q3_2, q4_2, q5_2, q8_2, q41_2, q42_2, q43_2, g0_2, n0_2, g1_2, n1_2, g2_2, n2_2, g3_2, n3_2, gj_2, nj_2, hk, hy, j0, j1, j2, j3⟩ := (hI2 _ _ _).1 hi2
    have x0 := frs n0_2
    have x1 := frs n1_2
    have x2 := frs n2_2
    have x3 := frs n3_2
    have xj := frs nj_2
    have F2 := And.intro q2_2 (And.intro q3_2 (And.intro q4_2 (And.intro q5_2 (And.intro q8_2 (And.intro q41_2 (And.intro q42_2 (And.intro q43_2 (And.intro g0_2 (And.intro g1_2 (And.intro g2_2 (And.intro g3_2 (And.intro gj_2 (And.intro x0 (And.intro x1 (And.intro x2 (And.intro x3 xj))))))))))))))))
    try simp [go_sem, seval, h0, F2, j0, j1, j2, j3, j0.symm, j1.symm, j2.symm, j3.symm]
    refine condQ_mk (fun h11 => ?_) (fun h11 => ?_)
    ·try simp [go_sem] at h11
     have hie' := hie _ (lgm h11)
     have hke : p.edges[k].toNat < g.edges.length := by omega
     have hyl : ys.length = k := by rw [hy]; simp; omega
     try simp [go_sem, seval, h0, F2, j0, j1, j2, j3, j0.symm, j1.symm, j2.symm, j3.symm, h11, lge hke, gEd]
     repeat (first | intro _ | (refine ⟨obl, ?_⟩))
     refine callQ_pure0 (bsearch_int p.nodes _ hs hl) ((by first | rfl | (simp [go_sem, ← List.map_take, ← List.map_drop, h0, F2, j0, j1, j2, j3, j0.symm, j1.symm, j2.symm, j3.symm, h11, lge hke, gEd]; done))) ?_
     try simp [go_sem, seval, h0, F2, j0, j1, j2, j3, j0.symm, j1.symm, j2.symm, j3.symm, h11, lge hke, gEd]
     repeat (first | intro _ | (refine ⟨obl, ?_⟩))
     refine callQ_pure0 (bsearch_int p.nodes _ hs hl) ((by first | rfl | (simp [go_sem, ← List.map_take, ← List.map_drop, h0, F2, j0, j1, j2, j3, j0.symm, j1.symm, j2.symm, j3.symm, h11, lge hke, gEd]; done))) ?_
     try simp [go_sem, seval, h0, F2, j0, j1, j2, j3, j0.symm, j1.symm, j2.symm, j3.symm, h11, lge hke, gEd]
     repeat (first | intro _ | (refine ⟨obl, ?_⟩))
     refine nextQ_mk (k + 1) (by omega) ((hI2 _ _ _).2 ⟨(j), (ys ++ [gEd g p p.edges[k]]), ?_, ?_, ?_, ?_, ?_, ?_, ?_, ?_, ?_, ?_, ?_, ?_, ?_, ?_, ?_, ?_, ?_, ?_, (by first | assumption | omega | (simp [go_sem, h0, F2, j0, j1, j2, j3, j0.symm, j1.symm, j2.symm, j3.symm, h11, lge hke, gEd, h6]; done) | (simp_all <;> omega)), (by (rw [map_take_succ _ h11, ← hy])), (by first | assumption | omega | (simp [go_sem, h0, F2, j0, j1, j2, j3, j0.symm, j1.symm, j2.symm, j3.symm, h11, lge hke, gEd, h6]; done) | (simp_all <;> omega)), (by first | assumption | omega | (simp [go_sem, h0, F2, j0, j1, j2, j3, j0.symm, j1.symm, j2.symm, j3.symm, h11, lge hke, gEd, h6]; done) | (simp_all <;> omega)), (by first | assumption | omega | (simp [go_sem, h0, F2, j0, j1, j2, j3, j0.symm, j1.symm, j2.symm, j3.symm, h11, lge hke, gEd, h6]; done) | (simp_all <;> omega)), (by first | assumption | omega | (simp [go_sem, h0, F2, j0, j1, j2, j3, j0.symm, j1.symm, j2.symm, j3.symm, h11, lge hke, gEd, h6]; done) | (simp_all <;> omega))⟩) <;> first | omega | (simp [go_sem, seval, h0, F2, j0, j1, j2, j3, j0.symm, j1.symm, j2.symm, j3.symm, h11, lge hke, gEd] <;> omega)
    ·try simp [go_sem] at h11
     have hY : ys = p.edges.map (gEd g p) := by rw [hy, map_take_end _ (by omega)]
     have hE : extractG g p = ⟨xs, ys⟩ := by unfold extractG; rw [if_pos h0, hX, hY]
     rw [hE] at hQ
     try simp [go_sem, seval, h0, F2, j0, j1, j2, j3, j0.symm, j1.symm, j2.symm, j3.symm]
     refine dcallQ_pure0 ((clone_int p.nodes hl).pure) ((by first | rfl | (simp [go_sem, ← List.map_take, ← List.map_drop, h0, F2, j0, j1, j2, j3, j0.symm, j1.symm, j2.symm, j3.symm]; done))) ?_
     try simp [go_sem, seval, h0, F2, j0, j1, j2, j3, j0.symm, j1.symm, j2.symm, j3.symm]
     refine dcallQ_pure0 ((clone_int p.edges hle).pure) ((by first | rfl | (simp [go_sem, ← List.map_take, ← List.map_drop, h0, F2, j0, j1, j2, j3, j0.symm, j1.symm, j2.symm, j3.symm]; done))) ?_
     try simp [go_sem, seval, h0, F2, j0, j1, j2, j3, j0.symm, j1.symm, j2.symm, j3.symm]
     exact hQ _ _ _ _ _ (Ne.symm j3) (by simp) (by simp) (by simp [go_sem, h0, F2, j0, j1, j2, j3, j0.symm, j1.symm, j2.symm, j3.symm]) (by simp [go_sem, h0, F2, j0, j1, j2, j3, j0.symm, j1.symm, j2.symm, j3.symm])
end Go.Abs
end
section
set_option maxRecDepth 8000
set_option maxHeartbeats 1000000
open Go Go.Proofs
namespace Go.Abs
def sidA (av : List Int) (b : Nat) (ns : List Int) : Nat → List Int
  | 0 => av
  | i + 1 => (sidA av b ns i).set (ns[i]?.getD 0).toNat ((b + i : Nat) : Int)
theorem sidA_len (av : List Int) (b : Nat) (ns : List Int) : ∀ i, (sidA av b ns i).length = av.length
  | 0 => rfl
  | i + 1 => by simp only [sidA, List.length_set]; exact sidA_len av b ns i
def moreN (more : Graph) (n : Int) : Int := more.nodes[n.toNat]?.getD 0
def sideG (g : Graph) (p : Part) (more : Graph) (av ns es : List Int) : Graph :=
  ⟨(extractG g p).nodes ++ ns.map (moreN more), (extractG g p).edges ++ es.map fun n => gluX more (sidA av (extractG g p).nodes.length ns ns.length) n.toNat⟩
theorem concurrent_side0 (g : Graph) (p : Part) (more : Graph) (a0 ns es : List Int) (h0 : subF g p = 0) (hl : p.nodes.length ≤ 1000000) (hle : p.edges.length ≤ 1000000) (hm : graphF more = 0) (ha0 : a0.length = more.nodes.length)
    (hns : ∀ x ∈ ns, 0 ≤ x ∧ x < more.nodes.length) (hes : ∀ x ∈ es, 0 ≤ x ∧ x < more.edges.length) (hnl : ns.length ≤ 1000000) (hel : es.length ≤ 1000000) (Q : D → AHeap → Prop)
    (hQ : ∀ i j n m H', i ≠ j → i ≠ 0 → j ≠ 0 → n = (sideG g p more a0 ns es).nodes.length → m = (sideG g p more a0 ns es).edges.length → H'.get i = some ⟨3, 1, (sideG g p more a0 ns es).nodes.map cI, false⟩ → H'.get j = some ⟨124, 3, (sideG g p more a0 ns es).edges.map Edge.c, false⟩ →
     H'.get 0 = some ⟨3, 1, (sidA a0 (extractG g p).nodes.length ns ns.length).map cI, false⟩ → Q (.agg [.own i n, .own j m]) H') :
    ACalls Tryz.prog 136 [g.d, p.d, more.d, .own 0 a0.length, dLI ns, dLI es] (AHeap.emp.push 0 ⟨3, 1, a0.map cI, false⟩) Q := by
  have hlm := graphF_le hm
  have hib : ∀ x ∈ more.edges, (0 ≤ x.from_ ∧ x.from_ < more.nodes.length) ∧ (0 ≤ x.to_ ∧ x.to_ < more.nodes.length) := fun x hx => ((graphF_in hm).2 x hx).2
  obtain ⟨E, hE⟩ : ∃ E, extractG g p = E := ⟨_, rfl⟩
  have hX := subgraph_ExtractO g p h0 hl hle
  have hEl : E.nodes.length ≤ 1000000 ∧ E.edges.length ≤ 1000000 := by rw [← hE]; unfold extractG; rw [if_pos h0]; simp; exact ⟨hl, hle⟩
  obtain ⟨S, hS⟩ : ∃ S, sideG g p more a0 ns es = S := ⟨_, rfl⟩
  rw [hE] at hX
  rw [hS, hE] at hQ
  refine (acalls_of_body (cfg := ⟨fun t => t == 12 || t == 13 || t == 14 || t == 20, fun r => match r with | 6 => [(0, 7), (1, 7)] | 12 => [(0, 15), (1, 15)] | _ => []⟩) Tz.mixed Tryz.func136 rfl rfl (nlb rfl) (by kernel_rfl) ?_)
  try simp [go_sem, seval]
  refine callQ_own2T (hX) (by first | rfl | (simp [go_sem]; done)) (by constructor <;> (simp [go_sem, al_push, al_put, al_mk, al_emp] <;> omega)) ?_
  try simp [go_sem, seval]
  repeat first | intro _ | refine ⟨obs, ?_⟩
  obtain ⟨I0, hI0⟩ := mkI fun i e H => (∃ av : List Int, ∃ gs : List Int, (e 8 = .adr more.c) ∧ (e 3 = .own 0 a0.length) ∧ (e 5 = dLI es) ∧ (e 12 = .ptr 1 1 0 0) ∧ (e 13 = .ptr 4 1 0 0) ∧ (e 28 = dLI ns) ∧ (e 29 = dI ns.length) ∧ (e 30 = dI i) ∧ (H.get 0 = some ⟨3, 1, av.map cI, false⟩) ∧ (0 < H.next) ∧ (H.get 1 = some ⟨29, 2, [[.nil, .nil]], false⟩) ∧ (1 < H.next) ∧ (H.get 2 = some ⟨3, 1, gs.map cI, false⟩) ∧ (2 < H.next) ∧ (H.get 3 = some ⟨124, 3, E.edges.map Edge.c, false⟩) ∧ (3 < H.next) ∧ (H.get 4 = some ⟨29, 2, [[.own 2 gs.length, .own 3 E.edges.length]], false⟩) ∧ (4 < H.next) ∧ (i ≤ ns.length) ∧ (av.length = a0.length) ∧ (gs.length = E.nodes.length + i) ∧ (av = sidA a0 E.nodes.length ns i) ∧ (gs = E.nodes ++ (ns.take i).map (moreN more)))
  refine loopK I0 (fun i => ns.length - i) (0) ((hI0 _ _ _).2 ⟨(a0), (E.nodes), ?_, ?_, ?_, ?_, ?_, ?_, ?_, ?_, ?_, ?_, ?_, ?_, ?_, ?_, ?_, ?_, ?_, ?_, (by first | assumption | omega | (simp [go_sem]; done) | (simp_all; done)), (by rfl), (by rfl), (by rfl), (by (simp))⟩) ?_
  iterate 18 (first | omega | (simp [go_sem, seval] <;> omega))
  intro i e H hi0
  obtain ⟨av, gs, q8_0, q3_0, q5_0, q12_0, q13_0, q28_0, q29_0, q30_0, g0_0, n0_0, g1_0, n1_0, g2_0, n2_0, g3_0, n3_0, g4_0, n4_0, hi, hav, hgl, ha, hg⟩ := (hI0 _ _ _).1 hi0
  have x0 := frs n0_0
  have x1 := frs n1_0
  have x2 := frs n2_0
  have x3 := frs n3_0
  have x4 := frs n4_0
  have F0 := And.intro q8_0 (And.intro q3_0 (And.intro q5_0 (And.intro q12_0 (And.intro q13_0 (And.intro q28_0 (And.intro q29_0 (And.intro q30_0 (And.intro g0_0 (And.intro g1_0 (And.intro g2_0 (And.intro g3_0 (And.intro g4_0 (And.intro x0 (And.intro x1 (And.intro x2 (And.intro x3 x4))))))))))))))))
  try simp [go_sem, seval, F0, hav, hgl]
  refine condQ_mk (fun h3 => ?_) (fun h3 => ?_)
  · try simp [go_sem] at h3
    have hin := hns _ (lgm h3)
    have hk : ns[i].toNat < more.nodes.length := by omega
    have hka : ns[i].toNat < av.length := by omega
    try simp [go_sem, seval, F0, hav, hgl, h3, lge h3, lge hk, lge hka]
    repeat first | intro _ | refine ⟨obs, ?_⟩
    refine nextQ_mk (i + 1) (by omega) ((hI0 _ _ _).2 ⟨(av.set ns[i].toNat ((E.nodes.length + i : Nat) : Int)), (gs ++ [more.nodes[ns[i].toNat]]), ?_, ?_, ?_, ?_, ?_, ?_, ?_, ?_, ?_, ?_, ?_, ?_, ?_, ?_, ?_, ?_, ?_, ?_, (by first | assumption | omega | (simp [go_sem, F0, hav, hgl, h3, lge h3, lge hk, lge hka]; done) | (simp_all <;> omega)), (by (simp [hav])), (by (simp [hgl]; omega)), (by (simp only [sidA, ← ha, lge h3, Option.getD_some])), (by (rw [map_take_succ _ h3, ← List.append_assoc, ← hg]; simp only [moreN, lge hk, Option.getD_some]))⟩) <;> first | omega | (simp [go_sem, seval, F0, hav, hgl, h3, lge h3, lge hk, lge hka] <;> omega)
  · try simp [go_sem] at h3
    have hI : i = ns.length := by omega
    subst hI
    try simp [go_sem, seval, F0, hav, hgl]
    repeat first | intro _ | refine ⟨obs, ?_⟩
    obtain ⟨I2, hI2⟩ := mkI fun k e H => (∃ xs : List Edge, (e 8 = .adr more.c) ∧ (e 3 = .own 0 a0.length) ∧ (e 12 = .ptr 1 1 0 0) ∧ (e 13 = .ptr 4 1 0 0) ∧ (e 51 = dLI es) ∧ (e 52 = dI es.length) ∧ (e 53 = dI k) ∧ (H.get 0 = some ⟨3, 1, av.map cI, false⟩) ∧ (0 < H.next) ∧ (H.get 1 = some ⟨29, 2, [[.nil, .nil]], false⟩) ∧ (1 < H.next) ∧ (H.get 2 = some ⟨3, 1, gs.map cI, false⟩) ∧ (2 < H.next) ∧ (H.get 3 = some ⟨124, 3, xs.map Edge.c, false⟩) ∧ (3 < H.next) ∧ (H.get 4 = some ⟨29, 2, [[.own 2 gs.length, .own 3 xs.length]], false⟩) ∧ (4 < H.next) ∧ (k ≤ es.length) ∧ (xs.length = E.edges.length + k) ∧ (xs = E.edges ++ (es.take k).map (fun n => gluX more av n.toNat)))
    refine loopK I2 (fun k => es.length - k) (0) ((hI2 _ _ _).2 ⟨(E.edges), ?_, ?_, ?_, ?_, ?_, ?_, ?_, ?_, ?_, ?_, ?_, ?_, ?_, ?_, ?_, ?_, ?_, (by first | assumption | omega | (simp [go_sem, F0, hav, hgl]; done) | (simp_all; done)), (by rfl), (by (simp))⟩) ?_
    iterate 17 (first | omega | (simp [go_sem, seval, F0, hav, hgl] <;> omega))
    intro k e H hi2
    obtain ⟨xs, q8_2, q3_2, q12_2, q13_2, q51_2, q52_2, q53_2, g0_2, n0_2, g1_2, n1_2, g2_2, n2_2, g3_2, n3_2, g4_2, n4_2, hk, hxl, hx⟩ := (hI2 _ _ _).1 hi2
    have x0 := frs n0_2
    have x1 := frs n1_2
    have x2 := frs n2_2
    have x3 := frs n3_2
    have x4 := frs n4_2
    have F2 := And.intro q8_2 (And.intro q3_2 (And.intro q12_2 (And.intro q13_2 (And.intro q51_2 (And.intro q52_2 (And.intro q53_2 (And.intro g0_2 (And.intro g1_2 (And.intro g2_2 (And.intro g3_2 (And.intro g4_2 (And.intro x0 (And.intro x1 (And.intro x2 (And.intro x3 x4)))))))))))))))
    try simp [go_sem, seval, hav, hgl, F2, hav]
    refine condQ_mk (fun h9 => ?_) (fun h9 => ?_)
    ·try simp [go_sem] at h9
     have hie := hes _ (lgm h9)
     have hke : es[k].toNat < more.edges.length := by omega
     have hbx := hib _ (lgm hke)
     have hf1 : more.edges[es[k].toNat].from_.toNat < av.length := by omega
     have hft : more.edges[es[k].toNat].to_.toNat < av.length := by omega
     have hgx : gluX more av es[k].toNat = ⟨more.edges[es[k].toNat].type, av[more.edges[es[k].toNat].from_.toNat], av[more.edges[es[k].toNat].to_.toNat]⟩ := by simp only [gluX, lge hke, Option.getD_some, lge hf1, lge hft]
     try simp [go_sem, seval, hav, hgl, F2, hav, h9, lge h9, lge hke, lge hf1, lge hft, hgx, Edge.c]
     repeat first | intro _ | refine ⟨obs, ?_⟩
     refine nextQ_mk (k + 1) (by omega) ((hI2 _ _ _).2 ⟨(xs ++ [gluX more av es[k].toNat]), ?_, ?_, ?_, ?_, ?_, ?_, ?_, ?_, ?_, ?_, ?_, ?_, ?_, ?_, ?_, ?_, ?_, (by first | assumption | omega | (simp [go_sem, hav, hgl, F2, hav, h9, lge h9, lge hke, lge hf1, lge hft, hgx, Edge.c, h3]; done) | (simp_all <;> omega)), (by (simp [hxl]; omega)), (by (rw [map_take_succ _ h9, ← List.append_assoc, ← hx]))⟩) <;> first | omega | (simp [go_sem, seval, hav, hgl, F2, hav, h9, lge h9, lge hke, lge hf1, lge hft, hgx, Edge.c] <;> omega)
    ·try simp [go_sem] at h9
     have hSE : S = ⟨gs, xs⟩ := by
      rw [← hS]; unfold sideG
      rw [hE, ← ha, hg, hx]
      rw [show k = es.length by omega, List.take_length, List.take_length]
     subst hSE
     try simp [go_sem, seval, hav, hgl, F2, hav]
     exact hQ _ _ _ _ _ (by omega) (by omega) (by omega) (by simp [hgl]) (by simp) (by simp [go_sem, hav, hgl, F2, hav]) (by simp [go_sem, hav, hgl, F2, hav]) (by rw [← ha]; simp [go_sem, hav, hgl, F2, hav])
theorem concurrent_side (g : Graph) (p : Part) (more : Graph) (a0 ns es : List Int) (h0 : subF g p = 0) (hl : p.nodes.length ≤ 1000000) (hle : p.edges.length ≤ 1000000) (hm : graphF more = 0) (ha0 : a0.length = more.nodes.length)
    (hns : ∀ x ∈ ns, 0 ≤ x ∧ x < more.nodes.length) (hes : ∀ x ∈ es, 0 ≤ x ∧ x < more.edges.length) (hnl : ns.length ≤ 1000000) (hel : es.length ≤ 1000000) :
    ACalls Tryz.prog 136 [g.d, p.d, more.d, .own 0 a0.length, dLI ns, dLI es] (AHeap.emp.push 0 ⟨3, 1, a0.map cI, false⟩) fun d H' =>
     rsvT H' d = (sideG g p more a0 ns es).d ∧ (sideG g p more a0 ns es).d.cl = true ∧ 0 ∉ ownT d ∧ H'.get 0 = some ⟨3, 1, (sidA a0 (extractG g p).nodes.length ns ns.length).map cI, false⟩ :=
  concurrent_side0 g p more a0 ns es h0 hl hle hm ha0 hns hes hnl hel _ fun i j n m H' hij hi hj hn hm' h1 h2 h3 => by
    refine ⟨?_, ?_, ?_, h3⟩
    ·simp [go_sem, rsvT, Graph.d, Graph.c, h1, h2, hn, hm', dLI]
    ·simp [go_sem, Graph.d, Graph.c]
    ·simp [ownT, ownIds, ids1]; omega
end Go.Abs
end
section
namespace Go.Abs
mutual
def nzA : D → D
  | .nil => .list []
  | .agg cs => .agg (nzAs cs)
  | .tup cs => .tup (nzAs cs)
  | .list es => .list (nzAss es)
  | d => d
def nzAs : List D → List D
  | [] => []
  | d :: l => nzA d :: nzAs l
def nzAss : List (List D) → List (List D)
  | [] => []
  | c :: l => nzAs c :: nzAss l
end
theorem nzAs_map (l : List D) : nzAs l = l.map nzA := by
  induction l with
  | nil => rfl
  | cons a l ih => simp [nzAs, ih]
theorem nzAss_map (l : List (List D)) : nzAss l = l.map nzAs := by
  induction l with
  | nil => rfl
  | cons a l ih => simp [nzAss, ih]
theorem nzAss_flat (l : List (List D)) : (nzAss l).flatten = l.flatten.map nzA := by
  induction l with
  | nil => rfl
  | cons a l ih => simp only [nzAss, List.flatten_cons, ih, List.map_append, nzAs_map]
theorem nzA_rep {M : Nat → Prop} {σ : Nat → Option Ow} {N : Nat → Prop} {w : World} {v : Value} {d : D} (h : RepV M σ N w v d) : RepV M σ N w v (nzA d) := by
  have hm : ∀ {vs : List Value} {ds : List D}, (∀ (j : Nat) (u : Value) (d : D), vs[j]? = some u → ds[j]? = some d → RepV M σ N w u (nzA d)) →
      ∀ (j : Nat) (u : Value) (d : D), vs[j]? = some u → (ds.map nzA)[j]? = some d → RepV M σ N w u d := by
    intro vs ds ih j u d hu hd
    rw [List.getElem?_map, Option.map_eq_some_iff] at hd
    obtain ⟨y, hy, rfl⟩ := hd
    exact ih j u y hu hy
  induction h with
  | int => simp only [nzA]; exact .int _ _
  | bool => simp only [nzA]; exact .bool _
  | str => simp only [nzA]; exact .str _
  | agg vs ds hl h1 _ ih =>
    simp only [nzA, nzAs_map]
    exact .agg vs _ (by simp [hl]) h1 (hm ih)
  | tup vs ds hl _ ih =>
    simp only [nzA, nzAs_map]
    exact .tup vs _ (by simp [hl]) (hm ih)
  | nil => simp only [nzA]; exact .listN
  | listN => simp only [nzA, nzAss]; exact .listN
  | list ad cap sz xs es hc hm' hsz hl h1 hcell _ ih =>
    simp only [nzA]
    have hlen : (nzAss es).length = es.length := by rw [nzAss_map, List.length_map]
    have := RepV.list (M := M) (σ := σ) (N := N) (w := w) ad cap sz xs (nzAss es) (by rw [hlen]; exact hc) hm' (fun c hc' => by
      rw [nzAss_map, List.mem_map] at hc'
      obtain ⟨y, hy, rfl⟩ := hc'
      rw [nzAs_map, List.length_map]; exact hsz y hy) (by rw [nzAss_flat, List.length_map]; exact hl) h1 hcell (by rw [nzAss_flat]; exact hm ih)
    rwa [hlen] at this
  | adr ad xs ds hl h1 hcell hr ih => simp only [nzA]; exact .adr ad xs ds hl h1 hcell hr
  | ne ad cap hm => simp only [nzA]; exact .ne ad cap hm
  | nilp => simp only [nzA]; exact .nilp
  | ptr v id ver i off hN h1 h => simp only [nzA]; exact .ptr v id ver i off hN h1 h
  | own v id n hN h1 h => simp only [nzA]; exact .own v id n hN h1 h
  | win v id ver lo hi hN h1 hlh h => simp only [nzA]; exact .win v id ver lo hi hN h1 hlh h
  | fn f vs ds hl hr ih => simp only [nzA]; exact .fn f vs ds hl hr
  | nilf => simp only [nzA]; exact .nilf
  | opt v g d hf h ih => simp only [nzA]; exact .opt v g d hf h
  | junk v => simp only [nzA]; exact .junk v
theorem pureKA {P : Program} {f : FuncId} {args : List D} {r : D} (hcl : r.cl = true) (h : ∀ Q : D → AHeap → Prop, (∀ d H', nzA (rsvT H' d) = r → Q d H') → ACalls P f args .emp Q) : Pure P f args r := by
  have h := h (fun d H' => nzA (rsvT H' d) = r) fun _ _ h => h
  refine ⟨h.1, fun M w vals hM ha => (h.2 M noRef w vals (rel_emp M w hM) (by rw [mut_emp]; exact ha)).mono fun e w' ⟨v, d, H', σ', he, hR, hv, hst, hk, hr⟩ => ⟨v, he, ?_, stp_below hst⟩⟩
  have h1 : RepV (Mut M (frzs (ownT d) H') σ') σ' (frzs (ownT d) H').al w' v r := by
    have h0 := nzA_rep (rsvT_frozen hR hv (ownT d) fun i hi => hi)
    rw [hr] at h0; exact h0
  exact h1.closed (fun ad u hm hc => ⟨fun h => hm (.inl h), hc⟩) hcl
attribute [go_sem] nzA nzAs nzAss
end Go.Abs
end
section
set_option maxRecDepth 60000
set_option maxHeartbeats 1000000
open Go Go.Proofs
namespace Go.Abs
structure Glued where
  a : Rule
  b : Rule
  o : Ovl
  d : Part
  f : Part
def Glued.c (x : Glued) : List D := x.a.c ++ x.b.c ++ x.o.c ++ x.d.c ++ x.f.c
def Glued.dd (x : Glued) : D := .agg x.c
def atL (n : Nat) (keep : List Int) (val : Nat → Int) : Nat → List Int
  | 0 => List.replicate n 0
  | k + 1 => (atL n keep val k).set (keep[k]?.getD 0).toNat (val k)
theorem atL_len (n : Nat) (keep : List Int) (val : Nat → Int) : ∀ k, (atL n keep val k).length = n
  | 0 => by simp [atL]
  | k + 1 => by simp only [atL, List.length_set]; exact atL_len n keep val k
def valL (p into im : List Int) (k : Nat) : Int := idx p (im[(into[k]?.getD 0).toNat]?.getD 0)
def halfG (g : Graph) (p : Part) (more : Graph) (keep : Part) (into im : List Int) : Graph :=
  sideG g p more (atL more.nodes.length keep.nodes (valL p.nodes into im) keep.nodes.length) (othersL keep.nodes more.nodes.length) (othersL keep.edges more.edges.length)
structure HOk (g : Graph) (p : Part) (more : Graph) (keep : Part) (into im : List Int) : Prop where
  sub : subF g p = 0
  lp : p.nodes.length ≤ 1000000
  lpe : p.edges.length ≤ 1000000
  mo : graphF more = 0
  kn : ∀ x ∈ keep.nodes, 0 ≤ x ∧ x < more.nodes.length
  kl : keep.nodes.length = into.length
  ki : into.length ≤ 1000000
  ini : ∀ x ∈ into, 0 ≤ x ∧ x < im.length
theorem glued_left (x : Glued) (hx : HOk x.o.graph x.d x.a.left.graph x.a.keep x.a.into.nodes x.o.left.nodes) : Pure Tryz.prog 65 [x.dd] (halfG x.o.graph x.d x.a.left.graph x.a.keep x.a.into.nodes x.o.left.nodes).d := by
  obtain ⟨hsub, hlp, hlpe, hmo, hkn, hkl, hki, hini⟩ := hx
  have hlm := graphF_le hmo
  have ho1 := othersL_len x.a.keep.nodes x.a.left.graph.nodes.length
  have ho2 := othersL_len x.a.keep.edges x.a.left.graph.edges.length
  have hc0 : cI 0 = [D.int .i64 0] := rfl
  refine Tz.pK ⟨fun t => t == 2 || t == 3 || t == 14 || t == 69, fun r => match r with | 8 => [(0, 14), (1, 14), (2, 14), (3, 14), (4, 14), (5, 14), (14, 15), (14, 16), (14, 17), (14, 18), (14, 19), (14, 20), (14, 21), (0, 22), (1, 22), (2, 22), (3, 22), (4, 22), (5, 22)] | _ => []⟩ Tryz.func65 rfl (fun Q hQ => ?_)
  try simp [go_sem, seval, Glued.dd, Glued.c, Rule.c, Ovl.c, Part.c, hc0]
  repeat first | intro _ | refine ⟨obs, ?_⟩
  obtain ⟨I0, hI0⟩ := mkI fun k e H => (∃ av : List Int, (e 1 = .adr x.c) ∧ (e 2 = .ptr 0 1 0 0) ∧ (e 3 = .ptr 1 1 0 0) ∧ (e 4 = .own 2 x.a.left.graph.nodes.length) ∧ (e 18 = dLI x.a.keep.nodes) ∧ (e 19 = dI x.a.keep.nodes.length) ∧ (e 20 = dI k) ∧ (H.get 0 = some ⟨29, 2, [[.nil, .nil]], false⟩) ∧ (0 < H.next) ∧ (H.get 1 = some ⟨29, 2, [[dLI x.a.left.graph.nodes, .list (x.a.left.graph.edges.map Edge.c)]], false⟩) ∧ (1 < H.next) ∧ (H.get 2 = some ⟨3, 1, av.map cI, false⟩) ∧ (2 < H.next) ∧ (k ≤ x.a.keep.nodes.length) ∧ (av.length = x.a.left.graph.nodes.length) ∧ (av = atL x.a.left.graph.nodes.length x.a.keep.nodes (valL x.d.nodes x.a.into.nodes x.o.left.nodes) k))
  refine loopK I0 (fun k => x.a.keep.nodes.length - k) (0) ((hI0 _ _ _).2 ⟨(List.replicate x.a.left.graph.nodes.length 0), ?_, ?_, ?_, ?_, ?_, ?_, ?_, ?_, ?_, ?_, ?_, ?_, ?_, (by first | assumption | omega | (simp [go_sem, Glued.dd, Glued.c, Rule.c, Ovl.c, Part.c, hc0]; done) | (simp_all; done)), (by (simp)), (by rfl)⟩) ?_
  iterate 13 (first | omega | (simp [go_sem, seval, Glued.dd, Glued.c, Rule.c, Ovl.c, Part.c, hc0] <;> omega))
  intro k e H hi0
  obtain ⟨av, q1_0, q2_0, q3_0, q4_0, q18_0, q19_0, q20_0, g0_0, n0_0, g1_0, n1_0, g2_0, n2_0, hi, hav, ha⟩ := (hI0 _ _ _).1 hi0
  have x0 := frs n0_0
  have x1 := frs n1_0
  have x2 := frs n2_0
  have F0 := And.intro q1_0 (And.intro q2_0 (And.intro q3_0 (And.intro q4_0 (And.intro q18_0 (And.intro q19_0 (And.intro q20_0 (And.intro g0_0 (And.intro g1_0 (And.intro g2_0 (And.intro x0 (And.intro x1 x2)))))))))))
  try simp [go_sem, seval, Glued.dd, Glued.c, Rule.c, Ovl.c, Part.c, hc0, F0, hav]
  refine condQ_mk (fun h4 => ?_) (fun h4 => ?_)
  · try simp [go_sem] at h4
    have hk1 : k < x.a.into.nodes.length := by omega
    have hin := hini _ (lgm hk1)
    have hk2 : x.a.into.nodes[k].toNat < x.o.left.nodes.length := by omega
    have hkk := hkn _ (lgm h4)
    have hk3 : x.a.keep.nodes[k].toNat < av.length := by omega
    try simp [go_sem, seval, Glued.dd, Glued.c, Rule.c, Ovl.c, Part.c, hc0, F0, hav, h4, lge h4, lge hk1, lge hk2, lge hk3]
    repeat first | intro _ | refine ⟨obs, ?_⟩
    refine dcallQ_pure0 (index_int x.d.nodes _) ((by first | rfl | (simp [go_sem, ← List.map_take, ← List.map_drop, Glued.dd, Glued.c, Rule.c, Ovl.c, Part.c, hc0, F0, hav, h4, lge h4, lge hk1, lge hk2, lge hk3]; done))) ?_
    try simp [go_sem, seval, Glued.dd, Glued.c, Rule.c, Ovl.c, Part.c, hc0, F0, hav, h4, lge h4, lge hk1, lge hk2, lge hk3]
    repeat first | intro _ | refine ⟨obs, ?_⟩
    refine nextQ_mk (k + 1) (by omega) ((hI0 _ _ _).2 ⟨(av.set x.a.keep.nodes[k].toNat (idx x.d.nodes x.o.left.nodes[x.a.into.nodes[k].toNat])), ?_, ?_, ?_, ?_, ?_, ?_, ?_, ?_, ?_, ?_, ?_, (by (simp [go_sem, Glued.dd, Glued.c, Rule.c, Ovl.c, Part.c, hc0, F0, hav, h4, lge h4, lge hk1, lge hk2, lge hk3, List.map_set, cI])), ?_, (by first | assumption | omega | (simp [go_sem, Glued.dd, Glued.c, Rule.c, Ovl.c, Part.c, hc0, F0, hav, h4, lge h4, lge hk1, lge hk2, lge hk3]; done) | (simp_all <;> omega)), (by (simp [hav])), (by (simp only [atL, valL, ← ha, lge h4, lge hk1, lge hk2, Option.getD_some]))⟩) <;> first | omega | (simp [go_sem, seval, Glued.dd, Glued.c, Rule.c, Ovl.c, Part.c, hc0, F0, hav, h4, lge h4, lge hk1, lge hk2, lge hk3] <;> omega)
  · try simp [go_sem] at h4
    have hI : k = x.a.keep.nodes.length := by omega
    subst hI
    try simp [go_sem, seval, Glued.dd, Glued.c, Rule.c, Ovl.c, Part.c, hc0, F0, hav]
    repeat first | intro _ | refine ⟨obs, ?_⟩
    refine dcallQ_pure0 (concurrent_others x.a.keep.nodes x.a.left.graph.nodes.length (by omega)) ((by first | rfl | (simp [go_sem, ← List.map_take, ← List.map_drop, Glued.dd, Glued.c, Rule.c, Ovl.c, Part.c, hc0, F0, hav]; done))) ?_
    try simp [go_sem, seval, Glued.dd, Glued.c, Rule.c, Ovl.c, Part.c, hc0, F0, hav]
    repeat first | intro _ | refine ⟨obs, ?_⟩
    refine dcallQ_pure0 (concurrent_others x.a.keep.edges x.a.left.graph.edges.length (by omega)) ((by first | rfl | (simp [go_sem, ← List.map_take, ← List.map_drop, Glued.dd, Glued.c, Rule.c, Ovl.c, Part.c, hc0, F0, hav]; done))) ?_
    try simp [go_sem, seval, Glued.dd, Glued.c, Rule.c, Ovl.c, Part.c, hc0, F0, hav]
    repeat first | intro _ | refine ⟨obs, ?_⟩
    refine dcallQ_turn 2 (concurrent_side x.o.graph x.d x.a.left.graph av (othersL x.a.keep.nodes x.a.left.graph.nodes.length) (othersL x.a.keep.edges x.a.left.graph.edges.length) hsub hlp hlpe hmo hav (fun _ h => othersL_mem h) (fun _ h => othersL_mem h) (by omega) (by omega)) (fun d hd => by
     simp only [List.mem_cons, List.not_mem_nil, or_false] at hd
     rcases hd with rfl | rfl | rfl | rfl | rfl | rfl
     all_goals first | (left; simp [go_sem, Graph.d, Graph.c, Part.d, Part.c]; done) | (right; simp)) rfl rfl (ints_cl _) (fun d hd => by
     simp only [List.mem_flatten, List.mem_map] at hd
     obtain ⟨_, ⟨y, _, rfl⟩, hd⟩ := hd
     simp [cI, dI] at hd; subst hd; rfl) (by simp [go_sem, Glued.dd, Glued.c, Rule.c, Ovl.c, Part.c, hc0, F0, hav]) (by simp [ren, hav, Graph.d, Graph.c, Part.d, Part.c, dLI]) rfl (by first | trivial | (simp [go_sem]; done) | simp [go_sem, chk]) ?_
    try simp [go_sem, seval, Glued.dd, Glued.c, Rule.c, Ovl.c, Part.c, hc0, F0, hav]
    repeat first | intro _ | refine ⟨obs, ?_⟩
    exact hQ _ _ (by first | (left; (simp [go_sem, Glued.dd, Glued.c, Rule.c, Ovl.c, Part.c, hc0, F0, hav, halfG, ← ha]); done) | (right; (simp [go_sem, Glued.dd, Glued.c, Rule.c, Ovl.c, Part.c, hc0, F0, hav, halfG, ← ha]); done))
theorem glued_right (x : Glued) (hx : HOk x.o.graph x.f x.b.right.graph x.b.into x.b.keep.nodes x.o.right.nodes) : Pure Tryz.prog 66 [x.dd] (halfG x.o.graph x.f x.b.right.graph x.b.into x.b.keep.nodes x.o.right.nodes).d := by
  obtain ⟨hsub, hlp, hlpe, hmo, hkn, hkl, hki, hini⟩ := hx
  have hlm := graphF_le hmo
  have ho1 := othersL_len x.b.into.nodes x.b.right.graph.nodes.length
  have ho2 := othersL_len x.b.into.edges x.b.right.graph.edges.length
  have hc0 : cI 0 = [D.int .i64 0] := rfl
  refine Tz.pK ⟨fun t => t == 2 || t == 3 || t == 14 || t == 69, fun r => match r with | 8 => [(0, 14), (1, 14), (2, 14), (3, 14), (4, 14), (5, 14), (14, 15), (14, 16), (14, 17), (14, 18), (14, 19), (14, 20), (14, 21), (0, 22), (1, 22), (2, 22), (3, 22), (4, 22), (5, 22)] | _ => []⟩ Tryz.func66 rfl (fun Q hQ => ?_)
  try simp [go_sem, seval, Glued.dd, Glued.c, Rule.c, Ovl.c, Part.c, hc0]
  repeat first | intro _ | refine ⟨obs, ?_⟩
  obtain ⟨I0, hI0⟩ := mkI fun k e H => (∃ av : List Int, (e 1 = .adr x.c) ∧ (e 2 = .ptr 0 1 0 0) ∧ (e 3 = .ptr 1 1 0 0) ∧ (e 4 = .own 2 x.b.right.graph.nodes.length) ∧ (e 18 = dLI x.b.into.nodes) ∧ (e 19 = dI x.b.into.nodes.length) ∧ (e 20 = dI k) ∧ (H.get 0 = some ⟨29, 2, [[.nil, .nil]], false⟩) ∧ (0 < H.next) ∧ (H.get 1 = some ⟨29, 2, [[dLI x.b.right.graph.nodes, .list (x.b.right.graph.edges.map Edge.c)]], false⟩) ∧ (1 < H.next) ∧ (H.get 2 = some ⟨3, 1, av.map cI, false⟩) ∧ (2 < H.next) ∧ (k ≤ x.b.into.nodes.length) ∧ (av.length = x.b.right.graph.nodes.length) ∧ (av = atL x.b.right.graph.nodes.length x.b.into.nodes (valL x.f.nodes x.b.keep.nodes x.o.right.nodes) k))
  refine loopK I0 (fun k => x.b.into.nodes.length - k) (0) ((hI0 _ _ _).2 ⟨(List.replicate x.b.right.graph.nodes.length 0), ?_, ?_, ?_, ?_, ?_, ?_, ?_, ?_, ?_, ?_, ?_, ?_, ?_, (by first | assumption | omega | (simp [go_sem, Glued.dd, Glued.c, Rule.c, Ovl.c, Part.c, hc0]; done) | (simp_all; done)), (by (simp)), (by rfl)⟩) ?_
  iterate 13 (first | omega | (simp [go_sem, seval, Glued.dd, Glued.c, Rule.c, Ovl.c, Part.c, hc0] <;> omega))
  intro k e H hi0
  obtain ⟨av, q1_0, q2_0, q3_0, q4_0, q18_0, q19_0, q20_0, g0_0, n0_0, g1_0, n1_0, g2_0, n2_0, hi, hav, ha⟩ := (hI0 _ _ _).1 hi0
  have x0 := frs n0_0
  have x1 := frs n1_0
  have x2 := frs n2_0
  have F0 := And.intro q1_0 (And.intro q2_0 (And.intro q3_0 (And.intro q4_0 (And.intro q18_0 (And.intro q19_0 (And.intro q20_0 (And.intro g0_0 (And.intro g1_0 (And.intro g2_0 (And.intro x0 (And.intro x1 x2)))))))))))
  try simp [go_sem, seval, Glued.dd, Glued.c, Rule.c, Ovl.c, Part.c, hc0, F0, hav]
  refine condQ_mk (fun h4 => ?_) (fun h4 => ?_)
  · try simp [go_sem] at h4
    have hk1 : k < x.b.keep.nodes.length := by omega
    have hin := hini _ (lgm hk1)
    have hk2 : x.b.keep.nodes[k].toNat < x.o.right.nodes.length := by omega
    have hkk := hkn _ (lgm h4)
    have hk3 : x.b.into.nodes[k].toNat < av.length := by omega
    try simp [go_sem, seval, Glued.dd, Glued.c, Rule.c, Ovl.c, Part.c, hc0, F0, hav, h4, lge h4, lge hk1, lge hk2, lge hk3]
    repeat first | intro _ | refine ⟨obs, ?_⟩
    refine dcallQ_pure0 (index_int x.f.nodes _) ((by first | rfl | (simp [go_sem, ← List.map_take, ← List.map_drop, Glued.dd, Glued.c, Rule.c, Ovl.c, Part.c, hc0, F0, hav, h4, lge h4, lge hk1, lge hk2, lge hk3]; done))) ?_
    try simp [go_sem, seval, Glued.dd, Glued.c, Rule.c, Ovl.c, Part.c, hc0, F0, hav, h4, lge h4, lge hk1, lge hk2, lge hk3]
    repeat first | intro _ | refine ⟨obs, ?_⟩
    refine nextQ_mk (k + 1) (by omega) ((hI0 _ _ _).2 ⟨(av.set x.b.into.nodes[k].toNat (idx x.f.nodes x.o.right.nodes[x.b.keep.nodes[k].toNat])), ?_, ?_, ?_, ?_, ?_, ?_, ?_, ?_, ?_, ?_, ?_, (by (simp [go_sem, Glued.dd, Glued.c, Rule.c, Ovl.c, Part.c, hc0, F0, hav, h4, lge h4, lge hk1, lge hk2, lge hk3, List.map_set, cI])), ?_, (by first | assumption | omega | (simp [go_sem, Glued.dd, Glued.c, Rule.c, Ovl.c, Part.c, hc0, F0, hav, h4, lge h4, lge hk1, lge hk2, lge hk3]; done) | (simp_all <;> omega)), (by (simp [hav])), (by (simp only [atL, valL, ← ha, lge h4, lge hk1, lge hk2, Option.getD_some]))⟩) <;> first | omega | (simp [go_sem, seval, Glued.dd, Glued.c, Rule.c, Ovl.c, Part.c, hc0, F0, hav, h4, lge h4, lge hk1, lge hk2, lge hk3] <;> omega)
  · try simp [go_sem] at h4
    have hI : k = x.b.into.nodes.length := by omega
    subst hI
    try simp [go_sem, seval, Glued.dd, Glued.c, Rule.c, Ovl.c, Part.c, hc0, F0, hav]
    repeat first | intro _ | refine ⟨obs, ?_⟩
    refine dcallQ_pure0 (concurrent_others x.b.into.nodes x.b.right.graph.nodes.length (by omega)) ((by first | rfl | (simp [go_sem, ← List.map_take, ← List.map_drop, Glued.dd, Glued.c, Rule.c, Ovl.c, Part.c, hc0, F0, hav]; done))) ?_
    try simp [go_sem, seval, Glued.dd, Glued.c, Rule.c, Ovl.c, Part.c, hc0, F0, hav]
    repeat first | intro _ | refine ⟨obs, ?_⟩
    refine dcallQ_pure0 (concurrent_others x.b.into.edges x.b.right.graph.edges.length (by omega)) ((by first | rfl | (simp [go_sem, ← List.map_take, ← List.map_drop, Glued.dd, Glued.c, Rule.c, Ovl.c, Part.c, hc0, F0, hav]; done))) ?_
    try simp [go_sem, seval, Glued.dd, Glued.c, Rule.c, Ovl.c, Part.c, hc0, F0, hav]
    repeat first | intro _ | refine ⟨obs, ?_⟩
    refine dcallQ_turn 2 (concurrent_side x.o.graph x.f x.b.right.graph av (othersL x.b.into.nodes x.b.right.graph.nodes.length) (othersL x.b.into.edges x.b.right.graph.edges.length) hsub hlp hlpe hmo hav (fun _ h => othersL_mem h) (fun _ h => othersL_mem h) (by omega) (by omega)) (fun d hd => by
     simp only [List.mem_cons, List.not_mem_nil, or_false] at hd
     rcases hd with rfl | rfl | rfl | rfl | rfl | rfl
     all_goals first | (left; simp [go_sem, Graph.d, Graph.c, Part.d, Part.c]; done) | (right; simp)) rfl rfl (ints_cl _) (fun d hd => by
     simp only [List.mem_flatten, List.mem_map] at hd
     obtain ⟨_, ⟨y, _, rfl⟩, hd⟩ := hd
     simp [cI, dI] at hd; subst hd; rfl) (by simp [go_sem, Glued.dd, Glued.c, Rule.c, Ovl.c, Part.c, hc0, F0, hav]) (by simp [ren, hav, Graph.d, Graph.c, Part.d, Part.c, dLI]) rfl (by first | trivial | (simp [go_sem]; done) | simp [go_sem, chk]) ?_
    try simp [go_sem, seval, Glued.dd, Glued.c, Rule.c, Ovl.c, Part.c, hc0, F0, hav]
    repeat first | intro _ | refine ⟨obs, ?_⟩
    exact hQ _ _ (by first | (left; (simp [go_sem, Glued.dd, Glued.c, Rule.c, Ovl.c, Part.c, hc0, F0, hav, halfG, ← ha]); done) | (right; (simp [go_sem, Glued.dd, Glued.c, Rule.c, Ovl.c, Part.c, hc0, F0, hav, halfG, ← ha]); done))
end Go.Abs
end
section
set_option maxRecDepth 60000
set_option maxHeartbeats 1000000
open Go Go.Proofs
namespace Go.Abs
end Go.Abs
end
section
set_option maxRecDepth 60000
set_option maxHeartbeats 1000000
open Go Go.Proofs
namespace Go.Abs
theorem factor_nodes (a b : Graph) (ha : graphF a = 0) (hb : graphF b = 0) (f o : Nat) (hd : f ≠ o) :
    ∀ (k : Nat) (ns : List Int) (out : List Ovl) (G : AHeap) (Q : D → AHeap → Prop), ns.length + k = b.nodes.length → f < G.next → o < G.next → OvS 177 f o a b out G →
    (∀ H', OvS 177 f o a b (ovN a b k ns out) H' → (∀ j, j ≠ f → j ≠ o → j < G.next → H'.get j = G.get j) → G.next ≤ H'.next → Q (.tup []) H') → ACalls Tryz.prog 96 [.ptr f 1 0 0, dLI ns] G Q := by
  have hla := graphF_le ha
  have hlb := graphF_le hb
  intro k
  induction k using Nat.strongRecOn with
  | _ k ih =>
  intro ns out G Q hk hfN hoN hF hQ
  obtain ⟨gf, go, hle⟩ := hF
  have hds := hd.symm
  have ff := frs hfN
  have fo := frs hoN
  refine (acalls_of_body (cfg := ⟨fun _ => false, fun _ => []⟩) Tz.mixed Tryz.func96 rfl rfl (nlb rfl) (by kernel_rfl) ?_)
  try simp [go_sem, seval, gf, go, hd, hds, ff, fo, Ovl.d, Ovl.c]
  repeat first | intro _ | refine ⟨obs, ?_⟩
  refine condQ_mk (fun h0 => ?_) (fun h0 => ?_)
  · try simp [go_sem] at h0
    have hfull : 2000 < out.length := by omega
    try simp [go_sem, seval, gf, go, hd, hds, ff, fo, Ovl.d, Ovl.c]
    exact hQ _ (by rw [ovN_full _ _ _ _ hfull]; exact ⟨gf, go, hle⟩) (by intro j _ _ _; rfl) (Nat.le_refl _)
  · try simp [go_sem] at h0
    have hnf : ¬ 2000 < out.length := by omega
    try simp [go_sem, seval, gf, go, hd, hds, ff, fo, Ovl.d, Ovl.c]
    repeat first | intro _ | refine ⟨obs, ?_⟩
    refine condQ_mk (fun h1 => ?_) (fun h1 => ?_)
    ·try simp [go_sem] at h1
     have hk0 : k = 0 := by omega
     subst hk0
     try simp [go_sem, seval, gf, go, hd, hds, ff, fo, Ovl.d, Ovl.c]
     refine callQ_nz (args' := [.ptr f 1 0 0, dLI ns, dLI []]) (by simp [go_sem, gf, go, hd, hds, ff, fo, Ovl.d, Ovl.c, dLI, nz1]) ?_
     unfold callQ
     refine factor_edges a b ha hb ns (by omega) f o hd b.edges.length [] out _ _ (by simp) hfN hoN ⟨gf, go, hle⟩ (fun H3 hF3 hf3 hn3 => ?_)
     try simp [go_sem, seval, gf, go, hd, hds, ff, fo, Ovl.d, Ovl.c]
     exact hQ _ (by simp only [ovN]; rw [if_neg hnf]; exact hF3) hf3 hn3
    ·try simp [go_sem] at h1
     obtain ⟨k', rfl⟩ : ∃ k', k = k' + 1 := ⟨k - 1, by omega⟩
     have hel : ns.length < b.nodes.length := by omega
     try simp [go_sem, seval, gf, go, hd, hds, ff, fo, Ovl.d, Ovl.c, lge hel]
     repeat first | intro _ | refine ⟨obs, ?_⟩
     refine callQ_own0 (clone_int ns (by omega)) ((by first | rfl | (simp [go_sem, ← List.map_take, ← List.map_drop, gf, go, hd, hds, ff, fo, Ovl.d, Ovl.c, lge hel]; done))) ?_
     try simp [go_sem, seval, gf, go, hd, hds, ff, fo, Ovl.d, Ovl.c, lge hel]
     repeat first | intro _ | refine ⟨obs, ?_⟩
     refine callQ_frz (args' := [.ptr f 1 0 0, dLI (ns ++ [-1])]) (by simp [go_sem, gf, go, hd, hds, ff, fo, Ovl.d, Ovl.c, lge hel, dLI]) rfl ?_
     unfold callQ
     refine ih k' (by omega) (ns ++ [-1]) out _ _ (by simp; omega) (by simp [go_sem]; omega) (by simp [go_sem]; omega) ⟨by simp [go_sem, gf, go, hd, hds, ff, fo, Ovl.d, Ovl.c, lge hel], by simp [go_sem, gf, go, hd, hds, ff, fo, Ovl.d, Ovl.c, lge hel], hle⟩ (fun H2 hF2 hf2 hn2 => ?_)
     obtain ⟨gf2, go2, hle2⟩ := hF2
     simp [go_sem] at hn2
     have hfr2 : ∀ j, j ≠ f → j ≠ o → j < G.next → H2.get j = G.get j := fun j h1 h2 h3 => by
      have e1 := frs h3
      rw [hf2 j h1 h2 (by simp [go_sem]; omega)]
      simp [go_sem, h1, h2, e1]
     obtain ⟨o1, ho1⟩ : ∃ x, x = ovN a b k' (ns ++ [-1]) out := ⟨_, rfl⟩
     rw [← ho1] at gf2 go2 hle2
     try simp [go_sem, seval, gf, go, hd, hds, ff, fo, Ovl.d, Ovl.c, lge hel, gf2, go2]
     repeat first | intro _ | refine ⟨obs, ?_⟩
     obtain ⟨I0, hI0⟩ := mkI fun j e H => (∃ ou : List Ovl, (e 0 = .ptr f 1 0 0) ∧ (e 1 = dLI ns) ∧ (e 34 = dLI a.nodes) ∧ (e 35 = dI a.nodes.length) ∧ (e 36 = dI j) ∧ (H.get f = some ⟨177, 5, [[dLI a.nodes, .list (a.edges.map Edge.c), dLI b.nodes, .list (b.edges.map Edge.c), .own o ou.length]], false⟩) ∧ (f < H.next) ∧ (H.get o = some ⟨45, 6, ou.map Ovl.c, false⟩) ∧ (o < H.next) ∧ (j ≤ a.nodes.length) ∧ (ou.length ≤ 2001) ∧ (ou = (List.range j).foldl (fun out j => if ndB a b ns j = true then ovN a b k' (ns ++ [(j : Int)]) out else out) o1) ∧ (∀ q, q ≠ f → q ≠ o → q < G.next → H.get q = G.get q) ∧ (G.next ≤ H.next))
     refine loopK I0 (fun j => a.nodes.length - j) (0) ((hI0 _ _ _).2 ⟨(o1), ?_, ?_, ?_, ?_, ?_, ?_, ?_, ?_, ?_, (by first | assumption | omega | (simp [go_sem, gf, go, hd, hds, ff, fo, Ovl.d, Ovl.c, lge hel, gf2, go2]; done) | (simp_all; done)), (by (exact hle2)), (by rfl), (by (exact hfr2)), (by omega)⟩) ?_
     iterate 9 (first | omega | (simp [go_sem, seval, gf, go, hd, hds, ff, fo, Ovl.d, Ovl.c, lge hel, gf2, go2] <;> omega))
     intro j e H hi0
     obtain ⟨ou, q0_0, q1_0, q34_0, q35_0, q36_0, gf_0, nf_0, go_0, no_0, hj, hou, hst, hfr, hnx⟩ := (hI0 _ _ _).1 hi0
     have xf := frs nf_0
     have xo := frs no_0
     have F0 := And.intro q0_0 (And.intro q1_0 (And.intro q34_0 (And.intro q35_0 (And.intro q36_0 (And.intro gf_0 (And.intro go_0 (And.intro xf xo)))))))
     have di1 := nep (show o ≠ f by omega)
     try simp [go_sem, seval, gf, go, hd, hds, ff, fo, Ovl.d, Ovl.c, lge hel, gf2, go2, F0, di1]
     refine condQ_mk (fun h5 => ?_) (fun h5 => ?_)
     ·try simp [go_sem] at h5
      have hEj : ndB a b ns j = (decide (a.nodes[j] = b.nodes[ns.length]) && !mem ns j) := by unfold ndB; rw [lge h5, lge hel]; rfl
      try simp [go_sem, seval, gf, go, hd, hds, ff, fo, Ovl.d, Ovl.c, lge hel, gf2, go2, F0, di1, h5, lge h5]
      repeat first | intro _ | refine ⟨obs, ?_⟩
      refine gcallQ_pure0 (fun hg => contains_int ns j) (fun hg => (by first | rfl | (simp [go_sem, ← List.map_take, ← List.map_drop, gf, go, hd, hds, ff, fo, Ovl.d, Ovl.c, lge hel, gf2, go2, F0, di1, h5, lge h5]; done))) ?_
      try simp [go_sem, seval, gf, go, hd, hds, ff, fo, Ovl.d, Ovl.c, lge hel, gf2, go2, F0, di1, h5, lge h5]
      repeat first | intro _ | refine ⟨obs, ?_⟩
      refine condQ_mk (fun h7 => ?_) (fun h7 => ?_)
      ·try simp [go_sem] at h7
       have hE : ndB a b ns j = true := by rw [hEj]; simpa using h7
       obtain ⟨ou2, hou2⟩ : ∃ x, x = ovN a b k' (ns ++ [(j : Int)]) ou := ⟨_, rfl⟩
       try simp [go_sem, seval, gf, go, hd, hds, ff, fo, Ovl.d, Ovl.c, lge hel, gf2, go2, F0, di1, h5, lge h5]
       repeat first | intro _ | refine ⟨obs, ?_⟩
       refine callQ_own0 (clone_int ns (by omega)) ((by first | rfl | (simp [go_sem, ← List.map_take, ← List.map_drop, gf, go, hd, hds, ff, fo, Ovl.d, Ovl.c, lge hel, gf2, go2, F0, di1, h5, lge h5]; done))) ?_
       try simp [go_sem, seval, gf, go, hd, hds, ff, fo, Ovl.d, Ovl.c, lge hel, gf2, go2, F0, di1, h5, lge h5]
       repeat first | intro _ | refine ⟨obs, ?_⟩
       refine callQ_frz (args' := [.ptr f 1 0 0, dLI (ns ++ [(j : Int)])]) (by simp [go_sem, gf, go, hd, hds, ff, fo, Ovl.d, Ovl.c, lge hel, gf2, go2, F0, di1, h5, lge h5, dLI]) rfl ?_
       unfold callQ
       refine ih k' (by omega) (ns ++ [(j : Int)]) ou _ _ (by simp; omega) (by simp [go_sem]; omega) (by simp [go_sem]; omega) ⟨by simp [go_sem, gf, go, hd, hds, ff, fo, Ovl.d, Ovl.c, lge hel, gf2, go2, F0, di1, h5, lge h5], by simp [go_sem, gf, go, hd, hds, ff, fo, Ovl.d, Ovl.c, lge hel, gf2, go2, F0, di1, h5, lge h5], hou⟩ (fun H3 hF3 hf3 hn3 => ?_)
       rw [← hou2] at hF3
       obtain ⟨gf3, go3, hle3⟩ := hF3
       simp [go_sem] at hn3
       have hfr3 : ∀ j, j ≠ f → j ≠ o → j < G.next → H3.get j = G.get j := fun j h1 h2 h3 => by
        have e1 := frs (show j < H.next by omega)
        rw [hf3 j h1 h2 (by simp [go_sem]; omega)]
        simp [go_sem, h1, h2, e1]
        exact hfr j h1 h2 h3
       have fr2 := And.intro (frs (show f < H3.next by omega)) (frs (show o < H3.next by omega))
       try simp [go_sem, seval, gf, go, hd, hds, ff, fo, Ovl.d, Ovl.c, lge hel, gf2, go2, F0, di1, h5, lge h5, gf3, go3, hou2, fr2]
       repeat first | intro _ | refine ⟨obs, ?_⟩
       refine nextQ_mk (j + 1) (by omega) ((hI0 _ _ _).2 ⟨(ou2), ?_, ?_, ?_, ?_, ?_, ?_, ?_, ?_, ?_, (by first | assumption | omega | (simp [go_sem, gf, go, hd, hds, ff, fo, Ovl.d, Ovl.c, lge hel, gf2, go2, F0, di1, h5, lge h5, gf3, go3, hou2, fr2, h0, h1, h7]; done) | (simp_all <;> omega)), (by (rw [hou2]; first | exact hou | exact ovN_le _ _ _ _ _ hou)), (by (rw [range_fold_succ, ← hst, hou2]; first | rw [if_pos hE] | rw [if_neg (by rw [hE]; simp)])), (by (first | exact hfr3 | exact hfr | (intro q h1 h2 h3; simp [go_sem, h1, h2, frs (show q < H.next by omega)]; exact hfr q h1 h2 h3))), (by (first | omega | (simp [go_sem]; omega)))⟩) <;> first | omega | (simp [go_sem, seval, gf, go, hd, hds, ff, fo, Ovl.d, Ovl.c, lge hel, gf2, go2, F0, di1, h5, lge h5, gf3, go3, hou2, fr2] <;> omega)
      ·try simp [go_sem] at h7
       have hE : ndB a b ns j = false := by
        rw [hEj, Bool.eq_false_iff]; intro hb'; simp at hb' h7
        have := h7 hb'.1; rw [hb'.2] at this; cases this
       obtain ⟨ou2, hou2⟩ : ∃ x, x = ou := ⟨_, rfl⟩
       try simp [go_sem, seval, gf, go, hd, hds, ff, fo, Ovl.d, Ovl.c, lge hel, gf2, go2, F0, di1, h5, lge h5, hou2]
       repeat first | intro _ | refine ⟨obs, ?_⟩
       refine nextQ_mk (j + 1) (by omega) ((hI0 _ _ _).2 ⟨(ou2), ?_, ?_, ?_, ?_, ?_, ?_, ?_, ?_, ?_, (by first | assumption | omega | (simp [go_sem, gf, go, hd, hds, ff, fo, Ovl.d, Ovl.c, lge hel, gf2, go2, F0, di1, h5, lge h5, hou2, h0, h1, h7]; done) | (simp_all <;> omega)), (by (rw [hou2]; first | exact hou | exact ovN_le _ _ _ _ _ hou)), (by (rw [range_fold_succ, ← hst, hou2]; first | rw [if_pos hE] | rw [if_neg (by rw [hE]; simp)])), (by (first | exact hfr3 | exact hfr | (intro q h1 h2 h3; simp [go_sem, h1, h2, frs (show q < H.next by omega)]; exact hfr q h1 h2 h3))), (by (first | omega | (simp [go_sem]; omega)))⟩) <;> first | omega | (simp [go_sem, seval, gf, go, hd, hds, ff, fo, Ovl.d, Ovl.c, lge hel, gf2, go2, F0, di1, h5, lge h5, hou2] <;> omega)
     ·try simp [go_sem] at h5
      have hJ : j = a.nodes.length := by omega
      have hOV : ovN a b (k' + 1) ns out = ou := by simp only [ovN]; rw [if_neg hnf, ← ho1, hst, hJ]
      try simp [go_sem, seval, gf, go, hd, hds, ff, fo, Ovl.d, Ovl.c, lge hel, gf2, go2, F0, di1]
      exact hQ _ (by rw [hOV]; exact ⟨by assumption, by assumption, hou⟩) hfr hnx
theorem nzAss_id {l : List (List D)} (h : ∀ c ∈ l, nzAs c = c) : nzAss l = l := by
  rw [nzAss_map]; conv => rhs; rw [← List.map_id l]
  exact List.map_congr_left h
theorem nz_ints (l : List Int) : nzAss (l.map cI) = l.map cI := nzAss_id fun c hc => by
  rw [List.mem_map] at hc; obtain ⟨x, _, rfl⟩ := hc; rfl
theorem nz_edges (l : List Edge) : nzAss (l.map Edge.c) = l.map Edge.c := nzAss_id fun c hc => by
  rw [List.mem_map] at hc; obtain ⟨x, _, rfl⟩ := hc; rfl
theorem nz_ovls (l : List Ovl) : nzAss (l.map Ovl.c) = l.map Ovl.c := nzAss_id fun c hc => by
  rw [List.mem_map] at hc; obtain ⟨x, _, rfl⟩ := hc
  simp [Ovl.c, nzAs, nzA, dLI, nz_ints, nz_edges]
def ovErr (a b : Graph) : Int :=
  if graphF a ≠ 0 then graphF a else if graphF b ≠ 0 then graphF b
  else if 40 < a.nodes.length + b.nodes.length ∨ 80 < a.edges.length + b.edges.length then 3
  else if 2000 < (ovN a b b.nodes.length [] []).length then 3 else 0
def ovL (a b : Graph) : List Ovl := if ovErr a b = 0 then ovN a b b.nodes.length [] [] else []
end Go.Abs
end
section
set_option maxRecDepth 60000
set_option maxHeartbeats 1000000
open Go Go.Proofs
namespace Go.Abs
theorem factor_Overlaps (a b : Graph) (Q : D → AHeap → Prop) (hq1 : ∀ H', ovErr a b ≠ 0 → Q (.tup [.nil, dI (ovErr a b)]) H')
    (hq2 : ∀ o n H', ovErr a b = 0 → n = (ovL a b).length → H'.get o = some ⟨45, 6, (ovL a b).map Ovl.c, false⟩ → o < H'.next → Q (.tup [.own o n, dI 0]) H') : ACalls Tryz.prog 43 [a.d, b.d] .emp Q := by
  obtain ⟨gs, hgs⟩ : ∃ gs, gs = [a, b] := ⟨_, rfl⟩
  refine (acalls_of_body (cfg := ⟨fun t => t == 7 || t == 45, fun _ => []⟩) Tz.mixed Tryz.func43 rfl rfl (nlb rfl) (by kernel_rfl) ?_)
  try simp [go_sem, seval]
  repeat (first | intro _ | (refine ⟨obl, ?_⟩))
  obtain ⟨I0, hI0⟩ := mkI fun i e H => (∃ l : List (List D), (e 2 = .adr a.c) ∧ (e 3 = .adr b.c) ∧ (e 12 = .list l) ∧ (e 13 = dI 2) ∧ (e 14 = dI i) ∧ (i ≤ 2) ∧ (l = gs.map Graph.c) ∧ (∀ j x, j < i → gs[j]? = some x → graphF x = 0))
  refine loopK I0 (fun i => 2 - i) (0) ((hI0 _ _ _).2 ⟨([a.c, b.c]), ?_, ?_, ?_, ?_, ?_, (by first | assumption | omega | (simp [go_sem]; done) | (simp_all; done)), (by (rw [hgs]; rfl)), (by (intro j x hj; omega))⟩) ?_
  iterate 5 (first | omega | (simp [go_sem, seval] <;> omega))
  intro i e H hi0
  obtain ⟨l, q2_0, q3_0, q12_0, q13_0, q14_0, hi, hl, hz⟩ := (hI0 _ _ _).1 hi0
  have F0 := And.intro q2_0 (And.intro q3_0 (And.intro q12_0 (And.intro q13_0 q14_0)))
  try simp [go_sem, seval, F0]
  refine condQ_mk (fun h2 => ?_) (fun h2 => ?_)
  · try simp [go_sem] at h2
    have hgl : i < gs.length := by rw [hgs]; simp; omega
    try simp [go_sem, seval, F0, h2, hl, lge hgl, Graph.c]
    repeat (first | intro _ | (refine ⟨obl, ?_⟩))
    refine callQ_pure0 (graph_Valid gs[i]) ((by first | rfl | (simp [go_sem, ← List.map_take, ← List.map_drop, F0, h2, hl, lge hgl, Graph.c]; done))) ?_
    try simp [go_sem, seval, F0, h2, hl, lge hgl, Graph.c]
    repeat (first | intro _ | (refine ⟨obl, ?_⟩))
    refine condQ_mk (fun h5 => ?_) (fun h5 => ?_)
    ·try simp [go_sem] at h5
     have hE : ovErr a b = graphF gs[i] := by
      subst hgs
      rcases (show i = 0 ∨ i = 1 by omega) with rfl | rfl
      ·exact if_pos (by simpa using h5)
      ·unfold ovErr; rw [if_neg (by have := hz 0 a (by omega) rfl; omega), if_pos (by simpa using h5)]; rfl
     try simp [go_sem, seval, F0, h2, hl, lge hgl, Graph.c]
     (have := hq1; rw [hE] at this; exact this _ (by simpa using h5))
    ·try simp [go_sem] at h5
     try simp [go_sem, seval, F0, h2, hl, lge hgl, Graph.c]
     repeat (first | intro _ | (refine ⟨obl, ?_⟩))
     refine nextQ_mk (i + 1) (by omega) ((hI0 _ _ _).2 ⟨(l), ?_, ?_, ?_, ?_, ?_, (by first | assumption | omega | (simp [go_sem, F0, h2, hl, lge hgl, Graph.c, h5]; done) | (simp_all <;> omega)), (by (exact hl)), (by (intro j x hj hx; rcases Nat.lt_or_ge j i with h | h; exact hz j x h hx; obtain rfl : j = i := (by omega); rw [lge hgl] at hx; cases hx; exact h5))⟩) <;> first | omega | (simp [go_sem, seval, F0, h2, hl, lge hgl, Graph.c] <;> omega)
  · try simp [go_sem] at h2
    have hA : graphF a = 0 := hz 0 a (by omega) (by rw [hgs]; rfl)
    have hB : graphF b = 0 := hz 1 b (by omega) (by rw [hgs]; rfl)
    have hla := graphF_le hA
    have hlb := graphF_le hB
    have hEA : ¬ graphF a ≠ 0 := by rw [hA]; simp
    have hEB : ¬ graphF b ≠ 0 := by rw [hB]; simp
    try simp [go_sem, seval, F0]
    repeat (first | intro _ | (refine ⟨obl, ?_⟩))
    refine condQ_mk (fun h8 => ?_) (fun h8 => ?_)
    ·try simp [go_sem] at h8
     have hE : ovErr a b = 3 := by unfold ovErr; rw [if_neg hEA, if_neg hEB, if_pos (by omega)]
     try simp [go_sem, seval, F0]
     (have := hq1; rw [hE] at this; exact this _ (by simp))
    ·try simp [go_sem] at h8
     have hE8 : ¬ (40 < a.nodes.length + b.nodes.length ∨ 80 < a.edges.length + b.edges.length) := by omega
     try simp [go_sem, seval, F0]
     refine callQ_ghosts (.step (.refl _) H.next 0 4 45 6 _ _ (by simp [go_sem]; rfl) rfl rfl rfl) ?_
     simp [go_sem]
     refine callQ_nz (args' := [.ptr H.next 1 0 0, dLI []]) (by simp [go_sem, dLI, nz1]) ?_
     unfold callQ
     refine factor_nodes a b hA hB H.next (H.next + 1) (by omega) b.nodes.length [] [] _ _ (by simp) (by simp [go_sem]) (by simp [go_sem]) ⟨by simp [go_sem], by simp [go_sem], by simp⟩ (fun H3 hF3 hf3 hn3 => ?_)
     obtain ⟨gf3, go3, hle3⟩ := hF3
     have hn4 : H.next + 1 < H3.next := by have h := hn3; simp [go_sem] at h; omega
     obtain ⟨out, hout⟩ : ∃ x, x = ovN a b b.nodes.length [] [] := ⟨_, rfl⟩
     rw [← hout] at gf3 go3 hle3
     try simp [go_sem, seval, F0, gf3, go3]
     repeat (first | intro _ | (refine ⟨obl, ?_⟩))
     refine condQ_mk (fun h12 => ?_) (fun h12 => ?_)
     ·try simp [go_sem] at h12
      have hE : ovErr a b = 3 := by unfold ovErr; rw [if_neg hEA, if_neg hEB, if_neg hE8, ← hout, if_pos (by omega)]
      try simp [go_sem, seval, F0, gf3, go3]
      (have := hq1; rw [hE] at this; exact this _ (by simp))
     ·try simp [go_sem] at h12
      have hE : ovErr a b = 0 := by unfold ovErr; rw [if_neg hEA, if_neg hEB, if_neg hE8, ← hout, if_neg (by omega)]
      have hL : ovL a b = out := by unfold ovL; rw [if_pos hE, hout]
      try simp [go_sem, seval, F0, gf3, go3]
      exact hq2 _ _ _ hE (by rw [hL]) (by rw [hL]; assumption) (by omega)
end Go.Abs
end
section
set_option maxRecDepth 60000
set_option maxHeartbeats 1000000
open Go Go.Proofs
namespace Go.Abs
def rule0 : Rule := ⟨⟨#[]⟩, ⟨⟨[], []⟩, [], 0, []⟩, ⟨⟨[], []⟩, [], 0, []⟩, ⟨[], []⟩, ⟨[], []⟩, false, .mk 0 [] ⟨[], []⟩ ⟨⟨[], []⟩, [], 0, []⟩⟩
def ovl0 : Ovl := ⟨⟨[], []⟩, ⟨[], []⟩, ⟨[], []⟩⟩
def glued0 : Glued := ⟨rule0, rule0, ovl0, ⟨[], []⟩, ⟨[], []⟩⟩
def concName : ByteArray := ⟨#[99, 111, 110, 99, 117, 114, 114, 101, 110, 116]⟩
def trueC : Cond := .mk 1 [] ⟨[], []⟩ ⟨⟨[], []⟩, [], 0, []⟩
def concOf (l r : Graph) (d f : Part) : Rule := ⟨concName, ⟨l, [], 0, []⟩, ⟨r, [], 0, []⟩, ⟨comA d.nodes f.nodes d.nodes.length, comA d.edges f.edges d.edges.length⟩, ⟨comB d.nodes f.nodes d.nodes.length, comB d.edges f.edges d.edges.length⟩, true, trueC⟩
def bigB (g : Graph) : Bool := decide (40 < g.nodes.length) || decide (80 < g.edges.length)
def Glued.l (x : Glued) : Graph := halfG x.o.graph x.d x.a.left.graph x.a.keep x.a.into.nodes x.o.left.nodes
def Glued.r (x : Glued) : Graph := halfG x.o.graph x.f x.b.right.graph x.b.into x.b.keep.nodes x.o.right.nodes
def ruleErr (x : Glued) : Int := if (bigB x.l || bigB x.r) = true then 3 else 0
def ruleOf (x : Glued) : Rule := if ruleErr x = 0 then concOf x.l x.r x.d x.f else rule0
theorem glued_rule (x : Glued) (h1 : HOk x.o.graph x.d x.a.left.graph x.a.keep x.a.into.nodes x.o.left.nodes) (h2 : HOk x.o.graph x.f x.b.right.graph x.b.into x.b.keep.nodes x.o.right.nodes) : Pure Tryz.prog 28 [x.dd] (.tup [(ruleOf x).d, dI (ruleErr x)]) := by
  have hL := glued_left x h1
  have hR := glued_right x h2
  have hn := h1.lp
  have he := h1.lpe
  obtain ⟨l, hl⟩ : ∃ l, x.l = l := ⟨_, rfl⟩
  obtain ⟨r, hr⟩ : ∃ r, x.r = r := ⟨_, rfl⟩
  rw [show halfG x.o.graph x.d x.a.left.graph x.a.keep x.a.into.nodes x.o.left.nodes = l from hl] at hL
  rw [show halfG x.o.graph x.f x.b.right.graph x.b.into x.b.keep.nodes x.o.right.nodes = r from hr] at hR
  refine pureKA (by first | rfl | (simp [go_sem]; done)) (fun Q hQ => (acalls_of_body (cfg := ⟨fun t => t == 2 || t == 4 || t == 5 || t == 6, fun r => match r with | 1 => [(0, 4), (1, 4), (2, 4), (3, 4), (0, 5), (1, 5), (2, 5), (3, 5), (4, 5)] | _ => []⟩) Tz.mixed Tryz.func28 rfl rfl (nlb rfl) (by kernel_rfl) ?_))
  try simp -implicitDefEqProofs [go_sem, seval, Glued.dd, Glued.c, Rule.c, Ovl.c, Part.c]
  refine dcallQ_pure0 (hL) ((by first | rfl | (simp [go_sem, ← List.map_take, ← List.map_drop, Glued.dd, Glued.c, Rule.c, Ovl.c, Part.c]; done))) ?_
  try simp -implicitDefEqProofs [go_sem, seval, Glued.dd, Glued.c, Rule.c, Ovl.c, Part.c]
  refine dcallQ_pure0 (hR) ((by first | rfl | (simp [go_sem, ← List.map_take, ← List.map_drop, Glued.dd, Glued.c, Rule.c, Ovl.c, Part.c]; done))) ?_
  try simp -implicitDefEqProofs [go_sem, seval, Glued.dd, Glued.c, Rule.c, Ovl.c, Part.c]
  repeat first | intro _ | refine ⟨obs, ?_⟩
  refine condQ_mk (fun h2 => ?_) (fun h2 => ?_)
  · try simp [go_sem] at h2
    have hE : ruleErr x = 3 := by unfold ruleErr; rw [hl, hr, if_pos (by simp [bigB]; omega)]
    have hZ : ruleOf x = rule0 := by unfold ruleOf; rw [if_neg (by rw [hE]; simp)]
    try simp -implicitDefEqProofs [go_sem, seval, Glued.dd, Glued.c, Rule.c, Ovl.c, Part.c]
    exact hQ _ _ (by simp [go_sem, Glued.dd, Glued.c, Rule.c, Ovl.c, Part.c, hE, hZ, rule0, Rule.d, nz_ints, nz_edges, Cond.kind, Cond.kids, Cond.map, Cond.pattern])
  · try simp [go_sem] at h2
    have hE : ruleErr x = 0 := by unfold ruleErr; rw [hl, hr, if_neg (by simp [bigB]; omega)]
    have hZ : ruleOf x = concOf l r x.d x.f := by unfold ruleOf; rw [if_pos hE, hl, hr]
    try simp -implicitDefEqProofs [go_sem, seval, Glued.dd, Glued.c, Rule.c, Ovl.c, Part.c]
    refine callQ_pure0 (concurrent_common x.d.nodes x.f.nodes hn) ((by first | rfl | (simp [go_sem, ← List.map_take, ← List.map_drop, Glued.dd, Glued.c, Rule.c, Ovl.c, Part.c]; done))) ?_
    try simp -implicitDefEqProofs [go_sem, seval, Glued.dd, Glued.c, Rule.c, Ovl.c, Part.c]
    refine callQ_pure0 (concurrent_common x.d.edges x.f.edges he) ((by first | rfl | (simp [go_sem, ← List.map_take, ← List.map_drop, Glued.dd, Glued.c, Rule.c, Ovl.c, Part.c]; done))) ?_
    try simp -implicitDefEqProofs [go_sem, seval, Glued.dd, Glued.c, Rule.c, Ovl.c, Part.c]
    exact hQ _ _ (by simp [go_sem, Glued.dd, Glued.c, Rule.c, Ovl.c, Part.c, hE, hZ, concOf, concName, trueC, Rule.d, nz_ints, nz_edges, Cond.kind, Cond.kids, Cond.map, Cond.pattern])
end Go.Abs
end
