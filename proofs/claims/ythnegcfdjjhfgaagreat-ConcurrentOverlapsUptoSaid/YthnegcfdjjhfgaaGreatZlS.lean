/- Layer 32: the concurrent rule over an overlap (reference). · -/
import Derived.Test.YthnegcfdjjhfgaaGreatZlA
import Derived.Test.YthnegcfdjjhfgaaGreatZlR
set_option linter.unusedVariables false
set_option linter.unusedSimpArgs false
section
set_option maxRecDepth 60000
set_option maxHeartbeats 2000000
open Go Go.Proofs
namespace Go.Abs
theorem othersL_succ (l : List Int) (n : Nat) : othersL l (n + 1) = othersL l n ++ (if (!mem l n) = true then [(n : Int)] else []) := range_filter_succ _ n
def plcI (base : Nat) (p kept im : List Int) (j : Nat) : Int := if mem kept j = true then idx p (im[(idx kept j).toNat]?.getD 0) else ((base + (othersL kept j).length : Nat) : Int)
def plaL (base : Nat) (p kept im : List Int) (n : Nat) : List Int := (List.range n).map (plcI base p kept im)
theorem plaL_succ (base : Nat) (p kept im : List Int) (n : Nat) : plaL base p kept im (n + 1) = plaL base p kept im n ++ [plcI base p kept im n] := by simp [plaL, List.range_succ]
theorem plaL_len (base : Nat) (p kept im : List Int) (n : Nat) : (plaL base p kept im n).length = n := by simp [plaL]
def grownG (g : Graph) (p : Part) (more : Graph) (kept : Part) (im : List Int) : Graph :=
  ⟨(extractG g p).nodes ++ (othersL kept.nodes more.nodes.length).map (moreN more), (extractG g p).edges ++ (othersL kept.edges more.edges.length).map fun n => gluX more (plaL (extractG g p).nodes.length p.nodes kept.nodes im more.nodes.length) n.toNat⟩
theorem idx_lt {l : List Int} {v : Int} (h : mem l v = true) : 0 ≤ idx l v ∧ (idx l v).toNat < l.length ∧ l[(idx l v).toNat]? = some v := by
  obtain ⟨i, hi, he⟩ := List.getElem_of_mem ((mem_iff l v).1 h)
  have h0 : 0 ≤ idx l v := by simpa [mem] using h
  unfold idx at h0 ⊢
  cases hf : l.findIdx? (fun x => decide (x = v)) with
  | none => rw [hf] at h0; simp at h0
  | some k =>
    rw [List.findIdx?_eq_some_iff_getElem] at hf
    obtain ⟨hk, hv, _⟩ := hf
    simp only [decide_eq_true_eq] at hv
    exact ⟨by simp, by simpa using hk, by simp [hk, hv]⟩
theorem ref32_grown (g : Graph) (p : Part) (more : Graph) (kept : Part) (im : List Int) (h0 : subF g p = 0) (hl : p.nodes.length ≤ 1000000) (hle : p.edges.length ≤ 1000000) (hm : graphF more = 0) (hk : kept.nodes.length ≤ im.length) (hi : im.length ≤ 1000000) :
    Pure Tryz.prog 146 [g.d, p.d, more.d, kept.d, dLI im] (grownG g p more kept im).d := by
  have hlm := graphF_le hm
  have hib : ∀ x ∈ more.edges, (0 ≤ x.from_ ∧ x.from_ < more.nodes.length) ∧ (0 ≤ x.to_ ∧ x.to_ < more.nodes.length) := fun x hx => ((graphF_in hm).2 x hx).2
  obtain ⟨E, hE⟩ : ∃ E, extractG g p = E := ⟨_, rfl⟩
  have hX := ref07_ExtractO g p h0 hl hle
  have hEl : E.nodes.length ≤ 1000000 ∧ E.edges.length ≤ 1000000 := by rw [← hE]; unfold extractG; rw [if_pos h0]; simp; exact ⟨hl, hle⟩
  obtain ⟨S, hS⟩ : ∃ S, grownG g p more kept im = S := ⟨_, rfl⟩
  rw [hE] at hX
  rw [hS]
  refine Tz.pK ⟨fun t => t == 10 || t == 11 || t == 12 || t == 14 || t == 18, fun r => match r with | 9 => [(0, 7), (1, 7)] | 16 => [(0, 15), (1, 15)] | _ => []⟩ Tryz.func146 rfl (fun Q hQ => ?_)
  try simp [go_sem, seval]
  refine callQ_own2T (hX) (by first | rfl | (simp [go_sem]; done)) (by constructor <;> (simp [go_sem, al_push, al_put, al_mk, al_emp] <;> omega)) ?_
  try simp [go_sem, seval]
  obtain ⟨I0, hI0⟩ := mkI fun i e H => (∃ xs : List Int, ∃ gs : List Int, (e 4 = dLI im) ∧ (e 6 = .adr p.c) ∧ (e 7 = .adr more.c) ∧ (e 8 = .adr kept.c) ∧ (e 10 = .ptr 0 1 0 0) ∧ (e 11 = .ptr 3 1 0 0) ∧ (e 14 = .own 5 xs.length) ∧ (e 15 = dI i) ∧ (H.get 0 = some ⟨29, 2, [[.nil, .nil]], false⟩) ∧ (0 < H.next) ∧ (H.get 1 = some ⟨3, 1, gs.map cI, false⟩) ∧ (1 < H.next) ∧ (H.get 2 = some ⟨124, 3, E.edges.map Edge.c, false⟩) ∧ (2 < H.next) ∧ (H.get 3 = some ⟨29, 2, [[.own 1 gs.length, .own 2 E.edges.length]], false⟩) ∧ (3 < H.next) ∧ (H.get 5 = some ⟨3, 1, xs.map cI, false⟩) ∧ (5 < H.next) ∧ (i ≤ more.nodes.length) ∧ (xs = plaL E.nodes.length p.nodes kept.nodes im i) ∧ (gs = E.nodes ++ (othersL kept.nodes i).map (moreN more)))
  refine loopK I0 (fun i => more.nodes.length - i) (0) ((hI0 _ _ _).2 ⟨([]), (E.nodes), ?_, ?_, ?_, ?_, ?_, ?_, ?_, ?_, ?_, ?_, ?_, ?_, ?_, ?_, ?_, ?_, ?_, ?_, (by first | assumption | omega | (simp [go_sem]; done) | (simp_all; done)), (by rfl), (by (simp [othersL]))⟩) ?_
  iterate 18 (first | omega | (simp [go_sem, seval] <;> omega))
  intro i e H hi0
  obtain ⟨xs, gs, q4_0, q6_0, q7_0, q8_0, q10_0, q11_0, q14_0, q15_0, g0_0, n0_0, g1_0, n1_0, g2_0, n2_0, g3_0, n3_0, g5_0, n5_0, hi, hxs, hgs⟩ := (hI0 _ _ _).1 hi0
  have x0 := frs n0_0
  have x1 := frs n1_0
  have x2 := frs n2_0
  have x3 := frs n3_0
  have x5 := frs n5_0
  have F0 := And.intro q4_0 (And.intro q6_0 (And.intro q7_0 (And.intro q8_0 (And.intro q10_0 (And.intro q11_0 (And.intro q14_0 (And.intro q15_0 (And.intro g0_0 (And.intro g1_0 (And.intro g2_0 (And.intro g3_0 (And.intro g5_0 (And.intro x0 (And.intro x1 (And.intro x2 (And.intro x3 x5))))))))))))))))
  try simp [go_sem, seval, F0]
  repeat first | intro _ | refine ⟨obs, ?_⟩
  refine condQ_mk (fun h4 => ?_) (fun h4 => ?_)
  · try simp [go_sem] at h4
    have hst := othersL_succ kept.nodes i
    have hpl := plaL_succ E.nodes.length p.nodes kept.nodes im i
    have hgl : gs.length = E.nodes.length + (othersL kept.nodes i).length := by rw [hgs]; simp
    have hxl : xs.length = i := by rw [hxs, plaL_len]
    have hol := othersL_len kept.nodes i
    try simp [go_sem, seval, F0, h4, lge h4]
    refine callQ_pure0 (ref32_index kept.nodes i) ((by first | rfl | (simp [go_sem, ← List.map_take, ← List.map_drop, F0, h4, lge h4]; done))) ?_
    try simp [go_sem, seval, F0, h4, lge h4]
    refine condQ_mk (fun h7 => ?_) (fun h7 => ?_)
    ·try simp [go_sem] at h7
     have hm7 : mem kept.nodes i = false := by rw [Bool.eq_false_iff]; simp [mem]; omega
     rw [if_pos (by rw [hm7]; rfl)] at hst
     have hpc : plcI E.nodes.length p.nodes kept.nodes im i = (gs.length : Int) := by unfold plcI; rw [if_neg (by rw [hm7]; simp), hgl]
     rw [hpc] at hpl
     obtain ⟨xs2, hxs2⟩ : ∃ x, x = xs ++ [(gs.length : Int)] := ⟨_, rfl⟩
     obtain ⟨gs2, hgs2⟩ : ∃ x, x = gs ++ [more.nodes[i]] := ⟨_, rfl⟩
     have hx2 : xs2 = plaL E.nodes.length p.nodes kept.nodes im (i + 1) := by rw [hxs2, hpl, hxs]
     have hg2 : gs2 = E.nodes ++ (othersL kept.nodes (i + 1)).map (moreN more) := by rw [hgs2, hst, List.map_append, ← List.append_assoc, ← hgs]; simp [moreN, lge h4]
     try simp [go_sem, seval, F0, h4, lge h4, hxs2, hgs2]
     repeat first | intro _ | refine ⟨obs, ?_⟩
     refine nextQ_mk (i + 1) (by omega) ((hI0 _ _ _).2 ⟨(xs2), (gs2), ?_, ?_, ?_, ?_, ?_, ?_, ?_, ?_, ?_, ?_, ?_, ?_, ?_, ?_, ?_, ?_, ?_, ?_, (by first | assumption | omega | (simp [go_sem, F0, h4, lge h4, hxs2, hgs2, h7]; done) | (simp_all <;> omega)), (by exact hx2), (by exact hg2)⟩) <;> first | omega | (simp [go_sem, seval, F0, h4, lge h4, hxs2, hgs2] <;> omega)
    ·try simp [go_sem] at h7
     have hm7 : mem kept.nodes i = true := by simp [mem]; omega
     rw [if_neg (by rw [hm7]; simp)] at hst
     obtain ⟨hi0, hi1, hi2⟩ := idx_lt hm7
     have hi3 : (idx kept.nodes i).toNat < im.length := by omega
     have hpc : plcI E.nodes.length p.nodes kept.nodes im i = idx p.nodes im[(idx kept.nodes i).toNat] := by unfold plcI; rw [if_pos hm7, lge hi3]; rfl
     rw [hpc] at hpl
     obtain ⟨xs2, hxs2⟩ : ∃ x, x = xs ++ [idx p.nodes im[(idx kept.nodes i).toNat]] := ⟨_, rfl⟩
     obtain ⟨gs2, hgs2⟩ : ∃ x, x = gs := ⟨_, rfl⟩
     have hx2 : xs2 = plaL E.nodes.length p.nodes kept.nodes im (i + 1) := by rw [hxs2, hpl, hxs]
     have hg2 : gs2 = E.nodes ++ (othersL kept.nodes (i + 1)).map (moreN more) := by rw [hgs2, hst, List.append_nil, hgs]
     try simp [go_sem, seval, F0, h4, lge h4, hxs2, hgs2, lge hi3]
     repeat first | intro _ | refine ⟨obs, ?_⟩
     refine dcallQ_pure0 (ref32_index p.nodes im[(idx kept.nodes i).toNat]) ((by first | rfl | (simp [go_sem, ← List.map_take, ← List.map_drop, F0, h4, lge h4, hxs2, hgs2, lge hi3]; done))) ?_
     try simp [go_sem, seval, F0, h4, lge h4, hxs2, hgs2, lge hi3]
     repeat first | intro _ | refine ⟨obs, ?_⟩
     refine nextQ_mk (i + 1) (by omega) ((hI0 _ _ _).2 ⟨(xs2), (gs2), ?_, ?_, ?_, ?_, ?_, ?_, ?_, ?_, ?_, ?_, ?_, ?_, ?_, ?_, ?_, ?_, ?_, ?_, (by first | assumption | omega | (simp [go_sem, F0, h4, lge h4, hxs2, hgs2, lge hi3, h7]; done) | (simp_all <;> omega)), (by exact hx2), (by exact hg2)⟩) <;> first | omega | (simp [go_sem, seval, F0, h4, lge h4, hxs2, hgs2, lge hi3] <;> omega)
  · try simp [go_sem] at h4
    have hI : i = more.nodes.length := by omega
    subst hI
    have hxl : xs.length = more.nodes.length := by rw [hxs, plaL_len]
    try simp [go_sem, seval, F0]
    obtain ⟨I2, hI2⟩ := mkI fun k e H => (∃ ys : List Edge, (e 7 = .adr more.c) ∧ (e 8 = .adr kept.c) ∧ (e 10 = .ptr 0 1 0 0) ∧ (e 11 = .ptr 3 1 0 0) ∧ (e 14 = .own 5 xs.length) ∧ (e 17 = dI k) ∧ (H.get 0 = some ⟨29, 2, [[.nil, .nil]], false⟩) ∧ (0 < H.next) ∧ (H.get 1 = some ⟨3, 1, gs.map cI, false⟩) ∧ (1 < H.next) ∧ (H.get 2 = some ⟨124, 3, ys.map Edge.c, false⟩) ∧ (2 < H.next) ∧ (H.get 3 = some ⟨29, 2, [[.own 1 gs.length, .own 2 ys.length]], false⟩) ∧ (3 < H.next) ∧ (H.get 5 = some ⟨3, 1, xs.map cI, false⟩) ∧ (5 < H.next) ∧ (k ≤ more.edges.length) ∧ (ys = E.edges ++ (othersL kept.edges k).map (fun n => gluX more xs n.toNat)))
    refine loopK I2 (fun k => more.edges.length - k) (0) ((hI2 _ _ _).2 ⟨(E.edges), ?_, ?_, ?_, ?_, ?_, ?_, ?_, ?_, ?_, ?_, ?_, ?_, ?_, ?_, ?_, ?_, (by first | assumption | omega | (simp [go_sem, F0]; done) | (simp_all; done)), (by (simp [othersL]))⟩) ?_
    iterate 16 (first | omega | (simp [go_sem, seval, F0] <;> omega))
    intro k e H hi2
    obtain ⟨ys, q7_2, q8_2, q10_2, q11_2, q14_2, q17_2, g0_2, n0_2, g1_2, n1_2, g2_2, n2_2, g3_2, n3_2, g5_2, n5_2, hk, hys⟩ := (hI2 _ _ _).1 hi2
    have x0 := frs n0_2
    have x1 := frs n1_2
    have x2 := frs n2_2
    have x3 := frs n3_2
    have x5 := frs n5_2
    have F2 := And.intro q7_2 (And.intro q8_2 (And.intro q10_2 (And.intro q11_2 (And.intro q14_2 (And.intro q17_2 (And.intro g0_2 (And.intro g1_2 (And.intro g2_2 (And.intro g3_2 (And.intro g5_2 (And.intro x0 (And.intro x1 (And.intro x2 (And.intro x3 x5))))))))))))))
    try simp [go_sem, seval, F2]
    repeat first | intro _ | refine ⟨obs, ?_⟩
    refine condQ_mk (fun h12 => ?_) (fun h12 => ?_)
    ·try simp [go_sem] at h12
     have hst := othersL_succ kept.edges k
     have hol := othersL_len kept.edges k
     have hyl : ys.length = E.edges.length + (othersL kept.edges k).length := by rw [hys]; simp
     try simp [go_sem, seval, F2, h12, lge h12]
     repeat first | intro _ | refine ⟨obs, ?_⟩
     refine callQ_pure0 (ref32_index kept.edges k) ((by first | rfl | (simp [go_sem, ← List.map_take, ← List.map_drop, F2, h12, lge h12]; done))) ?_
     try simp [go_sem, seval, F2, h12, lge h12]
     repeat first | intro _ | refine ⟨obs, ?_⟩
     refine condQ_mk (fun h15 => ?_) (fun h15 => ?_)
     ·try simp [go_sem] at h15
      have hm15 : mem kept.edges k = false := by rw [Bool.eq_false_iff]; simp [mem]; omega
      rw [if_pos (by rw [hm15]; rfl)] at hst
      have hbx := hib _ (lgm h12)
      have hf1 : more.edges[k].from_.toNat < xs.length := by omega
      have hft : more.edges[k].to_.toNat < xs.length := by omega
      have hgx : gluX more xs k = ⟨more.edges[k].type, xs[more.edges[k].from_.toNat], xs[more.edges[k].to_.toNat]⟩ := by simp only [gluX, lge h12, Option.getD_some, lge hf1, lge hft]
      obtain ⟨ys2, hys2⟩ : ∃ x, x = ys ++ [(⟨more.edges[k].type, xs[more.edges[k].from_.toNat], xs[more.edges[k].to_.toNat]⟩ : Edge)] := ⟨_, rfl⟩
      have hy2 : ys2 = E.edges ++ (othersL kept.edges (k + 1)).map (fun n => gluX more xs n.toNat) := by rw [hys2, hst, List.map_append, ← List.append_assoc, ← hys]; simp [hgx]
      try simp [go_sem, seval, F2, h12, lge h12, hys2, lge hf1, lge hft, Edge.c]
      repeat first | intro _ | refine ⟨obs, ?_⟩
      refine nextQ_mk (k + 1) (by omega) ((hI2 _ _ _).2 ⟨(ys2), ?_, ?_, ?_, ?_, ?_, ?_, ?_, ?_, ?_, ?_, ?_, ?_, ?_, ?_, ?_, ?_, (by first | assumption | omega | (simp [go_sem, F2, h12, lge h12, hys2, lge hf1, lge hft, Edge.c, h4, h15]; done) | (simp_all <;> omega)), (by exact hy2)⟩) <;> first | omega | (simp [go_sem, seval, F2, h12, lge h12, hys2, lge hf1, lge hft, Edge.c] <;> omega)
     ·try simp [go_sem] at h15
      have hm15 : mem kept.edges k = true := by simp [mem]; omega
      rw [if_neg (by rw [hm15]; simp)] at hst
      obtain ⟨ys2, hys2⟩ : ∃ x, x = ys := ⟨_, rfl⟩
      have hy2 : ys2 = E.edges ++ (othersL kept.edges (k + 1)).map (fun n => gluX more xs n.toNat) := by rw [hys2, hst, List.append_nil, hys]
      try simp [go_sem, seval, F2, h12, lge h12, hys2]
      repeat first | intro _ | refine ⟨obs, ?_⟩
      refine nextQ_mk (k + 1) (by omega) ((hI2 _ _ _).2 ⟨(ys2), ?_, ?_, ?_, ?_, ?_, ?_, ?_, ?_, ?_, ?_, ?_, ?_, ?_, ?_, ?_, ?_, (by first | assumption | omega | (simp [go_sem, F2, h12, lge h12, hys2, h4, h15]; done) | (simp_all <;> omega)), (by exact hy2)⟩) <;> first | omega | (simp [go_sem, seval, F2, h12, lge h12, hys2] <;> omega)
    ·try simp [go_sem] at h12
     have hSE : S = ⟨gs, ys⟩ := by
      rw [← hS]; unfold grownG
      rw [hE, ← hxs, ← hgs, hys, show k = more.edges.length by omega]
     subst hSE
     try simp [go_sem, seval, F2]
     exact hQ _ _ (by first | (left; (simp [go_sem, F2, Graph.d, Graph.c, dLI]); done) | (right; (simp [go_sem, F2, Graph.d, Graph.c, dLI]); done))
theorem ref32_large (g : Graph) (h1 : g.nodes.length ≤ 1000000) (h2 : g.edges.length ≤ 1000000) : Pure Tryz.prog 72 [g.d] (.bool (bigB g)) := by
  refine Tz.pK ⟨fun _ => false, fun _ => []⟩ Tryz.func72 rfl (fun Q hQ => ?_)
  try simp [go_sem, seval]
  repeat (first | intro _ | (refine ⟨obl, ?_⟩))
  exact hQ _ _ (by simp [go_sem, bigB] <;> first | omega | (rw [bei]; simp <;> omega) | (simp_all <;> omega))
end Go.Abs
end
section
set_option maxRecDepth 60000
set_option maxHeartbeats 2000000
open Go Go.Proofs
namespace Go.Abs
def intoP (r : Rule) : Part := ⟨r.into.nodes, r.into.edges⟩
def refL (a b : Rule) (o : Ovl) (d f : Part) : Graph := grownG o.graph d a.left.graph a.keep (ledL a.into.nodes o.left.nodes)
def refR (a b : Rule) (o : Ovl) (d f : Part) : Graph := grownG o.graph f b.right.graph (intoP b) (ledL b.keep.nodes o.right.nodes)
theorem ledL_len (l by_ : List Int) : (ledL l by_).length = l.length := by simp [ledL]
structure ROk (a b : Rule) (o : Ovl) (d f : Part) : Prop where
  sd : subF o.graph d = 0
  sf : subF o.graph f = 0
  ld : d.nodes.length ≤ 1000
  ld' : d.edges.length ≤ 1000
  lf : f.nodes.length ≤ 1000
  lf' : f.edges.length ≤ 1000
  ga : graphF a.left.graph = 0
  gb : graphF b.right.graph = 0
  ka : a.keep.nodes.length = a.into.nodes.length
  kb : b.keep.nodes.length = b.into.nodes.length
  la : a.into.nodes.length ≤ 1000000
  lb : b.into.nodes.length ≤ 1000000
  ia : ∀ x ∈ a.into.nodes, 0 ≤ x ∧ x < o.left.nodes.length
  ib : ∀ x ∈ b.keep.nodes, 0 ≤ x ∧ x < o.right.nodes.length
theorem ref32_concurrent (a b : Rule) (o : Ovl) (d f : Part) (h : ROk a b o d f) : Pure Tryz.prog 71 [a.d, b.d, o.d, d.d, f.d] (concOf (refL a b o d f) (refR a b o d f) d f).d := by
  obtain ⟨hsd, hsf, hld, hld', hlf, hlf', hga, hgb, hka, hkb, hla, hlb, hia, hib⟩ := h
  have hll := ledL_len a.into.nodes o.left.nodes
  have hlr := ledL_len b.keep.nodes o.right.nodes
  have hG1 := ref32_grown o.graph d a.left.graph a.keep (ledL a.into.nodes o.left.nodes) hsd (by omega) (by omega) hga (by omega) (by omega)
  have hG2 := ref32_grown o.graph f b.right.graph (intoP b) (ledL b.keep.nodes o.right.nodes) hsf (by omega) (by omega) hgb (by show b.into.nodes.length ≤ _; omega) (by omega)
  obtain ⟨L, hL⟩ : ∃ x, refL a b o d f = x := ⟨_, rfl⟩
  obtain ⟨R, hR⟩ : ∃ x, refR a b o d f = x := ⟨_, rfl⟩
  rw [show grownG o.graph d a.left.graph a.keep (ledL a.into.nodes o.left.nodes) = L from hL] at hG1
  rw [show grownG o.graph f b.right.graph (intoP b) (ledL b.keep.nodes o.right.nodes) = R from hR] at hG2
  rw [hL, hR]
  refine pureKA (by first | rfl | (simp [go_sem]; done)) (fun Q hQ => (acalls_of_body (cfg := ⟨fun t => t == 10 || t == 11 || t == 12, fun _ => []⟩) Tz.mixed Tryz.func71 rfl rfl (nlb rfl) (by kernel_rfl) ?_))
  try simp [go_sem, seval, Ovl.d, Ovl.c, Part.c, Part.d, Rule.c]
  refine dcallQ_pure0 (ref32_led a.into.nodes o.left.nodes hla hia) ((by first | rfl | (simp [go_sem, ← List.map_take, ← List.map_drop, Ovl.d, Ovl.c, Part.c, Part.d, Rule.c]; done))) ?_
  try simp [go_sem, seval, Ovl.d, Ovl.c, Part.c, Part.d, Rule.c]
  refine dcallQ_pure0 (hG1) ((by first | rfl | (simp [go_sem, ← List.map_take, ← List.map_drop, Ovl.d, Ovl.c, Part.c, Part.d, Rule.c]; done))) ?_
  try simp [go_sem, seval, Ovl.d, Ovl.c, Part.c, Part.d, Rule.c]
  refine dcallQ_pure0 (ref32_led b.keep.nodes o.right.nodes (by omega) hib) ((by first | rfl | (simp [go_sem, ← List.map_take, ← List.map_drop, Ovl.d, Ovl.c, Part.c, Part.d, Rule.c]; done))) ?_
  try simp [go_sem, seval, Ovl.d, Ovl.c, Part.c, Part.d, Rule.c]
  refine dcallQ_pure0 (hG2) ((by first | rfl | (simp [go_sem, ← List.map_take, ← List.map_drop, Ovl.d, Ovl.c, Part.c, Part.d, Rule.c]; done))) ?_
  try simp [go_sem, seval, Ovl.d, Ovl.c, Part.c, Part.d, Rule.c]
  refine callQ_pure0 (ref32_common d.nodes f.nodes (by omega)) ((by first | rfl | (simp [go_sem, ← List.map_take, ← List.map_drop, Ovl.d, Ovl.c, Part.c, Part.d, Rule.c]; done))) ?_
  try simp [go_sem, seval, Ovl.d, Ovl.c, Part.c, Part.d, Rule.c]
  refine callQ_pure0 (ref32_common d.edges f.edges (by omega)) ((by first | rfl | (simp [go_sem, ← List.map_take, ← List.map_drop, Ovl.d, Ovl.c, Part.c, Part.d, Rule.c]; done))) ?_
  try simp [go_sem, seval, Ovl.d, Ovl.c, Part.c, Part.d, Rule.c]
  exact hQ _ _ (by simp [go_sem, Ovl.d, Ovl.c, Part.c, Part.d, Rule.c, concOf, concName, trueC, Rule.d, nz_ints, nz_edges, Cond.kind, Cond.kids, Cond.map, Cond.pattern])
def partsE (a b : Rule) (o : Ovl) : Int :=
  if morphF a.right.graph o.graph o.left ≠ 0 then morphF a.right.graph o.graph o.left
  else if morphF b.left.graph o.graph o.right ≠ 0 then morphF b.left.graph o.graph o.right
  else if (injB a.right.graph o.graph o.left && (injB b.left.graph o.graph o.right && jointB a.right.graph b.left.graph o.graph o.left o.right)) = false then 1
  else if compE a.right.graph o.graph ⟨inL a.into.nodes a.right.graph.nodes.length, inL a.into.edges a.right.graph.edges.length⟩ o.left ≠ 0 then compE a.right.graph o.graph ⟨inL a.into.nodes a.right.graph.nodes.length, inL a.into.edges a.right.graph.edges.length⟩ o.left
  else compE b.left.graph o.graph b.keep o.right
def inP (a : Rule) : Part := ⟨inL a.into.nodes a.right.graph.nodes.length, inL a.into.edges a.right.graph.edges.length⟩
def partsD (a b : Rule) (o : Ovl) : Part := if partsE a b o = 0 then compP a.right.graph o.graph (inP a) o.left else ⟨[], []⟩
def partsF (a b : Rule) (o : Ovl) : Part := if partsE a b o = 0 then compP b.left.graph o.graph b.keep o.right else ⟨[], []⟩
theorem inL_len (l : List Int) (n : Nat) : (inL l n).length ≤ n := by
  unfold inL; rw [List.length_map]; exact Nat.le_trans (List.length_filter_le _ _) (by simp)
theorem ref32_parts (a b : Rule) (o : Ovl) (ha : a.ok) (hb : b.ok) : Pure Tryz.prog 70 [a.d, b.d, o.d] (.tup [(partsD a b o).d, (partsF a b o).d, dI (partsE a b o)]) := by
  have hi1 := ha.i1
  have hi2 := ha.i2
  have hk1 := hb.k1
  have hs1 := inL_len a.into.nodes a.right.graph.nodes.length
  refine pureKA (by first | rfl | (simp [go_sem]; done)) (fun Q hQ => (acalls_of_body (cfg := ⟨fun t => t == 6 || t == 7 || t == 9 || t == 10 || t == 13 || t == 14 || t == 16, fun r => match r with | 1 => [(0, 6), (1, 6), (2, 6), (3, 6), (4, 6), (5, 6), (0, 7), (1, 7), (2, 7), (3, 7), (4, 7), (5, 7), (6, 7), (3, 8), (4, 8), (5, 8)] | 10 => [(0, 15), (1, 15), (2, 15), (3, 15), (4, 15), (5, 15), (6, 15), (7, 15), (8, 15), (9, 15), (10, 15), (11, 15), (12, 15), (13, 15)] | 17 => [(1, 2)] | _ => []⟩) Tz.mixed Tryz.func70 rfl rfl (nlb rfl) (by kernel_rfl) ?_))
  try simp [go_sem, seval, Ovl.d, Ovl.c, Part.c, Part.d, Rule.c]
  refine callQ_pure0 (ref06_Valid a.right.graph o.graph o.left) ((by first | rfl | (simp [go_sem, ← List.map_take, ← List.map_drop, Ovl.d, Ovl.c, Part.c, Part.d, Rule.c]; done))) ?_
  try simp [go_sem, seval, Ovl.d, Ovl.c, Part.c, Part.d, Rule.c]
  refine condQ_mk (fun h3 => ?_) (fun h3 => ?_)
  · try simp [go_sem] at h3
    have hE : partsE a b o = morphF a.right.graph o.graph o.left := if_pos h3
    have hZ : partsD a b o = ⟨[], []⟩ := if_neg (by rw [hE]; exact h3)
    have hZ2 : partsF a b o = ⟨[], []⟩ := if_neg (by rw [hE]; exact h3)
    try simp [go_sem, seval, Ovl.d, Ovl.c, Part.c, Part.d, Rule.c]
    exact hQ _ _ (by simp [go_sem, hE, hZ, hZ2, Part.d, Part.c])
  · try simp [go_sem] at h3
    have hE2 : ¬ morphF a.right.graph o.graph o.left ≠ 0 := by rw [h3]; simp
    obtain ⟨hg1, hgo, hl1, hl2⟩ := morphF_len h3
    have hle1 := graphF_le hg1
    have hleo := graphF_le hgo
    try simp [go_sem, seval, Ovl.d, Ovl.c, Part.c, Part.d, Rule.c]
    refine callQ_pure0 (ref06_Valid b.left.graph o.graph o.right) ((by first | rfl | (simp [go_sem, ← List.map_take, ← List.map_drop, Ovl.d, Ovl.c, Part.c, Part.d, Rule.c]; done))) ?_
    try simp [go_sem, seval, Ovl.d, Ovl.c, Part.c, Part.d, Rule.c]
    refine condQ_mk (fun h6 => ?_) (fun h6 => ?_)
    ·try simp [go_sem] at h6
     have hE : partsE a b o = morphF b.left.graph o.graph o.right := by unfold partsE; rw [if_neg hE2, if_pos h6]
     have hZ : partsD a b o = ⟨[], []⟩ := if_neg (by rw [hE]; exact h6)
     have hZ2 : partsF a b o = ⟨[], []⟩ := if_neg (by rw [hE]; exact h6)
     try simp [go_sem, seval, Ovl.d, Ovl.c, Part.c, Part.d, Rule.c]
     exact hQ _ _ (by simp [go_sem, hE, hZ, hZ2, Part.d, Part.c])
    ·try simp [go_sem] at h6
     have hE5 : ¬ morphF b.left.graph o.graph o.right ≠ 0 := by rw [h6]; simp
     obtain ⟨hg2, _, hl3, hl4⟩ := morphF_len h6
     have hle2 := graphF_le hg2
     try simp [go_sem, seval, Ovl.d, Ovl.c, Part.c, Part.d, Rule.c]
     repeat first | intro _ | refine ⟨obs, ?_⟩
     refine callQ_pure0 (ref06_Injective a.right.graph o.graph o.left) ((by first | rfl | (simp [go_sem, ← List.map_take, ← List.map_drop, Ovl.d, Ovl.c, Part.c, Part.d, Rule.c]; done))) ?_
     try simp [go_sem, seval, Ovl.d, Ovl.c, Part.c, Part.d, Rule.c]
     repeat first | intro _ | refine ⟨obs, ?_⟩
     refine gcallQ_pure0 (fun hg => ref06_Injective b.left.graph o.graph o.right) (fun hg => (by first | rfl | (simp [go_sem, ← List.map_take, ← List.map_drop, Ovl.d, Ovl.c, Part.c, Part.d, Rule.c]; done))) ?_
     try simp [go_sem, seval, Ovl.d, Ovl.c, Part.c, Part.d, Rule.c]
     repeat first | intro _ | refine ⟨obs, ?_⟩
     refine gcallQ_pure0 (fun hg => ref13_Jointly a.right.graph b.left.graph o.graph o.left o.right (by omega) (by omega)) (fun hg => (by first | rfl | (simp [go_sem, ← List.map_take, ← List.map_drop, Ovl.d, Ovl.c, Part.c, Part.d, Rule.c]; done))) ?_
     try simp [go_sem, seval, Ovl.d, Ovl.c, Part.c, Part.d, Rule.c]
     repeat first | intro _ | refine ⟨obs, ?_⟩
     refine condQ_mk (fun h8 => ?_) (fun h8 => ?_)
     ·try simp [go_sem] at h8
      have hJ : (injB a.right.graph o.graph o.left && (injB b.left.graph o.graph o.right && jointB a.right.graph b.left.graph o.graph o.left o.right)) = false := by
       rw [Bool.eq_false_iff]; intro hh; simp only [Bool.and_eq_true] at hh; simp [hh.1, hh.2.1, hh.2.2] at h8
      have hE : partsE a b o = 1 := by unfold partsE; rw [if_neg hE2, if_neg hE5, if_pos hJ]
      have hZ : partsD a b o = ⟨[], []⟩ := if_neg (by rw [hE]; simp)
      have hZ2 : partsF a b o = ⟨[], []⟩ := if_neg (by rw [hE]; simp)
      try simp [go_sem, seval, Ovl.d, Ovl.c, Part.c, Part.d, Rule.c]
      exact hQ _ _ (by simp [go_sem, hE, hZ, hZ2, Part.d, Part.c])
     ·try simp [go_sem] at h8
      have hJ : ¬ (injB a.right.graph o.graph o.left && (injB b.left.graph o.graph o.right && jointB a.right.graph b.left.graph o.graph o.left o.right)) = false := by
       intro hh; revert h8 hh; cases injB a.right.graph o.graph o.left <;> cases injB b.left.graph o.graph o.right <;> cases jointB a.right.graph b.left.graph o.graph o.left o.right <;> simp
      obtain ⟨P1, hP1⟩ : ∃ x, x = compP a.right.graph o.graph (inP a) o.left := ⟨_, rfl⟩
      obtain ⟨E1, hE1⟩ : ∃ x, x = compE a.right.graph o.graph (inP a) o.left := ⟨_, rfl⟩
      obtain ⟨P2, hP2⟩ : ∃ x, x = compP b.left.graph o.graph b.keep o.right := ⟨_, rfl⟩
      obtain ⟨E2, hE2'⟩ : ∃ x, x = compE b.left.graph o.graph b.keep o.right := ⟨_, rfl⟩
      try simp [go_sem, seval, Ovl.d, Ovl.c, Part.c, Part.d, Rule.c]
      repeat first | intro _ | refine ⟨obs, ?_⟩
      refine dcallQ_pure0 (ref32_sorted a.into.nodes a.right.graph.nodes.length (by omega)) ((by first | rfl | (simp [go_sem, ← List.map_take, ← List.map_drop, Ovl.d, Ovl.c, Part.c, Part.d, Rule.c]; done))) ?_
      try simp [go_sem, seval, Ovl.d, Ovl.c, Part.c, Part.d, Rule.c]
      repeat first | intro _ | refine ⟨obs, ?_⟩
      refine dcallQ_pure0 (ref32_sorted a.into.edges a.right.graph.edges.length (by omega)) ((by first | rfl | (simp [go_sem, ← List.map_take, ← List.map_drop, Ovl.d, Ovl.c, Part.c, Part.d, Rule.c]; done))) ?_
      try simp [go_sem, seval, Ovl.d, Ovl.c, Part.c, Part.d, Rule.c]
      repeat first | intro _ | refine ⟨obs, ?_⟩
      refine callQ_pure0 (ref12_Of a.right.graph o.graph (inP a) o.left (by show (inL _ _).length ≤ 1000000; omega) (by omega) (by omega) (by omega) (by omega)) ((by first | rfl | (simp [go_sem, ← List.map_take, ← List.map_drop, Ovl.d, Ovl.c, Part.c, Part.d, Rule.c]; done))) ?_
      try simp [go_sem, seval, Ovl.d, Ovl.c, Part.c, Part.d, Rule.c]
      repeat first | intro _ | refine ⟨obs, ?_⟩
      refine condQ_mk (fun h12 => ?_) (fun h12 => ?_)
      ·try simp [go_sem] at h12
       have hE : partsE a b o = E1 := by unfold partsE; rw [if_neg hE2, if_neg hE5, if_neg hJ, if_pos (by rw [show (⟨_, _⟩ : Part) = inP a from rfl]; exact h12)]; exact hE1.symm
       have hZ : partsD a b o = ⟨[], []⟩ := if_neg (by rw [hE, hE1]; exact h12)
       have hZ2 : partsF a b o = ⟨[], []⟩ := if_neg (by rw [hE, hE1]; exact h12)
       try simp [go_sem, seval, Ovl.d, Ovl.c, Part.c, Part.d, Rule.c]
       exact hQ _ _ (by simp [go_sem, hE, hE1, hZ, hZ2, Part.d, Part.c])
      ·try simp [go_sem] at h12
       have hE' : partsE a b o = E2 := by unfold partsE; rw [if_neg hE2, if_neg hE5, if_neg hJ, if_neg (by rw [show (⟨_, _⟩ : Part) = inP a from rfl, h12]; simp)]; exact hE2'.symm
       try simp [go_sem, seval, Ovl.d, Ovl.c, Part.c, Part.d, Rule.c]
       refine callQ_pure0 (ref12_Of b.left.graph o.graph b.keep o.right hk1 (by omega) (by omega) (by omega) (by omega)) ((by first | rfl | (simp [go_sem, ← List.map_take, ← List.map_drop, Ovl.d, Ovl.c, Part.c, Part.d, Rule.c]; done))) ?_
       try simp [go_sem, seval, Ovl.d, Ovl.c, Part.c, Part.d, Rule.c]
       refine condQ_mk (fun h15 => ?_) (fun h15 => ?_)
       ·try simp [go_sem] at h15
        have hE : partsE a b o = E2 := hE'
        have hZ : partsD a b o = ⟨[], []⟩ := if_neg (by rw [hE, hE2']; exact h15)
        have hZ2 : partsF a b o = ⟨[], []⟩ := if_neg (by rw [hE, hE2']; exact h15)
        try simp [go_sem, seval, Ovl.d, Ovl.c, Part.c, Part.d, Rule.c]
        exact hQ _ _ (by simp [go_sem, hE, hE2', hZ, hZ2, Part.d, Part.c])
       ·try simp [go_sem] at h15
        have hE : partsE a b o = 0 := by rw [hE', hE2', h15]
        have hZ : partsD a b o = P1 := by unfold partsD; rw [if_pos hE, hP1]
        have hZ2 : partsF a b o = P2 := by unfold partsF; rw [if_pos hE, hP2]
        try simp [go_sem, seval, Ovl.d, Ovl.c, Part.c, Part.d, Rule.c]
        exact hQ _ _ (by simp [go_sem, Ovl.d, Ovl.c, Part.c, Part.d, Rule.c, hE, hZ, hZ2, hP1, hP2, Part.d, Part.c, nz_ints])
end Go.Abs
end
section
set_option maxRecDepth 60000
set_option maxHeartbeats 2000000
open Go Go.Proofs
namespace Go.Abs
def wholeE (a b : Rule) (o : Ovl) : Int :=
  if partsE a b o ≠ 0 then partsE a b o
  else if (bigB (refL a b o (partsD a b o) (partsF a b o)) || bigB (refR a b o (partsD a b o) (partsF a b o))) = true then 3 else 0
def wholeR (a b : Rule) (o : Ovl) : Rule := if wholeE a b o = 0 then concOf (refL a b o (partsD a b o) (partsF a b o)) (refR a b o (partsD a b o) (partsF a b o)) (partsD a b o) (partsF a b o) else rule0
theorem grownG_len (g : Graph) (p : Part) (more : Graph) (kept : Part) (im : List Int) (h1 : p.nodes.length ≤ 1000) (h2 : p.edges.length ≤ 1000) (hm : graphF more = 0) : (grownG g p more kept im).nodes.length ≤ 100000 ∧ (grownG g p more kept im).edges.length ≤ 100000 := by
  have hlm := graphF_le hm
  have ho1 := othersL_len kept.nodes more.nodes.length
  have ho2 := othersL_len kept.edges more.edges.length
  have hE : (extractG g p).nodes.length ≤ 1000 ∧ (extractG g p).edges.length ≤ 1000 := by unfold extractG; split <;> simp <;> omega
  simp only [grownG, List.length_append, List.length_map]
  omega
theorem ref32_whole (a b : Rule) (o : Ovl) (ha : a.ok) (hb : b.ok) (hR : partsE a b o = 0 → ROk a b o (partsD a b o) (partsF a b o)) : Pure Tryz.prog 30 [a.d, b.d, o.d] (.tup [(wholeR a b o).d, (partsD a b o).d, (partsF a b o).d, dI (wholeE a b o)]) := by
  have hP := ref32_parts a b o ha hb
  obtain ⟨E, hE⟩ : ∃ x, partsE a b o = x := ⟨_, rfl⟩
  obtain ⟨D', hD⟩ : ∃ x, partsD a b o = x := ⟨_, rfl⟩
  obtain ⟨F', hF⟩ : ∃ x, partsF a b o = x := ⟨_, rfl⟩
  rw [hE, hD, hF] at hP
  rw [hE, hD, hF] at hR
  rw [hD, hF]
  refine pureKA (by first | rfl | (simp [go_sem]; done)) (fun Q hQ => (acalls_of_body (cfg := ⟨fun t => t == 6 || t == 7 || t == 8 || t == 10 || t == 11 || t == 13, fun r => match r with | 3 => [(1, 4), (2, 4), (2, 5)] | 6 => [(1, 3), (2, 3), (2, 4)] | 7 => [(1, 3), (2, 3), (2, 4)] | _ => []⟩) Tz.mixed Tryz.func30 rfl rfl (nlb rfl) (by kernel_rfl) ?_))
  try simp [go_sem, seval, Ovl.d, Ovl.c, Part.c, Part.d, Rule.c]
  refine callQ_pure0 (hP) ((by first | rfl | (simp [go_sem, ← List.map_take, ← List.map_drop, Ovl.d, Ovl.c, Part.c, Part.d, Rule.c]; done))) ?_
  try simp [go_sem, seval, Ovl.d, Ovl.c, Part.c, Part.d, Rule.c]
  refine condQ_mk (fun h2 => ?_) (fun h2 => ?_)
  · try simp [go_sem] at h2
    have hW : wholeE a b o = E := by unfold wholeE; rw [hE, if_pos h2]
    have hZ : wholeR a b o = rule0 := if_neg (by rw [hW]; exact h2)
    try simp [go_sem, seval, Ovl.d, Ovl.c, Part.c, Part.d, Rule.c]
    exact hQ _ _ (by simp [go_sem, hW, hZ, rule0, Rule.d, Part.d, Part.c, nz_ints, nz_edges, Cond.kind, Cond.kids, Cond.map, Cond.pattern])
  · try simp [go_sem] at h2
    have hO := hR h2
    have hl1 := grownG_len o.graph D' a.left.graph a.keep (ledL a.into.nodes o.left.nodes) hO.ld hO.ld' hO.ga
    have hl2 := grownG_len o.graph F' b.right.graph (intoP b) (ledL b.keep.nodes o.right.nodes) hO.lf hO.lf' hO.gb
    obtain ⟨L, hL⟩ : ∃ x, refL a b o D' F' = x := ⟨_, rfl⟩
    obtain ⟨R, hRR⟩ : ∃ x, refR a b o D' F' = x := ⟨_, rfl⟩
    have hconc := ref32_concurrent a b o D' F' hO
    rw [hL, hRR] at hconc
    rw [show grownG o.graph D' a.left.graph a.keep (ledL a.into.nodes o.left.nodes) = L from hL] at hl1
    rw [show grownG o.graph F' b.right.graph (intoP b) (ledL b.keep.nodes o.right.nodes) = R from hRR] at hl2
    have hE2 : ¬ partsE a b o ≠ 0 := by rw [hE, h2]; simp
    try simp [go_sem, seval, Ovl.d, Ovl.c, Part.c, Part.d, Rule.c, concOf]
    refine callQ_pure0 (hconc) ((by first | rfl | (simp [go_sem, ← List.map_take, ← List.map_drop, Ovl.d, Ovl.c, Part.c, Part.d, Rule.c, concOf]; done))) ?_
    try simp [go_sem, seval, Ovl.d, Ovl.c, Part.c, Part.d, Rule.c, concOf]
    repeat first | intro _ | refine ⟨obs, ?_⟩
    refine callQ_pure0 (ref32_large L (by omega) (by omega)) ((by first | rfl | (simp [go_sem, ← List.map_take, ← List.map_drop, Ovl.d, Ovl.c, Part.c, Part.d, Rule.c, concOf]; done))) ?_
    try simp [go_sem, seval, Ovl.d, Ovl.c, Part.c, Part.d, Rule.c, concOf]
    repeat first | intro _ | refine ⟨obs, ?_⟩
    refine gcallQ_pure0 (fun hg => ref32_large R (by omega) (by omega)) (fun hg => (by first | rfl | (simp [go_sem, ← List.map_take, ← List.map_drop, Ovl.d, Ovl.c, Part.c, Part.d, Rule.c, concOf]; done))) ?_
    try simp [go_sem, seval, Ovl.d, Ovl.c, Part.c, Part.d, Rule.c, concOf]
    repeat first | intro _ | refine ⟨obs, ?_⟩
    refine condQ_mk (fun h5 => ?_) (fun h5 => ?_)
    ·try simp [go_sem] at h5
     have hW : wholeE a b o = 3 := by unfold wholeE; rw [if_neg hE2, hD, hF, hL, hRR, if_pos (by simpa using h5)]
     have hZ : wholeR a b o = rule0 := if_neg (by rw [hW]; simp)
     try simp [go_sem, seval, Ovl.d, Ovl.c, Part.c, Part.d, Rule.c, concOf]
     exact hQ _ _ (by simp [go_sem, hW, hZ, rule0, Rule.d, Part.d, Part.c, nz_ints, nz_edges, Cond.kind, Cond.kids, Cond.map, Cond.pattern])
    ·try simp [go_sem] at h5
     have hW : wholeE a b o = 0 := by unfold wholeE; rw [if_neg hE2, hD, hF, hL, hRR, if_neg (by simpa using h5)]
     have hZ : wholeR a b o = concOf L R D' F' := by unfold wholeR; rw [if_pos hW, hD, hF, hL, hRR]
     try simp [go_sem, seval, Ovl.d, Ovl.c, Part.c, Part.d, Rule.c, concOf]
     exact hQ _ _ (by simp [go_sem, hW, hZ, concOf, concName, trueC, Rule.d, Part.d, Part.c, nz_ints, nz_edges, Cond.kind, Cond.kids, Cond.map, Cond.pattern])
def rErr (t : Types) (a b : Rule) (o : Ovl) : Int := if givenR t a b ≠ 0 then givenR t a b else wholeE a b o
def rRule (t : Types) (a b : Rule) (o : Ovl) : Rule := if givenR t a b ≠ 0 then rule0 else wholeR a b o
def rOvl (t : Types) (a b : Rule) : List Ovl := (ovL a.right.graph b.left.graph).filter fun o => decide (wholeE a b o = 0)
def rOvlE (t : Types) (a b : Rule) : Int := if givenR t a b ≠ 0 then givenR t a b else ovErr a.right.graph b.left.graph
def rOvlL (t : Types) (a b : Rule) : List Ovl := if rOvlE t a b = 0 then rOvl t a b else []
theorem filter_take_succ {α : Type} (p : α → Bool) {l : List α} {i : Nat} (h : i < l.length) : (l.take (i + 1)).filter p = (l.take i).filter p ++ (if p l[i] = true then [l[i]] else []) := by
  rw [List.take_succ_eq_append_getElem h, List.filter_append]
  congr 1
  by_cases hp : p l[i] = true <;> simp [hp]
theorem ref32_Overlaps (t : Types) (ht : t.ok) (a b : Rule) (ha : a.ok) (hb : b.ok) (hat : a.thin) (hbt : b.thin) (hln : (ovL a.right.graph b.left.graph).length ≤ 100000)
    (hR : givenR t a b = 0 → ∀ o ∈ ovL a.right.graph b.left.graph, partsE a b o = 0 → ROk a b o (partsD a b o) (partsF a b o)) : Pure Tryz.prog 14 [t.d, a.d, b.d] (.tup [.list ((rOvlL t a b).map Ovl.c), dI (rOvlE t a b)]) := by
  obtain ⟨ls, hls⟩ : ∃ x, x = ovL a.right.graph b.left.graph := ⟨_, rfl⟩
  have hov := ref13_Overlaps a.right.graph b.left.graph
  rw [← hls] at hln hR hov
  refine pureKA (by first | rfl | (simp [go_sem]; done)) (fun Q hQ => (acalls_of_body (cfg := ⟨fun t => t == 11 || t == 13 || t == 14 || t == 15, fun r => match r with | 11 => [(0, 12), (1, 12), (4, 12), (5, 12), (6, 12), (0, 13), (1, 13), (4, 13), (5, 13), (6, 13), (12, 13), (0, 14), (1, 14), (4, 14), (5, 14), (6, 14), (12, 14), (13, 14)] | _ => []⟩) Tz.mixed Tryz.func14 rfl rfl (nlb rfl) (by kernel_rfl) ?_))
  try simp [go_sem, seval, Ovl.c, Part.c, Part.d, Rule.c]
  refine callQ_pure0 (ref32_given t ht a b ha hb hat hbt) ((by first | rfl | (simp [go_sem, ← List.map_take, ← List.map_drop, Ovl.c, Part.c, Part.d, Rule.c]; done))) ?_
  try simp [go_sem, seval, Ovl.c, Part.c, Part.d, Rule.c]
  refine condQ_mk (fun h2 => ?_) (fun h2 => ?_)
  · try simp [go_sem] at h2
    have hE : rOvlE t a b = givenR t a b := if_pos h2
    have hZ : rOvlL t a b = [] := if_neg (by rw [hE]; exact h2)
    try simp [go_sem, seval, Ovl.c, Part.c, Part.d, Rule.c]
    exact hQ _ _ (by simp [go_sem, hE, hZ])
  · try simp [go_sem] at h2
    have hE2 : ¬ givenR t a b ≠ 0 := by rw [h2]; simp
    have hE : rOvlE t a b = ovErr a.right.graph b.left.graph := if_neg hE2
    try simp [go_sem, seval, Ovl.c, Part.c, Part.d, Rule.c]
    refine callQ_pure0 (hov) ((by first | rfl | (simp [go_sem, ← List.map_take, ← List.map_drop, Ovl.c, Part.c, Part.d, Rule.c]; done))) ?_
    try simp [go_sem, seval, Ovl.c, Part.c, Part.d, Rule.c]
    refine condQ_mk (fun h5 => ?_) (fun h5 => ?_)
    ·try simp [go_sem] at h5
     have hZ : rOvlL t a b = [] := if_neg (by rw [hE]; exact h5)
     try simp [go_sem, seval, Ovl.c, Part.c, Part.d, Rule.c]
     exact hQ _ _ (by simp [go_sem, hE, hZ])
    ·try simp [go_sem] at h5
     have hZ : rOvlL t a b = rOvl t a b := if_pos (by rw [hE, h5])
     try simp [go_sem, seval, Ovl.c, Part.c, Part.d, Rule.c]
     obtain ⟨I0, hI0⟩ := mkI fun i e H => (∃ xs : List Ovl, (e 4 = .adr a.c) ∧ (e 5 = .adr b.c) ∧ (e 9 = .list (ls.map Ovl.c)) ∧ (e 11 = .own 0 xs.length) ∧ (e 12 = dI i) ∧ (H.get 0 = some ⟨45, 6, xs.map Ovl.c, false⟩) ∧ (0 < H.next) ∧ (i ≤ ls.length) ∧ (xs.length ≤ i) ∧ (xs = (ls.take i).filter (fun o => decide (wholeE a b o = 0))))
     refine loopK I0 (fun i => ls.length - i) (0) ((hI0 _ _ _).2 ⟨([]), ?_, ?_, ?_, ?_, ?_, ?_, ?_, (by first | assumption | omega | (simp [go_sem, Ovl.c, Part.c, Part.d, Rule.c]; done) | (simp_all; done)), (by exact Nat.le_refl _), (by rfl)⟩) ?_
     iterate 7 (first | omega | (simp [go_sem, seval, Ovl.c, Part.c, Part.d, Rule.c] <;> omega))
     intro i e H hi0
     obtain ⟨xs, q4_0, q5_0, q9_0, q11_0, q12_0, g0_0, n0_0, hi, hxl, hx⟩ := (hI0 _ _ _).1 hi0
     have x0 := frs n0_0
     have F0 := And.intro q4_0 (And.intro q5_0 (And.intro q9_0 (And.intro q11_0 (And.intro q12_0 (And.intro g0_0 x0)))))
     try simp [go_sem, seval, Ovl.c, Part.c, Part.d, Rule.c, F0]
     repeat first | intro _ | refine ⟨obs, ?_⟩
     refine condQ_mk (fun h9 => ?_) (fun h9 => ?_)
     ·try simp [go_sem] at h9
      have hfs := filter_take_succ (fun o => decide (wholeE a b o = 0)) h9
      have hwh := ref32_whole a b ls[i] ha hb (hR h2 _ (lgm h9))
      try simp [go_sem, seval, Ovl.c, Part.c, Part.d, Rule.c, F0, h9, lge h9]
      repeat first | intro _ | refine ⟨obs, ?_⟩
      refine dcallQ_pure0 (hwh) ((by first | rfl | (simp [go_sem, ← List.map_take, ← List.map_drop, Ovl.c, Part.c, Part.d, Rule.c, F0, h9, lge h9]; done))) ?_
      try simp [go_sem, seval, Ovl.c, Part.c, Part.d, Rule.c, F0, h9, lge h9]
      repeat first | intro _ | refine ⟨obs, ?_⟩
      refine condQ_mk (fun h12 => ?_) (fun h12 => ?_)
      ·try simp [go_sem] at h12
       rw [if_pos (by simpa using h12)] at hfs
       obtain ⟨xs2, hxs2⟩ : ∃ x, x = xs ++ [ls[i]] := ⟨_, rfl⟩
       have hx2 : xs2 = (ls.take (i + 1)).filter (fun o => decide (wholeE a b o = 0)) := by rw [hfs, ← hx, hxs2]
       have hx3 : xs2.length ≤ i + 1 := by rw [hxs2]; simp; omega
       try simp [go_sem, seval, Ovl.c, Part.c, Part.d, Rule.c, F0, h9, lge h9, hxs2]
       repeat first | intro _ | refine ⟨obs, ?_⟩
       refine nextQ_mk (i + 1) (by omega) ((hI0 _ _ _).2 ⟨(xs2), ?_, ?_, ?_, ?_, ?_, ?_, ?_, (by first | assumption | omega | (simp [go_sem, Ovl.c, Part.c, Part.d, Rule.c, F0, h9, lge h9, hxs2, h2, h5, h12]; done) | (simp_all <;> omega)), (by exact hx3), (by exact hx2)⟩) <;> first | omega | (simp [go_sem, seval, Ovl.c, Part.c, Part.d, Rule.c, F0, h9, lge h9, hxs2] <;> omega)
      ·try simp [go_sem] at h12
       rw [if_neg (by simpa using h12)] at hfs
       obtain ⟨xs2, hxs2⟩ : ∃ x, x = xs := ⟨_, rfl⟩
       have hx2 : xs2 = (ls.take (i + 1)).filter (fun o => decide (wholeE a b o = 0)) := by rw [hfs, ← hx, hxs2, List.append_nil]
       have hx3 : xs2.length ≤ i + 1 := by rw [hxs2]; omega
       try simp [go_sem, seval, Ovl.c, Part.c, Part.d, Rule.c, F0, h9, lge h9, hxs2]
       repeat first | intro _ | refine ⟨obs, ?_⟩
       refine nextQ_mk (i + 1) (by omega) ((hI0 _ _ _).2 ⟨(xs2), ?_, ?_, ?_, ?_, ?_, ?_, ?_, (by first | assumption | omega | (simp [go_sem, Ovl.c, Part.c, Part.d, Rule.c, F0, h9, lge h9, hxs2, h2, h5, h12]; done) | (simp_all <;> omega)), (by exact hx3), (by exact hx2)⟩) <;> first | omega | (simp [go_sem, seval, Ovl.c, Part.c, Part.d, Rule.c, F0, h9, lge h9, hxs2] <;> omega)
     ·try simp [go_sem] at h9
      have hX : xs = rOvl t a b := by rw [hx, List.take_of_length_le (by omega), hls]; rfl
      try simp [go_sem, seval, Ovl.c, Part.c, Part.d, Rule.c, F0]
      exact hQ _ _ (by simp [go_sem, Ovl.c, Part.c, Part.d, Rule.c, F0, hE, h5, hZ, hX, nz_ovls])
end Go.Abs
end
section
set_option maxRecDepth 8000
open Go Go.Proofs
namespace Go.Abs
theorem firstE_mk {f : Nat → Int} : ∀ (n k : Nat), (∀ j, k ≤ j → j < k + n → f j = 0) → firstE f k n = 0
  | 0, k, _ => rfl
  | n + 1, k, h => by
    unfold firstE
    rw [if_neg (by rw [h k (Nat.le_refl _) (by omega)]; simp)]
    exact firstE_mk n (k + 1) fun j h1 h2 => h j (by omega) (by omega)
theorem asc_mk {l : List Int} {n : Int} (h1 : ∀ x ∈ l, 0 ≤ x ∧ x < n) (h2 : l.Pairwise (· < ·)) : ascF l n = 0 := by
  refine firstE_mk _ _ fun j _ hj => ?_
  have hj' : j < l.length := by omega
  have hx := h1 _ (lgm hj')
  unfold ascI
  rw [lge hj', Option.getD_some, if_neg (by omega), if_neg]
  rintro ⟨h0, hle⟩
  rw [lge (show j - 1 < l.length by omega), Option.getD_some] at hle
  have := List.pairwise_iff_getElem.1 h2 (j - 1) j (by omega) hj' (by omega)
  omega
theorem asc_ge {l : List Int} (h : l.Pairwise (· < ·)) (h0 : ∀ x ∈ l, 0 ≤ x) : ∀ i (hi : i < l.length), (i : Int) ≤ l[i]
  | 0, hi => by have := h0 _ (lgm hi); omega
  | i + 1, hi => by
    have h1 := asc_ge h h0 i (by omega)
    have h2 := List.pairwise_iff_getElem.1 h i (i + 1) (by omega) hi (by omega)
    omega
theorem asc_len {l : List Int} {n : Nat} (h : l.Pairwise (· < ·)) (hr : ∀ x ∈ l, 0 ≤ x ∧ x < n) (hN : n ≤ 1000) : l.length ≤ 1000 := by
  rcases Nat.eq_zero_or_pos l.length with h1 | h1
  · omega
  · have h2 := asc_ge h (fun x hx => (hr x hx).1) (l.length - 1) (by omega)
    have h3 := hr _ (lgm (show l.length - 1 < l.length by omega))
    omega
theorem listE_mk {α : Type} {f : α → Int} : ∀ {l : List α}, (∀ x ∈ l, f x = 0) → listE f l = 0
  | [], _ => rfl
  | x :: l, h => by
    unfold listE
    rw [if_neg (by rw [h x (List.mem_cons_self ..)]; simp)]
    exact listE_mk fun y hy => h y (List.mem_cons_of_mem _ hy)
def eA (g : Graph) (k : Int) : Edge := g.edges[k.toNat]?.getD zeroEdge
def iA (l : List Int) (k : Int) : Int := l[k.toNat]?.getD 0
theorem subF_mk {g : Graph} {p : Part} (hg : graphF g = 0) (hn : ∀ x ∈ p.nodes, 0 ≤ x ∧ x < g.nodes.length) (hns : p.nodes.Pairwise (· < ·)) (he : ∀ x ∈ p.edges, 0 ≤ x ∧ x < g.edges.length) (hes : p.edges.Pairwise (· < ·))
    (hends : ∀ k ∈ p.edges, (eA g k).from_ ∈ p.nodes ∧ (eA g k).to_ ∈ p.nodes) : subF g p = 0 := by
  unfold subF partF
  rw [if_neg (by rw [hg]; simp), if_neg (by rw [asc_mk hn hns]; simp), if_neg (by rw [asc_mk he hes]; simp)]
  refine listE_mk fun k hk => ?_
  have h1 := (mem_iff _ _).2 (hends k hk).1
  have h2 := (mem_iff _ _).2 (hends k hk).2
  unfold eA at h1 h2
  unfold dangE; rw [if_pos (by rw [h1, h2]; rfl)]
theorem rangeF_asc (p : Nat → Bool) (n : Nat) : (((List.range n).filter p).map fun (b : Nat) => (b : Int)).Pairwise (· < ·) := by
  rw [List.pairwise_map]
  have h : ((List.range n).filter p).Pairwise (· < ·) := List.Pairwise.filter _ List.pairwise_lt_range
  exact h.imp fun h => by omega
theorem rangeF_iff (p : Nat → Bool) (n : Nat) (x : Int) : x ∈ (((List.range n).filter p).map fun (b : Nat) => (b : Int)) ↔ (0 ≤ x ∧ x < n) ∧ p x.toNat = true := by
  simp only [List.mem_map, List.mem_filter, List.mem_range]
  constructor
  · rintro ⟨a, ⟨h1, h2⟩, rfl⟩; exact ⟨by omega, by simpa using h2⟩
  · rintro ⟨⟨h1, h2⟩, h3⟩; exact ⟨x.toNat, ⟨by omega, h3⟩, by omega⟩
theorem othersL_iff {l : List Int} {n : Nat} {x : Int} : x ∈ othersL l n ↔ (0 ≤ x ∧ x < n) ∧ x ∉ l := by
  unfold othersL
  rw [rangeF_iff]
  constructor
  · rintro ⟨h, h2⟩
    refine ⟨h, fun hm => ?_⟩
    rw [show ((x.toNat : Nat) : Int) = x by omega, (mem_iff l x).2 hm] at h2; cases h2
  · rintro ⟨h, h2⟩
    refine ⟨h, ?_⟩
    rw [show ((x.toNat : Nat) : Int) = x by omega, Bool.not_eq_true', Bool.eq_false_iff]
    exact fun hm => h2 ((mem_iff l x).1 hm)
theorem othersL_asc (l : List Int) (n : Nat) : (othersL l n).Pairwise (· < ·) := rangeF_asc _ n
theorem inL_iff {l : List Int} {n : Nat} {x : Int} : x ∈ inL l n ↔ (0 ≤ x ∧ x < n) ∧ x ∈ l := by
  unfold inL
  rw [rangeF_iff]
  constructor
  · rintro ⟨h, h2⟩
    refine ⟨h, ?_⟩
    rw [show ((x.toNat : Nat) : Int) = x by omega] at h2; exact (mem_iff l x).1 h2
  · rintro ⟨h, h2⟩
    refine ⟨h, ?_⟩
    rw [show ((x.toNat : Nat) : Int) = x by omega]
    exact (mem_iff l x).2 h2
theorem inL_asc (l : List Int) (n : Nat) : (inL l n).Pairwise (· < ·) := rangeF_asc _ n
theorem asc_ext : ∀ {l m : List Int}, l.Pairwise (· < ·) → m.Pairwise (· < ·) → (∀ x, x ∈ l ↔ x ∈ m) → l = m
  | [], [], _, _, _ => rfl
  | [], b :: m, _, _, h => by have := (h b).2 (List.mem_cons_self ..); cases this
  | a :: l, [], _, _, h => by have := (h a).1 (List.mem_cons_self ..); cases this
  | a :: l, b :: m, hl, hm, h => by
    obtain ⟨h1, h2⟩ := List.pairwise_cons.1 hl
    obtain ⟨h3, h4⟩ := List.pairwise_cons.1 hm
    have hab : a = b := by
     have q1 := (h a).1 (List.mem_cons_self ..)
     have q2 := (h b).2 (List.mem_cons_self ..)
     rw [List.mem_cons] at q1 q2
     rcases q1 with q1 | q1
     ·exact q1
     ·rcases q2 with q2 | q2
      ·exact q2.symm
      ·have h5 := h1 b q2
       have h6 := h3 a q1
       omega
    subst hab
    congr 1
    refine asc_ext h2 h4 fun x => ⟨fun hx => ?_, fun hx => ?_⟩
    ·rcases List.mem_cons.1 ((h x).1 (List.mem_cons_of_mem _ hx)) with rfl | h'
     ·have := h1 x hx; omega
     ·exact h'
    ·rcases List.mem_cons.1 ((h x).2 (List.mem_cons_of_mem _ hx)) with rfl | h'
     ·have := h3 x hx; omega
     ·exact h'
theorem sorted_eq {xs : List Int} {n : Nat} (hr : ∀ x ∈ xs, 0 ≤ x ∧ x < n) (hd : xs.Nodup) : sorted xs = inL xs n := by
  have hp : (sorted xs).Perm xs := List.mergeSort_perm _ _
  have hs : (sorted xs).Pairwise fun a b => decide (a ≤ b) = true := List.pairwise_mergeSort (fun a b c h1 h2 => by simp at *; omega) (fun a b => by simp; omega) xs
  have hn : (sorted xs).Nodup := hp.nodup_iff.2 hd
  have hlt : (sorted xs).Pairwise (· < ·) := (hs.and hn).imp fun ⟨h1, h2⟩ => by simp at h1 h2; omega
  exact asc_ext hlt (inL_asc _ _) fun x => by rw [inL_iff, hp.mem_iff]; exact ⟨fun h => ⟨hr x h, h⟩, fun h => h.2⟩
theorem morph_all {a b : Graph} {m : Part} (h : morphF a b m = 0) : (∀ i, i < a.nodes.length → mapNE a b m i = 0) ∧ ∀ k, k < a.edges.length → mapEE a b m k = 0 := by
  obtain ⟨g1, g2, h3, h4⟩ := morphF_len h
  have hM : morphF a b m = (if firstE (mapNE a b m) 0 a.nodes.length ≠ 0 then firstE (mapNE a b m) 0 a.nodes.length else firstE (mapEE a b m) 0 a.edges.length) := by
    unfold morphF; rw [if_neg (by rw [g1]; simp), if_neg (by rw [g2]; simp), if_neg (by omega)]
  rw [hM] at h
  split at h
  · rename_i q; exact absurd h q
  · rename_i q
    exact ⟨fun i hi => firstE_zero a.nodes.length 0 (show firstE (mapNE a b m) 0 a.nodes.length = 0 by omega) i (by omega) (by omega), fun k hk => firstE_zero a.edges.length 0 h k (by omega) (by omega)⟩
theorem morph_edge {a b : Graph} {m : Part} (h : morphF a b m = 0) {k : Int} (h0 : 0 ≤ k) (hk : k < a.edges.length) : (0 ≤ iA m.edges k ∧ iA m.edges k < b.edges.length) ∧ (eA a k).type = (eA b (iA m.edges k)).type ∧
    iA m.nodes (eA a k).from_ = (eA b (iA m.edges k)).from_ ∧ iA m.nodes (eA a k).to_ = (eA b (iA m.edges k)).to_ := by
  have q := (morph_all h).2 k.toNat (by omega)
  unfold mapEE at q
  split at q
  · cases q
  · rename_i q1
    split at q
    ·cases q
    ·rename_i q2
     split at q
     ·cases q
     ·rename_i q3
      unfold eA iA
      refine ⟨by omega, by simpa using q2, ?_, ?_⟩ <;> exact Classical.byContradiction fun hc => q3 (by first | exact .inl hc | exact .inr hc)
theorem edge_in {g : Graph} (hg : graphF g = 0) {k : Int} (h0 : 0 ≤ k) (hk : k < g.edges.length) : (0 ≤ (eA g k).from_ ∧ (eA g k).from_ < g.nodes.length) ∧ (0 ≤ (eA g k).to_ ∧ (eA g k).to_ < g.nodes.length) ∧ 0 ≤ (eA g k).type ∧ (eA g k).type ≤ 99 := by
  have hk' : k.toNat < g.edges.length := by omega
  have hx := (graphF_in hg).2 _ (lgm hk')
  unfold eA
  rw [lge hk', Option.getD_some]
  exact ⟨hx.2.1, hx.2.2, hx.1⟩
theorem dup_none {im keep : List Int} (h : dupL im keep = []) {i k : Nat} (hik : i < k) (hk : k < im.length) : dupB im keep i k = false := by
  rw [Bool.eq_false_iff]
  intro hd
  have hm : (i, k) ∈ dupL im keep := by
    unfold dupL dupN
    rw [List.mem_flatMap]
    refine ⟨i, List.mem_range.2 (by omega), ?_⟩
    unfold dupRow
    rw [List.mem_map]
    exact ⟨k - (i + 1), List.mem_filter.2 ⟨List.mem_range.2 (by omega), by rw [show i + 1 + (k - (i + 1)) = k by omega]; exact hd⟩, by simp; omega⟩
  rw [h] at hm; cases hm
theorem dup_kept {im keep : List Int} (h : dupL im keep = []) {i k : Nat} (hi : i < im.length) (hk : k < im.length) (hne : i ≠ k) (he : im[i]?.getD 0 = im[k]?.getD 0) : mem keep i = true ∧ mem keep k = true := by
  rcases Nat.lt_or_gt_of_ne hne with hlt | hlt
  · have := dup_none h hlt hk
    unfold dupB at this; rw [he] at this; simpa using this
  · have := dup_none h hlt hi
    unfold dupB at this; rw [he] at this; simp at this; exact ⟨this.2, this.1⟩
theorem nodup_dup {im keep : List Int} (h : im.Nodup) : dupL im keep = [] := by
  rw [List.eq_nil_iff_forall_not_mem]
  rintro ⟨i, k⟩ hp
  unfold dupL dupN at hp
  rw [List.mem_flatMap] at hp
  obtain ⟨i', hi', hp⟩ := hp
  unfold dupRow at hp
  rw [List.mem_map] at hp
  obtain ⟨b, hb, he⟩ := hp
  rw [List.mem_filter, List.mem_range] at hb
  rw [List.mem_range] at hi'
  have hd := hb.2
  unfold dupB at hd
  rw [Bool.and_eq_true, decide_eq_true_eq] at hd
  have h1 := hd.1
  rw [lge hi', lge (show i' + 1 + b < im.length by omega), Option.getD_some, Option.getD_some] at h1
  have := (List.getElem_inj h).1 h1
  omega
theorem comp_of {l g : Graph} {keep m : Part} (h : compE l g keep m = 0) : morphF l g m = 0 ∧ subF l keep = 0 ∧ dupL m.nodes keep.nodes = [] ∧ dupL m.edges keep.edges = [] ∧ dangL g m.edges (goneL m.nodes keep.nodes) = [] := by
  unfold compE at h
  split at h
  · rename_i q; exact absurd h q
  · rename_i q
    have q' : compG l g keep m = 0 := by omega
    unfold compG at q'
    split at h
    ·cases h
    ·rename_i q2
     split at h
     ·cases h
     ·rename_i q3
      have q4 : morphF l g m = 0 ∧ subF l keep = 0 := by
       split at q'
       ·rename_i q5; exact absurd q' q5
       ·rename_i q5; exact ⟨by omega, q'⟩
      exact ⟨q4.1, q4.2, List.eq_nil_of_length_eq_zero (by omega), List.eq_nil_of_length_eq_zero (by omega), List.eq_nil_of_length_eq_zero (by omega)⟩
theorem gone_kept {im keep : List Int} (hd : dupL im keep = []) {j : Int} (h0 : 0 ≤ j) (hj : j < im.length) (hk : j ∈ keep) : iA im j ∉ goneL im keep := by
  intro hm
  obtain ⟨i, hi, hki, he⟩ := goneL_mem.1 hm
  have hne : i ≠ j.toNat := by
    rintro rfl
    rw [show ((j.toNat : Nat) : Int) = j by omega, (mem_iff _ _).2 hk] at hki; cases hki
  have := dup_kept hd hi (show j.toNat < im.length by omega) hne (by rw [he]; rfl)
  rw [hki] at this; exact absurd this.1 (by simp)
theorem comp_ok {l g : Graph} {keep m : Part} (h : compE l g keep m = 0) : subF g (compP l g keep m) = 0 := by
  obtain ⟨hm, hs, hd1, hd2, hda⟩ := comp_of h
  unfold compP; rw [if_pos h]
  obtain ⟨hgl, hg, hln, hle⟩ := morphF_len hm
  refine subF_mk hg (fun x hx => othersL_mem hx) (othersL_asc _ _) (fun x hx => othersL_mem hx) (othersL_asc _ _) fun k hk => ?_
  obtain ⟨hkr, hkn⟩ := othersL_iff.1 hk
  have hen := edge_in hg hkr.1 hkr.2
  by_cases hkm : k ∈ m.edges
  · obtain ⟨i, hi, hik⟩ := List.getElem_of_mem hkm
    have hkeep : (i : Int) ∈ keep.edges := by
     refine Classical.byContradiction fun hc => hkn (goneL_mem.2 ⟨i, hi, ?_, ?_⟩)
     ·rw [Bool.eq_false_iff]; exact fun h' => hc ((mem_iff _ _).1 h')
     ·rw [lge hi, hik]
    have hse := subF_ends hs i hkeep
    have hei := edge_in (k := (i : Int)) hgl (by omega) (by omega)
    have hme := morph_edge (k := (i : Int)) hm (by omega) (by omega)
    have hii : iA m.edges i = k := by unfold iA; simp [hi, hik]
    rw [hii] at hme
    have g1 := gone_kept hd1 hei.1.1 (by omega) ((mem_iff _ _).1 hse.1)
    have g2 := gone_kept hd1 hei.2.1.1 (by omega) ((mem_iff _ _).1 hse.2)
    rw [hme.2.2.1] at g1
    rw [hme.2.2.2] at g2
    exact ⟨othersL_iff.2 ⟨hen.1, g1⟩, othersL_iff.2 ⟨hen.2.1, g2⟩⟩
  · have hb : dangB g m.edges (goneL m.nodes keep.nodes) k.toNat = false := by
     rw [Bool.eq_false_iff]
     intro hb
     have hmm : k ∈ dangL g m.edges (goneL m.nodes keep.nodes) := by
      unfold dangL; rw [rangeF_iff]; exact ⟨hkr, hb⟩
     rw [hda] at hmm; cases hmm
    unfold dangB at hb
    rw [show ((k.toNat : Nat) : Int) = k by omega, show mem m.edges k = false by rw [Bool.eq_false_iff]; exact fun h' => hkm ((mem_iff _ _).1 h')] at hb
    simp only [Bool.not_false, Bool.true_and, Bool.or_eq_false_iff] at hb
    exact ⟨othersL_iff.2 ⟨hen.1, fun h' => by have := (mem_iff _ _).2 h'; unfold eA at this; rw [hb.1] at this; cases this⟩, othersL_iff.2 ⟨hen.2.1, fun h' => by have := (mem_iff _ _).2 h'; unfold eA at this; rw [hb.2] at this; cases this⟩⟩
theorem comp_err {l g : Graph} {keep m : Part} (hm : morphF l g m = 0) (hk : subF l keep = 0) (hn : m.nodes.Nodup) (he : m.edges.Nodup) : compE l g keep m = 0 ∨ compE l g keep m = 14 := by
  unfold compE
  have h0 : compG l g keep m = 0 := by unfold compG; rw [if_neg (by rw [hm]; simp), hk]
  rw [if_neg (by rw [h0]; simp), nodup_dup hn, nodup_dup he, if_neg (by simp)]
  split
  · exact .inr rfl
  · exact .inl rfl
theorem injB_of {a b : Graph} {m : Part} (h : injB a b m = true) : morphF a b m = 0 ∧ m.nodes.Nodup ∧ m.edges.Nodup := by
  simpa [injB] using h
theorem inP_sub {t : Types} {r : Rule} (h : Rule.parts t r) : subF r.right.graph (inP r) = 0 := by
  obtain ⟨hge, _, hl1, hl2⟩ := morphF_len h.mor
  refine subF_mk h.gr (fun x hx => (inL_iff.1 hx).1) (inL_asc _ _) (fun x hx => (inL_iff.1 hx).1) (inL_asc _ _) fun k hk => ?_
  obtain ⟨hkr, hkm⟩ := inL_iff.1 hk
  obtain ⟨j, hj, hjk⟩ := List.getElem_of_mem hkm
  have hme := morph_edge (k := (j : Int)) h.mor (by omega) (by omega)
  have hii : iA r.into.edges j = k := by unfold iA; simp [hj, hjk]
  rw [hii] at hme
  have hex := edge_in (k := (j : Int)) hge (by omega) (by omega)
  have hen := edge_in h.gr hkr.1 hkr.2
  have key : ∀ v : Int, 0 ≤ v → v < (extractG r.left.graph r.keep).nodes.length → iA r.into.nodes v ∈ r.into.nodes := fun v h0 h1 => by
    have hv : v.toNat < r.into.nodes.length := by omega
    unfold iA; rw [lge hv, Option.getD_some]; exact lgm hv
  have k1 := key _ hex.1.1 hex.1.2
  have k2 := key _ hex.2.1.1 hex.2.1.2
  rw [hme.2.2.1] at k1
  rw [hme.2.2.2] at k2
  exact ⟨inL_iff.2 ⟨hen.1, k1⟩, inL_iff.2 ⟨hen.2.1, k2⟩⟩
theorem intoS_eq {t : Types} {r : Rule} (h : Rule.parts t r) : intoS r = inP r := by
  obtain ⟨_, h1, h2⟩ := injB_of h.inj
  have hin := morphF_in h.mor
  unfold intoS inP
  rw [sorted_eq hin.1 h1, sorted_eq hin.2 h2]
theorem keep_len {t : Types} {r : Rule} (h : Rule.parts t r) : r.keep.nodes.length = r.into.nodes.length ∧ r.keep.edges.length = r.into.edges.length := by
  obtain ⟨_, _, hl1, hl2⟩ := morphF_len h.mor
  rw [hl1, hl2]; unfold extractG; rw [if_pos h.sub]; simp
theorem glueE_eq {t : Types} {a b : Rule} (ha : Rule.parts t a) (hb : Rule.parts t b) (o : Ovl) : cGlueE a b o = partsE a b o := by
  unfold cGlueE partsE
  rw [intoS_eq ha]
  split
  · rfl
  · rename_i m1
    split
    ·rfl
    ·rename_i m2
     split
     ·rfl
     ·rename_i m3
      have m3' : injB a.right.graph o.graph o.left = true ∧ injB b.left.graph o.graph o.right = true := by
       revert m3; cases injB a.right.graph o.graph o.left <;> cases injB b.left.graph o.graph o.right <;> simp
      obtain ⟨i1, i2, i3⟩ := injB_of m3'.1
      obtain ⟨j1, j2, j3⟩ := injB_of m3'.2
      have c1 := comp_err i1 (inP_sub ha) i2 i3
      have c2 := comp_err j1 hb.sub j2 j3
      change (if compE a.right.graph o.graph (inP a) o.left ≠ 0 ∨ _ then (14 : Int) else 0) = if compE a.right.graph o.graph (inP a) o.left ≠ 0 then compE a.right.graph o.graph (inP a) o.left else compE b.left.graph o.graph b.keep o.right
      rcases c1 with c1 | c1 <;> rcases c2 with c2 | c2 <;> rw [c1, c2] <;> simp
theorem comp_len {l g : Graph} {keep m : Part} (h : compE l g keep m = 0) : (compP l g keep m).nodes.length ≤ 1000 ∧ (compP l g keep m).edges.length ≤ 1000 := by
  obtain ⟨hm, _⟩ := comp_of h
  obtain ⟨_, hg, _, _⟩ := morphF_len hm
  have := graphF_le hg
  unfold compP; rw [if_pos h]
  have h1 := othersL_len (goneL m.nodes keep.nodes) g.nodes.length
  have h2 := othersL_len (goneL m.edges keep.edges) g.edges.length
  exact ⟨by show (othersL _ _).length ≤ _; omega, by show (othersL _ _).length ≤ _; omega⟩
structure GlueOk (a b : Rule) (o : Ovl) : Prop where
  m1 : morphF a.right.graph o.graph o.left = 0
  m2 : morphF b.left.graph o.graph o.right = 0
  i1 : injB a.right.graph o.graph o.left = true
  i2 : injB b.left.graph o.graph o.right = true
  jo : jointB a.right.graph b.left.graph o.graph o.left o.right = true
  c1 : compE a.right.graph o.graph (inP a) o.left = 0
  c2 : compE b.left.graph o.graph b.keep o.right = 0
theorem parts_ok {a b : Rule} {o : Ovl} (h : partsE a b o = 0) : GlueOk a b o := by
  have h' := h
  unfold partsE at h
  split at h
  · rename_i q; exact absurd h q
  · rename_i q1
    split at h
    ·rename_i q; exact absurd h q
    ·rename_i q2
     split at h
     ·cases h
     ·rename_i q3
      split at h
      ·rename_i q; exact absurd h q
      ·rename_i q4
       have m3' : injB a.right.graph o.graph o.left = true ∧ injB b.left.graph o.graph o.right = true ∧ jointB a.right.graph b.left.graph o.graph o.left o.right = true := by
        revert q3; cases injB a.right.graph o.graph o.left <;> cases injB b.left.graph o.graph o.right <;> cases jointB a.right.graph b.left.graph o.graph o.left o.right <;> simp
       exact ⟨by omega, by omega, m3'.1, m3'.2.1, m3'.2.2, by show compE _ _ ⟨inL _ _, inL _ _⟩ _ = 0; omega, h⟩
theorem rok {t : Types} {a b : Rule} {o : Ovl} (ha : Rule.parts t a) (hb : Rule.parts t b) (h : partsE a b o = 0) : ROk a b o (partsD a b o) (partsF a b o) := by
  have g := parts_ok h
  obtain ⟨ka, _⟩ := keep_len ha
  obtain ⟨kb, _⟩ := keep_len hb
  obtain ⟨_, _, la, _⟩ := morphF_len ha.mor
  obtain ⟨_, _, l1, _⟩ := morphF_len g.m1
  obtain ⟨_, _, l2, _⟩ := morphF_len g.m2
  have ia := (morphF_in ha.mor).1
  have hsb := subF_of hb.sub
  have hl1 := comp_len g.c1
  have hl2 := comp_len g.c2
  have e1 : partsD a b o = compP a.right.graph o.graph (inP a) o.left := if_pos h
  have e2 : partsF a b o = compP b.left.graph o.graph b.keep o.right := if_pos h
  have na : a.keep.nodes.length ≤ 1000 := asc_len (subF_of ha.sub).2.1 (subF_of ha.sub).2.2.1 (by have := graphF_le ha.gl; omega)
  have nb : b.keep.nodes.length ≤ 1000 := asc_len hsb.2.1 hsb.2.2.1 (by have := graphF_le hb.gl; omega)
  rw [e1, e2]
  exact ⟨comp_ok g.c1, comp_ok g.c2, hl1.1, hl1.2, hl2.1, hl2.2, ha.gl, hb.gr, ka, kb, by omega, by omega, fun x hx => by have := ia x hx; omega, fun x hx => by have := hsb.2.2.1 x hx; omega⟩
end Go.Abs
end
section
set_option maxRecDepth 8000
open Go Go.Proofs
namespace Go.Abs
theorem sidA_out (av : List Int) (b : Nat) (ns : List Int) (j : Nat) : ∀ i, i ≤ ns.length → (∀ x ∈ ns, x.toNat ≠ j) → (sidA av b ns i)[j]? = av[j]?
  | 0, _, _ => rfl
  | i + 1, hi, h => by
    unfold sidA
    have hx := h _ (lgm (show i < ns.length by omega))
    rw [lge (show i < ns.length by omega), Option.getD_some, List.getElem?_set_ne hx]
    exact sidA_out av b ns j i (by omega) h
theorem sidA_in {av : List Int} {b : Nat} {ns : List Int} (hp : ns.Pairwise (· < ·)) (h0 : ∀ x ∈ ns, 0 ≤ x ∧ x < av.length) {k : Nat} (hk : k < ns.length) : ∀ i, i ≤ ns.length → k < i → (sidA av b ns i)[ns[k].toNat]? = some ((b + k : Nat) : Int)
  | 0, _, h => by omega
  | i + 1, hi, h => by
    unfold sidA
    have hi' : i < ns.length := by omega
    rw [lge hi', Option.getD_some]
    have hr := h0 _ (lgm hk)
    rcases Nat.lt_or_ge k i with hlt | hge
    ·have h1 := List.pairwise_iff_getElem.1 hp k i hk hi' hlt
     have h2 := h0 _ (lgm hi')
     rw [List.getElem?_set_ne (by omega)]
     exact sidA_in hp h0 hk i (by omega) hlt
    ·obtain rfl : k = i := by omega
     rw [List.getElem?_set_self (by rw [sidA_len]; omega)]
theorem atL_in {n : Nat} {keep : List Int} (val : Nat → Int) (hd : keep.Nodup) (h0 : ∀ x ∈ keep, 0 ≤ x ∧ x < n) {k : Nat} (hk : k < keep.length) : ∀ i, i ≤ keep.length → k < i → (atL n keep val i)[keep[k].toNat]? = some (val k)
  | 0, _, h => by omega
  | i + 1, hi, h => by
    unfold atL
    have hi' : i < keep.length := by omega
    rw [lge hi', Option.getD_some]
    have hr := h0 _ (lgm hk)
    rcases Nat.lt_or_ge k i with hlt | hge
    ·have h2 := h0 _ (lgm hi')
     have hne : keep[i] ≠ keep[k] := fun he => by have := (List.getElem_inj hd).1 he; omega
     rw [List.getElem?_set_ne (by omega)]
     exact atL_in val hd h0 hk i (by omega) hlt
    ·obtain rfl : k = i := by omega
     rw [List.getElem?_set_self (by rw [atL_len]; omega)]
theorem others_at {l : List Int} : ∀ (n j : Nat), j < n → mem l j = false → (othersL l n)[(othersL l j).length]? = some (j : Int)
  | 0, j, h, _ => by omega
  | n + 1, j, h, hm => by
    rw [othersL_succ]
    rcases Nat.lt_or_ge j n with hlt | hge
    ·have ih := others_at n j hlt hm
     rw [List.getElem?_append_left (List.getElem?_eq_some_iff.1 ih).1, ih]
    ·obtain rfl : j = n := by omega
     simp [hm]
theorem places_eq {n base : Nat} {p kept into im : List Int} (hd : kept.Nodup) (h0 : ∀ x ∈ kept, 0 ≤ x ∧ x < n) (hl : kept.length = into.length) :
    sidA (atL n kept (valL p into im) kept.length) base (othersL kept n) (othersL kept n).length = plaL base p kept (ledL into im) n := by
  have hal := atL_len n kept (valL p into im) kept.length
  refine List.ext_getElem? fun j => ?_
  by_cases hj : j < n
  · have hR : (plaL base p kept (ledL into im) n)[j]? = some (plcI base p kept (ledL into im) j) := by simp [plaL, hj]
    rw [hR]
    unfold plcI
    by_cases hm : mem kept j = true
    ·rw [if_pos hm]
     obtain ⟨hi0, hi1, hi2⟩ := idx_lt hm
     have hkj : kept[(idx kept (j : Int)).toNat] = (j : Int) := by rw [lge hi1] at hi2; exact Option.some.inj hi2
     rw [sidA_out _ _ _ _ _ (Nat.le_refl _) (fun x hx he => by
      have := othersL_iff.1 hx
      exact this.2 (by rw [show x = (j : Int) by omega]; exact (mem_iff _ _).1 hm))]
     have := atL_in (valL p into im) hd h0 hi1 kept.length (Nat.le_refl _) hi1
     rw [hkj] at this
     rw [show ((j : Int)).toNat = j by omega] at this
     rw [this]
     have hil : (idx kept (j : Int)).toNat < into.length := by omega
     congr 1
     unfold valL ledL
     congr 1
     rw [List.getElem?_map, lge hil]
     rfl
    ·have hm' : mem kept j = false := by simpa using hm
     rw [if_neg hm]
     have ho := others_at n j hj hm'
     obtain ⟨hlt, he⟩ := List.getElem?_eq_some_iff.1 ho
     have := sidA_in (av := atL n kept (valL p into im) kept.length) (b := base) (othersL_asc kept n) (fun x hx => by rw [hal]; exact othersL_mem hx) hlt _ (Nat.le_refl _) hlt
     rw [he] at this
     simpa using this
  · rw [List.getElem?_eq_none (by rw [sidA_len, hal]; omega), List.getElem?_eq_none (by rw [plaL_len]; omega)]
theorem half_eq {g : Graph} {p : Part} {more : Graph} {kept : Part} {into im : List Int} (hd : kept.nodes.Nodup) (h0 : ∀ x ∈ kept.nodes, 0 ≤ x ∧ x < more.nodes.length) (hl : kept.nodes.length = into.length) :
    halfG g p more kept into im = grownG g p more kept (ledL into im) := by
  unfold halfG sideG grownG
  rw [places_eq hd h0 hl]
theorem asc_nodup {l : List Int} (h : l.Pairwise (· < ·)) : l.Nodup := h.imp fun h => by omega
theorem glueG_eq {t : Types} {a b : Rule} {o : Ovl} (ha : Rule.parts t a) (hb : Rule.parts t b) (h : partsE a b o = 0) : cGlueG a b o = ⟨a, b, o, partsD a b o, partsF a b o⟩ := by
  unfold cGlueG partsD partsF
  rw [glueE_eq ha hb, if_pos h, if_pos h, if_pos h, intoS_eq ha]
theorem hokL {t : Types} {a b : Rule} {o : Ovl} (ha : Rule.parts t a) (hb : Rule.parts t b) (h : partsE a b o = 0) : HOk o.graph (partsD a b o) a.left.graph a.keep a.into.nodes o.left.nodes := by
  have r := rok ha hb h
  exact ⟨r.sd, by have := r.ld; omega, by have := r.ld'; omega, r.ga, (subF_of ha.sub).2.2.1, r.ka, r.la, r.ia⟩
theorem hokR {t : Types} {a b : Rule} {o : Ovl} (ha : Rule.parts t a) (hb : Rule.parts t b) (h : partsE a b o = 0) : HOk o.graph (partsF a b o) b.right.graph (intoP b) b.keep.nodes o.right.nodes := by
  have r := rok ha hb h
  exact ⟨r.sf, by have := r.lf; omega, by have := r.lf'; omega, r.gb, (morphF_in hb.mor).1, r.kb.symm, by have := r.kb; have := r.lb; omega, r.ib⟩
theorem halves_eq {t : Types} {a b : Rule} {o : Ovl} (ha : Rule.parts t a) (hb : Rule.parts t b) (h : partsE a b o = 0) :
    halfG o.graph (partsD a b o) a.left.graph a.keep a.into.nodes o.left.nodes = refL a b o (partsD a b o) (partsF a b o) ∧
    halfG o.graph (partsF a b o) b.right.graph (intoP b) b.keep.nodes o.right.nodes = refR a b o (partsD a b o) (partsF a b o) := by
  have r := rok ha hb h
  have hsa := subF_of ha.sub
  refine ⟨half_eq (asc_nodup hsa.2.1) hsa.2.2.1 r.ka, half_eq (kept := intoP b) (injB_of hb.inj).2.1 (morphF_in hb.mor).1 r.kb.symm⟩
theorem whole_eq {t : Types} {a b : Rule} {o : Ovl} (ha : Rule.parts t a) (hb : Rule.parts t b) (h : partsE a b o = 0) : ruleErr (cGlueG a b o) = wholeE a b o ∧ ruleOf (cGlueG a b o) = wholeR a b o := by
  obtain ⟨e1, e2⟩ := halves_eq ha hb h
  have hE : ruleErr (cGlueG a b o) = wholeE a b o := by
    have hw : wholeE a b o = if (bigB (refL a b o (partsD a b o) (partsF a b o)) || bigB (refR a b o (partsD a b o) (partsF a b o))) = true then 3 else 0 := by unfold wholeE; rw [if_neg (by rw [h]; simp)]
    rw [hw, glueG_eq ha hb h]
    change (if (bigB (halfG o.graph (partsD a b o) a.left.graph a.keep a.into.nodes o.left.nodes) || bigB (halfG o.graph (partsF a b o) b.right.graph (intoP b) b.keep.nodes o.right.nodes)) = true then (3 : Int) else 0) = _
    rw [e1, e2]
  refine ⟨hE, ?_⟩
  unfold ruleOf wholeR
  rw [hE, glueG_eq ha hb h]
  change (if _ then concOf (halfG o.graph (partsD a b o) a.left.graph a.keep a.into.nodes o.left.nodes) (halfG o.graph (partsF a b o) b.right.graph (intoP b) b.keep.nodes o.right.nodes) (partsD a b o) (partsF a b o) else _) = _
  rw [e1, e2]
theorem oneR_parts {t : Types} {r : Rule} (h : oneR t r = 0) : Rule.parts t r ∧ structB r = true ∧ ruleF t r = 0 := by
  unfold oneR at h
  split at h
  · rename_i q; exact absurd h q
  · rename_i q
    split at h
    ·cases h
    ·rename_i q2
     have q' : ruleF t r = 0 := by omega
     exact ⟨ruleF_parts q', by simpa using q2, q'⟩
theorem givenR_parts {t : Types} {a b : Rule} (h : givenR t a b = 0) : Rule.parts t a ∧ Rule.parts t b := by
  unfold givenR at h
  split at h
  · rename_i q; exact absurd h q
  · split at h
    ·rename_i q; exact absurd h q
    ·rename_i q; exact ⟨(oneR_parts (by omega)).1, (oneR_parts h).1⟩
end Go.Abs
end
