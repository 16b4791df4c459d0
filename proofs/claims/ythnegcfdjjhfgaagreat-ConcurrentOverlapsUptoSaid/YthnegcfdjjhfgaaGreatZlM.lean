/- Layer 24: rules, continued. · Layer 24, the reference: rules -/
import Derived.Test.YthnegcfdjjhfgaaGreatZlA
import Derived.Test.YthnegcfdjjhfgaaGreatZlL
set_option linter.unusedVariables false
set_option linter.unusedSimpArgs false
section
set_option maxRecDepth 8000
open Go Go.Proofs
namespace Go.Abs
def rightF (t : Types) (r : Rule) : Int :=
  if graphF r.right.graph ≠ 0 then graphF r.right.graph
  else if typedB t r.right.graph = false then 13
  else if r.right.vars ≠ r.left.vars ∨ 0 < r.right.tests.length then 1
  else if 10 < r.right.slots.length then 3
  else firstE (slotRE t r.right) 0 r.right.slots.length
theorem rule_right (t : Types) (ht : t.ok) (r : Rule) : Pure Tryz.prog 38 [t.d, r.d] (dI (rightF t r)) := by
  refine Tz.pK ⟨fun _ => false, fun _ => []⟩ Tryz.func38 rfl (fun Q hQ => ?_)
  try simp [go_sem, seval]
  refine callQ_pure0 (graph_Valid r.right.graph) ((by first | rfl | (simp [go_sem, ← List.map_take, ← List.map_drop]; done))) ?_
  try simp [go_sem, seval]
  refine condQ_mk (fun h2 => ?_) (fun h2 => ?_)
  · try simp [go_sem] at h2
    try simp [go_sem, seval]
    exact hQ _ _ (by first | (left; (simp [go_sem, rightF, h2]); done) | (right; (simp [go_sem, rightF, h2]); done))
  · try simp [go_sem] at h2
    have hg := graphF_le h2
    try simp [go_sem, seval]
    repeat (first | intro _ | (refine ⟨obl, ?_⟩))
    refine callQ_pure0 (rule_typed t r.right.graph) ((by first | rfl | (simp [go_sem, ← List.map_take, ← List.map_drop]; done))) ?_
    try simp [go_sem, seval]
    repeat (first | intro _ | (refine ⟨obl, ?_⟩))
    refine condQ_mk (fun h4 => ?_) (fun h4 => ?_)
    ·try simp [go_sem] at h4
     try simp [go_sem, seval]
     exact hQ _ _ (by first | (left; (simp [go_sem, rightF, h2, h4]); done) | (right; (simp [go_sem, rightF, h2, h4]); done))
    ·try simp [go_sem] at h4
     try simp [go_sem, seval]
     repeat (first | intro _ | (refine ⟨obl, ?_⟩))
     refine condQ_mk (fun h6 => ?_) (fun h6 => ?_)
     ·try simp [go_sem] at h6
      have hR : rightF t r = 1 := by unfold rightF; rw [if_neg (by omega), if_neg (by simp [h4]), if_pos (by omega)]
      try simp [go_sem, seval]
      exact hQ _ _ (by first | (left; (simp [go_sem, hR]); done) | (right; (simp [go_sem, hR]); done))
     ·try simp [go_sem] at h6
      have h6' : ¬ (r.right.vars ≠ r.left.vars ∨ 0 < r.right.tests.length) := by
       rintro (h | h)
       ·exact h h6.1
       ·have := h6.2; simp [this] at h
      try simp [go_sem, seval]
      repeat (first | intro _ | (refine ⟨obl, ?_⟩))
      refine condQ_mk (fun h8 => ?_) (fun h8 => ?_)
      ·try simp [go_sem] at h8
       have hR : rightF t r = 3 := by unfold rightF; rw [if_neg (by omega), if_neg (by simp [h4]), if_neg h6', if_pos (by omega)]
       try simp [go_sem, seval]
       exact hQ _ _ (by first | (left; (simp [go_sem, hR]); done) | (right; (simp [go_sem, hR]); done))
      ·try simp [go_sem] at h8
       have hR : rightF t r = firstE (slotRE t r.right) 0 r.right.slots.length := by unfold rightF; rw [if_neg (by omega), if_neg (by simp [h4]), if_neg h6', if_neg (by omega)]
       try simp [go_sem, seval]
       repeat (first | intro _ | (refine ⟨obl, ?_⟩))
       obtain ⟨I1, hI1⟩ := mkI fun i e H => ((e 2 = .adr t.c) ∧ (e 3 = .adr r.c) ∧ (e 46 = dI r.right.slots.length) ∧ (e 47 = dI i) ∧ (i ≤ r.right.slots.length) ∧ (firstE (slotRE t r.right) i (r.right.slots.length - i) = rightF t r))
       refine loopK I1 (fun i => r.right.slots.length - i) (0) ((hI1 _ _ _).2 ⟨?_, ?_, ?_, ?_, (by first | assumption | omega | (simp [go_sem]; done) | (simp_all; done)), (by (exact hR.symm))⟩) ?_
       iterate 4 (first | omega | (simp [go_sem, seval] <;> omega))
       intro i e H hi1
       obtain ⟨q2_1, q3_1, q46_1, q47_1, hi, hF⟩ := (hI1 _ _ _).1 hi1
       have F1 := And.intro q2_1 (And.intro q3_1 (And.intro q46_1 q47_1))
       try simp [go_sem, seval, F1]
       refine condQ_mk (fun h11 => ?_) (fun h11 => ?_)
       ·try simp [go_sem] at h11
        have hst := hF
        rw [firstE_step _ h11] at hst
        try simp [go_sem, seval, F1, h11]
        refine callQ_pure0 (rule_slot t ht r (by omega) i h11) ((by first | rfl | (simp [go_sem, ← List.map_take, ← List.map_drop, F1, h11]; done))) ?_
        try simp [go_sem, seval, F1, h11]
        refine condQ_mk (fun h14 => ?_) (fun h14 => ?_)
        ·try simp [go_sem] at h14
         rw [if_pos (by omega)] at hst
         try simp [go_sem, seval, F1, h11]
         exact hQ _ _ (by first | (left; (simp [go_sem, hst]); done) | (right; (simp [go_sem, hst]); done))
        ·try simp [go_sem] at h14
         rw [if_neg (by omega)] at hst
         try simp [go_sem, seval, F1, h11]
         repeat (first | intro _ | (refine ⟨obl, ?_⟩))
         refine nextQ_mk (i + 1) (by omega) ((hI1 _ _ _).2 ⟨?_, ?_, ?_, ?_, (by first | assumption | omega | (simp [go_sem, F1, h11, h2, h4, h6, h8, h14]; done) | (simp_all <;> omega)), (by exact hst)⟩) <;> first | omega | (simp [go_sem, seval, F1, h11] <;> omega)
       ·try simp [go_sem] at h11
        try simp [go_sem, seval, F1]
        exact hQ _ _ (by first | (left; (rw [← hF, show r.right.slots.length - i = 0 by omega]; rfl); done) | (right; (rw [← hF, show r.right.slots.length - i = 0 by omega]; rfl); done))
def othersL (l : List Int) (n : Nat) : List Int := ((List.range n).filter fun (i : Nat) => !mem l i).map fun (b : Nat) => (b : Int)
theorem othersL_mem {l : List Int} {n : Nat} {x : Int} (h : x ∈ othersL l n) : 0 ≤ x ∧ x < n := by
  simp only [othersL, List.mem_map, List.mem_filter, List.mem_range] at h
  obtain ⟨a, ⟨h1, _⟩, rfl⟩ := h
  omega
theorem othersL_len (l : List Int) (n : Nat) : (othersL l n).length ≤ n := by
  unfold othersL; rw [List.length_map]; exact Nat.le_trans (List.length_filter_le _ _) (by simp)
theorem rule_others (l : List Int) (n : Nat) (hn : n ≤ 1000000) : Pure Tryz.prog 90 [dLI l, dI n] (dLI (othersL l n)) := by
  refine Tz.pK ⟨fun t => t == 5, fun _ => []⟩ Tryz.func90 rfl (fun Q hQ => ?_)
  try simp [go_sem, seval]
  obtain ⟨I0, hI0⟩ := mkI fun i e H => (∃ xs : List Int, (e 0 = dLI l) ∧ (e 7 = dI n) ∧ (e 5 = .own 0 xs.length) ∧ (e 8 = dI i) ∧ (H.get 0 = some ⟨3, 1, xs.map cI, false⟩) ∧ (0 < H.next) ∧ (i ≤ n) ∧ (xs.length ≤ i) ∧ (xs = ((List.range i).filter fun (b : Nat) => !mem l b).map (fun (b : Nat) => (b : Int))))
  refine loopK I0 (fun i => n - i) (0) ((hI0 _ _ _).2 ⟨([]), ?_, ?_, ?_, ?_, ?_, ?_, (by first | assumption | omega | (simp [go_sem]; done) | (simp_all; done)), (by simp), (by rfl)⟩) ?_
  iterate 6 (first | omega | (simp [go_sem, seval] <;> omega))
  intro i e H hi0
  obtain ⟨xs, q0_0, q7_0, q5_0, q8_0, g0_0, n0_0, hi, hl, hx⟩ := (hI0 _ _ _).1 hi0
  have x0 := frs n0_0
  have F0 := And.intro q0_0 (And.intro q7_0 (And.intro q5_0 (And.intro q8_0 (And.intro g0_0 x0))))
  try simp [go_sem, seval, F0]
  refine condQ_mk (fun h3 => ?_) (fun h3 => ?_)
  · try simp [go_sem] at h3
    try simp [go_sem, seval, F0, h3]
    repeat (first | intro _ | (refine ⟨obl, ?_⟩))
    refine callQ_pure0 (contains_int l i) ((by first | rfl | (simp [go_sem, ← List.map_take, ← List.map_drop, F0, h3]; done))) ?_
    try simp [go_sem, seval, F0, h3]
    repeat (first | intro _ | (refine ⟨obl, ?_⟩))
    refine condQ_mk (fun h5 => ?_) (fun h5 => ?_)
    ·try simp [go_sem] at h5
     try simp [go_sem, seval, F0, h3, h5]
     repeat (first | intro _ | (refine ⟨obl, ?_⟩))
     refine nextQ_mk (i + 1) (by omega) ((hI0 _ _ _).2 ⟨(xs ++ (if (!mem l i) = true then [(i : Int)] else [])), ?_, ?_, ?_, ?_, ?_, ?_, (by first | assumption | omega | (simp [go_sem, F0, h3, h5]; done) | (simp_all <;> omega)), (by (rw [List.length_append]; split <;> simp <;> omega)), (by (rw [range_filter_succ, ← hx]))⟩) <;> first | omega | (simp [go_sem, seval, F0, h3, h5] <;> omega)
    ·try simp [go_sem] at h5
     try simp [go_sem, seval, F0, h3, h5]
     repeat (first | intro _ | (refine ⟨obl, ?_⟩))
     refine nextQ_mk (i + 1) (by omega) ((hI0 _ _ _).2 ⟨(xs ++ (if (!mem l i) = true then [(i : Int)] else [])), ?_, ?_, ?_, ?_, ?_, ?_, (by first | assumption | omega | (simp [go_sem, F0, h3, h5]; done) | (simp_all <;> omega)), (by (rw [List.length_append]; split <;> simp <;> omega)), (by (rw [range_filter_succ, ← hx]))⟩) <;> first | omega | (simp [go_sem, seval, F0, h3, h5] <;> omega)
  · try simp [go_sem] at h3
    try simp [go_sem, seval, F0]
    exact hQ _ _ (by first | (left; (simp [go_sem, F0, othersL]; rw [hx, show i = n by omega]; simp); done) | (right; (simp [go_sem, F0, othersL]; rw [hx, show i = n by omega]; simp); done))
def keptF (r : Rule) : Int :=
  if subF r.left.graph r.keep ≠ 0 then subF r.left.graph r.keep
  else if morphF (extractG r.left.graph r.keep) r.right.graph r.into ≠ 0 then morphF (extractG r.left.graph r.keep) r.right.graph r.into
  else if injB (extractG r.left.graph r.keep) r.right.graph r.into = false then 11 else 0
structure Rule.ok (r : Rule) : Prop where
  name : r.name.size ≤ 100000
  k1 : r.keep.nodes.length ≤ 1000000
  k2 : r.keep.edges.length ≤ 1000000
  i1 : r.into.nodes.length ≤ 1000000
  i2 : r.into.edges.length ≤ 1000000
  cond : r.cond.ok
  size : r.cond.size ≤ 1000000
theorem rule_kept (r : Rule) (hr : r.ok) : Pure Tryz.prog 39 [r.d] (dI (keptF r)) := by
  obtain ⟨_, hk1, hk2, hi1, hi2, _, _⟩ := hr
  refine Tz.pK ⟨fun t => t == 3 || t == 4, fun _ => []⟩ Tryz.func39 rfl (fun Q hQ => ?_)
  try simp [go_sem, seval]
  refine callQ_pure0 (subgraph_Extract r.left.graph r.keep hk1 hk2) ((by first | rfl | (simp [go_sem, ← List.map_take, ← List.map_drop]; done))) ?_
  try simp [go_sem, seval]
  refine condQ_mk (fun h2 => ?_) (fun h2 => ?_)
  · try simp [go_sem] at h2
    try simp [go_sem, seval]
    exact hQ _ _ (by simp [go_sem, h2, keptF] <;> first | omega | (rw [bei]; simp <;> omega) | (simp_all <;> omega))
  · try simp [go_sem] at h2
    try simp [go_sem, seval]
    refine callQ_pure0 (morphism_Valid (extractG r.left.graph r.keep) r.right.graph r.into) ((by first | rfl | (simp [go_sem, ← List.map_take, ← List.map_drop]; done))) ?_
    try simp [go_sem, seval]
    refine condQ_mk (fun h5 => ?_) (fun h5 => ?_)
    ·try simp [go_sem] at h5
     try simp [go_sem, seval]
     exact hQ _ _ (by simp [go_sem, h2, h5, keptF] <;> first | omega | (rw [bei]; simp <;> omega) | (simp_all <;> omega))
    ·try simp [go_sem] at h5
     try simp [go_sem, seval]
     repeat (first | intro _ | (refine ⟨obl, ?_⟩))
     refine callQ_pure0 (morphism_Injective (extractG r.left.graph r.keep) r.right.graph r.into hi1 hi2) ((by first | rfl | (simp [go_sem, ← List.map_take, ← List.map_drop]; done))) ?_
     try simp [go_sem, seval]
     repeat (first | intro _ | (refine ⟨obl, ?_⟩))
     refine condQ_mk (fun h7 => ?_) (fun h7 => ?_)
     ·try simp [go_sem] at h7
      try simp [go_sem, seval]
      exact hQ _ _ (by simp [go_sem, h2, h5, h7, keptF] <;> first | omega | (rw [bei]; simp <;> omega) | (simp_all <;> omega))
     ·try simp [go_sem] at h7
      try simp [go_sem, seval]
      exact hQ _ _ (by simp [go_sem, h2, h5, h7, keptF] <;> first | omega | (rw [bei]; simp <;> omega) | (simp_all <;> omega))
def absB (t : Types) (g : Graph) (i : Int) : Bool := ((t.nodes[(gN g i).toNat]?).map (·.abs)).getD false
def unfitB (t : Types) (g : Graph) (k : Int) : Bool := !fitsT t (g.edges[k.toNat]?.getD zeroEdge).type (gN g (g.edges[k.toNat]?.getD zeroEdge).from_) (gN g (g.edges[k.toNat]?.getD zeroEdge).to_)
def makeB (t : Types) (g : Graph) (nodes edges : List Int) : Bool := (!(nodes.any (absB t g))) && !(edges.any (unfitB t g))
theorem typedB_in {t : Types} {g : Graph} (h0 : graphF g = 0) (h : typedB t g = true) : (∀ a ∈ g.nodes, 0 ≤ a ∧ a < t.nodes.length) ∧ ∀ x ∈ g.edges, (0 ≤ x.type ∧ x.type < t.edges.length) ∧ (0 ≤ x.from_ ∧ x.from_ < g.nodes.length) ∧ (0 ≤ x.to_ ∧ x.to_ < g.nodes.length) := by
  obtain ⟨h1, h2⟩ := graphF_in h0
  simp [typedB] at h
  exact ⟨fun a ha => ⟨(h1 a ha).1, h.1 a ha⟩, fun x hx => ⟨⟨(h2 x hx).1.1, h.2 x hx⟩, (h2 x hx).2⟩⟩
theorem rule_makable1 (t : Types) (g : Graph) (h0 : graphF g = 0) (hT : typedB t g = true) (i : Int) (hi0 : 0 ≤ i) (hi1 : i < g.nodes.length) : Pure Tryz.prog 91 [dI i, .adr t.c, .adr g.c] (.bool (absB t g i)) := by
  have hk : i.toNat < g.nodes.length := by omega
  have hin := (typedB_in h0 hT).1 _ (lgm hk)
  have hn : g.nodes[i.toNat].toNat < t.nodes.length := by omega
  refine Tz.pK ⟨fun _ => false, fun _ => []⟩ Tryz.func91 rfl (fun Q hQ => ?_)
  try simp [go_sem, seval, lge hk, lge hn]
  repeat (first | intro _ | (refine ⟨obl, ?_⟩))
  exact hQ _ _ (by simp [go_sem, lge hk, lge hn, absB, gN] <;> first | omega | (rw [bei]; simp <;> omega) | (simp_all <;> omega))
theorem rule_makable2 (t : Types) (ht : t.ok) (g : Graph) (h0 : graphF g = 0) (hT : typedB t g = true) (k : Int) (hi0 : 0 ≤ k) (hi1 : k < g.edges.length) : Pure Tryz.prog 92 [dI k, .adr g.c, .adr t.c] (.bool (unfitB t g k)) := by
  have hk : k.toNat < g.edges.length := by omega
  have hin := (typedB_in h0 hT).2 _ (lgm hk)
  have hf : g.edges[k.toNat].from_.toNat < g.nodes.length := by omega
  have hto : g.edges[k.toNat].to_.toNat < g.nodes.length := by omega
  refine Tz.pK ⟨fun t => t == 5, fun _ => []⟩ Tryz.func92 rfl (fun Q hQ => ?_)
  try simp [go_sem, seval, lge hk, lge hf, lge hto]
  repeat (first | intro _ | (refine ⟨obl, ?_⟩))
  refine dcallQ_pure0 (types_Fits t ht _ _ _) ((by first | rfl | (simp [go_sem, ← List.map_take, ← List.map_drop, lge hk, lge hf, lge hto]; done))) ?_
  try simp [go_sem, seval, lge hk, lge hf, lge hto]
  repeat (first | intro _ | (refine ⟨obl, ?_⟩))
  exact hQ _ _ (by simp [go_sem, lge hk, lge hf, lge hto, unfitB, gN] <;> first | omega | (rw [bei]; simp <;> omega) | (simp_all <;> omega))
theorem rule_makable (t : Types) (ht : t.ok) (g : Graph) (h0 : graphF g = 0) (hT : typedB t g = true) (nodes edges : List Int) (hn : ∀ i ∈ nodes, 0 ≤ i ∧ i < g.nodes.length) (he : ∀ k ∈ edges, 0 ≤ k ∧ k < g.edges.length) : Pure Tryz.prog 41 [t.d, g.d, dLI nodes, dLI edges] (.bool (makeB t g nodes edges)) := by
  have h1 := containsFunc_int nodes 91 [.adr t.c, .adr g.c] (absB t g) (by simp [go_sem]) (by simp [go_sem]) (fun i hi => rule_makable1 t g h0 hT i (hn i hi).1 (hn i hi).2)
  have h2 := containsFunc_int edges 92 [.adr g.c, .adr t.c] (unfitB t g) (by simp [go_sem]) (by simp [go_sem]) (fun k hk => rule_makable2 t ht g h0 hT k (he k hk).1 (he k hk).2)
  have hM : makeB t g nodes edges = ((!(nodes.any (absB t g))) && !(edges.any (unfitB t g))) := rfl
  generalize nodes.any (absB t g) = u at *
  generalize edges.any (unfitB t g) = v at *
  rw [hM]
  refine Tz.pK ⟨fun _ => false, fun _ => []⟩ Tryz.func41 rfl (fun Q hQ => ?_)
  try simp [go_sem, seval]
  repeat (first | intro _ | (refine ⟨obl, ?_⟩))
  refine callQ_pure0 (h1) ((by first | rfl | (simp [go_sem, ← List.map_take, ← List.map_drop]; done))) ?_
  try simp [go_sem, seval]
  repeat (first | intro _ | (refine ⟨obl, ?_⟩))
  refine gcallQ_pure0 (fun hg => h2) (fun hg => (by first | rfl | (simp [go_sem, ← List.map_take, ← List.map_drop]; done))) ?_
  try simp [go_sem, seval]
  repeat (first | intro _ | (refine ⟨obl, ?_⟩))
  exact hQ _ _ (by simp [go_sem] <;> first | omega | (rw [bei]; simp <;> omega) | (simp_all <;> omega))
def Rule.freshN (r : Rule) : List Int := othersL r.into.nodes r.right.graph.nodes.length
def Rule.freshE (r : Rule) : List Int := othersL r.into.edges r.right.graph.edges.length
theorem rule_created (r : Rule) (h1 : r.right.graph.nodes.length ≤ 1000000) (h2 : r.right.graph.edges.length ≤ 1000000) : Pure Tryz.prog 40 [r.d] (.tup [dLI r.freshN, dLI r.freshE]) := by
  refine Tz.pK ⟨fun _ => false, fun _ => []⟩ Tryz.func40 rfl (fun Q hQ => ?_)
  try simp [go_sem, seval]
  repeat (first | intro _ | (refine ⟨obl, ?_⟩))
  refine dcallQ_pure0 (rule_others r.into.nodes _ h1) ((by first | rfl | (simp [go_sem, ← List.map_take, ← List.map_drop]; done))) ?_
  try simp [go_sem, seval]
  repeat (first | intro _ | (refine ⟨obl, ?_⟩))
  refine dcallQ_pure0 (rule_others r.into.edges _ h2) ((by first | rfl | (simp [go_sem, ← List.map_take, ← List.map_drop]; done))) ?_
  try simp [go_sem, seval]
  repeat (first | intro _ | (refine ⟨obl, ?_⟩))
  exact hQ _ _ (by simp [go_sem, Rule.freshN, Rule.freshE] <;> first | omega | (rw [bei]; simp <;> omega) | (simp_all <;> omega))
def ruleF (t : Types) (r : Rule) : Int :=
  if (validF t).2 ≠ 0 then (validF t).2
  else if isName r.name = false then 2
  else if patternF t r.left ≠ 0 then patternF t r.left
  else if rightF t r ≠ 0 then rightF t r
  else if keptF r ≠ 0 then keptF r
  else if makeB t r.right.graph r.freshN r.freshE = false then 13
  else condF t r.left r.cond
theorem rightF_of {t : Types} {r : Rule} (h : rightF t r = 0) : graphF r.right.graph = 0 ∧ typedB t r.right.graph = true := by
  unfold rightF at h
  split at h
  · rename_i h1; exact absurd h h1
  · rename_i h1
    split at h
    ·cases h
    ·rename_i h2; exact ⟨by omega, by simpa using h2⟩
theorem rule_Valid (t : Types) (ht : t.ok) (r : Rule) (hr : r.ok) : Pure Tryz.prog 12 [t.d, r.d] (dI (ruleF t r)) := by
  have hcv := condition_Valid t ht r.left r.cond hr.cond hr.size
  rw [Cond.c_eq] at hcv
  refine Tz.pK ⟨fun _ => false, fun _ => []⟩ Tryz.func12 rfl (fun Q hQ => ?_)
  try simp [go_sem, seval]
  refine callQ_pure0 (types_Valid t ht) ((by first | rfl | (simp [go_sem, ← List.map_take, ← List.map_drop]; done))) ?_
  try simp [go_sem, seval]
  refine condQ_mk (fun h2 => ?_) (fun h2 => ?_)
  · try simp [go_sem] at h2
    try simp [go_sem, seval]
    exact hQ _ _ (by simp [go_sem, h2, ruleF] <;> first | omega | (rw [bei]; simp <;> omega) | (simp_all <;> omega))
  · try simp [go_sem] at h2
    try simp [go_sem, seval]
    repeat (first | intro _ | (refine ⟨obl, ?_⟩))
    refine callQ_pure0 (token_IsName r.name hr.name) ((by first | rfl | (simp [go_sem, ← List.map_take, ← List.map_drop]; done))) ?_
    try simp [go_sem, seval]
    repeat (first | intro _ | (refine ⟨obl, ?_⟩))
    refine condQ_mk (fun h4 => ?_) (fun h4 => ?_)
    ·try simp [go_sem] at h4
     try simp [go_sem, seval]
     exact hQ _ _ (by simp [go_sem, h2, h4, ruleF] <;> first | omega | (rw [bei]; simp <;> omega) | (simp_all <;> omega))
    ·try simp [go_sem] at h4
     try simp [go_sem, seval]
     refine callQ_pure0 (attribute_Valid t ht r.left) ((by first | rfl | (simp [go_sem, ← List.map_take, ← List.map_drop]; done))) ?_
     try simp [go_sem, seval]
     refine condQ_mk (fun h7 => ?_) (fun h7 => ?_)
     ·try simp [go_sem] at h7
      try simp [go_sem, seval]
      exact hQ _ _ (by simp [go_sem, h2, h4, h7, ruleF] <;> first | omega | (rw [bei]; simp <;> omega) | (simp_all <;> omega))
     ·try simp [go_sem] at h7
      try simp [go_sem, seval]
      refine callQ_pure0 (rule_right t ht r) ((by first | rfl | (simp [go_sem, ← List.map_take, ← List.map_drop]; done))) ?_
      try simp [go_sem, seval]
      refine condQ_mk (fun h10 => ?_) (fun h10 => ?_)
      ·try simp [go_sem] at h10
       try simp [go_sem, seval]
       exact hQ _ _ (by simp [go_sem, h2, h4, h7, h10, ruleF] <;> first | omega | (rw [bei]; simp <;> omega) | (simp_all <;> omega))
      ·try simp [go_sem] at h10
       have hg := rightF_of h10
       have hgl := graphF_le hg.1
       try simp [go_sem, seval]
       refine callQ_pure0 (rule_kept r hr) ((by first | rfl | (simp [go_sem, ← List.map_take, ← List.map_drop]; done))) ?_
       try simp [go_sem, seval]
       refine condQ_mk (fun h13 => ?_) (fun h13 => ?_)
       ·try simp [go_sem] at h13
        try simp [go_sem, seval]
        exact hQ _ _ (by simp [go_sem, h2, h4, h7, h10, h13, ruleF] <;> first | omega | (rw [bei]; simp <;> omega) | (simp_all <;> omega))
       ·try simp [go_sem] at h13
        try simp [go_sem, seval]
        refine callQ_pure0 (rule_created r (by omega) (by omega)) ((by first | rfl | (simp [go_sem, ← List.map_take, ← List.map_drop]; done))) ?_
        try simp [go_sem, seval]
        repeat (first | intro _ | (refine ⟨obl, ?_⟩))
        refine callQ_pure0 (rule_makable t ht r.right.graph hg.1 hg.2 r.freshN r.freshE (fun i hi => othersL_mem hi) (fun i hi => othersL_mem hi)) ((by first | rfl | (simp [go_sem, ← List.map_take, ← List.map_drop]; done))) ?_
        try simp [go_sem, seval]
        repeat (first | intro _ | (refine ⟨obl, ?_⟩))
        refine condQ_mk (fun h16 => ?_) (fun h16 => ?_)
        ·try simp [go_sem] at h16
         try simp [go_sem, seval]
         exact hQ _ _ (by simp [go_sem, h2, h4, h7, h10, h13, h16, ruleF] <;> first | omega | (rw [bei]; simp <;> omega) | (simp_all <;> omega))
        ·try simp [go_sem] at h16
         try simp [go_sem, seval]
         refine callQ_pure0 (hcv) ((by first | rfl | (simp [go_sem, ← List.map_take, ← List.map_drop]; done))) ?_
         try simp [go_sem, seval]
         exact hQ _ _ (by simp [go_sem, h2, h4, h7, h10, h13, h16, ruleF] <;> first | omega | (rw [bei]; simp <;> omega) | (simp_all <;> omega))
end Go.Abs
end
section
set_option maxRecDepth 8000
open Go Go.Proofs
namespace Go.Abs
theorem idx_posL {l : List Int} {v : Int} (hs : l.Pairwise (· < ·)) (hm : mem l v = true) : idx l v = posL l v := by
  obtain ⟨i, hi, he⟩ := List.getElem_of_mem ((mem_iff l v).1 hm)
  have hpw := List.pairwise_iff_getElem.1 hs
  rw [idx_some (i := i) (fun j hj h => by
     have hjl : j < l.length := by omega
     rw [lge hjl] at h
     have := hpw j i hjl hi hj
     simp at h; omega) (by rw [lge hi, he])]
  rw [posL_eq (n := i) (fun j hj h => by have := hpw j i hj hi h; omega) (by omega) (fun _ => by omega)]
theorem listE_zero {α : Type} {f : α → Int} : ∀ {l : List α}, listE f l = 0 → ∀ x ∈ l, f x = 0
  | [], _, x, hx => by cases hx
  | a :: l, h, x, hx => by
    unfold listE at h
    split at h
    ·rename_i h1; exact absurd h h1
    ·rename_i h1
     rcases List.mem_cons.1 hx with h2 | h2
     ·subst h2; omega
     ·exact listE_zero h x h2
theorem subF_ends {g : Graph} {p : Part} (h : subF g p = 0) : ∀ k ∈ p.edges, mem p.nodes (g.edges[k.toNat]?.getD zeroEdge).from_ = true ∧ mem p.nodes (g.edges[k.toNat]?.getD zeroEdge).to_ = true := by
  unfold subF partF at h
  split at h
  · rename_i h1; exact absurd h h1
  · split at h
    ·rename_i h2; exact absurd h h2
    ·split at h
     ·rename_i h3; exact absurd h h3
     ·intro k hk
      have := listE_zero h k hk
      unfold dangE at this
      split at this
      ·rename_i h4; simpa using h4
      ·cases this
theorem ref07_Extract (g : Graph) (p : Part) (hl : p.nodes.length ≤ 1000000) (hle : p.edges.length ≤ 1000000) : Pure Tryz.prog 101 [g.d, p.d] (.tup [(extractG g p).d, (partR g p).d, dI (subF g p)]) := by
  refine Tz.pK ⟨fun t => t == 4 || t == 5 || t == 8 || t == 11 || t == 76 || t == 80, fun r => match r with | 8 => [(0, 11), (1, 11)] | 12 => [(0, 9), (1, 9), (2, 9), (3, 9), (5, 9), (6, 9), (7, 9), (8, 9)] | 13 => [(0, 15), (1, 15)] | 14 => [(0, 1), (1, 2), (1, 3), (0, 4), (0, 5), (1, 5), (2, 5), (3, 5), (4, 5), (1, 6), (4, 6), (5, 6), (1, 7), (4, 7), (5, 7), (0, 8)] | _ => []⟩ Tryz.func101 rfl (fun Q hQ => ?_)
  try simp [go_sem, seval]
  refine callQ_pure0 (ref07_Valid g p) ((by first | rfl | (simp [go_sem, ← List.map_take, ← List.map_drop]; done))) ?_
  try simp [go_sem, seval]
  refine condQ_mk (fun h2 => ?_) (fun h2 => ?_)
  · try simp [go_sem] at h2
    try simp [go_sem, seval]
    exact hQ _ _ (by first | (left; (simp [go_sem, extractG, partR, h2]); done) | (right; (simp [go_sem, extractG, partR, h2]); done))
  · try simp [go_sem] at h2
    obtain ⟨hg, hs, hin, hie⟩ := subF_of h2
    have hends := subF_ends h2
    try simp [go_sem, seval]
    obtain ⟨I0, hI0⟩ := mkI fun i e H => (∃ xs : List Int, (e 2 = .adr g.c) ∧ (e 3 = .adr p.c) ∧ (e 4 = .ptr 0 1 0 0) ∧ (e 5 = .ptr 1 1 0 0) ∧ (e 8 = .ptr 2 1 0 0) ∧ (e 9 = dI i) ∧ (H.get 0 = some ⟨29, 2, [[.nil, .nil]], false⟩) ∧ (0 < H.next) ∧ (H.get 1 = some ⟨36, 2, [[.nil, .nil]], false⟩) ∧ (1 < H.next) ∧ (H.get 2 = some ⟨29, 2, [[.own 3 xs.length, .nil]], false⟩) ∧ (2 < H.next) ∧ (H.get 3 = some ⟨3, 1, xs.map cI, false⟩) ∧ (3 < H.next) ∧ (i ≤ p.nodes.length) ∧ (xs = (p.nodes.take i).map (gN g)))
    refine loopKG (Ghosts.step (Ghosts.refl _) 2 0 0 3 1 _ _ (rfl) rfl rfl rfl) I0 (fun i => p.nodes.length - i) (0) ((hI0 _ _ _).2 ⟨([]), ?_, ?_, ?_, ?_, ?_, ?_, ?_, ?_, ?_, ?_, ?_, ?_, ?_, ?_, (by first | assumption | omega | (simp [go_sem]; done) | (simp_all; done)), (by rfl)⟩) ?_
    iterate 14 (first | omega | (simp [go_sem, seval] <;> omega))
    intro i e H hi0
    obtain ⟨xs, q2_0, q3_0, q4_0, q5_0, q8_0, q9_0, g0_0, n0_0, g1_0, n1_0, g2_0, n2_0, g3_0, n3_0, hi, hx⟩ := (hI0 _ _ _).1 hi0
    have x0 := frs n0_0
    have x1 := frs n1_0
    have x2 := frs n2_0
    have x3 := frs n3_0
    have F0 := And.intro q2_0 (And.intro q3_0 (And.intro q4_0 (And.intro q5_0 (And.intro q8_0 (And.intro q9_0 (And.intro g0_0 (And.intro g1_0 (And.intro g2_0 (And.intro g3_0 (And.intro x0 (And.intro x1 (And.intro x2 x3))))))))))))
    try simp [go_sem, seval, F0]
    repeat first | intro _ | refine ⟨obs, ?_⟩
    refine condQ_mk (fun h6 => ?_) (fun h6 => ?_)
    ·try simp [go_sem] at h6
     have hin' := hin _ (lgm h6)
     have hk : p.nodes[i].toNat < g.nodes.length := by omega
     have hxl : xs.length = i := by rw [hx]; simp; omega
     try simp [go_sem, seval, F0, h6, lge hk, gN]
     repeat first | intro _ | refine ⟨obs, ?_⟩
     refine nextQ_mk (i + 1) (by omega) ((hI0 _ _ _).2 ⟨(xs ++ [gN g p.nodes[i]]), ?_, ?_, ?_, ?_, ?_, ?_, ?_, ?_, ?_, ?_, ?_, ?_, ?_, ?_, (by first | assumption | omega | (simp [go_sem, F0, h6, lge hk, gN, h2]; done) | (simp_all <;> omega)), (by (rw [map_take_succ _ h6, ← hx]))⟩) <;> first | omega | (simp [go_sem, seval, F0, h6, lge hk, gN] <;> omega)
    ·try simp [go_sem] at h6
     have hX : xs = p.nodes.map (gN g) := by rw [hx, map_take_end _ (by omega)]
     try simp [go_sem, seval, F0]
     obtain ⟨I2, hI2⟩ := mkI fun k e H => (∃ j : Nat, ∃ ys : List Edge, (e 2 = .adr g.c) ∧ (e 3 = .adr p.c) ∧ (e 4 = .ptr 0 1 0 0) ∧ (e 5 = .ptr 1 1 0 0) ∧ (e 8 = .ptr 2 1 0 0) ∧ (e 10 = dI k) ∧ (H.get 0 = some ⟨29, 2, [[.nil, .nil]], false⟩) ∧ (0 < H.next) ∧ (H.get 1 = some ⟨36, 2, [[.nil, .nil]], false⟩) ∧ (1 < H.next) ∧ (H.get 2 = some ⟨29, 2, [[.own 3 xs.length, .own j ys.length]], false⟩) ∧ (2 < H.next) ∧ (H.get 3 = some ⟨3, 1, xs.map cI, false⟩) ∧ (3 < H.next) ∧ (H.get j = some ⟨124, 3, ys.map Edge.c, false⟩) ∧ (j < H.next) ∧ (k ≤ p.edges.length) ∧ (ys = (p.edges.take k).map (gEd g p)) ∧ (j ≠ 0) ∧ (j ≠ 1) ∧ (j ≠ 2) ∧ (j ≠ 3))
     refine loopKG (Ghosts.step (Ghosts.refl _) 2 0 1 124 3 _ _ (g2_0) rfl rfl rfl) I2 (fun k => p.edges.length - k) (0) ((hI2 _ _ _).2 ⟨(H.next), ([]), ?_, ?_, ?_, ?_, ?_, ?_, ?_, ?_, ?_, ?_, ?_, ?_, ?_, ?_, ?_, ?_, (by first | assumption | omega | (simp [go_sem, F0]; done) | (simp_all; done)), (by rfl), (by omega), (by omega), (by omega), (by omega)⟩) ?_
     iterate 16 (first | omega | (simp [go_sem, seval, F0] <;> omega))
     intro k e H hi2
     obtain ⟨j, ys, q2_2, q3_2, q4_2, q5_2, q8_2, q10_2, g0_2, n0_2, g1_2, n1_2, g2_2, n2_2, g3_2, n3_2, gj_2, nj_2, hk, hy, j0, j1, j2, j3⟩ := (hI2 _ _ _).1 hi2
     have x0 := frs n0_2
     have x1 := frs n1_2
     have x2 := frs n2_2
     have x3 := frs n3_2
     have xj := frs nj_2
     have F2 := And.intro q2_2 (And.intro q3_2 (And.intro q4_2 (And.intro q5_2 (And.intro q8_2 (And.intro q10_2 (And.intro g0_2 (And.intro g1_2 (And.intro g2_2 (And.intro g3_2 (And.intro gj_2 (And.intro x0 (And.intro x1 (And.intro x2 (And.intro x3 xj))))))))))))))
     try simp [go_sem, seval, F2, j0, j1, j2, j3, j0.symm, j1.symm, j2.symm, j3.symm]
     repeat first | intro _ | refine ⟨obs, ?_⟩
     refine condQ_mk (fun h10 => ?_) (fun h10 => ?_)
     ·try simp [go_sem] at h10
      have hie' := hie _ (lgm h10)
      have hke : p.edges[k].toNat < g.edges.length := by omega
      have hyl : ys.length = k := by rw [hy]; simp; omega
      have hen := hends _ (lgm h10)
      rw [lge hke, Option.getD_some] at hen
      have hi1 := idx_posL hs hen.1
      have hi2 := idx_posL hs hen.2
      try simp [go_sem, seval, F2, j0, j1, j2, j3, j0.symm, j1.symm, j2.symm, j3.symm, h10, lge hke, gEd, hi1, hi2]
      repeat first | intro _ | refine ⟨obs, ?_⟩
      refine dcallQ_pure0 (ref07_index p.nodes _) ((by first | rfl | (simp [go_sem, ← List.map_take, ← List.map_drop, F2, j0, j1, j2, j3, j0.symm, j1.symm, j2.symm, j3.symm, h10, lge hke, gEd, hi1, hi2]; done))) ?_
      try simp [go_sem, seval, F2, j0, j1, j2, j3, j0.symm, j1.symm, j2.symm, j3.symm, h10, lge hke, gEd, hi1, hi2]
      repeat first | intro _ | refine ⟨obs, ?_⟩
      refine dcallQ_pure0 (ref07_index p.nodes _) ((by first | rfl | (simp [go_sem, ← List.map_take, ← List.map_drop, F2, j0, j1, j2, j3, j0.symm, j1.symm, j2.symm, j3.symm, h10, lge hke, gEd, hi1, hi2]; done))) ?_
      try simp [go_sem, seval, F2, j0, j1, j2, j3, j0.symm, j1.symm, j2.symm, j3.symm, h10, lge hke, gEd, hi1, hi2]
      repeat first | intro _ | refine ⟨obs, ?_⟩
      refine nextQ_mk (k + 1) (by omega) ((hI2 _ _ _).2 ⟨(j), (ys ++ [gEd g p p.edges[k]]), ?_, ?_, ?_, ?_, ?_, ?_, ?_, ?_, ?_, ?_, ?_, ?_, ?_, ?_, ?_, ?_, (by first | assumption | omega | (simp [go_sem, F2, j0, j1, j2, j3, j0.symm, j1.symm, j2.symm, j3.symm, h10, lge hke, gEd, hi1, hi2, h2, h6]; done) | (simp_all <;> omega)), (by (rw [map_take_succ _ h10, ← hy])), (by first | assumption | omega | (simp [go_sem, F2, j0, j1, j2, j3, j0.symm, j1.symm, j2.symm, j3.symm, h10, lge hke, gEd, hi1, hi2, h2, h6]; done) | (simp_all <;> omega)), (by first | assumption | omega | (simp [go_sem, F2, j0, j1, j2, j3, j0.symm, j1.symm, j2.symm, j3.symm, h10, lge hke, gEd, hi1, hi2, h2, h6]; done) | (simp_all <;> omega)), (by first | assumption | omega | (simp [go_sem, F2, j0, j1, j2, j3, j0.symm, j1.symm, j2.symm, j3.symm, h10, lge hke, gEd, hi1, hi2, h2, h6]; done) | (simp_all <;> omega)), (by first | assumption | omega | (simp [go_sem, F2, j0, j1, j2, j3, j0.symm, j1.symm, j2.symm, j3.symm, h10, lge hke, gEd, hi1, hi2, h2, h6]; done) | (simp_all <;> omega))⟩) <;> first | omega | (simp [go_sem, seval, F2, j0, j1, j2, j3, j0.symm, j1.symm, j2.symm, j3.symm, h10, lge hke, gEd, hi1, hi2] <;> omega)
     ·try simp [go_sem] at h10
      have hY : ys = p.edges.map (gEd g p) := by rw [hy, map_take_end _ (by omega)]
      try simp [go_sem, seval, F2, j0, j1, j2, j3, j0.symm, j1.symm, j2.symm, j3.symm]
      repeat first | intro _ | refine ⟨obs, ?_⟩
      exact hQ _ _ (by first | (left; (simp [go_sem, F2, j0, j1, j2, j3, j0.symm, j1.symm, j2.symm, j3.symm, extractG, partR, h2, hX, hY]); done) | (right; (simp [go_sem, F2, j0, j1, j2, j3, j0.symm, j1.symm, j2.symm, j3.symm, extractG, partR, h2, hX, hY]); done))
theorem ref24_slot (t : Types) (ht : t.ok) (p : Pattern) (hr : p.graph.nodes.length ≤ 1000) (hs1 : p.slots.length ≤ 1000) (i : Nat) (hi : i < p.slots.length) : Pure Tryz.prog 202 [t.d, p.d, dI i] (dI (slotRE t p i)) := by
  have hS := slotRE_at (t := t) hi
  have h8 := attrsT_len ht (p.kind p.slots[i].node)
  refine Tz.pK ⟨fun t => t == 7, fun _ => []⟩ Tryz.func202 rfl (fun Q hQ => ?_)
  try simp [go_sem, seval, lge hi, hi]
  repeat (first | intro _ | (refine ⟨obl, ?_⟩))
  refine condQ_mk (fun h2 => ?_) (fun h2 => ?_)
  · try simp [go_sem] at h2
    have hE : slotE t p p.slots[i] ≠ 0 := by
     unfold slotE; rw [if_neg]; decide; intro h; simp [attrB] at h; omega
    rw [if_pos hE] at hS
    try simp [go_sem, seval, lge hi, hi]
    exact hQ _ _ (by first | (left; (simp [go_sem, hS]); done) | (right; (simp [go_sem, hS]); done))
  · try simp [go_sem] at h2
    have hn : p.slots[i].node.toNat < p.graph.nodes.length := by omega
    have hk : p.kind p.slots[i].node = p.graph.nodes[p.slots[i].node.toNat] := by simp [Pattern.kind, hn]
    rw [hk] at h8
    try simp [go_sem, seval, lge hi, hi, lge hn, hk]
    repeat (first | intro _ | (refine ⟨obl, ?_⟩))
    refine dcallQ_pure0 (ref04_Attrs t ht p.graph.nodes[p.slots[i].node.toNat]) ((by first | rfl | (simp [go_sem, ← List.map_take, ← List.map_drop, lge hi, hi, lge hn, hk]; done))) ?_
    try simp [go_sem, seval, lge hi, hi, lge hn, hk]
    repeat (first | intro _ | (refine ⟨obl, ?_⟩))
    refine condQ_mk (fun h5 => ?_) (fun h5 => ?_)
    ·try simp [go_sem] at h5
     have hE : slotE t p p.slots[i] ≠ 0 := by
      unfold slotE; rw [if_neg]; decide; intro h; simp [attrB, inF, hk] at h; omega
     rw [if_pos hE] at hS
     try simp [go_sem, seval, lge hi, hi, lge hn, hk]
     exact hQ _ _ (by first | (left; (simp [go_sem, hS]); done) | (right; (simp [go_sem, hS]); done))
    ·try simp [go_sem] at h5
     have hE : slotE t p p.slots[i] = 0 := by
      unfold slotE; rw [if_pos]; simp [attrB, inF, hk]; omega
     rw [if_neg (by omega)] at hS
     try simp [go_sem, seval, lge hi, hi, lge hn, hk]
     obtain ⟨I0, hI0⟩ := mkI fun k e H => ((e 4 = .adr p.c) ∧ (e 2 = dI i) ∧ (e 7 = .ptr 0 1 0 0) ∧ (e 10 = dI k) ∧ (H.get 0 = some ⟨150, 4, [p.slots[i].c], false⟩) ∧ (0 < H.next) ∧ (k ≤ i) ∧ (((p.slots.take k).any (sameSlot p.slots[i])) = false))
     refine loopK I0 (fun k => i - k) (0) ((hI0 _ _ _).2 ⟨?_, ?_, ?_, ?_, ?_, ?_, (by first | assumption | omega | (simp [go_sem, lge hi, hi, lge hn, hk]; done) | (simp_all; done)), (by rfl)⟩) ?_
     iterate 6 (first | omega | (simp [go_sem, seval, lge hi, hi, lge hn, hk] <;> omega))
     intro k e H hi0
     obtain ⟨q4_0, q2_0, q7_0, q10_0, g0_0, n0_0, hk2, hne⟩ := (hI0 _ _ _).1 hi0
     have x0 := frs n0_0
     have F0 := And.intro q4_0 (And.intro q2_0 (And.intro q7_0 (And.intro q10_0 (And.intro g0_0 x0))))
     try simp [go_sem, seval, lge hi, hi, lge hn, hk, F0]
     refine condQ_mk (fun h8 => ?_) (fun h8 => ?_)
     ·try simp [go_sem] at h8
      have hkl : k < p.slots.length := by omega
      try simp [go_sem, seval, lge hi, hi, lge hn, hk, F0, h8, hkl]
      repeat (first | intro _ | (refine ⟨obl, ?_⟩))
      refine condQ_mk (fun h10 => ?_) (fun h10 => ?_)
      ·try simp [go_sem] at h10
       try simp [go_sem, seval, lge hi, hi, lge hn, hk, F0, h8, hkl]
       have hb := any_take_of (p := sameSlot p.slots[i]) h8 hkl (by simp [sameSlot]; omega)
       exact hQ _ _ (by first | (left; (rw [hS, if_pos hb]; simp [go_sem]); done) | (right; (rw [hS, if_pos hb]; simp [go_sem]); done))
      ·try simp [go_sem] at h10
       try simp [go_sem, seval, lge hi, hi, lge hn, hk, F0, h8, hkl]
       repeat (first | intro _ | (refine ⟨obl, ?_⟩))
       refine nextQ_mk (k + 1) (by omega) ((hI0 _ _ _).2 ⟨?_, ?_, ?_, ?_, ?_, ?_, (by first | assumption | omega | (simp [go_sem, lge hi, hi, lge hn, hk, F0, h8, hkl, h2, h5, h10]; done) | (simp_all <;> omega)), (by (rw [any_take_succ _ _ _ hkl, hne]; simp [sameSlot]; omega))⟩) <;> first | omega | (simp [go_sem, seval, lge hi, hi, lge hn, hk, F0, h8, hkl] <;> omega)
     ·try simp [go_sem] at h8
      have hb := any_take_end hne (show k = i by omega)
      try simp [go_sem, seval, lge hi, hi, lge hn, hk, F0]
      exact hQ _ _ (by first | (left; (rw [hS, if_neg (by simp [hb])]; simp [go_sem]); done) | (right; (rw [hS, if_neg (by simp [hb])]; simp [go_sem]); done))
theorem ref24_right (t : Types) (ht : t.ok) (r : Rule) : Pure Tryz.prog 118 [t.d, r.d] (dI (rightF t r)) := by
  refine Tz.pK ⟨fun _ => false, fun _ => []⟩ Tryz.func118 rfl (fun Q hQ => ?_)
  try simp [go_sem, seval]
  refine callQ_pure0 (ref05_Valid r.right.graph) ((by first | rfl | (simp [go_sem, ← List.map_take, ← List.map_drop]; done))) ?_
  try simp [go_sem, seval]
  refine condQ_mk (fun h2 => ?_) (fun h2 => ?_)
  · try simp [go_sem] at h2
    try simp [go_sem, seval]
    exact hQ _ _ (by first | (left; (simp [go_sem, rightF, h2]); done) | (right; (simp [go_sem, rightF, h2]); done))
  · try simp [go_sem] at h2
    have hg := graphF_le h2
    try simp [go_sem, seval]
    repeat (first | intro _ | (refine ⟨obl, ?_⟩))
    refine callQ_pure0 (ref17_Typed t r.right.graph) ((by first | rfl | (simp [go_sem, ← List.map_take, ← List.map_drop]; done))) ?_
    try simp [go_sem, seval]
    repeat (first | intro _ | (refine ⟨obl, ?_⟩))
    refine condQ_mk (fun h4 => ?_) (fun h4 => ?_)
    ·try simp [go_sem] at h4
     rw [typed17_eq h2] at h4
     try simp [go_sem, seval]
     exact hQ _ _ (by first | (left; (simp [go_sem, rightF, h2, h4]); done) | (right; (simp [go_sem, rightF, h2, h4]); done))
    ·try simp [go_sem] at h4
     rw [typed17_eq h2] at h4
     try simp [go_sem, seval]
     repeat (first | intro _ | (refine ⟨obl, ?_⟩))
     refine condQ_mk (fun h6 => ?_) (fun h6 => ?_)
     ·try simp [go_sem] at h6
      have hR : rightF t r = 1 := by unfold rightF; rw [if_neg (by omega), if_neg (by simp [h4]), if_pos (by omega)]
      try simp [go_sem, seval]
      exact hQ _ _ (by first | (left; (simp [go_sem, hR]); done) | (right; (simp [go_sem, hR]); done))
     ·try simp [go_sem] at h6
      have h6' : ¬ (r.right.vars ≠ r.left.vars ∨ 0 < r.right.tests.length) := by
       rintro (h | h)
       ·exact h h6.1
       ·have := h6.2; simp [this] at h
      try simp [go_sem, seval]
      repeat (first | intro _ | (refine ⟨obl, ?_⟩))
      refine condQ_mk (fun h8 => ?_) (fun h8 => ?_)
      ·try simp [go_sem] at h8
       have hR : rightF t r = 3 := by unfold rightF; rw [if_neg (by omega), if_neg (by simp [h4]), if_neg h6', if_pos (by omega)]
       try simp [go_sem, seval]
       exact hQ _ _ (by first | (left; (simp [go_sem, hR]); done) | (right; (simp [go_sem, hR]); done))
      ·try simp [go_sem] at h8
       have hR : rightF t r = firstE (slotRE t r.right) 0 r.right.slots.length := by unfold rightF; rw [if_neg (by omega), if_neg (by simp [h4]), if_neg h6', if_neg (by omega)]
       try simp [go_sem, seval]
       obtain ⟨I0, hI0⟩ := mkI fun i e H => ((e 2 = .adr t.c) ∧ (e 3 = .adr r.c) ∧ (e 6 = dI i) ∧ (i ≤ r.right.slots.length) ∧ (firstE (slotRE t r.right) i (r.right.slots.length - i) = rightF t r))
       refine loopK I0 (fun i => r.right.slots.length - i) (0) ((hI0 _ _ _).2 ⟨?_, ?_, ?_, (by first | assumption | omega | (simp [go_sem]; done) | (simp_all; done)), (by (exact hR.symm))⟩) ?_
       iterate 3 (first | omega | (simp [go_sem, seval] <;> omega))
       intro i e H hi0
       obtain ⟨q2_0, q3_0, q6_0, hi, hF⟩ := (hI0 _ _ _).1 hi0
       have F0 := And.intro q2_0 (And.intro q3_0 q6_0)
       try simp [go_sem, seval, F0]
       repeat (first | intro _ | (refine ⟨obl, ?_⟩))
       refine condQ_mk (fun h11 => ?_) (fun h11 => ?_)
       ·try simp [go_sem] at h11
        have hst := hF
        rw [firstE_step _ h11] at hst
        try simp [go_sem, seval, F0, h11]
        refine callQ_pure0 (ref24_slot t ht r.right (by omega) (by omega) i h11) ((by first | rfl | (simp [go_sem, ← List.map_take, ← List.map_drop, F0, h11]; done))) ?_
        try simp [go_sem, seval, F0, h11]
        refine condQ_mk (fun h14 => ?_) (fun h14 => ?_)
        ·try simp [go_sem] at h14
         rw [if_pos (by omega)] at hst
         try simp [go_sem, seval, F0, h11]
         exact hQ _ _ (by first | (left; (simp [go_sem, hst]); done) | (right; (simp [go_sem, hst]); done))
        ·try simp [go_sem] at h14
         rw [if_neg (by omega)] at hst
         try simp [go_sem, seval, F0, h11]
         repeat (first | intro _ | (refine ⟨obl, ?_⟩))
         refine nextQ_mk (i + 1) (by omega) ((hI0 _ _ _).2 ⟨?_, ?_, ?_, (by first | assumption | omega | (simp [go_sem, F0, h11, h2, h4, h6, h8, h14]; done) | (simp_all <;> omega)), (by exact hst)⟩) <;> first | omega | (simp [go_sem, seval, F0, h11] <;> omega)
       ·try simp [go_sem] at h11
        try simp [go_sem, seval, F0]
        exact hQ _ _ (by first | (left; (rw [← hF, show r.right.slots.length - i = 0 by omega]; rfl); done) | (right; (rw [← hF, show r.right.slots.length - i = 0 by omega]; rfl); done))
theorem ref24_has (l : List Int) (v : Int) : Pure Tryz.prog 257 [dLI l, dI v] (.bool (mem l v)) := by
  refine Tz.pK ⟨fun _ => false, fun _ => []⟩ Tryz.func257 rfl (fun Q hQ => ?_)
  try simp [go_sem, seval]
  obtain ⟨I0, hI0⟩ := mkI fun i e H => ((e 0 = dLI l) ∧ (e 1 = dI v) ∧ (e 5 = dI i) ∧ (i ≤ l.length) ∧ (∀ j, j < i → l[j]? ≠ some v))
  refine loopK I0 (fun i => l.length - i) (0) ((hI0 _ _ _).2 ⟨?_, ?_, ?_, (by first | assumption | omega | (simp [go_sem]; done) | (simp_all; done)), (by (intro j hj; omega))⟩) ?_
  iterate 3 (first | omega | (simp [go_sem, seval] <;> omega))
  intro i e H hi0
  obtain ⟨q0_0, q1_0, q5_0, hi, hne⟩ := (hI0 _ _ _).1 hi0
  have F0 := And.intro q0_0 (And.intro q1_0 q5_0)
  try simp [go_sem, seval, F0]
  repeat (first | intro _ | (refine ⟨obl, ?_⟩))
  refine condQ_mk (fun h2 => ?_) (fun h2 => ?_)
  · try simp [go_sem] at h2
    try simp [go_sem, seval, F0, h2]
    repeat (first | intro _ | (refine ⟨obl, ?_⟩))
    refine condQ_mk (fun h4 => ?_) (fun h4 => ?_)
    ·try simp [go_sem] at h4
     try simp [go_sem, seval, F0, h2]
     have hm : mem l v = true := (mem_iff l v).2 (h4 ▸ lgm h2)
     exact hQ _ _ (by first | (left; (simp [go_sem, hm]); done) | (right; (simp [go_sem, hm]); done))
    ·try simp [go_sem] at h4
     try simp [go_sem, seval, F0, h2]
     repeat (first | intro _ | (refine ⟨obl, ?_⟩))
     refine nextQ_mk (i + 1) (by omega) ((hI0 _ _ _).2 ⟨?_, ?_, ?_, (by first | assumption | omega | (simp [go_sem, F0, h2, h4]; done) | (simp_all <;> omega)), (by (exact all_lt_succ hne (by rw [lge h2]; simpa using h4)))⟩) <;> first | omega | (simp [go_sem, seval, F0, h2] <;> omega)
  · try simp [go_sem] at h2
    try simp [go_sem, seval, F0]
    have hm : mem l v = false := by rw [Bool.eq_false_iff]; intro h; obtain ⟨j, hj, he⟩ := List.getElem_of_mem ((mem_iff l v).1 h); exact hne j (by omega) (by rw [lge hj, he])
    exact hQ _ _ (by first | (left; (simp [go_sem, hm]); done) | (right; (simp [go_sem, hm]); done))
theorem ref24_rest (l : List Int) (n : Nat) (hn : n ≤ 1000000) : Pure Tryz.prog 203 [dI n, dLI l] (dLI (othersL l n)) := by
  refine Tz.pK ⟨fun t => t == 5, fun _ => []⟩ Tryz.func203 rfl (fun Q hQ => ?_)
  try simp [go_sem, seval]
  obtain ⟨I0, hI0⟩ := mkI fun i e H => (∃ xs : List Int, (e 1 = dLI l) ∧ (e 0 = dI n) ∧ (e 5 = .own 0 xs.length) ∧ (e 6 = dI i) ∧ (H.get 0 = some ⟨3, 1, xs.map cI, false⟩) ∧ (0 < H.next) ∧ (i ≤ n) ∧ (xs.length ≤ i) ∧ (xs = ((List.range i).filter fun (b : Nat) => !mem l b).map (fun (b : Nat) => (b : Int))))
  refine loopK I0 (fun i => n - i) (0) ((hI0 _ _ _).2 ⟨([]), ?_, ?_, ?_, ?_, ?_, ?_, (by first | assumption | omega | (simp [go_sem]; done) | (simp_all; done)), (by simp), (by rfl)⟩) ?_
  iterate 6 (first | omega | (simp [go_sem, seval] <;> omega))
  intro i e H hi0
  obtain ⟨xs, q1_0, q0_0, q5_0, q6_0, g0_0, n0_0, hi, hl, hx⟩ := (hI0 _ _ _).1 hi0
  have x0 := frs n0_0
  have F0 := And.intro q1_0 (And.intro q0_0 (And.intro q5_0 (And.intro q6_0 (And.intro g0_0 x0))))
  try simp [go_sem, seval, F0]
  refine condQ_mk (fun h3 => ?_) (fun h3 => ?_)
  · try simp [go_sem] at h3
    try simp [go_sem, seval, F0, h3]
    repeat (first | intro _ | (refine ⟨obl, ?_⟩))
    refine callQ_pure0 (ref24_has l i) ((by first | rfl | (simp [go_sem, ← List.map_take, ← List.map_drop, F0, h3]; done))) ?_
    try simp [go_sem, seval, F0, h3]
    repeat (first | intro _ | (refine ⟨obl, ?_⟩))
    refine condQ_mk (fun h5 => ?_) (fun h5 => ?_)
    ·try simp [go_sem] at h5
     try simp [go_sem, seval, F0, h3, h5]
     repeat (first | intro _ | (refine ⟨obl, ?_⟩))
     refine nextQ_mk (i + 1) (by omega) ((hI0 _ _ _).2 ⟨(xs ++ (if (!mem l i) = true then [(i : Int)] else [])), ?_, ?_, ?_, ?_, ?_, ?_, (by first | assumption | omega | (simp [go_sem, F0, h3, h5]; done) | (simp_all <;> omega)), (by (rw [List.length_append]; split <;> simp <;> omega)), (by (rw [range_filter_succ, ← hx]))⟩) <;> first | omega | (simp [go_sem, seval, F0, h3, h5] <;> omega)
    ·try simp [go_sem] at h5
     try simp [go_sem, seval, F0, h3, h5]
     repeat (first | intro _ | (refine ⟨obl, ?_⟩))
     refine nextQ_mk (i + 1) (by omega) ((hI0 _ _ _).2 ⟨(xs ++ (if (!mem l i) = true then [(i : Int)] else [])), ?_, ?_, ?_, ?_, ?_, ?_, (by first | assumption | omega | (simp [go_sem, F0, h3, h5]; done) | (simp_all <;> omega)), (by (rw [List.length_append]; split <;> simp <;> omega)), (by (rw [range_filter_succ, ← hx]))⟩) <;> first | omega | (simp [go_sem, seval, F0, h3, h5] <;> omega)
  · try simp [go_sem] at h3
    try simp [go_sem, seval, F0]
    exact hQ _ _ (by first | (left; (simp [go_sem, F0, othersL]; rw [hx, show i = n by omega]; simp); done) | (right; (simp [go_sem, F0, othersL]; rw [hx, show i = n by omega]; simp); done))
theorem ref24_proper (t : Types) (ht : t.ok) (g : Graph) (h0 : graphF g = 0) (hT : typedB t g = true) (nodes edges : List Int) (hn : ∀ i ∈ nodes, 0 ≤ i ∧ i < g.nodes.length) (he : ∀ k ∈ edges, 0 ≤ k ∧ k < g.edges.length) : Pure Tryz.prog 122 [t.d, g.d, dLI nodes, dLI edges] (.bool (makeB t g nodes edges)) := by
  have hin := typedB_in h0 hT
  refine Tz.pK ⟨fun t => t == 11, fun r => match r with | 9 => [(0, 8), (1, 8), (4, 8), (5, 8), (6, 8), (7, 8)] | _ => []⟩ Tryz.func122 rfl (fun Q hQ => ?_)
  try simp [go_sem, seval]
  obtain ⟨I0, hI0⟩ := mkI fun i e H => ((e 4 = .adr t.c) ∧ (e 5 = .adr g.c) ∧ (e 2 = dLI nodes) ∧ (e 3 = dLI edges) ∧ (e 9 = dI i) ∧ (i ≤ nodes.length) ∧ (((nodes.take i).any (absB t g)) = false))
  refine loopK I0 (fun i => nodes.length - i) (0) ((hI0 _ _ _).2 ⟨?_, ?_, ?_, ?_, ?_, (by first | assumption | omega | (simp [go_sem]; done) | (simp_all; done)), (by rfl)⟩) ?_
  iterate 5 (first | omega | (simp [go_sem, seval] <;> omega))
  intro i e H hi0
  obtain ⟨q4_0, q5_0, q2_0, q3_0, q9_0, hi, ha⟩ := (hI0 _ _ _).1 hi0
  have F0 := And.intro q4_0 (And.intro q5_0 (And.intro q2_0 (And.intro q3_0 q9_0)))
  try simp [go_sem, seval, F0]
  repeat (first | intro _ | (refine ⟨obl, ?_⟩))
  refine condQ_mk (fun h2 => ?_) (fun h2 => ?_)
  · try simp [go_sem] at h2
    have hn' := hn _ (lgm h2)
    have hk : nodes[i].toNat < g.nodes.length := by omega
    have hin' := hin.1 _ (lgm hk)
    have hkt : g.nodes[nodes[i].toNat].toNat < t.nodes.length := by omega
    have hA : absB t g nodes[i] = t.nodes[g.nodes[nodes[i].toNat].toNat].abs := by simp [absB, gN, lge hk, lge hkt]
    try simp [go_sem, seval, F0, h2, lge hk, lge hkt]
    repeat (first | intro _ | (refine ⟨obl, ?_⟩))
    refine condQ_mk (fun h4 => ?_) (fun h4 => ?_)
    ·try simp [go_sem] at h4
     try simp [go_sem, seval, F0, h2, lge hk, lge hkt]
     have hb : nodes.any (absB t g) = true := List.any_eq_true.2 ⟨_, lgm h2, by rw [hA, h4]⟩
     exact hQ _ _ (by first | (left; (simp only [go_sem, makeB, hb, Bool.not_true, Bool.false_and]); done) | (right; (simp only [go_sem, makeB, hb, Bool.not_true, Bool.false_and]); done))
    ·try simp [go_sem] at h4
     try simp [go_sem, seval, F0, h2, lge hk, lge hkt]
     repeat (first | intro _ | (refine ⟨obl, ?_⟩))
     refine nextQ_mk (i + 1) (by omega) ((hI0 _ _ _).2 ⟨?_, ?_, ?_, ?_, ?_, (by first | assumption | omega | (simp [go_sem, F0, h2, lge hk, lge hkt, h4]; done) | (simp_all <;> omega)), (by (rw [any_take_succ _ _ _ h2, ha, hA, h4]; rfl))⟩) <;> first | omega | (simp [go_sem, seval, F0, h2, lge hk, lge hkt] <;> omega)
  · try simp [go_sem] at h2
    have hN := any_end ha h2
    try simp [go_sem, seval, F0]
    obtain ⟨I2, hI2⟩ := mkI fun k e H => ((e 4 = .adr t.c) ∧ (e 5 = .adr g.c) ∧ (e 2 = dLI nodes) ∧ (e 3 = dLI edges) ∧ (e 10 = dI k) ∧ (k ≤ edges.length) ∧ (((edges.take k).any (unfitB t g)) = false))
    refine loopK I2 (fun k => edges.length - k) (0) ((hI2 _ _ _).2 ⟨?_, ?_, ?_, ?_, ?_, (by first | assumption | omega | (simp [go_sem, F0]; done) | (simp_all; done)), (by rfl)⟩) ?_
    iterate 5 (first | omega | (simp [go_sem, seval, F0] <;> omega))
    intro k e H hi2
    obtain ⟨q4_2, q5_2, q2_2, q3_2, q10_2, hk, hb⟩ := (hI2 _ _ _).1 hi2
    have F2 := And.intro q4_2 (And.intro q5_2 (And.intro q2_2 (And.intro q3_2 q10_2)))
    try simp [go_sem, seval, F2]
    repeat (first | intro _ | (refine ⟨obl, ?_⟩))
    refine condQ_mk (fun h7 => ?_) (fun h7 => ?_)
    ·try simp [go_sem] at h7
     have he' := he _ (lgm h7)
     have hke : edges[k].toNat < g.edges.length := by omega
     have hin' := hin.2 _ (lgm hke)
     have hf : g.edges[edges[k].toNat].from_.toNat < g.nodes.length := by omega
     have hto : g.edges[edges[k].toNat].to_.toNat < g.nodes.length := by omega
     have hA : unfitB t g edges[k] = !fitsT t g.edges[edges[k].toNat].type g.nodes[g.edges[edges[k].toNat].from_.toNat] g.nodes[g.edges[edges[k].toNat].to_.toNat] := by simp [unfitB, gN, lge hke, lge hf, lge hto]
     try simp [go_sem, seval, F2, h7, lge hke, lge hf, lge hto]
     repeat (first | intro _ | (refine ⟨obl, ?_⟩))
     refine dcallQ_pure0 (ref04_Fits t ht _ _ _) ((by first | rfl | (simp [go_sem, ← List.map_take, ← List.map_drop, F2, h7, lge hke, lge hf, lge hto]; done))) ?_
     try simp [go_sem, seval, F2, h7, lge hke, lge hf, lge hto]
     repeat (first | intro _ | (refine ⟨obl, ?_⟩))
     refine condQ_mk (fun h10 => ?_) (fun h10 => ?_)
     ·try simp [go_sem] at h10
      try simp [go_sem, seval, F2, h7, lge hke, lge hf, lge hto]
      have hb' : edges.any (unfitB t g) = true := List.any_eq_true.2 ⟨_, lgm h7, by rw [hA, h10]; rfl⟩
      exact hQ _ _ (by first | (left; (simp only [go_sem, makeB, hb', Bool.not_true, Bool.and_false]); done) | (right; (simp only [go_sem, makeB, hb', Bool.not_true, Bool.and_false]); done))
     ·try simp [go_sem] at h10
      try simp [go_sem, seval, F2, h7, lge hke, lge hf, lge hto]
      repeat (first | intro _ | (refine ⟨obl, ?_⟩))
      refine nextQ_mk (k + 1) (by omega) ((hI2 _ _ _).2 ⟨?_, ?_, ?_, ?_, ?_, (by first | assumption | omega | (simp [go_sem, F2, h7, lge hke, lge hf, lge hto, h2, h10]; done) | (simp_all <;> omega)), (by (rw [any_take_succ _ _ _ h7, hb, hA, h10]; rfl))⟩) <;> first | omega | (simp [go_sem, seval, F2, h7, lge hke, lge hf, lge hto] <;> omega)
    ·try simp [go_sem] at h7
     try simp [go_sem, seval, F2]
     have hE := any_end hb h7
     exact hQ _ _ (by first | (left; (simp only [go_sem, makeB, hN, hE, Bool.not_false, Bool.and_true]); done) | (right; (simp only [go_sem, makeB, hN, hE, Bool.not_false, Bool.and_true]); done))
theorem ref24_created (r : Rule) (h1 : r.right.graph.nodes.length ≤ 1000000) (h2 : r.right.graph.edges.length ≤ 1000000) : Pure Tryz.prog 121 [r.d] (.tup [dLI r.freshN, dLI r.freshE]) := by
  refine Tz.pK ⟨fun _ => false, fun _ => []⟩ Tryz.func121 rfl (fun Q hQ => ?_)
  try simp [go_sem, seval]
  repeat (first | intro _ | (refine ⟨obl, ?_⟩))
  refine dcallQ_pure0 (ref24_rest r.into.nodes _ h1) ((by first | rfl | (simp [go_sem, ← List.map_take, ← List.map_drop]; done))) ?_
  try simp [go_sem, seval]
  repeat (first | intro _ | (refine ⟨obl, ?_⟩))
  refine dcallQ_pure0 (ref24_rest r.into.edges _ h2) ((by first | rfl | (simp [go_sem, ← List.map_take, ← List.map_drop]; done))) ?_
  try simp [go_sem, seval]
  repeat (first | intro _ | (refine ⟨obl, ?_⟩))
  exact hQ _ _ (by simp [go_sem, Rule.freshN, Rule.freshE] <;> first | omega | (rw [bei]; simp <;> omega) | (simp_all <;> omega))
def spanF (r : Rule) : Int :=
  if subF r.left.graph r.keep ≠ 0 then subF r.left.graph r.keep
  else morphF (extractG r.left.graph r.keep) r.right.graph r.into
theorem ref24_span (r : Rule) (hr : r.ok) : Pure Tryz.prog 119 [r.d] (dI (spanF r)) := by
  obtain ⟨_, hk1, hk2, hi1, hi2, _, _⟩ := hr
  refine Tz.pK ⟨fun t => t == 4 || t == 5, fun _ => []⟩ Tryz.func119 rfl (fun Q hQ => ?_)
  try simp [go_sem, seval]
  refine callQ_pure0 (ref07_Valid r.left.graph r.keep) ((by first | rfl | (simp [go_sem, ← List.map_take, ← List.map_drop]; done))) ?_
  try simp [go_sem, seval]
  refine condQ_mk (fun h2 => ?_) (fun h2 => ?_)
  · try simp [go_sem] at h2
    try simp [go_sem, seval]
    exact hQ _ _ (by simp [go_sem, h2, spanF] <;> first | omega | (rw [bei]; simp <;> omega) | (simp_all <;> omega))
  · try simp [go_sem] at h2
    try simp [go_sem, seval]
    refine callQ_pure0 (ref07_Extract r.left.graph r.keep hk1 hk2) ((by first | rfl | (simp [go_sem, ← List.map_take, ← List.map_drop]; done))) ?_
    try simp [go_sem, seval]
    refine callQ_pure0 (ref06_Valid (extractG r.left.graph r.keep) r.right.graph r.into) ((by first | rfl | (simp [go_sem, ← List.map_take, ← List.map_drop]; done))) ?_
    try simp [go_sem, seval]
    exact hQ _ _ (by simp [go_sem, h2, spanF] <;> first | omega | (rw [bei]; simp <;> omega) | (simp_all <;> omega))
theorem keptF_span (r : Rule) : keptF r = if spanF r ≠ 0 then spanF r else if (decide r.into.nodes.Nodup && decide r.into.edges.Nodup) = true then 0 else 11 := by
  unfold keptF spanF injB
  by_cases h1 : subF r.left.graph r.keep = 0
  · by_cases h2 : morphF (extractG r.left.graph r.keep) r.right.graph r.into = 0
    ·simp only [h1, h2, ne_eq, not_true, if_false, decide_true, Bool.true_and]
     cases (decide r.into.nodes.Nodup && decide r.into.edges.Nodup) <;> simp
    ·simp [h1, h2]
  · simp [h1]
theorem ref24_Valid (t : Types) (ht : t.ok) (r : Rule) (hr : r.ok) : Pure Tryz.prog 57 [t.d, r.d] (dI (ruleF t r)) := by
  have hcv := ref22_Valid t ht r.left r.cond hr.cond hr.size
  rw [Cond.c_eq] at hcv
  have hK := keptF_span r
  refine Tz.pK ⟨fun _ => false, fun _ => []⟩ Tryz.func57 rfl (fun Q hQ => ?_)
  try simp [go_sem, seval]
  refine callQ_pure0 (ref04_Valid t ht) ((by first | rfl | (simp [go_sem, ← List.map_take, ← List.map_drop]; done))) ?_
  try simp [go_sem, seval]
  refine condQ_mk (fun h2 => ?_) (fun h2 => ?_)
  · try simp [go_sem] at h2
    try simp [go_sem, seval]
    exact hQ _ _ (by first | (left; (simp [go_sem, ruleF, h2]); done) | (right; (simp [go_sem, ruleF, h2]); done))
  · try simp [go_sem] at h2
    try simp [go_sem, seval]
    repeat (first | intro _ | (refine ⟨obl, ?_⟩))
    refine callQ_pure0 (ref01_IsName r.name hr.name) ((by first | rfl | (simp [go_sem, ← List.map_take, ← List.map_drop]; done))) ?_
    try simp [go_sem, seval]
    repeat (first | intro _ | (refine ⟨obl, ?_⟩))
    refine condQ_mk (fun h4 => ?_) (fun h4 => ?_)
    ·try simp [go_sem] at h4
     try simp [go_sem, seval]
     exact hQ _ _ (by first | (left; (simp [go_sem, ruleF, h2, h4]); done) | (right; (simp [go_sem, ruleF, h2, h4]); done))
    ·try simp [go_sem] at h4
     try simp [go_sem, seval]
     refine callQ_pure0 (ref21_Valid t ht r.left) ((by first | rfl | (simp [go_sem, ← List.map_take, ← List.map_drop]; done))) ?_
     try simp [go_sem, seval]
     refine condQ_mk (fun h7 => ?_) (fun h7 => ?_)
     ·try simp [go_sem] at h7
      try simp [go_sem, seval]
      exact hQ _ _ (by first | (left; (simp [go_sem, ruleF, h2, h4, h7]); done) | (right; (simp [go_sem, ruleF, h2, h4, h7]); done))
     ·try simp [go_sem] at h7
      try simp [go_sem, seval]
      refine callQ_pure0 (ref24_right t ht r) ((by first | rfl | (simp [go_sem, ← List.map_take, ← List.map_drop]; done))) ?_
      try simp [go_sem, seval]
      refine condQ_mk (fun h10 => ?_) (fun h10 => ?_)
      ·try simp [go_sem] at h10
       try simp [go_sem, seval]
       exact hQ _ _ (by first | (left; (simp [go_sem, ruleF, h2, h4, h7, h10]); done) | (right; (simp [go_sem, ruleF, h2, h4, h7, h10]); done))
      ·try simp [go_sem] at h10
       have hg := rightF_of h10
       have hgl := graphF_le hg.1
       try simp [go_sem, seval]
       refine callQ_pure0 (ref24_span r hr) ((by first | rfl | (simp [go_sem, ← List.map_take, ← List.map_drop]; done))) ?_
       try simp [go_sem, seval]
       refine condQ_mk (fun h13 => ?_) (fun h13 => ?_)
       ·try simp [go_sem] at h13
        try simp [go_sem, seval]
        exact hQ _ _ (by first | (left; (simp [go_sem, ruleF, h2, h4, h7, h10, hK, h13]); done) | (right; (simp [go_sem, ruleF, h2, h4, h7, h10, hK, h13]); done))
       ·try simp [go_sem] at h13
        try simp [go_sem, seval]
        repeat (first | intro _ | (refine ⟨obl, ?_⟩))
        refine callQ_pure0 (ref06_Distinct r.into.nodes) ((by first | rfl | (simp [go_sem, ← List.map_take, ← List.map_drop]; done))) ?_
        try simp [go_sem, seval]
        repeat (first | intro _ | (refine ⟨obl, ?_⟩))
        refine gcallQ_pure0 (fun hg => ref06_Distinct r.into.edges) (fun hg => (by first | rfl | (simp [go_sem, ← List.map_take, ← List.map_drop]; done))) ?_
        try simp [go_sem, seval]
        repeat (first | intro _ | (refine ⟨obl, ?_⟩))
        refine condQ_mk (fun h15 => ?_) (fun h15 => ?_)
        ·try simp [go_sem] at h15
         have hK' : keptF r = 11 := by rw [hK, if_neg (by omega), if_neg (fun h => by rw [Bool.and_eq_true, decide_eq_true_eq, decide_eq_true_eq] at h; rcases h15 with h' | h'; exact h' h.1; exact h' h.2)]
         try simp [go_sem, seval]
         exact hQ _ _ (by first | (left; (simp [go_sem, ruleF, h2, h4, h7, h10, hK']); done) | (right; (simp [go_sem, ruleF, h2, h4, h7, h10, hK']); done))
        ·try simp [go_sem] at h15
         have hK' : keptF r = 0 := by rw [hK, if_neg (by omega), if_pos (by rw [Bool.and_eq_true, decide_eq_true_eq, decide_eq_true_eq]; exact h15)]
         try simp [go_sem, seval]
         refine callQ_pure0 (ref24_created r (by omega) (by omega)) ((by first | rfl | (simp [go_sem, ← List.map_take, ← List.map_drop]; done))) ?_
         try simp [go_sem, seval]
         repeat (first | intro _ | (refine ⟨obl, ?_⟩))
         refine callQ_pure0 (ref24_proper t ht r.right.graph hg.1 hg.2 r.freshN r.freshE (fun i hi => othersL_mem hi) (fun i hi => othersL_mem hi)) ((by first | rfl | (simp [go_sem, ← List.map_take, ← List.map_drop]; done))) ?_
         try simp [go_sem, seval]
         repeat (first | intro _ | (refine ⟨obl, ?_⟩))
         refine condQ_mk (fun h18 => ?_) (fun h18 => ?_)
         ·try simp [go_sem] at h18
          try simp [go_sem, seval]
          exact hQ _ _ (by first | (left; (simp [go_sem, ruleF, h2, h4, h7, h10, hK', h18]); done) | (right; (simp [go_sem, ruleF, h2, h4, h7, h10, hK', h18]); done))
         ·try simp [go_sem] at h18
          try simp [go_sem, seval]
          refine callQ_pure0 (hcv) ((by first | rfl | (simp [go_sem, ← List.map_take, ← List.map_drop]; done))) ?_
          try simp [go_sem, seval]
          exact hQ _ _ (by first | (left; (simp [go_sem, ruleF, h2, h4, h7, h10, hK', h18]); done) | (right; (simp [go_sem, ruleF, h2, h4, h7, h10, hK', h18]); done))
end Go.Abs
end
