/- Layer 21, the reference: patterns. · The abstraction layer,  -/
import Derived.Test.YthnegcfdjjhfgaaGreatZlI
import Derived.Test.YthnegcfdjjhfgaaGreatZlF
import Derived.Sort.OwnSortedInts
import Derived.Ground.NamesProg
import Derived.Ground.Names2Prog
import Derived.Shelf.Sort.Plain
import Derived.Shelf.Slices.CompactI
import Derived.Shelf.Slices.In.SortNone
import Derived.Test.YthnegcfdjjhfgaaGreatProg
set_option linter.unusedVariables false
set_option linter.unusedSimpArgs false
section
set_option maxRecDepth 4000
open Go Go.Proofs
namespace Go.Abs
def edgeTypeB (t : Types) (x : Edge) : Bool := decide (0 ≤ x.type) && decide (x.type < t.edges.length)
def typed17 (t : Types) (g : Graph) : Bool := (!(g.nodes.any fun a => !insideF t a)) && !(g.edges.any fun x => !edgeTypeB t x)
theorem any_end {α : Type} {l : List α} {p : α → Bool} {i : Nat} (h : (l.take i).any p = false) (he : l.length ≤ i) : l.any p = false := by
  rw [List.take_of_length_le he] at h; exact h
theorem ref17_Typed (t : Types) (g : Graph) : Pure Tryz.prog 197 [t.d, g.d] (.bool (typed17 t g)) := by
  refine Tz.pK ⟨fun _ => false, fun _ => []⟩ Tryz.func197 rfl (fun Q hQ => ?_)
  try simp [go_sem, seval]
  obtain ⟨I0, hI0⟩ := mkI fun i e H => ((e 2 = .adr t.c) ∧ (e 3 = .adr g.c) ∧ (e 5 = dI i) ∧ (i ≤ g.nodes.length) ∧ (((g.nodes.take i).any fun a => !insideF t a) = false))
  refine loopK I0 (fun i => g.nodes.length - i) (0) ((hI0 _ _ _).2 ⟨?_, ?_, ?_, (by first | assumption | omega | (simp [go_sem]; done) | (simp_all; done)), (by rfl)⟩) ?_
  iterate 3 (first | omega | (simp [go_sem, seval] <;> omega))
  intro i e H hi0
  obtain ⟨q2_0, q3_0, q5_0, hi, ha⟩ := (hI0 _ _ _).1 hi0
  have F0 := And.intro q2_0 (And.intro q3_0 q5_0)
  try simp [go_sem, seval, F0]
  repeat (first | intro _ | (refine ⟨obl, ?_⟩))
  refine condQ_mk (fun h2 => ?_) (fun h2 => ?_)
  · try simp [go_sem] at h2
    try simp [go_sem, seval, F0, h2]
    repeat (first | intro _ | (refine ⟨obl, ?_⟩))
    refine condQ_mk (fun h4 => ?_) (fun h4 => ?_)
    ·try simp [go_sem] at h4
     try simp [go_sem, seval, F0, h2]
     have hb : (g.nodes.any fun a => !insideF t a) = true := List.any_eq_true.2 ⟨_, lgm h2, by simp [insideF]; omega⟩
     exact hQ _ _ (by first | (left; (simp only [go_sem, typed17, hb, Bool.not_true, Bool.false_and]); done) | (right; (simp only [go_sem, typed17, hb, Bool.not_true, Bool.false_and]); done))
    ·try simp [go_sem] at h4
     try simp [go_sem, seval, F0, h2]
     repeat (first | intro _ | (refine ⟨obl, ?_⟩))
     refine nextQ_mk (i + 1) (by omega) ((hI0 _ _ _).2 ⟨?_, ?_, ?_, (by first | assumption | omega | (simp [go_sem, F0, h2, h4]; done) | (simp_all <;> omega)), (by (rw [any_take_succ _ _ _ h2, ha]; simp [insideF]; omega))⟩) <;> first | omega | (simp [go_sem, seval, F0, h2] <;> omega)
  · try simp [go_sem] at h2
    have hN := any_end ha h2
    try simp [go_sem, seval, F0]
    obtain ⟨I2, hI2⟩ := mkI fun k e H => ((e 2 = .adr t.c) ∧ (e 3 = .adr g.c) ∧ (e 6 = dI k) ∧ (k ≤ g.edges.length) ∧ (((g.edges.take k).any fun x => !edgeTypeB t x) = false))
    refine loopK I2 (fun k => g.edges.length - k) (0) ((hI2 _ _ _).2 ⟨?_, ?_, ?_, (by first | assumption | omega | (simp [go_sem, F0]; done) | (simp_all; done)), (by rfl)⟩) ?_
    iterate 3 (first | omega | (simp [go_sem, seval, F0] <;> omega))
    intro k e H hi2
    obtain ⟨q2_2, q3_2, q6_2, hk, hb⟩ := (hI2 _ _ _).1 hi2
    have F2 := And.intro q2_2 (And.intro q3_2 q6_2)
    try simp [go_sem, seval, F2]
    repeat (first | intro _ | (refine ⟨obl, ?_⟩))
    refine condQ_mk (fun h7 => ?_) (fun h7 => ?_)
    ·try simp [go_sem] at h7
     try simp [go_sem, seval, F2, h7]
     repeat (first | intro _ | (refine ⟨obl, ?_⟩))
     refine condQ_mk (fun h9 => ?_) (fun h9 => ?_)
     ·try simp [go_sem] at h9
      try simp [go_sem, seval, F2, h7]
      have hb' : (g.edges.any fun x => !edgeTypeB t x) = true := List.any_eq_true.2 ⟨_, lgm h7, by simp [edgeTypeB]; omega⟩
      exact hQ _ _ (by first | (left; (simp only [go_sem, typed17, hb', Bool.not_true, Bool.and_false]); done) | (right; (simp only [go_sem, typed17, hb', Bool.not_true, Bool.and_false]); done))
     ·try simp [go_sem] at h9
      try simp [go_sem, seval, F2, h7]
      repeat (first | intro _ | (refine ⟨obl, ?_⟩))
      refine nextQ_mk (k + 1) (by omega) ((hI2 _ _ _).2 ⟨?_, ?_, ?_, (by first | assumption | omega | (simp [go_sem, F2, h7, h2, h9]; done) | (simp_all <;> omega)), (by (rw [any_take_succ _ _ _ h7, hb]; simp [edgeTypeB]; omega))⟩) <;> first | omega | (simp [go_sem, seval, F2, h7] <;> omega)
    ·try simp [go_sem] at h7
     try simp [go_sem, seval, F2]
     have hE := any_end hb h7
     exact hQ _ _ (by first | (left; (simp only [go_sem, typed17, hN, hE, Bool.not_false, Bool.and_true]); done) | (right; (simp only [go_sem, typed17, hN, hE, Bool.not_false, Bool.and_true]); done))
theorem any_eq_of {α : Type} {l : List α} {p q : α → Bool} (h : ∀ x ∈ l, p x = q x) : l.any p = l.any q := by
  induction l with
  | nil => rfl
  | cons a l ih => simp only [List.any_cons, h a (by simp), ih fun x hx => h x (by simp [hx])]
theorem graphF_in {g : Graph} (h : graphF g = 0) : (∀ a ∈ g.nodes, 0 ≤ a ∧ a ≤ 99) ∧ ∀ x ∈ g.edges, (0 ≤ x.type ∧ x.type ≤ 99) ∧ (0 ≤ x.from_ ∧ x.from_ < g.nodes.length) ∧ (0 ≤ x.to_ ∧ x.to_ < g.nodes.length) := by
  unfold graphF at h
  split at h
  · cases h
  · split at h
    ·cases h
    ·rename_i h1
     split at h
     ·cases h
     ·rename_i h2
      simp [withinF, fitsF] at h1 h2
      refine ⟨h1, fun x hx => ?_⟩
      have := h2 x hx
      omega
theorem typed17_eq {t : Types} {g : Graph} (h : graphF g = 0) : typed17 t g = typedB t g := by
  obtain ⟨h1, h2⟩ := graphF_in h
  unfold typed17 typedB
  congr 2
  · exact any_eq_of fun x hx => by have := h1 x hx; rw [bei]; simp [insideF]; omega
  · exact any_eq_of fun x hx => by have := h2 x hx; rw [bei]; simp [edgeTypeB]; omega
theorem ref21_bounded (n : Int) : Pure Tryz.prog 199 [dI n] (.bool (inF n (-1000000) 1000000)) := by
  refine Tz.pK ⟨fun _ => false, fun _ => []⟩ Tryz.func199 rfl (fun Q hQ => ?_)
  try simp [go_sem, seval]
  repeat (first | intro _ | (refine ⟨obl, ?_⟩))
  exact hQ _ _ (by simp [go_sem, inF] <;> first | omega | (rw [bei]; simp <;> omega) | (simp_all <;> omega))
theorem attrsT_bad {t : Types} {a : Int} (h : ¬ given2F t a a = 0) : attrsT t a = [] := by unfold attrsT; rw [if_neg h]
theorem ref21_attr (t : Types) (ht : t.ok) (p : Pattern) (node attr : Int) : Pure Tryz.prog 198 [t.d, p.d, dI node, dI attr] (.tup [.agg (attrV t p node attr).c, .bool (attrB t p node attr)]) := by
  have h8 := attrsT_len ht (p.kind node)
  refine Tz.pK ⟨fun t => t == 8, fun _ => []⟩ Tryz.func198 rfl (fun Q hQ => ?_)
  try simp [go_sem, seval]
  repeat (first | intro _ | (refine ⟨obl, ?_⟩))
  refine condQ_mk (fun h1 => ?_) (fun h1 => ?_)
  · try simp [go_sem] at h1
    have hB : attrB t p node attr = false := by rw [Bool.eq_false_iff]; intro h; simp [attrB] at h; omega
    try simp [go_sem, seval]
    exact hQ _ _ (by first | (left; (simp [go_sem, attrV, hB, zeroAttr]); done) | (right; (simp [go_sem, attrV, hB, zeroAttr]); done))
  · try simp [go_sem] at h1
    have hn : node.toNat < p.graph.nodes.length := by omega
    have hk : p.kind node = p.graph.nodes[node.toNat] := by simp [Pattern.kind, hn]
    rw [hk] at h8
    try simp [go_sem, seval, lge hn, hk]
    repeat (first | intro _ | (refine ⟨obl, ?_⟩))
    refine dcallQ_pure0 (ref04_Attrs t ht p.graph.nodes[node.toNat]) ((by first | rfl | (simp [go_sem, ← List.map_take, ← List.map_drop, lge hn, hk]; done))) ?_
    try simp [go_sem, seval, lge hn, hk]
    repeat (first | intro _ | (refine ⟨obl, ?_⟩))
    refine condQ_mk (fun h4 => ?_) (fun h4 => ?_)
    ·try simp [go_sem] at h4
     have hB : attrB t p node attr = false := by
      rw [Bool.eq_false_iff]; intro h; simp [attrB, hk] at h
      by_cases hg : given2F t p.graph.nodes[node.toNat] p.graph.nodes[node.toNat] = 0
      ·omega
      ·rw [attrsT_bad hg] at h; simp at h; omega
     try simp [go_sem, seval, lge hn, hk]
     exact hQ _ _ (by first | (left; (simp [go_sem, attrV, hB, zeroAttr]); done) | (right; (simp [go_sem, attrV, hB, zeroAttr]); done))
    ·try simp [go_sem] at h4
     have ha : attr.toNat < (attrsT t p.graph.nodes[node.toNat]).length := by omega
     have hB : attrB t p node attr = true := by simp [attrB, hk]; omega
     try simp [go_sem, seval, lge hn, hk, lge ha]
     repeat (first | intro _ | (refine ⟨obl, ?_⟩))
     exact hQ _ _ (by first | (left; (simp [go_sem, attrV, hB, hk, lge ha]); done) | (right; (simp [go_sem, attrV, hB, hk, lge ha]); done))
def occursB (p : Pattern) (v : Int) : Bool := p.slots.any fun s => decide (s.term.var = v)
theorem ref21_occurs (p : Pattern) (v : Int) : Pure Tryz.prog 201 [p.d, dI v] (.bool (occursB p v)) := by
  refine Tz.pK ⟨fun _ => false, fun _ => []⟩ Tryz.func201 rfl (fun Q hQ => ?_)
  try simp [go_sem, seval]
  obtain ⟨I0, hI0⟩ := mkI fun i e H => ((e 2 = .adr p.c) ∧ (e 1 = dI v) ∧ (e 5 = dI i) ∧ (i ≤ p.slots.length) ∧ (((p.slots.take i).any fun s => decide (s.term.var = v)) = false))
  refine loopK I0 (fun i => p.slots.length - i) (0) ((hI0 _ _ _).2 ⟨?_, ?_, ?_, (by first | assumption | omega | (simp [go_sem]; done) | (simp_all; done)), (by rfl)⟩) ?_
  iterate 3 (first | omega | (simp [go_sem, seval] <;> omega))
  intro i e H hi0
  obtain ⟨q2_0, q1_0, q5_0, hi, ha⟩ := (hI0 _ _ _).1 hi0
  have F0 := And.intro q2_0 (And.intro q1_0 q5_0)
  try simp [go_sem, seval, F0]
  repeat (first | intro _ | (refine ⟨obl, ?_⟩))
  refine condQ_mk (fun h2 => ?_) (fun h2 => ?_)
  · try simp [go_sem] at h2
    try simp [go_sem, seval, F0, h2]
    repeat (first | intro _ | (refine ⟨obl, ?_⟩))
    refine condQ_mk (fun h4 => ?_) (fun h4 => ?_)
    ·try simp [go_sem] at h4
     try simp [go_sem, seval, F0, h2]
     have hb : occursB p v = true := List.any_eq_true.2 ⟨_, lgm h2, by simpa using h4⟩
     exact hQ _ _ (by first | (left; (simp only [go_sem, hb]); done) | (right; (simp only [go_sem, hb]); done))
    ·try simp [go_sem] at h4
     try simp [go_sem, seval, F0, h2]
     repeat (first | intro _ | (refine ⟨obl, ?_⟩))
     refine nextQ_mk (i + 1) (by omega) ((hI0 _ _ _).2 ⟨?_, ?_, ?_, (by first | assumption | omega | (simp [go_sem, F0, h2, h4]; done) | (simp_all <;> omega)), (by (rw [any_take_succ _ _ _ h2, ha]; simpa using h4))⟩) <;> first | omega | (simp [go_sem, seval, F0, h2] <;> omega)
  · try simp [go_sem] at h2
    try simp [go_sem, seval, F0]
    have hb : occursB p v = false := any_end ha h2
    exact hQ _ _ (by first | (left; (simp only [go_sem, hb]); done) | (right; (simp only [go_sem, hb]); done))
theorem usedL_mem (p : Pattern) (n : Nat) : mem (usedL n p.slots) false = true ↔ ∃ v : Nat, v < n ∧ occursB p v = false := by
  rw [mem_iff]
  simp only [usedL, List.mem_map, List.mem_range, occursB]
theorem ref21_Valid (t : Types) (ht : t.ok) (p : Pattern) : Pure Tryz.prog 117 [t.d, p.d] (dI (patternF t p)) := by
  refine Tz.pK ⟨fun t => t == 9 || t == 10, fun _ => []⟩ Tryz.func117 rfl (fun Q hQ => ?_)
  try simp [go_sem, seval]
  refine callQ_pure0 (ref04_Valid t ht) ((by first | rfl | (simp [go_sem, ← List.map_take, ← List.map_drop]; done))) ?_
  try simp [go_sem, seval]
  refine condQ_mk (fun h2 => ?_) (fun h2 => ?_)
  · try simp [go_sem] at h2
    try simp [go_sem, seval]
    exact hQ _ _ (by first | (left; (simp [go_sem, patternF, h2]); done) | (right; (simp [go_sem, patternF, h2]); done))
  · try simp [go_sem] at h2
    try simp [go_sem, seval]
    refine callQ_pure0 (ref05_Valid p.graph) ((by first | rfl | (simp [go_sem, ← List.map_take, ← List.map_drop]; done))) ?_
    try simp [go_sem, seval]
    refine condQ_mk (fun h5 => ?_) (fun h5 => ?_)
    ·try simp [go_sem] at h5
     try simp [go_sem, seval]
     exact hQ _ _ (by first | (left; (simp [go_sem, patternF, h2, h5]); done) | (right; (simp [go_sem, patternF, h2, h5]); done))
    ·try simp [go_sem] at h5
     try simp [go_sem, seval]
     repeat (first | intro _ | (refine ⟨obl, ?_⟩))
     refine callQ_pure0 (ref17_Typed t p.graph) ((by first | rfl | (simp [go_sem, ← List.map_take, ← List.map_drop]; done))) ?_
     try simp [go_sem, seval]
     repeat (first | intro _ | (refine ⟨obl, ?_⟩))
     refine condQ_mk (fun h7 => ?_) (fun h7 => ?_)
     ·try simp [go_sem] at h7
      rw [typed17_eq h5] at h7
      try simp [go_sem, seval]
      exact hQ _ _ (by first | (left; (simp [go_sem, patternF, h2, h5, h7]); done) | (right; (simp [go_sem, patternF, h2, h5, h7]); done))
     ·try simp [go_sem] at h7
      rw [typed17_eq h5] at h7
      try simp [go_sem, seval]
      repeat (first | intro _ | (refine ⟨obl, ?_⟩))
      refine condQ_mk (fun h9 => ?_) (fun h9 => ?_)
      ·try simp [go_sem] at h9
       try simp [go_sem, seval]
       exact hQ _ _ (by first | (left; (simp [go_sem, patternF, h2, h5, h7, inF]; omega); done) | (right; (simp [go_sem, patternF, h2, h5, h7, inF]; omega); done))
      ·try simp [go_sem] at h9
       try simp [go_sem, seval]
       repeat (first | intro _ | (refine ⟨obl, ?_⟩))
       refine condQ_mk (fun h11 => ?_) (fun h11 => ?_)
       ·try simp [go_sem] at h11
        try simp [go_sem, seval]
        exact hQ _ _ (by first | (left; (simp [go_sem, patternF, h2, h5, h7, inF]; omega); done) | (right; (simp [go_sem, patternF, h2, h5, h7, inF]; omega); done))
       ·try simp [go_sem] at h11
        have hF0 : patternF t p = if listE (slotE t p) p.slots ≠ 0 then 6 else if testsF p.vars p.tests ≠ 0 then testsF p.vars p.tests else if mem (usedL p.vars.toNat p.slots) false = true then 9 else 0 := by
         unfold patternF
         rw [if_neg (by simp [h2]), if_neg (by simp [h5]), if_neg (by simp [h7]), if_neg (by simp [inF]; omega), if_neg (by omega)]
        try simp [go_sem, seval]
        obtain ⟨I0, hI0⟩ := mkI fun i e H => ((e 2 = .adr t.c) ∧ (e 3 = .adr p.c) ∧ (e 8 = dI i) ∧ (i ≤ p.slots.length) ∧ (listE (slotE t p) (p.slots.drop i) = listE (slotE t p) p.slots))
        refine loopK I0 (fun i => p.slots.length - i) (0) ((hI0 _ _ _).2 ⟨?_, ?_, ?_, (by first | assumption | omega | (simp [go_sem]; done) | (simp_all; done)), (by rfl)⟩) ?_
        iterate 3 (first | omega | (simp [go_sem, seval] <;> omega))
        intro i e H hi0
        obtain ⟨q2_0, q3_0, q8_0, hi, hL⟩ := (hI0 _ _ _).1 hi0
        have F0 := And.intro q2_0 (And.intro q3_0 q8_0)
        try simp [go_sem, seval, F0]
        repeat (first | intro _ | (refine ⟨obl, ?_⟩))
        refine condQ_mk (fun h14 => ?_) (fun h14 => ?_)
        ·try simp [go_sem] at h14
         have hst := listE_step (slotE t p) h14
         try simp [go_sem, seval, F0, h14]
         repeat (first | intro _ | (refine ⟨obl, ?_⟩))
         refine callQ_pure0 (ref21_attr t ht p p.slots[i].node p.slots[i].attr) ((by first | rfl | (simp [go_sem, ← List.map_take, ← List.map_drop, F0, h14]; done))) ?_
         try simp [go_sem, seval, F0, h14]
         repeat (first | intro _ | (refine ⟨obl, ?_⟩))
         refine gcallQ_pure0 (fun hg => ref21_bounded _) (fun hg => (by first | rfl | (simp [go_sem, ← List.map_take, ← List.map_drop, F0, h14]; done))) ?_
         try simp [go_sem, seval, F0, h14]
         repeat (first | intro _ | (refine ⟨obl, ?_⟩))
         refine condQ_mk (fun h18 => ?_) (fun h18 => ?_)
         ·skip
          have hs6 : slotE t p p.slots[i] = 6 := by
           unfold slotE; rw [if_neg]; intro h; simp [inF] at h; simp [h.1.1, inF] at h18; omega
          rw [hs6, if_pos (by simp), hL] at hst
          try simp [go_sem, seval, F0, h14]
          exact hQ _ _ (by first | (left; (simp [go_sem, hF0, hst]); done) | (right; (simp [go_sem, hF0, hst]); done))
         ·skip
          have hs0 : slotE t p p.slots[i] = 0 := by
           unfold slotE; rw [if_pos]; simp [inF] at h18 ⊢; refine ⟨⟨h18.1.1.1, ?_⟩, ?_⟩ <;> omega
          rw [hs0, if_neg (by simp), hL] at hst
          try simp [go_sem, seval, F0, h14]
          repeat (first | intro _ | (refine ⟨obl, ?_⟩))
          refine nextQ_mk (i + 1) (by omega) ((hI0 _ _ _).2 ⟨?_, ?_, ?_, (by first | assumption | omega | (simp [go_sem, F0, h14, h2, h5, h7, h9, h11, h18]; done) | (simp_all <;> omega)), (by exact hst.symm)⟩) <;> first | omega | (simp [go_sem, seval, F0, h14] <;> omega)
        ·try simp [go_sem] at h14
         have hz : listE (slotE t p) p.slots = 0 := by rw [← hL, listE_end _ (by omega)]
         rw [if_neg (by simp [hz])] at hF0
         try simp [go_sem, seval, F0]
         refine callQ_pure0 (ref03_Valid p.vars p.tests) ((by first | rfl | (simp [go_sem, ← List.map_take, ← List.map_drop, F0]; done))) ?_
         try simp [go_sem, seval, F0]
         refine condQ_mk (fun h21 => ?_) (fun h21 => ?_)
         ·try simp [go_sem] at h21
          try simp [go_sem, seval, F0]
          exact hQ _ _ (by first | (left; (rw [hF0, if_pos (by simpa using h21)]; simp [go_sem]); done) | (right; (rw [hF0, if_pos (by simpa using h21)]; simp [go_sem]); done))
         ·try simp [go_sem] at h21
          rw [if_neg (by simpa using h21)] at hF0
          try simp [go_sem, seval, F0]
          obtain ⟨I2, hI2⟩ := mkI fun v e H => ((e 2 = .adr t.c) ∧ (e 3 = .adr p.c) ∧ (e 13 = dI v) ∧ (v ≤ p.vars.toNat) ∧ (∀ j : Nat, j < v → occursB p j = true))
          refine loopK I2 (fun v => p.vars.toNat - v) (0) ((hI2 _ _ _).2 ⟨?_, ?_, ?_, (by first | assumption | omega | (simp [go_sem, F0]; done) | (simp_all; done)), (by (intro j hj; omega))⟩) ?_
          iterate 3 (first | omega | (simp [go_sem, seval, F0] <;> omega))
          intro v e H hi2
          obtain ⟨q2_2, q3_2, q13_2, hv, ho⟩ := (hI2 _ _ _).1 hi2
          have F2 := And.intro q2_2 (And.intro q3_2 q13_2)
          try simp [go_sem, seval, F2]
          refine condQ_mk (fun h24 => ?_) (fun h24 => ?_)
          ·try simp [go_sem] at h24
           try simp [go_sem, seval, F2, h24]
           repeat (first | intro _ | (refine ⟨obl, ?_⟩))
           refine callQ_pure0 (ref21_occurs p v) ((by first | rfl | (simp [go_sem, ← List.map_take, ← List.map_drop, F2, h24]; done))) ?_
           try simp [go_sem, seval, F2, h24]
           repeat (first | intro _ | (refine ⟨obl, ?_⟩))
           refine condQ_mk (fun h26 => ?_) (fun h26 => ?_)
           ·try simp [go_sem] at h26
            try simp [go_sem, seval, F2, h24]
            exact hQ _ _ (by first | (left; (rw [hF0, if_pos ((usedL_mem p _).2 ⟨v, by omega, by simpa using h26⟩)]; simp [go_sem]); done) | (right; (rw [hF0, if_pos ((usedL_mem p _).2 ⟨v, by omega, by simpa using h26⟩)]; simp [go_sem]); done))
           ·try simp [go_sem] at h26
            try simp [go_sem, seval, F2, h24]
            repeat (first | intro _ | (refine ⟨obl, ?_⟩))
            refine nextQ_mk (v + 1) (by omega) ((hI2 _ _ _).2 ⟨?_, ?_, ?_, (by first | assumption | omega | (simp [go_sem, F2, h24, h2, h5, h7, h9, h11, h14, h21, h26]; done) | (simp_all <;> omega)), (by (exact all_lt_succ (p := fun j => occursB p j = true) ho (by simpa using h26)))⟩) <;> first | omega | (simp [go_sem, seval, F2, h24] <;> omega)
          ·try simp [go_sem] at h24
           try simp [go_sem, seval, F2]
           have hm : ¬ mem (usedL p.vars.toNat p.slots) false = true := fun h => by
            obtain ⟨w, hw, ho'⟩ := (usedL_mem p _).1 h
            rw [ho w (by omega)] at ho'; cases ho'
           exact hQ _ _ (by first | (left; (rw [hF0, if_neg hm]; simp [go_sem]); done) | (right; (rw [hF0, if_neg hm]; simp [go_sem]); done))
end Go.Abs
end
section
namespace Go.Abs
section
variable {P : Program} {M0 : Nat → Prop} {H : AHeap} {σ : Nat → Option Ow} {w : World}
theorem flat_cI (zs : List Int) : (zs.map cI).flatten = zs.map (D.int .i64) := by
  induction zs with
  | nil => rfl
  | cons a l ih => simp only [List.map_cons, List.flatten_cons, ih, cI, dI]; rfl
theorem repL_ints {M : Nat → Prop} {N : Nat → Prop} (zs : List Int) : RepL M σ N w (zs.map (Value.int .i64)) (zs.map cI).flatten := by
  rw [flat_cI]
  refine ⟨by simp, fun j u d hu hd => ?_⟩
  rw [List.getElem?_map, Option.map_eq_some_iff] at hu hd
  obtain ⟨x, hx, rfl⟩ := hu
  obtain ⟨y, hy, rfl⟩ := hd
  rw [hx] at hy; cases hy
  exact .int _ _
def RowI (w : World) (ty : TypeId) (v : Value) (xs : List Int) : Prop := w.ownsRow 0 ty 1 v xs.length (xs.map (Value.int .i64))
theorem rel_row (hR : Rel M0 H σ w) {id : Nat} {ty : TypeId} {xs : List Int} (hg : H.get id = some ⟨ty, 1, xs.map cI, false⟩) {v : Value} (hv : RepV (Mut M0 H σ) σ H.al w v (.own id xs.length)) :
    ∃ o, σ id = some o ∧ v = o.val ∧ o.ver = xs.length ∧ o.ty = ty ∧ o.esz = 1 ∧ RowI w ty v xs := by
  obtain ⟨o, ho, l⟩ := hR.lies id _ hg
  have hver : o.ver = xs.length := by have := l.ver; simpa using this
  cases hv
  rename_i hN h1 h
  rcases h o ho with h' | ⟨_, rfl⟩
  · omega
  · obtain ⟨us, hrow, hu1, hrep⟩ := l.row
    have hus : us = xs.map (Value.int .i64) := by
      simp only [flat_cI] at hrep
      apply List.ext_getElem?
      intro j
      have hl := hrep.len
      simp only [List.length_map] at hl
      by_cases hj : j < xs.length
      · have h2 := hrep.rep j us[j] (D.int .i64 xs[j]) (lge (by omega)) (by simp [hj])
        generalize us[j] = u at h2
        have h3 : us[j]? = some us[j] := lge (by omega)
        have h4 := hrep.rep j us[j] (D.int .i64 xs[j]) h3 (by simp [hj])
        generalize hq : us[j] = q at h3 h4
        rw [h3]
        cases h4
        simp [hj]
      · rw [List.getElem?_eq_none (by omega), List.getElem?_eq_none (by simp; omega)]
    refine ⟨o, ho, rfl, hver, l.ty, l.sz, ?_⟩
    unfold RowI
    have hsz : o.esz = 1 := l.sz
    rw [hsz, hus] at hrow
    simpa using hrow
theorem rel_turn {w' : World} (hR : Rel M0 H σ w) {id : Nat} {ty : TypeId} {xs zs : List Int} (fz : Bool) (hg : H.get id = some ⟨ty, 1, xs.map cI, false⟩) {o : Ow} (ho : σ id = some o) (hver : o.ver = xs.length) (hty : o.ty = ty) (hsz : o.esz = 1)
    (hl : zs.length = xs.length) (hgr : w.grownBy w' o.block) (hrow : RowI w' ty o.val zs) :
    Rel M0 (H.put id ⟨ty, 1, zs.map cI, fz⟩) (fun i => if i = id then some o else σ i) w' ∧ Stp σ w (fun i => if i = id then some o else σ i) w' ∧
      Keeps (Mut M0 H σ) σ H.al w (Mut M0 (H.put id ⟨ty, 1, zs.map cI, fz⟩) (fun i => if i = id then some o else σ i)) (fun i => if i = id then some o else σ i) (H.put id ⟨ty, 1, zs.map cI, fz⟩).al w' := by
  refine Rel.put hR hg rfl ho ⟨ty, 1, zs.map cI, fz⟩ o hgr (fun b hb => .inl hb) (.inl rfl) (by simp [hver, hl]) hty hsz (fun c hc => ?_) (zs.map (Value.int .i64)) ?_ (fun u hu => ?_) (repL_ints zs)
  · obtain ⟨x, _, rfl⟩ := List.mem_map.1 hc; rw [hsz]; rfl
  · rw [hsz]; simpa [RowI] using hrow
  · obtain ⟨x, _, rfl⟩ := List.mem_map.1 hu; rfl
theorem acalls_turn {f : FuncId} {id : Nat} {ty : TypeId} {xs zs : List Int} {Q : D → AHeap → Prop} (hent : Ent P f) (hg : H.get id = some ⟨ty, 1, xs.map cI, false⟩) (hl : zs.length = xs.length)
    (hc : ∀ (w : World) (v : Value), RowI w ty v xs → Calls P f #[v] w fun e w' => e = .returned (.tuple #[]) ∧ w.grownBy w' v.ownBlock ∧ RowI w' ty v zs)
    (hQ : Q (.tup []) (H.put id ⟨ty, 1, zs.map cI, false⟩)) : ACalls P f [.own id xs.length] H Q := by
  refine ⟨hent, fun M0 σ w vals hR ha => ?_⟩
  obtain ⟨hlen, hr⟩ := ha
  match vals, hlen with
  | [v], _ =>
    obtain ⟨o, ho, rfl, hver, hty, hsz, hrow⟩ := rel_row hR hg (hr 0 v _ rfl rfl)
    refine (hc w _ hrow).mono fun e w' ⟨he, hgr, hrow'⟩ => ?_
    obtain ⟨h1, h2, h3⟩ := rel_turn hR false hg ho hver hty hsz hl hgr hrow'
    exact ⟨_, .tup [], _, _, he, h1, .tup [] [] rfl (fun j u d hu => by simp at hu), h2, h3, hQ⟩
theorem acalls_begin {f : FuncId} {id : Nat} {ty : TypeId} {xs zs : List Int} {m : Nat} {Q : D → AHeap → Prop} (hent : Ent P f) (hg : H.get id = some ⟨ty, 1, xs.map cI, false⟩) (hl : zs.length = xs.length) (hm : m ≤ xs.length)
    (hc : ∀ (w : World) (v : Value), RowI w ty v xs → Calls P f #[v] w fun e w' => (∃ r, e = .returned r ∧ ((v = .slice none 0 0 ∧ r = v) ∨ ∃ g n cap, v = .slice (some g) n cap ∧ r = .slice (some g) m cap)) ∧ w.grownBy w' v.ownBlock ∧ RowI w' ty v zs)
    (hQ : Q (.list ((zs.take m).map cI)) (H.put id ⟨ty, 1, zs.map cI, true⟩)) : ACalls P f [.own id xs.length] H Q := by
  refine ⟨hent, fun M0 σ w vals hR ha => ?_⟩
  obtain ⟨hlen, hr⟩ := ha
  match vals, hlen with
  | [v], _ =>
    obtain ⟨o, ho, rfl, hver, hty, hsz, hrow⟩ := rel_row hR hg (hr 0 v _ rfl rfl)
    refine (hc w _ hrow).mono fun e w' ⟨⟨r, he, hr'⟩, hgr, hrow'⟩ => ?_
    obtain ⟨h1, h2, h3⟩ := rel_turn hR true hg ho hver hty hsz hl hgr hrow'
    refine ⟨r, .list ((zs.take m).map cI), _, _, he, h1, ?_, h2, h3, hQ⟩
    rcases hr' with ⟨hv, rfl⟩ | ⟨g, n, cap, hv, rfl⟩
    · have hz : zs = [] := by
        rcases hrow.2 with ⟨_, h0⟩ | ⟨g', cap', cur, hv', _⟩
        · exact List.eq_nil_of_length_eq_zero (by omega)
        · rw [hv] at hv'; cases hv'
      subst hz
      rw [hv]; simpa using RepV.listN
    · rcases hrow'.2 with ⟨hn, _⟩ | ⟨g', cap', cur, hv', hb0, hblk, hcz, hcm, hcs, htk⟩
      · rw [hv] at hn; cases hn
      · have hvv := hv'
        rw [hv] at hvv
        cases hvv
        have hlt : (zs.take m).length = m := by simp; omega
        have hfl := flat_cI (zs.take m)
        have key := RepV.list (M := Mut M0 (H.put id ⟨ty, 1, zs.map cI, true⟩) (fun i => if i = id then some o else σ i)) (σ := fun i => if i = id then some o else σ i) (N := (H.put id ⟨ty, 1, zs.map cI, true⟩).al) (w := w')
          ⟨g', 0, none⟩ cap 1 ((zs.take m).map (Value.int .i64)) ((zs.take m).map cI) (by simp; omega) hcm (fun c hc => (by obtain ⟨x, _, rfl⟩ := List.mem_map.1 hc; rfl)) (by rw [hfl]; simp)
          (fun u hu => (by obtain ⟨x, _, rfl⟩ := List.mem_map.1 hu; rfl))
          (fun j u hu => by
            refine ⟨?_, ?_⟩
            · rintro (hm0 | ⟨i, k', o', hk', hf, ho', hb'⟩)
              · exact (hR.lt id o g' ho (by simp [Ow.block, hv, Value.ownBlock])).2 hm0
              · by_cases hi : i = id
                · simp only [AHeap.put, hi, if_true, Option.some.injEq] at hk'
                  subst hk'; cases hf
                · simp only [hi, if_false] at ho'
                  exact hi (hR.inj i id o' o g' ho' ho hb' (by simp [Ow.block, hv, Value.ownBlock]))
            · have := hrow'.cells (g := g') (by simp [hv, Value.ownBlock]) j u (by
                rw [List.getElem?_map] at hu ⊢
                rw [List.getElem?_take] at hu
                split at hu
                · exact hu
                · simp at hu)
              exact this)
          (repL_ints (zs.take m)).rep
        simp only [List.length_map, hlt] at key
        exact key
end
end Go.Abs
end
section
namespace Go.Proofs
open Go.Shelf
def Tryz.laysSort_ren : Go.Shelf.Ren := ⟨fun | 189 => 134 | 125 => 211 | 257 => 210 | 128 => 269 | 129 => 270 | 294 => 261 | 295 => 262 | 296 => 263 | 297 => 264 | 298 => 265 | 299 => 266 | 216 => 239 | 300 => 267 | 301 => 268 | 328 => 295 | 329 => 296 | 330 => 297 | 331 => 298 | 332 => 299 | 215 => 280 | 343 => 304 | n => n, fun | 28 => 26 | 3 => 3 | 46 => 262 | 0 => 0 | 51 => 301 | 53 => 67 | 4 => 4 | 183 => 295 | 182 => 294 | 131 => 234 | 5 => 5 | 9 => 9 | 218 => 314 | 222 => 318 | 228 => 321 | 229 => 239 | n => n, fun | n => n⟩
theorem Tryz.laysSort : Go.Proofs.Lays.n189 Tryz.prog Tryz.laysSort_ren := {
  mixed := by kernel_rfl
  f125 := Tryz.func211.trans (congrArg some (by kernel_rfl))
  f128 := Tryz.func269.trans (congrArg some (by kernel_rfl))
  f129 := Tryz.func270.trans (congrArg some (by kernel_rfl))
  f189 := Tryz.func134.trans (congrArg some (by kernel_rfl))
  f215 := Tryz.func280.trans (congrArg some (by kernel_rfl))
  f216 := Tryz.func239.trans (congrArg some (by kernel_rfl))
  f257 := Tryz.func210.trans (congrArg some (by kernel_rfl))
  f294 := Tryz.func261.trans (congrArg some (by kernel_rfl))
  f295 := Tryz.func262.trans (congrArg some (by kernel_rfl))
  f296 := Tryz.func263.trans (congrArg some (by kernel_rfl))
  f297 := Tryz.func264.trans (congrArg some (by kernel_rfl))
  f298 := Tryz.func265.trans (congrArg some (by kernel_rfl))
  f299 := Tryz.func266.trans (congrArg some (by kernel_rfl))
  f300 := Tryz.func267.trans (congrArg some (by kernel_rfl))
  f301 := Tryz.func268.trans (congrArg some (by kernel_rfl))
  f328 := Tryz.func295.trans (congrArg some (by kernel_rfl))
  f329 := Tryz.func296.trans (congrArg some (by kernel_rfl))
  f330 := Tryz.func297.trans (congrArg some (by kernel_rfl))
  f331 := Tryz.func298.trans (congrArg some (by kernel_rfl))
  f332 := Tryz.func299.trans (congrArg some (by kernel_rfl))
  f343 := Tryz.func304.trans (congrArg some (by kernel_rfl))
  t0 := Tryz.underlying0
  a0 := Tryz.isAgg0
  z0 := Tryz.sizeOf0
  v0 := Tryz.zeroValue0
  t3 := Tryz.underlying3
  a3 := Tryz.isAgg3
  z3 := Tryz.sizeOf3
  v3 := Tryz.zeroValue3
  t4 := Tryz.underlying4
  a4 := Tryz.isAgg4
  z4 := Tryz.sizeOf4
  v4 := Tryz.zeroValue4
  t5 := Tryz.underlying5
  a5 := Tryz.isAgg5
  z5 := Tryz.sizeOf5
  v5 := Tryz.zeroValue5
  t9 := Tryz.underlying9
  a9 := Tryz.isAgg9
  z9 := Tryz.sizeOf9
  v9 := Tryz.zeroValue9
  t28 := Tryz.underlying26
  a28 := Tryz.isAgg26
  z28 := Tryz.sizeOf26
  v28 := Tryz.zeroValue26
  t46 := Tryz.underlying262
  a46 := Tryz.isAgg262
  z46 := Tryz.sizeOf262
  v46 := Tryz.zeroValue262
  t51 := Tryz.underlying301
  a51 := Tryz.isAgg301
  z51 := Tryz.sizeOf301
  v51 := Tryz.zeroValue301
  t53 := Tryz.underlying67
  a53 := Tryz.isAgg67
  z53 := Tryz.sizeOf67
  v53 := Tryz.zeroValue67
  t131 := Tryz.underlying234
  a131 := Tryz.isAgg234
  z131 := Tryz.sizeOf234
  v131 := Tryz.zeroValue234
  t182 := Tryz.underlying294
  a182 := Tryz.isAgg294
  z182 := Tryz.sizeOf294
  v182 := Tryz.zeroValue294
  t183 := Tryz.underlying295
  a183 := Tryz.isAgg295
  z183 := Tryz.sizeOf295
  v183 := Tryz.zeroValue295
  t218 := Tryz.underlying314
  a218 := Tryz.isAgg314
  z218 := Tryz.sizeOf314
  v218 := Tryz.zeroValue314
  t222 := Tryz.underlying318
  a222 := Tryz.isAgg318
  z222 := Tryz.sizeOf318
  v222 := Tryz.zeroValue318
  t228 := Tryz.underlying321
  a228 := Tryz.isAgg321
  z228 := Tryz.sizeOf321
  v228 := Tryz.zeroValue321
  t229 := Tryz.underlying239
  a229 := Tryz.isAgg239
  z229 := Tryz.sizeOf239
  v229 := Tryz.zeroValue239 }
def Tryz.laysCompact_ren : Go.Shelf.Ren := ⟨fun | 20 => 207 | n => n, fun | 22 => 26 | 3 => 3 | 4 => 4 | 0 => 0 | n => n, fun | n => n⟩
theorem Tryz.laysCompact : Go.Proofs.Lays2.n20 Tryz.prog Tryz.laysCompact_ren := {
  mixed := by kernel_rfl
  f20 := Tryz.func207.trans (congrArg some (by kernel_rfl))
  t0 := Tryz.underlying0
  a0 := Tryz.isAgg0
  z0 := Tryz.sizeOf0
  v0 := Tryz.zeroValue0
  t3 := Tryz.underlying3
  a3 := Tryz.isAgg3
  z3 := Tryz.sizeOf3
  v3 := Tryz.zeroValue3
  t4 := Tryz.underlying4
  a4 := Tryz.isAgg4
  z4 := Tryz.sizeOf4
  v4 := Tryz.zeroValue4
  t22 := Tryz.underlying26
  a22 := Tryz.isAgg26
  z22 := Tryz.sizeOf26
  v22 := Tryz.zeroValue26
  i3 := by kernel_rfl }
end Go.Proofs
end
section
set_option maxRecDepth 4000
open Go Go.Proofs Go.Shelf
namespace Go.Abs
def sorted (xs : List Int) : List Int := xs.mergeSort fun x y => decide (x ≤ y)
theorem sorted_len (xs : List Int) : (sorted xs).length = xs.length := List.length_mergeSort xs
theorem sort_int {G : AHeap} {id : Nat} {ty : TypeId} {xs : List Int} {Q : D → AHeap → Prop} (hg : G.get id = some ⟨ty, 1, xs.map cI, false⟩) (hl : xs.length ≤ 1000000)
    (hQ : Q (.tup []) (G.put id ⟨ty, 1, (sorted xs).map cI, false⟩)) : ACalls Tryz.prog 134 [.own id xs.length] G Q := by
  refine acalls_turn ⟨Tryz.f134, Tryz.func134, rfl, rfl⟩ hg (sorted_len xs) (fun w v hrow => ?_) hQ
  rcases hrow.2 with ⟨rfl, h0⟩ | ⟨g, cap, cur, rfl, hb, hblk, hnc, hcm, hcs, htk⟩
  · have hx : xs = [] := List.eq_nil_of_length_eq_zero h0
    subst hx
    exact (Any.slices_Sort_int_none Tryz.laysSort none 0 w).mono fun e w' ⟨he, hw⟩ => by
     subst hw
     exact ⟨he, ⟨rfl, rfl, rfl, Nat.le_refl _, fun _ _ _ => rfl⟩, by simpa [RowI, sorted] using hrow⟩
  · have hH : Sort.Holds (Value.int .i64) w g 0 xs.toArray := holds_of_blockI hblk (by simpa using htk)
    refine (Any.slices_Sort_int Tryz.laysSort g 0 cap xs w hH (Array.getElem?_eq_some_iff.1 hblk).1 (by omega)).mono fun e w' ⟨he, n, os, hw⟩ => ?_
    subst hw
    refine ⟨he, grownBy_sortedI _, ?_⟩
    have := ownsRow_sortedI (n := n) (os := os) (ts := sorted xs) (sorted_len xs) hb hblk hnc hcm (by simpa using hcs)
    unfold RowI
    rw [sorted_len]
    exact this
theorem compact_le (zs : List Int) : (Lib.compact zs).length ≤ zs.length := by
  unfold Lib.compact Lib.compactUpTo
  rw [List.length_map]
  exact Nat.le_trans (List.length_filter_le _ _) (by simp)
theorem compact_int {G : AHeap} {id : Nat} {ty : TypeId} {xs : List Int} {Q : D → AHeap → Prop} (hg : G.get id = some ⟨ty, 1, xs.map cI, false⟩) (hl : xs.length ≤ 1000000)
    (hQ : ∀ k, Q (.list ((Lib.compact xs).map cI)) (G.put id k)) : ACalls Tryz.prog 207 [.own id xs.length] G Q := by
  have hcl := compact_le xs
  have hzl : (Lib.compact xs ++ List.replicate (xs.length - (Lib.compact xs).length) 0).length = xs.length := by simp; omega
  refine acalls_begin (zs := Lib.compact xs ++ List.replicate (xs.length - (Lib.compact xs).length) 0) (m := (Lib.compact xs).length) ⟨Tryz.f207, Tryz.func207, rfl, rfl⟩ hg hzl hcl (fun w v hrow => ?_) (by rw [List.take_left]; exact hQ _)
  rcases hrow.2 with ⟨rfl, h0⟩ | ⟨g, cap, cur, rfl, hb, hblk, hnc, hcm, hcs, htk⟩
  · have hx : xs = [] := List.eq_nil_of_length_eq_zero h0
    subst hx
    exact (Any.slices_Compact_int_empty Tryz.laysCompact none 0 w).mono fun e w' ⟨he, hw⟩ => by
     subst hw
     exact ⟨⟨_, he, .inl ⟨rfl, rfl⟩⟩, ⟨rfl, rfl, rfl, Nat.le_refl _, fun _ _ _ => rfl⟩, by simpa [RowI, Lib.compact, Lib.compactUpTo] using hrow⟩
  · have hH : Sort.Holds (Value.int .i64) w g 0 xs.toArray := holds_of_blockI hblk (by simpa using htk)
    refine (Any.slices_Compact_int Tryz.laysCompact g 0 cap xs w hH (by omega) hnc).mono fun e w' ⟨he, q, hw⟩ => ?_
    subst hw
    refine ⟨⟨_, he, .inr ⟨_, _, _, rfl, rfl⟩⟩, ?_, ?_⟩
    ·have := grownBy_sortedI (w := w) (g := g) (n := q) (os := #[]) (Lib.compact xs ++ List.replicate (xs.length - (Lib.compact xs).length) 0).toArray
     rw [Sort.grow_empty] at this
     exact this
    ·have := ownsRow_sortedI (n := q) (os := #[]) (ts := Lib.compact xs ++ List.replicate (xs.length - (Lib.compact xs).length) 0) hzl hb hblk hnc hcm (by simpa using hcs)
     rw [Sort.grow_empty] at this
     unfold RowI
     rw [hzl]
     exact this
def imagesN (xs : List Int) : Nat := (Lib.compact (sorted xs)).length
theorem morphism_images (xs : List Int) (hl : xs.length ≤ 1000000) : Pure Tryz.prog 127 [dLI xs] (dI (imagesN xs)) := by
  have hlen := sorted_len xs
  refine Tz.pK ⟨fun _ => false, fun _ => []⟩ Tryz.func127 rfl (fun Q hQ => ?_)
  try simp [go_sem, seval]
  refine callQ_own0 (clone_int xs hl) ((by first | rfl | (simp [go_sem, ← List.map_take, ← List.map_drop]; done))) ?_
  try simp [go_sem, seval]
  unfold callQ; refine sort_int (ty := 3) (xs := xs) (by simp [go_sem]) hl ?_
  try simp [go_sem, seval]
  repeat (first | intro _ | (refine ⟨obl, ?_⟩))
  unfold callQ; rw [show xs.length = (sorted xs).length from hlen.symm]; refine compact_int (ty := 3) (xs := sorted xs) (by simp [go_sem]) (by omega) fun k => ?_
  try simp [go_sem, seval]
  repeat (first | intro _ | (refine ⟨obl, ?_⟩))
  exact hQ _ _ (by simp [go_sem, imagesN] <;> first | omega | (rw [bei]; simp <;> omega) | (simp_all <;> omega))
end Go.Abs
end
section
set_option maxRecDepth 4000
open Go Go.Proofs
namespace Go.Abs
theorem sorted_pw (xs : List Int) : (sorted xs).Pairwise (· ≤ ·) := by
  have := List.pairwise_mergeSort (le := fun (x y : Int) => decide (x ≤ y)) (fun a b c h1 h2 => by simp at *; omega) (fun a b => by simp; omega) xs
  exact this.imp fun h => by simpa using h
theorem imagesN_iff (xs : List Int) : imagesN xs = xs.length ↔ xs.Nodup := by
  have hp : (sorted xs).Perm xs := List.mergeSort_perm xs _
  rw [← hp.nodup_iff, ← sorted_len xs]
  unfold imagesN Lib.compact Lib.compactUpTo
  rw [List.length_map]
  have hpw := List.pairwise_iff_getElem.1 (sorted_pw xs)
  generalize sorted xs = s at *
  have key : (List.filter (Lib.keeps s.toArray) (List.range s.length)).length = s.length ↔ ∀ j, j < s.length → Lib.keeps s.toArray j = true := by
    have := List.length_filter_eq_length_iff (p := Lib.keeps s.toArray) (l := List.range s.length)
    rw [List.length_range] at this
    rw [this]; simp
  rw [key]
  have hk : ∀ j (hj : j < s.length), Lib.keeps s.toArray j = true ↔ (j = 0 ∨ s[j] ≠ s[j - 1]'(by omega)) := fun j hj => by
    simp only [Lib.keeps, decide_eq_true_eq]
    rw [getElem!_pos _ j (by simpa using hj), getElem!_pos _ (j - 1) (by simp; omega)]
    simp
  constructor
  · intro h
    rw [List.nodup_iff_pairwise_ne, List.pairwise_iff_getElem]
    intro i j hi hj hij
    rcases (hk j hj).1 (h j hj) with h0 | h0
    ·omega
    ·have h1 := hpw (j - 1) j (by omega) hj (by omega)
     by_cases hij' : i = j - 1
     ·subst hij'; omega
     ·have h2 := hpw i (j - 1) hi (by omega) (by omega)
      omega
  · intro h j hj
    rw [hk j hj]
    by_cases h0 : j = 0
    ·exact .inl h0
    ·right
     intro he
     have := (List.getElem_inj h).1 he
     omega
def zeroEdge : Edge := ⟨0, 0, 0⟩
def mapNE (a b : Graph) (m : Part) (i : Nat) : Int :=
  if m.nodes[i]?.getD 0 < 0 ∨ (b.nodes.length : Int) ≤ m.nodes[i]?.getD 0 then 6
  else if b.nodes[(m.nodes[i]?.getD 0).toNat]?.getD 0 ≠ a.nodes[i]?.getD 0 then 13 else 0
def mapEE (a b : Graph) (m : Part) (i : Nat) : Int :=
  if m.edges[i]?.getD 0 < 0 ∨ (b.edges.length : Int) ≤ m.edges[i]?.getD 0 then 6
  else if (a.edges[i]?.getD zeroEdge).type ≠ (b.edges[(m.edges[i]?.getD 0).toNat]?.getD zeroEdge).type then 13
  else if m.nodes[(a.edges[i]?.getD zeroEdge).from_.toNat]?.getD 0 ≠ (b.edges[(m.edges[i]?.getD 0).toNat]?.getD zeroEdge).from_ ∨ m.nodes[(a.edges[i]?.getD zeroEdge).to_.toNat]?.getD 0 ≠ (b.edges[(m.edges[i]?.getD 0).toNat]?.getD zeroEdge).to_ then 11 else 0
def morphF (a b : Graph) (m : Part) : Int :=
  if graphF a ≠ 0 then graphF a
  else if graphF b ≠ 0 then graphF b
  else if m.nodes.length ≠ a.nodes.length ∨ m.edges.length ≠ a.edges.length then 20
  else if firstE (mapNE a b m) 0 a.nodes.length ≠ 0 then firstE (mapNE a b m) 0 a.nodes.length
  else firstE (mapEE a b m) 0 a.edges.length
theorem morphism_Valid (a b : Graph) (m : Part) : Pure Tryz.prog 60 [a.d, b.d, m.d] (dI (morphF a b m)) := by
  refine Tz.pK ⟨fun t => t == 13 || t == 14, fun r => match r with | 22 => [(0, 10), (1, 10), (3, 10), (4, 10), (5, 10), (6, 10), (8, 10), (9, 10), (0, 11), (1, 11), (3, 11), (4, 11), (5, 11), (6, 11), (8, 11), (9, 11), (10, 11), (5, 12), (6, 12), (8, 12), (9, 12)] | _ => []⟩ Tryz.func60 rfl (fun Q hQ => ?_)
  try simp [go_sem, seval]
  refine callQ_pure0 (graph_Valid a) ((by first | rfl | (simp [go_sem, ← List.map_take, ← List.map_drop]; done))) ?_
  try simp [go_sem, seval]
  refine condQ_mk (fun h2 => ?_) (fun h2 => ?_)
  · try simp [go_sem] at h2
    try simp [go_sem, seval]
    exact hQ _ _ (by first | (left; (simp [go_sem, morphF, h2]); done) | (right; (simp [go_sem, morphF, h2]); done))
  · try simp [go_sem] at h2
    try simp [go_sem, seval]
    refine callQ_pure0 (graph_Valid b) ((by first | rfl | (simp [go_sem, ← List.map_take, ← List.map_drop]; done))) ?_
    try simp [go_sem, seval]
    refine condQ_mk (fun h5 => ?_) (fun h5 => ?_)
    ·try simp [go_sem] at h5
     try simp [go_sem, seval]
     exact hQ _ _ (by first | (left; (simp [go_sem, morphF, h2, h5]); done) | (right; (simp [go_sem, morphF, h2, h5]); done))
    ·try simp [go_sem] at h5
     try simp [go_sem, seval]
     repeat (first | intro _ | (refine ⟨obl, ?_⟩))
     refine condQ_mk (fun h7 => ?_) (fun h7 => ?_)
     ·try simp [go_sem] at h7
      try simp [go_sem, seval]
      exact hQ _ _ (by first | (left; (simp [go_sem, morphF, h2, h5, show m.nodes.length ≠ a.nodes.length ∨ m.edges.length ≠ a.edges.length by omega]); done) | (right; (simp [go_sem, morphF, h2, h5, show m.nodes.length ≠ a.nodes.length ∨ m.edges.length ≠ a.edges.length by omega]); done))
     ·try simp [go_sem] at h7
      have hM : morphF a b m = (if firstE (mapNE a b m) 0 a.nodes.length ≠ 0 then firstE (mapNE a b m) 0 a.nodes.length else firstE (mapEE a b m) 0 a.edges.length) := by
       unfold morphF; rw [if_neg (by simp [h2]), if_neg (by simp [h5]), if_neg (by omega)]
      have hga := graphF_le h2
      have hgb := graphF_le h5
      have hia := (graphF_in h2).2
      try simp [go_sem, seval]
      repeat (first | intro _ | (refine ⟨obl, ?_⟩))
      obtain ⟨I0, hI0⟩ := mkI fun i e H => ((e 3 = .adr a.c) ∧ (e 4 = .adr b.c) ∧ (e 5 = .adr m.c) ∧ (e 42 = dLI m.nodes) ∧ (e 43 = dI m.nodes.length) ∧ (e 44 = dI i) ∧ (i ≤ m.nodes.length) ∧ (firstE (mapNE a b m) i (a.nodes.length - i) = firstE (mapNE a b m) 0 a.nodes.length))
      refine loopK I0 (fun i => m.nodes.length - i) (0) ((hI0 _ _ _).2 ⟨?_, ?_, ?_, ?_, ?_, ?_, (by first | assumption | omega | (simp [go_sem]; done) | (simp_all; done)), (by rfl)⟩) ?_
      iterate 6 (first | omega | (simp [go_sem, seval] <;> omega))
      intro i e H hi0
      obtain ⟨q3_0, q4_0, q5_0, q42_0, q43_0, q44_0, hi, hF⟩ := (hI0 _ _ _).1 hi0
      have F0 := And.intro q3_0 (And.intro q4_0 (And.intro q5_0 (And.intro q42_0 (And.intro q43_0 q44_0))))
      try simp [go_sem, seval, F0]
      refine condQ_mk (fun h10 => ?_) (fun h10 => ?_)
      ·try simp [go_sem] at h10
       have hn : i < a.nodes.length := by omega
       have hst := firstE_step (mapNE a b m) hn
       rw [hF] at hst
       have hNE : mapNE a b m i = (if m.nodes[i] < 0 ∨ (b.nodes.length : Int) ≤ m.nodes[i] then 6 else if b.nodes[m.nodes[i].toNat]?.getD 0 ≠ a.nodes[i] then 13 else 0) := by simp only [mapNE, lge h10, lge hn, Option.getD_some]
       try simp [go_sem, seval, F0, h10, hn]
       repeat (first | intro _ | (refine ⟨obl, ?_⟩))
       refine condQ_mk (fun h12 => ?_) (fun h12 => ?_)
       ·try simp [go_sem] at h12
        rw [if_pos (by omega)] at hNE
        rw [hNE, if_pos (by omega)] at hst
        try simp [go_sem, seval, F0, h10, hn]
        exact hQ _ _ (by first | (left; (simp [go_sem, hM, hst]); done) | (right; (simp [go_sem, hM, hst]); done))
       ·try simp [go_sem] at h12
        have hkb : m.nodes[i].toNat < b.nodes.length := by omega
        rw [if_neg (by omega), lge hkb, Option.getD_some] at hNE
        try simp [go_sem, seval, F0, h10, hn, lge hkb]
        repeat (first | intro _ | (refine ⟨obl, ?_⟩))
        refine condQ_mk (fun h14 => ?_) (fun h14 => ?_)
        ·try simp [go_sem] at h14
         rw [if_pos h14] at hNE
         rw [hNE, if_pos (by omega)] at hst
         try simp [go_sem, seval, F0, h10, hn, lge hkb]
         exact hQ _ _ (by first | (left; (simp [go_sem, hM, hst]); done) | (right; (simp [go_sem, hM, hst]); done))
        ·try simp [go_sem] at h14
         rw [if_neg (by simpa using h14)] at hNE
         rw [hNE, if_neg (by omega)] at hst
         try simp [go_sem, seval, F0, h10, hn, lge hkb]
         repeat (first | intro _ | (refine ⟨obl, ?_⟩))
         refine nextQ_mk (i + 1) (by omega) ((hI0 _ _ _).2 ⟨?_, ?_, ?_, ?_, ?_, ?_, (by first | assumption | omega | (simp [go_sem, F0, h10, hn, lge hkb, h2, h5, h7, h12, h14]; done) | (simp_all <;> omega)), (by exact hst.symm)⟩) <;> first | omega | (simp [go_sem, seval, F0, h10, hn, lge hkb] <;> omega)
      ·try simp [go_sem] at h10
       have hN0 : firstE (mapNE a b m) 0 a.nodes.length = 0 := by rw [← hF, show a.nodes.length - i = 0 by omega]; rfl
       rw [hN0, if_neg (by omega)] at hM
       try simp [go_sem, seval, F0]
       repeat (first | intro _ | (refine ⟨obl, ?_⟩))
       obtain ⟨I2, hI2⟩ := mkI fun k e H => ((e 3 = .adr a.c) ∧ (e 4 = .adr b.c) ∧ (e 5 = .adr m.c) ∧ (e 71 = dLI m.edges) ∧ (e 72 = dI m.edges.length) ∧ (e 73 = dI k) ∧ (k ≤ m.edges.length) ∧ (firstE (mapEE a b m) k (a.edges.length - k) = morphF a b m))
       refine loopK I2 (fun k => m.edges.length - k) (0) ((hI2 _ _ _).2 ⟨?_, ?_, ?_, ?_, ?_, ?_, (by first | assumption | omega | (simp [go_sem, F0]; done) | (simp_all; done)), (by (exact hM.symm))⟩) ?_
       iterate 6 (first | omega | (simp [go_sem, seval, F0] <;> omega))
       intro k e H hi2
       obtain ⟨q3_2, q4_2, q5_2, q71_2, q72_2, q73_2, hk, hE⟩ := (hI2 _ _ _).1 hi2
       have F2 := And.intro q3_2 (And.intro q4_2 (And.intro q5_2 (And.intro q71_2 (And.intro q72_2 q73_2))))
       try simp [go_sem, seval, F2]
       refine condQ_mk (fun h18 => ?_) (fun h18 => ?_)
       ·try simp [go_sem] at h18
        have hn : k < a.edges.length := by omega
        have hst := firstE_step (mapEE a b m) hn
        rw [hE] at hst
        have hx := hia _ (lgm hn)
        have hxf : a.edges[k].from_.toNat < m.nodes.length := by omega
        have hxt : a.edges[k].to_.toNat < m.nodes.length := by omega
        have hEE : mapEE a b m k = (if m.edges[k] < 0 ∨ (b.edges.length : Int) ≤ m.edges[k] then 6 else if a.edges[k].type ≠ (b.edges[m.edges[k].toNat]?.getD zeroEdge).type then 13 else if m.nodes[a.edges[k].from_.toNat] ≠ (b.edges[m.edges[k].toNat]?.getD zeroEdge).from_ ∨ m.nodes[a.edges[k].to_.toNat] ≠ (b.edges[m.edges[k].toNat]?.getD zeroEdge).to_ then 11 else 0) := by
         simp only [mapEE, lge h18, lge hn, Option.getD_some, lge hxf, lge hxt]
        try simp [go_sem, seval, F2, h18, hn, lge hxf, lge hxt]
        repeat (first | intro _ | (refine ⟨obl, ?_⟩))
        refine condQ_mk (fun h20 => ?_) (fun h20 => ?_)
        ·try simp [go_sem] at h20
         rw [if_pos (by omega)] at hEE
         rw [hEE, if_pos (by omega)] at hst
         try simp [go_sem, seval, F2, h18, hn, lge hxf, lge hxt]
         exact hQ _ _ (by first | (left; (simp [go_sem, ← hst]); done) | (right; (simp [go_sem, ← hst]); done))
        ·try simp [go_sem] at h20
         have hkb : m.edges[k].toNat < b.edges.length := by omega
         rw [if_neg (by omega), lge hkb, Option.getD_some] at hEE
         try simp [go_sem, seval, F2, h18, hn, lge hxf, lge hxt, lge hkb]
         repeat (first | intro _ | (refine ⟨obl, ?_⟩))
         refine condQ_mk (fun h23 => ?_) (fun h23 => ?_)
         ·try simp [go_sem] at h23
          rw [if_pos h23] at hEE
          rw [hEE, if_pos (by omega)] at hst
          try simp [go_sem, seval, F2, h18, hn, lge hxf, lge hxt, lge hkb]
          exact hQ _ _ (by first | (left; (simp [go_sem, ← hst]); done) | (right; (simp [go_sem, ← hst]); done))
         ·try simp [go_sem] at h23
          rw [if_neg (by simpa using h23)] at hEE
          try simp [go_sem, seval, F2, h18, hn, lge hxf, lge hxt, lge hkb]
          repeat (first | intro _ | (refine ⟨obl, ?_⟩))
          refine condQ_mk (fun h25 => ?_) (fun h25 => ?_)
          ·try simp [go_sem] at h25
           rw [if_pos (by omega)] at hEE
           rw [hEE, if_pos (by omega)] at hst
           try simp [go_sem, seval, F2, h18, hn, lge hxf, lge hxt, lge hkb]
           exact hQ _ _ (by first | (left; (simp [go_sem, ← hst]); done) | (right; (simp [go_sem, ← hst]); done))
          ·try simp [go_sem] at h25
           rw [if_neg (by omega)] at hEE
           rw [hEE, if_neg (by omega)] at hst
           try simp [go_sem, seval, F2, h18, hn, lge hxf, lge hxt, lge hkb]
           repeat (first | intro _ | (refine ⟨obl, ?_⟩))
           refine nextQ_mk (k + 1) (by omega) ((hI2 _ _ _).2 ⟨?_, ?_, ?_, ?_, ?_, ?_, (by first | assumption | omega | (simp [go_sem, F2, h18, hn, lge hxf, lge hxt, lge hkb, h2, h5, h7, h10, h20, h23, h25]; done) | (simp_all <;> omega)), (by exact hst.symm)⟩) <;> first | omega | (simp [go_sem, seval, F2, h18, hn, lge hxf, lge hxt, lge hkb] <;> omega)
       ·try simp [go_sem] at h18
        try simp [go_sem, seval, F2]
        exact hQ _ _ (by first | (left; (rw [← hE, show a.edges.length - k = 0 by omega]; rfl); done) | (right; (rw [← hE, show a.edges.length - k = 0 by omega]; rfl); done))
def injB (a b : Graph) (m : Part) : Bool := decide (morphF a b m = 0) && (decide m.nodes.Nodup && decide m.edges.Nodup)
theorem morphF_len {a b : Graph} {m : Part} (h : morphF a b m = 0) : graphF a = 0 ∧ graphF b = 0 ∧ m.nodes.length = a.nodes.length ∧ m.edges.length = a.edges.length := by
  unfold morphF at h
  split at h
  · rename_i h1; exact absurd h h1
  · rename_i h1
    split at h
    ·rename_i h2; exact absurd h h2
    ·rename_i h2
     split at h
     ·cases h
     ·omega
theorem images_eq (xs : List Int) : ((imagesN xs : Int) == (xs.length : Int)) = decide xs.Nodup := by
  rw [bei]
  simp only [beq_iff_eq, decide_eq_true_eq]
  rw [← imagesN_iff]
  omega
theorem morphism_Injective (a b : Graph) (m : Part) (h1 : m.nodes.length ≤ 1000000) (h2 : m.edges.length ≤ 1000000) : Pure Tryz.prog 61 [a.d, b.d, m.d] (.bool (injB a b m)) := by
  refine Tz.pK ⟨fun _ => false, fun _ => []⟩ Tryz.func61 rfl (fun Q hQ => ?_)
  try simp [go_sem, seval, images_eq]
  repeat (first | intro _ | (refine ⟨obl, ?_⟩))
  refine dcallQ_pure0 (morphism_Valid a b m) ((by first | rfl | (simp [go_sem, ← List.map_take, ← List.map_drop, images_eq]; done))) ?_
  try simp [go_sem, seval, images_eq]
  repeat (first | intro _ | (refine ⟨obl, ?_⟩))
  refine dgcallQ_pure0 (fun hg => morphism_images m.nodes h1) (fun hg => (by first | rfl | (simp [go_sem, ← List.map_take, ← List.map_drop, images_eq]; done))) ?_
  try simp [go_sem, seval, images_eq]
  repeat (first | intro _ | (refine ⟨obl, ?_⟩))
  refine dgcallQ_pure0 (fun hg => morphism_images m.edges h2) (fun hg => (by first | rfl | (simp [go_sem, ← List.map_take, ← List.map_drop, images_eq]; done))) ?_
  try simp [go_sem, seval, images_eq]
  repeat (first | intro _ | (refine ⟨obl, ?_⟩))
  exact hQ _ _ (by first | (left; (simp [go_sem, injB, images_eq, Bool.and_assoc]); done) | (right; (simp [go_sem, injB, images_eq, Bool.and_assoc]); done))
end Go.Abs
end
