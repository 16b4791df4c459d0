/- Layer 6: morphisms; sorting. · Layer 6: morphisms. · Layers  -/
import Derived.Test.YthnegcfdjjhfgaaGreatZmI
import Derived.Test.YthnegcfdjjhfgaaGreatZmA
set_option linter.unusedVariables false
set_option linter.unusedSimpArgs false
section
set_option maxRecDepth 4000
open Go Go.Proofs Go.Shelf
namespace Go.Abs
def sorted (xs : List Int) : List Int := xs.mergeSort fun x y => decide (x ≤ y)
theorem sorted_len (xs : List Int) : (sorted xs).length = xs.length := List.length_mergeSort xs
theorem sort_int {G : AHeap} {id : Nat} {ty : TypeId} {xs : List Int} {Q : D → AHeap → Prop} (hg : G.get id = some ⟨ty, 1, xs.map cI, false⟩) (hl : xs.length ≤ 1000000)
    (hQ : Q (.tup []) (G.put id ⟨ty, 1, (sorted xs).map cI, false⟩)) : ACalls Tryz.prog 134 [.own id xs.length] G Q := by
  refine acalls_turn ⟨Tryz.f134, Tryz.func134, rfl, rfl⟩ hg (sorted_len xs) (fun w v hrow => ?_) hQ
  rcases hrow.2 with ⟨rfl, h0⟩ | ⟨g, cap, cur, rfl, hb, hblk, hnc, hcm, hcs, htk⟩
  · have hx : xs = [] := List.eq_nil_of_length_eq_zero h0
    subst hx
    exact (Any.slices_Sort_int_none Tryz.laysSort none 0 w).mono fun e w' ⟨he, hw⟩ => by
     subst hw
     exact ⟨he, ⟨rfl, rfl, rfl, Nat.le_refl _, fun _ _ _ => rfl⟩, by simpa [RowI, sorted] using hrow⟩
  · have hH : Sort.Holds (Value.int .i64) w g 0 xs.toArray := holds_of_blockI hblk (by simpa using htk)
    refine (Any.slices_Sort_int Tryz.laysSort g 0 cap xs w hH (Array.getElem?_eq_some_iff.1 hblk).1 (by omega)).mono fun e w' ⟨he, n, os, hw⟩ => ?_
    subst hw
    refine ⟨he, grownBy_sortedI _, ?_⟩
    have := ownsRow_sortedI (n := n) (os := os) (ts := sorted xs) (sorted_len xs) hb hblk hnc hcm (by simpa using hcs)
    unfold RowI
    rw [sorted_len]
    exact this
theorem compact_le (zs : List Int) : (Lib.compact zs).length ≤ zs.length := by
  unfold Lib.compact Lib.compactUpTo
  rw [List.length_map]
  exact Nat.le_trans (List.length_filter_le _ _) (by simp)
theorem compact_int {G : AHeap} {id : Nat} {ty : TypeId} {xs : List Int} {Q : D → AHeap → Prop} (hg : G.get id = some ⟨ty, 1, xs.map cI, false⟩) (hl : xs.length ≤ 1000000)
    (hQ : ∀ k, Q (.list ((Lib.compact xs).map cI)) (G.put id k)) : ACalls Tryz.prog 207 [.own id xs.length] G Q := by
  have hcl := compact_le xs
  have hzl : (Lib.compact xs ++ List.replicate (xs.length - (Lib.compact xs).length) 0).length = xs.length := by simp; omega
  refine acalls_begin (zs := Lib.compact xs ++ List.replicate (xs.length - (Lib.compact xs).length) 0) (m := (Lib.compact xs).length) ⟨Tryz.f207, Tryz.func207, rfl, rfl⟩ hg hzl hcl (fun w v hrow => ?_) (by rw [List.take_left]; exact hQ _)
  rcases hrow.2 with ⟨rfl, h0⟩ | ⟨g, cap, cur, rfl, hb, hblk, hnc, hcm, hcs, htk⟩
  · have hx : xs = [] := List.eq_nil_of_length_eq_zero h0
    subst hx
    exact (Any.slices_Compact_int_empty Tryz.laysCompact none 0 w).mono fun e w' ⟨he, hw⟩ => by
     subst hw
     exact ⟨⟨_, he, .inl ⟨rfl, rfl⟩⟩, ⟨rfl, rfl, rfl, Nat.le_refl _, fun _ _ _ => rfl⟩, by simpa [RowI, Lib.compact, Lib.compactUpTo] using hrow⟩
  · have hH : Sort.Holds (Value.int .i64) w g 0 xs.toArray := holds_of_blockI hblk (by simpa using htk)
    refine (Any.slices_Compact_int Tryz.laysCompact g 0 cap xs w hH (by omega) hnc).mono fun e w' ⟨he, q, hw⟩ => ?_
    subst hw
    refine ⟨⟨_, he, .inr ⟨_, _, _, rfl, rfl⟩⟩, ?_, ?_⟩
    ·have := grownBy_sortedI (w := w) (g := g) (n := q) (os := #[]) (Lib.compact xs ++ List.replicate (xs.length - (Lib.compact xs).length) 0).toArray
     rw [Sort.grow_empty] at this
     exact this
    ·have := ownsRow_sortedI (n := q) (os := #[]) (ts := Lib.compact xs ++ List.replicate (xs.length - (Lib.compact xs).length) 0) hzl hb hblk hnc hcm (by simpa using hcs)
     rw [Sort.grow_empty] at this
     unfold RowI
     rw [hzl]
     exact this
def imagesN (xs : List Int) : Nat := (Lib.compact (sorted xs)).length
theorem morphism_images (xs : List Int) (hl : xs.length ≤ 1000000) : Pure Tryz.prog 127 [dLI xs] (dI (imagesN xs)) := by
  have hlen := sorted_len xs
  refine Tz.pK ⟨fun _ => false, fun _ => []⟩ Tryz.func127 rfl (fun Q hQ => ?_)
  try simp [go_sem, seval]
  refine callQ_own0 (clone_int xs hl) ((by first | rfl | (simp [go_sem, ← List.map_take, ← List.map_drop]; done))) ?_
  try simp [go_sem, seval]
  unfold callQ; refine sort_int (ty := 3) (xs := xs) (by simp [go_sem]) hl ?_
  try simp [go_sem, seval]
  repeat (first | intro _ | (refine ⟨obl, ?_⟩))
  unfold callQ; rw [show xs.length = (sorted xs).length from hlen.symm]; refine compact_int (ty := 3) (xs := sorted xs) (by simp [go_sem]) (by omega) fun k => ?_
  try simp [go_sem, seval]
  repeat (first | intro _ | (refine ⟨obl, ?_⟩))
  exact hQ _ _ (by simp [go_sem, imagesN] <;> first | omega | (rw [bei]; simp <;> omega) | (simp_all <;> omega))
end Go.Abs
end
section
set_option maxRecDepth 4000
open Go Go.Proofs
namespace Go.Abs
theorem sorted_pw (xs : List Int) : (sorted xs).Pairwise (· ≤ ·) := by
  have := List.pairwise_mergeSort (le := fun (x y : Int) => decide (x ≤ y)) (fun a b c h1 h2 => by simp at *; omega) (fun a b => by simp; omega) xs
  exact this.imp fun h => by simpa using h
theorem imagesN_iff (xs : List Int) : imagesN xs = xs.length ↔ xs.Nodup := by
  have hp : (sorted xs).Perm xs := List.mergeSort_perm xs _
  rw [← hp.nodup_iff, ← sorted_len xs]
  unfold imagesN Lib.compact Lib.compactUpTo
  rw [List.length_map]
  have hpw := List.pairwise_iff_getElem.1 (sorted_pw xs)
  generalize sorted xs = s at *
  have key : (List.filter (Lib.keeps s.toArray) (List.range s.length)).length = s.length ↔ ∀ j, j < s.length → Lib.keeps s.toArray j = true := by
    have := List.length_filter_eq_length_iff (p := Lib.keeps s.toArray) (l := List.range s.length)
    rw [List.length_range] at this
    rw [this]; simp
  rw [key]
  have hk : ∀ j (hj : j < s.length), Lib.keeps s.toArray j = true ↔ (j = 0 ∨ s[j] ≠ s[j - 1]'(by omega)) := fun j hj => by
    simp only [Lib.keeps, decide_eq_true_eq]
    rw [getElem!_pos _ j (by simpa using hj), getElem!_pos _ (j - 1) (by simp; omega)]
    simp
  constructor
  · intro h
    rw [List.nodup_iff_pairwise_ne, List.pairwise_iff_getElem]
    intro i j hi hj hij
    rcases (hk j hj).1 (h j hj) with h0 | h0
    ·omega
    ·have h1 := hpw (j - 1) j (by omega) hj (by omega)
     by_cases hij' : i = j - 1
     ·subst hij'; omega
     ·have h2 := hpw i (j - 1) hi (by omega) (by omega)
      omega
  · intro h j hj
    rw [hk j hj]
    by_cases h0 : j = 0
    ·exact .inl h0
    ·right
     intro he
     have := (List.getElem_inj h).1 he
     omega
def zeroEdge : Edge := ⟨0, 0, 0⟩
def mapNE (a b : Graph) (m : Part) (i : Nat) : Int :=
  if m.nodes[i]?.getD 0 < 0 ∨ (b.nodes.length : Int) ≤ m.nodes[i]?.getD 0 then 6
  else if b.nodes[(m.nodes[i]?.getD 0).toNat]?.getD 0 ≠ a.nodes[i]?.getD 0 then 13 else 0
def mapEE (a b : Graph) (m : Part) (i : Nat) : Int :=
  if m.edges[i]?.getD 0 < 0 ∨ (b.edges.length : Int) ≤ m.edges[i]?.getD 0 then 6
  else if (a.edges[i]?.getD zeroEdge).type ≠ (b.edges[(m.edges[i]?.getD 0).toNat]?.getD zeroEdge).type then 13
  else if m.nodes[(a.edges[i]?.getD zeroEdge).from_.toNat]?.getD 0 ≠ (b.edges[(m.edges[i]?.getD 0).toNat]?.getD zeroEdge).from_ ∨ m.nodes[(a.edges[i]?.getD zeroEdge).to_.toNat]?.getD 0 ≠ (b.edges[(m.edges[i]?.getD 0).toNat]?.getD zeroEdge).to_ then 11 else 0
def morphF (a b : Graph) (m : Part) : Int :=
  if graphF a ≠ 0 then graphF a
  else if graphF b ≠ 0 then graphF b
  else if m.nodes.length ≠ a.nodes.length ∨ m.edges.length ≠ a.edges.length then 20
  else if firstE (mapNE a b m) 0 a.nodes.length ≠ 0 then firstE (mapNE a b m) 0 a.nodes.length
  else firstE (mapEE a b m) 0 a.edges.length
theorem morphism_Valid (a b : Graph) (m : Part) : Pure Tryz.prog 60 [a.d, b.d, m.d] (dI (morphF a b m)) := by
  refine Tz.pK ⟨fun t => t == 13 || t == 14, fun r => match r with | 22 => [(0, 10), (1, 10), (3, 10), (4, 10), (5, 10), (6, 10), (8, 10), (9, 10), (0, 11), (1, 11), (3, 11), (4, 11), (5, 11), (6, 11), (8, 11), (9, 11), (10, 11), (5, 12), (6, 12), (8, 12), (9, 12)] | _ => []⟩ Tryz.func60 rfl (fun Q hQ => ?_)
  try simp [go_sem, seval]
  refine callQ_pure0 (graph_Valid a) ((by first | rfl | (simp [go_sem, ← List.map_take, ← List.map_drop]; done))) ?_
  try simp [go_sem, seval]
  refine condQ_mk (fun h2 => ?_) (fun h2 => ?_)
  · try simp [go_sem] at h2
    try simp [go_sem, seval]
    exact hQ _ _ (by first | (left; (simp [go_sem, morphF, h2]); done) | (right; (simp [go_sem, morphF, h2]); done))
  · try simp [go_sem] at h2
    try simp [go_sem, seval]
    refine callQ_pure0 (graph_Valid b) ((by first | rfl | (simp [go_sem, ← List.map_take, ← List.map_drop]; done))) ?_
    try simp [go_sem, seval]
    refine condQ_mk (fun h5 => ?_) (fun h5 => ?_)
    ·try simp [go_sem] at h5
     try simp [go_sem, seval]
     exact hQ _ _ (by first | (left; (simp [go_sem, morphF, h2, h5]); done) | (right; (simp [go_sem, morphF, h2, h5]); done))
    ·try simp [go_sem] at h5
     try simp [go_sem, seval]
     repeat (first | intro _ | (refine ⟨obl, ?_⟩))
     refine condQ_mk (fun h7 => ?_) (fun h7 => ?_)
     ·try simp [go_sem] at h7
      try simp [go_sem, seval]
      exact hQ _ _ (by first | (left; (simp [go_sem, morphF, h2, h5, show m.nodes.length ≠ a.nodes.length ∨ m.edges.length ≠ a.edges.length by omega]); done) | (right; (simp [go_sem, morphF, h2, h5, show m.nodes.length ≠ a.nodes.length ∨ m.edges.length ≠ a.edges.length by omega]); done))
     ·try simp [go_sem] at h7
      have hM : morphF a b m = (if firstE (mapNE a b m) 0 a.nodes.length ≠ 0 then firstE (mapNE a b m) 0 a.nodes.length else firstE (mapEE a b m) 0 a.edges.length) := by
       unfold morphF; rw [if_neg (by simp [h2]), if_neg (by simp [h5]), if_neg (by omega)]
      have hga := graphF_le h2
      have hgb := graphF_le h5
      have hia := (graphF_in h2).2
      try simp [go_sem, seval]
      repeat (first | intro _ | (refine ⟨obl, ?_⟩))
      obtain ⟨I0, hI0⟩ := mkI fun i e H => ((e 3 = .adr a.c) ∧ (e 4 = .adr b.c) ∧ (e 5 = .adr m.c) ∧ (e 42 = dLI m.nodes) ∧ (e 43 = dI m.nodes.length) ∧ (e 44 = dI i) ∧ (i ≤ m.nodes.length) ∧ (firstE (mapNE a b m) i (a.nodes.length - i) = firstE (mapNE a b m) 0 a.nodes.length))
      refine loopK I0 (fun i => m.nodes.length - i) (0) ((hI0 _ _ _).2 ⟨?_, ?_, ?_, ?_, ?_, ?_, (by first | assumption | omega | (simp [go_sem]; done) | (simp_all; done)), (by rfl)⟩) ?_
      iterate 6 (first | omega | (simp [go_sem, seval] <;> omega))
      intro i e H hi0
      obtain ⟨q3_0, q4_0, q5_0, q42_0, q43_0, q44_0, hi, hF⟩ := (hI0 _ _ _).1 hi0
      have F0 := And.intro q3_0 (And.intro q4_0 (And.intro q5_0 (And.intro q42_0 (And.intro q43_0 q44_0))))
      try simp [go_sem, seval, F0]
      refine condQ_mk (fun h10 => ?_) (fun h10 => ?_)
      ·try simp [go_sem] at h10
       have hn : i < a.nodes.length := by omega
       have hst := firstE_step (mapNE a b m) hn
       rw [hF] at hst
       have hNE : mapNE a b m i = (if m.nodes[i] < 0 ∨ (b.nodes.length : Int) ≤ m.nodes[i] then 6 else if b.nodes[m.nodes[i].toNat]?.getD 0 ≠ a.nodes[i] then 13 else 0) := by simp only [mapNE, lge h10, lge hn, Option.getD_some]
       try simp [go_sem, seval, F0, h10, hn]
       repeat (first | intro _ | (refine ⟨obl, ?_⟩))
       refine condQ_mk (fun h12 => ?_) (fun h12 => ?_)
       ·try simp [go_sem] at h12
        rw [if_pos (by omega)] at hNE
        rw [hNE, if_pos (by omega)] at hst
        try simp [go_sem, seval, F0, h10, hn]
        exact hQ _ _ (by first | (left; (simp [go_sem, hM, hst]); done) | (right; (simp [go_sem, hM, hst]); done))
       ·try simp [go_sem] at h12
        have hkb : m.nodes[i].toNat < b.nodes.length := by omega
        rw [if_neg (by omega), lge hkb, Option.getD_some] at hNE
        try simp [go_sem, seval, F0, h10, hn, lge hkb]
        repeat (first | intro _ | (refine ⟨obl, ?_⟩))
        refine condQ_mk (fun h14 => ?_) (fun h14 => ?_)
        ·try simp [go_sem] at h14
         rw [if_pos h14] at hNE
         rw [hNE, if_pos (by omega)] at hst
         try simp [go_sem, seval, F0, h10, hn, lge hkb]
         exact hQ _ _ (by first | (left; (simp [go_sem, hM, hst]); done) | (right; (simp [go_sem, hM, hst]); done))
        ·try simp [go_sem] at h14
         rw [if_neg (by simpa using h14)] at hNE
         rw [hNE, if_neg (by omega)] at hst
         try simp [go_sem, seval, F0, h10, hn, lge hkb]
         repeat (first | intro _ | (refine ⟨obl, ?_⟩))
         refine nextQ_mk (i + 1) (by omega) ((hI0 _ _ _).2 ⟨?_, ?_, ?_, ?_, ?_, ?_, (by first | assumption | omega | (simp [go_sem, F0, h10, hn, lge hkb, h2, h5, h7, h12, h14]; done) | (simp_all <;> omega)), (by exact hst.symm)⟩) <;> first | omega | (simp [go_sem, seval, F0, h10, hn, lge hkb] <;> omega)
      ·try simp [go_sem] at h10
       have hN0 : firstE (mapNE a b m) 0 a.nodes.length = 0 := by rw [← hF, show a.nodes.length - i = 0 by omega]; rfl
       rw [hN0, if_neg (by omega)] at hM
       try simp [go_sem, seval, F0]
       repeat (first | intro _ | (refine ⟨obl, ?_⟩))
       obtain ⟨I2, hI2⟩ := mkI fun k e H => ((e 3 = .adr a.c) ∧ (e 4 = .adr b.c) ∧ (e 5 = .adr m.c) ∧ (e 71 = dLI m.edges) ∧ (e 72 = dI m.edges.length) ∧ (e 73 = dI k) ∧ (k ≤ m.edges.length) ∧ (firstE (mapEE a b m) k (a.edges.length - k) = morphF a b m))
       refine loopK I2 (fun k => m.edges.length - k) (0) ((hI2 _ _ _).2 ⟨?_, ?_, ?_, ?_, ?_, ?_, (by first | assumption | omega | (simp [go_sem, F0]; done) | (simp_all; done)), (by (exact hM.symm))⟩) ?_
       iterate 6 (first | omega | (simp [go_sem, seval, F0] <;> omega))
       intro k e H hi2
       obtain ⟨q3_2, q4_2, q5_2, q71_2, q72_2, q73_2, hk, hE⟩ := (hI2 _ _ _).1 hi2
       have F2 := And.intro q3_2 (And.intro q4_2 (And.intro q5_2 (And.intro q71_2 (And.intro q72_2 q73_2))))
       try simp [go_sem, seval, F2]
       refine condQ_mk (fun h18 => ?_) (fun h18 => ?_)
       ·try simp [go_sem] at h18
        have hn : k < a.edges.length := by omega
        have hst := firstE_step (mapEE a b m) hn
        rw [hE] at hst
        have hx := hia _ (lgm hn)
        have hxf : a.edges[k].from_.toNat < m.nodes.length := by omega
        have hxt : a.edges[k].to_.toNat < m.nodes.length := by omega
        have hEE : mapEE a b m k = (if m.edges[k] < 0 ∨ (b.edges.length : Int) ≤ m.edges[k] then 6 else if a.edges[k].type ≠ (b.edges[m.edges[k].toNat]?.getD zeroEdge).type then 13 else if m.nodes[a.edges[k].from_.toNat] ≠ (b.edges[m.edges[k].toNat]?.getD zeroEdge).from_ ∨ m.nodes[a.edges[k].to_.toNat] ≠ (b.edges[m.edges[k].toNat]?.getD zeroEdge).to_ then 11 else 0) := by
         simp only [mapEE, lge h18, lge hn, Option.getD_some, lge hxf, lge hxt]
        try simp [go_sem, seval, F2, h18, hn, lge hxf, lge hxt]
        repeat (first | intro _ | (refine ⟨obl, ?_⟩))
        refine condQ_mk (fun h20 => ?_) (fun h20 => ?_)
        ·try simp [go_sem] at h20
         rw [if_pos (by omega)] at hEE
         rw [hEE, if_pos (by omega)] at hst
         try simp [go_sem, seval, F2, h18, hn, lge hxf, lge hxt]
         exact hQ _ _ (by first | (left; (simp [go_sem, ← hst]); done) | (right; (simp [go_sem, ← hst]); done))
        ·try simp [go_sem] at h20
         have hkb : m.edges[k].toNat < b.edges.length := by omega
         rw [if_neg (by omega), lge hkb, Option.getD_some] at hEE
         try simp [go_sem, seval, F2, h18, hn, lge hxf, lge hxt, lge hkb]
         repeat (first | intro _ | (refine ⟨obl, ?_⟩))
         refine condQ_mk (fun h23 => ?_) (fun h23 => ?_)
         ·try simp [go_sem] at h23
          rw [if_pos h23] at hEE
          rw [hEE, if_pos (by omega)] at hst
          try simp [go_sem, seval, F2, h18, hn, lge hxf, lge hxt, lge hkb]
          exact hQ _ _ (by first | (left; (simp [go_sem, ← hst]); done) | (right; (simp [go_sem, ← hst]); done))
         ·try simp [go_sem] at h23
          rw [if_neg (by simpa using h23)] at hEE
          try simp [go_sem, seval, F2, h18, hn, lge hxf, lge hxt, lge hkb]
          repeat (first | intro _ | (refine ⟨obl, ?_⟩))
          refine condQ_mk (fun h25 => ?_) (fun h25 => ?_)
          ·try simp [go_sem] at h25
           rw [if_pos (by omega)] at hEE
           rw [hEE, if_pos (by omega)] at hst
           try simp [go_sem, seval, F2, h18, hn, lge hxf, lge hxt, lge hkb]
           exact hQ _ _ (by first | (left; (simp [go_sem, ← hst]); done) | (right; (simp [go_sem, ← hst]); done))
          ·try simp [go_sem] at h25
           rw [if_neg (by omega)] at hEE
           rw [hEE, if_neg (by omega)] at hst
           try simp [go_sem, seval, F2, h18, hn, lge hxf, lge hxt, lge hkb]
           repeat (first | intro _ | (refine ⟨obl, ?_⟩))
           refine nextQ_mk (k + 1) (by omega) ((hI2 _ _ _).2 ⟨?_, ?_, ?_, ?_, ?_, ?_, (by first | assumption | omega | (simp [go_sem, F2, h18, hn, lge hxf, lge hxt, lge hkb, h2, h5, h7, h10, h20, h23, h25]; done) | (simp_all <;> omega)), (by exact hst.symm)⟩) <;> first | omega | (simp [go_sem, seval, F2, h18, hn, lge hxf, lge hxt, lge hkb] <;> omega)
       ·try simp [go_sem] at h18
        try simp [go_sem, seval, F2]
        exact hQ _ _ (by first | (left; (rw [← hE, show a.edges.length - k = 0 by omega]; rfl); done) | (right; (rw [← hE, show a.edges.length - k = 0 by omega]; rfl); done))
def injB (a b : Graph) (m : Part) : Bool := decide (morphF a b m = 0) && (decide m.nodes.Nodup && decide m.edges.Nodup)
theorem morphF_len {a b : Graph} {m : Part} (h : morphF a b m = 0) : graphF a = 0 ∧ graphF b = 0 ∧ m.nodes.length = a.nodes.length ∧ m.edges.length = a.edges.length := by
  unfold morphF at h
  split at h
  · rename_i h1; exact absurd h h1
  · rename_i h1
    split at h
    ·rename_i h2; exact absurd h h2
    ·rename_i h2
     split at h
     ·cases h
     ·omega
theorem images_eq (xs : List Int) : ((imagesN xs : Int) == (xs.length : Int)) = decide xs.Nodup := by
  rw [bei]
  simp only [beq_iff_eq, decide_eq_true_eq]
  rw [← imagesN_iff]
  omega
theorem morphism_Injective (a b : Graph) (m : Part) (h1 : m.nodes.length ≤ 1000000) (h2 : m.edges.length ≤ 1000000) : Pure Tryz.prog 61 [a.d, b.d, m.d] (.bool (injB a b m)) := by
  refine Tz.pK ⟨fun _ => false, fun _ => []⟩ Tryz.func61 rfl (fun Q hQ => ?_)
  try simp [go_sem, seval, images_eq]
  repeat (first | intro _ | (refine ⟨obl, ?_⟩))
  refine dcallQ_pure0 (morphism_Valid a b m) ((by first | rfl | (simp [go_sem, ← List.map_take, ← List.map_drop, images_eq]; done))) ?_
  try simp [go_sem, seval, images_eq]
  repeat (first | intro _ | (refine ⟨obl, ?_⟩))
  refine dgcallQ_pure0 (fun hg => morphism_images m.nodes h1) (fun hg => (by first | rfl | (simp [go_sem, ← List.map_take, ← List.map_drop, images_eq]; done))) ?_
  try simp [go_sem, seval, images_eq]
  repeat (first | intro _ | (refine ⟨obl, ?_⟩))
  refine dgcallQ_pure0 (fun hg => morphism_images m.edges h2) (fun hg => (by first | rfl | (simp [go_sem, ← List.map_take, ← List.map_drop, images_eq]; done))) ?_
  try simp [go_sem, seval, images_eq]
  repeat (first | intro _ | (refine ⟨obl, ?_⟩))
  exact hQ _ _ (by first | (left; (simp [go_sem, injB, images_eq, Bool.and_assoc]); done) | (right; (simp [go_sem, injB, images_eq, Bool.and_assoc]); done))
end Go.Abs
end
section
set_option maxRecDepth 4000
open Go Go.Proofs
namespace Go.Abs
theorem ref06_Valid (a b : Graph) (m : Part) : Pure Tryz.prog 19 [a.d, b.d, m.d] (dI (morphF a b m)) := by
  refine Tz.pK ⟨fun t => t == 11 || t == 12, fun r => match r with | 21 => [(0, 14), (1, 14), (3, 14), (4, 14), (5, 14), (6, 14), (7, 14), (8, 14), (10, 14), (11, 14), (12, 14), (13, 14), (0, 15), (1, 15), (3, 15), (4, 15), (5, 15), (6, 15), (7, 15), (8, 15), (10, 15), (11, 15), (12, 15), (13, 15), (14, 15), (5, 16), (6, 16), (7, 16), (8, 16), (10, 16), (11, 16), (12, 16), (13, 16)] | _ => []⟩ Tryz.func19 rfl (fun Q hQ => ?_)
  try simp [go_sem, seval]
  refine callQ_pure0 (ref05_Valid a) ((by first | rfl | (simp [go_sem, ← List.map_take, ← List.map_drop]; done))) ?_
  try simp [go_sem, seval]
  refine condQ_mk (fun h2 => ?_) (fun h2 => ?_)
  · try simp [go_sem] at h2
    try simp [go_sem, seval]
    exact hQ _ _ (by first | (left; (simp [go_sem, morphF, h2]); done) | (right; (simp [go_sem, morphF, h2]); done))
  · try simp [go_sem] at h2
    try simp [go_sem, seval]
    refine callQ_pure0 (ref05_Valid b) ((by first | rfl | (simp [go_sem, ← List.map_take, ← List.map_drop]; done))) ?_
    try simp [go_sem, seval]
    refine condQ_mk (fun h5 => ?_) (fun h5 => ?_)
    · try simp [go_sem] at h5
      try simp [go_sem, seval]
      exact hQ _ _ (by first | (left; (simp [go_sem, morphF, h2, h5]); done) | (right; (simp [go_sem, morphF, h2, h5]); done))
    · try simp [go_sem] at h5
      try simp [go_sem, seval]
      repeat (first | intro _ | (refine ⟨obl, ?_⟩))
      refine condQ_mk (fun h7 => ?_) (fun h7 => ?_)
      · try simp [go_sem] at h7
        try simp [go_sem, seval]
        exact hQ _ _ (by first | (left; (simp [go_sem, morphF, h2, h5, show m.nodes.length ≠ a.nodes.length ∨ m.edges.length ≠ a.edges.length by omega]); done) | (right; (simp [go_sem, morphF, h2, h5, show m.nodes.length ≠ a.nodes.length ∨ m.edges.length ≠ a.edges.length by omega]); done))
      · try simp [go_sem] at h7
        have hM : morphF a b m = (if firstE (mapNE a b m) 0 a.nodes.length ≠ 0 then firstE (mapNE a b m) 0 a.nodes.length else firstE (mapEE a b m) 0 a.edges.length) := by
          unfold morphF; rw [if_neg (by simp [h2]), if_neg (by simp [h5]), if_neg (by omega)]
        have hga := graphF_le h2
        have hgb := graphF_le h5
        have hia := (graphF_in h2).2
        try simp [go_sem, seval]
        obtain ⟨I0, hI0⟩ := mkI fun i e H => ((e 3 = .adr a.c) ∧ (e 4 = .adr b.c) ∧ (e 5 = .adr m.c) ∧ (e 9 = dI i) ∧ (i ≤ a.nodes.length) ∧ (firstE (mapNE a b m) i (a.nodes.length - i) = firstE (mapNE a b m) 0 a.nodes.length))
        refine loopK I0 (fun i => a.nodes.length - i) (0) ((hI0 _ _ _).2 ⟨?_, ?_, ?_, ?_, (by first | assumption | omega | (simp [go_sem]; done) | (simp_all; done)), (by rfl)⟩) ?_
        iterate 4 (first | omega | (simp [go_sem, seval] <;> omega))
        intro i e H hi0
        obtain ⟨q3_0, q4_0, q5_0, q9_0, hi, hF⟩ := (hI0 _ _ _).1 hi0
        have F0 := And.intro q3_0 (And.intro q4_0 (And.intro q5_0 q9_0))
        try simp [go_sem, seval, F0]
        repeat (first | intro _ | (refine ⟨obl, ?_⟩))
        refine condQ_mk (fun h10 => ?_) (fun h10 => ?_)
        · try simp [go_sem] at h10
          have hn : i < m.nodes.length := by omega
          have hst := firstE_step (mapNE a b m) h10
          rw [hF] at hst
          have hNE : mapNE a b m i = (if m.nodes[i] < 0 ∨ (b.nodes.length : Int) ≤ m.nodes[i] then 6 else if b.nodes[m.nodes[i].toNat]?.getD 0 ≠ a.nodes[i] then 13 else 0) := by simp only [mapNE, lge h10, lge hn, Option.getD_some]
          try simp [go_sem, seval, F0, h10, hn]
          repeat (first | intro _ | (refine ⟨obl, ?_⟩))
          refine condQ_mk (fun h12 => ?_) (fun h12 => ?_)
          · try simp [go_sem] at h12
            rw [if_pos (by omega)] at hNE
            rw [hNE, if_pos (by omega)] at hst
            try simp [go_sem, seval, F0, h10, hn]
            exact hQ _ _ (by first | (left; (simp [go_sem, hM, hst]); done) | (right; (simp [go_sem, hM, hst]); done))
          · try simp [go_sem] at h12
            have hkb : m.nodes[i].toNat < b.nodes.length := by omega
            rw [if_neg (by omega), lge hkb, Option.getD_some] at hNE
            try simp [go_sem, seval, F0, h10, hn, lge hkb]
            repeat (first | intro _ | (refine ⟨obl, ?_⟩))
            refine condQ_mk (fun h14 => ?_) (fun h14 => ?_)
            · try simp [go_sem] at h14
              rw [if_pos h14] at hNE
              rw [hNE, if_pos (by omega)] at hst
              try simp [go_sem, seval, F0, h10, hn, lge hkb]
              exact hQ _ _ (by first | (left; (simp [go_sem, hM, hst]); done) | (right; (simp [go_sem, hM, hst]); done))
            · try simp [go_sem] at h14
              rw [if_neg (by simpa using h14)] at hNE
              rw [hNE, if_neg (by omega)] at hst
              try simp [go_sem, seval, F0, h10, hn, lge hkb]
              repeat (first | intro _ | (refine ⟨obl, ?_⟩))
              refine nextQ_mk (i + 1) (by omega) ((hI0 _ _ _).2 ⟨?_, ?_, ?_, ?_, (by first | assumption | omega | (simp [go_sem, F0, h10, hn, lge hkb, h2, h5, h7, h12, h14]; done) | (simp_all <;> omega)), (by exact hst.symm)⟩) <;> first | omega | (simp [go_sem, seval, F0, h10, hn, lge hkb] <;> omega)
        · try simp [go_sem] at h10
          have hN0 : firstE (mapNE a b m) 0 a.nodes.length = 0 := by rw [← hF, show a.nodes.length - i = 0 by omega]; rfl
          rw [hN0, if_neg (by omega)] at hM
          try simp [go_sem, seval, F0]
          obtain ⟨I2, hI2⟩ := mkI fun k e H => ((e 3 = .adr a.c) ∧ (e 4 = .adr b.c) ∧ (e 5 = .adr m.c) ∧ (e 10 = dI k) ∧ (k ≤ a.edges.length) ∧ (firstE (mapEE a b m) k (a.edges.length - k) = morphF a b m))
          refine loopK I2 (fun k => a.edges.length - k) (0) ((hI2 _ _ _).2 ⟨?_, ?_, ?_, ?_, (by first | assumption | omega | (simp [go_sem, F0]; done) | (simp_all; done)), (by (exact hM.symm))⟩) ?_
          iterate 4 (first | omega | (simp [go_sem, seval, F0] <;> omega))
          intro k e H hi2
          obtain ⟨q3_2, q4_2, q5_2, q10_2, hk, hE⟩ := (hI2 _ _ _).1 hi2
          have F2 := And.intro q3_2 (And.intro q4_2 (And.intro q5_2 q10_2))
          try simp [go_sem, seval, F2]
          repeat (first | intro _ | (refine ⟨obl, ?_⟩))
          refine condQ_mk (fun h17 => ?_) (fun h17 => ?_)
          · try simp [go_sem] at h17
            have hn : k < m.edges.length := by omega
            have hst := firstE_step (mapEE a b m) h17
            rw [hE] at hst
            have hx := hia _ (lgm h17)
            have hxf : a.edges[k].from_.toNat < m.nodes.length := by omega
            have hxt : a.edges[k].to_.toNat < m.nodes.length := by omega
            have hEE : mapEE a b m k = (if m.edges[k] < 0 ∨ (b.edges.length : Int) ≤ m.edges[k] then 6 else if a.edges[k].type ≠ (b.edges[m.edges[k].toNat]?.getD zeroEdge).type then 13 else if m.nodes[a.edges[k].from_.toNat] ≠ (b.edges[m.edges[k].toNat]?.getD zeroEdge).from_ ∨ m.nodes[a.edges[k].to_.toNat] ≠ (b.edges[m.edges[k].toNat]?.getD zeroEdge).to_ then 11 else 0) := by
              simp only [mapEE, lge h17, lge hn, Option.getD_some, lge hxf, lge hxt]
            try simp [go_sem, seval, F2, h17, hn, lge hxf, lge hxt]
            repeat (first | intro _ | (refine ⟨obl, ?_⟩))
            refine condQ_mk (fun h19 => ?_) (fun h19 => ?_)
            · try simp [go_sem] at h19
              rw [if_pos (by omega)] at hEE
              rw [hEE, if_pos (by omega)] at hst
              try simp [go_sem, seval, F2, h17, hn, lge hxf, lge hxt]
              exact hQ _ _ (by first | (left; (simp [go_sem, ← hst]); done) | (right; (simp [go_sem, ← hst]); done))
            · try simp [go_sem] at h19
              have hkb : m.edges[k].toNat < b.edges.length := by omega
              rw [if_neg (by omega), lge hkb, Option.getD_some] at hEE
              try simp [go_sem, seval, F2, h17, hn, lge hxf, lge hxt, lge hkb]
              repeat (first | intro _ | (refine ⟨obl, ?_⟩))
              refine condQ_mk (fun h22 => ?_) (fun h22 => ?_)
              · try simp [go_sem] at h22
                rw [if_pos h22] at hEE
                rw [hEE, if_pos (by omega)] at hst
                try simp [go_sem, seval, F2, h17, hn, lge hxf, lge hxt, lge hkb]
                exact hQ _ _ (by first | (left; (simp [go_sem, ← hst]); done) | (right; (simp [go_sem, ← hst]); done))
              · try simp [go_sem] at h22
                rw [if_neg (by simpa using h22)] at hEE
                try simp [go_sem, seval, F2, h17, hn, lge hxf, lge hxt, lge hkb]
                repeat (first | intro _ | (refine ⟨obl, ?_⟩))
                refine condQ_mk (fun h24 => ?_) (fun h24 => ?_)
                · try simp [go_sem] at h24
                  rw [if_pos (by omega)] at hEE
                  rw [hEE, if_pos (by omega)] at hst
                  try simp [go_sem, seval, F2, h17, hn, lge hxf, lge hxt, lge hkb]
                  exact hQ _ _ (by first | (left; (simp [go_sem, ← hst]); done) | (right; (simp [go_sem, ← hst]); done))
                · try simp [go_sem] at h24
                  rw [if_neg (by omega)] at hEE
                  rw [hEE, if_neg (by omega)] at hst
                  try simp [go_sem, seval, F2, h17, hn, lge hxf, lge hxt, lge hkb]
                  repeat (first | intro _ | (refine ⟨obl, ?_⟩))
                  refine nextQ_mk (k + 1) (by omega) ((hI2 _ _ _).2 ⟨?_, ?_, ?_, ?_, (by first | assumption | omega | (simp [go_sem, F2, h17, hn, lge hxf, lge hxt, lge hkb, h2, h5, h7, h10, h19, h22, h24]; done) | (simp_all <;> omega)), (by exact hst.symm)⟩) <;> first | omega | (simp [go_sem, seval, F2, h17, hn, lge hxf, lge hxt, lge hkb] <;> omega)
          · try simp [go_sem] at h17
            try simp [go_sem, seval, F2]
            exact hQ _ _ (by first | (left; (rw [← hE, show a.edges.length - k = 0 by omega]; rfl); done) | (right; (rw [← hE, show a.edges.length - k = 0 by omega]; rfl); done))
def ascI (l : List Int) (n : Int) (i : Nat) : Int :=
  if l[i]?.getD 0 < 0 ∨ n ≤ l[i]?.getD 0 then 6 else if 0 < i ∧ l[i]?.getD 0 ≤ l[i - 1]?.getD 0 then 12 else 0
def ascF (l : List Int) (n : Int) : Int := firstE (ascI l n) 0 l.length
theorem firstE_zero {f : Nat → Int} : ∀ (n k : Nat), firstE f k n = 0 → ∀ j, k ≤ j → j < k + n → f j = 0
  | 0, k, _ => fun j h1 h2 => by omega
  | n + 1, k, h => fun j h1 h2 => by
    unfold firstE at h
    split at h
    · rename_i hne; exact absurd h hne
    · rename_i hz
      rcases Nat.eq_or_lt_of_le h1 with h3 | h3
      · subst h3; exact Classical.byContradiction fun hne => hz hne
      · exact firstE_zero n (k + 1) h j h3 (by omega)
theorem asc_of {l : List Int} {n : Int} (h : ascF l n = 0) : (∀ x ∈ l, 0 ≤ x ∧ x < n) ∧ l.Pairwise (· < ·) := by
  have hz := firstE_zero _ _ h
  have h1 : ∀ i (hi : i < l.length), (0 ≤ l[i] ∧ l[i] < n) ∧ (∀ h0 : 0 < i, l[i - 1] < l[i]) := fun i hi => by
    have := hz i (by omega) (by omega)
    unfold ascI at this
    rw [lge hi, Option.getD_some] at this
    split at this
    · cases this
    · rename_i h2
      split at this
      · cases this
      · rename_i h3
        refine ⟨by omega, fun h0 => ?_⟩
        rw [lge (show i - 1 < l.length by omega), Option.getD_some] at h3
        omega
  refine ⟨fun x hx => ?_, List.pairwise_iff_getElem.2 fun i j hi hj hij => ?_⟩
  · obtain ⟨i, hi, rfl⟩ := List.getElem_of_mem hx; exact (h1 i hi).1
  · induction j with
    | zero => omega
    | succ j ih =>
      have h2 := (h1 (j + 1) hj).2 (by omega)
      simp only [Nat.add_sub_cancel] at h2
      rcases Nat.lt_or_ge i j with h3 | h3
      · have := ih (by omega) h3; omega
      · have : i = j := by omega
        subst this; exact h2
theorem subgraph_list (l : List Int) (n : Int) : Pure Tryz.prog 278 [dLI l, dI n] (dI (ascF l n)) := by
  refine Tz.pK ⟨fun _ => false, fun _ => []⟩ Tryz.func278 rfl (fun Q hQ => ?_)
  try simp [go_sem, seval]
  repeat (first | intro _ | (refine ⟨obl, ?_⟩))
  obtain ⟨I0, hI0⟩ := mkI fun i e H => ((e 0 = dLI l) ∧ (e 1 = dI n) ∧ (e 7 = dLI l) ∧ (e 8 = dI l.length) ∧ (e 9 = dI i) ∧ (i ≤ l.length) ∧ (firstE (ascI l n) i (l.length - i) = ascF l n))
  refine loopK I0 (fun i => l.length - i) (0) ((hI0 _ _ _).2 ⟨?_, ?_, ?_, ?_, ?_, (by first | assumption | omega | (simp [go_sem]; done) | (simp_all; done)), (by rfl)⟩) ?_
  iterate 5 (first | omega | (simp [go_sem, seval] <;> omega))
  intro i e H hi0
  obtain ⟨q0_0, q1_0, q7_0, q8_0, q9_0, hi, hF⟩ := (hI0 _ _ _).1 hi0
  have F0 := And.intro q0_0 (And.intro q1_0 (And.intro q7_0 (And.intro q8_0 q9_0)))
  try simp [go_sem, seval, F0]
  refine condQ_mk (fun h2 => ?_) (fun h2 => ?_)
  · try simp [go_sem] at h2
    have hst := firstE_step (ascI l n) h2
    rw [hF] at hst
    have hA : ascI l n i = (if l[i] < 0 ∨ n ≤ l[i] then 6 else if 0 < i ∧ l[i] ≤ l[i - 1]?.getD 0 then 12 else 0) := by simp only [ascI, lge h2, Option.getD_some]
    have hi1 : i - 1 < l.length := by omega
    rw [lge hi1, Option.getD_some] at hA
    have htn : ((i : Int) - 1).toNat = i - 1 := by omega
    try simp [go_sem, seval, F0, h2, htn, lge hi1]
    repeat (first | intro _ | (refine ⟨obl, ?_⟩))
    refine condQ_mk (fun h4 => ?_) (fun h4 => ?_)
    · try simp [go_sem] at h4
      rw [if_pos (by omega)] at hA
      rw [hA, if_pos (by omega)] at hst
      try simp [go_sem, seval, F0, h2, htn, lge hi1]
      exact hQ _ _ (by first | (left; (simp [go_sem, hst]); done) | (right; (simp [go_sem, hst]); done))
    · try simp [go_sem] at h4
      rw [if_neg (by omega)] at hA
      try simp [go_sem, seval, F0, h2, htn, lge hi1]
      repeat (first | intro _ | (refine ⟨obl, ?_⟩))
      refine condQ_mk (fun h6 => ?_) (fun h6 => ?_)
      · try simp [go_sem] at h6
        rw [if_pos (by omega)] at hA
        rw [hA, if_pos (by omega)] at hst
        try simp [go_sem, seval, F0, h2, htn, lge hi1]
        exact hQ _ _ (by first | (left; (simp [go_sem, hst]); done) | (right; (simp [go_sem, hst]); done))
      · try simp [go_sem] at h6
        rw [if_neg (by omega)] at hA
        rw [hA, if_neg (by omega)] at hst
        try simp [go_sem, seval, F0, h2, htn, lge hi1]
        repeat (first | intro _ | (refine ⟨obl, ?_⟩))
        refine nextQ_mk (i + 1) (by omega) ((hI0 _ _ _).2 ⟨?_, ?_, ?_, ?_, ?_, (by first | assumption | omega | (simp [go_sem, F0, h2, htn, lge hi1, h4, h6]; done) | (simp_all <;> omega)), (by exact hst.symm)⟩) <;> first | omega | (simp [go_sem, seval, F0, h2, htn, lge hi1] <;> omega)
  · try simp [go_sem] at h2
    try simp [go_sem, seval, F0]
    exact hQ _ _ (by first | (left; (rw [← hF, show l.length - i = 0 by omega]; rfl); done) | (right; (rw [← hF, show l.length - i = 0 by omega]; rfl); done))
theorem ref07_ascending (l : List Int) (n : Int) : Pure Tryz.prog 285 [dLI l, dI n] (dI (ascF l n)) := by
  refine Tz.pK ⟨fun _ => false, fun _ => []⟩ Tryz.func285 rfl (fun Q hQ => ?_)
  try simp [go_sem, seval]
  obtain ⟨I0, hI0⟩ := mkI fun i e H => ((e 0 = dLI l) ∧ (e 1 = dI n) ∧ (e 5 = dI i) ∧ (i ≤ l.length) ∧ (firstE (ascI l n) i (l.length - i) = ascF l n))
  refine loopK I0 (fun i => l.length - i) (0) ((hI0 _ _ _).2 ⟨?_, ?_, ?_, (by first | assumption | omega | (simp [go_sem]; done) | (simp_all; done)), (by rfl)⟩) ?_
  iterate 3 (first | omega | (simp [go_sem, seval] <;> omega))
  intro i e H hi0
  obtain ⟨q0_0, q1_0, q5_0, hi, hF⟩ := (hI0 _ _ _).1 hi0
  have F0 := And.intro q0_0 (And.intro q1_0 q5_0)
  try simp [go_sem, seval, F0]
  repeat (first | intro _ | (refine ⟨obl, ?_⟩))
  refine condQ_mk (fun h2 => ?_) (fun h2 => ?_)
  · try simp [go_sem] at h2
    have hst := firstE_step (ascI l n) h2
    rw [hF] at hst
    have hA : ascI l n i = (if l[i] < 0 ∨ n ≤ l[i] then 6 else if 0 < i ∧ l[i] ≤ l[i - 1]?.getD 0 then 12 else 0) := by simp only [ascI, lge h2, Option.getD_some]
    have hi1 : i - 1 < l.length := by omega
    rw [lge hi1, Option.getD_some] at hA
    have htn : ((i : Int) - 1).toNat = i - 1 := by omega
    try simp [go_sem, seval, F0, h2, htn, lge hi1]
    repeat (first | intro _ | (refine ⟨obl, ?_⟩))
    refine condQ_mk (fun h4 => ?_) (fun h4 => ?_)
    · try simp [go_sem] at h4
      rw [if_pos (by omega)] at hA
      rw [hA, if_pos (by omega)] at hst
      try simp [go_sem, seval, F0, h2, htn, lge hi1]
      exact hQ _ _ (by first | (left; (simp [go_sem, hst]); done) | (right; (simp [go_sem, hst]); done))
    · try simp [go_sem] at h4
      rw [if_neg (by omega)] at hA
      try simp [go_sem, seval, F0, h2, htn, lge hi1]
      repeat (first | intro _ | (refine ⟨obl, ?_⟩))
      refine condQ_mk (fun h6 => ?_) (fun h6 => ?_)
      · try simp [go_sem] at h6
        rw [if_pos (by omega)] at hA
        rw [hA, if_pos (by omega)] at hst
        try simp [go_sem, seval, F0, h2, htn, lge hi1]
        exact hQ _ _ (by first | (left; (simp [go_sem, hst]); done) | (right; (simp [go_sem, hst]); done))
      · try simp [go_sem] at h6
        rw [if_neg (by omega)] at hA
        rw [hA, if_neg (by omega)] at hst
        try simp [go_sem, seval, F0, h2, htn, lge hi1]
        repeat (first | intro _ | (refine ⟨obl, ?_⟩))
        refine nextQ_mk (i + 1) (by omega) ((hI0 _ _ _).2 ⟨?_, ?_, ?_, (by first | assumption | omega | (simp [go_sem, F0, h2, htn, lge hi1, h4, h6]; done) | (simp_all <;> omega)), (by exact hst.symm)⟩) <;> first | omega | (simp [go_sem, seval, F0, h2, htn, lge hi1] <;> omega)
  · try simp [go_sem] at h2
    try simp [go_sem, seval, F0]
    exact hQ _ _ (by first | (left; (rw [← hF, show l.length - i = 0 by omega]; rfl); done) | (right; (rw [← hF, show l.length - i = 0 by omega]; rfl); done))
theorem ref07_has (l : List Int) (v : Int) : Pure Tryz.prog 286 [dLI l, dI v] (.bool (mem l v)) := by
  refine Tz.pK ⟨fun _ => false, fun _ => []⟩ Tryz.func286 rfl (fun Q hQ => ?_)
  try simp [go_sem, seval]
  obtain ⟨I0, hI0⟩ := mkI fun i e H => ((e 0 = dLI l) ∧ (e 1 = dI v) ∧ (e 5 = dI i) ∧ (i ≤ l.length) ∧ (∀ j, j < i → l[j]? ≠ some v))
  refine loopK I0 (fun i => l.length - i) (0) ((hI0 _ _ _).2 ⟨?_, ?_, ?_, (by first | assumption | omega | (simp [go_sem]; done) | (simp_all; done)), (by (intro j hj; omega))⟩) ?_
  iterate 3 (first | omega | (simp [go_sem, seval] <;> omega))
  intro i e H hi0
  obtain ⟨q0_0, q1_0, q5_0, hi, hne⟩ := (hI0 _ _ _).1 hi0
  have F0 := And.intro q0_0 (And.intro q1_0 q5_0)
  try simp [go_sem, seval, F0]
  repeat (first | intro _ | (refine ⟨obl, ?_⟩))
  refine condQ_mk (fun h2 => ?_) (fun h2 => ?_)
  · try simp [go_sem] at h2
    try simp [go_sem, seval, F0, h2]
    repeat (first | intro _ | (refine ⟨obl, ?_⟩))
    refine condQ_mk (fun h4 => ?_) (fun h4 => ?_)
    · try simp [go_sem] at h4
      try simp [go_sem, seval, F0, h2]
      have hm : mem l v = true := (mem_iff l v).2 (h4 ▸ lgm h2)
      exact hQ _ _ (by first | (left; (simp [go_sem, hm]); done) | (right; (simp [go_sem, hm]); done))
    · try simp [go_sem] at h4
      try simp [go_sem, seval, F0, h2]
      repeat (first | intro _ | (refine ⟨obl, ?_⟩))
      refine nextQ_mk (i + 1) (by omega) ((hI0 _ _ _).2 ⟨?_, ?_, ?_, (by first | assumption | omega | (simp [go_sem, F0, h2, h4]; done) | (simp_all <;> omega)), (by (exact all_lt_succ hne (by rw [lge h2]; simpa using h4)))⟩) <;> first | omega | (simp [go_sem, seval, F0, h2] <;> omega)
  · try simp [go_sem] at h2
    try simp [go_sem, seval, F0]
    have hm : mem l v = false := by rw [Bool.eq_false_iff]; intro h; obtain ⟨j, hj, he⟩ := List.getElem_of_mem ((mem_iff l v).1 h); exact hne j (by omega) (by rw [lge hj, he])
    exact hQ _ _ (by first | (left; (simp [go_sem, hm]); done) | (right; (simp [go_sem, hm]); done))
theorem ref07_index (l : List Int) (v : Int) : Pure Tryz.prog 185 [dLI l, dI v] (dI (idx l v)) := by
  refine Tz.pK ⟨fun _ => false, fun _ => []⟩ Tryz.func185 rfl (fun Q hQ => ?_)
  try simp [go_sem, seval]
  obtain ⟨I0, hI0⟩ := mkI fun i e H => ((e 0 = dLI l) ∧ (e 1 = dI v) ∧ (e 5 = dI i) ∧ (i ≤ l.length) ∧ (∀ j, j < i → l[j]? ≠ some v))
  refine loopK I0 (fun i => l.length - i) (0) ((hI0 _ _ _).2 ⟨?_, ?_, ?_, (by first | assumption | omega | (simp [go_sem]; done) | (simp_all; done)), (by (intro j hj; omega))⟩) ?_
  iterate 3 (first | omega | (simp [go_sem, seval] <;> omega))
  intro i e H hi0
  obtain ⟨q0_0, q1_0, q5_0, hi, hne⟩ := (hI0 _ _ _).1 hi0
  have F0 := And.intro q0_0 (And.intro q1_0 q5_0)
  try simp [go_sem, seval, F0]
  repeat (first | intro _ | (refine ⟨obl, ?_⟩))
  refine condQ_mk (fun h2 => ?_) (fun h2 => ?_)
  · try simp [go_sem] at h2
    try simp [go_sem, seval, F0, h2]
    repeat (first | intro _ | (refine ⟨obl, ?_⟩))
    refine condQ_mk (fun h4 => ?_) (fun h4 => ?_)
    · try simp [go_sem] at h4
      try simp [go_sem, seval, F0, h2]
      exact hQ _ _ (by first | (left; (rw [idx_some hne (by rw [lge h2, h4])]; simp [go_sem]); done) | (right; (rw [idx_some hne (by rw [lge h2, h4])]; simp [go_sem]); done))
    · try simp [go_sem] at h4
      try simp [go_sem, seval, F0, h2]
      repeat (first | intro _ | (refine ⟨obl, ?_⟩))
      refine nextQ_mk (i + 1) (by omega) ((hI0 _ _ _).2 ⟨?_, ?_, ?_, (by first | assumption | omega | (simp [go_sem, F0, h2, h4]; done) | (simp_all <;> omega)), (by (exact all_lt_succ hne (by rw [lge h2]; simpa using h4)))⟩) <;> first | omega | (simp [go_sem, seval, F0, h2] <;> omega)
  · try simp [go_sem] at h2
    try simp [go_sem, seval, F0]
    exact hQ _ _ (by first | (left; (rw [idx_none fun j hj => hne j (by omega)]; simp [go_sem]); done) | (right; (rw [idx_none fun j hj => hne j (by omega)]; simp [go_sem]); done))
end Go.Abs
end
section
set_option maxRecDepth 4000
open Go Go.Proofs
namespace Go.Abs
theorem slices_isNaN (a : Int) : Pure Tryz.prog 240 [dI a] (.bool false) := by
  refine Tz.pK ⟨fun _ => false, fun _ => []⟩ Tryz.func240 rfl (fun Q hQ => ?_)
  try simp [go_sem, seval]
  exact hQ _ _ (by simp [go_sem] <;> first | omega | (rw [bei]; simp <;> omega) | (simp_all <;> omega))
theorem cmp_isNaN (a : Int) : Pure Tryz.prog 280 [dI a] (.bool false) := by
  refine Tz.pK ⟨fun _ => false, fun _ => []⟩ Tryz.func280 rfl (fun Q hQ => ?_)
  try simp [go_sem, seval]
  exact hQ _ _ (by simp [go_sem] <;> first | omega | (rw [bei]; simp <;> omega) | (simp_all <;> omega))
theorem cmp_Less (a b : Int) : Pure Tryz.prog 239 [dI a, dI b] (.bool (decide (a < b))) := by
  refine Tz.pK ⟨fun _ => false, fun _ => []⟩ Tryz.func239 rfl (fun Q hQ => ?_)
  try simp [go_sem, seval]
  repeat (first | intro _ | (refine ⟨obl, ?_⟩))
  refine callQ_pure0 (cmp_isNaN a) ((by first | rfl | (simp [go_sem, ← List.map_take, ← List.map_drop]; done))) ?_
  try simp [go_sem, seval]
  repeat (first | intro _ | (refine ⟨obl, ?_⟩))
  refine gcallQ_pure0 (fun hg => cmp_isNaN b) (fun hg => (by first | rfl | (simp [go_sem, ← List.map_take, ← List.map_drop]; done))) ?_
  try simp [go_sem, seval]
  repeat (first | intro _ | (refine ⟨obl, ?_⟩))
  exact hQ _ _ (by simp [go_sem] <;> first | omega | (rw [bei]; simp <;> omega) | (simp_all <;> omega))
def posL (l : List Int) (v : Int) : Nat := (l.takeWhile fun y => decide (y < v)).length
theorem posL_eq {l : List Int} {v : Int} {n : Nat} (h1 : ∀ j (hj : j < l.length), j < n → l[j] < v) (h2 : n ≤ l.length) (h3 : ∀ hn : n < l.length, ¬ l[n] < v) : posL l v = n :=
  takeWhile_len _ l n (fun j x hj hx => by
    obtain ⟨hjl, rfl⟩ := List.getElem?_eq_some_iff.1 hx
    simpa using h1 j hjl hj) h2 fun x hx => by
    obtain ⟨hjl, rfl⟩ := List.getElem?_eq_some_iff.1 hx
    simpa using h3 hjl
theorem fdiv2 (a b : Nat) : ((a : Int) + (b : Int)).fdiv 2 = (((a + b) / 2 : Nat) : Int) := by
  rw [Int.fdiv_eq_ediv_of_nonneg _ (by omega)]; omega
theorem bsearch_int (l : List Int) (v : Int) (hs : l.Pairwise (· < ·)) (hl : l.length ≤ 1000000) : Pure Tryz.prog 171 [dLI l, dI v] (.tup [dI (posL l v), .bool (mem l v)]) := by
  have hpw := List.pairwise_iff_getElem.1 hs
  refine Tz.pK ⟨fun _ => false, fun _ => []⟩ Tryz.func171 rfl (fun Q hQ => ?_)
  try simp [go_sem, seval, fdiv2]
  repeat (first | intro _ | (refine ⟨obl, ?_⟩))
  obtain ⟨I0, hI0⟩ := mkI fun m e H => (∃ i : Nat, ∃ j : Nat, (e 0 = dLI l) ∧ (e 1 = dI v) ∧ (e 6 = dI l.length) ∧ (e 7 = dI i) ∧ (e 8 = dI j) ∧ (i ≤ j) ∧ (j ≤ l.length) ∧ (j - i ≤ m) ∧ (∀ a (h : a < l.length), a < i → l[a] < v) ∧ (∀ a (h : a < l.length), j ≤ a → ¬ l[a] < v))
  refine loopK I0 (fun m => m) (l.length) ((hI0 _ _ _).2 ⟨(0), (l.length), ?_, ?_, ?_, ?_, ?_, (by omega), (by omega), (by omega), (by (intro a h h'; omega)), (by (intro a h h'; omega))⟩) ?_
  iterate 5 (first | omega | (simp [go_sem, seval, fdiv2] <;> omega))
  intro m e H hi0
  obtain ⟨i, j, q0_0, q1_0, q6_0, q7_0, q8_0, hj, hjl, hjm, ha, hb⟩ := (hI0 _ _ _).1 hi0
  have F0 := And.intro q0_0 (And.intro q1_0 (And.intro q6_0 (And.intro q7_0 q8_0)))
  try simp [go_sem, seval, fdiv2, F0]
  refine condQ_mk (fun h3 => ?_) (fun h3 => ?_)
  · try simp [go_sem] at h3
    have hk : (i + j) / 2 < l.length := by omega
    have htn : (((i : Int) + (j : Int)) / 2).toNat = (i + j) / 2 := by omega
    have hu := inR_u64 (show 0 ≤ (i : Int) + (j : Int) by omega) (show (i : Int) + (j : Int) ≤ 18446744073709551615 by omega)
    try simp [go_sem, seval, fdiv2, F0, h3, htn, lge hk]
    repeat (first | intro _ | (refine ⟨obl, ?_⟩))
    refine callQ_pure0 (cmp_Less _ _) ((by first | rfl | (simp [go_sem, ← List.map_take, ← List.map_drop, fdiv2, F0, h3, htn, lge hk]; done))) ?_
    try simp [go_sem, seval, fdiv2, F0, h3, htn, lge hk]
    repeat (first | intro _ | (refine ⟨obl, ?_⟩))
    refine condQ_mk (fun h5 => ?_) (fun h5 => ?_)
    ·try simp [go_sem] at h5
     obtain ⟨i', hi'⟩ : ∃ i' : Nat, i' = (i + j) / 2 + 1 := ⟨_, rfl⟩
     obtain ⟨j', hj'⟩ : ∃ j' : Nat, j' = j := ⟨_, rfl⟩
     have ha' : ∀ a (h : a < l.length), a < i' → l[a] < v := fun a h h' => by
      rcases Nat.lt_or_ge a ((i + j) / 2) with h1 | h1
      ·have := hpw a _ h hk h1; omega
      ·have : a = (i + j) / 2 := by omega
       subst this; exact h5
     have hb' : ∀ a (h : a < l.length), j' ≤ a → ¬ l[a] < v := fun a h h' => hb a h (by omega)
     try simp [go_sem, seval, fdiv2, F0, h3, htn, lge hk]
     repeat (first | intro _ | (refine ⟨obl, ?_⟩))
     refine nextQ_mk (m - 1) (by omega) ((hI0 _ _ _).2 ⟨(i'), (j'), ?_, ?_, ?_, ?_, ?_, (by omega), (by omega), (by omega), (by exact ha'), (by exact hb')⟩) <;> first | omega | (simp [go_sem, seval, fdiv2, F0, h3, htn, lge hk] <;> omega)
    ·try simp [go_sem] at h5
     obtain ⟨i', hi'⟩ : ∃ i' : Nat, i' = i := ⟨_, rfl⟩
     obtain ⟨j', hj'⟩ : ∃ j' : Nat, j' = (i + j) / 2 := ⟨_, rfl⟩
     have ha' : ∀ a (h : a < l.length), a < i' → l[a] < v := fun a h h' => ha a h (by omega)
     have hb' : ∀ a (h : a < l.length), j' ≤ a → ¬ l[a] < v := fun a h h' => by
      rcases Nat.lt_or_ge ((i + j) / 2) a with h1 | h1
      ·have := hpw _ a hk h h1; omega
      ·have : a = (i + j) / 2 := by omega
       subst this; omega
     try simp [go_sem, seval, fdiv2, F0, h3, htn, lge hk]
     refine nextQ_mk (m - 1) (by omega) ((hI0 _ _ _).2 ⟨(i'), (j'), ?_, ?_, ?_, ?_, ?_, (by omega), (by omega), (by omega), (by exact ha'), (by exact hb')⟩) <;> first | omega | (simp [go_sem, seval, fdiv2, F0, h3, htn, lge hk] <;> omega)
  · try simp [go_sem] at h3
    have hij : j = i := by omega
    have hp : posL l v = i := posL_eq (fun a h h' => ha a h h') (by omega) (fun h => hb i h (by omega))
    have hm : mem l v = (decide (i < l.length) && (l[i]?.getD 0 == v)) := by
     rw [bei, mem_iff]
     constructor
     ·intro h
      obtain ⟨a, h1, h2⟩ := List.getElem_of_mem h
      have h3 : i ≤ a := Nat.le_of_not_lt fun h' => by have := ha a h1 h'; omega
      have h4 : a = i := by
       rcases Nat.eq_or_lt_of_le h3 with h5 | h5
       ·exact h5.symm
       ·have := hpw i a (by omega) h1 h5
        exact absurd (by omega) (hb i (by omega) (by omega))
      subst h4
      simp [h1, h2]
     ·intro h
      simp only [Bool.and_eq_true, decide_eq_true_eq, beq_iff_eq] at h
      rw [lge h.1, Option.getD_some] at h
      rw [← h.2]; exact lgm h.1
    by_cases hil : i < l.length
    ·skip
     try simp [go_sem, seval, fdiv2, F0, lge hil, hil]
     repeat (first | intro _ | (refine ⟨obl, ?_⟩))
     refine gcallQ_pure0 (fun hg => slices_isNaN _) (fun hg => (by first | rfl | (simp [go_sem, ← List.map_take, ← List.map_drop, fdiv2, F0, lge hil, hil]; done))) ?_
     try simp [go_sem, seval, fdiv2, F0, lge hil, hil]
     repeat (first | intro _ | (refine ⟨obl, ?_⟩))
     refine gcallQ_pure0 (fun hg => slices_isNaN _) (fun hg => (by first | rfl | (simp [go_sem, ← List.map_take, ← List.map_drop, fdiv2, F0, lge hil, hil]; done))) ?_
     try simp [go_sem, seval, fdiv2, F0, lge hil, hil]
     repeat (first | intro _ | (refine ⟨obl, ?_⟩))
     exact hQ _ _ (by first | (left; (rw [hp, hm]; simp [go_sem, fdiv2, F0, lge hil, hil]; rw [bei]; simp); done) | (right; (rw [hp, hm]; simp [go_sem, fdiv2, F0, lge hil, hil]; rw [bei]; simp); done))
    ·skip
     try simp [go_sem, seval, fdiv2, F0, hil]
     repeat (first | intro _ | (refine ⟨obl, ?_⟩))
     refine gcallQ_pure0 (fun hg => slices_isNaN _) (fun hg => (by first | rfl | (simp [go_sem, ← List.map_take, ← List.map_drop, fdiv2, F0, hil]; done))) ?_
     try simp [go_sem, seval, fdiv2, F0, hil]
     repeat (first | intro _ | (refine ⟨obl, ?_⟩))
     refine gcallQ_pure0 (fun hg => slices_isNaN _) (fun hg => (by first | rfl | (simp [go_sem, ← List.map_take, ← List.map_drop, fdiv2, F0, hil]; done))) ?_
     try simp [go_sem, seval, fdiv2, F0, hil]
     repeat (first | intro _ | (refine ⟨obl, ?_⟩))
     exact hQ _ _ (by first | (left; (rw [hp, hm]; simp [go_sem, fdiv2, F0, hil]); done) | (right; (rw [hp, hm]; simp [go_sem, fdiv2, F0, hil]); done))
end Go.Abs
end
section
set_option maxRecDepth 4000
open Go Go.Proofs
namespace Go.Abs
theorem subgraph_has (l : List Int) (v : Int) (hs : l.Pairwise (· < ·)) (hl : l.length ≤ 1000000) : Pure Tryz.prog 279 [dLI l, dI v] (.bool (mem l v)) := by
  refine Tz.pK ⟨fun _ => false, fun _ => []⟩ Tryz.func279 rfl (fun Q hQ => ?_)
  try simp [go_sem, seval]
  refine callQ_pure0 (bsearch_int l v hs hl) ((by first | rfl | (simp [go_sem, ← List.map_take, ← List.map_drop]; done))) ?_
  try simp [go_sem, seval]
  exact hQ _ _ (by simp [go_sem] <;> first | omega | (rw [bei]; simp <;> omega) | (simp_all <;> omega))
def dangE (g : Graph) (p : Part) (k : Int) : Int := if (mem p.nodes (g.edges[k.toNat]?.getD zeroEdge).from_ && mem p.nodes (g.edges[k.toNat]?.getD zeroEdge).to_) = true then 0 else 14
def partF (g : Graph) (p : Part) : Int :=
  if ascF p.nodes g.nodes.length ≠ 0 then ascF p.nodes g.nodes.length
  else if ascF p.edges g.edges.length ≠ 0 then ascF p.edges g.edges.length
  else listE (dangE g p) p.edges
def subF (g : Graph) (p : Part) : Int := if graphF g ≠ 0 then graphF g else partF g p
theorem subgraph_part (g : Graph) (p : Part) (hl : p.nodes.length ≤ 1000000) : Pure Tryz.prog 238 [g.d, p.d] (dI (partF g p)) := by
  refine Tz.pK ⟨fun _ => false, fun _ => []⟩ Tryz.func238 rfl (fun Q hQ => ?_)
  try simp [go_sem, seval]
  repeat (first | intro _ | (refine ⟨obl, ?_⟩))
  refine callQ_pure0 (subgraph_list p.nodes _) ((by first | rfl | (simp [go_sem, ← List.map_take, ← List.map_drop]; done))) ?_
  try simp [go_sem, seval]
  repeat (first | intro _ | (refine ⟨obl, ?_⟩))
  refine condQ_mk (fun h2 => ?_) (fun h2 => ?_)
  · try simp [go_sem] at h2
    try simp [go_sem, seval]
    exact hQ _ _ (by first | (left; (simp [go_sem, partF, h2]); done) | (right; (simp [go_sem, partF, h2]); done))
  · try simp [go_sem] at h2
    try simp [go_sem, seval]
    repeat (first | intro _ | (refine ⟨obl, ?_⟩))
    refine callQ_pure0 (subgraph_list p.edges _) ((by first | rfl | (simp [go_sem, ← List.map_take, ← List.map_drop]; done))) ?_
    try simp [go_sem, seval]
    repeat (first | intro _ | (refine ⟨obl, ?_⟩))
    refine condQ_mk (fun h5 => ?_) (fun h5 => ?_)
    ·try simp [go_sem] at h5
     try simp [go_sem, seval]
     exact hQ _ _ (by first | (left; (simp [go_sem, partF, h2, h5]); done) | (right; (simp [go_sem, partF, h2, h5]); done))
    ·try simp [go_sem] at h5
     have hP : partF g p = listE (dangE g p) p.edges := by unfold partF; rw [if_neg (by simp [h2]), if_neg (by simp [h5])]
     have hs := (asc_of h2).2
     have hin := (asc_of h5).1
     try simp [go_sem, seval]
     repeat (first | intro _ | (refine ⟨obl, ?_⟩))
     obtain ⟨I0, hI0⟩ := mkI fun i e H => ((e 2 = .adr g.c) ∧ (e 3 = .adr p.c) ∧ (e 28 = dLI p.edges) ∧ (e 29 = dI p.edges.length) ∧ (e 30 = dI i) ∧ (i ≤ p.edges.length) ∧ (listE (dangE g p) (p.edges.drop i) = partF g p))
     refine loopK I0 (fun i => p.edges.length - i) (0) ((hI0 _ _ _).2 ⟨?_, ?_, ?_, ?_, ?_, (by first | assumption | omega | (simp [go_sem]; done) | (simp_all; done)), (by (exact hP.symm))⟩) ?_
     iterate 5 (first | omega | (simp [go_sem, seval] <;> omega))
     intro i e H hi0
     obtain ⟨q2_0, q3_0, q28_0, q29_0, q30_0, hi, hF⟩ := (hI0 _ _ _).1 hi0
     have F0 := And.intro q2_0 (And.intro q3_0 (And.intro q28_0 (And.intro q29_0 q30_0)))
     try simp [go_sem, seval, F0]
     refine condQ_mk (fun h8 => ?_) (fun h8 => ?_)
     ·try simp [go_sem] at h8
      have hst := hF
      rw [listE_step _ h8] at hst
      have hin' := hin _ (lgm h8)
      have hk : p.edges[i].toNat < g.edges.length := by omega
      have hD : dangE g p p.edges[i] = if (mem p.nodes g.edges[p.edges[i].toNat].from_ && mem p.nodes g.edges[p.edges[i].toNat].to_) = true then 0 else 14 := by simp only [dangE, lge hk, Option.getD_some]
      try simp [go_sem, seval, F0, h8, lge hk]
      repeat (first | intro _ | (refine ⟨obl, ?_⟩))
      refine dcallQ_pure0 (subgraph_has p.nodes _ hs hl) ((by first | rfl | (simp [go_sem, ← List.map_take, ← List.map_drop, F0, h8, lge hk]; done))) ?_
      try simp [go_sem, seval, F0, h8, lge hk]
      repeat (first | intro _ | (refine ⟨obl, ?_⟩))
      refine dgcallQ_pure0 (fun hg => subgraph_has p.nodes _ hs hl) (fun hg => (by first | rfl | (simp [go_sem, ← List.map_take, ← List.map_drop, F0, h8, lge hk]; done))) ?_
      try simp [go_sem, seval, F0, h8, lge hk]
      repeat (first | intro _ | (refine ⟨obl, ?_⟩))
      refine condQ_mk (fun h10 => ?_) (fun h10 => ?_)
      ·try simp [go_sem] at h10
       rw [if_neg (by rcases h10 with h | h <;> simp [h])] at hD
       rw [hD, if_pos (by omega)] at hst
       try simp [go_sem, seval, F0, h8, lge hk]
       exact hQ _ _ (by first | (left; (simp [go_sem, ← hst]); done) | (right; (simp [go_sem, ← hst]); done))
      ·try simp [go_sem] at h10
       rw [if_pos (by simp [h10])] at hD
       rw [hD, if_neg (by omega)] at hst
       try simp [go_sem, seval, F0, h8, lge hk]
       repeat (first | intro _ | (refine ⟨obl, ?_⟩))
       refine nextQ_mk (i + 1) (by omega) ((hI0 _ _ _).2 ⟨?_, ?_, ?_, ?_, ?_, (by first | assumption | omega | (simp [go_sem, F0, h8, lge hk, h2, h5, h10]; done) | (simp_all <;> omega)), (by exact hst)⟩) <;> first | omega | (simp [go_sem, seval, F0, h8, lge hk] <;> omega)
     ·try simp [go_sem] at h8
      try simp [go_sem, seval, F0]
      exact hQ _ _ (by first | (left; (rw [← hF, listE_end _ (by omega)]; simp [go_sem]); done) | (right; (rw [← hF, listE_end _ (by omega)]; simp [go_sem]); done))
theorem subgraph_Valid (g : Graph) (p : Part) (hl : p.nodes.length ≤ 1000000) : Pure Tryz.prog 170 [g.d, p.d] (dI (subF g p)) := by
  refine Tz.pK ⟨fun _ => false, fun _ => []⟩ Tryz.func170 rfl (fun Q hQ => ?_)
  try simp [go_sem, seval]
  refine callQ_pure0 (graph_Valid g) ((by first | rfl | (simp [go_sem, ← List.map_take, ← List.map_drop]; done))) ?_
  try simp [go_sem, seval]
  refine condQ_mk (fun h2 => ?_) (fun h2 => ?_)
  · try simp [go_sem] at h2
    try simp [go_sem, seval]
    exact hQ _ _ (by simp [go_sem, h2, subF] <;> first | omega | (rw [bei]; simp <;> omega) | (simp_all <;> omega))
  · try simp [go_sem] at h2
    try simp [go_sem, seval]
    refine callQ_pure0 (subgraph_part g p hl) ((by first | rfl | (simp [go_sem, ← List.map_take, ← List.map_drop]; done))) ?_
    try simp [go_sem, seval]
    exact hQ _ _ (by simp [go_sem, h2, subF] <;> first | omega | (rw [bei]; simp <;> omega) | (simp_all <;> omega))
theorem ref07_Right (g : Graph) (p : Part) : Pure Tryz.prog 252 [g.d, p.d] (dI (partF g p)) := by
  refine Tz.pK ⟨fun t => t == 8, fun r => match r with | 10 => [(0, 9), (1, 9), (2, 9), (3, 9), (5, 9), (6, 9), (7, 9), (8, 9)] | _ => []⟩ Tryz.func252 rfl (fun Q hQ => ?_)
  try simp [go_sem, seval]
  repeat (first | intro _ | (refine ⟨obl, ?_⟩))
  refine callQ_pure0 (ref07_ascending p.nodes _) ((by first | rfl | (simp [go_sem, ← List.map_take, ← List.map_drop]; done))) ?_
  try simp [go_sem, seval]
  repeat (first | intro _ | (refine ⟨obl, ?_⟩))
  refine condQ_mk (fun h2 => ?_) (fun h2 => ?_)
  · try simp [go_sem] at h2
    try simp [go_sem, seval]
    exact hQ _ _ (by first | (left; (simp [go_sem, partF, h2]); done) | (right; (simp [go_sem, partF, h2]); done))
  · try simp [go_sem] at h2
    try simp [go_sem, seval]
    repeat (first | intro _ | (refine ⟨obl, ?_⟩))
    refine callQ_pure0 (ref07_ascending p.edges _) ((by first | rfl | (simp [go_sem, ← List.map_take, ← List.map_drop]; done))) ?_
    try simp [go_sem, seval]
    repeat (first | intro _ | (refine ⟨obl, ?_⟩))
    refine condQ_mk (fun h5 => ?_) (fun h5 => ?_)
    ·try simp [go_sem] at h5
     try simp [go_sem, seval]
     exact hQ _ _ (by first | (left; (simp [go_sem, partF, h2, h5]); done) | (right; (simp [go_sem, partF, h2, h5]); done))
    ·try simp [go_sem] at h5
     have hP : partF g p = listE (dangE g p) p.edges := by unfold partF; rw [if_neg (by simp [h2]), if_neg (by simp [h5])]
     have hin := (asc_of h5).1
     try simp [go_sem, seval]
     obtain ⟨I0, hI0⟩ := mkI fun i e H => ((e 2 = .adr g.c) ∧ (e 3 = .adr p.c) ∧ (e 7 = dI i) ∧ (i ≤ p.edges.length) ∧ (listE (dangE g p) (p.edges.drop i) = partF g p))
     refine loopK I0 (fun i => p.edges.length - i) (0) ((hI0 _ _ _).2 ⟨?_, ?_, ?_, (by first | assumption | omega | (simp [go_sem]; done) | (simp_all; done)), (by (exact hP.symm))⟩) ?_
     iterate 3 (first | omega | (simp [go_sem, seval] <;> omega))
     intro i e H hi0
     obtain ⟨q2_0, q3_0, q7_0, hi, hF⟩ := (hI0 _ _ _).1 hi0
     have F0 := And.intro q2_0 (And.intro q3_0 q7_0)
     try simp [go_sem, seval, F0]
     repeat (first | intro _ | (refine ⟨obl, ?_⟩))
     refine condQ_mk (fun h8 => ?_) (fun h8 => ?_)
     ·try simp [go_sem] at h8
      have hst := hF
      rw [listE_step _ h8] at hst
      have hin' := hin _ (lgm h8)
      have hk : p.edges[i].toNat < g.edges.length := by omega
      have hD : dangE g p p.edges[i] = if (mem p.nodes g.edges[p.edges[i].toNat].from_ && mem p.nodes g.edges[p.edges[i].toNat].to_) = true then 0 else 14 := by simp only [dangE, lge hk, Option.getD_some]
      try simp [go_sem, seval, F0, h8, lge hk]
      repeat (first | intro _ | (refine ⟨obl, ?_⟩))
      refine callQ_pure0 (ref07_has p.nodes _) ((by first | rfl | (simp [go_sem, ← List.map_take, ← List.map_drop, F0, h8, lge hk]; done))) ?_
      try simp [go_sem, seval, F0, h8, lge hk]
      repeat (first | intro _ | (refine ⟨obl, ?_⟩))
      refine gcallQ_pure0 (fun hg => ref07_has p.nodes _) (fun hg => (by first | rfl | (simp [go_sem, ← List.map_take, ← List.map_drop, F0, h8, lge hk]; done))) ?_
      try simp [go_sem, seval, F0, h8, lge hk]
      repeat (first | intro _ | (refine ⟨obl, ?_⟩))
      refine condQ_mk (fun h11 => ?_) (fun h11 => ?_)
      ·try simp [go_sem] at h11
       rw [if_neg (by rcases h11 with h | h <;> simp [h])] at hD
       rw [hD, if_pos (by omega)] at hst
       try simp [go_sem, seval, F0, h8, lge hk]
       exact hQ _ _ (by first | (left; (simp [go_sem, ← hst]); done) | (right; (simp [go_sem, ← hst]); done))
      ·try simp [go_sem] at h11
       rw [if_pos (by simp [h11])] at hD
       rw [hD, if_neg (by omega)] at hst
       try simp [go_sem, seval, F0, h8, lge hk]
       repeat (first | intro _ | (refine ⟨obl, ?_⟩))
       refine nextQ_mk (i + 1) (by omega) ((hI0 _ _ _).2 ⟨?_, ?_, ?_, (by first | assumption | omega | (simp [go_sem, F0, h8, lge hk, h2, h5, h11]; done) | (simp_all <;> omega)), (by exact hst)⟩) <;> first | omega | (simp [go_sem, seval, F0, h8, lge hk] <;> omega)
     ·try simp [go_sem] at h8
      try simp [go_sem, seval, F0]
      exact hQ _ _ (by first | (left; (rw [← hF, listE_end _ (by omega)]; simp [go_sem]); done) | (right; (rw [← hF, listE_end _ (by omega)]; simp [go_sem]); done))
theorem ref07_Valid (g : Graph) (p : Part) : Pure Tryz.prog 184 [g.d, p.d] (dI (subF g p)) := by
  refine Tz.pK ⟨fun _ => false, fun _ => []⟩ Tryz.func184 rfl (fun Q hQ => ?_)
  try simp [go_sem, seval]
  refine callQ_pure0 (ref05_Valid g) ((by first | rfl | (simp [go_sem, ← List.map_take, ← List.map_drop]; done))) ?_
  try simp [go_sem, seval]
  refine condQ_mk (fun h2 => ?_) (fun h2 => ?_)
  · try simp [go_sem] at h2
    try simp [go_sem, seval]
    exact hQ _ _ (by simp [go_sem, h2, subF] <;> first | omega | (rw [bei]; simp <;> omega) | (simp_all <;> omega))
  · try simp [go_sem] at h2
    try simp [go_sem, seval]
    refine callQ_pure0 (ref07_Right g p) ((by first | rfl | (simp [go_sem, ← List.map_take, ← List.map_drop]; done))) ?_
    try simp [go_sem, seval]
    exact hQ _ _ (by simp [go_sem, h2, subF] <;> first | omega | (rw [bei]; simp <;> omega) | (simp_all <;> omega))
def gN (g : Graph) (n : Int) : Int := g.nodes[n.toNat]?.getD 0
def gEd (g : Graph) (p : Part) (k : Int) : Edge := ⟨(g.edges[k.toNat]?.getD zeroEdge).type, posL p.nodes (g.edges[k.toNat]?.getD zeroEdge).from_, posL p.nodes (g.edges[k.toNat]?.getD zeroEdge).to_⟩
def extractG (g : Graph) (p : Part) : Graph := if subF g p = 0 then ⟨p.nodes.map (gN g), p.edges.map (gEd g p)⟩ else ⟨[], []⟩
def partR (g : Graph) (p : Part) : Part := if subF g p = 0 then p else ⟨[], []⟩
theorem subF_of {g : Graph} {p : Part} (h : subF g p = 0) : graphF g = 0 ∧ p.nodes.Pairwise (· < ·) ∧ (∀ n ∈ p.nodes, 0 ≤ n ∧ n < g.nodes.length) ∧ ∀ k ∈ p.edges, 0 ≤ k ∧ k < g.edges.length := by
  unfold subF partF at h
  split at h
  · rename_i h1; exact absurd h h1
  · rename_i h1
    split at h
    ·rename_i h2; exact absurd h h2
    ·rename_i h2
     split at h
     ·rename_i h3; exact absurd h h3
     ·rename_i h3
      have h2' : ascF p.nodes g.nodes.length = 0 := by omega
      have h3' : ascF p.edges g.edges.length = 0 := by omega
      exact ⟨by omega, (asc_of h2').2, (asc_of h2').1, (asc_of h3').1⟩
theorem map_take_succ {α β : Type} (f : α → β) {l : List α} {i : Nat} (h : i < l.length) : (l.take (i + 1)).map f = (l.take i).map f ++ [f l[i]] := by
  rw [List.take_succ_eq_append_getElem h, List.map_append]; rfl
theorem map_take_end {α β : Type} (f : α → β) {l : List α} {i : Nat} (h : l.length ≤ i) : (l.take i).map f = l.map f := by
  rw [List.take_of_length_le h]
theorem subgraph_Extract (g : Graph) (p : Part) (hl : p.nodes.length ≤ 1000000) (hle : p.edges.length ≤ 1000000) : Pure Tryz.prog 89 [g.d, p.d] (.tup [(extractG g p).d, (partR g p).d, dI (subF g p)]) := by
  refine Tz.pK ⟨fun t => t == 4 || t == 5 || t == 8 || t == 13, fun r => match r with | 8 => [(0, 7), (1, 7)] | _ => []⟩ Tryz.func89 rfl (fun Q hQ => ?_)
  try simp [go_sem, seval]
  refine callQ_pure0 (subgraph_Valid g p hl) ((by first | rfl | (simp [go_sem, ← List.map_take, ← List.map_drop]; done))) ?_
  try simp [go_sem, seval]
  refine condQ_mk (fun h2 => ?_) (fun h2 => ?_)
  · try simp [go_sem] at h2
    try simp [go_sem, seval]
    exact hQ _ _ (by first | (left; (simp [go_sem, extractG, partR, h2]); done) | (right; (simp [go_sem, extractG, partR, h2]); done))
  · try simp [go_sem] at h2
    obtain ⟨hg, hs, hin, hie⟩ := subF_of h2
    try simp [go_sem, seval]
    repeat (first | intro _ | (refine ⟨obl, ?_⟩))
    obtain ⟨I0, hI0⟩ := mkI fun i e H => (∃ xs : List Int, (e 2 = .adr g.c) ∧ (e 3 = .adr p.c) ∧ (e 4 = .ptr 0 1 0 0) ∧ (e 5 = .ptr 1 1 0 0) ∧ (e 8 = .ptr 2 1 0 0) ∧ (e 23 = dLI p.nodes) ∧ (e 24 = dI p.nodes.length) ∧ (e 25 = dI i) ∧ (H.get 0 = some ⟨29, 2, [[.nil, .nil]], false⟩) ∧ (0 < H.next) ∧ (H.get 1 = some ⟨36, 2, [[.nil, .nil]], false⟩) ∧ (1 < H.next) ∧ (H.get 2 = some ⟨29, 2, [[.own 3 xs.length, .nil]], false⟩) ∧ (2 < H.next) ∧ (H.get 3 = some ⟨3, 1, xs.map cI, false⟩) ∧ (3 < H.next) ∧ (i ≤ p.nodes.length) ∧ (xs = (p.nodes.take i).map (gN g)))
    refine loopKG (Ghosts.step (Ghosts.refl _) 2 0 0 3 1 _ _ (rfl) rfl rfl rfl) I0 (fun i => p.nodes.length - i) (0) ((hI0 _ _ _).2 ⟨([]), ?_, ?_, ?_, ?_, ?_, ?_, ?_, ?_, ?_, ?_, ?_, ?_, ?_, ?_, ?_, ?_, (by first | assumption | omega | (simp [go_sem]; done) | (simp_all; done)), (by rfl)⟩) ?_
    iterate 16 (first | omega | (simp [go_sem, seval] <;> omega))
    intro i e H hi0
    obtain ⟨xs, q2_0, q3_0, q4_0, q5_0, q8_0, q23_0, q24_0, q25_0, g0_0, n0_0, g1_0, n1_0, g2_0, n2_0, g3_0, n3_0, hi, hx⟩ := (hI0 _ _ _).1 hi0
    have x0 := frs n0_0
    have x1 := frs n1_0
    have x2 := frs n2_0
    have x3 := frs n3_0
    have F0 := And.intro q2_0 (And.intro q3_0 (And.intro q4_0 (And.intro q5_0 (And.intro q8_0 (And.intro q23_0 (And.intro q24_0 (And.intro q25_0 (And.intro g0_0 (And.intro g1_0 (And.intro g2_0 (And.intro g3_0 (And.intro x0 (And.intro x1 (And.intro x2 x3))))))))))))))
    try simp [go_sem, seval, F0]
    refine condQ_mk (fun h6 => ?_) (fun h6 => ?_)
    ·try simp [go_sem] at h6
     have hin' := hin _ (lgm h6)
     have hk : p.nodes[i].toNat < g.nodes.length := by omega
     have hxl : xs.length = i := by rw [hx]; simp; omega
     try simp [go_sem, seval, F0, h6, lge hk, gN]
     repeat (first | intro _ | (refine ⟨obl, ?_⟩))
     refine nextQ_mk (i + 1) (by omega) ((hI0 _ _ _).2 ⟨(xs ++ [gN g p.nodes[i]]), ?_, ?_, ?_, ?_, ?_, ?_, ?_, ?_, ?_, ?_, ?_, ?_, ?_, ?_, ?_, ?_, (by first | assumption | omega | (simp [go_sem, F0, h6, lge hk, gN, h2]; done) | (simp_all <;> omega)), (by (rw [map_take_succ _ h6, ← hx]))⟩) <;> first | omega | (simp [go_sem, seval, F0, h6, lge hk, gN] <;> omega)
    ·try simp [go_sem] at h6
     have hX : xs = p.nodes.map (gN g) := by rw [hx, map_take_end _ (by omega)]
     try simp [go_sem, seval, F0]
     repeat (first | intro _ | (refine ⟨obl, ?_⟩))
     obtain ⟨I2, hI2⟩ := mkI fun k e H => (∃ j : Nat, ∃ ys : List Edge, (e 2 = .adr g.c) ∧ (e 3 = .adr p.c) ∧ (e 4 = .ptr 0 1 0 0) ∧ (e 5 = .ptr 1 1 0 0) ∧ (e 8 = .ptr 2 1 0 0) ∧ (e 41 = dLI p.edges) ∧ (e 42 = dI p.edges.length) ∧ (e 43 = dI k) ∧ (H.get 0 = some ⟨29, 2, [[.nil, .nil]], false⟩) ∧ (0 < H.next) ∧ (H.get 1 = some ⟨36, 2, [[.nil, .nil]], false⟩) ∧ (1 < H.next) ∧ (H.get 2 = some ⟨29, 2, [[.own 3 xs.length, .own j ys.length]], false⟩) ∧ (2 < H.next) ∧ (H.get 3 = some ⟨3, 1, xs.map cI, false⟩) ∧ (3 < H.next) ∧ (H.get j = some ⟨124, 3, ys.map Edge.c, false⟩) ∧ (j < H.next) ∧ (k ≤ p.edges.length) ∧ (ys = (p.edges.take k).map (gEd g p)) ∧ (j ≠ 0) ∧ (j ≠ 1) ∧ (j ≠ 2) ∧ (j ≠ 3))
     refine loopKG (Ghosts.step (Ghosts.refl _) 2 0 1 124 3 _ _ (g2_0) rfl rfl rfl) I2 (fun k => p.edges.length - k) (0) ((hI2 _ _ _).2 ⟨(H.next), ([]), ?_, ?_, ?_, ?_, ?_, ?_, ?_, ?_, ?_, ?_, ?_, ?_, ?_, ?_, ?_, ?_, ?_, ?_, (by first | assumption | omega | (simp [go_sem, F0]; done) | (simp_all; done)), (by rfl), (by omega), (by omega), (by omega), (by omega)⟩) ?_
     iterate 18 (first | omega | (simp [go_sem, seval, F0] <;> omega))
     intro k e H hi2
     obtain ⟨j, ys, q2_2, q3_2, q4_2, q5_2, q8_2, q41_2, q42_2, q43_2, g0_2, n0_2, g1_2, n1_2, g2_2, n2_2, g3_2, n3_2, gj_2, nj_2, hk, hy, j0, j1, j2, j3⟩ := (hI2 _ _ _).1 hi2
     have x0 := frs n0_2
     have x1 := frs n1_2
     have x2 := frs n2_2
     have x3 := frs n3_2
     have xj := frs nj_2
     have F2 := And.intro q2_2 (And.intro q3_2 (And.intro q4_2 (And.intro q5_2 (And.intro q8_2 (And.intro q41_2 (And.intro q42_2 (And.intro q43_2 (And.intro g0_2 (And.intro g1_2 (And.intro g2_2 (And.intro g3_2 (And.intro gj_2 (And.intro x0 (And.intro x1 (And.intro x2 (And.intro x3 xj))))))))))))))))
     try simp [go_sem, seval, F2, j0, j1, j2, j3, j0.symm, j1.symm, j2.symm, j3.symm]
     refine condQ_mk (fun h11 => ?_) (fun h11 => ?_)
     ·try simp [go_sem] at h11
      have hie' := hie _ (lgm h11)
      have hke : p.edges[k].toNat < g.edges.length := by omega
      have hyl : ys.length = k := by rw [hy]; simp; omega
      try simp [go_sem, seval, F2, j0, j1, j2, j3, j0.symm, j1.symm, j2.symm, j3.symm, h11, lge hke, gEd]
      repeat (first | intro _ | (refine ⟨obl, ?_⟩))
      refine callQ_pure0 (bsearch_int p.nodes _ hs hl) ((by first | rfl | (simp [go_sem, ← List.map_take, ← List.map_drop, F2, j0, j1, j2, j3, j0.symm, j1.symm, j2.symm, j3.symm, h11, lge hke, gEd]; done))) ?_
      try simp [go_sem, seval, F2, j0, j1, j2, j3, j0.symm, j1.symm, j2.symm, j3.symm, h11, lge hke, gEd]
      repeat (first | intro _ | (refine ⟨obl, ?_⟩))
      refine callQ_pure0 (bsearch_int p.nodes _ hs hl) ((by first | rfl | (simp [go_sem, ← List.map_take, ← List.map_drop, F2, j0, j1, j2, j3, j0.symm, j1.symm, j2.symm, j3.symm, h11, lge hke, gEd]; done))) ?_
      try simp [go_sem, seval, F2, j0, j1, j2, j3, j0.symm, j1.symm, j2.symm, j3.symm, h11, lge hke, gEd]
      repeat (first | intro _ | (refine ⟨obl, ?_⟩))
      refine nextQ_mk (k + 1) (by omega) ((hI2 _ _ _).2 ⟨(j), (ys ++ [gEd g p p.edges[k]]), ?_, ?_, ?_, ?_, ?_, ?_, ?_, ?_, ?_, ?_, ?_, ?_, ?_, ?_, ?_, ?_, ?_, ?_, (by first | assumption | omega | (simp [go_sem, F2, j0, j1, j2, j3, j0.symm, j1.symm, j2.symm, j3.symm, h11, lge hke, gEd, h2, h6]; done) | (simp_all <;> omega)), (by (rw [map_take_succ _ h11, ← hy])), (by first | assumption | omega | (simp [go_sem, F2, j0, j1, j2, j3, j0.symm, j1.symm, j2.symm, j3.symm, h11, lge hke, gEd, h2, h6]; done) | (simp_all <;> omega)), (by first | assumption | omega | (simp [go_sem, F2, j0, j1, j2, j3, j0.symm, j1.symm, j2.symm, j3.symm, h11, lge hke, gEd, h2, h6]; done) | (simp_all <;> omega)), (by first | assumption | omega | (simp [go_sem, F2, j0, j1, j2, j3, j0.symm, j1.symm, j2.symm, j3.symm, h11, lge hke, gEd, h2, h6]; done) | (simp_all <;> omega)), (by first | assumption | omega | (simp [go_sem, F2, j0, j1, j2, j3, j0.symm, j1.symm, j2.symm, j3.symm, h11, lge hke, gEd, h2, h6]; done) | (simp_all <;> omega))⟩) <;> first | omega | (simp [go_sem, seval, F2, j0, j1, j2, j3, j0.symm, j1.symm, j2.symm, j3.symm, h11, lge hke, gEd] <;> omega)
     ·try simp [go_sem] at h11
      have hY : ys = p.edges.map (gEd g p) := by rw [hy, map_take_end _ (by omega)]
      try simp [go_sem, seval, F2, j0, j1, j2, j3, j0.symm, j1.symm, j2.symm, j3.symm]
      refine dcallQ_pure0 ((clone_int p.nodes hl).pure) ((by first | rfl | (simp [go_sem, ← List.map_take, ← List.map_drop, F2, j0, j1, j2, j3, j0.symm, j1.symm, j2.symm, j3.symm]; done))) ?_
      try simp [go_sem, seval, F2, j0, j1, j2, j3, j0.symm, j1.symm, j2.symm, j3.symm]
      refine dcallQ_pure0 ((clone_int p.edges hle).pure) ((by first | rfl | (simp [go_sem, ← List.map_take, ← List.map_drop, F2, j0, j1, j2, j3, j0.symm, j1.symm, j2.symm, j3.symm]; done))) ?_
      try simp [go_sem, seval, F2, j0, j1, j2, j3, j0.symm, j1.symm, j2.symm, j3.symm]
      exact hQ _ _ (by first | (left; (simp [go_sem, F2, j0, j1, j2, j3, j0.symm, j1.symm, j2.symm, j3.symm, extractG, partR, h2, hX, hY]); done) | (right; (simp [go_sem, F2, j0, j1, j2, j3, j0.symm, j1.symm, j2.symm, j3.symm, extractG, partR, h2, hX, hY]); done))
end Go.Abs
end
