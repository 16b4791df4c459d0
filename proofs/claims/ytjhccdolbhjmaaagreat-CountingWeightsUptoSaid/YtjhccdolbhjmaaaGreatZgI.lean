/- Layer 4: attributes of types; copies. · Layer 4: attributes  -/
import Derived.Test.YtjhccdolbhjmaaaGreatZgE
import Derived.Test.YtjhccdolbhjmaaaGreatZgH
import Derived.Sort.OwnSortedInts
import Derived.Ground.NamesProg
import Derived.Ground.Names2Prog
import Derived.Shelf.Sort.Plain
import Derived.Shelf.Slices.CompactI
import Derived.Shelf.Slices.In.SortNone
import Derived.Test.YtjhccdolbhjmaaaGreatProg
set_option linter.unusedVariables false
set_option linter.unusedSimpArgs false
section
set_option maxRecDepth 4000
open Go Go.Proofs
namespace Go.Abs
attribute [go_sem] Slot.c Test.c Pattern.c Pattern.d Part.c Part.d Stage.c
theorem own_split {P : Program} {f : FuncId} {ty : TypeId} {sz : Nat} (h0 : Own P f [.nil] ty sz []) (h1 : Own P f [.ne] ty sz []) : Own P f [.list []] ty sz [] := by
  refine ⟨h0.1, fun M w vals hM ha => ?_⟩
  obtain ⟨hl, hr⟩ := ha
  match vals, hl with
  | [v], _ =>
    have hv := hr 0 v _ rfl rfl
    cases hv with
    | listN => exact h0.2 M w _ hM ⟨rfl, fun j u d hu hd => by
      match j with
      | 0 => simp at hu hd; subst hu; subst hd; exact .nil
      | j + 1 => simp at hu⟩
    | list ad cap sz xs es hc hm => exact h1.2 M w _ hM ⟨rfl, fun j u d hu hd => by
      match j with
      | 0 => simp at hu hd; subst hu; subst hd; exact .ne ad cap hm
      | j + 1 => simp at hu⟩
theorem clone_int0 : Own Tryz.prog 148 [.nil] 3 1 [] := by
  refine Tz.oK ⟨fun t => t == 2 || t == 5, fun _ => []⟩ Tryz.func148 rfl (fun Q hQ => ?_)
  try simp [go_sem]
  exact hQ _ _ _ (by simp [go_sem] <;> first | omega | (rw [bei]; simp <;> omega) | (simp_all <;> omega)) (by simp [go_sem] <;> first | omega | (rw [bei]; simp <;> omega) | (simp_all <;> omega))
theorem clone_intE : Own Tryz.prog 148 [.ne] 3 1 [] := by
  refine Tz.oK ⟨fun t => t == 2 || t == 5, fun _ => []⟩ Tryz.func148 rfl (fun Q hQ => ?_)
  try simp [go_sem]
  repeat (first | intro _ | (refine ⟨obl, ?_⟩))
  exact hQ _ _ _ (by simp [go_sem] <;> first | omega | (rw [bei]; simp <;> omega) | (simp_all <;> omega)) (by simp [go_sem] <;> first | omega | (rw [bei]; simp <;> omega) | (simp_all <;> omega))
theorem clone_intC (l : List Int) (hl : l.length ≤ 1000000) (hne : l ≠ []) : Own Tryz.prog 148 [.list (l.map cI)] 3 1 (l.map cI) := by
  refine Tz.oK ⟨fun t => t == 2 || t == 5, fun _ => []⟩ Tryz.func148 rfl (fun Q hQ => ?_)
  try simp [go_sem, hne]
  repeat (first | intro _ | (refine ⟨obl, ?_⟩))
  exact hQ _ _ _ (by simp [go_sem, hne] <;> first | omega | (rw [bei]; simp <;> omega) | (simp_all <;> omega)) (by simp [go_sem, hne] <;> first | omega | (rw [bei]; simp <;> omega) | (simp_all <;> omega))
theorem clone_int (l : List Int) (hl : l.length ≤ 1000000) : Own Tryz.prog 148 [.list (l.map cI)] 3 1 (l.map cI) := by
  by_cases hne : l = []
  · subst hne; exact own_split clone_int0 clone_intE
  · exact clone_intC l hl hne
theorem clone_str0 : Own Tryz.prog 338 [.nil] 9 1 [] := by
  refine Tz.oK ⟨fun t => t == 2 || t == 5, fun _ => []⟩ Tryz.func338 rfl (fun Q hQ => ?_)
  try simp [go_sem]
  exact hQ _ _ _ (by simp [go_sem] <;> first | omega | (rw [bei]; simp <;> omega) | (simp_all <;> omega)) (by simp [go_sem] <;> first | omega | (rw [bei]; simp <;> omega) | (simp_all <;> omega))
theorem clone_strE : Own Tryz.prog 338 [.ne] 9 1 [] := by
  refine Tz.oK ⟨fun t => t == 2 || t == 5, fun _ => []⟩ Tryz.func338 rfl (fun Q hQ => ?_)
  try simp [go_sem]
  repeat (first | intro _ | (refine ⟨obl, ?_⟩))
  exact hQ _ _ _ (by simp [go_sem] <;> first | omega | (rw [bei]; simp <;> omega) | (simp_all <;> omega)) (by simp [go_sem] <;> first | omega | (rw [bei]; simp <;> omega) | (simp_all <;> omega))
theorem clone_strC (l : List ByteArray) (hl : l.length ≤ 1000000) (hne : l ≠ []) : Own Tryz.prog 338 [.list (l.map cS)] 9 1 (l.map cS) := by
  refine Tz.oK ⟨fun t => t == 2 || t == 5, fun _ => []⟩ Tryz.func338 rfl (fun Q hQ => ?_)
  try simp [go_sem, hne]
  repeat (first | intro _ | (refine ⟨obl, ?_⟩))
  exact hQ _ _ _ (by simp [go_sem, hne] <;> first | omega | (rw [bei]; simp <;> omega) | (simp_all <;> omega)) (by simp [go_sem, hne] <;> first | omega | (rw [bei]; simp <;> omega) | (simp_all <;> omega))
theorem clone_str (l : List ByteArray) (hl : l.length ≤ 1000000) : Own Tryz.prog 338 [.list (l.map cS)] 9 1 (l.map cS) := by
  by_cases hne : l = []
  · subst hne; exact own_split clone_str0 clone_strE
  · exact clone_strC l hl hne
def attrsT (t : Types) (a : Int) : List Attr := if given2F t a a = 0 then t.attrs a.toNat else []
theorem given_one (t : Types) (a : Int) : givenF t [a] = given2F t a a := by
  unfold givenF given2F; cases ha : insideF t a <;> simp [ha]
theorem given2_one {t : Types} {a : Int} (h : given2F t a a = 0) : t.valid ∧ 0 ≤ a ∧ a < t.nodes.length := ⟨(given2_zero h).1, (given2_zero h).2.1⟩
theorem types_Attrs (t : Types) (ht : t.ok) (a : Int) : Pure Tryz.prog 324 [t.d, dI a] (.tup [.list ((attrsT t a).map Attr.c), dI (given2F t a a)]) := by
  refine Tz.pK ⟨fun _ => false, fun _ => []⟩ Tryz.func324 rfl (fun Q hQ => ?_)
  try simp [go_sem]
  refine cq0 (types_given t ht [a]) ?_
  try simp [go_sem]
  refine condQ_mk (fun h2 => ?_) (fun h2 => ?_)
  · try simp [go_sem] at h2
    rw [given_one] at h2
    try simp [go_sem]
    exact hQ _ _ (by first | (left; (simp [go_sem, given_one, attrsT, h2]); done) | (right; (simp [go_sem, given_one, attrsT, h2]); done))
  · try simp [go_sem] at h2
    rw [given_one] at h2
    obtain ⟨hv, h0, h1⟩ := given2_one h2
    have hat := types_attrs t ht a.toNat (by omega) (hv.parentsOK _)
    rw [Int.toNat_of_nonneg h0] at hat
    have hok : ∀ x ∈ t.attrs a.toNat, x.ok := attrsF_ok t.nodes ht.nodes _ _
    have hl8 := hv.attrs a.toNat (by omega)
    try simp [go_sem]
    refine callQ_own0 (hat) ((by first | rfl | (simp [go_sem, ← List.map_take, ← List.map_drop]; done))) ?_
    try simp [go_sem]
    repeat (first | intro _ | (refine ⟨obl, ?_⟩))
    obtain ⟨I0, hI0⟩ := mkI fun i e H => ((e 2 = .adr t.c) ∧ (e 1 = dI a) ∧ (e 7 = .own 0 (t.attrs a.toNat).length) ∧ (e 20 = dI (t.attrs a.toNat).length) ∧ (e 21 = dI i) ∧ (H.get 0 = some ⟨101, 4, (t.attrs a.toNat).map Attr.c, false⟩) ∧ (0 < H.next) ∧ (i ≤ (t.attrs a.toNat).length))
    refine loopK I0 (fun i => (t.attrs a.toNat).length - i) (0) ((hI0 _ _ _).2 ⟨?_, ?_, ?_, ?_, ?_, (by (simp [go_sem])), ?_, (by first | assumption | omega | (simp [go_sem]; done) | (simp_all; done))⟩) ?_
    iterate 6 (first | omega | (simp [go_sem] <;> omega))
    intro i e H hi0
    obtain ⟨q2_0, q1_0, q7_0, q20_0, q21_0, g0_0, n0_0, hi⟩ := (hI0 _ _ _).1 hi0
    have x0 := frs n0_0
    have F0 := And.intro q2_0 (And.intro q1_0 (And.intro q7_0 (And.intro q20_0 (And.intro q21_0 x0))))
    try simp [go_sem, F0, g0_0]
    refine condQ_mk (fun h6 => ?_) (fun h6 => ?_)
    ·try simp [go_sem] at h6
     have hset : ((t.attrs a.toNat).map Attr.c).set i (((t.attrs a.toNat).map Attr.c)[i]'(by simpa using h6)) = (t.attrs a.toNat).map Attr.c := List.set_getElem_self _
     simp [go_sem] at hset
     try simp [go_sem, F0, g0_0, h6]
     repeat (first | intro _ | (refine ⟨obl, ?_⟩))
     refine cq0 ((clone_str (t.attrs a.toNat)[i].names (by have := (hok _ (lgm h6)).few; omega)).pure) ?_
     try simp [go_sem, F0, g0_0, h6]
     repeat (first | intro _ | (refine ⟨obl, ?_⟩))
     refine nextQ_mk (i + 1) (by omega) ((hI0 _ _ _).2 ⟨?_, ?_, ?_, ?_, ?_, (by (simp [go_sem, g0_0, hset])), ?_, (by first | assumption | omega | (simp [go_sem, F0, g0_0, h6, h2]; done) | (simp_all <;> omega))⟩) <;> first | omega | (simp [go_sem, F0, g0_0, h6] <;> omega)
    ·try simp [go_sem] at h6
     try simp [go_sem, F0, g0_0]
     exact hQ _ _ (.inl (by simp [go_sem, g0_0, attrsT, h2]))
end Go.Abs
end
section
set_option maxRecDepth 4000
open Go Go.Proofs
namespace Go.Abs
theorem ref04_Attrs (t : Types) (ht : t.ok) (a : Int) : Pure Tryz.prog 85 [t.d, dI a] (.tup [.list ((attrsT t a).map Attr.c), dI (given2F t a a)]) := by
  refine Tz.pK ⟨fun t => t == 7 || t == 10 || t == 31 || t == 1000000, fun _ => []⟩ Tryz.func85 rfl (fun Q hQ => ?_)
  try simp [go_sem]
  refine cq0 (ref04_given t ht a a) ?_
  try simp [go_sem]
  refine condQ_mk (fun h2 => ?_) (fun h2 => ?_)
  · try simp [go_sem] at h2
    try simp [go_sem]
    exact hQ _ _ (by first | (left; (simp [go_sem, attrsT, h2]); done) | (right; (simp [go_sem, attrsT, h2]); done))
  · try simp [go_sem] at h2
    obtain ⟨hv, h0, h1⟩ := given2_one h2
    have hat := ref04_attrs t ht a.toNat (by omega) (hv.parentsOK _)
    rw [Int.toNat_of_nonneg h0] at hat
    have hok : ∀ x ∈ t.attrs a.toNat, x.ok := attrsF_ok t.nodes ht.nodes _ _
    have hl8 := hv.attrs a.toNat (by omega)
    try simp [go_sem]
    refine cq0 (hat) ?_
    try simp [go_sem]
    obtain ⟨I0, hI0⟩ := mkI fun i e H => ((e 2 = .adr t.c) ∧ (e 1 = dI a) ∧ (e 7 = .own 0 ((t.attrs a.toNat).take i).length) ∧ (e 8 = .list ((t.attrs a.toNat).map Attr.c)) ∧ (e 9 = dI i) ∧ (H.get 0 = some ⟨101, 4, ((t.attrs a.toNat).take i).map Attr.c, false⟩) ∧ (0 < H.next) ∧ (i ≤ (t.attrs a.toNat).length))
    refine loopK I0 (fun i => (t.attrs a.toNat).length - i) (0) ((hI0 _ _ _).2 ⟨?_, ?_, ?_, ?_, ?_, (by (simp [go_sem])), ?_, (by first | assumption | omega | (simp [go_sem]; done) | (simp_all; done))⟩) ?_
    iterate 6 (first | omega | (simp [go_sem] <;> omega))
    intro i e H hi0
    obtain ⟨q2_0, q1_0, q7_0, q8_0, q9_0, g0_0, n0_0, hi⟩ := (hI0 _ _ _).1 hi0
    have x0 := frs n0_0
    have F0 := And.intro q2_0 (And.intro q1_0 (And.intro q7_0 (And.intro q8_0 (And.intro q9_0 x0))))
    try simp [go_sem, F0, g0_0]
    repeat (first | intro _ | (refine ⟨obl, ?_⟩))
    refine condQ_mk (fun h7 => ?_) (fun h7 => ?_)
    ·try simp [go_sem] at h7
     have hts := List.take_succ_eq_append_getElem (l := (t.attrs a.toNat).map Attr.c) (i := i) (by simpa using h7)
     simp [go_sem] at hts
     have hfw := (hok _ (lgm h7)).few
     try simp [go_sem, F0, g0_0, h7]
     repeat (first | intro _ | (refine ⟨obl, ?_⟩))
     refine nextQ_mk (i + 1) (by omega) ((hI0 _ _ _).2 ⟨?_, ?_, ?_, ?_, ?_, (by (simp [go_sem, g0_0, hts])), ?_, (by first | assumption | omega | (simp [go_sem, F0, g0_0, h7, h2]; done) | (simp_all <;> omega))⟩) <;> first | omega | (simp [go_sem, F0, g0_0, h7] <;> omega)
    ·try simp [go_sem] at h7
     try simp [go_sem, F0, g0_0]
     exact hQ _ _ (.inl (by simp [go_sem, g0_0, attrsT, h2, show i = (t.attrs a.toNat).length by omega]))
def belowT (t : Types) (a : Int) : List Int := if given2F t a a = 0 then ((List.range t.nodes.length).filter fun (b : Nat) => mem (t.line b) a).map fun (b : Nat) => (b : Int) else []
theorem range_filter_succ (p : Nat → Bool) (i : Nat) : ((List.range (i + 1)).filter p).map (fun (b : Nat) => (b : Int)) = ((List.range i).filter p).map (fun (b : Nat) => (b : Int)) ++ (if p i = true then [(i : Int)] else []) := by
  rw [List.range_succ, List.filter_append, List.map_append]
  congr 1
  by_cases h : p i = true <;> simp [h]
theorem types_Below (t : Types) (ht : t.ok) (a : Int) : Pure Tryz.prog 187 [t.d, dI a] (.tup [dLI (belowT t a), dI (given2F t a a)]) := by
  refine Tz.pK ⟨fun t => t == 7, fun _ => []⟩ Tryz.func187 rfl (fun Q hQ => ?_)
  try simp [go_sem]
  refine cq0 (types_given t ht [a]) ?_
  try simp [go_sem]
  refine condQ_mk (fun h2 => ?_) (fun h2 => ?_)
  · try simp [go_sem] at h2
    rw [given_one] at h2
    try simp [go_sem]
    exact hQ _ _ (by first | (left; (simp [go_sem, given_one, belowT, h2]); done) | (right; (simp [go_sem, given_one, belowT, h2]); done))
  · try simp [go_sem] at h2
    rw [given_one] at h2
    obtain ⟨hv, h0, h1⟩ := given2_one h2
    have hN := hv.fewN
    try simp [go_sem]
    repeat (first | intro _ | (refine ⟨obl, ?_⟩))
    obtain ⟨I0, hI0⟩ := mkI fun i e H => (∃ xs : List Int, (e 2 = .adr t.c) ∧ (e 1 = dI a) ∧ (e 7 = .own 0 xs.length) ∧ (e 18 = dI t.nodes.length) ∧ (e 19 = dI i) ∧ (H.get 0 = some ⟨3, 1, xs.map cI, false⟩) ∧ (0 < H.next) ∧ (i ≤ t.nodes.length) ∧ (xs.length ≤ i) ∧ (xs = ((List.range i).filter fun (b : Nat) => mem (t.line b) a).map (fun (b : Nat) => (b : Int))))
    refine loopK I0 (fun i => t.nodes.length - i) (0) ((hI0 _ _ _).2 ⟨([]), ?_, ?_, ?_, ?_, ?_, ?_, ?_, (by first | assumption | omega | (simp [go_sem]; done) | (simp_all; done)), (by simp), (by rfl)⟩) ?_
    iterate 7 (first | omega | (simp [go_sem] <;> omega))
    intro i e H hi0
    obtain ⟨xs, q2_0, q1_0, q7_0, q18_0, q19_0, g0_0, n0_0, hi, hl, hx⟩ := (hI0 _ _ _).1 hi0
    have x0 := frs n0_0
    have F0 := And.intro q2_0 (And.intro q1_0 (And.intro q7_0 (And.intro q18_0 (And.intro q19_0 x0))))
    try simp [go_sem, F0, g0_0]
    refine condQ_mk (fun h6 => ?_) (fun h6 => ?_)
    ·try simp [go_sem] at h6
     try simp [go_sem, F0, g0_0, h6]
     refine cq0 (types_is t ht hv i a (by omega) (by omega)) ?_
     try simp [go_sem, F0, g0_0, h6]
     refine condQ_mk (fun h8 => ?_) (fun h8 => ?_)
     ·try simp [go_sem] at h8
      try simp [go_sem, F0, g0_0, h6, h8]
      repeat (first | intro _ | (refine ⟨obl, ?_⟩))
      refine nextQ_mk (i + 1) (by omega) ((hI0 _ _ _).2 ⟨(xs ++ (if mem (t.line i) a = true then [(i : Int)] else [])), ?_, ?_, ?_, ?_, ?_, ?_, ?_, (by first | assumption | omega | (simp [go_sem, F0, g0_0, h6, h8, h2]; done) | (simp_all <;> omega)), (by (rw [List.length_append]; split <;> simp <;> omega)), (by (rw [range_filter_succ, ← hx]))⟩) <;> first | omega | (simp [go_sem, F0, g0_0, h6, h8] <;> omega)
     ·try simp [go_sem] at h8
      try simp [go_sem, F0, g0_0, h6, h8]
      repeat (first | intro _ | (refine ⟨obl, ?_⟩))
      refine nextQ_mk (i + 1) (by omega) ((hI0 _ _ _).2 ⟨(xs ++ (if mem (t.line i) a = true then [(i : Int)] else [])), ?_, ?_, ?_, ?_, ?_, ?_, ?_, (by first | assumption | omega | (simp [go_sem, F0, g0_0, h6, h8, h2]; done) | (simp_all <;> omega)), (by (rw [List.length_append]; split <;> simp <;> omega)), (by (rw [range_filter_succ, ← hx]))⟩) <;> first | omega | (simp [go_sem, F0, g0_0, h6, h8] <;> omega)
    ·try simp [go_sem] at h6
     try simp [go_sem, F0, g0_0]
     exact hQ _ _ (.inl (by simp [go_sem, g0_0, belowT, h2]; rw [hx, show i = t.nodes.length by omega]; simp))
end Go.Abs
end
section
set_option maxRecDepth 4000
open Go Go.Proofs
namespace Go.Abs
def listE {α : Type} (f : α → Int) : List α → Int
  | [] => 0
  | x :: l => if f x ≠ 0 then f x else listE f l
theorem listE_step {α : Type} (f : α → Int) {l : List α} {i : Nat} (h : i < l.length) : listE f (l.drop i) = if f l[i] ≠ 0 then f l[i] else listE f (l.drop (i + 1)) := by
  rw [List.drop_eq_getElem_cons h]; rfl
theorem listE_end {α : Type} (f : α → Int) {l : List α} {i : Nat} (h : ¬ i < l.length) : listE f (l.drop i) = 0 := by
  rw [List.drop_eq_nil_of_le (by omega)]; rfl
def termB (n : Int) (x : Term) : Bool := decide (-1 ≤ x.var) && decide (x.var < n) && decide (-1000000 ≤ x.add) && decide (x.add ≤ 1000000)
theorem difference_term (n : Int) (x : Term) : Pure Tryz.prog 339 [dI n, .agg [dI x.var, dI x.add]] (.bool (termB n x)) := by
  refine Tz.pK ⟨fun _ => false, fun _ => []⟩ Tryz.func339 rfl (fun Q hQ => ?_)
  try simp [go_sem]
  repeat (first | intro _ | (refine ⟨obl, ?_⟩))
  exact hQ _ _ (by simp [go_sem, termB] <;> first | omega | (rw [bei]; simp <;> omega) | (simp_all <;> omega))
def testE (n : Int) (x : Test) : Int := if x.kind ≠ 1 ∧ x.kind ≠ 2 then 1 else if (termB n x.left && termB n x.right) = true then 0 else 6
theorem difference_one (n : Int) (x : Test) : Pure Tryz.prog 325 [dI n, .agg x.c] (dI (testE n x)) := by
  refine Tz.pK ⟨fun _ => false, fun _ => []⟩ Tryz.func325 rfl (fun Q hQ => ?_)
  try simp [go_sem]
  repeat (first | intro _ | (refine ⟨obl, ?_⟩))
  refine condQ_mk (fun h1 => ?_) (fun h1 => ?_)
  · try simp [go_sem] at h1
    try simp [go_sem]
    exact hQ _ _ (.inl (by simp [go_sem, testE]; omega))
  · try simp [go_sem] at h1
    try simp [go_sem]
    repeat (first | intro _ | (refine ⟨obl, ?_⟩))
    refine cq0 (difference_term n x.left) ?_
    try simp [go_sem]
    repeat (first | intro _ | (refine ⟨obl, ?_⟩))
    refine gcq0 (fun hg => difference_term n x.right) ?_
    try simp [go_sem]
    repeat (first | intro _ | (refine ⟨obl, ?_⟩))
    refine condQ_mk (fun h3 => ?_) (fun h3 => ?_)
    ·try simp [go_sem] at h3
     try simp [go_sem]
     exact hQ _ _ (.inl (by revert h3; cases ha : termB n x.left <;> cases hb : termB n x.right <;> simp [go_sem, testE, ha, hb] <;> omega))
    ·try simp [go_sem] at h3
     try simp [go_sem]
     exact hQ _ _ (.inl (by revert h3; cases ha : termB n x.left <;> cases hb : termB n x.right <;> simp [go_sem, testE, ha, hb] <;> omega))
def testsF (n : Int) (l : List Test) : Int := if n < 0 ∨ 12 < n then 6 else if 40 < l.length then 3 else listE (testE n) l
theorem difference_Valid (n : Int) (l : List Test) : Pure Tryz.prog 304 [dI n, .list (l.map Test.c)] (dI (testsF n l)) := by
  refine Tz.pK ⟨fun t => t == 6, fun _ => []⟩ Tryz.func304 rfl (fun Q hQ => ?_)
  try simp [go_sem]
  repeat (first | intro _ | (refine ⟨obl, ?_⟩))
  refine condQ_mk (fun h1 => ?_) (fun h1 => ?_)
  · try simp [go_sem] at h1
    try simp [go_sem]
    exact hQ _ _ (.inl (by simp [go_sem, testsF]; omega))
  · try simp [go_sem] at h1
    try simp [go_sem]
    repeat (first | intro _ | (refine ⟨obl, ?_⟩))
    refine condQ_mk (fun h3 => ?_) (fun h3 => ?_)
    ·try simp [go_sem] at h3
     try simp [go_sem]
     exact hQ _ _ (.inl (by simp [go_sem, testsF]; omega))
    ·try simp [go_sem] at h3
     try simp [go_sem]
     repeat (first | intro _ | (refine ⟨obl, ?_⟩))
     obtain ⟨I0, hI0⟩ := mkI fun i e H => ((e 0 = dI n) ∧ (e 17 = .list (l.map Test.c)) ∧ (e 18 = dI l.length) ∧ (e 19 = dI i) ∧ (i ≤ l.length) ∧ (listE (testE n) (l.drop i) = testsF n l))
     refine loopK I0 (fun i => l.length - i) (0) ((hI0 _ _ _).2 ⟨?_, ?_, ?_, ?_, (by first | assumption | omega | (simp [go_sem]; done) | (simp_all; done)), (by (rw [testsF, if_neg (by omega), if_neg (by omega)]; rfl))⟩) ?_
     iterate 4 (first | omega | (simp [go_sem] <;> omega))
     intro i e H hi0
     obtain ⟨q0_0, q17_0, q18_0, q19_0, hi, hF⟩ := (hI0 _ _ _).1 hi0
     have F0 := And.intro q0_0 (And.intro q17_0 (And.intro q18_0 q19_0))
     try simp [go_sem, F0]
     refine condQ_mk (fun h6 => ?_) (fun h6 => ?_)
     ·try simp [go_sem] at h6
      have hst := hF
      rw [listE_step _ h6] at hst
      try simp [go_sem, F0, h6]
      repeat (first | intro _ | (refine ⟨obl, ?_⟩))
      refine cq0 (difference_one n l[i]) ?_
      try simp [go_sem, F0, h6]
      repeat (first | intro _ | (refine ⟨obl, ?_⟩))
      refine condQ_mk (fun h9 => ?_) (fun h9 => ?_)
      ·try simp [go_sem] at h9
       try simp [go_sem, F0, h6]
       exact hQ _ _ (.inl (by rw [if_pos (by simpa using h9)] at hst; simp [go_sem, hst]))
      ·try simp [go_sem] at h9
       try simp [go_sem, F0, h6]
       repeat (first | intro _ | (refine ⟨obl, ?_⟩))
       refine nextQ_mk (i + 1) (by omega) ((hI0 _ _ _).2 ⟨?_, ?_, ?_, ?_, (by first | assumption | omega | (simp [go_sem, F0, h6, h1, h3, h9]; done) | (simp_all <;> omega)), (by (rw [if_neg (by simp [h9])] at hst; exact hst))⟩) <;> first | omega | (simp [go_sem, F0, h6] <;> omega)
     ·try simp [go_sem] at h6
      try simp [go_sem, F0]
      exact hQ _ _ (.inl (by rw [← hF, listE_end _ (by omega)]; simp [go_sem]))
def within03 (n : Int) (x : Term) : Int := if termB n x = true then 0 else 6
theorem ref03_within (n : Int) (x : Term) : Pure Tryz.prog 296 [dI n, .agg [dI x.var, dI x.add]] (dI (within03 n x)) := by
  refine Tz.pK ⟨fun _ => false, fun _ => []⟩ Tryz.func296 rfl (fun Q hQ => ?_)
  try simp [go_sem]
  repeat (first | intro _ | (refine ⟨obl, ?_⟩))
  refine condQ_mk (fun h1 => ?_) (fun h1 => ?_)
  · try simp [go_sem] at h1
    try simp [go_sem]
    exact hQ _ _ (.inl (by simp [go_sem, within03, termB]; omega))
  · try simp [go_sem] at h1
    try simp [go_sem]
    exact hQ _ _ (.inl (by simp [go_sem, within03, termB]; omega))
theorem ref03_One (n : Int) (x : Test) : Pure Tryz.prog 265 [dI n, .agg x.c] (dI (testE n x)) := by
  refine Tz.pK ⟨fun _ => false, fun _ => []⟩ Tryz.func265 rfl (fun Q hQ => ?_)
  try simp [go_sem]
  repeat (first | intro _ | (refine ⟨obl, ?_⟩))
  refine condQ_mk (fun h1 => ?_) (fun h1 => ?_)
  · try simp [go_sem] at h1
    try simp [go_sem]
    exact hQ _ _ (.inl (by simp [go_sem, testE]; omega))
  · try simp [go_sem] at h1
    try simp [go_sem]
    refine cq0 (ref03_within n x.left) ?_
    try simp [go_sem]
    refine condQ_mk (fun h4 => ?_) (fun h4 => ?_)
    ·try simp [go_sem] at h4
     try simp [go_sem]
     exact hQ _ _ (.inl (by revert h4; cases ha : termB n x.left <;> simp [go_sem, testE, within03, ha] <;> omega))
    ·try simp [go_sem] at h4
     try simp [go_sem]
     refine cq0 (ref03_within n x.right) ?_
     try simp [go_sem]
     exact hQ _ _ (.inl (by revert h4; cases ha : termB n x.left <;> cases hb : termB n x.right <;> simp [go_sem, testE, within03, ha, hb] <;> omega))
theorem ref03_Valid (n : Int) (l : List Test) : Pure Tryz.prog 228 [dI n, .list (l.map Test.c)] (dI (testsF n l)) := by
  refine Tz.pK ⟨fun _ => false, fun _ => []⟩ Tryz.func228 rfl (fun Q hQ => ?_)
  try simp [go_sem]
  repeat (first | intro _ | (refine ⟨obl, ?_⟩))
  refine condQ_mk (fun h1 => ?_) (fun h1 => ?_)
  · try simp [go_sem] at h1
    try simp [go_sem]
    exact hQ _ _ (.inl (by simp [go_sem, testsF]; omega))
  · try simp [go_sem] at h1
    try simp [go_sem]
    repeat (first | intro _ | (refine ⟨obl, ?_⟩))
    refine condQ_mk (fun h3 => ?_) (fun h3 => ?_)
    ·try simp [go_sem] at h3
     try simp [go_sem]
     exact hQ _ _ (.inl (by simp [go_sem, testsF]; omega))
    ·try simp [go_sem] at h3
     try simp [go_sem]
     obtain ⟨I0, hI0⟩ := mkI fun i e H => ((e 0 = dI n) ∧ (e 1 = .list (l.map Test.c)) ∧ (e 5 = dI i) ∧ (i ≤ l.length) ∧ (listE (testE n) (l.drop i) = testsF n l))
     refine loopK I0 (fun i => l.length - i) (0) ((hI0 _ _ _).2 ⟨?_, ?_, ?_, (by first | assumption | omega | (simp [go_sem]; done) | (simp_all; done)), (by (rw [testsF, if_neg (by omega), if_neg (by omega)]; rfl))⟩) ?_
     iterate 3 (first | omega | (simp [go_sem] <;> omega))
     intro i e H hi0
     obtain ⟨q0_0, q1_0, q5_0, hi, hF⟩ := (hI0 _ _ _).1 hi0
     have F0 := And.intro q0_0 (And.intro q1_0 q5_0)
     try simp [go_sem, F0]
     repeat (first | intro _ | (refine ⟨obl, ?_⟩))
     refine condQ_mk (fun h6 => ?_) (fun h6 => ?_)
     ·try simp [go_sem] at h6
      have hst := hF
      rw [listE_step _ h6] at hst
      try simp [go_sem, F0, h6]
      repeat (first | intro _ | (refine ⟨obl, ?_⟩))
      refine cq0 (ref03_One n l[i]) ?_
      try simp [go_sem, F0, h6]
      repeat (first | intro _ | (refine ⟨obl, ?_⟩))
      refine condQ_mk (fun h9 => ?_) (fun h9 => ?_)
      ·try simp [go_sem] at h9
       try simp [go_sem, F0, h6]
       exact hQ _ _ (.inl (by rw [if_pos (by simpa using h9)] at hst; simp [go_sem, hst]))
      ·try simp [go_sem] at h9
       try simp [go_sem, F0, h6]
       repeat (first | intro _ | (refine ⟨obl, ?_⟩))
       refine nextQ_mk (i + 1) (by omega) ((hI0 _ _ _).2 ⟨?_, ?_, ?_, (by first | assumption | omega | (simp [go_sem, F0, h6, h1, h3, h9]; done) | (simp_all <;> omega)), (by (rw [if_neg (by simp [h9])] at hst; exact hst))⟩) <;> first | omega | (simp [go_sem, F0, h6] <;> omega)
     ·try simp [go_sem] at h6
      try simp [go_sem, F0]
      exact hQ _ _ (.inl (by rw [← hF, listE_end _ (by omega)]; simp [go_sem]))
theorem attribute_within (n low high : Int) : Pure Tryz.prog 302 [dI n, dI low, dI high] (.bool (inF n low high)) := by
  refine Tz.pK ⟨fun _ => false, fun _ => []⟩ Tryz.func302 rfl (fun Q hQ => ?_)
  try simp [go_sem]
  repeat (first | intro _ | (refine ⟨obl, ?_⟩))
  exact hQ _ _ (by simp [go_sem, inF] <;> first | omega | (rw [bei]; simp <;> omega) | (simp_all <;> omega))
def zeroAttr : Attr := ⟨⟨#[]⟩, 0, 0, []⟩
def Pattern.kind (p : Pattern) (node : Int) : Int := p.graph.nodes[node.toNat]?.getD 0
def attrB (t : Types) (p : Pattern) (node attr : Int) : Bool := decide (0 ≤ node) && decide (node < p.graph.nodes.length) && (decide (0 ≤ attr) && decide (attr < (attrsT t (p.kind node)).length))
def attrV (t : Types) (p : Pattern) (node attr : Int) : Attr := if attrB t p node attr = true then (attrsT t (p.kind node))[attr.toNat]?.getD zeroAttr else zeroAttr
theorem attrsT_len {t : Types} (ht : t.ok) (a : Int) : (attrsT t a).length ≤ 8 := by
  unfold attrsT
  split
  · rename_i h
    obtain ⟨hv, h0, h1⟩ := given2_one h
    exact hv.attrs _ (by omega)
  · simp
theorem attribute_attr (t : Types) (ht : t.ok) (p : Pattern) (hp : p.graph.nodes.length ≤ 1000) (s : Slot) : Pure Tryz.prog 303 [t.d, p.d, .agg s.c] (.tup [.agg (attrV t p s.node s.attr).c, .bool (attrB t p s.node s.attr)]) := by
  have h8 := attrsT_len ht (p.kind s.node)
  refine Tz.pK ⟨fun t => t == 6, fun _ => []⟩ Tryz.func303 rfl (fun Q hQ => ?_)
  try simp [go_sem]
  repeat (first | intro _ | (refine ⟨obl, ?_⟩))
  refine cq0 (attribute_within _ _ _) ?_
  try simp [go_sem]
  repeat (first | intro _ | (refine ⟨obl, ?_⟩))
  refine condQ_mk (fun h1 => ?_) (fun h1 => ?_)
  · try simp [go_sem] at h1
    simp [inF] at h1
    have hB : attrB t p s.node s.attr = false := by rw [Bool.eq_false_iff]; intro h; simp [attrB] at h; omega
    try simp [go_sem]
    exact hQ _ _ (by first | (left; (simp [go_sem, attrV, hB, zeroAttr]); done) | (right; (simp [go_sem, attrV, hB, zeroAttr]); done))
  · try simp [go_sem] at h1
    simp [inF] at h1
    have hn : s.node.toNat < p.graph.nodes.length := by omega
    have hk : p.kind s.node = p.graph.nodes[s.node.toNat] := by simp [Pattern.kind, hn]
    rw [hk] at h8
    try simp [go_sem, lge hn, hk]
    repeat (first | intro _ | (refine ⟨obl, ?_⟩))
    refine dcq0 (types_Attrs t ht p.graph.nodes[s.node.toNat]) ?_
    try simp [go_sem, lge hn, hk]
    repeat (first | intro _ | (refine ⟨obl, ?_⟩))
    refine cq0 (attribute_within _ _ _) ?_
    try simp [go_sem, lge hn, hk]
    repeat (first | intro _ | (refine ⟨obl, ?_⟩))
    refine condQ_mk (fun h4 => ?_) (fun h4 => ?_)
    ·try simp [go_sem] at h4
     simp [inF] at h4
     have hB : attrB t p s.node s.attr = false := by rw [Bool.eq_false_iff]; intro h; simp [attrB, hk] at h; omega
     try simp [go_sem, lge hn, hk]
     exact hQ _ _ (by first | (left; (simp [go_sem, attrV, hB, zeroAttr]); done) | (right; (simp [go_sem, attrV, hB, zeroAttr]); done))
    ·try simp [go_sem] at h4
     simp [inF] at h4
     have ha : s.attr.toNat < (attrsT t p.graph.nodes[s.node.toNat]).length := by omega
     have hB : attrB t p s.node s.attr = true := by simp [attrB, hk]; omega
     try simp [go_sem, lge hn, hk, lge ha]
     repeat (first | intro _ | (refine ⟨obl, ?_⟩))
     exact hQ _ _ (.inl (by simp [go_sem, attrV, hB, hk, lge ha]))
end Go.Abs
end
section
set_option maxRecDepth 4000
open Go Go.Proofs
namespace Go.Abs
def cB (b : Bool) : List D := [.bool b]
@[go_sem] theorem bools_cl (l : List Bool) : D.clLL (l.map cB) = true := clLL_map cB (fun _ => rfl) l
attribute [go_sem] cB
theorem index_bool (xs : List Bool) (v : Bool) : Pure Tryz.prog 73 [.list (xs.map cB), .bool v] (dI (idx xs v)) := by
  refine Tz.pK ⟨fun _ => false, fun _ => []⟩ Tryz.func73 rfl (fun Q hQ => ?_)
  try simp [go_sem]
  repeat (first | intro _ | (refine ⟨obl, ?_⟩))
  obtain ⟨I0, hI0⟩ := mkI fun i e H => ((e 0 = .list (xs.map cB)) ∧ (e 1 = .bool v) ∧ (e 7 = dI xs.length) ∧ (e 8 = dI i) ∧ (i ≤ xs.length) ∧ (∀ j, j < i → xs[j]? ≠ some v))
  refine loopK I0 (fun i => xs.length - i) (0) ((hI0 _ _ _).2 ⟨?_, ?_, ?_, ?_, (by first | assumption | omega | (simp [go_sem]; done) | (simp_all; done)), (by intro j hj; omega)⟩) ?_
  iterate 4 (first | omega | (simp [go_sem] <;> omega))
  intro i e H hi0
  obtain ⟨q0_0, q1_0, q7_0, q8_0, hi, hne⟩ := (hI0 _ _ _).1 hi0
  have F0 := And.intro q0_0 (And.intro q1_0 (And.intro q7_0 q8_0))
  try simp [go_sem, F0]
  refine condQ_mk (fun h2 => ?_) (fun h2 => ?_)
  · try simp [go_sem] at h2
    try simp [go_sem, F0, h2]
    repeat (first | intro _ | (refine ⟨obl, ?_⟩))
    refine condQ_mk (fun h4 => ?_) (fun h4 => ?_)
    ·try simp [go_sem] at h4
     try simp [go_sem, F0, h2]
     exact hQ _ _ (.inl (by rw [idx_some hne (by rw [lge h2, h4])]; simp [go_sem]))
    ·try simp [go_sem] at h4
     try simp [go_sem, F0, h2]
     repeat (first | intro _ | (refine ⟨obl, ?_⟩))
     refine nextQ_mk (i + 1) (by omega) ((hI0 _ _ _).2 ⟨?_, ?_, ?_, ?_, (by first | assumption | omega | (simp [go_sem, F0, h2, h4]; done) | (simp_all <;> omega)), (by (exact all_lt_succ hne (by rw [lge h2]; simpa using fun h => h4 h.symm)))⟩) <;> first | omega | (simp [go_sem, F0, h2] <;> omega)
  · try simp [go_sem] at h2
    try simp [go_sem, F0]
    exact hQ _ _ (.inl (by rw [idx_none fun j hj => hne j (by omega)]; simp [go_sem]))
theorem contains_bool (xs : List Bool) (v : Bool) : Pure Tryz.prog 42 [.list (xs.map cB), .bool v] (.bool (mem xs v)) := by
  refine Tz.pK ⟨fun _ => false, fun _ => []⟩ Tryz.func42 rfl (fun Q hQ => ?_)
  try simp [go_sem]
  refine cq0 (index_bool xs v) ?_
  try simp [go_sem]
  exact hQ _ _ (by simp [go_sem, mem] <;> first | omega | (rw [bei]; simp <;> omega) | (simp_all <;> omega))
def typedB (t : Types) (g : Graph) : Bool := (!(g.nodes.any fun n => decide ((t.nodes.length : Int) ≤ n))) && !(g.edges.any fun x => decide ((t.edges.length : Int) ≤ x.type))
theorem attribute_Valid1 (t : Types) (a : Int) : Pure Tryz.prog 300 [dI a, .adr t.c] (.bool (decide ((t.nodes.length : Int) ≤ a))) := by
  refine Tz.pK ⟨fun _ => false, fun _ => []⟩ Tryz.func300 rfl (fun Q hQ => ?_)
  try simp [go_sem]
  repeat (first | intro _ | (refine ⟨obl, ?_⟩))
  exact hQ _ _ (by simp [go_sem] <;> first | omega | (rw [bei]; simp <;> omega) | (simp_all <;> omega))
theorem attribute_Valid2 (t : Types) (x : Edge) : Pure Tryz.prog 301 [.agg x.c, .adr t.c] (.bool (decide ((t.edges.length : Int) ≤ x.type))) := by
  refine Tz.pK ⟨fun _ => false, fun _ => []⟩ Tryz.func301 rfl (fun Q hQ => ?_)
  try simp [go_sem]
  repeat (first | intro _ | (refine ⟨obl, ?_⟩))
  exact hQ _ _ (by simp [go_sem] <;> first | omega | (rw [bei]; simp <;> omega) | (simp_all <;> omega))
def usedL (n : Nat) (l : List Slot) : List Bool := (List.range n).map fun (v : Nat) => l.any fun s => decide (s.term.var = v)
theorem usedL_len (n : Nat) (l : List Slot) : (usedL n l).length = n := by simp [usedL]
theorem usedL_nil (n : Nat) : usedL n [] = List.replicate n false := by
  apply List.ext_getElem (by simp [usedL]); intro i h1 h2; simp [usedL]
theorem usedL_set (n : Nat) (l : List Slot) (s : Slot) (h0 : 0 ≤ s.term.var) (h1 : s.term.var < n) : usedL n (l ++ [s]) = (usedL n l).set s.term.var.toNat true := by
  apply List.ext_getElem (by simp [usedL]); intro i h2 h3
  rw [List.getElem_set]
  simp only [usedL, List.getElem_map, List.getElem_range, List.any_append, List.any_cons, List.any_nil, Bool.or_false]
  split
  · rename_i h; rw [Bool.or_eq_true]; right; simp; omega
  · rename_i h; rw [show decide (s.term.var = (i : Int)) = false by simp; omega, Bool.or_false]
theorem usedL_neg (n : Nat) (l : List Slot) (s : Slot) (h0 : ¬ 0 ≤ s.term.var) : usedL n (l ++ [s]) = usedL n l := by
  apply List.ext_getElem (by simp [usedL]); intro i h2 h3
  simp only [usedL, List.getElem_map, List.getElem_range, List.any_append, List.any_cons, List.any_nil, Bool.or_false]
  rw [show decide (s.term.var = (i : Int)) = false by simp; omega, Bool.or_false]
theorem usedL_step (n : Nat) (l : List Slot) (s : Slot) (h1 : s.term.var < n) : usedL n (l ++ [s]) = if 0 ≤ s.term.var then (usedL n l).set s.term.var.toNat true else usedL n l := by
  split
  · exact usedL_set n l s ‹_› h1
  · exact usedL_neg n l s ‹_›
def slotE (t : Types) (p : Pattern) (s : Slot) : Int := if (attrB t p s.node s.attr && inF s.term.var (-1) (p.vars - 1) && inF s.term.add (-1000000) 1000000) = true then 0 else 6
def patternF (t : Types) (p : Pattern) : Int :=
  if (validF t).2 ≠ 0 then (validF t).2
  else if graphF p.graph ≠ 0 then graphF p.graph
  else if typedB t p.graph = false then 13
  else if inF p.vars 0 12 = false then 6
  else if 10 < p.slots.length ∨ 10 < p.tests.length then 3
  else if listE (slotE t p) p.slots ≠ 0 then 6
  else if testsF p.vars p.tests ≠ 0 then testsF p.vars p.tests
  else if mem (usedL p.vars.toNat p.slots) false = true then 9 else 0
theorem graphF_le {g : Graph} (h : graphF g = 0) : g.nodes.length ≤ 40 ∧ g.edges.length ≤ 80 := by
  unfold graphF at h
  split at h
  · cases h
  · omega
theorem slotE_lt {t : Types} {p : Pattern} {s : Slot} (h : slotE t p s = 0) : s.term.var < p.vars ∧ -1 ≤ s.term.var := by
  unfold slotE at h
  split at h
  · rename_i h1; simp [inF] at h1; omega
  · cases h
theorem attribute_Valid (t : Types) (ht : t.ok) (p : Pattern) : Pure Tryz.prog 273 [t.d, p.d] (dI (patternF t p)) := by
  refine Tz.pK ⟨fun t => t == 10 || t == 11, fun _ => []⟩ Tryz.func273 rfl (fun Q hQ => ?_)
  try simp [go_sem]
  refine cq0 (types_Valid t ht) ?_
  try simp [go_sem]
  refine condQ_mk (fun h2 => ?_) (fun h2 => ?_)
  · try simp [go_sem] at h2
    try simp [go_sem]
    exact hQ _ _ (.inl (by simp [go_sem, patternF, h2]))
  · try simp [go_sem] at h2
    try simp [go_sem]
    refine cq0 (graph_Valid p.graph) ?_
    try simp [go_sem]
    refine condQ_mk (fun h5 => ?_) (fun h5 => ?_)
    ·try simp [go_sem] at h5
     try simp [go_sem]
     exact hQ _ _ (.inl (by simp [go_sem, patternF, h2, h5]))
    ·try simp [go_sem] at h5
     have hg := graphF_le h5
     try simp [go_sem]
     repeat (first | intro _ | (refine ⟨obl, ?_⟩))
     refine cq0 (containsFunc_int p.graph.nodes 300 [.adr t.c] (fun a => decide ((t.nodes.length : Int) ≤ a)) (by simp [go_sem]) (by simp [go_sem]) (fun a _ => attribute_Valid1 t a)) ?_
     try simp [go_sem]
     repeat (first | intro _ | (refine ⟨obl, ?_⟩))
     refine gcq0 (fun hg => containsFunc_gedge p.graph.edges 301 [.adr t.c] (fun x => decide ((t.edges.length : Int) ≤ x.type)) (by simp [go_sem]) (by simp [go_sem]) (fun x _ => attribute_Valid2 t x)) ?_
     try simp [go_sem]
     repeat (first | intro _ | (refine ⟨obl, ?_⟩))
     refine condQ_mk (fun h7 => ?_) (fun h7 => ?_)
     ·try simp [go_sem] at h7
      have hT : typedB t p.graph = false := by
       simp [typedB]
       intro h'
       rcases h7 with ⟨x, hx, hl⟩ | h
       ·exact absurd (h' x hx) (by omega)
       ·exact h
      try simp [go_sem]
      exact hQ _ _ (.inl (by simp [go_sem, patternF, h2, h5, hT]))
     ·try simp [go_sem] at h7
      have hT : typedB t p.graph = true := by simp [typedB]; exact h7
      try simp [go_sem]
      repeat (first | intro _ | (refine ⟨obl, ?_⟩))
      refine cq0 (attribute_within _ _ _) ?_
      try simp [go_sem]
      repeat (first | intro _ | (refine ⟨obl, ?_⟩))
      refine condQ_mk (fun h9 => ?_) (fun h9 => ?_)
      ·try simp [go_sem] at h9
       try simp [go_sem]
       exact hQ _ _ (.inl (by simp [go_sem, patternF, h2, h5, hT, h9]))
      ·try simp [go_sem] at h9
       try simp [go_sem]
       repeat (first | intro _ | (refine ⟨obl, ?_⟩))
       refine condQ_mk (fun h11 => ?_) (fun h11 => ?_)
       ·try simp [go_sem] at h11
        try simp [go_sem]
        exact hQ _ _ (.inl (by simp [go_sem, patternF, h2, h5, hT, h9]; omega))
       ·try simp [go_sem] at h11
        have hin := h9
        simp [inF] at hin
        have hF0 : patternF t p = if listE (slotE t p) p.slots ≠ 0 then 6 else if testsF p.vars p.tests ≠ 0 then testsF p.vars p.tests else if mem (usedL p.vars.toNat p.slots) false = true then 9 else 0 := by
         unfold patternF
         rw [if_neg (by simp [h2]), if_neg (by simp [h5]), if_neg (by simp [hT]), if_neg (by simp [h9]), if_neg (by omega)]
        try simp [go_sem]
        repeat (first | intro _ | (refine ⟨obl, ?_⟩))
        obtain ⟨I0, hI0⟩ := mkI fun i e H => ((e 2 = .adr t.c) ∧ (e 3 = .adr p.c) ∧ (e 8 = .own 0 p.vars.toNat) ∧ (e 58 = .list (p.slots.map Slot.c)) ∧ (e 59 = dI p.slots.length) ∧ (e 60 = dI i) ∧ (H.get 0 = some ⟨4, 1, (usedL p.vars.toNat (p.slots.take i)).map cB, false⟩) ∧ (0 < H.next) ∧ (i ≤ p.slots.length) ∧ (listE (slotE t p) (p.slots.drop i) = listE (slotE t p) p.slots))
        refine loopK I0 (fun i => p.slots.length - i) (0) ((hI0 _ _ _).2 ⟨?_, ?_, ?_, ?_, ?_, ?_, (by (simp [go_sem, usedL_nil])), ?_, (by first | assumption | omega | (simp [go_sem]; done) | (simp_all; done)), (by rfl)⟩) ?_
        iterate 7 (first | omega | (simp [go_sem] <;> omega))
        intro i e H hi0
        obtain ⟨q2_0, q3_0, q8_0, q58_0, q59_0, q60_0, g0_0, n0_0, hi, hL⟩ := (hI0 _ _ _).1 hi0
        have x0 := frs n0_0
        have F0 := And.intro q2_0 (And.intro q3_0 (And.intro q8_0 (And.intro q58_0 (And.intro q59_0 (And.intro q60_0 x0)))))
        try simp [go_sem, F0, g0_0, usedL_len]
        refine condQ_mk (fun h15 => ?_) (fun h15 => ?_)
        ·try simp [go_sem] at h15
         have hst := listE_step (slotE t p) h15
         have hts := List.take_succ_eq_append_getElem h15
         try simp [go_sem, F0, g0_0, usedL_len, h15]
         repeat (first | intro _ | (refine ⟨obl, ?_⟩))
         refine cq0 (attribute_attr t ht p (by omega) p.slots[i]) ?_
         try simp [go_sem, F0, g0_0, usedL_len, h15]
         repeat (first | intro _ | (refine ⟨obl, ?_⟩))
         refine gcq0 (fun hg => attribute_within _ _ _) ?_
         try simp [go_sem, F0, g0_0, usedL_len, h15]
         repeat (first | intro _ | (refine ⟨obl, ?_⟩))
         refine gcq0 (fun hg => attribute_within _ _ _) ?_
         try simp [go_sem, F0, g0_0, usedL_len, h15]
         repeat (first | intro _ | (refine ⟨obl, ?_⟩))
         refine condQ_mk (fun h18 => ?_) (fun h18 => ?_)
         ·skip
          have hs6 : slotE t p p.slots[i] = 6 := by unfold slotE; rw [if_neg]; revert h18; cases attrB t p p.slots[i].node p.slots[i].attr <;> cases inF p.slots[i].term.var (-1) (p.vars - 1) <;> cases inF p.slots[i].term.add (-1000000) 1000000 <;> simp
          rw [hs6, if_pos (by simp), hL] at hst
          try simp [go_sem, F0, g0_0, usedL_len, h15]
          exact hQ _ _ (.inl (by simp [go_sem, hF0, hst]))
         ·skip
          have hs0 : slotE t p p.slots[i] = 0 := by unfold slotE; rw [if_pos]; revert h18; cases attrB t p p.slots[i].node p.slots[i].attr <;> cases inF p.slots[i].term.var (-1) (p.vars - 1) <;> cases inF p.slots[i].term.add (-1000000) 1000000 <;> simp
          rw [hs0, if_neg (by simp), hL] at hst
          have hlt := slotE_lt hs0
          have hus := usedL_step p.vars.toNat (p.slots.take i) p.slots[i] (by omega)
          try simp [go_sem, F0, g0_0, usedL_len, h15]
          refine condQ_mk (fun h20 => ?_) (fun h20 => ?_)
          ·try simp [go_sem] at h20
           have hfin : usedL p.vars.toNat (p.slots.take (i + 1)) = (usedL p.vars.toNat (p.slots.take i)).set p.slots[i].term.var.toNat true := by rw [hts, hus, if_pos (by omega)]
           have hvl : p.slots[i].term.var.toNat < (usedL p.vars.toNat (p.slots.take i)).length := by rw [usedL_len]; omega
           try simp [go_sem, F0, g0_0, usedL_len, h15, lge hvl]
           repeat (first | intro _ | (refine ⟨obl, ?_⟩))
           refine nextQ_mk (i + 1) (by omega) ((hI0 _ _ _).2 ⟨?_, ?_, ?_, ?_, ?_, ?_, (by (simp [go_sem, F0, g0_0, usedL_len, h15, lge hvl, List.map_set, hfin])), ?_, (by first | assumption | omega | (simp [go_sem, F0, g0_0, usedL_len, h15, lge hvl, h2, h5, h7, h9, h11, h18, h20]; done) | (simp_all <;> omega)), (by (exact hst.symm))⟩) <;> first | omega | (simp [go_sem, F0, g0_0, usedL_len, h15, lge hvl] <;> omega)
          ·try simp [go_sem] at h20
           have hfin : usedL p.vars.toNat (p.slots.take (i + 1)) = usedL p.vars.toNat (p.slots.take i) := by rw [hts, hus, if_neg (by omega)]
           try simp [go_sem, F0, g0_0, usedL_len, h15]
           repeat (first | intro _ | (refine ⟨obl, ?_⟩))
           refine nextQ_mk (i + 1) (by omega) ((hI0 _ _ _).2 ⟨?_, ?_, ?_, ?_, ?_, ?_, (by (simp [go_sem, F0, g0_0, usedL_len, h15, List.map_set, hfin])), ?_, (by first | assumption | omega | (simp [go_sem, F0, g0_0, usedL_len, h15, h2, h5, h7, h9, h11, h18, h20]; done) | (simp_all <;> omega)), (by (exact hst.symm))⟩) <;> first | omega | (simp [go_sem, F0, g0_0, usedL_len, h15] <;> omega)
        ·try simp [go_sem] at h15
         have hU : List.take i p.slots = p.slots := List.take_of_length_le (by omega)
         have hz : listE (slotE t p) p.slots = 0 := by rw [← hL, listE_end _ (by omega)]
         rw [hU] at g0_0
         rw [if_neg (by simp [hz])] at hF0
         try simp [go_sem, F0, g0_0, usedL_len]
         refine cq0 (difference_Valid p.vars p.tests) ?_
         try simp [go_sem, F0, g0_0, usedL_len]
         refine condQ_mk (fun h24 => ?_) (fun h24 => ?_)
         ·try simp [go_sem] at h24
          try simp [go_sem, F0, g0_0, usedL_len]
          exact hQ _ _ (.inl (by rw [hF0, if_pos (by simpa using h24)]; simp [go_sem]))
         ·try simp [go_sem] at h24
          try simp [go_sem, F0, g0_0, usedL_len]
          refine callQ_pureF (contains_bool (usedL p.vars.toNat p.slots) false) (by simp [rsvC, rsvP, cellsAt, go_sem, ← List.map_take, ← List.map_drop, F0, g0_0, usedL_len]) ((by first | rfl | (simp [go_sem, ← List.map_take, ← List.map_drop, F0, g0_0, usedL_len]; done))) ( rfl) ?_
          try simp [go_sem, F0, g0_0, usedL_len]
          refine condQ_mk (fun h26 => ?_) (fun h26 => ?_)
          ·try simp [go_sem] at h26
           try simp [go_sem, F0, g0_0, usedL_len]
           exact hQ _ _ (.inl (by rw [hF0, if_neg (by simpa using h24), if_pos h26]; simp [go_sem]))
          ·try simp [go_sem] at h26
           try simp [go_sem, F0, g0_0, usedL_len]
           exact hQ _ _ (.inl (by rw [hF0, if_neg (by simpa using h24), if_neg (by simp [h26])]; simp [go_sem]))
end Go.Abs
end
section
set_option maxRecDepth 4000
open Go Go.Proofs
namespace Go.Abs
def edgeTypeB (t : Types) (x : Edge) : Bool := decide (0 ≤ x.type) && decide (x.type < t.edges.length)
def typed17 (t : Types) (g : Graph) : Bool := (!(g.nodes.any fun a => !insideF t a)) && !(g.edges.any fun x => !edgeTypeB t x)
theorem any_end {α : Type} {l : List α} {p : α → Bool} {i : Nat} (h : (l.take i).any p = false) (he : l.length ≤ i) : l.any p = false := by
  rw [List.take_of_length_le he] at h; exact h
theorem ref17_Typed (t : Types) (g : Graph) : Pure Tryz.prog 225 [t.d, g.d] (.bool (typed17 t g)) := by
  refine Tz.pK ⟨fun _ => false, fun _ => []⟩ Tryz.func225 rfl (fun Q hQ => ?_)
  try simp [go_sem]
  obtain ⟨I0, hI0⟩ := mkI fun i e H => ((e 2 = .adr t.c) ∧ (e 3 = .adr g.c) ∧ (e 5 = dI i) ∧ (i ≤ g.nodes.length) ∧ (((g.nodes.take i).any fun a => !insideF t a) = false))
  refine loopK I0 (fun i => g.nodes.length - i) (0) ((hI0 _ _ _).2 ⟨?_, ?_, ?_, (by first | assumption | omega | (simp [go_sem]; done) | (simp_all; done)), (by rfl)⟩) ?_
  iterate 3 (first | omega | (simp [go_sem] <;> omega))
  intro i e H hi0
  obtain ⟨q2_0, q3_0, q5_0, hi, ha⟩ := (hI0 _ _ _).1 hi0
  have F0 := And.intro q2_0 (And.intro q3_0 q5_0)
  try simp [go_sem, F0]
  repeat (first | intro _ | (refine ⟨obl, ?_⟩))
  refine condQ_mk (fun h2 => ?_) (fun h2 => ?_)
  · try simp [go_sem] at h2
    try simp [go_sem, F0, h2]
    repeat (first | intro _ | (refine ⟨obl, ?_⟩))
    refine condQ_mk (fun h4 => ?_) (fun h4 => ?_)
    ·try simp [go_sem] at h4
     try simp [go_sem, F0, h2]
     have hb : (g.nodes.any fun a => !insideF t a) = true := List.any_eq_true.2 ⟨_, lgm h2, by simp [insideF]; omega⟩
     exact hQ _ _ (.inl (by simp only [go_sem, typed17, hb, Bool.not_true, Bool.false_and]))
    ·try simp [go_sem] at h4
     try simp [go_sem, F0, h2]
     repeat (first | intro _ | (refine ⟨obl, ?_⟩))
     refine nextQ_mk (i + 1) (by omega) ((hI0 _ _ _).2 ⟨?_, ?_, ?_, (by first | assumption | omega | (simp [go_sem, F0, h2, h4]; done) | (simp_all <;> omega)), (by (rw [any_take_succ _ _ _ h2, ha]; simp [insideF]; omega))⟩) <;> first | omega | (simp [go_sem, F0, h2] <;> omega)
  · try simp [go_sem] at h2
    have hN := any_end ha h2
    try simp [go_sem, F0]
    obtain ⟨I2, hI2⟩ := mkI fun k e H => ((e 2 = .adr t.c) ∧ (e 3 = .adr g.c) ∧ (e 6 = dI k) ∧ (k ≤ g.edges.length) ∧ (((g.edges.take k).any fun x => !edgeTypeB t x) = false))
    refine loopK I2 (fun k => g.edges.length - k) (0) ((hI2 _ _ _).2 ⟨?_, ?_, ?_, (by first | assumption | omega | (simp [go_sem, F0]; done) | (simp_all; done)), (by rfl)⟩) ?_
    iterate 3 (first | omega | (simp [go_sem, F0] <;> omega))
    intro k e H hi2
    obtain ⟨q2_2, q3_2, q6_2, hk, hb⟩ := (hI2 _ _ _).1 hi2
    have F2 := And.intro q2_2 (And.intro q3_2 q6_2)
    try simp [go_sem, F2]
    repeat (first | intro _ | (refine ⟨obl, ?_⟩))
    refine condQ_mk (fun h7 => ?_) (fun h7 => ?_)
    ·try simp [go_sem] at h7
     try simp [go_sem, F2, h7]
     repeat (first | intro _ | (refine ⟨obl, ?_⟩))
     refine condQ_mk (fun h9 => ?_) (fun h9 => ?_)
     ·try simp [go_sem] at h9
      try simp [go_sem, F2, h7]
      have hb' : (g.edges.any fun x => !edgeTypeB t x) = true := List.any_eq_true.2 ⟨_, lgm h7, by simp [edgeTypeB]; omega⟩
      exact hQ _ _ (.inl (by simp only [go_sem, typed17, hb', Bool.not_true, Bool.and_false]))
     ·try simp [go_sem] at h9
      try simp [go_sem, F2, h7]
      repeat (first | intro _ | (refine ⟨obl, ?_⟩))
      refine nextQ_mk (k + 1) (by omega) ((hI2 _ _ _).2 ⟨?_, ?_, ?_, (by first | assumption | omega | (simp [go_sem, F2, h7, h2, h9]; done) | (simp_all <;> omega)), (by (rw [any_take_succ _ _ _ h7, hb]; simp [edgeTypeB]; omega))⟩) <;> first | omega | (simp [go_sem, F2, h7] <;> omega)
    ·try simp [go_sem] at h7
     try simp [go_sem, F2]
     have hE := any_end hb h7
     exact hQ _ _ (.inl (by simp only [go_sem, typed17, hN, hE, Bool.not_false, Bool.and_true]))
theorem any_eq_of {α : Type} {l : List α} {p q : α → Bool} (h : ∀ x ∈ l, p x = q x) : l.any p = l.any q := by
  induction l with
  | nil => rfl
  | cons a l ih => simp only [List.any_cons, h a (by simp), ih fun x hx => h x (by simp [hx])]
theorem graphF_in {g : Graph} (h : graphF g = 0) : (∀ a ∈ g.nodes, 0 ≤ a ∧ a ≤ 99) ∧ ∀ x ∈ g.edges, (0 ≤ x.type ∧ x.type ≤ 99) ∧ (0 ≤ x.from_ ∧ x.from_ < g.nodes.length) ∧ (0 ≤ x.to_ ∧ x.to_ < g.nodes.length) := by
  unfold graphF at h
  split at h
  · cases h
  · split at h
    ·cases h
    ·rename_i h1
     split at h
     ·cases h
     ·rename_i h2
      simp [withinF, fitsF] at h1 h2
      refine ⟨h1, fun x hx => ?_⟩
      have := h2 x hx
      omega
theorem typed17_eq {t : Types} {g : Graph} (h : graphF g = 0) : typed17 t g = typedB t g := by
  obtain ⟨h1, h2⟩ := graphF_in h
  unfold typed17 typedB
  congr 2
  · exact any_eq_of fun x hx => by have := h1 x hx; rw [bei]; simp [insideF]; omega
  · exact any_eq_of fun x hx => by have := h2 x hx; rw [bei]; simp [edgeTypeB]; omega
theorem ref21_bounded (n : Int) : Pure Tryz.prog 227 [dI n] (.bool (inF n (-1000000) 1000000)) := by
  refine Tz.pK ⟨fun _ => false, fun _ => []⟩ Tryz.func227 rfl (fun Q hQ => ?_)
  try simp [go_sem]
  repeat (first | intro _ | (refine ⟨obl, ?_⟩))
  exact hQ _ _ (by simp [go_sem, inF] <;> first | omega | (rw [bei]; simp <;> omega) | (simp_all <;> omega))
theorem attrsT_bad {t : Types} {a : Int} (h : ¬ given2F t a a = 0) : attrsT t a = [] := by unfold attrsT; rw [if_neg h]
theorem ref21_attr (t : Types) (ht : t.ok) (p : Pattern) (node attr : Int) : Pure Tryz.prog 226 [t.d, p.d, dI node, dI attr] (.tup [.agg (attrV t p node attr).c, .bool (attrB t p node attr)]) := by
  have h8 := attrsT_len ht (p.kind node)
  refine Tz.pK ⟨fun t => t == 8, fun _ => []⟩ Tryz.func226 rfl (fun Q hQ => ?_)
  try simp [go_sem]
  repeat (first | intro _ | (refine ⟨obl, ?_⟩))
  refine condQ_mk (fun h1 => ?_) (fun h1 => ?_)
  · try simp [go_sem] at h1
    have hB : attrB t p node attr = false := by rw [Bool.eq_false_iff]; intro h; simp [attrB] at h; omega
    try simp [go_sem]
    exact hQ _ _ (by first | (left; (simp [go_sem, attrV, hB, zeroAttr]); done) | (right; (simp [go_sem, attrV, hB, zeroAttr]); done))
  · try simp [go_sem] at h1
    have hn : node.toNat < p.graph.nodes.length := by omega
    have hk : p.kind node = p.graph.nodes[node.toNat] := by simp [Pattern.kind, hn]
    rw [hk] at h8
    try simp [go_sem, lge hn, hk]
    repeat (first | intro _ | (refine ⟨obl, ?_⟩))
    refine dcq0 (ref04_Attrs t ht p.graph.nodes[node.toNat]) ?_
    try simp [go_sem, lge hn, hk]
    repeat (first | intro _ | (refine ⟨obl, ?_⟩))
    refine condQ_mk (fun h4 => ?_) (fun h4 => ?_)
    ·try simp [go_sem] at h4
     have hB : attrB t p node attr = false := by
      rw [Bool.eq_false_iff]; intro h; simp [attrB, hk] at h
      by_cases hg : given2F t p.graph.nodes[node.toNat] p.graph.nodes[node.toNat] = 0
      ·omega
      ·rw [attrsT_bad hg] at h; simp at h; omega
     try simp [go_sem, lge hn, hk]
     exact hQ _ _ (by first | (left; (simp [go_sem, attrV, hB, zeroAttr]); done) | (right; (simp [go_sem, attrV, hB, zeroAttr]); done))
    ·try simp [go_sem] at h4
     have ha : attr.toNat < (attrsT t p.graph.nodes[node.toNat]).length := by omega
     have hB : attrB t p node attr = true := by simp [attrB, hk]; omega
     try simp [go_sem, lge hn, hk, lge ha]
     repeat (first | intro _ | (refine ⟨obl, ?_⟩))
     exact hQ _ _ (.inl (by simp [go_sem, attrV, hB, hk, lge ha]))
def occursB (p : Pattern) (v : Int) : Bool := p.slots.any fun s => decide (s.term.var = v)
theorem ref21_occurs (p : Pattern) (v : Int) : Pure Tryz.prog 229 [p.d, dI v] (.bool (occursB p v)) := by
  refine Tz.pK ⟨fun _ => false, fun _ => []⟩ Tryz.func229 rfl (fun Q hQ => ?_)
  try simp [go_sem]
  obtain ⟨I0, hI0⟩ := mkI fun i e H => ((e 2 = .adr p.c) ∧ (e 1 = dI v) ∧ (e 5 = dI i) ∧ (i ≤ p.slots.length) ∧ (((p.slots.take i).any fun s => decide (s.term.var = v)) = false))
  refine loopK I0 (fun i => p.slots.length - i) (0) ((hI0 _ _ _).2 ⟨?_, ?_, ?_, (by first | assumption | omega | (simp [go_sem]; done) | (simp_all; done)), (by rfl)⟩) ?_
  iterate 3 (first | omega | (simp [go_sem] <;> omega))
  intro i e H hi0
  obtain ⟨q2_0, q1_0, q5_0, hi, ha⟩ := (hI0 _ _ _).1 hi0
  have F0 := And.intro q2_0 (And.intro q1_0 q5_0)
  try simp [go_sem, F0]
  repeat (first | intro _ | (refine ⟨obl, ?_⟩))
  refine condQ_mk (fun h2 => ?_) (fun h2 => ?_)
  · try simp [go_sem] at h2
    try simp [go_sem, F0, h2]
    repeat (first | intro _ | (refine ⟨obl, ?_⟩))
    refine condQ_mk (fun h4 => ?_) (fun h4 => ?_)
    ·try simp [go_sem] at h4
     try simp [go_sem, F0, h2]
     have hb : occursB p v = true := List.any_eq_true.2 ⟨_, lgm h2, by simpa using h4⟩
     exact hQ _ _ (.inl (by simp only [go_sem, hb]))
    ·try simp [go_sem] at h4
     try simp [go_sem, F0, h2]
     repeat (first | intro _ | (refine ⟨obl, ?_⟩))
     refine nextQ_mk (i + 1) (by omega) ((hI0 _ _ _).2 ⟨?_, ?_, ?_, (by first | assumption | omega | (simp [go_sem, F0, h2, h4]; done) | (simp_all <;> omega)), (by (rw [any_take_succ _ _ _ h2, ha]; simpa using h4))⟩) <;> first | omega | (simp [go_sem, F0, h2] <;> omega)
  · try simp [go_sem] at h2
    try simp [go_sem, F0]
    have hb : occursB p v = false := any_end ha h2
    exact hQ _ _ (.inl (by simp only [go_sem, hb]))
theorem usedL_mem (p : Pattern) (n : Nat) : mem (usedL n p.slots) false = true ↔ ∃ v : Nat, v < n ∧ occursB p v = false := by
  rw [mem_iff]
  simp only [usedL, List.mem_map, List.mem_range, occursB]
theorem ref21_Valid (t : Types) (ht : t.ok) (p : Pattern) : Pure Tryz.prog 172 [t.d, p.d] (dI (patternF t p)) := by
  refine Tz.pK ⟨fun t => t == 9 || t == 10, fun _ => []⟩ Tryz.func172 rfl (fun Q hQ => ?_)
  try simp [go_sem]
  refine cq0 (ref04_Valid t ht) ?_
  try simp [go_sem]
  refine condQ_mk (fun h2 => ?_) (fun h2 => ?_)
  · try simp [go_sem] at h2
    try simp [go_sem]
    exact hQ _ _ (.inl (by simp [go_sem, patternF, h2]))
  · try simp [go_sem] at h2
    try simp [go_sem]
    refine cq0 (ref05_Valid p.graph) ?_
    try simp [go_sem]
    refine condQ_mk (fun h5 => ?_) (fun h5 => ?_)
    ·try simp [go_sem] at h5
     try simp [go_sem]
     exact hQ _ _ (.inl (by simp [go_sem, patternF, h2, h5]))
    ·try simp [go_sem] at h5
     try simp [go_sem]
     repeat (first | intro _ | (refine ⟨obl, ?_⟩))
     refine cq0 (ref17_Typed t p.graph) ?_
     try simp [go_sem]
     repeat (first | intro _ | (refine ⟨obl, ?_⟩))
     refine condQ_mk (fun h7 => ?_) (fun h7 => ?_)
     ·try simp [go_sem] at h7
      rw [typed17_eq h5] at h7
      try simp [go_sem]
      exact hQ _ _ (.inl (by simp [go_sem, patternF, h2, h5, h7]))
     ·try simp [go_sem] at h7
      rw [typed17_eq h5] at h7
      try simp [go_sem]
      repeat (first | intro _ | (refine ⟨obl, ?_⟩))
      refine condQ_mk (fun h9 => ?_) (fun h9 => ?_)
      ·try simp [go_sem] at h9
       try simp [go_sem]
       exact hQ _ _ (.inl (by simp [go_sem, patternF, h2, h5, h7, inF]; omega))
      ·try simp [go_sem] at h9
       try simp [go_sem]
       repeat (first | intro _ | (refine ⟨obl, ?_⟩))
       refine condQ_mk (fun h11 => ?_) (fun h11 => ?_)
       ·try simp [go_sem] at h11
        try simp [go_sem]
        exact hQ _ _ (.inl (by simp [go_sem, patternF, h2, h5, h7, inF]; omega))
       ·try simp [go_sem] at h11
        have hF0 : patternF t p = if listE (slotE t p) p.slots ≠ 0 then 6 else if testsF p.vars p.tests ≠ 0 then testsF p.vars p.tests else if mem (usedL p.vars.toNat p.slots) false = true then 9 else 0 := by
         unfold patternF
         rw [if_neg (by simp [h2]), if_neg (by simp [h5]), if_neg (by simp [h7]), if_neg (by simp [inF]; omega), if_neg (by omega)]
        try simp [go_sem]
        obtain ⟨I0, hI0⟩ := mkI fun i e H => ((e 2 = .adr t.c) ∧ (e 3 = .adr p.c) ∧ (e 8 = dI i) ∧ (i ≤ p.slots.length) ∧ (listE (slotE t p) (p.slots.drop i) = listE (slotE t p) p.slots))
        refine loopK I0 (fun i => p.slots.length - i) (0) ((hI0 _ _ _).2 ⟨?_, ?_, ?_, (by first | assumption | omega | (simp [go_sem]; done) | (simp_all; done)), (by rfl)⟩) ?_
        iterate 3 (first | omega | (simp [go_sem] <;> omega))
        intro i e H hi0
        obtain ⟨q2_0, q3_0, q8_0, hi, hL⟩ := (hI0 _ _ _).1 hi0
        have F0 := And.intro q2_0 (And.intro q3_0 q8_0)
        try simp [go_sem, F0]
        repeat (first | intro _ | (refine ⟨obl, ?_⟩))
        refine condQ_mk (fun h14 => ?_) (fun h14 => ?_)
        ·try simp [go_sem] at h14
         have hst := listE_step (slotE t p) h14
         try simp [go_sem, F0, h14]
         repeat (first | intro _ | (refine ⟨obl, ?_⟩))
         refine cq0 (ref21_attr t ht p p.slots[i].node p.slots[i].attr) ?_
         try simp [go_sem, F0, h14]
         repeat (first | intro _ | (refine ⟨obl, ?_⟩))
         refine gcq0 (fun hg => ref21_bounded _) ?_
         try simp [go_sem, F0, h14]
         repeat (first | intro _ | (refine ⟨obl, ?_⟩))
         refine condQ_mk (fun h18 => ?_) (fun h18 => ?_)
         ·skip
          have hs6 : slotE t p p.slots[i] = 6 := by
           unfold slotE; rw [if_neg]; intro h; simp [inF] at h; simp [h.1.1, inF] at h18; omega
          rw [hs6, if_pos (by simp), hL] at hst
          try simp [go_sem, F0, h14]
          exact hQ _ _ (.inl (by simp [go_sem, hF0, hst]))
         ·skip
          have hs0 : slotE t p p.slots[i] = 0 := by
           unfold slotE; rw [if_pos]; simp [inF] at h18 ⊢; refine ⟨⟨h18.1.1.1, ?_⟩, ?_⟩ <;> omega
          rw [hs0, if_neg (by simp), hL] at hst
          try simp [go_sem, F0, h14]
          repeat (first | intro _ | (refine ⟨obl, ?_⟩))
          refine nextQ_mk (i + 1) (by omega) ((hI0 _ _ _).2 ⟨?_, ?_, ?_, (by first | assumption | omega | (simp [go_sem, F0, h14, h2, h5, h7, h9, h11, h18]; done) | (simp_all <;> omega)), (by exact hst.symm)⟩) <;> first | omega | (simp [go_sem, F0, h14] <;> omega)
        ·try simp [go_sem] at h14
         have hz : listE (slotE t p) p.slots = 0 := by rw [← hL, listE_end _ (by omega)]
         rw [if_neg (by simp [hz])] at hF0
         try simp [go_sem, F0]
         refine cq0 (ref03_Valid p.vars p.tests) ?_
         try simp [go_sem, F0]
         refine condQ_mk (fun h21 => ?_) (fun h21 => ?_)
         ·try simp [go_sem] at h21
          try simp [go_sem, F0]
          exact hQ _ _ (.inl (by rw [hF0, if_pos (by simpa using h21)]; simp [go_sem]))
         ·try simp [go_sem] at h21
          rw [if_neg (by simpa using h21)] at hF0
          try simp [go_sem, F0]
          obtain ⟨I2, hI2⟩ := mkI fun v e H => ((e 2 = .adr t.c) ∧ (e 3 = .adr p.c) ∧ (e 13 = dI v) ∧ (v ≤ p.vars.toNat) ∧ (∀ j : Nat, j < v → occursB p j = true))
          refine loopK I2 (fun v => p.vars.toNat - v) (0) ((hI2 _ _ _).2 ⟨?_, ?_, ?_, (by first | assumption | omega | (simp [go_sem, F0]; done) | (simp_all; done)), (by (intro j hj; omega))⟩) ?_
          iterate 3 (first | omega | (simp [go_sem, F0] <;> omega))
          intro v e H hi2
          obtain ⟨q2_2, q3_2, q13_2, hv, ho⟩ := (hI2 _ _ _).1 hi2
          have F2 := And.intro q2_2 (And.intro q3_2 q13_2)
          try simp [go_sem, F2]
          refine condQ_mk (fun h24 => ?_) (fun h24 => ?_)
          ·try simp [go_sem] at h24
           try simp [go_sem, F2, h24]
           repeat (first | intro _ | (refine ⟨obl, ?_⟩))
           refine cq0 (ref21_occurs p v) ?_
           try simp [go_sem, F2, h24]
           repeat (first | intro _ | (refine ⟨obl, ?_⟩))
           refine condQ_mk (fun h26 => ?_) (fun h26 => ?_)
           ·try simp [go_sem] at h26
            try simp [go_sem, F2, h24]
            exact hQ _ _ (.inl (by rw [hF0, if_pos ((usedL_mem p _).2 ⟨v, by omega, by simpa using h26⟩)]; simp [go_sem]))
           ·try simp [go_sem] at h26
            try simp [go_sem, F2, h24]
            repeat (first | intro _ | (refine ⟨obl, ?_⟩))
            refine nextQ_mk (v + 1) (by omega) ((hI2 _ _ _).2 ⟨?_, ?_, ?_, (by first | assumption | omega | (simp [go_sem, F2, h24, h2, h5, h7, h9, h11, h14, h21, h26]; done) | (simp_all <;> omega)), (by (exact all_lt_succ (p := fun j => occursB p j = true) ho (by simpa using h26)))⟩) <;> first | omega | (simp [go_sem, F2, h24] <;> omega)
          ·try simp [go_sem] at h24
           try simp [go_sem, F2]
           have hm : ¬ mem (usedL p.vars.toNat p.slots) false = true := fun h => by
            obtain ⟨w, hw, ho'⟩ := (usedL_mem p _).1 h
            rw [ho w (by omega)] at ho'; cases ho'
           exact hQ _ _ (.inl (by rw [hF0, if_neg hm]; simp [go_sem]))
end Go.Abs
end
section
namespace Go.Abs
section
variable {P : Program} {M0 : Nat → Prop} {H : AHeap} {σ : Nat → Option Ow} {w : World}
theorem flat_cI (zs : List Int) : (zs.map cI).flatten = zs.map (D.int .i64) := by
  induction zs with
  | nil => rfl
  | cons a l ih => simp only [List.map_cons, List.flatten_cons, ih, cI, dI]; rfl
theorem repL_ints {M : Nat → Prop} {N : Nat → Prop} (zs : List Int) : RepL M σ N w (zs.map (Value.int .i64)) (zs.map cI).flatten := by
  rw [flat_cI]
  refine ⟨by simp, fun j u d hu hd => ?_⟩
  rw [List.getElem?_map, Option.map_eq_some_iff] at hu hd
  obtain ⟨x, hx, rfl⟩ := hu
  obtain ⟨y, hy, rfl⟩ := hd
  rw [hx] at hy; cases hy
  exact .int _ _
def RowI (w : World) (ty : TypeId) (v : Value) (xs : List Int) : Prop := w.ownsRow 0 ty 1 v xs.length (xs.map (Value.int .i64))
theorem rel_row (hR : Rel M0 H σ w) {id : Nat} {ty : TypeId} {xs : List Int} (hg : H.get id = some ⟨ty, 1, xs.map cI, false⟩) {v : Value} (hv : RepV (Mut M0 H σ) σ H.al w v (.own id xs.length)) :
    ∃ o, σ id = some o ∧ v = o.val ∧ o.ver = xs.length ∧ o.ty = ty ∧ o.esz = 1 ∧ RowI w ty v xs := by
  obtain ⟨o, ho, l⟩ := hR.lies id _ hg
  have hver : o.ver = xs.length := by have := l.ver; simpa using this
  cases hv
  rename_i hN h1 h
  rcases h o ho with h' | ⟨_, rfl⟩
  · omega
  · obtain ⟨us, hrow, hu1, hrep⟩ := l.row
    have hus : us = xs.map (Value.int .i64) := by
      simp only [flat_cI] at hrep
      apply List.ext_getElem?
      intro j
      have hl := hrep.len
      simp only [List.length_map] at hl
      by_cases hj : j < xs.length
      · have h2 := hrep.rep j us[j] (D.int .i64 xs[j]) (lge (by omega)) (by simp [hj])
        generalize us[j] = u at h2
        have h3 : us[j]? = some us[j] := lge (by omega)
        have h4 := hrep.rep j us[j] (D.int .i64 xs[j]) h3 (by simp [hj])
        generalize hq : us[j] = q at h3 h4
        rw [h3]
        cases h4
        simp [hj]
      · rw [List.getElem?_eq_none (by omega), List.getElem?_eq_none (by simp; omega)]
    refine ⟨o, ho, rfl, hver, l.ty, l.sz, ?_⟩
    unfold RowI
    have hsz : o.esz = 1 := l.sz
    rw [hsz, hus] at hrow
    simpa using hrow
theorem rel_turn {w' : World} (hR : Rel M0 H σ w) {id : Nat} {ty : TypeId} {xs zs : List Int} (fz : Bool) (hg : H.get id = some ⟨ty, 1, xs.map cI, false⟩) {o : Ow} (ho : σ id = some o) (hver : o.ver = xs.length) (hty : o.ty = ty) (hsz : o.esz = 1)
    (hl : zs.length = xs.length) (hgr : w.grownBy w' o.block) (hrow : RowI w' ty o.val zs) :
    Rel M0 (H.put id ⟨ty, 1, zs.map cI, fz⟩) (fun i => if i = id then some o else σ i) w' ∧ Stp σ w (fun i => if i = id then some o else σ i) w' ∧
      Keeps (Mut M0 H σ) σ H.al w (Mut M0 (H.put id ⟨ty, 1, zs.map cI, fz⟩) (fun i => if i = id then some o else σ i)) (fun i => if i = id then some o else σ i) (H.put id ⟨ty, 1, zs.map cI, fz⟩).al w' := by
  refine Rel.put hR hg rfl ho ⟨ty, 1, zs.map cI, fz⟩ o hgr (fun b hb => .inl hb) (.inl rfl) (by simp [hver, hl]) hty hsz (fun c hc => ?_) (zs.map (Value.int .i64)) ?_ (fun u hu => ?_) (repL_ints zs)
  · obtain ⟨x, _, rfl⟩ := List.mem_map.1 hc; rw [hsz]; rfl
  · rw [hsz]; simpa [RowI] using hrow
  · obtain ⟨x, _, rfl⟩ := List.mem_map.1 hu; rfl
theorem acalls_turn {f : FuncId} {id : Nat} {ty : TypeId} {xs zs : List Int} {Q : D → AHeap → Prop} (hent : Ent P f) (hg : H.get id = some ⟨ty, 1, xs.map cI, false⟩) (hl : zs.length = xs.length)
    (hc : ∀ (w : World) (v : Value), RowI w ty v xs → Calls P f #[v] w fun e w' => e = .returned (.tuple #[]) ∧ w.grownBy w' v.ownBlock ∧ RowI w' ty v zs)
    (hQ : Q (.tup []) (H.put id ⟨ty, 1, zs.map cI, false⟩)) : ACalls P f [.own id xs.length] H Q := by
  refine ⟨hent, fun M0 σ w vals hR ha => ?_⟩
  obtain ⟨hlen, hr⟩ := ha
  match vals, hlen with
  | [v], _ =>
    obtain ⟨o, ho, rfl, hver, hty, hsz, hrow⟩ := rel_row hR hg (hr 0 v _ rfl rfl)
    refine (hc w _ hrow).mono fun e w' ⟨he, hgr, hrow'⟩ => ?_
    obtain ⟨h1, h2, h3⟩ := rel_turn hR false hg ho hver hty hsz hl hgr hrow'
    exact ⟨_, .tup [], _, _, he, h1, .tup [] [] rfl (fun j u d hu => by simp at hu), h2, h3, hQ⟩
theorem acalls_begin {f : FuncId} {id : Nat} {ty : TypeId} {xs zs : List Int} {m : Nat} {Q : D → AHeap → Prop} (hent : Ent P f) (hg : H.get id = some ⟨ty, 1, xs.map cI, false⟩) (hl : zs.length = xs.length) (hm : m ≤ xs.length)
    (hc : ∀ (w : World) (v : Value), RowI w ty v xs → Calls P f #[v] w fun e w' => (∃ r, e = .returned r ∧ ((v = .slice none 0 0 ∧ r = v) ∨ ∃ g n cap, v = .slice (some g) n cap ∧ r = .slice (some g) m cap)) ∧ w.grownBy w' v.ownBlock ∧ RowI w' ty v zs)
    (hQ : Q (.list ((zs.take m).map cI)) (H.put id ⟨ty, 1, zs.map cI, true⟩)) : ACalls P f [.own id xs.length] H Q := by
  refine ⟨hent, fun M0 σ w vals hR ha => ?_⟩
  obtain ⟨hlen, hr⟩ := ha
  match vals, hlen with
  | [v], _ =>
    obtain ⟨o, ho, rfl, hver, hty, hsz, hrow⟩ := rel_row hR hg (hr 0 v _ rfl rfl)
    refine (hc w _ hrow).mono fun e w' ⟨⟨r, he, hr'⟩, hgr, hrow'⟩ => ?_
    obtain ⟨h1, h2, h3⟩ := rel_turn hR true hg ho hver hty hsz hl hgr hrow'
    refine ⟨r, .list ((zs.take m).map cI), _, _, he, h1, ?_, h2, h3, hQ⟩
    rcases hr' with ⟨hv, rfl⟩ | ⟨g, n, cap, hv, rfl⟩
    · have hz : zs = [] := by
        rcases hrow.2 with ⟨_, h0⟩ | ⟨g', cap', cur, hv', _⟩
        · exact List.eq_nil_of_length_eq_zero (by omega)
        · rw [hv] at hv'; cases hv'
      subst hz
      rw [hv]; simpa using RepV.listN
    · rcases hrow'.2 with ⟨hn, _⟩ | ⟨g', cap', cur, hv', hb0, hblk, hcz, hcm, hcs, htk⟩
      · rw [hv] at hn; cases hn
      · have hvv := hv'
        rw [hv] at hvv
        cases hvv
        have hlt : (zs.take m).length = m := by simp; omega
        have hfl := flat_cI (zs.take m)
        have key := RepV.list (M := Mut M0 (H.put id ⟨ty, 1, zs.map cI, true⟩) (fun i => if i = id then some o else σ i)) (σ := fun i => if i = id then some o else σ i) (N := (H.put id ⟨ty, 1, zs.map cI, true⟩).al) (w := w')
          ⟨g', 0, none⟩ cap 1 ((zs.take m).map (Value.int .i64)) ((zs.take m).map cI) (by simp; omega) hcm (fun c hc => (by obtain ⟨x, _, rfl⟩ := List.mem_map.1 hc; rfl)) (by rw [hfl]; simp)
          (fun u hu => (by obtain ⟨x, _, rfl⟩ := List.mem_map.1 hu; rfl))
          (fun j u hu => by
            refine ⟨?_, ?_⟩
            · rintro (hm0 | ⟨i, k', o', hk', hf, ho', hb'⟩)
              · exact (hR.lt id o g' ho (by simp [Ow.block, hv, Value.ownBlock])).2 hm0
              · by_cases hi : i = id
                · simp only [AHeap.put, hi, if_true, Option.some.injEq] at hk'
                  subst hk'; cases hf
                · simp only [hi, if_false] at ho'
                  exact hi (hR.inj i id o' o g' ho' ho hb' (by simp [Ow.block, hv, Value.ownBlock]))
            · have := hrow'.cells (g := g') (by simp [hv, Value.ownBlock]) j u (by
                rw [List.getElem?_map] at hu ⊢
                rw [List.getElem?_take] at hu
                split at hu
                · exact hu
                · simp at hu)
              exact this)
          (repL_ints (zs.take m)).rep
        simp only [List.length_map, hlt] at key
        exact key
end
end Go.Abs
end
section
namespace Go.Proofs
open Go.Shelf
def Tryz.laysSort_ren : Go.Shelf.Ren := ⟨fun | 189 => 344 | 125 => 354 | 257 => 353 | 128 => 364 | 129 => 365 | 294 => 356 | 295 => 357 | 296 => 358 | 297 => 359 | 298 => 360 | 299 => 361 | 216 => 342 | 300 => 362 | 301 => 363 | 328 => 366 | 329 => 367 | 330 => 368 | 331 => 369 | 332 => 370 | 215 => 102 | 343 => 371 | n => n, fun | 28 => 31 | 3 => 3 | 46 => 260 | 0 => 0 | 51 => 375 | 53 => 157 | 4 => 4 | 183 => 369 | 182 => 368 | 131 => 198 | 5 => 5 | 9 => 9 | 218 => 377 | 222 => 381 | 228 => 383 | 229 => 314 | n => n, fun | n => n⟩
theorem Tryz.laysSort : Go.Proofs.Lays.n189 Tryz.prog Tryz.laysSort_ren := {
  mixed := by kernel_rfl
  f125 := Tryz.func354.trans (congrArg some (by kernel_rfl))
  f128 := Tryz.func364.trans (congrArg some (by kernel_rfl))
  f129 := Tryz.func365.trans (congrArg some (by kernel_rfl))
  f189 := Tryz.func344.trans (congrArg some (by kernel_rfl))
  f215 := Tryz.func102.trans (congrArg some (by kernel_rfl))
  f216 := Tryz.func342.trans (congrArg some (by kernel_rfl))
  f257 := Tryz.func353.trans (congrArg some (by kernel_rfl))
  f294 := Tryz.func356.trans (congrArg some (by kernel_rfl))
  f295 := Tryz.func357.trans (congrArg some (by kernel_rfl))
  f296 := Tryz.func358.trans (congrArg some (by kernel_rfl))
  f297 := Tryz.func359.trans (congrArg some (by kernel_rfl))
  f298 := Tryz.func360.trans (congrArg some (by kernel_rfl))
  f299 := Tryz.func361.trans (congrArg some (by kernel_rfl))
  f300 := Tryz.func362.trans (congrArg some (by kernel_rfl))
  f301 := Tryz.func363.trans (congrArg some (by kernel_rfl))
  f328 := Tryz.func366.trans (congrArg some (by kernel_rfl))
  f329 := Tryz.func367.trans (congrArg some (by kernel_rfl))
  f330 := Tryz.func368.trans (congrArg some (by kernel_rfl))
  f331 := Tryz.func369.trans (congrArg some (by kernel_rfl))
  f332 := Tryz.func370.trans (congrArg some (by kernel_rfl))
  f343 := Tryz.func371.trans (congrArg some (by kernel_rfl))
  t0 := Tryz.underlying0
  a0 := Tryz.isAgg0
  z0 := Tryz.sizeOf0
  v0 := Tryz.zeroValue0
  t3 := Tryz.underlying3
  a3 := Tryz.isAgg3
  z3 := Tryz.sizeOf3
  v3 := Tryz.zeroValue3
  t4 := Tryz.underlying4
  a4 := Tryz.isAgg4
  z4 := Tryz.sizeOf4
  v4 := Tryz.zeroValue4
  t5 := Tryz.underlying5
  a5 := Tryz.isAgg5
  z5 := Tryz.sizeOf5
  v5 := Tryz.zeroValue5
  t9 := Tryz.underlying9
  a9 := Tryz.isAgg9
  z9 := Tryz.sizeOf9
  v9 := Tryz.zeroValue9
  t28 := Tryz.underlying31
  a28 := Tryz.isAgg31
  z28 := Tryz.sizeOf31
  v28 := Tryz.zeroValue31
  t46 := Tryz.underlying260
  a46 := Tryz.isAgg260
  z46 := Tryz.sizeOf260
  v46 := Tryz.zeroValue260
  t51 := Tryz.underlying375
  a51 := Tryz.isAgg375
  z51 := Tryz.sizeOf375
  v51 := Tryz.zeroValue375
  t53 := Tryz.underlying157
  a53 := Tryz.isAgg157
  z53 := Tryz.sizeOf157
  v53 := Tryz.zeroValue157
  t131 := Tryz.underlying198
  a131 := Tryz.isAgg198
  z131 := Tryz.sizeOf198
  v131 := Tryz.zeroValue198
  t182 := Tryz.underlying368
  a182 := Tryz.isAgg368
  z182 := Tryz.sizeOf368
  v182 := Tryz.zeroValue368
  t183 := Tryz.underlying369
  a183 := Tryz.isAgg369
  z183 := Tryz.sizeOf369
  v183 := Tryz.zeroValue369
  t218 := Tryz.underlying377
  a218 := Tryz.isAgg377
  z218 := Tryz.sizeOf377
  v218 := Tryz.zeroValue377
  t222 := Tryz.underlying381
  a222 := Tryz.isAgg381
  z222 := Tryz.sizeOf381
  v222 := Tryz.zeroValue381
  t228 := Tryz.underlying383
  a228 := Tryz.isAgg383
  z228 := Tryz.sizeOf383
  v228 := Tryz.zeroValue383
  t229 := Tryz.underlying314
  a229 := Tryz.isAgg314
  z229 := Tryz.sizeOf314
  v229 := Tryz.zeroValue314 }
def Tryz.laysCompact_ren : Go.Shelf.Ren := ⟨fun | 20 => 345 | n => n, fun | 22 => 31 | 3 => 3 | 4 => 4 | 0 => 0 | n => n, fun | n => n⟩
theorem Tryz.laysCompact : Go.Proofs.Lays2.n20 Tryz.prog Tryz.laysCompact_ren := {
  mixed := by kernel_rfl
  f20 := Tryz.func345.trans (congrArg some (by kernel_rfl))
  t0 := Tryz.underlying0
  a0 := Tryz.isAgg0
  z0 := Tryz.sizeOf0
  v0 := Tryz.zeroValue0
  t3 := Tryz.underlying3
  a3 := Tryz.isAgg3
  z3 := Tryz.sizeOf3
  v3 := Tryz.zeroValue3
  t4 := Tryz.underlying4
  a4 := Tryz.isAgg4
  z4 := Tryz.sizeOf4
  v4 := Tryz.zeroValue4
  t22 := Tryz.underlying31
  a22 := Tryz.isAgg31
  z22 := Tryz.sizeOf31
  v22 := Tryz.zeroValue31
  i3 := by kernel_rfl }
end Go.Proofs
end
