/- Layer 4: lines of types, what fits. · The data of the progra -/
import Derived.Test.YthnegcfdjjhfgaaGreatZmA
import Derived.Test.YthnegcfdjjhfgaaGreatZmH
import Derived.Test.YthnegcfdjjhfgaaGreatZmF
import Derived.Sort.OwnSortedInts
import Derived.Ground.NamesProg
import Derived.Ground.Names2Prog
import Derived.Shelf.Sort.Plain
import Derived.Shelf.Slices.CompactI
import Derived.Shelf.Slices.In.SortNone
import Derived.Test.YthnegcfdjjhfgaaGreatProg
set_option linter.unusedVariables false
set_option linter.unusedSimpArgs false
section
set_option maxRecDepth 4000
open Go Go.Proofs
namespace Go.Abs
def lineK (t : Types) (k : Nat) : List Int := if k = 0 then [] else t.line (k - 1)
theorem reverse_at {xs ys : List Int} {i : Nat} (hy : ys.length = xs.length) (hi : xs.length ≤ 2 * i + 1) (hr : ∀ j, j < xs.length → ys[j]? = if j < i ∨ xs.length - i ≤ j then xs[xs.length - 1 - j]? else xs[j]?) : ys = xs.reverse := by
  apply List.ext_getElem?
  intro j
  by_cases hj : j < xs.length
  · rw [hr j hj, List.getElem?_reverse hj]
    split
    ·rfl
    ·rename_i hc
     rw [show j = xs.length - 1 - j by omega]
     congr 1; omega
  · rw [List.getElem?_eq_none (by omega), List.getElem?_eq_none (by simp; omega)]
theorem reverse_int (G : AHeap) (id : Nat) (xs : List Int) (hg : G.get id = some ⟨3, 1, xs.map cI, false⟩) (hl : xs.length ≤ 100000) (Q : D → AHeap → Prop)
    (hQ : ∀ H', H'.get id = some ⟨3, 1, xs.reverse.map cI, false⟩ → (∀ j, j ≠ id → H'.get j = G.get j) → G.next ≤ H'.next → Q (.tup []) H') : ACalls Tryz.prog 281 [.own id xs.length] G Q := by
  refine (acalls_of_body (cfg := ⟨fun _ => false, fun _ => []⟩) Tz.mixed Tryz.func281 rfl rfl (nlb rfl) (by kernel_rfl) ?_)
  try simp [go_sem, seval, hg]
  repeat (first | intro _ | (refine ⟨obl, ?_⟩))
  obtain ⟨I0, hI0⟩ := mkI fun i e H => (∃ ys : List Int, (e 0 = .own id xs.length) ∧ (e 2 = dI i) ∧ (e 3 = dI ((xs.length : Int) - 1 - i)) ∧ (H.get id = some ⟨3, 1, ys.map cI, false⟩) ∧ (∀ j, j ≠ id → H.get j = G.get j) ∧ (G.next ≤ H.next) ∧ (ys.length = xs.length) ∧ (∀ j, j < xs.length → ys[j]? = if j < i ∨ xs.length - i ≤ j then xs[xs.length - 1 - j]? else xs[j]?))
  refine loopK I0 (fun i => xs.length - i) (0) ((hI0 _ _ _).2 ⟨(xs), ?_, ?_, ?_, (by exact hg), (by exact fun _ _ => rfl), (by exact Nat.le_refl _), (by first | assumption | omega | (simp [go_sem, hg]; done) | (simp_all; done)), (by intro j hj; simp; omega)⟩) ?_
  iterate 3 (first | omega | (simp [go_sem, seval, hg] <;> omega))
  intro i e H hi0
  obtain ⟨ys, q0_0, q2_0, q3_0, hH, hfr, hnx, hy, hr⟩ := (hI0 _ _ _).1 hi0
  have F0 := And.intro q0_0 (And.intro q2_0 q3_0)
  try simp [go_sem, seval, hg, F0, hH]
  refine condQ_mk (fun h1 => ?_) (fun h1 => ?_)
  · try simp [go_sem] at h1
    have hj : xs.length - 1 - i < ys.length := by omega
    have hi' : i < ys.length := by omega
    have htn : ((xs.length : Int) - 1 - i).toNat = xs.length - 1 - i := by omega
    have hstep : ∀ j, j < xs.length → ((ys.set i (ys[xs.length - 1 - i]?.getD 0)).set (xs.length - 1 - i) (ys[i]?.getD 0))[j]? = if j < i + 1 ∨ xs.length - (i + 1) ≤ j then xs[xs.length - 1 - j]? else xs[j]? := fun j hjl => by
     have h1 := hr j hjl
     have h3 := hr i (by omega)
     have h4 := hr (xs.length - 1 - i) (by omega)
     rw [lge hi'] at h3
     rw [lge hj] at h4
     rw [List.getElem?_set, List.getElem?_set, lge hi', lge hj]
     by_cases ha : xs.length - 1 - i = j
     ·rw [if_pos ha, if_pos (by simp; omega), if_pos (by omega)]
      simp only [Option.getD_some]
      rw [h3, if_neg (by omega)]; congr 1; omega
     ·rw [if_neg ha]
      by_cases hb : i = j
      ·rw [if_pos hb, if_pos (by omega), if_pos (by omega)]
       simp only [Option.getD_some]
       rw [h4, if_neg (by omega)]; congr 1; omega
      ·rw [if_neg hb, h1]
       by_cases hc : j < i ∨ xs.length - i ≤ j
       ·rw [if_pos hc, if_pos (by omega)]
       ·rw [if_neg hc, if_neg (by omega)]
    try simp [go_sem, seval, hg, F0, hH, h1, htn, lge hj, lge hi', hy, List.getElem?_set, show i ≠ xs.length - 1 - i by omega]
    repeat (first | intro _ | (refine ⟨obl, ?_⟩))
    refine nextQ_mk (i + 1) (by omega) ((hI0 _ _ _).2 ⟨((ys.set i (ys[xs.length - 1 - i]?.getD 0)).set (xs.length - 1 - i) (ys[i]?.getD 0)), ?_, ?_, ?_, (by (simp [go_sem, hH, List.map_set, lge hj, lge hi'])), (by (intro j hj'; simp [go_sem, hj', hfr j hj'])), (by (simp [go_sem]; omega)), (by first | assumption | omega | (simp [go_sem, hg, F0, hH, h1, htn, lge hj, lge hi', hy, List.getElem?_set, show i ≠ xs.length - 1 - i by omega]; done) | (simp_all <;> omega)), (by (exact hstep))⟩) <;> first | omega | (simp [go_sem, seval, hg, F0, hH, h1, htn, lge hj, lge hi', hy, List.getElem?_set, show i ≠ xs.length - 1 - i by omega] <;> omega)
  · try simp [go_sem] at h1
    have := reverse_at hy (by omega) hr
    subst this
    try simp [go_sem, seval, hg, F0, hH]
    exact hQ _ hH hfr hnx
theorem types_line (t : Types) (ht : t.ok) (hv : t.valid) (a : Nat) (ha : a < t.nodes.length) : Pure Tryz.prog 242 [t.d, dI a] (.list ((t.line a).map cI)) := by
  have hfew := hv.fewN
  refine Tz.pK ⟨fun t => t == 5, fun _ => []⟩ Tryz.func242 rfl (fun Q hQ => ?_)
  try simp [go_sem, seval]
  obtain ⟨I0, hI0⟩ := mkI fun k e H => (∃ xs : List Int, (e 2 = .adr t.c) ∧ (e 1 = dI ((k : Int) - 1)) ∧ (e 5 = .own 0 xs.length) ∧ (H.get 0 = some ⟨3, 1, xs.map cI, false⟩) ∧ (0 < H.next) ∧ (k ≤ t.nodes.length) ∧ (xs.length + k ≤ 12) ∧ (lineK t k ++ xs.reverse = t.line a))
  refine loopK I0 (fun k => k) (a + 1) ((hI0 _ _ _).2 ⟨([]), ?_, ?_, ?_, ?_, ?_, (by first | assumption | omega | (simp [go_sem]; done) | (simp_all; done)), (by simp; omega), (by simp [lineK])⟩) ?_
  iterate 5 (first | omega | (simp [go_sem, seval] <;> omega))
  intro k e H hi0
  obtain ⟨xs, q2_0, q1_0, q5_0, g0_0, n0_0, hk, hb, hx⟩ := (hI0 _ _ _).1 hi0
  have x0 := frs n0_0
  have F0 := And.intro q2_0 (And.intro q1_0 (And.intro q5_0 x0))
  try simp [go_sem, seval, F0, g0_0]
  refine condQ_mk (fun h2 => ?_) (fun h2 => ?_)
  · try simp [go_sem] at h2
    have hk0 : 0 < k := by omega
    have hkl : k - 1 < t.nodes.length := by omega
    have hpar := hv.parent (k - 1) _ (lge hkl)
    have hlow := hv.low (k - 1) _ (lge hkl)
    have htn : ((k : Int) - 1).toNat = k - 1 := by omega
    have hlr := line_rec t (k - 1) hkl (hv.parentsOK _)
    have hlk : lineK t k = lineK t (t.nodes[k - 1].parent + 1).toNat ++ [(k : Int) - 1] := by
     unfold lineK
     rw [if_neg (show ¬ k = 0 by omega), hlr]
     by_cases h0 : 0 ≤ t.nodes[k - 1].parent
     ·rw [if_pos h0, if_neg (by omega), show (t.nodes[k - 1].parent + 1).toNat - 1 = t.nodes[k - 1].parent.toNat by omega]
      congr 2; omega
     ·rw [if_neg h0, if_pos (by omega)]
      simp; omega
    try simp [go_sem, seval, F0, g0_0, h2, htn, hkl]
    repeat (first | intro _ | (refine ⟨obl, ?_⟩))
    refine nextQ_mk ((t.nodes[k - 1].parent + 1).toNat) (by omega) ((hI0 _ _ _).2 ⟨(xs ++ [(k : Int) - 1]), ?_, ?_, ?_, ?_, ?_, (by first | assumption | omega | (simp [go_sem, F0, g0_0, h2, htn, hkl]; done) | (simp_all <;> omega)), (by simp; omega), (by rw [hlk] at hx; rw [← hx]; simp)⟩) <;> first | omega | (simp [go_sem, seval, F0, g0_0, h2, htn, hkl] <;> omega)
  · try simp [go_sem] at h2
    have hk0 : k = 0 := by omega
    subst hk0
    have hln : (t.line a).length = xs.length := by rw [← hx]; simp [lineK]
    have hx' : (xs.map cI).reverse = (t.line a).map cI := by rw [← List.map_reverse, ← hx]; rfl
    try simp [go_sem, seval, F0, g0_0]
    unfold callQ; refine reverse_int _ _ xs g0_0 (by omega) _ fun H1 gR _ _ => ?_
    try simp [go_sem, seval, F0, g0_0]
    exact hQ _ _ (by first | (left; (simp [go_sem, gR, hx', hln]); done) | (right; (simp [go_sem, gR, hx', hln]); done))
theorem types_is (t : Types) (ht : t.ok) (hv : t.valid) (a b : Int) (h0 : 0 ≤ a) (h1 : a < t.nodes.length) : Pure Tryz.prog 174 [t.d, dI a, dI b] (.bool (mem (t.line a.toNat) b)) := by
  have hl := types_line t ht hv a.toNat (by omega)
  rw [Int.toNat_of_nonneg h0] at hl
  refine Tz.pK ⟨fun _ => false, fun _ => []⟩ Tryz.func174 rfl (fun Q hQ => ?_)
  try simp [go_sem, seval]
  refine callQ_pure0 (hl) ((by first | rfl | (simp [go_sem, ← List.map_take, ← List.map_drop]; done))) ?_
  try simp [go_sem, seval]
  refine callQ_pure0 (contains_int _ _) ((by first | rfl | (simp [go_sem, ← List.map_take, ← List.map_drop]; done))) ?_
  try simp [go_sem, seval]
  exact hQ _ _ (by simp [go_sem] <;> first | omega | (rw [bei]; simp <;> omega) | (simp_all <;> omega))
def fitsT (t : Types) (edge a b : Int) : Bool := decide (given2F t a b = 0) && (decide (0 ≤ edge) && decide (edge < t.edges.length)) &&
  (mem (t.line a.toNat) (match t.edges[edge.toNat]? with | some x => x.from_ | none => 0) && mem (t.line b.toNat) (match t.edges[edge.toNat]? with | some x => x.to_ | none => 0))
theorem given2_zero {t : Types} {a b : Int} (h : given2F t a b = 0) : t.valid ∧ (0 ≤ a ∧ a < t.nodes.length) ∧ (0 ≤ b ∧ b < t.nodes.length) := by
  unfold given2F at h
  split at h
  · rename_i h1; exact absurd h h1
  · rename_i h1
    split at h
    ·rename_i h2; simp [insideF] at h2; exact ⟨valid_of (by simpa using h1), h2.1, h2.2⟩
    ·cases h
theorem types_Fits (t : Types) (ht : t.ok) (edge a b : Int) : Pure Tryz.prog 93 [t.d, dI edge, dI a, dI b] (.bool (fitsT t edge a b)) := by
  refine Tz.pK ⟨fun _ => false, fun _ => []⟩ Tryz.func93 rfl (fun Q hQ => ?_)
  try simp [go_sem, seval]
  repeat (first | intro _ | (refine ⟨obl, ?_⟩))
  refine callQ_pure0 (types_given t ht [a, b]) ((by first | rfl | (simp [go_sem, ← List.map_take, ← List.map_drop]; done))) ?_
  try simp [go_sem, seval]
  repeat (first | intro _ | (refine ⟨obl, ?_⟩))
  refine condQ_mk (fun h1 => ?_) (fun h1 => ?_)
  · try simp [go_sem] at h1
    rw [given_two] at h1
    try simp [go_sem, seval]
    exact hQ _ _ (by first | (left; (simp [go_sem, fitsT]; intros; omega); done) | (right; (simp [go_sem, fitsT]; intros; omega); done))
  · try simp [go_sem] at h1
    rw [given_two] at h1
    obtain ⟨hv, hA, hB⟩ := given2_zero h1.1.1
    have hke : edge.toNat < t.edges.length := by omega
    try simp [go_sem, seval, lge hke]
    repeat (first | intro _ | (refine ⟨obl, ?_⟩))
    refine dcallQ_pure0 (types_is t ht hv _ _ hA.1 hA.2) ((by first | rfl | (simp [go_sem, ← List.map_take, ← List.map_drop, lge hke]; done))) ?_
    try simp [go_sem, seval, lge hke]
    repeat (first | intro _ | (refine ⟨obl, ?_⟩))
    refine dgcallQ_pure0 (fun hg => types_is t ht hv _ _ hB.1 hB.2) (fun hg => (by first | rfl | (simp [go_sem, ← List.map_take, ← List.map_drop, lge hke]; done))) ?_
    try simp [go_sem, seval, lge hke]
    repeat (first | intro _ | (refine ⟨obl, ?_⟩))
    exact hQ _ _ (by first | (left; (simp [go_sem, fitsT, h1, lge hke]); done) | (right; (simp [go_sem, fitsT, h1, lge hke]); done))
theorem mem_snoc (l : List Int) (x b : Int) : mem (l ++ [x]) b = (mem l b || decide (b = x)) := by
  rw [bei, Bool.or_eq_true, mem_iff, mem_iff]; simp
theorem mem_nil (b : Int) : mem ([] : List Int) b = false := by rw [Bool.eq_false_iff]; intro h; rw [mem_iff] at h; cases h
theorem below1N (t : Types) (a b : Int) (ha : a < 0) (hb : 0 ≤ b) : Pure Tryz.prog 194 [t.d, dI a, dI b] (.bool false) := by
  refine Tz.pK ⟨fun _ => false, fun _ => []⟩ Tryz.func194 rfl (fun Q hQ => ?_)
  try simp [go_sem, seval, show ¬ 0 ≤ a by omega, show ¬ a = b by omega]
  repeat (first | intro _ | (refine ⟨obl, ?_⟩))
  refine dgcallQ_pure0 (r := .bool false) (fun hg => by simp at hg) (fun hg => by simp at hg) ?_
  try simp [go_sem, seval, show ¬ 0 ≤ a by omega, show ¬ a = b by omega]
  repeat (first | intro _ | (refine ⟨obl, ?_⟩))
  exact hQ _ _ (by simp [go_sem, show ¬ 0 ≤ a by omega, show ¬ a = b by omega] <;> first | omega | (rw [bei]; simp <;> omega) | (simp_all <;> omega))
theorem ref04_Below1 (t : Types) (hv : t.valid) (b : Int) (hb : 0 ≤ b) : ∀ a : Nat, a < t.nodes.length → Pure Tryz.prog 194 [t.d, dI a, dI b] (.bool (mem (t.line a) b)) := by
  intro a
  induction a using Nat.strongRecOn with
  | _ a ih =>
  intro ha
  have hpar := hv.parent a _ (lge ha)
  have hlr := line_rec t a ha (hv.parentsOK a)
  have hc : Pure Tryz.prog 194 [t.d, dI t.nodes[a].parent, dI b] (.bool (mem (if 0 ≤ t.nodes[a].parent then t.line t.nodes[a].parent.toNat else []) b)) := by
    by_cases h' : 0 ≤ t.nodes[a].parent
    ·rw [if_pos h']
     have := ih t.nodes[a].parent.toNat (by omega) (by omega)
     rwa [Int.toNat_of_nonneg h'] at this
    ·rw [if_neg h', mem_nil]
     exact below1N t _ _ (by omega) hb
  rw [hlr, mem_snoc]
  refine Tz.pK ⟨fun _ => false, fun _ => []⟩ Tryz.func194 rfl (fun Q hQ => ?_)
  have hab : decide ((a : Int) = b) = decide (b = (a : Int)) := by rw [bei]; simp; omega
  try simp [go_sem, seval, lge ha, ha]
  repeat (first | intro _ | (refine ⟨obl, ?_⟩))
  refine dgcallQ_pure0 (fun hg => hc) (fun hg => (by first | rfl | (simp [go_sem, ← List.map_take, ← List.map_drop, lge ha, ha]; done))) ?_
  try simp [go_sem, seval, lge ha, ha]
  repeat (first | intro _ | (refine ⟨obl, ?_⟩))
  exact hQ _ _ (by first | (left; (simp only [go_sem, hab, Bool.or_comm]); done) | (right; (simp only [go_sem, hab, Bool.or_comm]); done))
theorem ref04_Fits (t : Types) (ht : t.ok) (edge a b : Int) : Pure Tryz.prog 110 [t.d, dI edge, dI a, dI b] (.bool (fitsT t edge a b)) := by
  have hfe := ht.fewE
  refine Tz.pK ⟨fun _ => false, fun _ => []⟩ Tryz.func110 rfl (fun Q hQ => ?_)
  try simp [go_sem, seval]
  repeat (first | intro _ | (refine ⟨obl, ?_⟩))
  refine callQ_pure0 (ref04_given t ht a b) ((by first | rfl | (simp [go_sem, ← List.map_take, ← List.map_drop]; done))) ?_
  try simp [go_sem, seval]
  repeat (first | intro _ | (refine ⟨obl, ?_⟩))
  refine gcallQ_pure0 (fun hg => ref04_in _ _ _) (fun hg => (by first | rfl | (simp [go_sem, ← List.map_take, ← List.map_drop]; done))) ?_
  try simp [go_sem, seval]
  repeat (first | intro _ | (refine ⟨obl, ?_⟩))
  refine condQ_mk (fun h1 => ?_) (fun h1 => ?_)
  · skip
    simp [inF] at h1
    try simp [go_sem, seval]
    exact hQ _ _ (by first | (left; (simp [go_sem, fitsT]; intros; omega); done) | (right; (simp [go_sem, fitsT]; intros; omega); done))
  · skip
    simp [inF] at h1
    obtain ⟨hv, hA, hB⟩ := given2_zero h1.1
    have hke : edge.toNat < t.edges.length := by omega
    have hends := hv.ends _ (lgm hke)
    simp [insideF] at hends
    have hB1 := ref04_Below1 t hv t.edges[edge.toNat].from_ hends.1.1 a.toNat (by omega)
    have hB2 := ref04_Below1 t hv t.edges[edge.toNat].to_ hends.2.1 b.toNat (by omega)
    rw [Int.toNat_of_nonneg hA.1] at hB1
    rw [Int.toNat_of_nonneg hB.1] at hB2
    try simp [go_sem, seval, lge hke]
    repeat (first | intro _ | (refine ⟨obl, ?_⟩))
    refine dcallQ_pure0 (hB1) ((by first | rfl | (simp [go_sem, ← List.map_take, ← List.map_drop, lge hke]; done))) ?_
    try simp [go_sem, seval, lge hke]
    repeat (first | intro _ | (refine ⟨obl, ?_⟩))
    refine dgcallQ_pure0 (fun hg => hB2) (fun hg => (by first | rfl | (simp [go_sem, ← List.map_take, ← List.map_drop, lge hke]; done))) ?_
    try simp [go_sem, seval, lge hke]
    repeat (first | intro _ | (refine ⟨obl, ?_⟩))
    exact hQ _ _ (by first | (left; (simp [go_sem, fitsT, h1, lge hke]; omega); done) | (right; (simp [go_sem, fitsT, h1, lge hke]; omega); done))
end Go.Abs
end
section
namespace Go.Abs
structure Term where
  var : Int
  add : Int
def Term.c (x : Term) : List D := [dI x.var, dI x.add]
structure Slot where
  node : Int
  attr : Int
  term : Term
def Slot.c (x : Slot) : List D := [dI x.node, dI x.attr, dI x.term.var, dI x.term.add]
structure Test where
  kind : Int
  left : Term
  right : Term
def Test.c (x : Test) : List D := [dI x.kind, dI x.left.var, dI x.left.add, dI x.right.var, dI x.right.add]
structure Pattern where
  graph : Graph
  slots : List Slot
  vars : Int
  tests : List Test
def Pattern.c (p : Pattern) : List D := [dLI p.graph.nodes, .list (p.graph.edges.map Edge.c), .list (p.slots.map Slot.c), dI p.vars, .list (p.tests.map Test.c)]
def Pattern.d (p : Pattern) : D := .agg p.c
structure Part where
  nodes : List Int
  edges : List Int
def Part.c (p : Part) : List D := [dLI p.nodes, dLI p.edges]
def Part.d (p : Part) : D := .agg p.c
inductive Cond where
  | mk (kind : Int) (kids : List Cond) (map : Part) (pattern : Pattern)
def Cond.kind : Cond → Int | .mk k _ _ _ => k
def Cond.kids : Cond → List Cond | .mk _ l _ _ => l
def Cond.map : Cond → Part | .mk _ _ m _ => m
def Cond.pattern : Cond → Pattern | .mk _ _ _ p => p
mutual
def Cond.c : Cond → List D
  | .mk k l m p => [dI k, .list (Cond.cs l), dLI m.nodes, dLI m.edges, dLI p.graph.nodes, .list (p.graph.edges.map Edge.c), .list (p.slots.map Slot.c), dI p.vars, .list (p.tests.map Test.c)]
def Cond.cs : List Cond → List (List D)
  | [] => []
  | c :: l => c.c :: Cond.cs l
end
theorem Cond.cs_eq (l : List Cond) : Cond.cs l = l.map Cond.c := by
  induction l with
  | nil => simp [Cond.cs]
  | cons a l ih => simp [Cond.cs, ih]
theorem Cond.c_eq (x : Cond) : x.c = [dI x.kind, .list (x.kids.map Cond.c), dLI x.map.nodes, dLI x.map.edges, dLI x.pattern.graph.nodes, .list (x.pattern.graph.edges.map Edge.c), .list (x.pattern.slots.map Slot.c), dI x.pattern.vars, .list (x.pattern.tests.map Test.c)] := by
  cases x; simp [Cond.c, Cond.kind, Cond.kids, Cond.map, Cond.pattern, Cond.cs_eq]
structure Rule where
  name : ByteArray
  left : Pattern
  right : Pattern
  keep : Part
  into : Part
  inj : Bool
  cond : Cond
def Rule.c (r : Rule) : List D := [.str r.name, dLI r.left.graph.nodes, .list (r.left.graph.edges.map Edge.c), .list (r.left.slots.map Slot.c), dI r.left.vars, .list (r.left.tests.map Test.c),
  dLI r.right.graph.nodes, .list (r.right.graph.edges.map Edge.c), .list (r.right.slots.map Slot.c), dI r.right.vars, .list (r.right.tests.map Test.c),
  dLI r.keep.nodes, dLI r.keep.edges, dLI r.into.nodes, dLI r.into.edges, .bool r.inj,
  dI r.cond.kind, .list (r.cond.kids.map Cond.c), dLI r.cond.map.nodes, dLI r.cond.map.edges, dLI r.cond.pattern.graph.nodes, .list (r.cond.pattern.graph.edges.map Edge.c), .list (r.cond.pattern.slots.map Slot.c), dI r.cond.pattern.vars, .list (r.cond.pattern.tests.map Test.c)]
def Rule.d (r : Rule) : D := .agg r.c
structure Stage where
  weights : List Int
  removed : List Int
def Stage.c (s : Stage) : List D := [dLI s.weights, dLI s.removed]
@[go_sem] theorem Slot.cl (x : Slot) : D.clL x.c = true := rfl
@[go_sem] theorem Test.cl (x : Test) : D.clL x.c = true := rfl
@[go_sem] theorem slots_cl (l : List Slot) : D.clLL (l.map Slot.c) = true := clLL_map _ Slot.cl l
@[go_sem] theorem tests_cl (l : List Test) : D.clLL (l.map Test.c) = true := clLL_map _ Test.cl l
@[go_sem] theorem Stage.cl (x : Stage) : D.clL x.c = true := by simp [Stage.c, D.clL, dLI_cl]
@[go_sem] theorem stages_cl (l : List Stage) : D.clLL (l.map Stage.c) = true := clLL_map _ Stage.cl l
theorem edgesG_cl (l : List Edge) : D.clLL (l.map Edge.c) = true := clLL_map _ Edge.cl l
mutual
theorem Cond.cl : ∀ x : Cond, D.clL x.c = true
  | .mk k l m p => by
    have := Cond.cls l
    simp [Cond.c, D.clL, D.cl, dI, dLI_cl, this, edgesG_cl, slots_cl, tests_cl]
theorem Cond.cls : ∀ l : List Cond, D.clLL (Cond.cs l) = true
  | [] => by simp [Cond.cs, D.clLL]
  | c :: l => by simp [Cond.cs, D.clLL, Cond.cl c, Cond.cls l]
end
attribute [go_sem] Cond.cl
@[go_sem] theorem conds_cl (l : List Cond) : D.clLL (l.map Cond.c) = true := by rw [← Cond.cs_eq]; exact Cond.cls l
@[go_sem] theorem Rule.cl (r : Rule) : D.clL r.c = true := by
  simp [Rule.c, D.clL, D.cl, dI, dLI_cl, edgesG_cl, slots_cl, tests_cl, conds_cl]
@[go_sem] theorem rules_cl (l : List Rule) : D.clLL (l.map Rule.c) = true := clLL_map _ Rule.cl l
end Go.Abs
end
section
set_option maxRecDepth 4000
open Go Go.Proofs
namespace Go.Abs
attribute [go_sem] Slot.c Test.c Pattern.c Pattern.d Part.c Part.d Stage.c
theorem own_split {P : Program} {f : FuncId} {ty : TypeId} {sz : Nat} (h0 : Own P f [.nil] ty sz []) (h1 : Own P f [.ne] ty sz []) : Own P f [.list []] ty sz [] := by
  refine ⟨h0.1, fun M w vals hM ha => ?_⟩
  obtain ⟨hl, hr⟩ := ha
  match vals, hl with
  | [v], _ =>
    have hv := hr 0 v _ rfl rfl
    cases hv with
    | listN => exact h0.2 M w _ hM ⟨rfl, fun j u d hu hd => by
      match j with
      | 0 => simp at hu hd; subst hu; subst hd; exact .nil
      | j + 1 => simp at hu⟩
    | list ad cap sz xs es hc hm => exact h1.2 M w _ hM ⟨rfl, fun j u d hu hd => by
      match j with
      | 0 => simp at hu hd; subst hu; subst hd; exact .ne ad cap hm
      | j + 1 => simp at hu⟩
theorem clone_int0 : Own Tryz.prog 133 [.nil] 3 1 [] := by
  refine Tz.oK ⟨fun t => t == 2 || t == 5, fun _ => []⟩ Tryz.func133 rfl (fun Q hQ => ?_)
  try simp [go_sem, seval]
  exact hQ _ _ _ (by simp [go_sem] <;> first | omega | (rw [bei]; simp <;> omega) | (simp_all <;> omega)) (by simp [go_sem] <;> first | omega | (rw [bei]; simp <;> omega) | (simp_all <;> omega))
theorem clone_intE : Own Tryz.prog 133 [.ne] 3 1 [] := by
  refine Tz.oK ⟨fun t => t == 2 || t == 5, fun _ => []⟩ Tryz.func133 rfl (fun Q hQ => ?_)
  try simp [go_sem, seval]
  repeat (first | intro _ | (refine ⟨obl, ?_⟩))
  exact hQ _ _ _ (by simp [go_sem] <;> first | omega | (rw [bei]; simp <;> omega) | (simp_all <;> omega)) (by simp [go_sem] <;> first | omega | (rw [bei]; simp <;> omega) | (simp_all <;> omega))
theorem clone_intC (l : List Int) (hl : l.length ≤ 1000000) (hne : l ≠ []) : Own Tryz.prog 133 [.list (l.map cI)] 3 1 (l.map cI) := by
  refine Tz.oK ⟨fun t => t == 2 || t == 5, fun _ => []⟩ Tryz.func133 rfl (fun Q hQ => ?_)
  try simp [go_sem, seval, hne]
  repeat (first | intro _ | (refine ⟨obl, ?_⟩))
  exact hQ _ _ _ (by simp [go_sem, hne] <;> first | omega | (rw [bei]; simp <;> omega) | (simp_all <;> omega)) (by simp [go_sem, hne] <;> first | omega | (rw [bei]; simp <;> omega) | (simp_all <;> omega))
theorem clone_int (l : List Int) (hl : l.length ≤ 1000000) : Own Tryz.prog 133 [.list (l.map cI)] 3 1 (l.map cI) := by
  by_cases hne : l = []
  · subst hne; exact own_split clone_int0 clone_intE
  · exact clone_intC l hl hne
theorem clone_str0 : Own Tryz.prog 235 [.nil] 9 1 [] := by
  refine Tz.oK ⟨fun t => t == 2 || t == 5, fun _ => []⟩ Tryz.func235 rfl (fun Q hQ => ?_)
  try simp [go_sem, seval]
  exact hQ _ _ _ (by simp [go_sem] <;> first | omega | (rw [bei]; simp <;> omega) | (simp_all <;> omega)) (by simp [go_sem] <;> first | omega | (rw [bei]; simp <;> omega) | (simp_all <;> omega))
theorem clone_strE : Own Tryz.prog 235 [.ne] 9 1 [] := by
  refine Tz.oK ⟨fun t => t == 2 || t == 5, fun _ => []⟩ Tryz.func235 rfl (fun Q hQ => ?_)
  try simp [go_sem, seval]
  repeat (first | intro _ | (refine ⟨obl, ?_⟩))
  exact hQ _ _ _ (by simp [go_sem] <;> first | omega | (rw [bei]; simp <;> omega) | (simp_all <;> omega)) (by simp [go_sem] <;> first | omega | (rw [bei]; simp <;> omega) | (simp_all <;> omega))
theorem clone_strC (l : List ByteArray) (hl : l.length ≤ 1000000) (hne : l ≠ []) : Own Tryz.prog 235 [.list (l.map cS)] 9 1 (l.map cS) := by
  refine Tz.oK ⟨fun t => t == 2 || t == 5, fun _ => []⟩ Tryz.func235 rfl (fun Q hQ => ?_)
  try simp [go_sem, seval, hne]
  repeat (first | intro _ | (refine ⟨obl, ?_⟩))
  exact hQ _ _ _ (by simp [go_sem, hne] <;> first | omega | (rw [bei]; simp <;> omega) | (simp_all <;> omega)) (by simp [go_sem, hne] <;> first | omega | (rw [bei]; simp <;> omega) | (simp_all <;> omega))
theorem clone_str (l : List ByteArray) (hl : l.length ≤ 1000000) : Own Tryz.prog 235 [.list (l.map cS)] 9 1 (l.map cS) := by
  by_cases hne : l = []
  · subst hne; exact own_split clone_str0 clone_strE
  · exact clone_strC l hl hne
def attrsT (t : Types) (a : Int) : List Attr := if given2F t a a = 0 then t.attrs a.toNat else []
theorem given_one (t : Types) (a : Int) : givenF t [a] = given2F t a a := by
  unfold givenF given2F; cases ha : insideF t a <;> simp [ha]
theorem given2_one {t : Types} {a : Int} (h : given2F t a a = 0) : t.valid ∧ 0 ≤ a ∧ a < t.nodes.length := ⟨(given2_zero h).1, (given2_zero h).2.1⟩
theorem types_Attrs (t : Types) (ht : t.ok) (a : Int) : Pure Tryz.prog 163 [t.d, dI a] (.tup [.list ((attrsT t a).map Attr.c), dI (given2F t a a)]) := by
  refine Tz.pK ⟨fun _ => false, fun _ => []⟩ Tryz.func163 rfl (fun Q hQ => ?_)
  try simp [go_sem, seval]
  refine callQ_pure0 (types_given t ht [a]) ((by first | rfl | (simp [go_sem, ← List.map_take, ← List.map_drop]; done))) ?_
  try simp [go_sem, seval]
  refine condQ_mk (fun h2 => ?_) (fun h2 => ?_)
  · try simp [go_sem] at h2
    rw [given_one] at h2
    try simp [go_sem, seval]
    exact hQ _ _ (by first | (left; (simp [go_sem, given_one, attrsT, h2]); done) | (right; (simp [go_sem, given_one, attrsT, h2]); done))
  · try simp [go_sem] at h2
    rw [given_one] at h2
    obtain ⟨hv, h0, h1⟩ := given2_one h2
    have hat := types_attrs t ht a.toNat (by omega) (hv.parentsOK _)
    rw [Int.toNat_of_nonneg h0] at hat
    have hok : ∀ x ∈ t.attrs a.toNat, x.ok := attrsF_ok t.nodes ht.nodes _ _
    have hl8 := hv.attrs a.toNat (by omega)
    try simp [go_sem, seval]
    refine callQ_own0 (hat) ((by first | rfl | (simp [go_sem, ← List.map_take, ← List.map_drop]; done))) ?_
    try simp [go_sem, seval]
    repeat (first | intro _ | (refine ⟨obl, ?_⟩))
    obtain ⟨I0, hI0⟩ := mkI fun i e H => ((e 2 = .adr t.c) ∧ (e 1 = dI a) ∧ (e 7 = .own 0 (t.attrs a.toNat).length) ∧ (e 20 = dI (t.attrs a.toNat).length) ∧ (e 21 = dI i) ∧ (H.get 0 = some ⟨128, 4, (t.attrs a.toNat).map Attr.c, false⟩) ∧ (0 < H.next) ∧ (i ≤ (t.attrs a.toNat).length))
    refine loopK I0 (fun i => (t.attrs a.toNat).length - i) (0) ((hI0 _ _ _).2 ⟨?_, ?_, ?_, ?_, ?_, (by (simp [go_sem])), ?_, (by first | assumption | omega | (simp [go_sem]; done) | (simp_all; done))⟩) ?_
    iterate 6 (first | omega | (simp [go_sem, seval] <;> omega))
    intro i e H hi0
    obtain ⟨q2_0, q1_0, q7_0, q20_0, q21_0, g0_0, n0_0, hi⟩ := (hI0 _ _ _).1 hi0
    have x0 := frs n0_0
    have F0 := And.intro q2_0 (And.intro q1_0 (And.intro q7_0 (And.intro q20_0 (And.intro q21_0 x0))))
    try simp [go_sem, seval, F0, g0_0]
    refine condQ_mk (fun h6 => ?_) (fun h6 => ?_)
    ·try simp [go_sem] at h6
     have hset : ((t.attrs a.toNat).map Attr.c).set i (((t.attrs a.toNat).map Attr.c)[i]'(by simpa using h6)) = (t.attrs a.toNat).map Attr.c := List.set_getElem_self _
     simp [go_sem] at hset
     try simp [go_sem, seval, F0, g0_0, h6]
     repeat (first | intro _ | (refine ⟨obl, ?_⟩))
     refine callQ_pure0 ((clone_str (t.attrs a.toNat)[i].names (by have := (hok _ (lgm h6)).few; omega)).pure) ((by first | rfl | (simp [go_sem, ← List.map_take, ← List.map_drop, F0, g0_0, h6]; done))) ?_
     try simp [go_sem, seval, F0, g0_0, h6]
     repeat (first | intro _ | (refine ⟨obl, ?_⟩))
     refine nextQ_mk (i + 1) (by omega) ((hI0 _ _ _).2 ⟨?_, ?_, ?_, ?_, ?_, (by (simp [go_sem, g0_0, hset])), ?_, (by first | assumption | omega | (simp [go_sem, F0, g0_0, h6, h2]; done) | (simp_all <;> omega))⟩) <;> first | omega | (simp [go_sem, seval, F0, g0_0, h6] <;> omega)
    ·try simp [go_sem] at h6
     try simp [go_sem, seval, F0, g0_0]
     exact hQ _ _ (by first | (left; (simp [go_sem, g0_0, attrsT, h2]); done) | (right; (simp [go_sem, g0_0, attrsT, h2]); done))
end Go.Abs
end
section
set_option maxRecDepth 4000
open Go Go.Proofs
namespace Go.Abs
theorem ref04_Attrs (t : Types) (ht : t.ok) (a : Int) : Pure Tryz.prog 109 [t.d, dI a] (.tup [.list ((attrsT t a).map Attr.c), dI (given2F t a a)]) := by
  refine Tz.pK ⟨fun t => t == 7 || t == 10 || t == 31 || t == 1000000, fun _ => []⟩ Tryz.func109 rfl (fun Q hQ => ?_)
  try simp [go_sem, seval]
  refine callQ_pure0 (ref04_given t ht a a) ((by first | rfl | (simp [go_sem, ← List.map_take, ← List.map_drop]; done))) ?_
  try simp [go_sem, seval]
  refine condQ_mk (fun h2 => ?_) (fun h2 => ?_)
  · try simp [go_sem] at h2
    try simp [go_sem, seval]
    exact hQ _ _ (by first | (left; (simp [go_sem, attrsT, h2]); done) | (right; (simp [go_sem, attrsT, h2]); done))
  · try simp [go_sem] at h2
    obtain ⟨hv, h0, h1⟩ := given2_one h2
    have hat := ref04_attrs t ht a.toNat (by omega) (hv.parentsOK _)
    rw [Int.toNat_of_nonneg h0] at hat
    have hok : ∀ x ∈ t.attrs a.toNat, x.ok := attrsF_ok t.nodes ht.nodes _ _
    have hl8 := hv.attrs a.toNat (by omega)
    try simp [go_sem, seval]
    refine callQ_pure0 (hat) ((by first | rfl | (simp [go_sem, ← List.map_take, ← List.map_drop]; done))) ?_
    try simp [go_sem, seval]
    obtain ⟨I0, hI0⟩ := mkI fun i e H => ((e 2 = .adr t.c) ∧ (e 1 = dI a) ∧ (e 7 = .own 0 ((t.attrs a.toNat).take i).length) ∧ (e 8 = .list ((t.attrs a.toNat).map Attr.c)) ∧ (e 9 = dI i) ∧ (H.get 0 = some ⟨128, 4, ((t.attrs a.toNat).take i).map Attr.c, false⟩) ∧ (0 < H.next) ∧ (i ≤ (t.attrs a.toNat).length))
    refine loopK I0 (fun i => (t.attrs a.toNat).length - i) (0) ((hI0 _ _ _).2 ⟨?_, ?_, ?_, ?_, ?_, (by (simp [go_sem])), ?_, (by first | assumption | omega | (simp [go_sem]; done) | (simp_all; done))⟩) ?_
    iterate 6 (first | omega | (simp [go_sem, seval] <;> omega))
    intro i e H hi0
    obtain ⟨q2_0, q1_0, q7_0, q8_0, q9_0, g0_0, n0_0, hi⟩ := (hI0 _ _ _).1 hi0
    have x0 := frs n0_0
    have F0 := And.intro q2_0 (And.intro q1_0 (And.intro q7_0 (And.intro q8_0 (And.intro q9_0 x0))))
    try simp [go_sem, seval, F0, g0_0]
    repeat (first | intro _ | (refine ⟨obl, ?_⟩))
    refine condQ_mk (fun h7 => ?_) (fun h7 => ?_)
    ·try simp [go_sem] at h7
     have hts := List.take_succ_eq_append_getElem (l := (t.attrs a.toNat).map Attr.c) (i := i) (by simpa using h7)
     simp [go_sem] at hts
     have hfw := (hok _ (lgm h7)).few
     try simp [go_sem, seval, F0, g0_0, h7]
     repeat (first | intro _ | (refine ⟨obl, ?_⟩))
     refine nextQ_mk (i + 1) (by omega) ((hI0 _ _ _).2 ⟨?_, ?_, ?_, ?_, ?_, (by (simp [go_sem, g0_0, hts])), ?_, (by first | assumption | omega | (simp [go_sem, F0, g0_0, h7, h2]; done) | (simp_all <;> omega))⟩) <;> first | omega | (simp [go_sem, seval, F0, g0_0, h7] <;> omega)
    ·try simp [go_sem] at h7
     try simp [go_sem, seval, F0, g0_0]
     exact hQ _ _ (by first | (left; (simp [go_sem, g0_0, attrsT, h2, show i = (t.attrs a.toNat).length by omega]); done) | (right; (simp [go_sem, g0_0, attrsT, h2, show i = (t.attrs a.toNat).length by omega]); done))
def belowT (t : Types) (a : Int) : List Int := if given2F t a a = 0 then ((List.range t.nodes.length).filter fun (b : Nat) => mem (t.line b) a).map fun (b : Nat) => (b : Int) else []
theorem range_filter_succ (p : Nat → Bool) (i : Nat) : ((List.range (i + 1)).filter p).map (fun (b : Nat) => (b : Int)) = ((List.range i).filter p).map (fun (b : Nat) => (b : Int)) ++ (if p i = true then [(i : Int)] else []) := by
  rw [List.range_succ, List.filter_append, List.map_append]
  congr 1
  by_cases h : p i = true <;> simp [h]
theorem types_Below (t : Types) (ht : t.ok) (a : Int) : Pure Tryz.prog 126 [t.d, dI a] (.tup [dLI (belowT t a), dI (given2F t a a)]) := by
  refine Tz.pK ⟨fun t => t == 7, fun _ => []⟩ Tryz.func126 rfl (fun Q hQ => ?_)
  try simp [go_sem, seval]
  refine callQ_pure0 (types_given t ht [a]) ((by first | rfl | (simp [go_sem, ← List.map_take, ← List.map_drop]; done))) ?_
  try simp [go_sem, seval]
  refine condQ_mk (fun h2 => ?_) (fun h2 => ?_)
  · try simp [go_sem] at h2
    rw [given_one] at h2
    try simp [go_sem, seval]
    exact hQ _ _ (by first | (left; (simp [go_sem, given_one, belowT, h2]); done) | (right; (simp [go_sem, given_one, belowT, h2]); done))
  · try simp [go_sem] at h2
    rw [given_one] at h2
    obtain ⟨hv, h0, h1⟩ := given2_one h2
    have hN := hv.fewN
    try simp [go_sem, seval]
    repeat (first | intro _ | (refine ⟨obl, ?_⟩))
    obtain ⟨I0, hI0⟩ := mkI fun i e H => (∃ xs : List Int, (e 2 = .adr t.c) ∧ (e 1 = dI a) ∧ (e 7 = .own 0 xs.length) ∧ (e 18 = dI t.nodes.length) ∧ (e 19 = dI i) ∧ (H.get 0 = some ⟨3, 1, xs.map cI, false⟩) ∧ (0 < H.next) ∧ (i ≤ t.nodes.length) ∧ (xs.length ≤ i) ∧ (xs = ((List.range i).filter fun (b : Nat) => mem (t.line b) a).map (fun (b : Nat) => (b : Int))))
    refine loopK I0 (fun i => t.nodes.length - i) (0) ((hI0 _ _ _).2 ⟨([]), ?_, ?_, ?_, ?_, ?_, ?_, ?_, (by first | assumption | omega | (simp [go_sem]; done) | (simp_all; done)), (by simp), (by rfl)⟩) ?_
    iterate 7 (first | omega | (simp [go_sem, seval] <;> omega))
    intro i e H hi0
    obtain ⟨xs, q2_0, q1_0, q7_0, q18_0, q19_0, g0_0, n0_0, hi, hl, hx⟩ := (hI0 _ _ _).1 hi0
    have x0 := frs n0_0
    have F0 := And.intro q2_0 (And.intro q1_0 (And.intro q7_0 (And.intro q18_0 (And.intro q19_0 x0))))
    try simp [go_sem, seval, F0, g0_0]
    refine condQ_mk (fun h6 => ?_) (fun h6 => ?_)
    ·try simp [go_sem] at h6
     try simp [go_sem, seval, F0, g0_0, h6]
     refine callQ_pure0 (types_is t ht hv i a (by omega) (by omega)) ((by first | rfl | (simp [go_sem, ← List.map_take, ← List.map_drop, F0, g0_0, h6]; done))) ?_
     try simp [go_sem, seval, F0, g0_0, h6]
     refine condQ_mk (fun h8 => ?_) (fun h8 => ?_)
     ·try simp [go_sem] at h8
      try simp [go_sem, seval, F0, g0_0, h6, h8]
      repeat (first | intro _ | (refine ⟨obl, ?_⟩))
      refine nextQ_mk (i + 1) (by omega) ((hI0 _ _ _).2 ⟨(xs ++ (if mem (t.line i) a = true then [(i : Int)] else [])), ?_, ?_, ?_, ?_, ?_, ?_, ?_, (by first | assumption | omega | (simp [go_sem, F0, g0_0, h6, h8, h2]; done) | (simp_all <;> omega)), (by (rw [List.length_append]; split <;> simp <;> omega)), (by (rw [range_filter_succ, ← hx]))⟩) <;> first | omega | (simp [go_sem, seval, F0, g0_0, h6, h8] <;> omega)
     ·try simp [go_sem] at h8
      try simp [go_sem, seval, F0, g0_0, h6, h8]
      repeat (first | intro _ | (refine ⟨obl, ?_⟩))
      refine nextQ_mk (i + 1) (by omega) ((hI0 _ _ _).2 ⟨(xs ++ (if mem (t.line i) a = true then [(i : Int)] else [])), ?_, ?_, ?_, ?_, ?_, ?_, ?_, (by first | assumption | omega | (simp [go_sem, F0, g0_0, h6, h8, h2]; done) | (simp_all <;> omega)), (by (rw [List.length_append]; split <;> simp <;> omega)), (by (rw [range_filter_succ, ← hx]))⟩) <;> first | omega | (simp [go_sem, seval, F0, g0_0, h6, h8] <;> omega)
    ·try simp [go_sem] at h6
     try simp [go_sem, seval, F0, g0_0]
     exact hQ _ _ (by first | (left; (simp [go_sem, g0_0, belowT, h2]; rw [hx, show i = t.nodes.length by omega]; simp); done) | (right; (simp [go_sem, g0_0, belowT, h2]; rw [hx, show i = t.nodes.length by omega]; simp); done))
end Go.Abs
end
section
set_option maxRecDepth 4000
open Go Go.Proofs
namespace Go.Abs
def listE {α : Type} (f : α → Int) : List α → Int
  | [] => 0
  | x :: l => if f x ≠ 0 then f x else listE f l
theorem listE_step {α : Type} (f : α → Int) {l : List α} {i : Nat} (h : i < l.length) : listE f (l.drop i) = if f l[i] ≠ 0 then f l[i] else listE f (l.drop (i + 1)) := by
  rw [List.drop_eq_getElem_cons h]; rfl
theorem listE_end {α : Type} (f : α → Int) {l : List α} {i : Nat} (h : ¬ i < l.length) : listE f (l.drop i) = 0 := by
  rw [List.drop_eq_nil_of_le (by omega)]; rfl
def termB (n : Int) (x : Term) : Bool := decide (-1 ≤ x.var) && decide (x.var < n) && decide (-1000000 ≤ x.add) && decide (x.add ≤ 1000000)
theorem difference_term (n : Int) (x : Term) : Pure Tryz.prog 236 [dI n, .agg [dI x.var, dI x.add]] (.bool (termB n x)) := by
  refine Tz.pK ⟨fun _ => false, fun _ => []⟩ Tryz.func236 rfl (fun Q hQ => ?_)
  try simp [go_sem, seval]
  repeat (first | intro _ | (refine ⟨obl, ?_⟩))
  exact hQ _ _ (by simp [go_sem, termB] <;> first | omega | (rw [bei]; simp <;> omega) | (simp_all <;> omega))
def testE (n : Int) (x : Test) : Int := if x.kind ≠ 1 ∧ x.kind ≠ 2 then 1 else if (termB n x.left && termB n x.right) = true then 0 else 6
theorem difference_one (n : Int) (x : Test) : Pure Tryz.prog 164 [dI n, .agg x.c] (dI (testE n x)) := by
  refine Tz.pK ⟨fun _ => false, fun _ => []⟩ Tryz.func164 rfl (fun Q hQ => ?_)
  try simp [go_sem, seval]
  repeat (first | intro _ | (refine ⟨obl, ?_⟩))
  refine condQ_mk (fun h1 => ?_) (fun h1 => ?_)
  · try simp [go_sem] at h1
    try simp [go_sem, seval]
    exact hQ _ _ (by first | (left; (simp [go_sem, testE]; omega); done) | (right; (simp [go_sem, testE]; omega); done))
  · try simp [go_sem] at h1
    try simp [go_sem, seval]
    repeat (first | intro _ | (refine ⟨obl, ?_⟩))
    refine callQ_pure0 (difference_term n x.left) ((by first | rfl | (simp [go_sem, ← List.map_take, ← List.map_drop]; done))) ?_
    try simp [go_sem, seval]
    repeat (first | intro _ | (refine ⟨obl, ?_⟩))
    refine gcallQ_pure0 (fun hg => difference_term n x.right) (fun hg => (by first | rfl | (simp [go_sem, ← List.map_take, ← List.map_drop]; done))) ?_
    try simp [go_sem, seval]
    repeat (first | intro _ | (refine ⟨obl, ?_⟩))
    refine condQ_mk (fun h3 => ?_) (fun h3 => ?_)
    ·try simp [go_sem] at h3
     try simp [go_sem, seval]
     exact hQ _ _ (by first | (left; (revert h3; cases ha : termB n x.left <;> cases hb : termB n x.right <;> simp [go_sem, testE, ha, hb] <;> omega); done) | (right; (revert h3; cases ha : termB n x.left <;> cases hb : termB n x.right <;> simp [go_sem, testE, ha, hb] <;> omega); done))
    ·try simp [go_sem] at h3
     try simp [go_sem, seval]
     exact hQ _ _ (by first | (left; (revert h3; cases ha : termB n x.left <;> cases hb : termB n x.right <;> simp [go_sem, testE, ha, hb] <;> omega); done) | (right; (revert h3; cases ha : termB n x.left <;> cases hb : termB n x.right <;> simp [go_sem, testE, ha, hb] <;> omega); done))
def testsF (n : Int) (l : List Test) : Int := if n < 0 ∨ 12 < n then 6 else if 40 < l.length then 3 else listE (testE n) l
theorem difference_Valid (n : Int) (l : List Test) : Pure Tryz.prog 85 [dI n, .list (l.map Test.c)] (dI (testsF n l)) := by
  refine Tz.pK ⟨fun t => t == 6, fun _ => []⟩ Tryz.func85 rfl (fun Q hQ => ?_)
  try simp [go_sem, seval]
  repeat (first | intro _ | (refine ⟨obl, ?_⟩))
  refine condQ_mk (fun h1 => ?_) (fun h1 => ?_)
  · try simp [go_sem] at h1
    try simp [go_sem, seval]
    exact hQ _ _ (by first | (left; (simp [go_sem, testsF]; omega); done) | (right; (simp [go_sem, testsF]; omega); done))
  · try simp [go_sem] at h1
    try simp [go_sem, seval]
    repeat (first | intro _ | (refine ⟨obl, ?_⟩))
    refine condQ_mk (fun h3 => ?_) (fun h3 => ?_)
    ·try simp [go_sem] at h3
     try simp [go_sem, seval]
     exact hQ _ _ (by first | (left; (simp [go_sem, testsF]; omega); done) | (right; (simp [go_sem, testsF]; omega); done))
    ·try simp [go_sem] at h3
     try simp [go_sem, seval]
     repeat (first | intro _ | (refine ⟨obl, ?_⟩))
     obtain ⟨I0, hI0⟩ := mkI fun i e H => ((e 0 = dI n) ∧ (e 17 = .list (l.map Test.c)) ∧ (e 18 = dI l.length) ∧ (e 19 = dI i) ∧ (i ≤ l.length) ∧ (listE (testE n) (l.drop i) = testsF n l))
     refine loopK I0 (fun i => l.length - i) (0) ((hI0 _ _ _).2 ⟨?_, ?_, ?_, ?_, (by first | assumption | omega | (simp [go_sem]; done) | (simp_all; done)), (by (rw [testsF, if_neg (by omega), if_neg (by omega)]; rfl))⟩) ?_
     iterate 4 (first | omega | (simp [go_sem, seval] <;> omega))
     intro i e H hi0
     obtain ⟨q0_0, q17_0, q18_0, q19_0, hi, hF⟩ := (hI0 _ _ _).1 hi0
     have F0 := And.intro q0_0 (And.intro q17_0 (And.intro q18_0 q19_0))
     try simp [go_sem, seval, F0]
     refine condQ_mk (fun h6 => ?_) (fun h6 => ?_)
     ·try simp [go_sem] at h6
      have hst := hF
      rw [listE_step _ h6] at hst
      try simp [go_sem, seval, F0, h6]
      repeat (first | intro _ | (refine ⟨obl, ?_⟩))
      refine callQ_pure0 (difference_one n l[i]) ((by first | rfl | (simp [go_sem, ← List.map_take, ← List.map_drop, F0, h6]; done))) ?_
      try simp [go_sem, seval, F0, h6]
      repeat (first | intro _ | (refine ⟨obl, ?_⟩))
      refine condQ_mk (fun h9 => ?_) (fun h9 => ?_)
      ·try simp [go_sem] at h9
       try simp [go_sem, seval, F0, h6]
       exact hQ _ _ (by first | (left; (rw [if_pos (by simpa using h9)] at hst; simp [go_sem, hst]); done) | (right; (rw [if_pos (by simpa using h9)] at hst; simp [go_sem, hst]); done))
      ·try simp [go_sem] at h9
       try simp [go_sem, seval, F0, h6]
       repeat (first | intro _ | (refine ⟨obl, ?_⟩))
       refine nextQ_mk (i + 1) (by omega) ((hI0 _ _ _).2 ⟨?_, ?_, ?_, ?_, (by first | assumption | omega | (simp [go_sem, F0, h6, h1, h3, h9]; done) | (simp_all <;> omega)), (by (rw [if_neg (by simp [h9])] at hst; exact hst))⟩) <;> first | omega | (simp [go_sem, seval, F0, h6] <;> omega)
     ·try simp [go_sem] at h6
      try simp [go_sem, seval, F0]
      exact hQ _ _ (by first | (left; (rw [← hF, listE_end _ (by omega)]; simp [go_sem]); done) | (right; (rw [← hF, listE_end _ (by omega)]; simp [go_sem]); done))
theorem attribute_within (n low high : Int) : Pure Tryz.prog 83 [dI n, dI low, dI high] (.bool (inF n low high)) := by
  refine Tz.pK ⟨fun _ => false, fun _ => []⟩ Tryz.func83 rfl (fun Q hQ => ?_)
  try simp [go_sem, seval]
  repeat (first | intro _ | (refine ⟨obl, ?_⟩))
  exact hQ _ _ (by simp [go_sem, inF] <;> first | omega | (rw [bei]; simp <;> omega) | (simp_all <;> omega))
def zeroAttr : Attr := ⟨⟨#[]⟩, 0, 0, []⟩
def Pattern.kind (p : Pattern) (node : Int) : Int := p.graph.nodes[node.toNat]?.getD 0
def attrB (t : Types) (p : Pattern) (node attr : Int) : Bool := decide (0 ≤ node) && decide (node < p.graph.nodes.length) && (decide (0 ≤ attr) && decide (attr < (attrsT t (p.kind node)).length))
def attrV (t : Types) (p : Pattern) (node attr : Int) : Attr := if attrB t p node attr = true then (attrsT t (p.kind node))[attr.toNat]?.getD zeroAttr else zeroAttr
theorem attrsT_len {t : Types} (ht : t.ok) (a : Int) : (attrsT t a).length ≤ 8 := by
  unfold attrsT
  split
  · rename_i h
    obtain ⟨hv, h0, h1⟩ := given2_one h
    exact hv.attrs _ (by omega)
  · simp
theorem attribute_attr (t : Types) (ht : t.ok) (p : Pattern) (hp : p.graph.nodes.length ≤ 1000) (s : Slot) : Pure Tryz.prog 84 [t.d, p.d, .agg s.c] (.tup [.agg (attrV t p s.node s.attr).c, .bool (attrB t p s.node s.attr)]) := by
  have h8 := attrsT_len ht (p.kind s.node)
  refine Tz.pK ⟨fun t => t == 6, fun _ => []⟩ Tryz.func84 rfl (fun Q hQ => ?_)
  try simp [go_sem, seval]
  repeat (first | intro _ | (refine ⟨obl, ?_⟩))
  refine callQ_pure0 (attribute_within _ _ _) ((by first | rfl | (simp [go_sem, ← List.map_take, ← List.map_drop]; done))) ?_
  try simp [go_sem, seval]
  repeat (first | intro _ | (refine ⟨obl, ?_⟩))
  refine condQ_mk (fun h1 => ?_) (fun h1 => ?_)
  · try simp [go_sem] at h1
    simp [inF] at h1
    have hB : attrB t p s.node s.attr = false := by rw [Bool.eq_false_iff]; intro h; simp [attrB] at h; omega
    try simp [go_sem, seval]
    exact hQ _ _ (by first | (left; (simp [go_sem, attrV, hB, zeroAttr]); done) | (right; (simp [go_sem, attrV, hB, zeroAttr]); done))
  · try simp [go_sem] at h1
    simp [inF] at h1
    have hn : s.node.toNat < p.graph.nodes.length := by omega
    have hk : p.kind s.node = p.graph.nodes[s.node.toNat] := by simp [Pattern.kind, hn]
    rw [hk] at h8
    try simp [go_sem, seval, lge hn, hk]
    repeat (first | intro _ | (refine ⟨obl, ?_⟩))
    refine dcallQ_pure0 (types_Attrs t ht p.graph.nodes[s.node.toNat]) ((by first | rfl | (simp [go_sem, ← List.map_take, ← List.map_drop, lge hn, hk]; done))) ?_
    try simp [go_sem, seval, lge hn, hk]
    repeat (first | intro _ | (refine ⟨obl, ?_⟩))
    refine callQ_pure0 (attribute_within _ _ _) ((by first | rfl | (simp [go_sem, ← List.map_take, ← List.map_drop, lge hn, hk]; done))) ?_
    try simp [go_sem, seval, lge hn, hk]
    repeat (first | intro _ | (refine ⟨obl, ?_⟩))
    refine condQ_mk (fun h4 => ?_) (fun h4 => ?_)
    ·try simp [go_sem] at h4
     simp [inF] at h4
     have hB : attrB t p s.node s.attr = false := by rw [Bool.eq_false_iff]; intro h; simp [attrB, hk] at h; omega
     try simp [go_sem, seval, lge hn, hk]
     exact hQ _ _ (by first | (left; (simp [go_sem, attrV, hB, zeroAttr]); done) | (right; (simp [go_sem, attrV, hB, zeroAttr]); done))
    ·try simp [go_sem] at h4
     simp [inF] at h4
     have ha : s.attr.toNat < (attrsT t p.graph.nodes[s.node.toNat]).length := by omega
     have hB : attrB t p s.node s.attr = true := by simp [attrB, hk]; omega
     try simp [go_sem, seval, lge hn, hk, lge ha]
     repeat (first | intro _ | (refine ⟨obl, ?_⟩))
     exact hQ _ _ (by first | (left; (simp [go_sem, attrV, hB, hk, lge ha]); done) | (right; (simp [go_sem, attrV, hB, hk, lge ha]); done))
end Go.Abs
end
section
set_option maxRecDepth 4000
open Go Go.Proofs
namespace Go.Abs
def cB (b : Bool) : List D := [.bool b]
@[go_sem] theorem bools_cl (l : List Bool) : D.clLL (l.map cB) = true := clLL_map cB (fun _ => rfl) l
attribute [go_sem] cB
theorem index_bool (xs : List Bool) (v : Bool) : Pure Tryz.prog 165 [.list (xs.map cB), .bool v] (dI (idx xs v)) := by
  refine Tz.pK ⟨fun _ => false, fun _ => []⟩ Tryz.func165 rfl (fun Q hQ => ?_)
  try simp [go_sem, seval]
  repeat (first | intro _ | (refine ⟨obl, ?_⟩))
  obtain ⟨I0, hI0⟩ := mkI fun i e H => ((e 0 = .list (xs.map cB)) ∧ (e 1 = .bool v) ∧ (e 7 = dI xs.length) ∧ (e 8 = dI i) ∧ (i ≤ xs.length) ∧ (∀ j, j < i → xs[j]? ≠ some v))
  refine loopK I0 (fun i => xs.length - i) (0) ((hI0 _ _ _).2 ⟨?_, ?_, ?_, ?_, (by first | assumption | omega | (simp [go_sem]; done) | (simp_all; done)), (by intro j hj; omega)⟩) ?_
  iterate 4 (first | omega | (simp [go_sem, seval] <;> omega))
  intro i e H hi0
  obtain ⟨q0_0, q1_0, q7_0, q8_0, hi, hne⟩ := (hI0 _ _ _).1 hi0
  have F0 := And.intro q0_0 (And.intro q1_0 (And.intro q7_0 q8_0))
  try simp [go_sem, seval, F0]
  refine condQ_mk (fun h2 => ?_) (fun h2 => ?_)
  · try simp [go_sem] at h2
    try simp [go_sem, seval, F0, h2]
    repeat (first | intro _ | (refine ⟨obl, ?_⟩))
    refine condQ_mk (fun h4 => ?_) (fun h4 => ?_)
    ·try simp [go_sem] at h4
     try simp [go_sem, seval, F0, h2]
     exact hQ _ _ (by first | (left; (rw [idx_some hne (by rw [lge h2, h4])]; simp [go_sem]); done) | (right; (rw [idx_some hne (by rw [lge h2, h4])]; simp [go_sem]); done))
    ·try simp [go_sem] at h4
     try simp [go_sem, seval, F0, h2]
     repeat (first | intro _ | (refine ⟨obl, ?_⟩))
     refine nextQ_mk (i + 1) (by omega) ((hI0 _ _ _).2 ⟨?_, ?_, ?_, ?_, (by first | assumption | omega | (simp [go_sem, F0, h2, h4]; done) | (simp_all <;> omega)), (by (exact all_lt_succ hne (by rw [lge h2]; simpa using fun h => h4 h.symm)))⟩) <;> first | omega | (simp [go_sem, seval, F0, h2] <;> omega)
  · try simp [go_sem] at h2
    try simp [go_sem, seval, F0]
    exact hQ _ _ (by first | (left; (rw [idx_none fun j hj => hne j (by omega)]; simp [go_sem]); done) | (right; (rw [idx_none fun j hj => hne j (by omega)]; simp [go_sem]); done))
theorem contains_bool (xs : List Bool) (v : Bool) : Pure Tryz.prog 86 [.list (xs.map cB), .bool v] (.bool (mem xs v)) := by
  refine Tz.pK ⟨fun _ => false, fun _ => []⟩ Tryz.func86 rfl (fun Q hQ => ?_)
  try simp [go_sem, seval]
  refine callQ_pure0 (index_bool xs v) ((by first | rfl | (simp [go_sem, ← List.map_take, ← List.map_drop]; done))) ?_
  try simp [go_sem, seval]
  exact hQ _ _ (by simp [go_sem, mem] <;> first | omega | (rw [bei]; simp <;> omega) | (simp_all <;> omega))
def typedB (t : Types) (g : Graph) : Bool := (!(g.nodes.any fun n => decide ((t.nodes.length : Int) ≤ n))) && !(g.edges.any fun x => decide ((t.edges.length : Int) ≤ x.type))
theorem attribute_Valid1 (t : Types) (a : Int) : Pure Tryz.prog 80 [dI a, .adr t.c] (.bool (decide ((t.nodes.length : Int) ≤ a))) := by
  refine Tz.pK ⟨fun _ => false, fun _ => []⟩ Tryz.func80 rfl (fun Q hQ => ?_)
  try simp [go_sem, seval]
  repeat (first | intro _ | (refine ⟨obl, ?_⟩))
  exact hQ _ _ (by simp [go_sem] <;> first | omega | (rw [bei]; simp <;> omega) | (simp_all <;> omega))
theorem attribute_Valid2 (t : Types) (x : Edge) : Pure Tryz.prog 82 [.agg x.c, .adr t.c] (.bool (decide ((t.edges.length : Int) ≤ x.type))) := by
  refine Tz.pK ⟨fun _ => false, fun _ => []⟩ Tryz.func82 rfl (fun Q hQ => ?_)
  try simp [go_sem, seval]
  repeat (first | intro _ | (refine ⟨obl, ?_⟩))
  exact hQ _ _ (by simp [go_sem] <;> first | omega | (rw [bei]; simp <;> omega) | (simp_all <;> omega))
def usedL (n : Nat) (l : List Slot) : List Bool := (List.range n).map fun (v : Nat) => l.any fun s => decide (s.term.var = v)
theorem usedL_len (n : Nat) (l : List Slot) : (usedL n l).length = n := by simp [usedL]
theorem usedL_nil (n : Nat) : usedL n [] = List.replicate n false := by
  apply List.ext_getElem (by simp [usedL]); intro i h1 h2; simp [usedL]
theorem usedL_set (n : Nat) (l : List Slot) (s : Slot) (h0 : 0 ≤ s.term.var) (h1 : s.term.var < n) : usedL n (l ++ [s]) = (usedL n l).set s.term.var.toNat true := by
  apply List.ext_getElem (by simp [usedL]); intro i h2 h3
  rw [List.getElem_set]
  simp only [usedL, List.getElem_map, List.getElem_range, List.any_append, List.any_cons, List.any_nil, Bool.or_false]
  split
  · rename_i h; rw [Bool.or_eq_true]; right; simp; omega
  · rename_i h; rw [show decide (s.term.var = (i : Int)) = false by simp; omega, Bool.or_false]
theorem usedL_neg (n : Nat) (l : List Slot) (s : Slot) (h0 : ¬ 0 ≤ s.term.var) : usedL n (l ++ [s]) = usedL n l := by
  apply List.ext_getElem (by simp [usedL]); intro i h2 h3
  simp only [usedL, List.getElem_map, List.getElem_range, List.any_append, List.any_cons, List.any_nil, Bool.or_false]
  rw [show decide (s.term.var = (i : Int)) = false by simp; omega, Bool.or_false]
theorem usedL_step (n : Nat) (l : List Slot) (s : Slot) (h1 : s.term.var < n) : usedL n (l ++ [s]) = if 0 ≤ s.term.var then (usedL n l).set s.term.var.toNat true else usedL n l := by
  split
  · exact usedL_set n l s ‹_› h1
  · exact usedL_neg n l s ‹_›
def slotE (t : Types) (p : Pattern) (s : Slot) : Int := if (attrB t p s.node s.attr && inF s.term.var (-1) (p.vars - 1) && inF s.term.add (-1000000) 1000000) = true then 0 else 6
def patternF (t : Types) (p : Pattern) : Int :=
  if (validF t).2 ≠ 0 then (validF t).2
  else if graphF p.graph ≠ 0 then graphF p.graph
  else if typedB t p.graph = false then 13
  else if inF p.vars 0 12 = false then 6
  else if 10 < p.slots.length ∨ 10 < p.tests.length then 3
  else if listE (slotE t p) p.slots ≠ 0 then 6
  else if testsF p.vars p.tests ≠ 0 then testsF p.vars p.tests
  else if mem (usedL p.vars.toNat p.slots) false = true then 9 else 0
theorem graphF_le {g : Graph} (h : graphF g = 0) : g.nodes.length ≤ 40 ∧ g.edges.length ≤ 80 := by
  unfold graphF at h
  split at h
  · cases h
  · omega
theorem slotE_lt {t : Types} {p : Pattern} {s : Slot} (h : slotE t p s = 0) : s.term.var < p.vars ∧ -1 ≤ s.term.var := by
  unfold slotE at h
  split at h
  · rename_i h1; simp [inF] at h1; omega
  · cases h
theorem attribute_Valid (t : Types) (ht : t.ok) (p : Pattern) : Pure Tryz.prog 37 [t.d, p.d] (dI (patternF t p)) := by
  refine Tz.pK ⟨fun t => t == 10 || t == 11, fun _ => []⟩ Tryz.func37 rfl (fun Q hQ => ?_)
  try simp [go_sem, seval]
  refine callQ_pure0 (types_Valid t ht) ((by first | rfl | (simp [go_sem, ← List.map_take, ← List.map_drop]; done))) ?_
  try simp [go_sem, seval]
  refine condQ_mk (fun h2 => ?_) (fun h2 => ?_)
  · try simp [go_sem] at h2
    try simp [go_sem, seval]
    exact hQ _ _ (by first | (left; (simp [go_sem, patternF, h2]); done) | (right; (simp [go_sem, patternF, h2]); done))
  · try simp [go_sem] at h2
    try simp [go_sem, seval]
    refine callQ_pure0 (graph_Valid p.graph) ((by first | rfl | (simp [go_sem, ← List.map_take, ← List.map_drop]; done))) ?_
    try simp [go_sem, seval]
    refine condQ_mk (fun h5 => ?_) (fun h5 => ?_)
    ·try simp [go_sem] at h5
     try simp [go_sem, seval]
     exact hQ _ _ (by first | (left; (simp [go_sem, patternF, h2, h5]); done) | (right; (simp [go_sem, patternF, h2, h5]); done))
    ·try simp [go_sem] at h5
     have hg := graphF_le h5
     try simp [go_sem, seval]
     repeat (first | intro _ | (refine ⟨obl, ?_⟩))
     refine callQ_pure0 (containsFunc_int p.graph.nodes 80 [.adr t.c] (fun a => decide ((t.nodes.length : Int) ≤ a)) (by simp [go_sem]) (by simp [go_sem]) (fun a _ => attribute_Valid1 t a)) ((by first | rfl | (simp [go_sem, ← List.map_take, ← List.map_drop]; done))) ?_
     try simp [go_sem, seval]
     repeat (first | intro _ | (refine ⟨obl, ?_⟩))
     refine gcallQ_pure0 (fun hg => containsFunc_gedge p.graph.edges 82 [.adr t.c] (fun x => decide ((t.edges.length : Int) ≤ x.type)) (by simp [go_sem]) (by simp [go_sem]) (fun x _ => attribute_Valid2 t x)) (fun hg => (by first | rfl | (simp [go_sem, ← List.map_take, ← List.map_drop]; done))) ?_
     try simp [go_sem, seval]
     repeat (first | intro _ | (refine ⟨obl, ?_⟩))
     refine condQ_mk (fun h7 => ?_) (fun h7 => ?_)
     ·try simp [go_sem] at h7
      have hT : typedB t p.graph = false := by
       simp [typedB]
       intro h'
       rcases h7 with ⟨x, hx, hl⟩ | h
       ·exact absurd (h' x hx) (by omega)
       ·exact h
      try simp [go_sem, seval]
      exact hQ _ _ (by first | (left; (simp [go_sem, patternF, h2, h5, hT]); done) | (right; (simp [go_sem, patternF, h2, h5, hT]); done))
     ·try simp [go_sem] at h7
      have hT : typedB t p.graph = true := by simp [typedB]; exact h7
      try simp [go_sem, seval]
      repeat (first | intro _ | (refine ⟨obl, ?_⟩))
      refine callQ_pure0 (attribute_within _ _ _) ((by first | rfl | (simp [go_sem, ← List.map_take, ← List.map_drop]; done))) ?_
      try simp [go_sem, seval]
      repeat (first | intro _ | (refine ⟨obl, ?_⟩))
      refine condQ_mk (fun h9 => ?_) (fun h9 => ?_)
      ·try simp [go_sem] at h9
       try simp [go_sem, seval]
       exact hQ _ _ (by first | (left; (simp [go_sem, patternF, h2, h5, hT, h9]); done) | (right; (simp [go_sem, patternF, h2, h5, hT, h9]); done))
      ·try simp [go_sem] at h9
       try simp [go_sem, seval]
       repeat (first | intro _ | (refine ⟨obl, ?_⟩))
       refine condQ_mk (fun h11 => ?_) (fun h11 => ?_)
       ·try simp [go_sem] at h11
        try simp [go_sem, seval]
        exact hQ _ _ (by first | (left; (simp [go_sem, patternF, h2, h5, hT, h9]; omega); done) | (right; (simp [go_sem, patternF, h2, h5, hT, h9]; omega); done))
       ·try simp [go_sem] at h11
        have hin := h9
        simp [inF] at hin
        have hF0 : patternF t p = if listE (slotE t p) p.slots ≠ 0 then 6 else if testsF p.vars p.tests ≠ 0 then testsF p.vars p.tests else if mem (usedL p.vars.toNat p.slots) false = true then 9 else 0 := by
         unfold patternF
         rw [if_neg (by simp [h2]), if_neg (by simp [h5]), if_neg (by simp [hT]), if_neg (by simp [h9]), if_neg (by omega)]
        try simp [go_sem, seval]
        repeat (first | intro _ | (refine ⟨obl, ?_⟩))
        obtain ⟨I0, hI0⟩ := mkI fun i e H => ((e 2 = .adr t.c) ∧ (e 3 = .adr p.c) ∧ (e 8 = .own 0 p.vars.toNat) ∧ (e 58 = .list (p.slots.map Slot.c)) ∧ (e 59 = dI p.slots.length) ∧ (e 60 = dI i) ∧ (H.get 0 = some ⟨4, 1, (usedL p.vars.toNat (p.slots.take i)).map cB, false⟩) ∧ (0 < H.next) ∧ (i ≤ p.slots.length) ∧ (listE (slotE t p) (p.slots.drop i) = listE (slotE t p) p.slots))
        refine loopK I0 (fun i => p.slots.length - i) (0) ((hI0 _ _ _).2 ⟨?_, ?_, ?_, ?_, ?_, ?_, (by (simp [go_sem, usedL_nil])), ?_, (by first | assumption | omega | (simp [go_sem]; done) | (simp_all; done)), (by rfl)⟩) ?_
        iterate 7 (first | omega | (simp [go_sem, seval] <;> omega))
        intro i e H hi0
        obtain ⟨q2_0, q3_0, q8_0, q58_0, q59_0, q60_0, g0_0, n0_0, hi, hL⟩ := (hI0 _ _ _).1 hi0
        have x0 := frs n0_0
        have F0 := And.intro q2_0 (And.intro q3_0 (And.intro q8_0 (And.intro q58_0 (And.intro q59_0 (And.intro q60_0 x0)))))
        try simp [go_sem, seval, F0, g0_0, usedL_len]
        refine condQ_mk (fun h15 => ?_) (fun h15 => ?_)
        ·try simp [go_sem] at h15
         have hst := listE_step (slotE t p) h15
         have hts := List.take_succ_eq_append_getElem h15
         try simp [go_sem, seval, F0, g0_0, usedL_len, h15]
         repeat (first | intro _ | (refine ⟨obl, ?_⟩))
         refine callQ_pure0 (attribute_attr t ht p (by omega) p.slots[i]) ((by first | rfl | (simp [go_sem, ← List.map_take, ← List.map_drop, F0, g0_0, usedL_len, h15]; done))) ?_
         try simp [go_sem, seval, F0, g0_0, usedL_len, h15]
         repeat (first | intro _ | (refine ⟨obl, ?_⟩))
         refine gcallQ_pure0 (fun hg => attribute_within _ _ _) (fun hg => (by first | rfl | (simp [go_sem, ← List.map_take, ← List.map_drop, F0, g0_0, usedL_len, h15]; done))) ?_
         try simp [go_sem, seval, F0, g0_0, usedL_len, h15]
         repeat (first | intro _ | (refine ⟨obl, ?_⟩))
         refine gcallQ_pure0 (fun hg => attribute_within _ _ _) (fun hg => (by first | rfl | (simp [go_sem, ← List.map_take, ← List.map_drop, F0, g0_0, usedL_len, h15]; done))) ?_
         try simp [go_sem, seval, F0, g0_0, usedL_len, h15]
         repeat (first | intro _ | (refine ⟨obl, ?_⟩))
         refine condQ_mk (fun h18 => ?_) (fun h18 => ?_)
         ·skip
          have hs6 : slotE t p p.slots[i] = 6 := by unfold slotE; rw [if_neg]; revert h18; cases attrB t p p.slots[i].node p.slots[i].attr <;> cases inF p.slots[i].term.var (-1) (p.vars - 1) <;> cases inF p.slots[i].term.add (-1000000) 1000000 <;> simp
          rw [hs6, if_pos (by simp), hL] at hst
          try simp [go_sem, seval, F0, g0_0, usedL_len, h15]
          exact hQ _ _ (by first | (left; (simp [go_sem, hF0, hst]); done) | (right; (simp [go_sem, hF0, hst]); done))
         ·skip
          have hs0 : slotE t p p.slots[i] = 0 := by unfold slotE; rw [if_pos]; revert h18; cases attrB t p p.slots[i].node p.slots[i].attr <;> cases inF p.slots[i].term.var (-1) (p.vars - 1) <;> cases inF p.slots[i].term.add (-1000000) 1000000 <;> simp
          rw [hs0, if_neg (by simp), hL] at hst
          have hlt := slotE_lt hs0
          have hus := usedL_step p.vars.toNat (p.slots.take i) p.slots[i] (by omega)
          try simp [go_sem, seval, F0, g0_0, usedL_len, h15]
          refine condQ_mk (fun h20 => ?_) (fun h20 => ?_)
          ·try simp [go_sem] at h20
           have hfin : usedL p.vars.toNat (p.slots.take (i + 1)) = (usedL p.vars.toNat (p.slots.take i)).set p.slots[i].term.var.toNat true := by rw [hts, hus, if_pos (by omega)]
           have hvl : p.slots[i].term.var.toNat < (usedL p.vars.toNat (p.slots.take i)).length := by rw [usedL_len]; omega
           try simp [go_sem, seval, F0, g0_0, usedL_len, h15, lge hvl]
           repeat (first | intro _ | (refine ⟨obl, ?_⟩))
           refine nextQ_mk (i + 1) (by omega) ((hI0 _ _ _).2 ⟨?_, ?_, ?_, ?_, ?_, ?_, (by (simp [go_sem, F0, g0_0, usedL_len, h15, lge hvl, List.map_set, hfin])), ?_, (by first | assumption | omega | (simp [go_sem, F0, g0_0, usedL_len, h15, lge hvl, h2, h5, h7, h9, h11, h18, h20]; done) | (simp_all <;> omega)), (by (exact hst.symm))⟩) <;> first | omega | (simp [go_sem, seval, F0, g0_0, usedL_len, h15, lge hvl] <;> omega)
          ·try simp [go_sem] at h20
           have hfin : usedL p.vars.toNat (p.slots.take (i + 1)) = usedL p.vars.toNat (p.slots.take i) := by rw [hts, hus, if_neg (by omega)]
           try simp [go_sem, seval, F0, g0_0, usedL_len, h15]
           repeat (first | intro _ | (refine ⟨obl, ?_⟩))
           refine nextQ_mk (i + 1) (by omega) ((hI0 _ _ _).2 ⟨?_, ?_, ?_, ?_, ?_, ?_, (by (simp [go_sem, F0, g0_0, usedL_len, h15, List.map_set, hfin])), ?_, (by first | assumption | omega | (simp [go_sem, F0, g0_0, usedL_len, h15, h2, h5, h7, h9, h11, h18, h20]; done) | (simp_all <;> omega)), (by (exact hst.symm))⟩) <;> first | omega | (simp [go_sem, seval, F0, g0_0, usedL_len, h15] <;> omega)
        ·try simp [go_sem] at h15
         have hU : List.take i p.slots = p.slots := List.take_of_length_le (by omega)
         have hz : listE (slotE t p) p.slots = 0 := by rw [← hL, listE_end _ (by omega)]
         rw [hU] at g0_0
         rw [if_neg (by simp [hz])] at hF0
         try simp [go_sem, seval, F0, g0_0, usedL_len]
         refine callQ_pure0 (difference_Valid p.vars p.tests) ((by first | rfl | (simp [go_sem, ← List.map_take, ← List.map_drop, F0, g0_0, usedL_len]; done))) ?_
         try simp [go_sem, seval, F0, g0_0, usedL_len]
         refine condQ_mk (fun h24 => ?_) (fun h24 => ?_)
         ·try simp [go_sem] at h24
          try simp [go_sem, seval, F0, g0_0, usedL_len]
          exact hQ _ _ (by first | (left; (rw [hF0, if_pos (by simpa using h24)]; simp [go_sem]); done) | (right; (rw [hF0, if_pos (by simpa using h24)]; simp [go_sem]); done))
         ·try simp [go_sem] at h24
          try simp [go_sem, seval, F0, g0_0, usedL_len]
          refine callQ_pureF (contains_bool (usedL p.vars.toNat p.slots) false) (by simp [rsvC, rsvP, cellsAt, go_sem, ← List.map_take, ← List.map_drop, F0, g0_0, usedL_len]) ((by first | rfl | (simp [go_sem, ← List.map_take, ← List.map_drop, F0, g0_0, usedL_len]; done))) ( rfl) ?_
          try simp [go_sem, seval, F0, g0_0, usedL_len]
          refine condQ_mk (fun h26 => ?_) (fun h26 => ?_)
          ·try simp [go_sem] at h26
           try simp [go_sem, seval, F0, g0_0, usedL_len]
           exact hQ _ _ (by first | (left; (rw [hF0, if_neg (by simpa using h24), if_pos h26]; simp [go_sem]); done) | (right; (rw [hF0, if_neg (by simpa using h24), if_pos h26]; simp [go_sem]); done))
          ·try simp [go_sem] at h26
           try simp [go_sem, seval, F0, g0_0, usedL_len]
           exact hQ _ _ (by first | (left; (rw [hF0, if_neg (by simpa using h24), if_neg (by simp [h26])]; simp [go_sem]); done) | (right; (rw [hF0, if_neg (by simpa using h24), if_neg (by simp [h26])]; simp [go_sem]); done))
end Go.Abs
end
section
set_option maxRecDepth 4000
open Go Go.Proofs
namespace Go.Abs
theorem graphF_in {g : Graph} (h : graphF g = 0) : (∀ a ∈ g.nodes, 0 ≤ a ∧ a ≤ 99) ∧ ∀ x ∈ g.edges, (0 ≤ x.type ∧ x.type ≤ 99) ∧ (0 ≤ x.from_ ∧ x.from_ < g.nodes.length) ∧ (0 ≤ x.to_ ∧ x.to_ < g.nodes.length) := by
  unfold graphF at h
  split at h
  · cases h
  · split at h
    ·cases h
    ·rename_i h1
     split at h
     ·cases h
     ·rename_i h2
      simp [withinF, fitsF] at h1 h2
      refine ⟨h1, fun x hx => ?_⟩
      have := h2 x hx
      omega
def occursB (p : Pattern) (v : Int) : Bool := p.slots.any fun s => decide (s.term.var = v)
end Go.Abs
end
section
namespace Go.Abs
section
variable {P : Program} {M0 : Nat → Prop} {H : AHeap} {σ : Nat → Option Ow} {w : World}
theorem flat_cI (zs : List Int) : (zs.map cI).flatten = zs.map (D.int .i64) := by
  induction zs with
  | nil => rfl
  | cons a l ih => simp only [List.map_cons, List.flatten_cons, ih, cI, dI]; rfl
theorem repL_ints {M : Nat → Prop} {N : Nat → Prop} (zs : List Int) : RepL M σ N w (zs.map (Value.int .i64)) (zs.map cI).flatten := by
  rw [flat_cI]
  refine ⟨by simp, fun j u d hu hd => ?_⟩
  rw [List.getElem?_map, Option.map_eq_some_iff] at hu hd
  obtain ⟨x, hx, rfl⟩ := hu
  obtain ⟨y, hy, rfl⟩ := hd
  rw [hx] at hy; cases hy
  exact .int _ _
def RowI (w : World) (ty : TypeId) (v : Value) (xs : List Int) : Prop := w.ownsRow 0 ty 1 v xs.length (xs.map (Value.int .i64))
theorem rel_row (hR : Rel M0 H σ w) {id : Nat} {ty : TypeId} {xs : List Int} (hg : H.get id = some ⟨ty, 1, xs.map cI, false⟩) {v : Value} (hv : RepV (Mut M0 H σ) σ H.al w v (.own id xs.length)) :
    ∃ o, σ id = some o ∧ v = o.val ∧ o.ver = xs.length ∧ o.ty = ty ∧ o.esz = 1 ∧ RowI w ty v xs := by
  obtain ⟨o, ho, l⟩ := hR.lies id _ hg
  have hver : o.ver = xs.length := by have := l.ver; simpa using this
  cases hv
  rename_i hN h1 h
  rcases h o ho with h' | ⟨_, rfl⟩
  · omega
  · obtain ⟨us, hrow, hu1, hrep⟩ := l.row
    have hus : us = xs.map (Value.int .i64) := by
      simp only [flat_cI] at hrep
      apply List.ext_getElem?
      intro j
      have hl := hrep.len
      simp only [List.length_map] at hl
      by_cases hj : j < xs.length
      · have h2 := hrep.rep j us[j] (D.int .i64 xs[j]) (lge (by omega)) (by simp [hj])
        generalize us[j] = u at h2
        have h3 : us[j]? = some us[j] := lge (by omega)
        have h4 := hrep.rep j us[j] (D.int .i64 xs[j]) h3 (by simp [hj])
        generalize hq : us[j] = q at h3 h4
        rw [h3]
        cases h4
        simp [hj]
      · rw [List.getElem?_eq_none (by omega), List.getElem?_eq_none (by simp; omega)]
    refine ⟨o, ho, rfl, hver, l.ty, l.sz, ?_⟩
    unfold RowI
    have hsz : o.esz = 1 := l.sz
    rw [hsz, hus] at hrow
    simpa using hrow
theorem rel_turn {w' : World} (hR : Rel M0 H σ w) {id : Nat} {ty : TypeId} {xs zs : List Int} (fz : Bool) (hg : H.get id = some ⟨ty, 1, xs.map cI, false⟩) {o : Ow} (ho : σ id = some o) (hver : o.ver = xs.length) (hty : o.ty = ty) (hsz : o.esz = 1)
    (hl : zs.length = xs.length) (hgr : w.grownBy w' o.block) (hrow : RowI w' ty o.val zs) :
    Rel M0 (H.put id ⟨ty, 1, zs.map cI, fz⟩) (fun i => if i = id then some o else σ i) w' ∧ Stp σ w (fun i => if i = id then some o else σ i) w' ∧
      Keeps (Mut M0 H σ) σ H.al w (Mut M0 (H.put id ⟨ty, 1, zs.map cI, fz⟩) (fun i => if i = id then some o else σ i)) (fun i => if i = id then some o else σ i) (H.put id ⟨ty, 1, zs.map cI, fz⟩).al w' := by
  refine Rel.put hR hg rfl ho ⟨ty, 1, zs.map cI, fz⟩ o hgr (fun b hb => .inl hb) (.inl rfl) (by simp [hver, hl]) hty hsz (fun c hc => ?_) (zs.map (Value.int .i64)) ?_ (fun u hu => ?_) (repL_ints zs)
  · obtain ⟨x, _, rfl⟩ := List.mem_map.1 hc; rw [hsz]; rfl
  · rw [hsz]; simpa [RowI] using hrow
  · obtain ⟨x, _, rfl⟩ := List.mem_map.1 hu; rfl
theorem acalls_turn {f : FuncId} {id : Nat} {ty : TypeId} {xs zs : List Int} {Q : D → AHeap → Prop} (hent : Ent P f) (hg : H.get id = some ⟨ty, 1, xs.map cI, false⟩) (hl : zs.length = xs.length)
    (hc : ∀ (w : World) (v : Value), RowI w ty v xs → Calls P f #[v] w fun e w' => e = .returned (.tuple #[]) ∧ w.grownBy w' v.ownBlock ∧ RowI w' ty v zs)
    (hQ : Q (.tup []) (H.put id ⟨ty, 1, zs.map cI, false⟩)) : ACalls P f [.own id xs.length] H Q := by
  refine ⟨hent, fun M0 σ w vals hR ha => ?_⟩
  obtain ⟨hlen, hr⟩ := ha
  match vals, hlen with
  | [v], _ =>
    obtain ⟨o, ho, rfl, hver, hty, hsz, hrow⟩ := rel_row hR hg (hr 0 v _ rfl rfl)
    refine (hc w _ hrow).mono fun e w' ⟨he, hgr, hrow'⟩ => ?_
    obtain ⟨h1, h2, h3⟩ := rel_turn hR false hg ho hver hty hsz hl hgr hrow'
    exact ⟨_, .tup [], _, _, he, h1, .tup [] [] rfl (fun j u d hu => by simp at hu), h2, h3, hQ⟩
theorem acalls_begin {f : FuncId} {id : Nat} {ty : TypeId} {xs zs : List Int} {m : Nat} {Q : D → AHeap → Prop} (hent : Ent P f) (hg : H.get id = some ⟨ty, 1, xs.map cI, false⟩) (hl : zs.length = xs.length) (hm : m ≤ xs.length)
    (hc : ∀ (w : World) (v : Value), RowI w ty v xs → Calls P f #[v] w fun e w' => (∃ r, e = .returned r ∧ ((v = .slice none 0 0 ∧ r = v) ∨ ∃ g n cap, v = .slice (some g) n cap ∧ r = .slice (some g) m cap)) ∧ w.grownBy w' v.ownBlock ∧ RowI w' ty v zs)
    (hQ : Q (.list ((zs.take m).map cI)) (H.put id ⟨ty, 1, zs.map cI, true⟩)) : ACalls P f [.own id xs.length] H Q := by
  refine ⟨hent, fun M0 σ w vals hR ha => ?_⟩
  obtain ⟨hlen, hr⟩ := ha
  match vals, hlen with
  | [v], _ =>
    obtain ⟨o, ho, rfl, hver, hty, hsz, hrow⟩ := rel_row hR hg (hr 0 v _ rfl rfl)
    refine (hc w _ hrow).mono fun e w' ⟨⟨r, he, hr'⟩, hgr, hrow'⟩ => ?_
    obtain ⟨h1, h2, h3⟩ := rel_turn hR true hg ho hver hty hsz hl hgr hrow'
    refine ⟨r, .list ((zs.take m).map cI), _, _, he, h1, ?_, h2, h3, hQ⟩
    rcases hr' with ⟨hv, rfl⟩ | ⟨g, n, cap, hv, rfl⟩
    · have hz : zs = [] := by
        rcases hrow.2 with ⟨_, h0⟩ | ⟨g', cap', cur, hv', _⟩
        · exact List.eq_nil_of_length_eq_zero (by omega)
        · rw [hv] at hv'; cases hv'
      subst hz
      rw [hv]; simpa using RepV.listN
    · rcases hrow'.2 with ⟨hn, _⟩ | ⟨g', cap', cur, hv', hb0, hblk, hcz, hcm, hcs, htk⟩
      · rw [hv] at hn; cases hn
      · have hvv := hv'
        rw [hv] at hvv
        cases hvv
        have hlt : (zs.take m).length = m := by simp; omega
        have hfl := flat_cI (zs.take m)
        have key := RepV.list (M := Mut M0 (H.put id ⟨ty, 1, zs.map cI, true⟩) (fun i => if i = id then some o else σ i)) (σ := fun i => if i = id then some o else σ i) (N := (H.put id ⟨ty, 1, zs.map cI, true⟩).al) (w := w')
          ⟨g', 0, none⟩ cap 1 ((zs.take m).map (Value.int .i64)) ((zs.take m).map cI) (by simp; omega) hcm (fun c hc => (by obtain ⟨x, _, rfl⟩ := List.mem_map.1 hc; rfl)) (by rw [hfl]; simp)
          (fun u hu => (by obtain ⟨x, _, rfl⟩ := List.mem_map.1 hu; rfl))
          (fun j u hu => by
            refine ⟨?_, ?_⟩
            · rintro (hm0 | ⟨i, k', o', hk', hf, ho', hb'⟩)
              · exact (hR.lt id o g' ho (by simp [Ow.block, hv, Value.ownBlock])).2 hm0
              · by_cases hi : i = id
                · simp only [AHeap.put, hi, if_true, Option.some.injEq] at hk'
                  subst hk'; cases hf
                · simp only [hi, if_false] at ho'
                  exact hi (hR.inj i id o' o g' ho' ho hb' (by simp [Ow.block, hv, Value.ownBlock]))
            · have := hrow'.cells (g := g') (by simp [hv, Value.ownBlock]) j u (by
                rw [List.getElem?_map] at hu ⊢
                rw [List.getElem?_take] at hu
                split at hu
                · exact hu
                · simp at hu)
              exact this)
          (repL_ints (zs.take m)).rep
        simp only [List.length_map, hlt] at key
        exact key
end
end Go.Abs
end
section
namespace Go.Proofs
open Go.Shelf
def Tryz.laysSort_ren : Go.Shelf.Ren := ⟨fun | 189 => 134 | 125 => 211 | 257 => 210 | 128 => 269 | 129 => 270 | 294 => 261 | 295 => 262 | 296 => 263 | 297 => 264 | 298 => 265 | 299 => 266 | 216 => 239 | 300 => 267 | 301 => 268 | 328 => 295 | 329 => 296 | 330 => 297 | 331 => 298 | 332 => 299 | 215 => 280 | 343 => 304 | n => n, fun | 28 => 26 | 3 => 3 | 46 => 262 | 0 => 0 | 51 => 301 | 53 => 67 | 4 => 4 | 183 => 295 | 182 => 294 | 131 => 234 | 5 => 5 | 9 => 9 | 218 => 314 | 222 => 318 | 228 => 321 | 229 => 239 | n => n, fun | n => n⟩
theorem Tryz.laysSort : Go.Proofs.Lays.n189 Tryz.prog Tryz.laysSort_ren := {
  mixed := by kernel_rfl
  f125 := Tryz.func211.trans (congrArg some (by kernel_rfl))
  f128 := Tryz.func269.trans (congrArg some (by kernel_rfl))
  f129 := Tryz.func270.trans (congrArg some (by kernel_rfl))
  f189 := Tryz.func134.trans (congrArg some (by kernel_rfl))
  f215 := Tryz.func280.trans (congrArg some (by kernel_rfl))
  f216 := Tryz.func239.trans (congrArg some (by kernel_rfl))
  f257 := Tryz.func210.trans (congrArg some (by kernel_rfl))
  f294 := Tryz.func261.trans (congrArg some (by kernel_rfl))
  f295 := Tryz.func262.trans (congrArg some (by kernel_rfl))
  f296 := Tryz.func263.trans (congrArg some (by kernel_rfl))
  f297 := Tryz.func264.trans (congrArg some (by kernel_rfl))
  f298 := Tryz.func265.trans (congrArg some (by kernel_rfl))
  f299 := Tryz.func266.trans (congrArg some (by kernel_rfl))
  f300 := Tryz.func267.trans (congrArg some (by kernel_rfl))
  f301 := Tryz.func268.trans (congrArg some (by kernel_rfl))
  f328 := Tryz.func295.trans (congrArg some (by kernel_rfl))
  f329 := Tryz.func296.trans (congrArg some (by kernel_rfl))
  f330 := Tryz.func297.trans (congrArg some (by kernel_rfl))
  f331 := Tryz.func298.trans (congrArg some (by kernel_rfl))
  f332 := Tryz.func299.trans (congrArg some (by kernel_rfl))
  f343 := Tryz.func304.trans (congrArg some (by kernel_rfl))
  t0 := Tryz.underlying0
  a0 := Tryz.isAgg0
  z0 := Tryz.sizeOf0
  v0 := Tryz.zeroValue0
  t3 := Tryz.underlying3
  a3 := Tryz.isAgg3
  z3 := Tryz.sizeOf3
  v3 := Tryz.zeroValue3
  t4 := Tryz.underlying4
  a4 := Tryz.isAgg4
  z4 := Tryz.sizeOf4
  v4 := Tryz.zeroValue4
  t5 := Tryz.underlying5
  a5 := Tryz.isAgg5
  z5 := Tryz.sizeOf5
  v5 := Tryz.zeroValue5
  t9 := Tryz.underlying9
  a9 := Tryz.isAgg9
  z9 := Tryz.sizeOf9
  v9 := Tryz.zeroValue9
  t28 := Tryz.underlying26
  a28 := Tryz.isAgg26
  z28 := Tryz.sizeOf26
  v28 := Tryz.zeroValue26
  t46 := Tryz.underlying262
  a46 := Tryz.isAgg262
  z46 := Tryz.sizeOf262
  v46 := Tryz.zeroValue262
  t51 := Tryz.underlying301
  a51 := Tryz.isAgg301
  z51 := Tryz.sizeOf301
  v51 := Tryz.zeroValue301
  t53 := Tryz.underlying67
  a53 := Tryz.isAgg67
  z53 := Tryz.sizeOf67
  v53 := Tryz.zeroValue67
  t131 := Tryz.underlying234
  a131 := Tryz.isAgg234
  z131 := Tryz.sizeOf234
  v131 := Tryz.zeroValue234
  t182 := Tryz.underlying294
  a182 := Tryz.isAgg294
  z182 := Tryz.sizeOf294
  v182 := Tryz.zeroValue294
  t183 := Tryz.underlying295
  a183 := Tryz.isAgg295
  z183 := Tryz.sizeOf295
  v183 := Tryz.zeroValue295
  t218 := Tryz.underlying314
  a218 := Tryz.isAgg314
  z218 := Tryz.sizeOf314
  v218 := Tryz.zeroValue314
  t222 := Tryz.underlying318
  a222 := Tryz.isAgg318
  z222 := Tryz.sizeOf318
  v222 := Tryz.zeroValue318
  t228 := Tryz.underlying321
  a228 := Tryz.isAgg321
  z228 := Tryz.sizeOf321
  v228 := Tryz.zeroValue321
  t229 := Tryz.underlying239
  a229 := Tryz.isAgg239
  z229 := Tryz.sizeOf239
  v229 := Tryz.zeroValue239 }
def Tryz.laysCompact_ren : Go.Shelf.Ren := ⟨fun | 20 => 207 | n => n, fun | 22 => 26 | 3 => 3 | 4 => 4 | 0 => 0 | n => n, fun | n => n⟩
theorem Tryz.laysCompact : Go.Proofs.Lays2.n20 Tryz.prog Tryz.laysCompact_ren := {
  mixed := by kernel_rfl
  f20 := Tryz.func207.trans (congrArg some (by kernel_rfl))
  t0 := Tryz.underlying0
  a0 := Tryz.isAgg0
  z0 := Tryz.sizeOf0
  v0 := Tryz.zeroValue0
  t3 := Tryz.underlying3
  a3 := Tryz.isAgg3
  z3 := Tryz.sizeOf3
  v3 := Tryz.zeroValue3
  t4 := Tryz.underlying4
  a4 := Tryz.isAgg4
  z4 := Tryz.sizeOf4
  v4 := Tryz.zeroValue4
  t22 := Tryz.underlying26
  a22 := Tryz.isAgg26
  z22 := Tryz.sizeOf26
  v22 := Tryz.zeroValue26
  i3 := by kernel_rfl }
end Go.Proofs
end
