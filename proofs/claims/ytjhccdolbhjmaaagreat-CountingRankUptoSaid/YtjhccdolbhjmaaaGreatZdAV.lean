/- The readings of the argument types. -/
import Derived.Test.YtjhccdolbhjmaaaGreatZdAP
import Derived.Test.YtjhccdolbhjmaaaGreatZdAU
section
set_option linter.unusedVariables false
set_option linter.unusedSimpArgs false
open Go Go.Proofs
namespace Go.Abs
mutual
def Cond.bnd (B : Nat) : Cond → Prop
  | .mk k l m p => (m.nodes.length ≤ B ∧ m.edges.length ≤ B) ∧ Cond.bnds B l
def Cond.bnds (B : Nat) : List Cond → Prop
  | [] => True
  | c :: l => c.bnd B ∧ Cond.bnds B l
end
theorem Cond.bnds_iff (B : Nat) (l : List Cond) : Cond.bnds B l ↔ ∀ c ∈ l, c.bnd B := by
  induction l with
  | nil => simp [Cond.bnds]
  | cons a l ih => simp [Cond.bnds, ih]
theorem Cond.bnd_iff (B : Nat) (c : Cond) : c.bnd B ↔ (c.map.nodes.length ≤ B ∧ c.map.edges.length ≤ B) ∧ ∀ k ∈ c.kids, k.bnd B := by cases c; simp [Cond.bnd, Cond.bnds_iff, Cond.kids, Cond.map]
theorem Cond.bnd_le {B : Nat} (hB : B ≤ 1000000000000000) : ∀ c : Cond, c.bnd B → c.le := by
  refine Cond.ind fun c ih h => ?_
  obtain ⟨h1, h2⟩ := (Cond.bnd_iff B c).1 h
  exact (Cond.le_iff c).2 ⟨⟨by omega, by omega⟩, fun k hk => ih k hk (h2 k hk)⟩
def Rule.bnd (B : Nat) (x : Rule) : Prop := (x.keep.nodes.length ≤ B ∧ x.keep.edges.length ≤ B) ∧ (x.into.nodes.length ≤ B ∧ x.into.edges.length ≤ B) ∧ x.cond.bnd B
theorem Rule.bnd_le {B : Nat} (hB : B ≤ 1000000000000000) {r : Rule} (h : r.bnd B) : r.le := by
  obtain ⟨⟨h1, h2⟩, ⟨h3, h4⟩, h5⟩ := h
  exact ⟨⟨by omega, by omega⟩, ⟨by omega, by omega⟩, Cond.bnd_le hB _ h5⟩
section
variable {H : Type} {enc : TypeId × Value → H} {w : World} {base : Nat} {spare : Nat → Bool} {held : Bool} {bulk : DataW H → Nat} {B : Nat}
theorem op9 (hB : Bulk bulk) : ∀ n, Opens enc Tryz.prog w base spare held bulk B n 9 cS (fun _ => True) := fun n => (opens_string hB Tryz.underlying9).map id (fun _ => rfl) (fun _ _ => trivial)
theorem op3 : ∀ n, Opens enc Tryz.prog w base spare held bulk B n 3 cI (fun _ => True) := fun n => (opens_int Tryz.underlying3).map id (fun _ => rfl) (fun _ _ => trivial)
theorem op4 : ∀ n, Opens enc Tryz.prog w base spare held bulk B n 4 (fun b : Bool => [D.bool b]) (fun _ => True) := fun n => opens_bool Tryz.underlying4
theorem op99 (hB : Bulk bulk) : ∀ n, Opens enc Tryz.prog w base spare held bulk B n 99 (fun l : List ByteArray => [D.list (l.map cS)]) (fun l => l.length ≤ B ∧ ∀ a ∈ l, (fun _ => True) a)
  | 0 => Opens.zero
  | n + 1 => opens_slice hB Tryz.underlying99 (op9 hB n)
theorem op101 (hB : Bulk bulk) : ∀ n, Opens enc Tryz.prog w base spare held bulk B n 101 Attr.c (fun _ => True)
  | 0 => Opens.zero
  | n + 1 => (opens_struct hB Tryz.underlying101 (by kernel_rfl) (opensL_cons (op9 hB n) (opensL_cons (op3 n) (opensL_cons (op3 n) (opensL_cons (op99 hB n) opensL_nil))))).map (fun p => ⟨p.1, p.2.1, p.2.2.1, p.2.2.2.1⟩) (fun p => rfl) (fun p h => trivial)
theorem op96 (hB : Bulk bulk) : ∀ n, Opens enc Tryz.prog w base spare held bulk B n 96 (fun l : List Attr => [D.list (l.map Attr.c)]) (fun l => l.length ≤ B ∧ ∀ a ∈ l, (fun _ => True) a)
  | 0 => Opens.zero
  | n + 1 => opens_slice hB Tryz.underlying96 (op101 hB n)
theorem op98 (hB : Bulk bulk) : ∀ n, Opens enc Tryz.prog w base spare held bulk B n 98 NodeTy.c (fun x => x.attrs.length ≤ B)
  | 0 => Opens.zero
  | n + 1 => (opens_struct hB Tryz.underlying98 (by kernel_rfl) (opensL_cons (op9 hB n) (opensL_cons (op3 n) (opensL_cons (op4 n) (opensL_cons (op96 hB n) opensL_nil))))).map (fun p => ⟨p.1, p.2.1, p.2.2.1, p.2.2.2.1⟩) (fun p => rfl) (fun p h => h.2.2.2.1.1)
theorem op22 (hB : Bulk bulk) : ∀ n, Opens enc Tryz.prog w base spare held bulk B n 22 (fun l : List NodeTy => [D.list (l.map NodeTy.c)]) (fun l => l.length ≤ B ∧ ∀ a ∈ l, (fun x => x.attrs.length ≤ B) a)
  | 0 => Opens.zero
  | n + 1 => opens_slice hB Tryz.underlying22 (op98 hB n)
theorem op103 (hB : Bulk bulk) : ∀ n, Opens enc Tryz.prog w base spare held bulk B n 103 EdgeTy.c (fun _ => True)
  | 0 => Opens.zero
  | n + 1 => (opens_struct hB Tryz.underlying103 (by kernel_rfl) (opensL_cons (op9 hB n) (opensL_cons (op3 n) (opensL_cons (op3 n) (opensL_cons (op3 n) (opensL_cons (op3 n) (opensL_cons (op3 n) (opensL_cons (op3 n) opensL_nil)))))))).map (fun p => ⟨p.1, p.2.1, p.2.2.1, p.2.2.2.1, p.2.2.2.2.1, p.2.2.2.2.2.1, p.2.2.2.2.2.2.1⟩) (fun p => rfl) (fun p h => trivial)
theorem op23 (hB : Bulk bulk) : ∀ n, Opens enc Tryz.prog w base spare held bulk B n 23 (fun l : List EdgeTy => [D.list (l.map EdgeTy.c)]) (fun l => l.length ≤ B ∧ ∀ a ∈ l, (fun _ => True) a)
  | 0 => Opens.zero
  | n + 1 => opens_slice hB Tryz.underlying23 (op103 hB n)
theorem op25 (hB : Bulk bulk) : ∀ n, Opens enc Tryz.prog w base spare held bulk B n 25 Types.c (fun x => x.nodes.length ≤ B ∧ x.edges.length ≤ B ∧ ∀ n ∈ x.nodes, n.attrs.length ≤ B)
  | 0 => Opens.zero
  | n + 1 => (opens_struct hB Tryz.underlying25 (by kernel_rfl) (opensL_cons (op22 hB n) (opensL_cons (op23 hB n) opensL_nil))).map (fun p => ⟨p.1, p.2.1⟩) (fun p => rfl) (fun p h => ⟨h.1.1, h.2.1.1, h.1.2⟩)
theorem op31 (hB : Bulk bulk) : ∀ n, Opens enc Tryz.prog w base spare held bulk B n 31 (fun l : List Int => [D.list (l.map cI)]) (fun l => l.length ≤ B ∧ ∀ a ∈ l, (fun _ => True) a)
  | 0 => Opens.zero
  | n + 1 => opens_slice hB Tryz.underlying31 (op3 n)
theorem op146 (hB : Bulk bulk) : ∀ n, Opens enc Tryz.prog w base spare held bulk B n 146 Edge.c (fun _ => True)
  | 0 => Opens.zero
  | n + 1 => (opens_struct hB Tryz.underlying146 (by kernel_rfl) (opensL_cons (op3 n) (opensL_cons (op3 n) (opensL_cons (op3 n) opensL_nil)))).map (fun p => ⟨p.1, p.2.1, p.2.2.1⟩) (fun p => rfl) (fun p h => trivial)
theorem op37 (hB : Bulk bulk) : ∀ n, Opens enc Tryz.prog w base spare held bulk B n 37 (fun l : List Edge => [D.list (l.map Edge.c)]) (fun l => l.length ≤ B ∧ ∀ a ∈ l, (fun _ => True) a)
  | 0 => Opens.zero
  | n + 1 => opens_slice hB Tryz.underlying37 (op146 hB n)
theorem op39 (hB : Bulk bulk) : ∀ n, Opens enc Tryz.prog w base spare held bulk B n 39 Graph.c (fun x => x.nodes.length ≤ B ∧ x.edges.length ≤ B)
  | 0 => Opens.zero
  | n + 1 => (opens_struct hB Tryz.underlying39 (by kernel_rfl) (opensL_cons (op31 hB n) (opensL_cons (op37 hB n) opensL_nil))).map (fun p => ⟨p.1, p.2.1⟩) (fun p => rfl) (fun p h => ⟨h.1.1, h.2.1.1⟩)
theorem op243 (hB : Bulk bulk) : ∀ n, Opens enc Tryz.prog w base spare held bulk B n 243 Term.c (fun _ => True)
  | 0 => Opens.zero
  | n + 1 => (opens_struct hB Tryz.underlying243 (by kernel_rfl) (opensL_cons (op3 n) (opensL_cons (op3 n) opensL_nil))).map (fun p => ⟨p.1, p.2.1⟩) (fun p => rfl) (fun p h => trivial)
theorem op245 (hB : Bulk bulk) : ∀ n, Opens enc Tryz.prog w base spare held bulk B n 245 Slot.c (fun _ => True)
  | 0 => Opens.zero
  | n + 1 => (opens_struct hB Tryz.underlying245 (by kernel_rfl) (opensL_cons (op3 n) (opensL_cons (op3 n) (opensL_cons (op243 hB n) opensL_nil)))).map (fun p => ⟨p.1, p.2.1, p.2.2.1⟩) (fun p => by simp [Slot.c, Term.c, cI, dI]) (fun p h => trivial)
theorem op63 (hB : Bulk bulk) : ∀ n, Opens enc Tryz.prog w base spare held bulk B n 63 (fun l : List Slot => [D.list (l.map Slot.c)]) (fun l => l.length ≤ B ∧ ∀ a ∈ l, (fun _ => True) a)
  | 0 => Opens.zero
  | n + 1 => opens_slice hB Tryz.underlying63 (op245 hB n)
theorem op268 (hB : Bulk bulk) : ∀ n, Opens enc Tryz.prog w base spare held bulk B n 268 Test.c (fun _ => True)
  | 0 => Opens.zero
  | n + 1 => (opens_struct hB Tryz.underlying268 (by kernel_rfl) (opensL_cons (op3 n) (opensL_cons (op243 hB n) (opensL_cons (op243 hB n) opensL_nil)))).map (fun p => ⟨p.1, p.2.1, p.2.2.1⟩) (fun p => by simp [Test.c, Term.c, cI, dI]) (fun p h => trivial)
theorem op64 (hB : Bulk bulk) : ∀ n, Opens enc Tryz.prog w base spare held bulk B n 64 (fun l : List Test => [D.list (l.map Test.c)]) (fun l => l.length ≤ B ∧ ∀ a ∈ l, (fun _ => True) a)
  | 0 => Opens.zero
  | n + 1 => opens_slice hB Tryz.underlying64 (op268 hB n)
theorem op66 (hB : Bulk bulk) : ∀ n, Opens enc Tryz.prog w base spare held bulk B n 66 Pattern.c (fun _ => True)
  | 0 => Opens.zero
  | n + 1 => (opens_struct hB Tryz.underlying66 (by kernel_rfl) (opensL_cons (op39 hB n) (opensL_cons (op63 hB n) (opensL_cons (op3 n) (opensL_cons (op64 hB n) opensL_nil))))).map (fun p => ⟨p.1, p.2.1, p.2.2.1, p.2.2.2.1⟩) (fun p => by simp [Pattern.c, Graph.c, cI, dI]) (fun p h => trivial)
theorem op68 (hB : Bulk bulk) : ∀ n, Opens enc Tryz.prog w base spare held bulk B n 68 Part.c (fun x => x.nodes.length ≤ B ∧ x.edges.length ≤ B)
  | 0 => Opens.zero
  | n + 1 => (opens_struct hB Tryz.underlying68 (by kernel_rfl) (opensL_cons (op31 hB n) (opensL_cons (op31 hB n) opensL_nil))).map (fun p => ⟨p.1, p.2.1⟩) (fun p => rfl) (fun p h => ⟨h.1.1, h.2.1.1⟩)
theorem op69 (hB : Bulk bulk) : ∀ n, Opens enc Tryz.prog w base spare held bulk B n 69 Part.c (fun x => x.nodes.length ≤ B ∧ x.edges.length ≤ B)
  | 0 => Opens.zero
  | n + 1 => (opens_struct hB Tryz.underlying69 (by kernel_rfl) (opensL_cons (op31 hB n) (opensL_cons (op31 hB n) opensL_nil))).map (fun p => ⟨p.1, p.2.1⟩) (fun p => rfl) (fun p h => ⟨h.1.1, h.2.1.1⟩)
theorem op72 (hB : Bulk bulk) : ∀ n, Opens enc Tryz.prog w base spare held bulk B n 72 Cond.c (fun c => c.bnd B)
  | 0 => Opens.zero
  | n + 1 =>
    have hk : Opens enc Tryz.prog w base spare held bulk B n 70 (fun l : List Cond => [D.list (l.map Cond.c)]) (fun l => l.length ≤ B ∧ ∀ a ∈ l, Cond.bnd B a) := match n with
      | 0 => Opens.zero
      | m + 1 => opens_slice hB Tryz.underlying70 ((op72 hB (m + 1)).mono (Nat.le_succ m))
    (opens_struct hB Tryz.underlying72 (by kernel_rfl) (opensL_cons (op3 n) (opensL_cons hk (opensL_cons (op69 hB n) (opensL_cons (op66 hB n) opensL_nil))))).map (fun p => Cond.mk p.1 p.2.1 p.2.2.1 p.2.2.2.1) (fun p => by simp [Cond.c, Cond.cs_eq, Part.c, Pattern.c, cI, dI]) (fun p h => (Cond.bnd_iff B _).2 ⟨h.2.2.1, h.2.1.2⟩)
theorem op74 (hB : Bulk bulk) : ∀ n, Opens enc Tryz.prog w base spare held bulk B n 74 Rule.c (fun x => (x.keep.nodes.length ≤ B ∧ x.keep.edges.length ≤ B) ∧ (x.into.nodes.length ≤ B ∧ x.into.edges.length ≤ B) ∧ x.cond.bnd B)
  | 0 => Opens.zero
  | n + 1 => (opens_struct hB Tryz.underlying74 (by kernel_rfl) (opensL_cons (op9 hB n) (opensL_cons (op66 hB n) (opensL_cons (op66 hB n) (opensL_cons (op68 hB n) (opensL_cons (op69 hB n) (opensL_cons (op4 n) (opensL_cons (op72 hB n) opensL_nil)))))))).map (fun p => ⟨p.1, p.2.1, p.2.2.1, p.2.2.2.1, p.2.2.2.2.1, p.2.2.2.2.2.1, p.2.2.2.2.2.2.1⟩) (fun p => by simp [Rule.c, Pattern.c, Part.c, Cond.c_eq, cS, cI, dI]) (fun p h => ⟨h.2.2.2.1, h.2.2.2.2.1, h.2.2.2.2.2.2.1⟩)
theorem op26 (hB : Bulk bulk) : ∀ n, Opens enc Tryz.prog w base spare held bulk B n 26 (fun l : List Rule => [D.list (l.map Rule.c)]) (fun l => l.length ≤ B ∧ ∀ a ∈ l, (fun x => (x.keep.nodes.length ≤ B ∧ x.keep.edges.length ≤ B) ∧ (x.into.nodes.length ≤ B ∧ x.into.edges.length ≤ B) ∧ x.cond.bnd B) a)
  | 0 => Opens.zero
  | n + 1 => opens_slice hB Tryz.underlying26 (op74 hB n)
theorem op33 (hB : Bulk bulk) : ∀ n, Opens enc Tryz.prog w base spare held bulk B n 33 Stage.c (fun x => x.weights.length ≤ B ∧ x.removed.length ≤ B)
  | 0 => Opens.zero
  | n + 1 => (opens_struct hB Tryz.underlying33 (by kernel_rfl) (opensL_cons (op31 hB n) (opensL_cons (op31 hB n) opensL_nil))).map (fun p => ⟨p.1, p.2.1⟩) (fun p => rfl) (fun p h => ⟨h.1.1, h.2.1.1⟩)
theorem op27 (hB : Bulk bulk) : ∀ n, Opens enc Tryz.prog w base spare held bulk B n 27 (fun l : List Stage => [D.list (l.map Stage.c)]) (fun l => l.length ≤ B ∧ ∀ a ∈ l, (fun x => x.weights.length ≤ B ∧ x.removed.length ≤ B) a)
  | 0 => Opens.zero
  | n + 1 => opens_slice hB Tryz.underlying27 (op33 hB n)
end
end Go.Abs
end
