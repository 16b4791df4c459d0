/- The readings of the argument types. · The readings of the dr -/
import Derived.Test.YthnegcfdjjhfgaaGreatZmP
import Derived.Test.YthnegcfdjjhfgaaGreatZmT
import Derived.OpenShut
set_option linter.unusedVariables false
set_option linter.unusedSimpArgs false
section
open Go Go.Proofs
namespace Go.Abs
mutual
def Cond.bnd (B : Nat) : Cond → Prop
  | .mk k l m p => (m.nodes.length ≤ B ∧ m.edges.length ≤ B) ∧ Cond.bnds B l
def Cond.bnds (B : Nat) : List Cond → Prop
  | [] => True
  | c :: l => c.bnd B ∧ Cond.bnds B l
end
theorem Cond.bnds_iff (B : Nat) (l : List Cond) : Cond.bnds B l ↔ ∀ c ∈ l, c.bnd B := by
  induction l with
  | nil => simp [Cond.bnds]
  | cons a l ih => simp [Cond.bnds, ih]
theorem Cond.bnd_iff (B : Nat) (c : Cond) : c.bnd B ↔ (c.map.nodes.length ≤ B ∧ c.map.edges.length ≤ B) ∧ ∀ k ∈ c.kids, k.bnd B := by cases c; simp [Cond.bnd, Cond.bnds_iff, Cond.kids, Cond.map]
theorem Cond.bnd_le {B : Nat} (hB : B ≤ 1000000000000000) : ∀ c : Cond, c.bnd B → c.le := by
  refine Cond.ind fun c ih h => ?_
  obtain ⟨h1, h2⟩ := (Cond.bnd_iff B c).1 h
  exact (Cond.le_iff c).2 ⟨⟨by omega, by omega⟩, fun k hk => ih k hk (h2 k hk)⟩
def Rule.bnd (B : Nat) (x : Rule) : Prop := (x.keep.nodes.length ≤ B ∧ x.keep.edges.length ≤ B) ∧ (x.into.nodes.length ≤ B ∧ x.into.edges.length ≤ B) ∧ x.cond.bnd B
theorem Rule.bnd_le {B : Nat} (hB : B ≤ 1000000000000000) {r : Rule} (h : r.bnd B) : r.le := by
  obtain ⟨⟨h1, h2⟩, ⟨h3, h4⟩, h5⟩ := h
  exact ⟨⟨by omega, by omega⟩, ⟨by omega, by omega⟩, Cond.bnd_le hB _ h5⟩
structure CaseC where
  t : Types
  a : Rule
  b : Rule
def CaseC.c (x : CaseC) : List D := x.t.c ++ x.a.c ++ x.b.c
section
variable {H : Type} {enc : TypeId × Value → H} {w : World} {base : Nat} {spare : Nat → Bool} {held : Bool} {bulk : DataW H → Nat} {B : Nat}
theorem op4 : ∀ n, Opens enc Tryz.prog w base spare held bulk B n 4 (fun b : Bool => [D.bool b]) (fun _ => True) := fun n => opens_bool Tryz.underlying4
end
end Go.Abs
end
section
set_option maxRecDepth 100000
open Go Go.Proofs
namespace Go.Abs
section
variable {H : Type} {enc : TypeId × Value → H} {P : Program} {w : World} {base : Nat} {spare : Nat → Bool} {held : Bool} {bulk : DataW H → Nat} {B : Nat} {n : Nat} {t : TypeId}
theorem segs_arr {fuel : Nat} {cs : List Value} {e : TypeId} : ∀ (k o : Nat), cs.length = (o + k) * P.cellsOf e →
    (∀ i, o ≤ i → i < o + k → ∃ y, DataW.trod enc P w base spare held fuel e ((cs.drop (i * P.cellsOf e)).take (P.cellsOf e)) = some y ∧ bulk y.1 ≤ B) → Segs enc P w base spare held bulk B fuel (List.replicate k e) (cs.drop (o * P.cellsOf e))
  | 0, o, hl, _ => by
    show cs.drop _ = []
    rw [List.drop_eq_nil_iff, hl]; simp
  | k + 1, o, hl, h => by
    rw [List.replicate_succ]
    refine ⟨h o (Nat.le_refl _) (by omega), ?_⟩
    rw [List.drop_drop, show o * P.cellsOf e + P.cellsOf e = (o + 1) * P.cellsOf e by rw [Nat.succ_mul]]
    exact segs_arr k (o + 1) (by rw [hl]; congr 1; omega) fun i h1 h2 => h i (by omega) (by omega)
theorem opens_array (hB : Bulk bulk) {k : Nat} {e : TypeId} (ht : P.underlying t = some (.array k e)) (hc : P.cellsOf t = k * P.cellsOf e) {α : Type} {C : α → List D} {G : α → Prop} (h : OpensL enc P w base spare held bulk B n (List.replicate k e) C G) :
    Opens enc P w base spare held bulk B (n + 1) t C G := fun fuel cs x hf hx hb => by
  obtain ⟨xs, m, rfl, rfl, hcl, hxl, hfl⟩ := DataW.trod_array ht hx
  simp only at hb
  have hs := segs_arr (enc := enc) (P := P) (w := w) (base := base) (spare := spare) (held := held) (bulk := bulk) (B := B) (fuel := m) (cs := cs) (e := e) k 0 (by rw [hcl, hc]; simp) fun i _ hi => by
    have hfi := hfl i (by omega)
    rw [lge (by omega)] at hfi
    exact ⟨_, hfi, Nat.le_trans (hB.part _ _ (List.mem_map.2 ⟨_, lgm (by omega), rfl⟩)) hb⟩
  rw [Nat.zero_mul, List.drop_zero] at hs
  exact h m cs (by omega) hs
theorem opens_u8 (ht : P.underlying t = some (.int .u8)) : Opens enc P w base spare held bulk B n t cU (fun _ => True) := fun fuel cs x _ hx _ => by
  obtain ⟨z, rfl, _, hw⟩ := DataW.trod_int ht hx
  refine ⟨UInt8.ofNat z.toNat, trivial, ?_, by simp [Value.oneCell']⟩
  have hz : 0 ≤ z ∧ z < 256 := by
    have h1 : IntKind.u8.min = 0 := by decide
    have h2 : IntKind.u8.max = 255 := by decide
    simp only [Lit.wf, Bool.and_eq_true, decide_eq_true_eq, h1, h2] at hw; omega
  have he : (((UInt8.ofNat z.toNat).toNat : Nat) : Int) = z := by simp; omega
  unfold cU; rw [he]; exact repL_one (.int .u8 z)
theorem opens_i8 (ht : P.underlying t = some (.int .i8)) : Opens enc P w base spare held bulk B n t (fun x : Int8 => [D.int .i8 x.toInt]) (fun _ => True) := fun fuel cs x _ hx _ => by
  obtain ⟨z, rfl, _, hw⟩ := DataW.trod_int ht hx
  refine ⟨Int8.ofInt z, trivial, ?_, by simp [Value.oneCell']⟩
  have hz : -128 ≤ z ∧ z < 128 := by
    have h1 : IntKind.i8.min = -128 := by decide
    have h2 : IntKind.i8.max = 127 := by decide
    simp only [Lit.wf, Bool.and_eq_true, decide_eq_true_eq, h1, h2] at hw; omega
  have he : (Int8.ofInt z).toInt = z := by rw [Int8.toInt_ofInt_of_le] <;> omega
  show RepL noM noRef noId w _ [D.int .i8 (Int8.ofInt z).toInt]
  rw [he]; exact repL_one (.int .i8 z)
theorem opens_u64 (ht : P.underlying t = some (.int .u64)) : Opens enc P w base spare held bulk B n t (fun x : UInt64 => [D.int .u64 (x.toNat : Int)]) (fun _ => True) := fun fuel cs x _ hx _ => by
  obtain ⟨z, rfl, _, hw⟩ := DataW.trod_int ht hx
  refine ⟨UInt64.ofNat z.toNat, trivial, ?_, by simp [Value.oneCell']⟩
  have hz : 0 ≤ z ∧ z < 18446744073709551616 := by
    have h1 : IntKind.u64.min = 0 := by decide
    have h2 : IntKind.u64.max = 18446744073709551615 := by decide
    simp only [Lit.wf, Bool.and_eq_true, decide_eq_true_eq, h1, h2] at hw; omega
  have he : (((UInt64.ofNat z.toNat).toNat : Nat) : Int) = z := by simp; omega
  show RepL noM noRef noId w _ [D.int .u64 (((UInt64.ofNat z.toNat).toNat : Nat) : Int)]
  rw [he]; exact repL_one (.int .u64 z)
end
section
variable {H : Type} {enc : TypeId × Value → H} {w : World} {base : Nat} {spare : Nat → Bool} {held : Bool} {bulk : DataW H → Nat} {B : Nat}
theorem op5 : ∀ n, Opens enc Tryz.prog w base spare held bulk B n 5 cU (fun _ => True) := fun n => opens_u8 Tryz.underlying5
theorem op247 : ∀ n, Opens enc Tryz.prog w base spare held bulk B n 247 (fun x : Int8 => [D.int .i8 x.toInt]) (fun _ => True) := fun n => opens_i8 Tryz.underlying247
theorem op67 : ∀ n, Opens enc Tryz.prog w base spare held bulk B n 67 (fun x : UInt64 => [D.int .u64 (x.toNat : Int)]) (fun _ => True) := fun n => opens_u64 Tryz.underlying67
theorem op115 (hB : Bulk bulk) : ∀ n, Opens enc Tryz.prog w base spare held bulk B n 115 cP (fun _ => True)
  | 0 => Opens.zero
  | n + 1 => (opens_array hB (k := 2) Tryz.underlying115 (by kernel_rfl) (opensL_cons (op5 n) (opensL_cons (op5 n) (opensL_nil)))).map (fun p => (p.1, p.2.1)) (fun p => rfl) (fun _ _ => trivial)
theorem op195 (hB : Bulk bulk) : ∀ n, Opens enc Tryz.prog w base spare held bulk B n 195 cT3 (fun _ => True)
  | 0 => Opens.zero
  | n + 1 => (opens_array hB (k := 3) Tryz.underlying195 (by kernel_rfl) (opensL_cons (op5 n) (opensL_cons (op5 n) (opensL_cons (op5 n) (opensL_nil))))).map (fun p => (p.1, p.2.1, p.2.2.1)) (fun p => rfl) (fun _ _ => trivial)
theorem op68 (hB : Bulk bulk) : ∀ n, Opens enc Tryz.prog w base spare held bulk B n 68 cU4 (fun _ => True)
  | 0 => Opens.zero
  | n + 1 => (opens_array hB (k := 4) Tryz.underlying68 (by kernel_rfl) (opensL_cons (op5 n) (opensL_cons (op5 n) (opensL_cons (op5 n) (opensL_cons (op5 n) (opensL_nil)))))).map (fun p => (p.1, p.2.1, p.2.2.1, p.2.2.2.1)) (fun p => rfl) (fun _ _ => trivial)
theorem op248 (hB : Bulk bulk) : ∀ n, Opens enc Tryz.prog w base spare held bulk B n 248 cT4 (fun _ => True)
  | 0 => Opens.zero
  | n + 1 => (opens_array hB (k := 4) Tryz.underlying248 (by kernel_rfl) (opensL_cons (op247 n) (opensL_cons (op247 n) (opensL_cons (op247 n) (opensL_cons (op247 n) (opensL_nil)))))).map (fun p => (p.1, p.2.1, p.2.2.1, p.2.2.2.1)) (fun p => rfl) (fun _ _ => trivial)
theorem op59 (hB : Bulk bulk) : ∀ n, Opens enc Tryz.prog w base spare held bulk B n 59 (fun l : List B2 => [D.list (l.map cP)]) (fun l => l.length ≤ B)
  | 0 => Opens.zero
  | n + 1 => (opens_slice hB Tryz.underlying59 (op115 hB n)).map id (fun _ => rfl) (fun _ h => h.1)
theorem op61 (hB : Bulk bulk) : ∀ n, Opens enc Tryz.prog w base spare held bulk B n 61 (fun l : List B3 => [D.list (l.map cT3)]) (fun _ => True)
  | 0 => Opens.zero
  | n + 1 => (opens_slice hB Tryz.underlying61 (op195 hB n)).map id (fun _ => rfl) (fun _ _ => trivial)
theorem op60 (hB : Bulk bulk) : ∀ n, Opens enc Tryz.prog w base spare held bulk B n 60 (fun l : List UInt8 => [D.list (l.map cU)]) (fun _ => True)
  | 0 => Opens.zero
  | n + 1 => (opens_slice hB Tryz.underlying60 (op5 n)).map id (fun _ => rfl) (fun _ _ => trivial)
theorem op64 (hB : Bulk bulk) : ∀ n, Opens enc Tryz.prog w base spare held bulk B n 64 (fun l : List T4 => [D.list (l.map cT4)]) (fun _ => True)
  | 0 => Opens.zero
  | n + 1 => (opens_slice hB Tryz.underlying64 (op248 hB n)).map id (fun _ => rfl) (fun _ _ => trivial)
theorem op63 (hB : Bulk bulk) : ∀ n, Opens enc Tryz.prog w base spare held bulk B n 63 Dr5.c (fun _ => True)
  | 0 => Opens.zero
  | n + 1 => (opens_struct hB Tryz.underlying63 (by kernel_rfl) (opensL_cons (op60 hB n) (opensL_cons (op61 hB n) (opensL_nil)))).map (fun p => ⟨p.1, p.2.1⟩) (fun p => rfl) (fun _ _ => trivial)
theorem op66 (hB : Bulk bulk) : ∀ n, Opens enc Tryz.prog w base spare held bulk B n 66 Dr21.c (fun _ => True)
  | 0 => Opens.zero
  | n + 1 => (opens_struct hB Tryz.underlying66 (by kernel_rfl) (opensL_cons (op63 hB n) (opensL_cons (op61 hB n) (opensL_cons (op64 hB n) (opensL_nil))))).map (fun p => ⟨p.1, p.2.1, p.2.2.1⟩) (fun p => rfl) (fun _ _ => trivial)
theorem op70 (hB : Bulk bulk) : ∀ n, Opens enc Tryz.prog w base spare held bulk B n 70 Dr24.c (fun _ => True)
  | 0 => Opens.zero
  | n + 1 => (opens_struct hB Tryz.underlying70 (by kernel_rfl) (opensL_cons (op66 hB n) (opensL_cons (op67 n) (opensL_cons (op60 hB n) (opensL_cons (op61 hB n) (opensL_cons (op61 hB n) (opensL_cons (op4 n) (opensL_cons (op4 n) (opensL_cons (op68 hB n) (opensL_cons (op60 hB n) (opensL_nil))))))))))).map (fun p => ⟨p.1, p.2.1, p.2.2.1, p.2.2.2.1, p.2.2.2.2.1, p.2.2.2.2.2.1, p.2.2.2.2.2.2.1, p.2.2.2.2.2.2.2.1, p.2.2.2.2.2.2.2.2.1⟩) (fun p => rfl) (fun _ _ => trivial)
theorem op72 (hB : Bulk bulk) : ∀ n, Opens enc Tryz.prog w base spare held bulk B n 72 Dr15.c (fun _ => True)
  | 0 => Opens.zero
  | n + 1 => (opens_struct hB Tryz.underlying72 (by kernel_rfl) (opensL_cons (op59 hB n) (opensL_cons (op61 hB n) (opensL_nil)))).map (fun p => ⟨p.1, p.2.1⟩) (fun p => rfl) (fun _ _ => trivial)
theorem op74 (hB : Bulk bulk) : ∀ n, Opens enc Tryz.prog w base spare held bulk B n 74 Dr32.c (fun d => d.types.length ≤ B)
  | 0 => Opens.zero
  | n + 1 => (opens_struct hB Tryz.underlying74 (by kernel_rfl) (opensL_cons (op59 hB n) (opensL_cons (op59 hB n) (opensL_cons (op70 hB n) (opensL_cons (op70 hB n) (opensL_cons (op72 hB n) (opensL_nil))))))).map (fun p => ⟨p.1, p.2.1, p.2.2.1, p.2.2.2.1, p.2.2.2.2.1⟩) (fun p => by simp [Dr32.c]) (fun _ h => h.1)
theorem arg_u8 {r : Reach} {b0 : Nat} {t : TypeId} {v : Value} {d : DataW H} {ps : List MemPlace} (ht : Tryz.prog.underlying t = some (.int .u8)) (hval : Value.okWide Tryz.prog w r b0 t v) (hd : DataW.Trod enc Tryz.prog w base spare held t v d ps) :
    ∃ x : UInt8, True ∧ RepV noM noRef noId w v (.int .u8 (x.toNat : Int)) := by
  obtain ⟨z, hw, hv⟩ := arg_int ht hval hd
  have hz : 0 ≤ z ∧ z < 256 := by
    have h1 : IntKind.u8.min = 0 := by decide
    have h2 : IntKind.u8.max = 255 := by decide
    simp only [Lit.wf, Bool.and_eq_true, decide_eq_true_eq, h1, h2] at hw; omega
  have he : (((UInt8.ofNat z.toNat).toNat : Nat) : Int) = z := by simp; omega
  exact ⟨UInt8.ofNat z.toNat, trivial, by rw [he]; exact hv⟩
end
end Go.Abs
end
