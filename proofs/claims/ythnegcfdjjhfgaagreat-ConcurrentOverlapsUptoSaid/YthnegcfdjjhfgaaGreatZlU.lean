/- From a reading of an argument to an abstract value of a type -/
import Derived.Test.YthnegcfdjjhfgaaGreatZlE
import Derived.Test.YthnegcfdjjhfgaaGreatZlT
import Derived.Carry
import Derived.ChangeArms
import Derived.WideShapes
import Derived.DataElems
import Derived.Test.YthnegcfdjjhfgaaGreatRows
set_option linter.unusedVariables false
set_option linter.unusedSimpArgs false
section
namespace Go.Abs
open Go.ChangeShapes Go.WideShapes Go.RowKit
structure Bulk {H : Type} (bulk : DataW H → Nat) : Prop where
  len : ∀ e s, e.length ≤ bulk (.slice e s)
  el : ∀ e s, ∀ d ∈ e, bulk d ≤ bulk (.slice e s)
  part : ∀ l, ∀ d ∈ l, bulk d ≤ bulk (.agg l)
  str : ∀ s : List UInt8, s.length ≤ bulk (.lit (.string s))
abbrev noM : Nat → Prop := fun _ => False
section
variable {H : Type} {enc : TypeId × Value → H} {P : Program} {w : World} {base : Nat} {spare : Nat → Bool} {held : Bool} {bulk : DataW H → Nat} {B : Nat}
def Opens (enc : TypeId × Value → H) (P : Program) (w : World) (base : Nat) (spare : Nat → Bool) (held : Bool) (bulk : DataW H → Nat) (B : Nat) (n : Nat) (t : TypeId) {α : Type} (C : α → List D) (G : α → Prop) : Prop :=
  ∀ (fuel : Nat) (cs : List Value) (x : DataW H × List MemPlace), fuel ≤ n → DataW.trod enc P w base spare held fuel t cs = some x → bulk x.1 ≤ B →
    ∃ a, G a ∧ RepL noM noRef noId w cs (C a) ∧ ∀ u ∈ cs, u.oneCell' = true
variable {n : Nat} {t : TypeId}
theorem Opens.mono {α : Type} {C : α → List D} {G : α → Prop} {m : Nat} (h : Opens enc P w base spare held bulk B n t C G) (hm : m ≤ n) : Opens enc P w base spare held bulk B m t C G :=
  fun fuel cs x hf hx hb => h fuel cs x (Nat.le_trans hf hm) hx hb
theorem Opens.zero {α : Type} {C : α → List D} {G : α → Prop} : Opens enc P w base spare held bulk B 0 t C G := fun fuel cs x hf hx _ => by
  have : fuel = 0 := by omega
  subst this
  simp [DataW.trod] at hx
theorem Opens.map {α β : Type} {C : α → List D} {G : α → Prop} {C' : β → List D} {G' : β → Prop} (h : Opens enc P w base spare held bulk B n t C G) (f : α → β) (hC : ∀ a, C a = C' (f a)) (hG : ∀ a, G a → G' (f a)) : Opens enc P w base spare held bulk B n t C' G' :=
  fun fuel cs x hf hx hb => by
    obtain ⟨a, h1, h2, h3⟩ := h fuel cs x hf hx hb
    exact ⟨f a, hG a h1, by rw [← hC]; exact h2, h3⟩
theorem repL_one {v : Value} {d : D} (h : RepV noM noRef noId w v d) : RepL noM noRef noId w [v] [d] :=
  ⟨rfl, fun j u x hu hx => by
    cases j with
    | zero => simp at hu hx; subst hu; subst hx; exact h
    | succ j => simp at hu⟩
theorem repL_app {a b : List Value} {c d : List D} (h : RepL noM noRef noId w a c) (k : RepL noM noRef noId w b d) : RepL noM noRef noId w (a ++ b) (c ++ d) := by
  refine ⟨by simp [h.len, k.len], fun j u x hu hx => ?_⟩
  by_cases hj : j < a.length
  · rw [List.getElem?_append_left hj] at hu
    rw [List.getElem?_append_left (by rw [← h.len]; exact hj)] at hx
    exact h.rep j u x hu hx
  · rw [List.getElem?_append_right (by omega)] at hu
    rw [List.getElem?_append_right (by rw [← h.len]; omega), ← h.len] at hx
    exact k.rep _ u x hu hx
theorem opens_bool (ht : P.underlying t = some .bool) : Opens enc P w base spare held bulk B n t (fun b : Bool => [D.bool b]) (fun _ => True) := fun fuel cs x _ hx _ => by
  obtain ⟨b, rfl, _⟩ := DataW.trod_bool ht hx
  exact ⟨b, trivial, repL_one (.bool b), by simp [Value.oneCell']⟩
theorem opens_int {k : IntKind} (ht : P.underlying t = some (.int k)) : Opens enc P w base spare held bulk B n t (fun z : Int => [D.int k z]) (fun z => (Lit.int k z).wf = true) := fun fuel cs x _ hx _ => by
  obtain ⟨z, rfl, _, hw⟩ := DataW.trod_int ht hx
  exact ⟨z, hw, repL_one (.int k z), by simp [Value.oneCell']⟩
theorem opens_string (hB : Bulk bulk) (ht : P.underlying t = some .string) : Opens enc P w base spare held bulk B n t (fun s : ByteArray => [D.str s]) (fun s => s.size ≤ B) := fun fuel cs x _ hx hb => by
  obtain ⟨s, rfl, rfl, hs⟩ := DataW.trod_string ht hx
  refine ⟨s, ?_, repL_one (.str s), by simp [Value.oneCell']⟩
  have := hB.str s.data.toList
  have hl : s.data.toList.length = s.size := by rw [Array.length_toList]; rfl
  simp only at hb
  omega
theorem rows {α : Type} {C : α → List D} {G : α → Prop} {ad : Addr} {sz : Nat} : ∀ (len : Nat),
    (∀ i, i < len → ∃ c a, w.cells? base (ad.add (i * sz)) sz = some c ∧ G a ∧ RepL noM noRef noId w c (C a) ∧ ∀ u ∈ c, u.oneCell' = true) →
    ∃ (l : List α) (xs : List Value), l.length = len ∧ (∀ a ∈ l, G a) ∧ RepL noM noRef noId w xs (l.map C).flatten ∧ (∀ u ∈ xs, u.oneCell' = true) ∧ xs.length = len * sz ∧
      (∀ (j : Nat) (u : Value), xs[j]? = some u → w.cell? (ad.add j) = some u) ∧ ∀ c ∈ l.map C, c.length = sz
  | 0, _ => ⟨[], [], rfl, by simp, ⟨rfl, fun j u d hu => by simp at hu⟩, by simp, by simp, by simp, by simp⟩
  | len + 1, h => by
    obtain ⟨l, xs, h1, h2, h3, h4, h5, h6, h7⟩ := rows len fun i hi => h i (by omega)
    obtain ⟨c, a, hc, hg, hr, h1c⟩ := h len (by omega)
    obtain ⟨_, hcl, hcell⟩ := World.cells?_some hc
    refine ⟨l ++ [a], xs ++ c, by simp [h1], fun b hb => ?_, ?_, fun u hu => ?_, by rw [List.length_append, h5, hcl, Nat.succ_mul], fun j u hu => ?_, fun b hb => ?_⟩
    · rcases List.mem_append.1 hb with h | h
      · exact h2 b h
      · simp at h; subst h; exact hg
    · rw [List.map_append, List.flatten_append]
      refine repL_app h3 ?_
      simpa using hr
    · rcases List.mem_append.1 hu with h | h
      · exact h4 u h
      · exact h1c u h
    · by_cases hj : j < xs.length
      · rw [List.getElem?_append_left hj] at hu; exact h6 j u hu
      · rw [List.getElem?_append_right (by omega)] at hu
        have hlt : j - xs.length < sz := by rw [← hcl]; exact (List.getElem?_eq_some_iff.1 hu).1
        have := hcell (j - xs.length) hlt
        rw [Addr.add_add, hu] at this
        rwa [show len * sz + (j - xs.length) = j by omega] at this
    · rw [List.map_append] at hb
      rcases List.mem_append.1 hb with h | h
      · exact h7 b h
      · simp at h; subst h; rw [← hr.len, hcl]
theorem opens_slice (hB : Bulk bulk) {e : TypeId} (ht : P.underlying t = some (.slice e)) {α : Type} {C : α → List D} {G : α → Prop} (h : Opens enc P w base spare held bulk B n e C G) :
    Opens enc P w base spare held bulk B (n + 1) t (fun l : List α => [.list (l.map C)]) (fun l => l.length ≤ B ∧ ∀ a ∈ l, G a) := fun fuel cs x hf hx hb => by
  rcases DataW.trod_slice ht hx with ⟨rfl, rfl⟩ | ⟨ad, len, cap, elems, rest, m, rfl, rfl, rfl, hbase, hlc, hcap, hlen, hel, _, _⟩
  · exact ⟨[], ⟨Nat.zero_le _, by simp⟩, repL_one .listN, by simp [Value.oneCell']⟩
  · simp only at hb
    have hb1 := hB.len (elems.map (·.1)) (rest.map (·.1))
    rw [List.length_map] at hb1
    obtain ⟨l, xs, h1, h2, h3, h4, h5, h6, h7⟩ := rows (w := w) (base := base) (C := C) (G := G) (ad := ad) (sz := P.cellsOf e) len fun i hi => by
      have := hel i hi
      rw [lge (by omega), Option.bind_eq_some_iff] at this
      obtain ⟨c, hc, hd⟩ := this
      obtain ⟨a, g1, g2, g3⟩ := h m c _ (by omega) hd (Nat.le_trans (hB.el _ (rest.map (·.1)) _ (List.mem_map.2 ⟨_, lgm (by omega), rfl⟩)) hb)
      exact ⟨c, a, hc, g1, g2, g3⟩
    refine ⟨l, ⟨by omega, h2⟩, repL_one ?_, by simp [Value.oneCell']⟩
    have key := RepV.list (M := noM) (σ := noRef) (N := noId) (w := w) ad cap (P.cellsOf e) xs (l.map C) (by rw [List.length_map]; omega) hcap h7 h3.len h4 (fun j u hu => ⟨fun h => h, h6 j u hu⟩) h3.rep
    rw [List.length_map, h1] at key
    exact key
def Segs (enc : TypeId × Value → H) (P : Program) (w : World) (base : Nat) (spare : Nat → Bool) (held : Bool) (bulk : DataW H → Nat) (B n : Nat) : List TypeId → List Value → Prop
  | [], cs => cs = []
  | t :: ts, cs => (∃ y, DataW.trod enc P w base spare held n t (cs.take (P.cellsOf t)) = some y ∧ bulk y.1 ≤ B) ∧ Segs enc P w base spare held bulk B n ts (cs.drop (P.cellsOf t))
def OpensL (enc : TypeId × Value → H) (P : Program) (w : World) (base : Nat) (spare : Nat → Bool) (held : Bool) (bulk : DataW H → Nat) (B : Nat) (n : Nat) (ts : List TypeId) {α : Type} (C : α → List D) (G : α → Prop) : Prop :=
  ∀ (fuel : Nat) (cs : List Value), fuel ≤ n → Segs enc P w base spare held bulk B fuel ts cs → ∃ a, G a ∧ RepL noM noRef noId w cs (C a) ∧ ∀ u ∈ cs, u.oneCell' = true
theorem opensL_nil : OpensL enc P w base spare held bulk B n [] (fun _ : Unit => []) (fun _ => True) := fun fuel cs _ h => by
  have h : cs = [] := h
  subst h
  exact ⟨(), trivial, ⟨rfl, fun j u d hu => by simp at hu⟩, by simp⟩
theorem opensL_cons {ts : List TypeId} {α β : Type} {C : α → List D} {G : α → Prop} {C' : β → List D} {G' : β → Prop} (h : Opens enc P w base spare held bulk B n t C G) (k : OpensL enc P w base spare held bulk B n ts C' G') :
    OpensL enc P w base spare held bulk B n (t :: ts) (fun p : α × β => C p.1 ++ C' p.2) (fun p => G p.1 ∧ G' p.2) := fun fuel cs hf hs => by
  obtain ⟨⟨y, hy, hyb⟩, hs⟩ := hs
  obtain ⟨a, a1, a2, a3⟩ := h fuel _ y hf hy hyb
  obtain ⟨b, b1, b2, b3⟩ := k fuel _ hf hs
  refine ⟨(a, b), ⟨a1, b1⟩, ?_, fun u hu => ?_⟩
  · have := repL_app a2 b2
    rwa [List.take_append_drop] at this
  · rw [← List.take_append_drop (P.cellsOf t) cs] at hu
    rcases List.mem_append.1 hu with h | h
    · exact a3 u h
    · exact b3 u h
def offs (P : Program) : Nat → List Field → Option Nat
  | o, [] => some o
  | o, f :: r => if f.offset = o then offs P (o + P.cellsOf f.type) r else none
theorem segs_of {fuel : Nat} {cs : List Value} : ∀ (fs : List Field) (o : Nat), offs P o fs = some cs.length →
    (∀ f ∈ fs, ∃ y, DataW.trod enc P w base spare held fuel f.type ((cs.drop f.offset).take (P.cellsOf f.type)) = some y ∧ bulk y.1 ≤ B) → o ≤ cs.length ∧ Segs enc P w base spare held bulk B fuel (fs.map (·.type)) (cs.drop o)
  | [], o, ho, _ => by
    simp only [offs, Option.some.injEq] at ho
    subst ho
    exact ⟨Nat.le_refl _, by show cs.drop cs.length = []; simp⟩
  | f :: fs, o, ho, h => by
    unfold offs at ho
    split at ho
    · rename_i hof
      subst hof
      obtain ⟨h1, h2⟩ := segs_of fs _ ho fun g hg => h g (by simp [hg])
      refine ⟨by omega, ?_⟩
      refine ⟨h f (by simp), ?_⟩
      rw [List.drop_drop]
      exact h2
    · cases ho
theorem opens_struct (hB : Bulk bulk) {fs : Array Field} (ht : P.underlying t = some (.struct fs)) (ho : offs P 0 fs.toList = some (P.cellsOf t)) {α : Type} {C : α → List D} {G : α → Prop} (h : OpensL enc P w base spare held bulk B n (fs.toList.map (·.type)) C G) :
    Opens enc P w base spare held bulk B (n + 1) t C G := fun fuel cs x hf hx hb => by
  obtain ⟨xs, m, rfl, rfl, hcl, hxl, hfl⟩ := DataW.trod_struct ht hx
  simp only at hb
  have hs := (segs_of (enc := enc) (P := P) (w := w) (base := base) (spare := spare) (held := held) (bulk := bulk) (B := B) (fuel := m) (cs := cs) fs.toList 0 (by rw [hcl]; exact ho) fun f hfm => by
    obtain ⟨i, hi, rfl⟩ := List.getElem_of_mem hfm
    have hi' : i < fs.size := by simpa using hi
    have hfi := hfl i (fs.toList[i]) (by simp [hi'])
    rw [lge (by omega)] at hfi
    exact ⟨_, hfi, Nat.le_trans (hB.part _ _ (List.mem_map.2 ⟨_, lgm (by omega), rfl⟩)) hb⟩).2
  rw [List.drop_zero] at hs
  exact h m cs (by omega) hs
theorem arg_struct {r : Reach} {b0 : Nat} {fs : Array Field} {v : Value} {d : DataW H} {ps : List MemPlace} {α : Type} {C : α → List D} {G : α → Prop} (ht : P.underlying t = some (.struct fs)) (h : ∀ n, Opens enc P w base spare held bulk B n t C G)
    (hval : Value.okWide P w r b0 t v) (hd : DataW.Trod enc P w base spare held t v d ps) (hb : bulk d ≤ B) : ∃ a, G a ∧ RepV noM noRef noId w v (.agg (C a)) := by
  obtain ⟨cs, rfl, _⟩ := okWide_struct ht hval
  obtain ⟨fuel, hf⟩ := hd
  obtain ⟨a, h1, h2, h3⟩ := h fuel fuel _ _ (Nat.le_refl _) hf hb
  have hc : (Value.agg cs).cells.toList = cs.toList := rfl
  rw [hc] at h2 h3
  have := RepV.agg (M := noM) (σ := noRef) (N := noId) (w := w) cs.toList (C a) h2.len h3 h2.rep
  exact ⟨a, h1, by simpa using this⟩
theorem trodAll_stays (hl : laidOutB P = true) {W W' : World} {sp' : Nat → Bool} (hb : Below W.heap.size W W') : ∀ {ts : List TypeId} {vs : List Value} {ds : List (DataW H)} {ps : List MemPlace}, (∀ t ∈ ts, P.readableRec t = true ∧ t < P.types.size) →
    DataW.TrodAll enc P W 0 (fun _ => true) true ts vs ds ps → (∀ x ∈ ps, x.block < W.heap.size) → (∀ x ∈ ps, sp' x.block = true) → DataW.TrodAll enc P W' 0 sp' true ts vs ds ps
  | [], _, _, _, _, h, _, _ => by
    obtain ⟨rfl, rfl, rfl⟩ := trodAll_nil h
    rfl
  | t :: ts, _, _, _, hr, h, hlt, hs => by
    obtain ⟨v, vs, d, ds, p, q, rfl, rfl, rfl, h1, h2⟩ := trodAll_cons h
    refine ⟨p, q, WideElems.Trod_stays hl (hr t (by simp)).1 (hr t (by simp)).2 h1 (fun x hx => hb.same (hlt x (by simp [hx]))) (fun x hx => hs x (by simp [hx])), trodAll_stays hl hb (fun u hu => hr u (by simp [hu])) h2 (fun x hx => hlt x (by simp [hx])) (fun x hx => hs x (by simp [hx])), rfl⟩
theorem post_of_below (hl : laidOutB P = true) {f : Func} {s : ChangeSpec} {apart fresh handsOn again : Bool} {W W' : World} {args : Array Value} {v : Value} {ds gs : List (DataW H)} {before : List MemPlace}
    (hr : ∀ t ∈ f.params.toList, P.readableRec t = true ∧ t < P.types.size) (hvars : s.vars = []) (hW : DataW.Whole enc P f.params.toList s.vars apart W args.toList ds gs before)
    (hres : ∀ (b : Nat) (sp : Nat → Bool) (hd : Bool), DataW.TrodAll enc P W' b sp hd f.resultTypes.toList (v.resultList f.resultTypes.size) (s.fn H (ds ++ gs)).results [])
    (hargs : (s.fn H (ds ++ gs)).args = ds) (hvs : (s.fn H (ds ++ gs)).vars = []) (hb : Below W.heap.size W W')
    (hok : ∀ (j : Nat) (t : TypeId) (r : Value), f.resultTypes[j]? = some t → (v.resultList f.resultTypes.size)[j]? = some r → Value.okWide P W' .any 0 t r) :
    s.post enc P f apart fresh handsOn again W args v W' := by
  have hW' := hW
  obtain ⟨p, q, hA, hV, rfl, hz, hn⟩ := hW
  rw [hvars] at hV
  obtain ⟨rfl, rfl⟩ := trodVars_none hV
  rw [List.append_nil] at hW' hz hn
  have hlt : ∀ x ∈ p, x.block < W.heap.size := fun x hx => by simpa using hW'.lt x hx
  have hTr : ∀ sp : Nat → Bool, (∀ x ∈ p, sp x.block = true) → DataW.TrodAll enc P W' 0 sp true f.params.toList args.toList (s.fn H (ds ++ [])).args p := fun sp hs => by
    rw [hargs]; exact trodAll_stays hl hb hr hA hlt hs
  have hVr : ∀ sp : Nat → Bool, DataW.TrodVars enc P W' sp s.vars (s.fn H (ds ++ [])).vars [] := fun sp => by rw [hvars, hvs]; rfl
  refine ⟨ds, [], p, [], p, [], hW', hres _ _ _, hTr _ (fun x hx => by simpa using hlt x hx), hVr _, World.keptBut_mono (fun x hx => ⟨hx, .inr (by simpa using hx)⟩) (hb.frame (· ∈ p)), fun _ => ?_⟩
  refine ⟨hok, _, _, ([] ++ p) ++ [], ⟨[] ++ p, [], trodAll_append (hTr _ (fun _ _ => rfl)) (hres _ _ _), hVr _, rfl, ?_, ?_⟩, ?_⟩
  · intro b off hp
    have hp' : MemPlace.cell b off ∈ p := by simpa using hp
    have := hz b off hp'
    rw [← this]
    exact hb.frozen (hlt _ hp')
  · intro ha
    simpa using hn ha
  · intro x hx _
    simpa using hx
end
end Go.Abs
end
section
namespace Go.Proofs.YthnegcfdjjhfgaaGreat.bulks
theorem one_le {H : Type} (d : DataW H) : 1 ≤ Rows.uptoBulk d := by
  cases d with
  | lit l => cases l <;> simp [Rows.uptoBulk]
  | _ => simp [Rows.uptoBulk]
theorem mem_le {H : Type} {d : DataW H} : ∀ {l : List (DataW H)}, d ∈ l → Rows.uptoBulk d ≤ Rows.uptoBulkAll l
  | [], h => by cases h
  | x :: r, h => by
    simp only [Rows.uptoBulkAll]
    rcases List.mem_cons.1 h with rfl | h
    · omega
    · have := mem_le h; omega
theorem len_le {H : Type} : ∀ l : List (DataW H), l.length ≤ Rows.uptoBulkAll l
  | [] => by simp [Rows.uptoBulkAll]
  | x :: r => by have := one_le x; have := len_le r; simp only [Rows.uptoBulkAll, List.length_cons]; omega
theorem ok {H : Type} : Go.Abs.Bulk (Rows.uptoBulk (H := H)) where
  len e s := by have := len_le e; simp only [Rows.uptoBulk]; omega
  el e s d h := by have := mem_le h; simp only [Rows.uptoBulk]; omega
  part l d h := by have := mem_le h; simp only [Rows.uptoBulk]; omega
  str s := by simp [Rows.uptoBulk]
theorem bound {H : Type} {l : List (DataW H)} (hk : Rows.uptoSmall H l = true) : ∀ d ∈ l, Rows.uptoBulk d ≤ 1048576 := fun d hd => by
  have h := of_decide_eq_true hk
  have := mem_le hd
  omega
end Go.Proofs.YthnegcfdjjhfgaaGreat.bulks
end
section
open Go Go.Proofs
namespace Go.Abs
mutual
def Cond.bnd (B : Nat) : Cond → Prop
  | .mk k l m p => (m.nodes.length ≤ B ∧ m.edges.length ≤ B) ∧ Cond.bnds B l
def Cond.bnds (B : Nat) : List Cond → Prop
  | [] => True
  | c :: l => c.bnd B ∧ Cond.bnds B l
end
theorem Cond.bnds_iff (B : Nat) (l : List Cond) : Cond.bnds B l ↔ ∀ c ∈ l, c.bnd B := by
  induction l with
  | nil => simp [Cond.bnds]
  | cons a l ih => simp [Cond.bnds, ih]
theorem Cond.bnd_iff (B : Nat) (c : Cond) : c.bnd B ↔ (c.map.nodes.length ≤ B ∧ c.map.edges.length ≤ B) ∧ ∀ k ∈ c.kids, k.bnd B := by cases c; simp [Cond.bnd, Cond.bnds_iff, Cond.kids, Cond.map]
theorem Cond.bnd_le {B : Nat} (hB : B ≤ 1000000000000000) : ∀ c : Cond, c.bnd B → c.le := by
  refine Cond.ind fun c ih h => ?_
  obtain ⟨h1, h2⟩ := (Cond.bnd_iff B c).1 h
  exact (Cond.le_iff c).2 ⟨⟨by omega, by omega⟩, fun k hk => ih k hk (h2 k hk)⟩
def Rule.bnd (B : Nat) (x : Rule) : Prop := (x.keep.nodes.length ≤ B ∧ x.keep.edges.length ≤ B) ∧ (x.into.nodes.length ≤ B ∧ x.into.edges.length ≤ B) ∧ x.cond.bnd B
theorem Rule.bnd_le {B : Nat} (hB : B ≤ 1000000000000000) {r : Rule} (h : r.bnd B) : r.le := by
  obtain ⟨⟨h1, h2⟩, ⟨h3, h4⟩, h5⟩ := h
  exact ⟨⟨by omega, by omega⟩, ⟨by omega, by omega⟩, Cond.bnd_le hB _ h5⟩
structure CaseC where
  t : Types
  a : Rule
  b : Rule
def CaseC.c (x : CaseC) : List D := x.t.c ++ x.a.c ++ x.b.c
section
variable {H : Type} {enc : TypeId × Value → H} {w : World} {base : Nat} {spare : Nat → Bool} {held : Bool} {bulk : DataW H → Nat} {B : Nat}
theorem op9 (hB : Bulk bulk) : ∀ n, Opens enc Tryz.prog w base spare held bulk B n 9 cS (fun _ => True) := fun n => (opens_string hB Tryz.underlying9).map id (fun _ => rfl) (fun _ _ => trivial)
theorem op3 : ∀ n, Opens enc Tryz.prog w base spare held bulk B n 3 cI (fun _ => True) := fun n => (opens_int Tryz.underlying3).map id (fun _ => rfl) (fun _ _ => trivial)
theorem op4 : ∀ n, Opens enc Tryz.prog w base spare held bulk B n 4 (fun b : Bool => [D.bool b]) (fun _ => True) := fun n => opens_bool Tryz.underlying4
theorem op126 (hB : Bulk bulk) : ∀ n, Opens enc Tryz.prog w base spare held bulk B n 126 (fun l : List ByteArray => [D.list (l.map cS)]) (fun l => l.length ≤ B ∧ ∀ a ∈ l, (fun _ => True) a)
  | 0 => Opens.zero
  | n + 1 => opens_slice hB Tryz.underlying126 (op9 hB n)
theorem op128 (hB : Bulk bulk) : ∀ n, Opens enc Tryz.prog w base spare held bulk B n 128 Attr.c (fun _ => True)
  | 0 => Opens.zero
  | n + 1 => (opens_struct hB Tryz.underlying128 (by kernel_rfl) (opensL_cons (op9 hB n) (opensL_cons (op3 n) (opensL_cons (op3 n) (opensL_cons (op126 hB n) opensL_nil))))).map (fun p => ⟨p.1, p.2.1, p.2.2.1, p.2.2.2.1⟩) (fun p => rfl) (fun p h => trivial)
theorem op129 (hB : Bulk bulk) : ∀ n, Opens enc Tryz.prog w base spare held bulk B n 129 (fun l : List Attr => [D.list (l.map Attr.c)]) (fun l => l.length ≤ B ∧ ∀ a ∈ l, (fun _ => True) a)
  | 0 => Opens.zero
  | n + 1 => opens_slice hB Tryz.underlying129 (op128 hB n)
theorem op131 (hB : Bulk bulk) : ∀ n, Opens enc Tryz.prog w base spare held bulk B n 131 NodeTy.c (fun x => x.attrs.length ≤ B)
  | 0 => Opens.zero
  | n + 1 => (opens_struct hB Tryz.underlying131 (by kernel_rfl) (opensL_cons (op9 hB n) (opensL_cons (op3 n) (opensL_cons (op4 n) (opensL_cons (op129 hB n) opensL_nil))))).map (fun p => ⟨p.1, p.2.1, p.2.2.1, p.2.2.2.1⟩) (fun p => rfl) (fun p h => h.2.2.2.1.1)
theorem op22 (hB : Bulk bulk) : ∀ n, Opens enc Tryz.prog w base spare held bulk B n 22 (fun l : List NodeTy => [D.list (l.map NodeTy.c)]) (fun l => l.length ≤ B ∧ ∀ a ∈ l, (fun x => x.attrs.length ≤ B) a)
  | 0 => Opens.zero
  | n + 1 => opens_slice hB Tryz.underlying22 (op131 hB n)
theorem op133 (hB : Bulk bulk) : ∀ n, Opens enc Tryz.prog w base spare held bulk B n 133 EdgeTy.c (fun _ => True)
  | 0 => Opens.zero
  | n + 1 => (opens_struct hB Tryz.underlying133 (by kernel_rfl) (opensL_cons (op9 hB n) (opensL_cons (op3 n) (opensL_cons (op3 n) (opensL_cons (op3 n) (opensL_cons (op3 n) (opensL_cons (op3 n) (opensL_cons (op3 n) opensL_nil)))))))).map (fun p => ⟨p.1, p.2.1, p.2.2.1, p.2.2.2.1, p.2.2.2.2.1, p.2.2.2.2.2.1, p.2.2.2.2.2.2.1⟩) (fun p => rfl) (fun p h => trivial)
theorem op23 (hB : Bulk bulk) : ∀ n, Opens enc Tryz.prog w base spare held bulk B n 23 (fun l : List EdgeTy => [D.list (l.map EdgeTy.c)]) (fun l => l.length ≤ B ∧ ∀ a ∈ l, (fun _ => True) a)
  | 0 => Opens.zero
  | n + 1 => opens_slice hB Tryz.underlying23 (op133 hB n)
theorem op25 (hB : Bulk bulk) : ∀ n, Opens enc Tryz.prog w base spare held bulk B n 25 Types.c (fun x => x.nodes.length ≤ B ∧ x.edges.length ≤ B ∧ ∀ n ∈ x.nodes, n.attrs.length ≤ B)
  | 0 => Opens.zero
  | n + 1 => (opens_struct hB Tryz.underlying25 (by kernel_rfl) (opensL_cons (op22 hB n) (opensL_cons (op23 hB n) opensL_nil))).map (fun p => ⟨p.1, p.2.1⟩) (fun p => rfl) (fun p h => ⟨h.1.1, h.2.1.1, h.1.2⟩)
theorem op26 (hB : Bulk bulk) : ∀ n, Opens enc Tryz.prog w base spare held bulk B n 26 (fun l : List Int => [D.list (l.map cI)]) (fun l => l.length ≤ B ∧ ∀ a ∈ l, (fun _ => True) a)
  | 0 => Opens.zero
  | n + 1 => opens_slice hB Tryz.underlying26 (op3 n)
theorem op124 (hB : Bulk bulk) : ∀ n, Opens enc Tryz.prog w base spare held bulk B n 124 Edge.c (fun _ => True)
  | 0 => Opens.zero
  | n + 1 => (opens_struct hB Tryz.underlying124 (by kernel_rfl) (opensL_cons (op3 n) (opensL_cons (op3 n) (opensL_cons (op3 n) opensL_nil)))).map (fun p => ⟨p.1, p.2.1, p.2.2.1⟩) (fun p => rfl) (fun p h => trivial)
theorem op27 (hB : Bulk bulk) : ∀ n, Opens enc Tryz.prog w base spare held bulk B n 27 (fun l : List Edge => [D.list (l.map Edge.c)]) (fun l => l.length ≤ B ∧ ∀ a ∈ l, (fun _ => True) a)
  | 0 => Opens.zero
  | n + 1 => opens_slice hB Tryz.underlying27 (op124 hB n)
theorem op29 (hB : Bulk bulk) : ∀ n, Opens enc Tryz.prog w base spare held bulk B n 29 Graph.c (fun x => x.nodes.length ≤ B ∧ x.edges.length ≤ B)
  | 0 => Opens.zero
  | n + 1 => (opens_struct hB Tryz.underlying29 (by kernel_rfl) (opensL_cons (op26 hB n) (opensL_cons (op27 hB n) opensL_nil))).map (fun p => ⟨p.1, p.2.1⟩) (fun p => rfl) (fun p h => ⟨h.1.1, h.2.1.1⟩)
theorem op148 (hB : Bulk bulk) : ∀ n, Opens enc Tryz.prog w base spare held bulk B n 148 Term.c (fun _ => True)
  | 0 => Opens.zero
  | n + 1 => (opens_struct hB Tryz.underlying148 (by kernel_rfl) (opensL_cons (op3 n) (opensL_cons (op3 n) opensL_nil))).map (fun p => ⟨p.1, p.2.1⟩) (fun p => rfl) (fun p h => trivial)
theorem op150 (hB : Bulk bulk) : ∀ n, Opens enc Tryz.prog w base spare held bulk B n 150 Slot.c (fun _ => True)
  | 0 => Opens.zero
  | n + 1 => (opens_struct hB Tryz.underlying150 (by kernel_rfl) (opensL_cons (op3 n) (opensL_cons (op3 n) (opensL_cons (op148 hB n) opensL_nil)))).map (fun p => ⟨p.1, p.2.1, p.2.2.1⟩) (fun p => by simp [Slot.c, Term.c, cI, dI]) (fun p h => trivial)
theorem op30 (hB : Bulk bulk) : ∀ n, Opens enc Tryz.prog w base spare held bulk B n 30 (fun l : List Slot => [D.list (l.map Slot.c)]) (fun l => l.length ≤ B ∧ ∀ a ∈ l, (fun _ => True) a)
  | 0 => Opens.zero
  | n + 1 => opens_slice hB Tryz.underlying30 (op150 hB n)
theorem op152 (hB : Bulk bulk) : ∀ n, Opens enc Tryz.prog w base spare held bulk B n 152 Test.c (fun _ => True)
  | 0 => Opens.zero
  | n + 1 => (opens_struct hB Tryz.underlying152 (by kernel_rfl) (opensL_cons (op3 n) (opensL_cons (op148 hB n) (opensL_cons (op148 hB n) opensL_nil)))).map (fun p => ⟨p.1, p.2.1, p.2.2.1⟩) (fun p => by simp [Test.c, Term.c, cI, dI]) (fun p h => trivial)
theorem op31 (hB : Bulk bulk) : ∀ n, Opens enc Tryz.prog w base spare held bulk B n 31 (fun l : List Test => [D.list (l.map Test.c)]) (fun l => l.length ≤ B ∧ ∀ a ∈ l, (fun _ => True) a)
  | 0 => Opens.zero
  | n + 1 => opens_slice hB Tryz.underlying31 (op152 hB n)
theorem op33 (hB : Bulk bulk) : ∀ n, Opens enc Tryz.prog w base spare held bulk B n 33 Pattern.c (fun _ => True)
  | 0 => Opens.zero
  | n + 1 => (opens_struct hB Tryz.underlying33 (by kernel_rfl) (opensL_cons (op29 hB n) (opensL_cons (op30 hB n) (opensL_cons (op3 n) (opensL_cons (op31 hB n) opensL_nil))))).map (fun p => ⟨p.1, p.2.1, p.2.2.1, p.2.2.2.1⟩) (fun p => by simp [Pattern.c, Graph.c, cI, dI]) (fun p h => trivial)
theorem op35 (hB : Bulk bulk) : ∀ n, Opens enc Tryz.prog w base spare held bulk B n 35 Part.c (fun x => x.nodes.length ≤ B ∧ x.edges.length ≤ B)
  | 0 => Opens.zero
  | n + 1 => (opens_struct hB Tryz.underlying35 (by kernel_rfl) (opensL_cons (op26 hB n) (opensL_cons (op26 hB n) opensL_nil))).map (fun p => ⟨p.1, p.2.1⟩) (fun p => rfl) (fun p h => ⟨h.1.1, h.2.1.1⟩)
theorem op36 (hB : Bulk bulk) : ∀ n, Opens enc Tryz.prog w base spare held bulk B n 36 Part.c (fun x => x.nodes.length ≤ B ∧ x.edges.length ≤ B)
  | 0 => Opens.zero
  | n + 1 => (opens_struct hB Tryz.underlying36 (by kernel_rfl) (opensL_cons (op26 hB n) (opensL_cons (op26 hB n) opensL_nil))).map (fun p => ⟨p.1, p.2.1⟩) (fun p => rfl) (fun p h => ⟨h.1.1, h.2.1.1⟩)
theorem op39 (hB : Bulk bulk) : ∀ n, Opens enc Tryz.prog w base spare held bulk B n 39 Cond.c (fun c => c.bnd B)
  | 0 => Opens.zero
  | n + 1 =>
    have hk : Opens enc Tryz.prog w base spare held bulk B n 37 (fun l : List Cond => [D.list (l.map Cond.c)]) (fun l => l.length ≤ B ∧ ∀ a ∈ l, Cond.bnd B a) := match n with
     | 0 => Opens.zero
     | m + 1 => opens_slice hB Tryz.underlying37 ((op39 hB (m + 1)).mono (Nat.le_succ m))
    (opens_struct hB Tryz.underlying39 (by kernel_rfl) (opensL_cons (op3 n) (opensL_cons hk (opensL_cons (op36 hB n) (opensL_cons (op33 hB n) opensL_nil))))).map (fun p => Cond.mk p.1 p.2.1 p.2.2.1 p.2.2.2.1) (fun p => by simp [Cond.c, Cond.cs_eq, Part.c, Pattern.c, cI, dI]) (fun p h => (Cond.bnd_iff B _).2 ⟨h.2.2.1, h.2.1.2⟩)
theorem op41 (hB : Bulk bulk) : ∀ n, Opens enc Tryz.prog w base spare held bulk B n 41 Rule.c (fun x => (x.keep.nodes.length ≤ B ∧ x.keep.edges.length ≤ B) ∧ (x.into.nodes.length ≤ B ∧ x.into.edges.length ≤ B) ∧ x.cond.bnd B)
  | 0 => Opens.zero
  | n + 1 => (opens_struct hB Tryz.underlying41 (by kernel_rfl) (opensL_cons (op9 hB n) (opensL_cons (op33 hB n) (opensL_cons (op33 hB n) (opensL_cons (op35 hB n) (opensL_cons (op36 hB n) (opensL_cons (op4 n) (opensL_cons (op39 hB n) opensL_nil)))))))).map (fun p => ⟨p.1, p.2.1, p.2.2.1, p.2.2.2.1, p.2.2.2.2.1, p.2.2.2.2.2.1, p.2.2.2.2.2.2.1⟩) (fun p => by simp [Rule.c, Pattern.c, Part.c, Cond.c_eq, cS, cI, dI]) (fun p h => ⟨h.2.2.2.1, h.2.2.2.2.1, h.2.2.2.2.2.2.1⟩)
theorem op43 (hB : Bulk bulk) : ∀ n, Opens enc Tryz.prog w base spare held bulk B n 43 CaseC.c (fun x => (∀ n ∈ x.t.nodes, n.attrs.length ≤ B) ∧ x.a.bnd B ∧ x.b.bnd B)
  | 0 => Opens.zero
  | n + 1 => (opens_struct hB Tryz.underlying43 (by kernel_rfl) (opensL_cons (op25 hB n) (opensL_cons (op41 hB n) (opensL_cons (op41 hB n) opensL_nil)))).map (fun p => ⟨p.1, p.2.1, p.2.2.1⟩) (fun p => by simp [CaseC.c]) (fun p h => ⟨h.1.2.2, h.2.1, h.2.2.1⟩)
end
end Go.Abs
end
