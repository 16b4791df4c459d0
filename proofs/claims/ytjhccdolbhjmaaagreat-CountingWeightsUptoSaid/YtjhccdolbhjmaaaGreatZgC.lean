/- The abstraction layer, part K: all operations together. · Th -/
import Derived.Test.YtjhccdolbhjmaaaGreatZgB
set_option linter.unusedVariables false
set_option linter.unusedSimpArgs false
section
namespace Go.Abs
section
variable {P : Program} {M0 : Nat → Prop} {H : AHeap} {σ : Nat → Option Ow} {w : World}
def OpN (P : Program) (x : Sem Next) (M0 : Nat → Prop) (H : AHeap) (σ : Nat → Option Ow) (w : World) (d : D) (H' : AHeap) : Prop :=
  ∃ v w' σ', (x.run P w = .ok (.value v) w' ∨ (x.run P w = .ok .skip w' ∧ v = undef)) ∧ Rel M0 H' σ' w' ∧ RepV (Mut M0 H' σ') σ' H'.al w' v d ∧ Stp σ w σ' w' ∧
    Keeps (Mut M0 H σ) σ H.al w (Mut M0 H' σ') σ' H'.al w'
theorem OpS.next {x : Sem Value} {d : D} {H' : AHeap} (h : OpS P x M0 H σ w d H') : OpN P (do Pure.pure (Next.value (← x))) M0 H σ w d H' := by
  obtain ⟨v, w', σ', hr, h2, h3, h4, h5⟩ := h
  exact ⟨v, w', σ', .inl (by simp [hr]), h2, h3, h4, h5⟩
theorem OpU.next {x : Sem Unit} {H' : AHeap} (h : OpU P x M0 H σ w H') : OpN P (do x; Pure.pure Next.skip) M0 H σ w .junk H' := by
  obtain ⟨w', σ', hr, h2, h4, h5⟩ := h
  exact ⟨undef, w', σ', .inr ⟨by simp [hr], rfl⟩, h2, .junk _, h4, h5⟩
def EnvR (M : Nat → Prop) (σ : Nat → Option Ow) (N : Nat → Prop) (w : World) (ρ : Operand → Value) (e : Nat → D) : Prop :=
  (∀ t, RepV M σ N w (ρ (.tmp t)) (e t)) ∧ (∀ v, ρ (.const v) = v) ∧ ∀ f, ρ (.func f) = .func (.func f) #[] #[]
theorem EnvR.ev {M : Nat → Prop} {N : Nat → Prop} {ρ : Operand → Value} {e : Nat → D} (h : EnvR M σ N w ρ e) (x : Operand) : RepV M σ N w (ρ x) (evD e x) := by
  cases x with
  | tmp t => exact h.1 t
  | const v => rw [h.2.1]; exact constD_rep v
  | func f => rw [h.2.2]; exact .fn f [] [] rfl (fun j u d hu => by simp at hu)
  | global g => exact .junk _
theorem EnvR.parts {M : Nat → Prop} {N : Nat → Prop} {ρ : Operand → Value} {e : Nat → D} (h : EnvR M σ N w ρ e) (ps : List (Nat × Operand)) :
    Parts M σ N w (ps.map fun p => (p.1, ρ p.2)) (ps.map fun p => (p.1, evD e p.2)) := by
  refine ⟨by simp [Function.comp_def], fun j v d hv hd => ?_⟩
  simp only [List.map_map, List.getElem?_map, Option.map_eq_some_iff] at hv hd
  obtain ⟨p, hp, rfl⟩ := hv
  obtain ⟨q, hq, rfl⟩ := hd
  rw [hp] at hq; cases hq
  exact h.ev p.2
theorem frz_sound (hR : Rel M0 H σ w) (id : Nat) : Rel M0 (H.frz id) σ w ∧ Keeps (Mut M0 H σ) σ H.al w (Mut M0 (H.frz id) σ) σ (H.frz id).al w ∧ (H.frz id).al = H.al ∧
    ∀ i, ((H.frz id).get i).map (·.es) = (H.get i).map (·.es) ∧ (∀ k, H.get i = some k → k.fz = true ∨ i = id → ∃ k', (H.frz id).get i = some k' ∧ k'.fz = true ∧ k'.es = k.es) := by
  unfold AHeap.frz
  cases hk : H.get id with
  | none =>
    refine ⟨hR, .refl _ _ _ _, rfl, fun i => ⟨rfl, fun k hik h => ?_⟩⟩
    rcases h with h | rfl
    · exact ⟨k, hik, h, rfl⟩
    · rw [hk] at hik; cases hik
  | some k =>
    simp only
    have hget : ∀ i, ((H.put id { k with fz := true }).get i).map (·.es) = (H.get i).map (·.es) ∧ (∀ k0, H.get i = some k0 → k0.fz = true ∨ i = id → ∃ k', (H.put id { k with fz := true }).get i = some k' ∧ k'.fz = true ∧ k'.es = k0.es) := by
      intro i
      by_cases hi : i = id
      · subst hi
        refine ⟨by simp [AHeap.put, hk], fun k0 h0 _ => ⟨{ k with fz := true }, by simp [AHeap.put], rfl, ?_⟩⟩
        rw [hk] at h0; cases h0; rfl
      · refine ⟨by simp [AHeap.put, hi], fun k0 h0 h => ?_⟩
        rcases h with h | h
        · exact ⟨k0, by simp [AHeap.put, hi, h0], h, rfl⟩
        · exact absurd h hi
    by_cases hf : k.fz = false
    · obtain ⟨o, ho, l⟩ := hR.lies id k hk
      obtain ⟨xs, hrow, h1, hrep⟩ := l.row
      have hp := Rel.put hR (w' := w) hk hf ho { k with fz := true } o ⟨rfl, rfl, rfl, Nat.le_refl _, fun _ _ _ => rfl⟩ (fun b hb => .inl hb) (.inl rfl) l.ver l.ty l.sz l.esz xs hrow h1 hrep
      simp only [put_same o id ho] at hp
      exact ⟨hp.1, hp.2.2, rfl, hget⟩
    · have hH : H.put id { k with fz := true } = H := by
        have hf' : k.fz = true := by simpa using hf
        have hk' : ({ k with fz := true } : Blk) = k := by cases k; simp at hf'; subst hf'; rfl
        obtain ⟨n, al, g⟩ := H
        simp only [AHeap.put, hk', AHeap.mk.injEq, true_and]
        funext i
        by_cases hi : i = id
        · simp only at hk; simp [hi, hk]
        · simp [hi]
      rw [hH] at hget ⊢
      exact ⟨hR, .refl _ _ _ _, rfl, hget⟩
theorem frzs_sound (ids : List Nat) : ∀ {H : AHeap}, Rel M0 H σ w → Rel M0 (frzs ids H) σ w ∧ Keeps (Mut M0 H σ) σ H.al w (Mut M0 (frzs ids H) σ) σ (frzs ids H).al w ∧ (frzs ids H).al = H.al ∧
    ∀ i, ((frzs ids H).get i).map (·.es) = (H.get i).map (·.es) ∧ (∀ k, H.get i = some k → k.fz = true ∨ i ∈ ids → ∃ k', (frzs ids H).get i = some k' ∧ k'.fz = true ∧ k'.es = k.es) := by
  induction ids with
  | nil => intro H hR; exact ⟨hR, .refl _ _ _ _, rfl, fun i => ⟨rfl, fun k hk h => ⟨k, hk, by simpa using h, rfl⟩⟩⟩
  | cons id ids ih =>
    intro H hR
    obtain ⟨h1, h2, h3, h4⟩ := frz_sound hR id
    obtain ⟨g1, g2, g3, g4⟩ := ih h1
    refine ⟨g1, h2.trans g2, g3.trans h3, fun i => ⟨(g4 i).1.trans (h4 i).1, fun k hk h => ?_⟩⟩
    rcases h with h | h
    · obtain ⟨k1, a1, a2, a3⟩ := (h4 i).2 k hk (.inl h)
      obtain ⟨k2, b1, b2, b3⟩ := (g4 i).2 k1 a1 (.inl a2)
      exact ⟨k2, b1, b2, b3.trans a3⟩
    · rcases List.mem_cons.1 h with rfl | h
      · obtain ⟨k1, a1, a2, a3⟩ := (h4 i).2 k hk (.inr rfl)
        obtain ⟨k2, b1, b2, b3⟩ := (g4 i).2 k1 a1 (.inl a2)
        exact ⟨k2, b1, b2, b3.trans a3⟩
      · have he := (h4 i).1
        rw [hk] at he
        cases hk1 : (H.frz id).get i with
        | none => rw [hk1] at he; cases he
        | some k1 =>
          rw [hk1] at he
          obtain ⟨k2, b1, b2, b3⟩ := (g4 i).2 k1 hk1 (.inr h)
          refine ⟨k2, b1, b2, b3.trans ?_⟩
          simpa using he
theorem frozen_rep {v : Value} {id n : Nat} {k : Blk} (hR : Rel M0 H σ w) (hx : RepV (Mut M0 H σ) σ H.al w v (.own id n)) (hk : H.get id = some k) (hf : k.fz = true) (hn : k.es.length = n) :
    RepV (Mut M0 H σ) σ H.al w v (.list k.es) := by
  obtain ⟨o, ho, l⟩ := hR.lies id k hk
  obtain ⟨xs, hrow, hx1, hrep⟩ := l.row
  cases hx
  rename_i h1 hN h
  rcases h o ho with h' | ⟨h2, rfl⟩
  · have := l.ver; omega
  · rcases hrow.2 with ⟨hnil, h0⟩ | ⟨g, cap, cur, hval, _, _, hnc, hcm, _⟩
    · rw [hnil, List.eq_nil_of_length_eq_zero h0]; exact .listN
    · have hob : o.block = some g := by simp [Ow.block, hval, Value.ownBlock]
      rw [hval]
      refine .list ⟨g, 0, none⟩ cap o.esz xs k.es hnc hcm l.esz hrep.len hx1 (fun j u hu => ⟨?_, hrow.cells (g := g) (by simpa [Ow.block] using hob) j u hu⟩) hrep.rep
      rintro (hm | ⟨i, k', o', hk', hf', ho', hb'⟩)
      · exact (hR.lt id o g ho hob).2 hm
      · have hi := hR.inj i id o' o g ho' ho hb' hob
        subst hi
        rw [hk] at hk'; cases hk'
        rw [hf] at hf'; cases hf'
theorem rsv1_same {H H' : AHeap} (h : ∀ i, (H'.get i).map (·.es) = (H.get i).map (·.es)) (d : D) : rsv1 H' d = rsv1 H d := by
  cases d <;> try rfl
  rename_i id n
  have := h id
  simp only [rsv1]
  cases h1 : H.get id <;> cases h2 : H'.get id <;> rw [h1, h2] at this <;> simp at this
  · simp only [this]
theorem rsv1_frozen {v : Value} {d : D} (hR : Rel M0 H σ w) (hx : RepV (Mut M0 H σ) σ H.al w v d) (hf : ∀ i ∈ ids1 d, ∀ k, H.get i = some k → k.fz = true) :
    RepV (Mut M0 H σ) σ H.al w v (rsv1 H d) := by
  cases d <;> try exact hx
  rename_i id n
  simp only [rsv1]
  cases hk : H.get id with
  | none => exact hx
  | some k =>
    simp only
    split
    · rename_i hn
      exact frozen_rep hR hx hk (hf id (by simp [ids1]) k hk) hn
    · exact hx
theorem rsvD_frozen {v : Value} {d : D} (hR : Rel M0 H σ w) (hx : RepV (Mut M0 H σ) σ H.al w v d) (ids : List Nat) (hi : ∀ i ∈ ownIds d, i ∈ ids) :
    RepV (Mut M0 (frzs ids H) σ) σ (frzs ids H).al w v (rsvD H d) := by
  obtain ⟨h1, h2, h3, h4⟩ := frzs_sound ids hR
  have hx' := hx.keep h2
  have hfr : ∀ i ∈ ids, ∀ k, (frzs ids H).get i = some k → k.fz = true := fun i hi k hk => by
    have he := (h4 i).1
    rw [hk] at he
    cases hk0 : H.get i with
    | none => rw [hk0] at he; cases he
    | some k0 =>
      obtain ⟨k', a1, a2, a3⟩ := (h4 i).2 k0 hk0 (.inr hi)
      rw [hk] at a1; cases a1; exact a2
  cases d with
  | agg cs =>
    cases hx'
    rename_i vs hv1 hl hr
    refine .agg vs _ (by simpa using hl) hv1 fun j u x hu hx => ?_
    rw [List.getElem?_map, Option.map_eq_some_iff] at hx
    obtain ⟨y, hy, rfl⟩ := hx
    rw [← rsv1_same (fun i => (h4 i).1) y]
    refine rsv1_frozen h1 (hr j u y hu hy) fun i hii k hk => hfr i (hi i ?_) k hk
    simp only [ownIds, List.mem_flatMap]
    exact ⟨y, List.mem_of_getElem? hy, hii⟩
  | _ =>
    simp only [rsvD]
    rw [← rsv1_same (fun i => (h4 i).1)]
    exact rsv1_frozen h1 hx' fun i hii k hk => hfr i (hi i hii) k hk
theorem isNilC_spec {x : Operand} (h : isNilC x = true) : x = .const (.slice none 0 0) := by
  unfold isNilC at h
  split at h
  · rfl
  · cases h
theorem oper_sound {nid : Nat} (hnid : ¬ H.al nid) {md : Nat → Bool} {e : Nat → D} {o : Oper} {ρ : Operand → Value} (hR : Rel M0 H σ w) (hE : EnvR (Mut M0 H σ) σ H.al w ρ e) (hc : (aOp P nid md e o H).cond) :
    (aOp P nid md e o H).fact ∧ OpN P (execOp ρ o) M0 H σ w (aOp P nid md e o H).val (aOp P nid md e o H).heap := by
  obtain ⟨dst, op, type, pos, after, guard⟩ := o
  unfold aOp execOp at *
  simp only at hc ⊢
  cases op <;> try (exact hc.elim)
  case move x =>
    simp only at hc ⊢
    by_cases hn : isNilC x = true
    · rw [if_pos hn] at hc ⊢
      have hx := isNilC_spec hn; subst hx
      obtain ⟨h1, h2⟩ := nil_sound (P := P) hnid (x := (Pure.pure (ρ (.const (.slice none 0 0))) : Sem Value)) hR (by show Result.ok (ρ _) w = _; rw [hE.2.1]) hc
      obtain ⟨v, w', σ', hr, h3⟩ := h2
      have hr' : Result.ok (ρ (.const (.slice none 0 0))) w = Result.ok v w' := hr
      injection hr' with e1 e2
      subst e1; subst e2
      exact ⟨h1, _, _, σ', .inl rfl, h3⟩
    · rw [if_neg hn] at hc ⊢
      exact ⟨trivial, ρ x, w, σ, .inl rfl, hR, hE.ev x, .refl _ _, .refl _ _ _ _⟩
  case assign x =>
    simp only at hc ⊢
    by_cases hn : isNilC x = true
    · rw [if_pos hn] at hc ⊢
      have hx := isNilC_spec hn; subst hx
      obtain ⟨h1, h2⟩ := nil_sound (P := P) hnid (x := (Pure.pure (ρ (.const (.slice none 0 0))) : Sem Value)) hR (by show Result.ok (ρ _) w = _; rw [hE.2.1]) hc
      obtain ⟨v, w', σ', hr, h3⟩ := h2
      have hr' : Result.ok (ρ (.const (.slice none 0 0))) w = Result.ok v w' := hr
      injection hr' with e1 e2
      subst e1; subst e2
      exact ⟨h1, _, _, σ', .inl rfl, h3⟩
    · rw [if_neg hn] at hc ⊢
      exact ⟨trivial, ρ x, w, σ, .inl rfl, hR, hE.ev x, .refl _ _, .refl _ _ _ _⟩
  case pick c a b =>
    obtain ⟨h1, h2⟩ := pick_sound hR (hE.ev c) (hE.ev a) (hE.ev b) hc
    exact ⟨h1, by simpa using h2.next⟩
  case alloc t =>
    obtain ⟨h1, h2⟩ := alloc_sound (P := P) hnid hR hc
    exact ⟨h1, h2.next⟩
  case box t x =>
    obtain ⟨h1, h2⟩ := box_sound (P := P) hnid hR (hE.ev x) hc
    exact ⟨h1, h2.next⟩
  case build t ps =>
    obtain ⟨h1, h2⟩ := build_sound (P := P) hR (hE.parts ps.toList) hc
    refine ⟨h1, ?_⟩
    have := h2.next
    rw [show (List.map (fun p => (p.1, ρ p.2)) ps.toList).toArray = ps.map (fun p => (p.1, ρ p.2)) by rw [← Array.toList_map]] at this
    exact this
  case buildSlice t n ps =>
    obtain ⟨f1, f2, f3, f4⟩ := frzs_sound (ps.toList.flatMap fun p => ownIds (evD e p.2)) hR
    have hparts : Parts (Mut M0 (frzs (ps.toList.flatMap fun p => ownIds (evD e p.2)) H) σ) σ (frzs (ps.toList.flatMap fun p => ownIds (evD e p.2)) H).al w
        (ps.toList.map fun p => (p.1, ρ p.2)) (ps.toList.map fun p => (p.1, rsvD H (evD e p.2))) := by
      refine ⟨by simp [Function.comp_def], fun j v d hv hd => ?_⟩
      simp only [List.map_map, List.getElem?_map, Option.map_eq_some_iff] at hv hd
      obtain ⟨p, hp, rfl⟩ := hv
      obtain ⟨q, hq, rfl⟩ := hd
      rw [hp] at hq; cases hq
      exact rsvD_frozen hR (hE.ev p.2) _ fun i hi => List.mem_flatMap.2 ⟨p, List.mem_of_getElem? hp, hi⟩
    obtain ⟨h1, h2⟩ := buildSlice_sound (P := P) (by rw [f3]; exact hnid) f1 hparts hc
    refine ⟨h1, ?_⟩
    have := h2.next
    rw [show (List.map (fun p => (p.1, ρ p.2)) ps.toList).toArray = ps.map (fun p => (p.1, ρ p.2)) by rw [← Array.toList_map]] at this
    obtain ⟨v, w', σ', a1, a2, a3, a4, a5⟩ := this
    exact ⟨v, w', σ', a1, a2, a3, a4, f2.trans a5⟩
  case load t a =>
    obtain ⟨h1, h2⟩ := load_sound (P := P) hR (hE.ev a) hc
    exact ⟨h1, h2.next⟩
  case store t a v =>
    have key : ∀ (H1 : AHeap) (x1 v1 : D), Rel M0 H1 σ w → Keeps (Mut M0 H σ) σ H.al w (Mut M0 H1 σ) σ H1.al w → RepV (Mut M0 H1 σ) σ H1.al w (ρ a) x1 → RepV (Mut M0 H1 σ) σ H1.al w (ρ v) v1 →
        (aStore P t x1 v1 H1).cond → (aStore P t x1 v1 H1).fact ∧ OpN P (do Instr.storeAt t (ρ a) (ρ v); Pure.pure Next.skip) M0 H σ w (aStore P t x1 v1 H1).val (aStore P t x1 v1 H1).heap := by
      intro H1 x1 v1 hR1 hK1 hx1 hv1 hc1
      have h2 := store_sound (P := P) hR1 hx1 hv1 hc1
      have hf : (aStore P t x1 v1 H1).fact ∧ (aStore P t x1 v1 H1).val = .junk := by
        simp only [aStore] at hc1 ⊢
        split at hc1
        · split at hc1
          · split at hc1
            · exact ⟨trivial, rfl⟩
            · exact hc1.elim
          · exact hc1.elim
        · exact hc1.elim
      refine ⟨hf.1, ?_⟩
      rw [hf.2]
      obtain ⟨v', w', σ', a1, a2, a3, a4, a5⟩ := h2.next
      exact ⟨v', w', σ', a1, a2, a3, a4, hK1.trans a5⟩
    simp only at hc ⊢
    by_cases hm : md 1000000 = true
    · rw [if_pos hm] at hc ⊢
      obtain ⟨f1, f2, f3, f4⟩ := frzs_sound (ownIds (evD e v)) hR
      exact key _ _ _ f1 f2 ((hE.ev a).keep f2) (rsvD_frozen hR (hE.ev v) _ fun i hi => hi) hc
    · rw [if_neg hm] at hc ⊢
      exact key H _ _ hR (.refl _ _ _ _) (hE.ev a) (hE.ev v) hc
  case nilCheck x =>
    obtain ⟨a, h1, h2, h3, h4⟩ := nilCheck_sound hR (hE.ev x) hc
    refine ⟨h2, ρ x, w, σ, .inl ?_, by rw [h4]; exact hR, by rw [h4]; exact h3, .refl _ _, by rw [h4]; exact .refl _ _ _ _⟩
    simp [h1]
  case binOp op t x y t' =>
    obtain ⟨h1, h2⟩ := eq_sound (P := P) (t := t) (ox := x) (oy := y) hR (hE.ev x) (hE.ev y) hc
    exact ⟨h1, h2.next⟩
  case unOp op t x =>
    obtain ⟨h1, h2⟩ := un_sound (P := P) hR (hE.ev x) hc
    exact ⟨h1, h2.next⟩
  case convert s d x =>
    obtain ⟨h1, h2⟩ := convert_sound (P := P) hR (hE.ev x) hc
    exact ⟨h1, h2.next⟩
  case makeFunc fn first caps =>
    cases fn <;> try (exact hc.elim)
    rename_i f
    simp only at hc ⊢
    by_cases hf : first.isEmpty = true
    · rw [if_pos hf]
      have : first = #[] := by simpa using hf
      subst this
      refine ⟨trivial, ⟨.func (.func f) #[] (caps.toList.map ρ).toArray, w, σ, .inl (by simp [Instr.makeFunc]; rw [← Array.toList_map]), hR, .fn f _ _ (by simp) (fun j u d hu hd => ?_), .refl _ _, .refl _ _ _ _⟩⟩
      simp only [List.getElem?_map, Option.map_eq_some_iff] at hu hd
      obtain ⟨p, hp, rfl⟩ := hu
      obtain ⟨q, hq, rfl⟩ := hd
      rw [hp] at hq; cases hq
      exact hE.ev p
    · rw [if_neg hf] at hc; exact hc.elim
  case makeSlice t l c =>
    obtain ⟨h1, h2⟩ := make_sound (P := P) hnid hR (hE.ev l) (hE.ev c) hc
    exact ⟨h1, h2.next⟩
  case slice t x lo hi mx =>
    cases mx with
    | some m => exact hc.elim
    | none =>
      obtain ⟨h1, h2⟩ := slice_sound (P := P) (vlo := lo.map ρ) (vhi := hi.map ρ) hR (hE.ev x) (fun v d hv hd => by
        cases lo with
        | none => cases hv
        | some o => cases hv; cases hd; exact hE.ev o) (by cases lo <;> rfl) (fun v d hv hd => by
        cases hi with
        | none => cases hv
        | some o => cases hv; cases hd; exact hE.ev o) (by cases hi <;> rfl) hc
      exact ⟨h1, h2.next⟩
  case fieldAddr t x f =>
    obtain ⟨h1, h2⟩ := fieldAddr_sound (P := P) hR (hE.ev x) hc
    exact ⟨h1, h2.next⟩
  case indexAddr t x i =>
    obtain ⟨h1, h2⟩ := indexAddr_sound (P := P) hR (hE.ev x) (hE.ev i) hc
    exact ⟨h1, h2.next⟩
  case index t x i =>
    obtain ⟨h1, h2⟩ := index_sound (P := P) hR (hE.ev x) (hE.ev i) hc
    exact ⟨h1, h2.next⟩
  case extract t i =>
    obtain ⟨h1, h2⟩ := extract_sound (P := P) hR (hE.ev t) hc
    exact ⟨h1, h2.next⟩
  case call c =>
    obtain ⟨callee, args, ts⟩ := c
    cases callee <;> try (exact hc.elim)
    rename_i b
    obtain ⟨args⟩ := args
    obtain ⟨ts⟩ := ts
    simp only [List.map_toArray, resolve, invoke, OpN, Sem.run_bind, Sem.run_pure, Result.andThen_ok] at hc ⊢
    unfold aBuiltin at *
    split at hc
    · rename_i xd td ht
      match args, ht with
      | [ox], ht =>
        cases ht
        obtain ⟨h1, h2⟩ := len_sound (P := P) (ty := type) hR (hE.ev ox) hc
        exact ⟨h1, by simpa [OpN, builtin] using h2.next⟩
    · rename_i xd yd td td' ht
      match args, ht with
      | [ox, oy], ht =>
        cases ht
        obtain ⟨h1, h2⟩ := append_sound (P := P) hnid (ty := type) hR (hE.ev ox) (hE.ev oy) hc
        exact ⟨h1, by simpa [OpN, builtin] using h2.next⟩
    · rename_i x y hx
      match args, hx with
      | [ox, oy], hx =>
        cases hx
        obtain ⟨h1, h2⟩ := min_sound (P := P) (b := .min) (mx := false) (t := type)  rfl hR (hE.ev ox) (hE.ev oy) hc
        exact ⟨h1, by simpa [OpN, builtin] using h2.next⟩
    · rename_i x y hx
      match args, hx with
      | [ox, oy], hx =>
        cases hx
        obtain ⟨h1, h2⟩ := min_sound (P := P) (b := .max) (mx := true) (t := type)  rfl hR (hE.ev ox) (hE.ev oy) hc
        exact ⟨h1, by simpa [OpN, builtin] using h2.next⟩
    · exact hc.elim
end
end Go.Abs
end
section
namespace Go.Abs
def Ent (P : Program) (f : FuncId) : Prop := ∃ fn, P.funcs[f]? = some fn ∧ (fn.name == "runtime.NumGoroutine") = false ∧ fn.body.isSome = true
def ACalls (P : Program) (f : FuncId) (args : List D) (H : AHeap) (Q : D → AHeap → Prop) : Prop :=
  Ent P f ∧ ∀ (M0 : Nat → Prop) (σ : Nat → Option Ow) (w : World) (vals : List Value), Rel M0 H σ w → RepL (Mut M0 H σ) σ H.al w vals args →
    Calls P f vals.toArray w fun e w' => ∃ v d H' σ', e = .returned v ∧ Rel M0 H' σ' w' ∧ RepV (Mut M0 H' σ') σ' H'.al w' v d ∧ Stp σ w σ' w' ∧
      Keeps (Mut M0 H σ) σ H.al w (Mut M0 H' σ') σ' H'.al w' ∧ Q d H'
theorem ACalls.mono {P : Program} {f : FuncId} {args : List D} {H : AHeap} {Q Q' : D → AHeap → Prop} (h : ACalls P f args H Q) (hq : ∀ d H', Q d H' → Q' d H') : ACalls P f args H Q' :=
  ⟨h.1, fun M0 σ w vals hR ha => (h.2 M0 σ w vals hR ha).mono fun _ _ ⟨v, d, H', σ', a, b, c, s, k, q⟩ => ⟨v, d, H', σ', a, b, c, s, k, hq _ _ q⟩⟩
def upd (e : Nat → D) (dst : Option Tmp) (v : D) : Nat → D :=
  match dst with
  | some d => fun t => if t = d then v else e t
  | none => e
structure St (n : Nat) (M0 : Nat → Prop) (H : AHeap) (σ : Nat → Option Ow) (w : World) (e : Nat → D) (a : Act) : Prop where
  rel : Rel M0 H σ w
  env : ∀ t, RepV (Mut M0 H σ) σ H.al w (a.tmps.getD t undef) (e t)
  defers : a.defers = []
  size : a.tmps.size = n
section
variable {P : Program} {M0 : Nat → Prop} {H : AHeap} {σ : Nat → Option Ow} {w : World} {n : Nat} {e : Nat → D} {a : Act}
theorem St.envR (h : St n M0 H σ w e a) : EnvR (Mut M0 H σ) σ H.al w a.eval e := ⟨h.env, fun _ => rfl, fun _ => rfl⟩
def dstOK (n : Nat) : Option Tmp → Bool
  | some d => decide (d < n)
  | none => true
theorem St.put {H' : AHeap} {σ' : Nat → Option Ow} {w' : World} (h : St n M0 H σ w e a) (hR : Rel M0 H' σ' w') (hk : Keeps (Mut M0 H σ) σ H.al w (Mut M0 H' σ') σ' H'.al w')
    {dst : Option Tmp} (hd : dstOK n dst = true) {v : Value} {d : D} (hv : RepV (Mut M0 H' σ') σ' H'.al w' v d) : St n M0 H' σ' w' (upd e dst d) (a.put dst v) := by
  cases dst with
  | none => exact ⟨hR, fun t => (h.env t).keep hk, h.defers, h.size⟩
  | some q =>
    have hq : q < a.tmps.size := by rw [h.size]; simpa [dstOK] using hd
    refine ⟨hR, fun t => ?_, h.defers, by simpa [Act.put] using h.size⟩
    by_cases ht : t = q
    · subst ht
      simpa [upd, Act.put, hq] using hv
    · have ht' : ¬ q = t := fun e => ht e.symm
      have := (h.env t).keep hk
      simpa [upd, Act.put, ht, ht', Array.getElem?_setIfInBounds] using this
theorem aOp_congr {nid : Nat} {md : Nat → Bool} {e e' : Nat → D} {o : Oper} (h : ∀ x ∈ o.op.operands, evD e x = evD e' x) : aOp P nid md e o H = aOp P nid md e' o H := by
  obtain ⟨dst, op, type, pos, after, guard⟩ := o
  have hmap : ∀ (l : List (Nat × Operand)), (∀ p ∈ l, evD e p.2 = evD e' p.2) → (l.map fun p => (p.1, evD e p.2)) = l.map fun p => (p.1, evD e' p.2) := fun l hl =>
    List.map_congr_left fun p hp => by rw [hl p hp]
  unfold aOp
  cases op <;> simp only [Op.operands] at h ⊢ <;> first | rfl | skip
  case move x => rw [h x (by simp)]
  case assign x => rw [h x (by simp)]
  case pick c a b => rw [h c (by simp), h a (by simp), h b (by simp)]
  case box t x => rw [h x (by simp)]
  case build t ps =>
    rw [hmap ps.toList fun p hp => h p.2 (by simpa using ⟨p.1, by simpa using hp⟩)]
  case buildSlice t n ps =>
    have hl : ∀ p ∈ ps.toList, evD e p.2 = evD e' p.2 := fun p hp => h p.2 (by simpa using ⟨p.1, by simpa using hp⟩)
    have h1 : (ps.toList.map fun p => (p.1, rsvD H (evD e p.2))) = ps.toList.map fun p => (p.1, rsvD H (evD e' p.2)) := List.map_congr_left fun p hp => by rw [hl p hp]
    have h2 : (ps.toList.flatMap fun p => ownIds (evD e p.2)) = ps.toList.flatMap fun p => ownIds (evD e' p.2) := by
      rw [List.flatMap_def, List.flatMap_def, List.map_congr_left fun p hp => by rw [hl p hp]]
    rw [h1, h2]
  case load t a => rw [h a (by simp)]
  case store t a v => rw [h a (by simp), h v (by simp)]
  case nilCheck x => rw [h x (by simp)]
  case binOp op t x y t' => rw [h x (by simp), h y (by simp)]
  case unOp op t x => rw [h x (by simp)]
  case convert s d x => rw [h x (by simp)]
  case makeFunc fn first caps =>
    cases fn <;> simp only
    have : caps.toList.map (evD e) = caps.toList.map (evD e') := List.map_congr_left fun x hx => h x (by simp; exact .inr (by simpa using hx))
    rw [this]
  case makeSlice t l c => rw [h l (by simp), h c (by simp)]
  case slice t x lo hi mx =>
    cases mx <;> simp only
    rw [h x (by simp)]
    cases lo <;> cases hi <;> simp only [Option.map_none, Option.map_some]
    · rename_i y; rw [h y (by simp)]
    · rename_i y; rw [h y (by simp)]
    · rename_i y z; rw [h y (by simp), h z (by simp)]
  case fieldAddr t x f => rw [h x (by simp)]
  case indexAddr t x i => rw [h x (by simp), h i (by simp)]
  case index t x i => rw [h x (by simp), h i (by simp)]
  case extract t i => rw [h t (by simp)]
  case call c =>
    obtain ⟨callee, args, ts⟩ := c
    cases callee <;> simp only
    have : args.toList.map (evD e) = args.toList.map (evD e') := List.map_congr_left fun x hx => h x (by simpa [Call.operands] using hx)
    rw [this]
theorem callOf_congr {e e' : Nat → D} {o : Oper} (h : ∀ x ∈ o.op.operands, evD e x = evD e' x) : callOf e o = callOf e' o := by
  obtain ⟨dst, op, type, pos, after, guard⟩ := o
  unfold callOf
  cases op <;> simp only
  rename_i c
  obtain ⟨callee, args, ts⟩ := c
  cases callee <;> simp only
  rename_i f
  have hf : evD e f = evD e' f := h f (by simp [Op.operands, Call.operands])
  have : args.toList.map (evD e) = args.toList.map (evD e') := List.map_congr_left fun x hx => h x (by simp [Op.operands, Call.operands]; exact .inr (by simpa using hx))
  rw [hf, this]
/-! ### guards -/
def gD (ops : Array Oper) (e : Nat → D) (j : Nat) : Option (Bool × Bool) :=
  match (ops[j]?).bind (·.dst) with
  | some t => match e t with
    | .bool c => some (true, c)
    | .opt g (.bool c) => some (g, c)
    | _ => none
  | none => none
def strip (e : Nat → D) : Nat → D := fun t => match e t with | .opt _ d => d | d => d
def gE (e : Nat → D) (op : Op) : Nat → D :=
  match op with
  | .pick (.tmp c) _ _ => fun t => if t = c then strip e t else e t
  | .pick _ _ _ => e
  | _ => strip e
def gO (op : Op) : List Operand :=
  match op with
  | .pick c _ _ => [c]
  | op => op.operands.toList
theorem gO_mem {op : Op} {x : Operand} (h : x ∈ gO op) : x ∈ op.operands := by
  cases op <;> simp only [gO] at h <;> first | (simpa using h) | (simp only [List.mem_singleton] at h; subst h; simp [Op.operands])
def og (e : Nat → D) : Operand → Bool
  | .tmp t => match e t with
    | .opt g _ => g
    | _ => true
  | _ => true
def ogs (e : Nat → D) : List Operand → Bool
  | [] => true
  | x :: l => og e x && ogs e l
theorem ogs_mem {l : List Operand} (h : ogs e l = true) : ∀ x ∈ l, og e x = true := by
  induction l with
  | nil => simp
  | cons a l ih =>
    simp only [ogs, Bool.and_eq_true] at h
    intro x hx
    cases hx with
    | head => exact h.1
    | tail _ hm => exact ih h.2 x hm
theorem wanted_guard (hS : St n M0 H σ w e a) {ops : Array Oper} {o : Oper} {j : Nat} {b g c : Bool} (hg : o.guard = some (j, b)) (h : gD ops e j = some (g, c)) :
    Region.wanted o (yielded ops a.tmps) = (g && (c == b)) := by
  unfold gD at h
  cases ht : (ops[j]?).bind (·.dst) with
  | none => simp [ht] at h
  | some t =>
    simp only [ht] at h
    have hget : a.tmps.getD t undef = (a.tmps[t]?).getD undef := by simp
    have henv := hS.env t
    rw [hget] at henv
    have key : ∀ b' : Bool, (a.tmps[t]?).getD undef = .bool b' → yielded ops a.tmps j = some b' := by
      intro b' hb
      cases hx : a.tmps[t]? with
      | none => rw [hx] at hb; simp [undef] at hb
      | some x => rw [hx] at hb; simp at hb; subst hb; simp [yielded, ht, hx]
    simp only [Region.wanted, hg]
    split at h
    · rename_i c' hc
      cases h
      rw [hc] at henv
      have hb : (a.tmps[t]?).getD undef = .bool c := by generalize (a.tmps[t]?).getD undef = v at henv; cases henv; rfl
      rw [key c hb]
      cases c <;> cases b <;> rfl
    · rename_i g' c' hc
      cases h
      rw [hc] at henv
      generalize hv : (a.tmps[t]?).getD undef = v at henv
      cases henv
      rename_i hf ht'
      cases g with
      | true =>
        have := ht' rfl
        cases this
        rw [key c hv]
        cases c <;> cases b <;> rfl
      | false =>
        have hu := hf rfl
        have : yielded ops a.tmps j = none := by
          cases hx : a.tmps[t]? with
          | none => simp [yielded, ht, hx]
          | some x => rw [hx] at hv; simp at hv; rw [hu] at hv; subst hv; simp [yielded, ht, hx]
        rw [this]
        simp
    · cases h
/-! ### one operation -/
def Agree (S : List Nat) (H' H : AHeap) : Prop := ∀ i ∈ S, H'.get i = H.get i
def idsAll : D → List Nat
  | .own id _ => [id]
  | .ptr id _ _ _ => [id]
  | .agg cs => cs.flatMap ids1
  | _ => []
def makes : Op → Bool
  | .alloc _ | .box .. | .buildSlice .. | .makeSlice .. => true
  | .call { callee := .builtin .append, .. } => true
  | .move x | .assign x => isNilC x
  | _ => false
def heapy : Op → Bool
  | .load .. | .store .. | .nilCheck _ | .fieldAddr .. | .indexAddr .. | .alloc _ | .box .. | .buildSlice .. | .makeSlice .. => true
  | .call _ => true
  | .move x | .assign x => isNilC x
  | _ => false
def foot (nid : Nat) (e : Nat → D) (o : Op) : List Nat :=
  (if makes o then [nid] else []) ++ (if heapy o then o.operands.toList.flatMap fun x => idsAll (evD e x) else [])
def aStep (P : Program) (md : Nat → Bool) (dr : Bool) (nid : Nat) (ops : Array Oper) (e : Nat → D) (o : Oper) (H : AHeap) (K : D → AHeap → List Nat → Prop) : Prop :=
  match o.guard with
  | none => match callOf e o with
    | some (f, args) =>
      if dr then ∃ r S, (∀ H', Agree S H' H → ACalls P f args H' fun v H1 => v = r ∧ H1 = H') ∧ K r H S
      else ACalls P f args H fun v H1 => K v H1 []
    | none => (aOp P nid md e o H).cond ∧ ((dr = false → (aOp P nid md e o H).fact) → K (aOp P nid md e o H).val (aOp P nid md e o H).heap (foot nid e o.op))
  | some (j, b) => match gD ops e j with
    | some (g, c) => ((g && (c == b)) = true → ogs e (gO o.op) = true) ∧
      match callOf (gE e o.op) o with
      | some (f, args) =>
        if dr then ∃ r S, ((g && (c == b)) = true → ∀ H', Agree S H' H → ACalls P f args H' fun v H1 => v = r ∧ H1 = H') ∧ K (.opt (g && (c == b)) r) H S
        else (∃ r S, ((g && (c == b)) = true → ∀ H', Agree S H' H → ACalls P f args H' fun v H1 => v = r ∧ H1 = H') ∧ K (.opt (g && (c == b)) r) H S) ∨
          (((g && (c == b)) = true → ACalls P f args H fun v H1 => K (.opt true v) H1 []) ∧ ((g && (c == b)) = false → ∃ r, K (.opt false r) H []))
      | none => ((g && (c == b)) = true → (aOp P nid md (gE e o.op) o H).cond ∧ (aOp P nid md (gE e o.op) o H).heap = H) ∧
          ((dr = false → (g && (c == b)) = true → (aOp P nid md (gE e o.op) o H).fact) → K (.opt (g && (c == b)) (aOp P nid md (gE e o.op) o H).val) H (foot nid (gE e o.op) o.op))
    | none => False
theorem callOf_run {o : Oper} {f : FuncId} {args : List D} {ρ : Operand → Value} {e : Nat → D} (hE : ∀ x ∈ o.op.operands, RepV (Mut M0 H σ) σ H.al w (ρ x) (evD e x)) (hc : callOf e o = some (f, args)) (he : Ent P f) :
    ∃ vals, (execOp ρ o).run P w = .ok (.enter f vals.toArray) w ∧ RepL (Mut M0 H σ) σ H.al w vals args := by
  obtain ⟨dst, op, type, pos, after, guard⟩ := o
  unfold callOf at hc
  cases op <;> simp only at hc <;> try (cases hc; done)
  rename_i c
  obtain ⟨callee, az, ts⟩ := c
  cases callee <;> simp only at hc <;> try (cases hc; done)
  rename_i fo
  split at hc
  · rename_i g caps hg
    simp at hc
    obtain ⟨rfl, rfl⟩ := hc
    have hfo := hE fo (by simp [Op.operands, Call.operands])
    rw [hg] at hfo
    generalize hv : ρ fo = v at hfo
    cases hfo
    rename_i vs hl hr
    obtain ⟨fn, hfn, hnm, hb⟩ := he
    refine ⟨az.toList.map ρ ++ vs, ?_, ⟨by simp [hl], fun j u d hu hd => ?_⟩⟩
    · have hb' : fn.body.isNone = false := by cases hh : fn.body <;> simp [hh] at hb ⊢
      have hprog : Sem.run P program w = .ok P w := rfl
      simp only [execOp, resolve, hv, Deferred.ofValue, invoke, callFunc, Sem.run_bind, Sem.run_pure, Result.andThen_ok, hprog, hfn, hnm, hb', Bool.false_eq_true, if_false]
      congr 2
      apply Array.ext'
      simp
    · by_cases hj : j < az.size
      · rw [List.getElem?_append_left (by simpa using hj)] at hu hd
        simp only [List.getElem?_map, Option.map_eq_some_iff] at hu hd
        obtain ⟨p, hp, rfl⟩ := hu
        obtain ⟨q, hq, rfl⟩ := hd
        rw [hp] at hq; cases hq
        exact hE p (by simp [Op.operands, Call.operands]; exact .inr (by simpa using List.mem_of_getElem? hp))
      · rw [List.getElem?_append_right (by simp; omega)] at hu hd
        simp only [List.length_map, Array.length_toList] at hu hd
        exact hr _ u d hu hd
  · cases hc
def StepC (P : Program) (ops : Array Oper) (Q : Exit → Act → World → Prop) (o : Oper) (Kc : Act → World → Prop) (a : Act) (w : World) : Prop :=
  if Region.wanted o (yielded ops a.tmps) then o.wp P a w Kc Q ∨ (o.asks P a w ∧ LetsOut Q) else Kc (a.put o.dst undef) w
theorem upon_calls {o : Oper} {f : FuncId} {args : List D} {vals : List Value} {Kc : Act → World → Prop} {Q : Exit → Act → World → Prop} (hrun : (execOp a.eval o).run P w = .ok (.enter f vals.toArray) w)
    (h : Calls P f vals.toArray w fun e w' => ∃ v, e = .returned v ∧ Kc (a.put o.dst v) w') : o.wp P a w Kc Q := by
  unfold Oper.wp
  rw [hrun, Oper.upon_enter]
  exact h.mono fun e w' ⟨v, he, hk⟩ => by subst he; exact hk
theorem aStep_sound {md : Nat → Bool} {dr : Bool} {nid : Nat} {ops : Array Oper} {o : Oper} {K : D → AHeap → List Nat → Prop} {Q : Exit → Act → World → Prop}
    (h : aStep P md dr nid ops e o H K) (hS : St n M0 H σ w e a) (hn : ¬ H.al nid) (hd : dstOK n o.dst = true) :
    StepC P ops Q o (fun a' w' => ∃ v H' F σ', K v H' F ∧ St n M0 H' σ' w' (upd e o.dst v) a' ∧ Stp σ w σ' w' ∧ Keeps (Mut M0 H σ) σ H.al w (Mut M0 H' σ') σ' H'.al w') a w := by
  unfold aStep at h
  unfold StepC
  cases hg : o.guard with
  | none =>
    simp only [hg] at h
    have hw : Region.wanted o (yielded ops a.tmps) = true := by simp [Region.wanted, hg]
    rw [if_pos hw]
    left
    cases hc : callOf e o with
    | none =>
      simp only [hc] at h
      obtain ⟨h1, v, w', σ', h2, h3, h4, h5, h6⟩ := oper_sound (P := P) hn hS.rel hS.envR h.1
      unfold Oper.wp
      rcases h2 with h2 | ⟨h2, rfl⟩
      · rw [h2, Oper.upon_value]
        exact ⟨_, _, _, σ', h.2 (fun _ => h1), hS.put h3 h6 hd h4, h5, h6⟩
      · rw [h2, Oper.upon_skip]
        exact ⟨_, _, _, σ', h.2 (fun _ => h1), hS.put h3 h6 hd h4, h5, h6⟩
    | some fa =>
      obtain ⟨f, args⟩ := fa
      simp only [hc] at h
      have hgen : ∀ Q' : D → AHeap → Prop, ACalls P f args H Q' → (∀ v H', Q' v H' → ∃ F, K v H' F) →
          o.wp P a w (fun a' w' => ∃ v H' F σ', K v H' F ∧ St n M0 H' σ' w' (upd e o.dst v) a' ∧ Stp σ w σ' w' ∧ Keeps (Mut M0 H σ) σ H.al w (Mut M0 H' σ') σ' H'.al w') Q := by
        intro Q' hA hQ
        obtain ⟨vals, hrun, hrep⟩ := callOf_run (P := P) (fun x _ => hS.envR.ev x) hc hA.1
        refine upon_calls (args := args) hrun ((hA.2 M0 σ w vals hS.rel hrep).mono fun e' w' ⟨v, d, H', σ', he, hR', hv, hst, hk, hq⟩ => ?_)
        obtain ⟨F, hF⟩ := hQ _ _ hq
        exact ⟨v, he, d, H', F, σ', hF, hS.put hR' hk hd hv, hst, hk⟩
      cases dr with
      | false => exact hgen _ h fun v H' hk => ⟨[], hk⟩
      | true =>
        obtain ⟨r, S, h1, h2⟩ := h
        exact hgen _ (h1 H fun _ _ => rfl) fun v H' ⟨e1, e2⟩ => ⟨S, by rw [e1, e2]; exact h2⟩
  | some jb =>
    obtain ⟨j, b⟩ := jb
    simp only [hg] at h
    cases hgd : gD ops e j with
    | none => simp [hgd] at h
    | some gc =>
      obtain ⟨g, c⟩ := gc
      simp only [hgd] at h
      have hw := wanted_guard (n := n) hS hg hgd
      rw [hw]
      generalize hq : (g && (c == b)) = q at h
      obtain ⟨hog, h⟩ := h
      cases q with
      | false =>
        simp only [Bool.false_eq_true, if_false]
        have hput : ∀ d, St n M0 H σ w (upd e o.dst (.opt false d)) (a.put o.dst undef) := fun d =>
          hS.put hS.rel (.refl _ _ _ _) hd (.opt _ _ _ (fun _ => rfl) (fun h => by cases h))
        cases hc : callOf (gE e o.op) o with
        | none =>
          simp only [hc] at h
          exact ⟨_, H, _, σ, h.2 (fun _ h => by cases h), hput _, .refl _ _, .refl _ _ _ _⟩
        | some fa =>
          obtain ⟨f, args⟩ := fa
          simp only [hc] at h
          have h' : ∃ r S, K (.opt false r) H S := by
            cases dr with
            | true => obtain ⟨r, S, h1, h2⟩ := h; exact ⟨r, S, h2⟩
            | false =>
              rcases h with ⟨r, S, h1, h2⟩ | ⟨h1, h2⟩
              · exact ⟨r, S, h2⟩
              · obtain ⟨r, h2⟩ := h2 trivial; exact ⟨r, [], h2⟩
          obtain ⟨r, S, h2⟩ := h'
          exact ⟨_, H, S, σ, h2, hput _, .refl _ _, .refl _ _ _ _⟩
      | true =>
        simp only [if_true]
        left
        have hogm := ogs_mem (hog rfl)
        have hS1 : ∀ t, og e (.tmp t) = true → RepV (Mut M0 H σ) σ H.al w (a.eval (.tmp t)) (strip e t) := by
          intro t h2
          have h1 := hS.envR.ev (.tmp t)
          simp only [evD] at h1
          simp only [og] at h2
          simp only [strip]
          split
          · rename_i g' d' hd'
            rw [hd'] at h1 h2
            generalize a.eval (.tmp t) = v at h1
            cases h1
            rename_i _ h1
            exact h1 h2
          · exact h1
        have hE : ∀ x ∈ o.op.operands, RepV (Mut M0 H σ) σ H.al w (a.eval x) (evD (gE e o.op) x) := by
          intro x hx
          have h0 := hS.envR.ev x
          cases x with
          | tmp t =>
            simp only [evD] at h0 ⊢
            by_cases hpk : ∃ c' x' y', o.op = .pick c' x' y'
            · obtain ⟨c', x', y', hop⟩ := hpk
              rw [hop]
              have hc' := hogm c' (by simp [gO, hop])
              cases c' with
              | tmp c' =>
                simp only [gE]
                split
                · rename_i hct; subst hct; exact hS1 _ hc'
                · exact h0
              | _ => exact h0
            · have h3 : gE e o.op = strip e ∧ gO o.op = o.op.operands.toList := by
                cases hop : o.op <;> first | exact ⟨rfl, rfl⟩ | exact absurd ⟨_, _, _, hop⟩ hpk
              rw [h3.1]
              exact hS1 t (hogm _ (by rw [h3.2]; simpa using hx))
          | _ => exact h0
        classical
        let e2 : Nat → D := fun t => if (Operand.tmp t) ∈ o.op.operands then gE e o.op t else .junk
        have hcong : ∀ x ∈ o.op.operands, evD (gE e o.op) x = evD e2 x := by
          intro x hx
          cases x with
          | tmp t => simp [evD, e2, hx]
          | _ => rfl
        have hS2 : EnvR (Mut M0 H σ) σ H.al w a.eval e2 := by
          refine ⟨fun t => ?_, fun _ => rfl, fun _ => rfl⟩
          by_cases ht : (Operand.tmp t) ∈ o.op.operands
          · have := hE _ ht
            simp only [e2, if_pos ht]
            exact this
          · simp only [e2, if_neg ht]; exact .junk _
        cases hc : callOf (gE e o.op) o with
        | none =>
          simp only [hc] at h
          obtain ⟨h1, h2⟩ := h
          obtain ⟨hcond, hheap⟩ := h1 trivial
          rw [aOp_congr hcong] at hcond hheap h2
          obtain ⟨h1, v, w', σ', hr, h3, h4, h5, h6⟩ := oper_sound (P := P) hn hS.rel hS2 hcond
          rw [hheap] at h3 h4 h6
          unfold Oper.wp
          rcases hr with hr | ⟨hr, rfl⟩
          · rw [hr, Oper.upon_value]
            exact ⟨_, _, _, σ', h2 fun _ _ => h1, hS.put h3 h6 hd (.opt _ _ _ (fun h => by cases h) fun _ => h4), h5, h6⟩
          · rw [hr, Oper.upon_skip]
            exact ⟨_, _, _, σ', h2 fun _ _ => h1, hS.put h3 h6 hd (.opt _ _ _ (fun h => by cases h) fun _ => h4), h5, h6⟩
        | some fa =>
          obtain ⟨f, args⟩ := fa
          simp only [hc] at h
          have h' : ACalls P f args H fun v H1 => ∃ S, K (.opt true v) H1 S := by
            have hl : (∃ r S, ((true : Bool) = true → ∀ H', Agree S H' H → ACalls P f args H' fun v H1 => v = r ∧ H1 = H') ∧ K (.opt true r) H S) → ACalls P f args H fun v H1 => ∃ S, K (.opt true v) H1 S := by
              rintro ⟨r, S, h1, h2⟩
              exact (h1 rfl H fun _ _ => rfl).mono fun v H1 ⟨e1, e2⟩ => ⟨S, by rw [e1, e2]; exact h2⟩
            cases dr with
            | true => exact hl (by simpa using h)
            | false =>
              rcases h with h | ⟨h1, h2⟩
              · exact hl (by simpa using h)
              · exact ACalls.mono (by simpa using h1) fun v H1 hk => ⟨[], hk⟩
          obtain ⟨vals, hrun, hrep⟩ := callOf_run (P := P) hE hc h'.1
          refine upon_calls (args := args) hrun ((h'.2 M0 σ w vals hS.rel hrep).mono fun e' w' ⟨v, d, H', σ', he, hR', hv, hst, hk, S, h2⟩ => ?_)
          exact ⟨v, he, _, _, S, σ', h2, hS.put hR' hk hd (.opt _ _ _ (fun h => by cases h) fun _ => hv), hst, hk⟩
end
end Go.Abs
end
section
namespace Go.Abs
def chk (sp : List (Nat × Nat)) (i : Nat) (F : List Nat) (acc : List (Nat × List Nat)) : Prop :=
  match sp with
  | [] => True
  | _ => ∀ p ∈ acc, (p.1, i) ∈ sp → ∀ x ∈ p.2, x ∉ F
def aDraw (P : Program) (md : Nat → Bool) (ops : Array Oper) (sp : List (Nat × Nat)) (n0 : Nat) : Nat → List Oper → List (Nat × List Nat) → (Nat → D) → AHeap → ((Nat → D) → AHeap → Prop) → Prop
  | _, [], _, e, H, K => K e H
  | i, o :: rest, acc, e, H, K => aStep P md true (n0 + i) ops e o H fun v H' F => chk sp i F acc ∧ aDraw P md ops sp n0 (i + 1) rest ((i, F) :: acc) (upd e o.dst v) H' K
/-! ### which operations come ahead of which -/
def befs : List Oper → List Nat → List Nat
  | [], acc => acc
  | o :: rest, acc => befs rest (acc ++ [o.after.toList.foldl (fun s e => if Region.binds .any e then s ||| 2 ^ e.on ||| acc.getD e.on 0 else s) 0])
def writes : Op → Bool
  | .store .. | .alloc _ | .box .. | .buildSlice .. | .makeSlice .. => true
  | .call { callee := .builtin .append, .. } => true
  | .move x | .assign x => isNilC x
  | _ => false
def clashT (ops : Array Oper) (x y : Oper) : Bool := !(x.apart ops y)
def clashH (x y : Oper) : Bool := heapy x.op && heapy y.op && (writes x.op || writes y.op)
def suspOK (ops : Array Oper) (sp : List (Nat × Nat)) : Bool :=
  let b := befs ops.toList []
  (List.range ops.size).all fun j => match ops[j]? with
    | none => true
    | some y => (y.after.toList.all fun e => !Region.binds .any e || decide (e.on < j)) &&
      (match y.guard with | none => true | some (g, _) => decide (g < ops.size)) &&
      (List.range j).all fun i => match ops[i]? with
        | none => true
        | some x => (b.getD j 0).testBit i || (!clashT ops x y && (!clashH x y || sp.contains (i, j)))
def Down (ops : Array Oper) (S : Nat → Bool) : Prop := ∀ j o, ops[j]? = some o → S j = true → ∀ e ∈ o.after.toList, Region.binds .any e = true → S e.on = true
theorem fold_bits (S : Nat → Bool) (acc : List Nat) (hacc : ∀ k i, S k = true → (acc.getD k 0).testBit i = true → S i = true) :
    ∀ (es : List Edge) (s : Nat), (∀ e ∈ es, Region.binds .any e = true → S e.on = true) → (∀ i, s.testBit i = true → S i = true) →
      ∀ i, (es.foldl (fun s e => if Region.binds .any e then s ||| 2 ^ e.on ||| acc.getD e.on 0 else s) s).testBit i = true → S i = true
  | [], s, _, hs, i, h => hs i h
  | e :: es, s, he, hs, i, h => by
    simp only [List.foldl_cons] at h
    refine fold_bits S acc hacc es _ (fun e' h' => he e' (by simp [h'])) (fun i hi => ?_) i h
    split at hi
    · rename_i hb
      have hSe := he e (by simp) hb
      rw [Nat.testBit_or, Nat.testBit_or, Bool.or_eq_true, Bool.or_eq_true] at hi
      rcases hi with (hi | hi) | hi
      · exact hs i hi
      · rw [Nat.testBit_two_pow] at hi
        have : e.on = i := by simpa using hi
        rw [← this]; exact hSe
      · exact hacc e.on i hSe hi
    · exact hs i hi
theorem befs_down {ops : Array Oper} {S : Nat → Bool} (hD : Down ops S) : ∀ j i, S j = true → ((befs ops.toList []).getD j 0).testBit i = true → S i = true := by
  have key : ∀ (l : List Oper) (acc : List Nat), (∀ (k : Nat), (ops.toList.drop acc.length)[k]? = l[k]?) → (∀ k i, S k = true → (acc.getD k 0).testBit i = true → S i = true) →
      ∀ j i, S j = true → ((befs l acc).getD j 0).testBit i = true → S i = true := by
    intro l
    induction l with
    | nil => intro acc _ hacc j i hj hb; exact hacc j i hj hb
    | cons o l ih =>
      intro acc hl hacc j i hj hb
      simp only [befs] at hb
      refine ih _ (fun k => ?_) (fun k i hk hi => ?_) j i hj hb
      · have := hl (k + 1)
        simp only [List.getElem?_drop, List.getElem?_cons_succ, List.length_append, List.length_cons, List.length_nil] at this ⊢
        rw [← this]; congr 1; omega
      · rw [List.getD_eq_getElem?_getD] at hi
        by_cases hlt : k < acc.length
        · rw [List.getElem?_append_left hlt, ← List.getD_eq_getElem?_getD] at hi
          exact hacc k i hk hi
        · by_cases heq : k = acc.length
          · subst heq
            rw [List.getElem?_append_right (Nat.le_refl _), Nat.sub_self] at hi
            simp only [List.getElem?_cons_zero, Option.getD_some] at hi
            have ho := hl 0
            simp only [List.getElem?_drop, Nat.add_zero, List.getElem?_cons_zero] at ho
            have ho' : ops[acc.length]? = some o := by simpa using ho
            exact fold_bits S acc hacc o.after.toList 0 (fun e he hb => hD _ o ho' hk e he hb) (fun i h => by simp at h) i hi
          · rw [List.getElem?_append_right (by omega), List.getElem?_eq_none (by simp; omega)] at hi
            simp at hi
  exact fun j i hj hb => key ops.toList [] (fun k => by simp) (fun k i hk hi => by simp at hi) j i hj hb
def lastIn (p : Nat → Bool) : Nat → Option Nat
  | 0 => none
  | n + 1 => if p n then some n else lastIn p n
theorem lastIn_congr {p q : Nat → Bool} : ∀ (n : Nat), (∀ k, k < n → p k = q k) → lastIn p n = lastIn q n
  | 0, _ => rfl
  | n + 1, h => by simp only [lastIn, h n (by omega), lastIn_congr n (fun k hk => h k (by omega))]
theorem lastIn_cut {p : Nat → Bool} (m : Nat) : ∀ (n : Nat), m ≤ n → (∀ k, m ≤ k → k < n → p k = false) → lastIn p n = lastIn p m
  | 0, h, _ => by rw [Nat.le_zero.1 h]
  | n + 1, h, hp => by
    by_cases hm : m = n + 1
    · rw [hm]
    · simp only [lastIn, hp n (by omega) (by omega), Bool.false_eq_true, if_false]
      exact lastIn_cut m n (by omega) fun k h1 h2 => hp k h1 (by omega)
end Go.Abs
end
section
namespace Go.Abs
def AOut.on (r : AOut) (H : AHeap) : AOut := ⟨r.cond, r.fact, r.val, H⟩
def overlay (H' H1 : AHeap) (F : List Nat) (nid : Nat) : AHeap := ⟨H'.next, fun i => H'.al i ∨ (i = nid ∧ H1.al nid), fun i => if i ∈ F then H1.get i else H'.get i⟩
section
variable {P : Program} {H H' : AHeap} {F : List Nat} {nid : Nat}
theorem overlay_same (hF : Agree F H' H) (hn : ¬ H.al nid) : overlay H' H F nid = H' := by
  obtain ⟨n, al, g⟩ := H'
  simp only [overlay, AHeap.mk.injEq, true_and]
  refine ⟨?_, ?_⟩
  · funext i; exact propext ⟨fun h => h.elim id fun h => absurd h.2 hn, .inl⟩
  · funext i
    by_cases hi : i ∈ F
    · rw [if_pos hi]; exact (hF i hi).symm
    · rw [if_neg hi]
theorem overlay_push (hF : Agree F H' H) (hlt : nid < H'.next) (hnF : nid ∈ F) (b : Blk) : H'.push nid b = overlay H' (H.push nid b) F nid := by
  obtain ⟨n, al, g⟩ := H'
  have hlt' : nid < n := hlt
  simp only [AHeap.push, overlay, AHeap.mk.injEq, hlt', if_true, true_and]
  refine ⟨?_, ?_⟩
  · funext i; exact propext ⟨fun h => h.elim (fun e => .inr ⟨e, .inl trivial⟩) .inl, fun h => h.elim .inr fun h => .inl h.1⟩
  · funext i
    by_cases hi : i ∈ F
    · rw [if_pos hi]
      by_cases he : i = nid
      · rw [if_pos he, if_pos he]
      · rw [if_neg he, if_neg he]; exact hF i hi
    · have he : i ≠ nid := fun e => hi (e ▸ hnF)
      rw [if_neg hi, if_neg he]
theorem overlay_put (hF : Agree F H' H) (hn : ¬ H.al nid) {id : Nat} (hid : id ∈ F) (b : Blk) : H'.put id b = overlay H' (H.put id b) F nid := by
  obtain ⟨n, al, g⟩ := H'
  simp only [AHeap.put, overlay, AHeap.mk.injEq, true_and]
  refine ⟨?_, ?_⟩
  · funext i; exact propext ⟨.inl, fun h => h.elim (fun h => h) fun h => absurd h.2 hn⟩
  · funext i
    by_cases hi : i ∈ F
    · rw [if_pos hi]
      by_cases he : i = id
      · rw [if_pos he, if_pos he]
      · rw [if_neg he, if_neg he]; exact hF i hi
    · have he : i ≠ id := fun e => hi (e ▸ hid)
      rw [if_neg hi, if_neg he]
theorem put_agree (hF : Agree F H' H) (id : Nat) (b : Blk) : Agree F (H'.put id b) (H.put id b) := by
  intro i hi
  simp only [AHeap.put]
  by_cases he : i = id
  · rw [if_pos he, if_pos he]
  · rw [if_neg he, if_neg he]; exact hF i hi
theorem frz_al (H : AHeap) (id : Nat) : (H.frz id).al = H.al ∧ (H.frz id).next = H.next := by unfold AHeap.frz; cases H.get id <;> exact ⟨rfl, rfl⟩
theorem frzs_al (ids : List Nat) : ∀ H : AHeap, (frzs ids H).al = H.al ∧ (frzs ids H).next = H.next := by
  induction ids with
  | nil => intro H; exact ⟨rfl, rfl⟩
  | cons i l ih => intro H; exact ⟨(ih _).1.trans (frz_al H i).1, (ih _).2.trans (frz_al H i).2⟩
theorem frz_other (H : AHeap) (id i : Nat) (h : i ≠ id) : (H.frz id).get i = H.get i := by
  unfold AHeap.frz
  cases H.get id with
  | none => rfl
  | some k => simp [AHeap.put, h]
theorem frzs_other (ids : List Nat) : ∀ (H : AHeap) (i : Nat), i ∉ ids → (frzs ids H).get i = H.get i := by
  induction ids with
  | nil => intro H i _; rfl
  | cons a l ih =>
    intro H i hi
    simp only [frzs]
    rw [ih _ i (fun h => hi (by simp [h])), frz_other H a i (fun e => hi (by simp [e]))]
theorem frzs_agree (ids : List Nat) (hs : ∀ i ∈ ids, i ∈ F) : ∀ {H H' : AHeap}, Agree F H' H → Agree F (frzs ids H') (frzs ids H) := by
  induction ids with
  | nil => intro H H' h; exact h
  | cons a l ih =>
    intro H H' h
    simp only [frzs]
    refine ih (fun i hi => hs i (by simp [hi])) ?_
    have ha := h a (hs a (by simp))
    unfold AHeap.frz
    rw [ha]
    cases H.get a with
    | none => exact h
    | some k => exact put_agree h a _
theorem overlay_frzs (ids : List Nat) (hs : ∀ i ∈ ids, i ∈ F) (H1 : AHeap) : overlay (frzs ids H') H1 F nid = overlay H' H1 F nid := by
  simp only [overlay, AHeap.mk.injEq]
  refine ⟨(frzs_al ids H').2, by rw [(frzs_al ids H').1], ?_⟩
  funext i
  by_cases hi : i ∈ F
  · rw [if_pos hi, if_pos hi]
  · rw [if_neg hi, if_neg hi, frzs_other ids H' i (fun h => hi (hs i h))]
theorem own_sub (d : D) : ∀ i ∈ ownIds d, i ∈ idsAll d := by
  cases d <;> intro i hi <;> first | exact hi | (simp [ownIds, ids1] at hi; done) | (simp only [ownIds, ids1, idsAll] at hi ⊢; exact hi)
theorem rsv1_local {d : D} (h : Agree (ids1 d) H' H) : rsv1 H' d = rsv1 H d := by
  cases d <;> try rfl
  rename_i id n
  simp only [rsv1, h id (by simp [ids1])]
theorem rsvD_local {d : D} (h : Agree (ownIds d) H' H) : rsvD H' d = rsvD H d := by
  cases d with
  | agg cs =>
    simp only [rsvD]
    congr 1
    exact List.map_congr_left fun x hx => rsv1_local fun i hi => h i (List.mem_flatMap.2 ⟨x, hx, hi⟩)
  | _ =>
    have h' := h
    simp only [ownIds] at h'
    simp only [rsvD]
    exact rsv1_local h'
theorem cellsAt_local {x : D} (h : Agree (idsAll x) H' H) : cellsAt H' x = cellsAt H x := by
  cases x <;> try rfl
  rename_i id ver i off
  simp only [cellsAt, h id (by simp [idsAll])]
theorem aLoad_local {t : TypeId} {x : D} (h : Agree (idsAll x) H' H) : aLoad P t x H' = (aLoad P t x H).on H' := by
  unfold aLoad
  rw [cellsAt_local h]
  cases cellsAt H x with
  | none => rfl
  | some cs => cases tk P t <;> rfl
theorem addrAdd_local {x : D} {n : Nat} (h : Agree (idsAll x) H' H) : addrAdd x n H' = (addrAdd x n H).on H' := by
  cases x <;> try rfl
  rename_i id ver i off
  simp only [addrAdd, h id (by simp [idsAll])]
  cases H.get id <;> rfl
theorem addrAdd_heap {x : D} {n : Nat} : (addrAdd x n H).heap = H := by
  unfold addrAdd
  split
  · rfl
  · split <;> rfl
  · rfl
theorem aFieldAddr_heap {t : TypeId} {x : D} {f : Nat} : (aFieldAddr P t x f H).heap = H := by
  unfold aFieldAddr
  split
  · split
    · exact addrAdd_heap
    · rfl
  · rfl
theorem aIndexAddr_heap {t : TypeId} {x i : D} : (aIndexAddr P t x i H).heap = H := by
  unfold aIndexAddr
  split
  · split
    · split <;> rfl
    · split <;> rfl
    · split
      · exact addrAdd_heap
      · rfl
  · rfl
theorem aNilCheck_local {x : D} (h : Agree (idsAll x) H' H) : aNilCheck x H' = (aNilCheck x H).on H' := by
  cases x <;> try rfl
  rename_i id ver i off
  simp only [aNilCheck, h id (by simp [idsAll])]
  cases H.get id <;> rfl
theorem aFieldAddr_local {t : TypeId} {x : D} {f : Nat} (h : Agree (idsAll x) H' H) : aFieldAddr P t x f H' = (aFieldAddr P t x f H).on H' := by
  unfold aFieldAddr
  cases bk P t with
  | none => rfl
  | some b => cases b with
    | ar sz => rfl
    | st l =>
      simp only
      cases l[f]? with
      | none => rfl
      | some q => simp only [addrAdd_local h]; rfl
theorem aIndexAddr_local {t : TypeId} {x i : D} (h : Agree (idsAll x) H' H) : aIndexAddr P t x i H' = (aIndexAddr P t x i H).on H' := by
  cases i <;> try rfl
  rename_i k n
  unfold aIndexAddr
  cases x <;> simp only <;> first
    | (cases sl P t <;> rfl)
    | (simp only [addrAdd_local h]; cases arr P t <;> rfl)
    | skip
  rename_i id m
  simp only [h id (by simp [idsAll])]
  cases sl P t <;> cases H.get id <;> rfl
theorem aLen_local {t : TypeId} {x : D} (h : Agree (idsAll x) H' H) : aLen P t x H' = (aLen P t x H).on H' := by
  unfold aLen
  cases P.underlying t with
  | none => rfl
  | some de =>
    cases de <;> try rfl
    · cases x <;> rfl
    · cases x <;> try rfl
      rename_i id n
      simp only [h id (by simp [idsAll])]
      cases H.get id <;> rfl
theorem elemsOf_local {x : D} (h : Agree (idsAll x) H' H) : elemsOf H' x = elemsOf H x := by
  cases x <;> try rfl
  rename_i id n
  simp only [elemsOf, h id (by simp [idsAll])]
structure Loc (r r' : AOut) (H' : AHeap) (F : List Nat) (nid : Nat) : Prop where
  cond : r.cond → r'.cond
  fact : r'.fact = r.fact
  val : r'.val = r.val
  heap : r'.heap = overlay H' r.heap F nid
theorem Loc.on {r r' : AOut} (h : r' = r.on H') (hh : r.heap = H) (hF : Agree F H' H) (hn : ¬ H.al nid) : Loc r r' H' F nid := by
  subst h
  exact ⟨fun h => h, rfl, rfl, by rw [hh, overlay_same hF hn]; rfl⟩
theorem Loc.bad (hF : Agree F H' H) (hn : ¬ H.al nid) : Loc (AOut.bad H) (AOut.bad H') H' F nid := ⟨fun h => h, rfl, rfl, (overlay_same hF hn).symm⟩
theorem aStore_local {t : TypeId} {x v : D} (hF : Agree F H' H) (hx : ∀ i ∈ idsAll x, i ∈ F) (hn : ¬ H.al nid) : Loc (aStore P t x v H) (aStore P t x v H') H' F nid := by
  unfold aStore
  cases x <;> try (exact Loc.bad hF hn)
  rename_i id ver i off
  have hid : id ∈ F := hx id (by simp [idsAll])
  simp only
  rw [hF id hid]
  cases hk : H.get id with
  | none => (simp only [hk]; exact Loc.bad hF hn)
  | some k =>
    simp only [hk]
    cases hi : k.es[i]? with
    | none => (simp only [hi]; exact Loc.bad hF hn)
    | some c =>
      simp only [hi]
      exact ⟨fun h => h, rfl, rfl, overlay_put hF hn hid _⟩
theorem aAppend_local {t t' : TypeId} {x y : D} (hF : Agree F H' H) (hx : ∀ i ∈ idsAll x, i ∈ F) (hy : ∀ i ∈ idsAll y, i ∈ F) (hn : ¬ H.al nid) (hlt : nid < H'.next) (hnF : nid ∈ F) :
    Loc (aAppend P nid t t' x y H) (aAppend P nid t t' x y H') H' F nid := by
  unfold aAppend
  rw [elemsOf_local (H := H) (H' := H') fun i hi => hF i (hy i hi)]
  cases hs : sl P t with
  | none => (simp only [hs]; exact Loc.bad hF hn)
  | some s =>
    cases he : elemsOf H y with
    | none => (simp only [hs, he]; exact Loc.bad hF hn)
    | some ys =>
      simp only [hs, he]
      cases x <;> try (exact Loc.bad hF hn)
      · exact ⟨fun h => h, rfl, rfl, overlay_push hF hlt hnF _⟩
      · rename_i id n
        have hid : id ∈ F := hx id (by simp [idsAll])
        simp only
        rw [hF id hid]
        cases hk : H.get id with
        | none => (simp only [hk]; exact Loc.bad hF hn)
        | some k =>
          simp only [hk]
          exact ⟨fun h => h, rfl, rfl, overlay_put hF hn hid _⟩
theorem aOp_local {md : Nat → Bool} {e : Nat → D} {o : Oper} (hF : Agree (foot nid e o.op) H' H) (hn : ¬ H.al nid) (hlt : nid < H'.next) :
    Loc (aOp P nid md e o H) (aOp P nid md e o H') H' (foot nid e o.op) nid := by
  obtain ⟨dst, op, type, pos, after, guard⟩ := o
  have hopd : heapy op = true → ∀ x ∈ op.operands, ∀ i ∈ idsAll (evD e x), i ∈ foot nid e op := fun hh x hx i hi => by
    simp only [foot, hh, if_true, List.mem_append, List.mem_flatMap]
    exact .inr ⟨x, by simpa using hx, hi⟩
  have hmk : makes op = true → nid ∈ foot nid e op := fun h => by simp [foot, h]
  simp only at hF
  have sub : heapy op = true → ∀ x ∈ op.operands, Agree (idsAll (evD e x)) H' H := fun hh x hx i hi => hF i (hopd hh x hx i hi)
  unfold aOp
  simp only
  have nilcase : ∀ x : Operand, makes op = isNilC x →
      Loc (if isNilC x then aNil P nid (mdd md dst) type H else ⟨True, True, evD e x, H⟩) (if isNilC x then aNil P nid (mdd md dst) type H' else ⟨True, True, evD e x, H'⟩) H' (foot nid e op) nid := by
    intro x hm
    by_cases hx : isNilC x = true
    · rw [if_pos hx]
      rw [if_pos hx]
      unfold aNil
      generalize mdd md dst = m
      cases m with
      | false => exact ⟨fun h => h, rfl, rfl, (overlay_same hF hn).symm⟩
      | true =>
        simp only [if_true]
        cases hs : sl P type with
        | none => (simp only [hs]; exact Loc.bad hF hn)
        | some s => exact ⟨fun h => h, rfl, rfl, overlay_push hF hlt (hmk (hm.trans hx)) _⟩
    · rw [if_neg hx]
      rw [if_neg hx]
      exact ⟨fun h => h, rfl, rfl, (overlay_same hF hn).symm⟩
  cases op <;> try (exact Loc.bad hF hn)
  case move x => exact nilcase x rfl
  case assign x => exact nilcase x rfl
  case pick c a b =>
    refine Loc.on ?_ ?_ hF hn
    · simp only [aPick]; split <;> first | rfl | (simp only [aPick2]; split <;> rfl)
    · simp only [aPick]; split <;> first | rfl | (simp only [aPick2]; split <;> rfl)
  case alloc t =>
    simp only [aAlloc]
    cases hz : zd P t with
    | none => (simp only [hz]; exact Loc.bad hF hn)
    | some z =>
      simp only [hz]
      generalize mdd md dst = m
      cases m with
      | false => exact ⟨fun h => h, rfl, rfl, (overlay_same hF hn).symm⟩
      | true => exact ⟨fun h => h, rfl, rfl, overlay_push hF hlt (hmk rfl) _⟩
  case box t x =>
    simp only [aBox]
    generalize mdd md dst = m
    cases m with
    | false => exact ⟨fun h => h, rfl, rfl, (overlay_same hF hn).symm⟩
    | true => exact ⟨fun h => h, rfl, rfl, overlay_push hF hlt (hmk rfl) _⟩
  case build t ps =>
    refine Loc.on ?_ ?_ hF hn
    · simp only [aBuild]; split
      · split <;> rfl
      · rfl
    · simp only [aBuild]; split
      · split <;> rfl
      · rfl
  case buildSlice t m ps =>
    have hids : ∀ i ∈ (ps.toList.flatMap fun p => ownIds (evD e p.2)), i ∈ foot nid e (.buildSlice t m ps) := fun i hi => by
      obtain ⟨p, hp, hi⟩ := List.mem_flatMap.1 hi
      refine hopd rfl p.2 ?_ i (own_sub _ i hi)
      simp only [Op.operands]
      simpa using ⟨p.1, by simpa using hp⟩
    have hmap : (ps.toList.map fun p => (p.1, rsvD H' (evD e p.2))) = ps.toList.map fun p => (p.1, rsvD H (evD e p.2)) := List.map_congr_left fun p hp => by
      rw [rsvD_local fun i hi => hF i (hids i (List.mem_flatMap.2 ⟨p, hp, hi⟩))]
    simp only
    rw [hmap]
    have hA := frzs_agree _ hids hF
    have hov : ∀ H1 : AHeap, overlay (frzs (ps.toList.flatMap fun p => ownIds (evD e p.2)) H') H1 (foot nid e (.buildSlice t m ps)) nid = overlay H' H1 (foot nid e (.buildSlice t m ps)) nid := fun H1 => overlay_frzs _ hids H1
    have hbad : Loc (AOut.bad (frzs (ps.toList.flatMap fun p => ownIds (evD e p.2)) H)) (AOut.bad (frzs (ps.toList.flatMap fun p => ownIds (evD e p.2)) H')) H' (foot nid e (.buildSlice t m ps)) nid :=
      ⟨fun h => h, rfl, rfl, by
        show frzs _ H' = overlay H' (frzs _ H) _ nid
        rw [← hov, overlay_same hA (by rw [(frzs_al _ H).1]; exact hn)]⟩
    simp only [aBuildSlice]
    cases hs : sl P t with
    | none => (simp only [hs]; exact hbad)
    | some s =>
      simp only [hs]
      cases hfl : fillD (fun i => some (i * s.sz, s.sz)) (List.replicate m s.z).flatten (ps.toList.map fun p => (p.1, rsvD H (evD e p.2))) with
      | none => (simp only [hfl]; exact hbad)
      | some cs =>
        simp only [hfl]
        generalize mdd md dst = m'
        cases m' with
        | false =>
          refine ⟨fun h => h, rfl, rfl, ?_⟩
          simp only [Bool.false_eq_true, if_false]
          rw [← hov, overlay_same hA (by rw [(frzs_al _ H).1]; exact hn)]
        | true =>
          refine ⟨fun h => h, rfl, rfl, ?_⟩
          simp only [if_true]
          rw [← hov]
          exact overlay_push hA (by rw [(frzs_al _ H').2]; exact hlt) (hmk rfl) _
  case load t a => exact Loc.on (aLoad_local (sub rfl a (by simp [Op.operands]))) (by simp only [aLoad]; split <;> (try split) <;> rfl) hF hn
  case store t a v =>
    have ha := hopd rfl a (by simp [Op.operands])
    have hv := hopd rfl v (by simp [Op.operands])
    simp only
    by_cases hm : md 1000000 = true
    · rw [if_pos hm]
      rw [if_pos hm]
      have hids : ∀ i ∈ ownIds (evD e v), i ∈ foot nid e (.store t a v) := fun i hi => hv i (own_sub _ i hi)
      rw [rsvD_local (H := H) (H' := H') fun i hi => hF i (hids i hi)]
      have hl := aStore_local (P := P) (t := t) (v := rsvD H (evD e v)) (nid := nid) (frzs_agree _ hids hF) ha (by rw [(frzs_al _ H).1]; exact hn)
      exact ⟨hl.cond, hl.fact, hl.val, by rw [hl.heap, overlay_frzs _ hids]⟩
    · rw [if_neg hm]
      rw [if_neg hm]
      exact aStore_local hF ha hn
  case nilCheck x => exact Loc.on (aNilCheck_local (sub rfl x (by simp [Op.operands]))) (by simp only [aNilCheck]; split <;> (try split) <;> rfl) hF hn
  case binOp op t x y t' =>
    refine Loc.on ?_ ?_ hF hn
    · simp only [aEq]; split <;> first | rfl | (simp only [aBin]; split <;> rfl)
    · simp only [aEq]; split <;> first | rfl | (simp only [aBin]; split <;> rfl)
  case unOp op t x =>
    refine Loc.on ?_ ?_ hF hn
    · simp only [aUn]; split <;> rfl
    · simp only [aUn]; split <;> rfl
  case convert s d x =>
    refine Loc.on ?_ ?_ hF hn
    · simp only [aConvert]; split <;> (try split) <;> rfl
    · simp only [aConvert]; split <;> (try split) <;> rfl
  case makeFunc fn first caps =>
    cases fn <;> try (exact Loc.bad hF hn)
    simp only
    by_cases hf : first.isEmpty = true
    · rw [if_pos hf]
      rw [if_pos hf]
      exact ⟨fun h => h, rfl, rfl, (overlay_same hF hn).symm⟩
    · rw [if_neg hf]; rw [if_neg hf]; exact Loc.bad hF hn
  case makeSlice t l c =>
    simp only [aMake]
    split
    · exact ⟨fun h => h, rfl, rfl, overlay_push hF hlt (hmk rfl) _⟩
    · exact Loc.bad hF hn
  case slice t x lo hi mx =>
    cases mx <;> try (exact Loc.bad hF hn)
    refine Loc.on ?_ ?_ hF hn
    · simp only [aSlice]; split <;> (try split) <;> rfl
    · simp only [aSlice]; split <;> (try split) <;> rfl
  case fieldAddr t x f => exact Loc.on (aFieldAddr_local (sub rfl x (by simp [Op.operands]))) aFieldAddr_heap hF hn
  case indexAddr t x i => exact Loc.on (aIndexAddr_local (sub rfl x (by simp [Op.operands]))) aIndexAddr_heap hF hn
  case index t x i =>
    refine Loc.on ?_ ?_ hF hn
    · simp only [aIndex]; split <;> (try split) <;> (try split) <;> rfl
    · simp only [aIndex]; split <;> (try split) <;> (try split) <;> rfl
  case extract t i =>
    refine Loc.on ?_ ?_ hF hn
    · simp only [aExtract]; split <;> rfl
    · simp only [aExtract]; split <;> rfl
  case call c =>
    obtain ⟨callee, args, ts⟩ := c
    cases callee <;> try (exact Loc.bad hF hn)
    rename_i b
    simp only
    have hargs : ∀ d ∈ args.toList.map (evD e), ∀ i ∈ idsAll d, i ∈ foot nid e (.call { callee := .builtin b, args := args, argTypes := ts }) := by
      intro d hd i hi
      obtain ⟨x, hx, rfl⟩ := List.mem_map.1 hd
      exact hopd rfl x (by simp only [Op.operands, Call.operands]; simpa using hx) i hi
    generalize args.toList.map (evD e) = az at hargs ⊢
    unfold aBuiltin
    split
    · exact Loc.on (aLen_local fun i hi => hF i (hargs _ (List.mem_singleton.2 rfl) i hi)) (by
        simp only [aLen]
        split
        · split <;> (try split) <;> rfl
        · split <;> rfl
        · rfl
        · rfl) hF hn
    · exact aAppend_local hF (hargs _ (List.mem_cons_self ..)) (hargs _ (List.mem_cons_of_mem _ (List.mem_singleton.2 rfl))) hn hlt (by simp [foot, makes])
    · refine Loc.on ?_ ?_ hF hn
      · simp only [aMin]; split <;> rfl
      · simp only [aMin]; split <;> rfl
    · refine Loc.on ?_ ?_ hF hn
      · simp only [aMin]; split <;> rfl
      · simp only [aMin]; split <;> rfl
    · exact Loc.bad hF hn
theorem aOp_heap {md : Nat → Bool} {e : Nat → D} {o : Oper} (hw : writes o.op = false) : (aOp P nid md e o H).heap = H := by
  obtain ⟨dst, op, type, pos, after, guard⟩ := o
  simp only at hw
  unfold aOp
  cases op <;> first | (simp [writes] at hw; done) | skip
  case move x =>
    simp only [writes] at hw
    simp [hw]
  case assign x =>
    simp only [writes] at hw
    simp [hw]
  case pick c a b => simp only [aPick]; split <;> first | rfl | (simp only [aPick2]; split <;> rfl)
  case build t ps =>
    simp only [aBuild]
    split
    · split <;> rfl
    · rfl
  case load t a => simp only [aLoad]; split <;> (try split) <;> rfl
  case nilCheck x => simp only [aNilCheck]; split <;> (try split) <;> rfl
  case binOp op t x y t' => simp only [aEq]; split <;> first | rfl | (simp only [aBin]; split <;> rfl)
  case unOp op t x => simp only [aUn]; split <;> rfl
  case convert s d x => simp only [aConvert]; split <;> (try split) <;> rfl
  case makeFunc fn first caps =>
    cases fn <;> try rfl
    simp only
    split <;> rfl
  case slice t x lo hi mx =>
    cases mx <;> try rfl
    simp only [aSlice]; split <;> (try split) <;> rfl
  case fieldAddr t x f => exact aFieldAddr_heap
  case indexAddr t x i => exact aIndexAddr_heap
  case index t x i => simp only [aIndex]; split <;> (try split) <;> (try split) <;> rfl
  case extract t i => simp only [aExtract]; split <;> rfl
  case call c =>
    obtain ⟨callee, args, ts⟩ := c
    cases callee <;> try rfl
    rename_i b
    simp only
    generalize args.toList.map (evD e) = az
    unfold aBuiltin
    split
    · simp only [aLen]
      split
      · split <;> (try split) <;> rfl
      · split <;> rfl
      · rfl
      · rfl
    · simp [writes] at hw
    · simp only [aMin]; split <;> rfl
    · simp only [aMin]; split <;> rfl
    · rfl
  all_goals rfl
end
end Go.Abs
end
