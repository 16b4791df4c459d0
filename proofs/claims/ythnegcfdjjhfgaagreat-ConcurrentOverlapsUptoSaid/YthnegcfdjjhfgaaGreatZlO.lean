/- The abstraction layer: owned results in regions that draw th -/
import Derived.Test.YthnegcfdjjhfgaaGreatZlF
import Derived.Test.YthnegcfdjjhfgaaGreatZlA
import Derived.Test.YthnegcfdjjhfgaaGreatZlN
set_option linter.unusedVariables false
set_option linter.unusedSimpArgs false
section
namespace Go.Abs
section
variable {P : Program} {M0 : Nat → Prop} {H : AHeap} {σ : Nat → Option Ow} {w : World}
theorem Rel.push2 {w' : World} (h : Rel M0 H σ w) (i1 i2 : Nat) (hne : i1 ≠ i2) (hal1 : ¬ H.al i1) (hal2 : ¬ H.al i2) (hos : w'.os = w.os) (htape : w'.tape = w.tape) (hout : w'.output = w.output) (hsize : w.heap.size ≤ w'.heap.size)
    (hold : ∀ b, b < w.heap.size → w'.heap[b]? = w.heap[b]?) (k1 k2 : Blk) (o1 o2 : Ow) (hb1 : ∀ b, o1.block = some b → w.heap.size ≤ b) (hb2 : ∀ b, o2.block = some b → w.heap.size ≤ b) (hdis : ∀ b, o1.block = some b → o2.block ≠ some b)
    (hver1 : o1.ver = k1.es.length) (hty1 : o1.ty = k1.ty) (hsz1 : o1.esz = k1.sz) (hver2 : o2.ver = k2.es.length) (hty2 : o2.ty = k2.ty) (hsz2 : o2.esz = k2.sz)
    (hesz1 : ∀ c ∈ k1.es, c.length = o1.esz) (hesz2 : ∀ c ∈ k2.es, c.length = o2.esz) (xs1 xs2 : List Value) (hrow1 : w'.ownsRow 0 k1.ty o1.esz o1.val k1.es.length xs1) (hrow2 : w'.ownsRow 0 k2.ty o2.esz o2.val k2.es.length xs2)
    (h11 : ∀ u ∈ xs1, u.oneCell' = true) (h12 : ∀ u ∈ xs2, u.oneCell' = true)
    (hrep : let σ' : Nat → Option Ow := fun i => if i = i2 then some o2 else if i = i1 then some o1 else σ i
      let H' := (H.push i1 k1).push i2 k2
      RepL (Mut M0 H' σ') σ' H'.al w' xs1 k1.es.flatten ∧ RepL (Mut M0 H' σ') σ' H'.al w' xs2 k2.es.flatten) :
    let σ' : Nat → Option Ow := fun i => if i = i2 then some o2 else if i = i1 then some o1 else σ i
    let H' := (H.push i1 k1).push i2 k2
    Rel M0 H' σ' w' ∧ Stp σ w σ' w' ∧ Keeps (Mut M0 H σ) σ H.al w (Mut M0 H' σ') σ' H'.al w' := by
  intro σ' H'
  have hn1 : ∀ i o', σ i = some o' → i ≠ i1 := fun i o' hi he => by subst he; rw [(h.top _ hal1).1] at hi; cases hi
  have hn2 : ∀ i o', σ i = some o' → i ≠ i2 := fun i o' hi he => by subst he; rw [(h.top _ hal2).1] at hi; cases hi
  have hσ : ∀ i o', σ i = some o' → σ' i = some o' := fun i o' hi => by simp [σ', hn1 i o' hi, hn2 i o' hi, hi]
  have s1 : σ' i1 = some o1 := by simp [σ', hne]
  have s2 : σ' i2 = some o2 := by simp [σ']
  have so : ∀ i, i ≠ i1 → i ≠ i2 → σ' i = σ i := fun i a b => by simp [σ', a, b]
  have g1 : H'.get i1 = some k1 := by simp [H', AHeap.push, hne]
  have g2 : H'.get i2 = some k2 := by simp [H', AHeap.push]
  have go : ∀ i, i ≠ i1 → i ≠ i2 → H'.get i = H.get i := fun i a b => by simp [H', AHeap.push, a, b]
  have ha : ∀ i, H'.al i ↔ i = i2 ∨ i = i1 ∨ H.al i := fun i => Iff.rfl
  have hmut : ∀ b, b < w.heap.size → ¬ Mut M0 H σ b → ¬ Mut M0 H' σ' b := by
    rintro b hlt hm (hm' | ⟨i, k', o', hk', hf, ho', hb'⟩)
    · exact hm (.inl hm')
    · by_cases e1 : i = i1
      · subst e1; rw [s1] at ho'; cases ho'; have := hb1 b hb'; omega
      · by_cases e2 : i = i2
        · subst e2; rw [s2] at ho'; cases ho'; have := hb2 b hb'; omega
        · rw [so i e1 e2] at ho'; rw [go i e1 e2] at hk'
          exact hm (.inr ⟨i, k', o', hk', hf, ho', hb'⟩)
  have hkeep : Keeps (Mut M0 H σ) σ H.al w (Mut M0 H' σ') σ' H'.al w' := by
    refine ⟨fun ad u hm hu => ?_, fun i o' hi ho' => ?_, fun i hi => (ha i).2 (.inr (.inr hi))⟩
    · have hlt := World.block_lt_of_cell? w ad hu
      exact ⟨hmut _ hlt hm, (World.cell?_of_block (hold ad.block hlt)).trans hu⟩
    · have e1 : i ≠ i1 := fun e => hal1 (e ▸ hi)
      have e2 : i ≠ i2 := fun e => hal2 (e ▸ hi)
      rw [so i e1 e2] at ho'
      exact ⟨o', ho', .inl rfl⟩
  have hg : w.grownBy w' none := ⟨hos, htape, hout, hsize, fun b hb _ => hold b hb⟩
  refine ⟨⟨fun i hi => ?_, fun i hi => ?_, fun i k' hk' => ?_, fun i j oi oj b hi hj hbi hbj => ?_, fun i oi b hi hbi => ?_, fun b hb => Nat.lt_of_lt_of_le (h.m0 b hb) hsize⟩,
    ⟨hos, htape, hout, hsize, fun b hb _ => hold b hb, fun i o' b ho' hb' => ?_⟩, hkeep⟩
  · have e1 : i ≠ i1 := fun e => hi ((ha i).2 (.inr (.inl e)))
    have e2 : i ≠ i2 := fun e => hi ((ha i).2 (.inl e))
    rw [so i e1 e2, go i e1 e2]
    exact h.top i fun e => hi ((ha i).2 (.inr (.inr e)))
  · simp only [H', AHeap.push]
    rcases (ha i).1 hi with rfl | rfl | hi'
    · split <;> split <;> omega
    · split <;> split <;> omega
    · have := h.nxt i hi'
      split <;> split <;> omega
  · by_cases e2 : i = i2
    · subst e2; rw [g2] at hk'; cases hk'
      exact ⟨o2, s2, hver2, hty2, hsz2, hesz2, xs2, hrow2, h12, hrep.2⟩
    · by_cases e1 : i = i1
      · subst e1; rw [g1] at hk'; cases hk'
        exact ⟨o1, s1, hver1, hty1, hsz1, hesz1, xs1, hrow1, h11, hrep.1⟩
      · rw [go i e1 e2] at hk'
        obtain ⟨o', ho', l⟩ := h.lies i k' hk'
        obtain ⟨xs', h1', h2', h3'⟩ := l.row
        exact ⟨o', hσ _ _ ho', l.ver, l.ty, l.sz, l.esz, xs', h1'.kept hg (by cases o'.val.ownBlock <;> simp), h2', h3'.keep hkeep⟩
  · have hcase : ∀ i oi, σ' i = some oi → (i = i1 ∧ oi = o1) ∨ (i = i2 ∧ oi = o2) ∨ σ i = some oi := fun i oi hi => by
      by_cases e2 : i = i2
      · subst e2; rw [s2] at hi; cases hi; exact .inr (.inl ⟨rfl, rfl⟩)
      · by_cases e1 : i = i1
        · subst e1; rw [s1] at hi; cases hi; exact .inl ⟨rfl, rfl⟩
        · rw [so i e1 e2] at hi; exact .inr (.inr hi)
    rcases hcase i oi hi with ⟨a1, a2⟩ | ⟨a1, a2⟩ | a <;> rcases hcase j oj hj with ⟨c1, c2⟩ | ⟨c1, c2⟩ | c
    · rw [a1, c1]
    · subst a2 c2; exact absurd hbj (hdis b hbi)
    · subst a2; have p1 := hb1 b hbi; have p2 := (h.lt j oj b c hbj).1; omega
    · subst a2 c2; exact absurd hbi (hdis b hbj)
    · rw [a1, c1]
    · subst a2; have p1 := hb2 b hbi; have p2 := (h.lt j oj b c hbj).1; omega
    · subst c2; have p1 := hb1 b hbj; have p2 := (h.lt i oi b a hbi).1; omega
    · subst c2; have p1 := hb2 b hbj; have p2 := (h.lt i oi b a hbi).1; omega
    · exact h.inj i j oi oj b a c hbi hbj
  · by_cases e2 : i = i2
    · subst e2; rw [s2] at hi; cases hi
      exact ⟨Ow.block_lt hrow2 hbi, fun hm => by have p1 := hb2 b hbi; have p2 := h.m0 b hm; omega⟩
    · by_cases e1 : i = i1
      · subst e1; rw [s1] at hi; cases hi
        exact ⟨Ow.block_lt hrow1 hbi, fun hm => by have p1 := hb1 b hbi; have p2 := h.m0 b hm; omega⟩
      · rw [so i e1 e2] at hi
        exact ⟨Nat.lt_of_lt_of_le (h.lt i oi b hi hbi).1 hsize, (h.lt i oi b hi hbi).2⟩
  · by_cases e2 : i = i2
    · subst e2; rw [s2] at ho'; cases ho'; exact .inl (hb2 b hb')
    · by_cases e1 : i = i1
      · subst e1; rw [s1] at ho'; cases ho'; exact .inl (hb1 b hb')
      · rw [so i e1 e2] at ho'; exact .inr ⟨o', ho', hb'⟩
structure Made (M : Nat → Prop) (w w' : World) (v : Value) (b : Blk) (xs : List Value) : Prop where
  row : w'.ownsRow w.heap.size b.ty b.sz v b.es.length xs
  one : ∀ u ∈ xs, u.oneCell' = true
  rep : RepL M noRef noId w' xs b.es.flatten
  cl : D.clLL b.es = true
  sz : ∀ c ∈ b.es, c.length = b.sz
def Own2 (P : Program) (f : FuncId) (args : List D) (b1 b2 : Blk) : Prop :=
  Ent P f ∧ b1.fz = false ∧ b2.fz = false ∧ ∀ (M : Nat → Prop) (w : World) (vals : List Value), (∀ b, M b → b < w.heap.size) → RepL M noRef noId w vals args →
    Calls P f vals.toArray w fun e w' => ∃ v1 v2 xs1 xs2, e = .returned (.agg #[v1, v2]) ∧ Made (fun b => M b ∨ v1.ownBlock = some b ∨ v2.ownBlock = some b) w w' v1 b1 xs1 ∧ Made (fun b => M b ∨ v1.ownBlock = some b ∨ v2.ownBlock = some b) w w' v2 b2 xs2 ∧
      (∀ b, v1.ownBlock = some b → v2.ownBlock ≠ some b) ∧ RowKit.Below w.heap.size w w'
theorem own2_of_calls {f : FuncId} {args : List D} {b1 b2 : Blk} (hf1 : b1.fz = false) (hf2 : b2.fz = false) (hcl1 : D.clLL b1.es = true) (hcl2 : D.clLL b2.es = true)
    (h : ACalls P f args .emp fun d H' => ∃ i j, i ≠ j ∧ d = .agg [.own i b1.es.length, .own j b2.es.length] ∧ H'.get i = some b1 ∧ H'.get j = some b2) : Own2 P f args b1 b2 := by
  refine ⟨h.1, hf1, hf2, fun M w vals hM ha => (h.2 M noRef w vals (rel_emp M w hM) (by rw [mut_emp]; exact ha)).mono fun e w' ⟨v, d, H', σ', he, hR, hv, hst, hk, i, j, hij, hd, hg1, hg2⟩ => ?_⟩
  subst hd
  cases hv
  rename_i vs hv1 hl hr
  obtain ⟨v1, v2, rfl⟩ : ∃ v1 v2, vs = [v1, v2] := by
    match vs, hl with
    | [a, b], _ => exact ⟨a, b, rfl⟩
  have r1 := hr 0 v1 _ rfl rfl
  have r2 := hr 1 v2 _ rfl rfl
  obtain ⟨o1, ho1, l1⟩ := hR.lies i b1 hg1
  obtain ⟨o2, ho2, l2⟩ := hR.lies j b2 hg2
  obtain ⟨xs1, row1, x1, p1⟩ := l1.row
  obtain ⟨xs2, row2, x2, p2⟩ := l2.row
  have e1 : v1 = o1.val := by
    cases r1
    rename_i _ _ hval
    rcases hval o1 ho1 with hlt | ⟨_, h⟩
    · have := l1.ver; omega
    · exact h
  have e2 : v2 = o2.val := by
    cases r2
    rename_i _ _ hval
    rcases hval o2 ho2 with hlt | ⟨_, h⟩
    · have := l2.ver; omega
    · exact h
  subst e1 e2
  have hM' : ∀ b, ¬ (M b ∨ o1.val.ownBlock = some b ∨ o2.val.ownBlock = some b) ↔ ¬ M b ∧ ¬ o1.val.ownBlock = some b ∧ ¬ o2.val.ownBlock = some b := fun b => by simp only [not_or]
  have hmu : ∀ b, ¬ Mut M H' σ' b → ¬ (M b ∨ o1.val.ownBlock = some b ∨ o2.val.ownBlock = some b) := fun b hm hh => by
    rcases hh with hh | hh | hh
    · exact hm (.inl hh)
    · exact hm (.inr ⟨i, b1, o1, hg1, hf1, ho1, hh⟩)
    · exact hm (.inr ⟨j, b2, o2, hg2, hf2, ho2, hh⟩)
  have hflat : ∀ {es : List (List D)}, D.clLL es = true → D.clL es.flatten = true := fun {es} hc => D.clL_of fun d hd => by
    obtain ⟨c, hcm, hxm⟩ := List.mem_flatten.1 hd
    exact D.clL_mem (D.clLL_mem hc c hcm) d hxm
  have hrow : ∀ {o : Ow} {b : Blk} {q : Nat} {xs : List Value}, σ' q = some o → w'.ownsRow 0 b.ty o.esz o.val b.es.length xs → o.esz = b.sz → w'.ownsRow w.heap.size b.ty b.sz o.val b.es.length xs := fun {o b q xs} ho hrow hs => by
    rw [← hs]
    refine ⟨hrow.1, ?_⟩
    rcases hrow.2 with hn | ⟨g, cap, cur, h1, _, h3⟩
    · exact .inl hn
    · refine .inr ⟨g, cap, cur, h1, ?_, h3⟩
      rcases hst.new q o g ho (by simp [Ow.block, h1, Value.ownBlock]) with h | ⟨o', h, _⟩
      · exact h
      · simp [noRef] at h
  refine ⟨o1.val, o2.val, xs1, xs2, he, ⟨hrow ho1 row1 l1.sz, x1, repL_closed hmu p1 (hflat hcl1), hcl1, fun c hc => (l1.esz c hc).trans l1.sz⟩, ⟨hrow ho2 row2 l2.sz, x2, repL_closed hmu p2 (hflat hcl2), hcl2, fun c hc => (l2.esz c hc).trans l2.sz⟩, fun b hb hb' => ?_, stp_below hst⟩
  exact hij (hR.inj i j o1 o2 b ho1 ho2 hb hb')
theorem own2K {f : FuncId} {args : List D} {b1 b2 : Blk} (hf1 : b1.fz = false := by rfl) (hf2 : b2.fz = false := by rfl) (hcl1 : D.clLL b1.es = true) (hcl2 : D.clLL b2.es = true)
    (h : ∀ Q : D → AHeap → Prop, (∀ i j n m H', i ≠ j → n = b1.es.length → m = b2.es.length → H'.get i = some b1 → H'.get j = some b2 → Q (.agg [.own i n, .own j m]) H') → ACalls P f args .emp Q) : Own2 P f args b1 b2 :=
  own2_of_calls hf1 hf2 hcl1 hcl2 (h _ fun i j n m H' hij hn hm h1 h2 => ⟨i, j, hij, by rw [hn, hm], h1, h2⟩)
theorem made_block {M : Nat → Prop} {w w' : World} {v : Value} {b : Blk} {xs : List Value} (h : Made M w w' v b xs) : ∀ g, v.ownBlock = some g → w.heap.size ≤ g := fun g hg => by
  rcases h.row.2 with hn | ⟨g', cap, cur, h1, h2, h3⟩
  · rw [hn.1] at hg; simp [Value.ownBlock] at hg
  · rw [h1] at hg; simp only [Value.ownBlock, Option.some.injEq] at hg; omega
theorem made_one {M : Nat → Prop} {w w' : World} {v : Value} {b : Blk} {xs : List Value} (h : Made M w w' v b xs) : v.oneCell' = true := by
  rcases h.row.2 with ⟨hn, _⟩ | ⟨g, cap, cur, hn, _⟩ <;> simp [hn, Value.oneCell']
theorem made_row0 {M : Nat → Prop} {w w' : World} {v : Value} {b : Blk} {xs : List Value} (h : Made M w w' v b xs) : w'.ownsRow 0 b.ty b.sz v b.es.length xs :=
  ⟨h.row.1, h.row.2.imp (fun x => x) fun ⟨g, cap, cur, a, b, c⟩ => ⟨g, cap, cur, a, Nat.zero_le _, c⟩⟩
theorem ACalls.own2Q {f : FuncId} {args : List D} {b1 b2 : Blk} {Q : D → AHeap → Prop} (hp : Own2 P f args b1 b2) (hcl : D.clL args = true) (i j : Nat) (hij : i ≠ j) (hi : ¬ H.al i) (hj : ¬ H.al j)
    (hQ : Q (.agg [.own i b1.es.length, .own j b2.es.length]) ((H.push i b1).push j b2)) : ACalls P f args H Q := by
  refine ⟨hp.1, fun M0 σ w vals hR ha => (hp.2.2.2 (Mut M0 H σ) w vals (mut_lt hR) (repL_closed (fun _ h => h) ha hcl)).mono fun e w' ⟨v1, v2, xs1, xs2, he, m1, m2, hdis, hb⟩ => ?_⟩
  have hflat : ∀ {es : List (List D)}, D.clLL es = true → D.clL es.flatten = true := fun {es} hc => D.clL_of fun d hd => by
    obtain ⟨c, hcm, hxm⟩ := List.mem_flatten.1 hd
    exact D.clL_mem (D.clLL_mem hc c hcm) d hxm
  have hG : ∀ ad, ¬ (Mut M0 H σ ad ∨ v1.ownBlock = some ad ∨ v2.ownBlock = some ad) → ¬ Mut M0 ((H.push i b1).push j b2) (fun q => if q = j then some (Ow.mk b2.es.length v2 b2.sz b2.ty) else if q = i then some (Ow.mk b1.es.length v1 b1.sz b1.ty) else σ q) ad := by
    intro ad hm h
    rcases h with h | ⟨q, k', o', hk', hf, ho', hb'⟩
    · exact hm (.inl (.inl h))
    · by_cases e2 : q = j
      · simp only [e2, if_true, Option.some.injEq] at ho'
        subst ho'
        exact hm (.inr (.inr hb'))
      · by_cases e1 : q = i
        · simp only [e1, hij, if_false, if_true, Option.some.injEq] at ho'
          subst ho'
          exact hm (.inr (.inl hb'))
        · simp only [e1, e2, if_false] at ho'
          simp only [AHeap.push, e1, e2, if_false] at hk'
          exact hm (.inl (.inr ⟨q, k', o', hk', hf, ho', hb'⟩))
  obtain ⟨p1, p2, p3⟩ := Rel.push2 hR i j hij hi hj (w' := w') hb.os hb.tape hb.output hb.size hb.block b1 b2 ⟨b1.es.length, v1, b1.sz, b1.ty⟩ ⟨b2.es.length, v2, b2.sz, b2.ty⟩
    (made_block m1) (made_block m2) hdis rfl rfl rfl rfl rfl rfl m1.sz m2.sz xs1 xs2 (made_row0 m1) (made_row0 m2) m1.one m2.one ⟨repL_closed hG m1.rep (hflat m1.cl), repL_closed hG m2.rep (hflat m2.cl)⟩
  refine ⟨_, _, _, _, he, p1, ?_, p2, p3, hQ⟩
  refine .agg [v1, v2] [.own i b1.es.length, .own j b2.es.length] rfl (fun u hu => ?_) fun q u d hu hd => ?_
  · simp only [List.mem_cons, List.not_mem_nil, or_false] at hu
    rcases hu with rfl | rfl
    · exact made_one m1
    · exact made_one m2
  · match q with
    | 0 =>
      simp only [List.getElem?_cons_zero, Option.some.injEq] at hu hd
      subst hu hd
      exact .own v1 _ _ (.inr (.inl rfl)) (made_one m1) (fun o ho => by simp [hij] at ho; subst ho; exact .inr ⟨rfl, rfl⟩)
    | 1 =>
      simp only [List.getElem?_cons_succ, List.getElem?_cons_zero, Option.some.injEq] at hu hd
      subst hu hd
      exact .own v2 _ _ (.inl rfl) (made_one m2) (fun o ho => by simp at ho; subst ho; exact .inr ⟨rfl, rfl⟩)
    | q + 2 => simp at hu
theorem ACalls.ownQ {f : FuncId} {args : List D} {ty : TypeId} {sz : Nat} {es : List (List D)} {Q : D → AHeap → Prop} (hp : Own P f args ty sz es) (hcl : D.clL args = true) (q : Nat) (hq : ¬ H.al q)
    (hQ : Q (.own q es.length) (H.push q ⟨ty, sz, es, false⟩)) : ACalls P f args H Q := by
  refine ⟨hp.1, fun M0 σ w vals hR ha => (hp.2 (Mut M0 H σ) w vals (mut_lt hR) (repL_closed (fun _ h => h) ha hcl)).mono fun e w' ⟨v, xs, he, hrow, h1, hrep, hcll, hsz, hb⟩ => ?_⟩
  have hrow0 : w'.ownsRow 0 ty sz v es.length xs := ⟨hrow.1, hrow.2.imp (fun x => x) fun ⟨g, cap, cur, a, b, c⟩ => ⟨g, cap, cur, a, Nat.zero_le _, c⟩⟩
  have hbk : ∀ b, v.ownBlock = some b → w.heap.size ≤ b := fun b hb' => by
    rcases hrow.2 with hn | ⟨g, cap, cur, h1, h2, h3⟩
    · rw [hn.1] at hb'; simp [Value.ownBlock] at hb'
    · rw [h1] at hb'; simp only [Value.ownBlock, Option.some.injEq] at hb'; omega
  have hG : ∀ ad, ¬ (Mut M0 H σ ad ∨ v.ownBlock = some ad) → ¬ Mut M0 (H.push q ⟨ty, sz, es, false⟩) (fun i => if i = q then some ⟨es.length, v, sz, ty⟩ else σ i) ad := by
    intro ad hm h
    rcases h with h | ⟨i, k', o', hk', hf, ho', hb'⟩
    · exact hm (.inl (.inl h))
    · by_cases hii : i = q
      · simp only [hii, if_true, Option.some.injEq] at ho'
        subst ho'
        exact hm (.inr hb')
      · simp only [hii, if_false] at ho'
        simp only [AHeap.push, hii, if_false] at hk'
        exact hm (.inl (.inr ⟨i, k', o', hk', hf, ho', hb'⟩))
  have hclF : D.clL es.flatten = true := D.clL_of fun d hd => by
    obtain ⟨c, hcm, hxm⟩ := List.mem_flatten.1 hd
    exact D.clL_mem (D.clLL_mem hcll c hcm) d hxm
  obtain ⟨p1, p2, p3⟩ := Rel.pushG hR q hq (w' := w') hb.os hb.tape hb.output hb.size hb.block ⟨ty, sz, es, false⟩ ⟨es.length, v, sz, ty⟩
    hbk rfl rfl rfl hsz xs hrow0 h1 (fun hk => repL_closed hG hrep hclF)
  exact ⟨v, _, _, _, he, p1, .own v _ _ (.inl rfl) (by rcases hrow.2 with ⟨hn, _⟩ | ⟨g, cap, cur, hn, _⟩ <;> simp [hn, Value.oneCell']) (fun o ho => by simp at ho; subst ho; exact .inr ⟨rfl, rfl⟩), p2, p3, hQ⟩
theorem ACalls.bump {f : FuncId} {args : List D} {Q : D → AHeap → Prop} (k : Nat) (h : ACalls P f args ⟨H.next + k, H.al, H.get⟩ Q) : ACalls P f args H Q :=
  ⟨h.1, fun M0 σ w vals hR ha => h.2 M0 σ w vals (hR.bump (m := H.next + k) (by omega)) ha⟩
theorem ACalls.frz {f : FuncId} {args : List D} {Q : D → AHeap → Prop} (h : ACalls P f (args.map (rsvD H)) (frzs (args.flatMap ownIds) H) Q) : ACalls P f args H Q := by
  refine ⟨h.1, fun M0 σ w vals hR ha => ?_⟩
  obtain ⟨f1, f2, f3, f4⟩ := frzs_sound (args.flatMap ownIds) hR
  refine (h.2 M0 σ w vals f1 (repL_rsv hR ha _ fun i h => h)).mono fun e w' ⟨v, d, H', σ', he, h1, hv, hs, hk, hq⟩ => ?_
  exact ⟨v, d, H', σ', he, h1, hv, hs, f2.trans hk, hq⟩
end
section
variable {P : Program} {md : Nat → Bool} {ops : Array Oper} {sp : List (Nat × Nat)} {n0 i : Nat} {rest : List Oper} {acc : List (Nat × List Nat)} {e : Env} {dst : Option Tmp} {K : Env → AHeap → Prop} {f : FuncId} {args args' : List D} {H H' : AHeap}
theorem callQ_frz (ha : args.map (rsvD H) = args') (hz : frzs (args.flatMap ownIds) H = H') (h : callQ P md ops rest e dst K f args' H') : callQ P md ops rest e dst K f args H := by
  subst ha; subst hz; unfold callQ at h ⊢; exact ACalls.frz h
theorem dcallQ_own1 {ty : TypeId} {sz : Nat} {es : List (List D)} (q : Nat) (hp : Own P f args ty sz es) (hcl : D.clL args = true) (hmd : mdd md dst = true) (hq : q < n0) (hal : ¬ H.al q) (hc : chk sp i [q] acc)
    (h : aDraw P md ops sp n0 (i + 1) rest ((i, [q]) :: acc) (upd e dst (.own q es.length)) (H.push q ⟨ty, sz, es, false⟩) K) : dcallQ P md ops sp n0 i rest acc e dst K f args H := by
  unfold dcallQ
  exact Or.inr ⟨hmd, .own q es.length, [], [], [(q, ⟨ty, sz, es, false⟩)], (fun _ h => by cases h), fun p hp => (by
      have : p = (q, ⟨ty, sz, es, false⟩) := by simpa using hp
      subst this; exact ⟨hq, hal⟩),
    fun H' _ hn => ACalls.ownQ hp hcl q (hn (q, ⟨ty, sz, es, false⟩) (by simp)).2 ⟨rfl, rfl⟩, hc, h⟩
theorem dcallQ_own2 {b1 b2 : Blk} (q1 q2 : Nat) (hp : Own2 P f args b1 b2) (hcl : D.clL args = true) (hmd : mdd md dst = true) (hne : q1 ≠ q2) (hq1 : q1 < n0) (hq2 : q2 < n0) (hal1 : ¬ H.al q1) (hal2 : ¬ H.al q2) (hc : chk sp i [q1, q2] acc)
    (h : aDraw P md ops sp n0 (i + 1) rest ((i, [q1, q2]) :: acc) (upd e dst (.agg [.own q1 b1.es.length, .own q2 b2.es.length])) ((H.push q1 b1).push q2 b2) K) : dcallQ P md ops sp n0 i rest acc e dst K f args H := by
  unfold dcallQ
  exact Or.inr ⟨hmd, _, [], [], [(q1, b1), (q2, b2)], (fun _ h => by cases h), fun p hp => by
      simp only [List.mem_cons, List.not_mem_nil, or_false] at hp
      rcases hp with rfl | rfl
      · exact ⟨hq1, hal1⟩
      · exact ⟨hq2, hal2⟩,
    fun H' _ hn => ACalls.own2Q hp hcl q1 q2 hne (hn (q1, b1) (by simp)).2 (hn (q2, b2) (by simp)).2 ⟨rfl, rfl⟩, hc, h⟩
end
theorem al_emp (i : Nat) : AHeap.emp.al i ↔ False := Iff.rfl
theorem al_push (H : AHeap) (i j : Nat) (k : Blk) : (H.push i k).al j ↔ j = i ∨ H.al j := Iff.rfl
theorem al_put (H : AHeap) (i j : Nat) (k : Blk) : (H.put i k).al j ↔ H.al j := Iff.rfl
theorem al_mk (n : Nat) (al : Nat → Prop) (g : Nat → Option Blk) (j : Nat) : (AHeap.mk n al g).al j ↔ al j := Iff.rfl
end Go.Abs
end
section
set_option maxRecDepth 8000
set_option maxHeartbeats 1000000
open Go Go.Proofs
namespace Go.Abs
structure Ovl where
  graph : Graph
  left : Part
  right : Part
def Ovl.c (o : Ovl) : List D := [dLI o.graph.nodes, .list (o.graph.edges.map Edge.c), dLI o.left.nodes, dLI o.left.edges, dLI o.right.nodes, dLI o.right.edges]
def Ovl.d (o : Ovl) : D := .agg o.c
@[go_sem] theorem Ovl.cl (o : Ovl) : D.clL o.c = true := by simp [Ovl.c, D.clL, D.cl, dLI_cl, edgesG_cl]
@[go_sem] theorem Ovl.dcl (o : Ovl) : o.d.cl = true := by simp only [Ovl.d, D.cl]; exact Ovl.cl o
@[go_sem] theorem ovls_cl (l : List Ovl) : D.clLL (l.map Ovl.c) = true := clLL_map _ Ovl.cl l
def numL (n : Nat) : List Int := (List.range n).map fun (k : Nat) => (k : Int)
theorem numL_succ (i : Nat) : numL (i + 1) = numL i ++ [(i : Int)] := by simp [numL, List.range_succ]
theorem numL_len (n : Nat) : (numL n).length = n := by simp [numL]
theorem ref02_Finest (n : Nat) (hn : n ≤ 100000) : Pure Tryz.prog 253 [dI n] (dLI (numL n)) := by
  refine Tz.pK ⟨fun t => t == 3, fun _ => []⟩ Tryz.func253 rfl (fun Q hQ => ?_)
  try simp [go_sem, seval]
  obtain ⟨I0, hI0⟩ := mkI fun i e H => ((e 0 = dI n) ∧ (e 3 = .own 0 i) ∧ (e 4 = dI i) ∧ (H.get 0 = some ⟨3, 1, (numL i).map cI, false⟩) ∧ (0 < H.next) ∧ (i ≤ n) ∧ ((numL i).length = i))
  refine loopK I0 (fun i => n - i) (0) ((hI0 _ _ _).2 ⟨?_, ?_, ?_, (by rfl), ?_, (by first | assumption | omega | (simp [go_sem]; done) | (simp_all; done)), (by (exact numL_len _))⟩) ?_
  iterate 4 (first | omega | (simp [go_sem, seval] <;> omega))
  intro i e H hi0
  obtain ⟨q0_0, q3_0, q4_0, g0_0, n0_0, hi, hl⟩ := (hI0 _ _ _).1 hi0
  have x0 := frs n0_0
  have F0 := And.intro q0_0 (And.intro q3_0 (And.intro q4_0 (And.intro g0_0 x0)))
  try simp [go_sem, seval, F0, hl]
  refine condQ_mk (fun h3 => ?_) (fun h3 => ?_)
  · try simp [go_sem] at h3
    try simp [go_sem, seval, F0, hl, h3]
    repeat (first | intro _ | (refine ⟨obl, ?_⟩))
    refine nextQ_mk (i + 1) (by omega) ((hI0 _ _ _).2 ⟨?_, ?_, ?_, (by (simp [go_sem, F0, hl, h3, numL_succ])), ?_, (by first | assumption | omega | (simp [go_sem, F0, hl, h3]; done) | (simp_all <;> omega)), (by (exact numL_len _))⟩) <;> first | omega | (simp [go_sem, seval, F0, hl, h3] <;> omega)
  · try simp [go_sem] at h3
    have hie : i = n := by omega
    subst hie
    try simp [go_sem, seval, F0, hl]
    exact hQ _ _ (by simp [go_sem, F0, hl, h3] <;> first | omega | (rw [bei]; simp <;> omega) | (simp_all <;> omega))
theorem ref06_Of (g : Graph) (hn : g.nodes.length ≤ 100000) (he : g.edges.length ≤ 100000) : Pure Tryz.prog 190 [g.d] (Part.d ⟨numL g.nodes.length, numL g.edges.length⟩) := by
  refine Tz.pK ⟨fun t => t == 2, fun _ => []⟩ Tryz.func190 rfl (fun Q hQ => ?_)
  try simp [go_sem, seval]
  repeat (first | intro _ | (refine ⟨obl, ?_⟩))
  refine dcallQ_pure0 (ref02_Finest g.nodes.length hn) ((by first | rfl | (simp [go_sem, ← List.map_take, ← List.map_drop]; done))) ?_
  try simp [go_sem, seval]
  repeat (first | intro _ | (refine ⟨obl, ?_⟩))
  refine dcallQ_pure0 (ref02_Finest g.edges.length he) ((by first | rfl | (simp [go_sem, ← List.map_take, ← List.map_drop]; done))) ?_
  try simp [go_sem, seval]
  repeat (first | intro _ | (refine ⟨obl, ?_⟩))
  exact hQ _ _ (by simp [go_sem] <;> first | omega | (rw [bei]; simp <;> omega) | (simp_all <;> omega))
theorem numL_set (n i : Nat) (hi : i < n) : (numL i ++ List.replicate (n - i) 0).set i (i : Int) = numL (i + 1) ++ List.replicate (n - (i + 1)) 0 := by
  obtain ⟨k, hk⟩ : ∃ k, n - i = k + 1 := ⟨n - i - 1, by omega⟩
  rw [hk, show n - (i + 1) = k by omega, numL_succ, List.replicate_succ, List.set_append_right _ _ (by rw [numL_len]; omega), numL_len]
  simp
theorem morphism_numbers (n : Nat) (hn : n ≤ 100000) : Pure Tryz.prog 302 [dI n] (dLI (numL n)) := by
  refine Tz.pK ⟨fun t => t == 6, fun _ => []⟩ Tryz.func302 rfl (fun Q hQ => ?_)
  try simp [go_sem, seval]
  repeat (first | intro _ | (refine ⟨obl, ?_⟩))
  obtain ⟨I0, hI0⟩ := mkI fun i e H => (∃ zs : List Int, (e 7 = .own 0 n) ∧ (e 3 = .own 0 n) ∧ (e 8 = dI n) ∧ (e 9 = dI i) ∧ (H.get 0 = some ⟨3, 1, zs.map cI, false⟩) ∧ (0 < H.next) ∧ (i ≤ n) ∧ (zs.length = n) ∧ (zs = numL i ++ List.replicate (n - i) 0))
  refine loopK I0 (fun i => n - i) (0) ((hI0 _ _ _).2 ⟨(List.replicate n 0), ?_, ?_, ?_, ?_, (by (simp [go_sem, cI])), ?_, (by first | assumption | omega | (simp [go_sem]; done) | (simp_all; done)), (by (simp)), (by (simp [numL]))⟩) ?_
  iterate 5 (first | omega | (simp [go_sem, seval] <;> omega))
  intro i e H hi0
  obtain ⟨zs, q7_0, q3_0, q8_0, q9_0, g0_0, n0_0, hi, hl, hz⟩ := (hI0 _ _ _).1 hi0
  have x0 := frs n0_0
  have F0 := And.intro q7_0 (And.intro q3_0 (And.intro q8_0 (And.intro q9_0 (And.intro g0_0 x0))))
  try simp [go_sem, seval, F0, hl]
  refine condQ_mk (fun h3 => ?_) (fun h3 => ?_)
  · try simp [go_sem] at h3
    have hv : i < zs.length := by omega
    try simp [go_sem, seval, F0, hl, h3, lge hv]
    repeat (first | intro _ | (refine ⟨obl, ?_⟩))
    refine nextQ_mk (i + 1) (by omega) ((hI0 _ _ _).2 ⟨(zs.set i (i : Int)), ?_, ?_, ?_, ?_, (by (simp [go_sem, F0, hl, h3, lge hv, List.map_set, cI])), ?_, (by first | assumption | omega | (simp [go_sem, F0, hl, h3, lge hv]; done) | (simp_all <;> omega)), (by (simp [hl])), (by (rw [hz]; exact numL_set n i h3))⟩) <;> first | omega | (simp [go_sem, seval, F0, hl, h3, lge hv] <;> omega)
  · try simp [go_sem] at h3
    have hie : i = n := by omega
    subst hie
    have hr : zs = numL i := by rw [hz]; simp
    subst hr
    try simp [go_sem, seval, F0, hl]
    exact hQ _ _ (by simp [go_sem, F0, hl, h3] <;> first | omega | (rw [bei]; simp <;> omega) | (simp_all <;> omega))
theorem morphism_Identity (g : Graph) (h0 : graphF g = 0) : Pure Tryz.prog 283 [g.d] (.tup [Part.d ⟨numL g.nodes.length, numL g.edges.length⟩, dI 0]) := by
  have hl := graphF_le h0
  refine Tz.pK ⟨fun t => t == 2, fun _ => []⟩ Tryz.func283 rfl (fun Q hQ => ?_)
  try simp [go_sem, seval, h0]
  refine callQ_pure0 (graph_Valid g) ((by first | rfl | (simp [go_sem, ← List.map_take, ← List.map_drop, h0]; done))) ?_
  try simp [go_sem, seval, h0]
  repeat (first | intro _ | (refine ⟨obl, ?_⟩))
  refine dcallQ_pure0 (morphism_numbers g.nodes.length (by omega)) ((by first | rfl | (simp [go_sem, ← List.map_take, ← List.map_drop, h0]; done))) ?_
  try simp [go_sem, seval, h0]
  repeat (first | intro _ | (refine ⟨obl, ?_⟩))
  refine dcallQ_pure0 (morphism_numbers g.edges.length (by omega)) ((by first | rfl | (simp [go_sem, ← List.map_take, ← List.map_drop, h0]; done))) ?_
  try simp [go_sem, seval, h0]
  repeat (first | intro _ | (refine ⟨obl, ?_⟩))
  exact hQ _ _ (by simp [go_sem, h0] <;> first | omega | (rw [bei]; simp <;> omega) | (simp_all <;> omega))
theorem clone_edge0 : Own Tryz.prog 284 [.nil] 124 3 [] := by
  refine Tz.oK ⟨fun t => t == 2 || t == 5, fun _ => []⟩ Tryz.func284 rfl (fun Q hQ => ?_)
  try simp [go_sem, seval]
  exact hQ _ _ _ (by simp [go_sem] <;> first | omega | (rw [bei]; simp <;> omega) | (simp_all <;> omega)) (by simp [go_sem] <;> first | omega | (rw [bei]; simp <;> omega) | (simp_all <;> omega))
theorem clone_edgeE : Own Tryz.prog 284 [.ne] 124 3 [] := by
  refine Tz.oK ⟨fun t => t == 2 || t == 5, fun _ => []⟩ Tryz.func284 rfl (fun Q hQ => ?_)
  try simp [go_sem, seval]
  repeat (first | intro _ | (refine ⟨obl, ?_⟩))
  exact hQ _ _ _ (by simp [go_sem] <;> first | omega | (rw [bei]; simp <;> omega) | (simp_all <;> omega)) (by simp [go_sem] <;> first | omega | (rw [bei]; simp <;> omega) | (simp_all <;> omega))
theorem clone_edgeC (l : List Edge) (hl : l.length ≤ 1000000) (hne : l ≠ []) : Own Tryz.prog 284 [.list (l.map Edge.c)] 124 3 (l.map Edge.c) := by
  refine Tz.oK ⟨fun t => t == 2 || t == 5, fun _ => []⟩ Tryz.func284 rfl (fun Q hQ => ?_)
  try simp [go_sem, seval, hne]
  repeat (first | intro _ | (refine ⟨obl, ?_⟩))
  exact hQ _ _ _ (by simp [go_sem, hne] <;> first | omega | (rw [bei]; simp <;> omega) | (simp_all <;> omega)) (by simp [go_sem, hne] <;> first | omega | (rw [bei]; simp <;> omega) | (simp_all <;> omega))
theorem clone_edge (l : List Edge) (hl : l.length ≤ 1000000) : Own Tryz.prog 284 [.list (l.map Edge.c)] 124 3 (l.map Edge.c) := by
  by_cases hne : l = []
  · subst hne; exact own_split clone_edge0 clone_edgeE
  · exact clone_edgeC l hl hne
def gluN (a b : Graph) (ns : List Int) : Nat → List Int × List Int
  | 0 => (a.nodes, [])
  | i + 1 => if ns[i]?.getD 0 < 0 then ((gluN a b ns i).1 ++ [b.nodes[i]?.getD 0], (gluN a b ns i).2 ++ [((gluN a b ns i).1.length : Int)]) else ((gluN a b ns i).1, (gluN a b ns i).2 ++ [ns[i]?.getD 0])
def gluX (b : Graph) (rn : List Int) (i : Nat) : Edge := ⟨(b.edges[i]?.getD zeroEdge).type, rn[(b.edges[i]?.getD zeroEdge).from_.toNat]?.getD 0, rn[(b.edges[i]?.getD zeroEdge).to_.toNat]?.getD 0⟩
def gluE (a b : Graph) (rn es : List Int) : Nat → List Edge × List Int
  | 0 => (a.edges, [])
  | i + 1 => if es[i]?.getD 0 < 0 then ((gluE a b rn es i).1 ++ [gluX b rn i], (gluE a b rn es i).2 ++ [((gluE a b rn es i).1.length : Int)]) else ((gluE a b rn es i).1, (gluE a b rn es i).2 ++ [es[i]?.getD 0])
def glu (a b : Graph) (ns es : List Int) : Ovl :=
  ⟨⟨(gluN a b ns ns.length).1, (gluE a b (gluN a b ns ns.length).2 es es.length).1⟩, ⟨numL a.nodes.length, numL a.edges.length⟩, ⟨(gluN a b ns ns.length).2, (gluE a b (gluN a b ns ns.length).2 es es.length).2⟩⟩
theorem gluN_len (a b : Graph) (ns : List Int) : ∀ i, (gluN a b ns i).2.length = i ∧ a.nodes.length ≤ (gluN a b ns i).1.length ∧ (gluN a b ns i).1.length ≤ a.nodes.length + i
  | 0 => ⟨rfl, Nat.le_refl _, Nat.le_refl _⟩
  | i + 1 => by
    have := gluN_len a b ns i
    simp only [gluN]
    split <;> simp <;> omega
theorem gluE_len (a b : Graph) (rn es : List Int) : ∀ i, (gluE a b rn es i).2.length = i ∧ a.edges.length ≤ (gluE a b rn es i).1.length ∧ (gluE a b rn es i).1.length ≤ a.edges.length + i
  | 0 => ⟨rfl, Nat.le_refl _, Nat.le_refl _⟩
  | i + 1 => by
    have := gluE_len a b rn es i
    simp only [gluE]
    split <;> simp <;> omega
theorem ref05_Copied (g : Graph) (hn : g.nodes.length ≤ 100000) (he : g.edges.length ≤ 100000) : Own2 Tryz.prog 186 [g.d] ⟨3, 1, g.nodes.map cI, false⟩ ⟨124, 3, g.edges.map Edge.c, false⟩ := by
  refine own2K (hcl1 := ints_cl _) (hcl2 := edgesG_cl _) (h := fun Q hQ => ?_)
  refine (acalls_of_body (cfg := ⟨fun t => t == 2 || t == 3 || t == 7, fun r => match r with | 1 => [(0, 1), (0, 2), (0, 4), (1, 4), (2, 4), (3, 4), (0, 5), (3, 5), (4, 5), (0, 6), (3, 6), (4, 6)] | _ => []⟩) Tz.mixed Tryz.func186 rfl rfl (nlb rfl) (by kernel_rfl) ?_)
  try simp [go_sem, seval]
  repeat (first | intro _ | (refine ⟨obl, ?_⟩))
  exact hQ _ _ _ _ _ (by omega) (by simp) (by simp) (by simp [go_sem]) (by simp [go_sem])
theorem ref13_overlap (a b : Graph) (ha : graphF a = 0) (hb : graphF b = 0) (ns es : List Int) (hnn : ns.length = b.nodes.length) (he : es.length ≤ b.edges.length) : Pure Tryz.prog 248 [a.d, b.d, dLI ns, dLI es] (glu a b ns es).d := by
  have hla := graphF_le ha
  have hlb := graphF_le hb
  have hib : ∀ x ∈ b.edges, (0 ≤ x.from_ ∧ x.from_ < b.nodes.length) ∧ (0 ≤ x.to_ ∧ x.to_ < b.nodes.length) := fun x hx => ((graphF_in hb).2 x hx).2
  refine pureK (by first | rfl | (simp [go_sem]; done)) (fun Q hQ => ACalls.bump 2 (acalls_of_body (cfg := ⟨fun t => t == 8 || t == 9 || t == 14 || t == 16, fun r => match r with | 1 => [(1, 2), (0, 5), (1, 5), (2, 5), (3, 5)] | 8 => [(0, 8), (1, 8), (2, 8)] | 17 => [(0, 20), (1, 20), (2, 20)] | _ => []⟩) Tz.mixed Tryz.func248 rfl rfl (nlb rfl) (by kernel_rfl) ?_))
  try simp [go_sem, seval]
  refine dcallQ_own2 0 1 (ref05_Copied a (by omega) (by omega)) (by first | rfl | (simp [go_sem]; done)) rfl (by omega) (by first | omega | simp [go_sem]) (by first | omega | simp [go_sem]) (by simp [al_push, al_put, al_mk, al_emp]) (by simp [al_push, al_put, al_mk, al_emp]) (by first | trivial | (simp [go_sem]; done) | simp [go_sem, chk]) ?_
  try simp [go_sem, seval]
  refine dcallQ_pure0 (ref06_Of a (by omega) (by omega)) ((by first | rfl | (simp [go_sem, ← List.map_take, ← List.map_drop]; done))) ?_
  try simp [go_sem, seval]
  obtain ⟨I0, hI0⟩ := mkI fun i e H => (∃ gs : List Int, ∃ rs : List Int, (e 2 = dLI ns) ∧ (e 3 = dLI es) ∧ (e 5 = .adr b.c) ∧ (e 8 = .ptr 2 1 0 0) ∧ (e 9 = .ptr 8 1 0 0) ∧ (e 10 = dI i) ∧ (H.get 2 = some ⟨45, 6, [[.nil, .nil, .nil, .nil, .nil, .nil]], false⟩) ∧ (2 < H.next) ∧ (H.get 8 = some ⟨45, 6, [[.own 0 gs.length, .own 1 a.edges.length, dLI (numL a.nodes.length), dLI (numL a.edges.length), .own 10 rs.length, .nil]], false⟩) ∧ (8 < H.next) ∧ (H.get 0 = some ⟨3, 1, gs.map cI, false⟩) ∧ (0 < H.next) ∧ (H.get 1 = some ⟨124, 3, a.edges.map Edge.c, false⟩) ∧ (1 < H.next) ∧ (H.get 10 = some ⟨3, 1, rs.map cI, false⟩) ∧ (10 < H.next) ∧ (i ≤ ns.length) ∧ ((gs, rs) = gluN a b ns i))
  refine loopKG (Ghosts.step (Ghosts.refl _) 8 0 4 3 1 _ _ (rfl) rfl rfl rfl) I0 (fun i => ns.length - i) (0) ((hI0 _ _ _).2 ⟨(a.nodes), ([]), ?_, ?_, ?_, ?_, ?_, ?_, ?_, ?_, ?_, ?_, ?_, ?_, ?_, ?_, ?_, ?_, (by first | assumption | omega | (simp [go_sem]; done) | (simp_all; done)), (by rfl)⟩) ?_
  iterate 16 (first | omega | (simp [go_sem, seval] <;> omega))
  intro i e H hi0
  obtain ⟨gs, rs, q2_0, q3_0, q5_0, q8_0, q9_0, q10_0, g2_0, n2_0, g8_0, n8_0, g0_0, n0_0, g1_0, n1_0, g10_0, n10_0, hi, hg⟩ := (hI0 _ _ _).1 hi0
  have x2 := frs n2_0
  have x8 := frs n8_0
  have x0 := frs n0_0
  have x1 := frs n1_0
  have x10 := frs n10_0
  have F0 := And.intro q2_0 (And.intro q3_0 (And.intro q5_0 (And.intro q8_0 (And.intro q9_0 (And.intro q10_0 (And.intro g2_0 (And.intro g8_0 (And.intro g0_0 (And.intro g1_0 (And.intro g10_0 (And.intro x2 (And.intro x8 (And.intro x0 (And.intro x1 x10))))))))))))))
  try simp [go_sem, seval, F0]
  repeat first | intro _ | refine ⟨obs, ?_⟩
  refine condQ_mk (fun h3 => ?_) (fun h3 => ?_)
  · try simp [go_sem] at h3
    have hbn : i < b.nodes.length := by omega
    have hgl := gluN_len a b ns i
    rw [← hg] at hgl
    simp only at hgl
    have hgs : gluN a b ns (i + 1) = if ns[i] < 0 then (gs ++ [b.nodes[i]], rs ++ [(gs.length : Int)]) else (gs, rs ++ [ns[i]]) := by simp only [gluN, ← hg, lge h3, lge hbn, Option.getD_some]
    try simp [go_sem, seval, F0, h3, lge h3, lge hbn]
    repeat first | intro _ | refine ⟨obs, ?_⟩
    refine condQ_mk (fun h6 => ?_) (fun h6 => ?_)
    ·try simp [go_sem] at h6
     obtain ⟨gs2, hgs2⟩ : ∃ x, x = gs ++ [b.nodes[i]] := ⟨_, rfl⟩
     obtain ⟨rs2, hrs2⟩ : ∃ x, x = rs ++ [(gs.length : Int)] := ⟨_, rfl⟩
     have hst : (gs2, rs2) = gluN a b ns (i + 1) := by rw [hgs, if_pos (by omega), hgs2, hrs2]
     try simp [go_sem, seval, F0, h3, lge h3, lge hbn, hgs2, hrs2]
     repeat first | intro _ | refine ⟨obs, ?_⟩
     refine nextQ_mk (i + 1) (by omega) ((hI0 _ _ _).2 ⟨(gs2), (rs2), ?_, ?_, ?_, ?_, ?_, ?_, ?_, ?_, ?_, ?_, ?_, ?_, ?_, ?_, ?_, ?_, (by first | assumption | omega | (simp [go_sem, F0, h3, lge h3, lge hbn, hgs2, hrs2, h6]; done) | (simp_all <;> omega)), (by (exact hst))⟩) <;> first | omega | (simp [go_sem, seval, F0, h3, lge h3, lge hbn, hgs2, hrs2] <;> omega)
    ·try simp [go_sem] at h6
     obtain ⟨gs2, hgs2⟩ : ∃ x, x = gs := ⟨_, rfl⟩
     obtain ⟨rs2, hrs2⟩ : ∃ x, x = rs ++ [ns[i]] := ⟨_, rfl⟩
     have hst : (gs2, rs2) = gluN a b ns (i + 1) := by rw [hgs, if_neg (by omega), hgs2, hrs2]
     try simp [go_sem, seval, F0, h3, lge h3, lge hbn, hgs2, hrs2]
     repeat first | intro _ | refine ⟨obs, ?_⟩
     refine nextQ_mk (i + 1) (by omega) ((hI0 _ _ _).2 ⟨(gs2), (rs2), ?_, ?_, ?_, ?_, ?_, ?_, ?_, ?_, ?_, ?_, ?_, ?_, ?_, ?_, ?_, ?_, (by first | assumption | omega | (simp [go_sem, F0, h3, lge h3, lge hbn, hgs2, hrs2, h6]; done) | (simp_all <;> omega)), (by (exact hst))⟩) <;> first | omega | (simp [go_sem, seval, F0, h3, lge h3, lge hbn, hgs2, hrs2] <;> omega)
  · try simp [go_sem] at h3
    have hI : i = ns.length := by omega
    subst hI
    have hgl := gluN_len a b ns ns.length
    rw [← hg] at hgl
    simp only at hgl
    try simp [go_sem, seval, F0]
    obtain ⟨I2, hI2⟩ := mkI fun k e H => (∃ j : Nat, ∃ xs : List Edge, ∃ ys : List Int, (e 2 = dLI ns) ∧ (e 3 = dLI es) ∧ (e 5 = .adr b.c) ∧ (e 8 = .ptr 2 1 0 0) ∧ (e 9 = .ptr 8 1 0 0) ∧ (e 12 = dI k) ∧ (H.get 2 = some ⟨45, 6, [[.nil, .nil, .nil, .nil, .nil, .nil]], false⟩) ∧ (2 < H.next) ∧ (H.get 8 = some ⟨45, 6, [[.own 0 gs.length, .own 1 xs.length, dLI (numL a.nodes.length), dLI (numL a.edges.length), .own 10 rs.length, .own j ys.length]], false⟩) ∧ (8 < H.next) ∧ (H.get 0 = some ⟨3, 1, gs.map cI, false⟩) ∧ (0 < H.next) ∧ (H.get 1 = some ⟨124, 3, xs.map Edge.c, false⟩) ∧ (1 < H.next) ∧ (H.get 10 = some ⟨3, 1, rs.map cI, false⟩) ∧ (10 < H.next) ∧ (H.get j = some ⟨3, 1, ys.map cI, false⟩) ∧ (j < H.next) ∧ (10 < j) ∧ (k ≤ es.length) ∧ ((xs, ys) = gluE a b rs es k))
    refine loopKG (Ghosts.step (Ghosts.refl _) 8 0 5 3 1 _ _ (g8_0) rfl rfl rfl) I2 (fun k => es.length - k) (0) ((hI2 _ _ _).2 ⟨(H.next), (a.edges), ([]), ?_, ?_, ?_, ?_, ?_, ?_, ?_, ?_, ?_, ?_, ?_, ?_, ?_, ?_, ?_, ?_, ?_, ?_, (by omega), (by first | assumption | omega | (simp [go_sem, F0]; done) | (simp_all; done)), (by rfl)⟩) ?_
    iterate 18 (first | omega | (simp [go_sem, seval, F0] <;> omega))
    intro k e H hi2
    obtain ⟨j, xs, ys, q2_2, q3_2, q5_2, q8_2, q9_2, q12_2, g2_2, n2_2, g8_2, n8_2, g0_2, n0_2, g1_2, n1_2, g10_2, n10_2, gj_2, nj_2, hj, hk, he2⟩ := (hI2 _ _ _).1 hi2
    have x2 := frs n2_2
    have x8 := frs n8_2
    have x0 := frs n0_2
    have x1 := frs n1_2
    have x10 := frs n10_2
    have xj := frs nj_2
    have F2 := And.intro q2_2 (And.intro q3_2 (And.intro q5_2 (And.intro q8_2 (And.intro q9_2 (And.intro q12_2 (And.intro g2_2 (And.intro g8_2 (And.intro g0_2 (And.intro g1_2 (And.intro g10_2 (And.intro gj_2 (And.intro x2 (And.intro x8 (And.intro x0 (And.intro x1 (And.intro x10 xj))))))))))))))))
    have di1 := And.intro (nep (show 2 ≠ 8 by omega)) (And.intro (nep (show 2 ≠ 10 by omega)) (And.intro (nep (show 2 ≠ 1 by omega)) (And.intro (nep (show 2 ≠ 0 by omega)) (And.intro (nep (show 2 ≠ j by omega)) (And.intro (nep (show 8 ≠ 10 by omega)) (And.intro (nep (show 8 ≠ 1 by omega)) (And.intro (nep (show 8 ≠ 0 by omega)) (And.intro (nep (show 8 ≠ j by omega)) (And.intro (nep (show 10 ≠ 1 by omega)) (And.intro (nep (show 10 ≠ 0 by omega)) (And.intro (nep (show 10 ≠ j by omega)) (And.intro (nep (show 1 ≠ 0 by omega)) (And.intro (nep (show 1 ≠ j by omega)) (nep (show 0 ≠ j by omega)))))))))))))))
    try simp [go_sem, seval, F2, di1]
    repeat first | intro _ | refine ⟨obs, ?_⟩
    refine condQ_mk (fun h11 => ?_) (fun h11 => ?_)
    ·try simp [go_sem] at h11
     have hbe : k < b.edges.length := by omega
     have hel := gluE_len a b rs es k
     rw [← he2] at hel
     simp only at hel
     have hbx := hib _ (lgm hbe)
     have hf1 : b.edges[k].from_.toNat < rs.length := by omega
     have hf2 : b.edges[k].to_.toNat < rs.length := by omega
     have hgx : gluX b rs k = ⟨b.edges[k].type, rs[b.edges[k].from_.toNat], rs[b.edges[k].to_.toNat]⟩ := by simp only [gluX, lge hbe, Option.getD_some, lge hf1, lge hf2]
     have hes : gluE a b rs es (k + 1) = if es[k] < 0 then (xs ++ [gluX b rs k], ys ++ [(xs.length : Int)]) else (xs, ys ++ [es[k]]) := by simp only [gluE, ← he2, lge h11, Option.getD_some]
     try simp [go_sem, seval, F2, di1, h11, lge h11, lge hbe, lge hf1, lge hf2]
     repeat first | intro _ | refine ⟨obs, ?_⟩
     refine condQ_mk (fun h14 => ?_) (fun h14 => ?_)
     ·try simp [go_sem] at h14
      obtain ⟨xs2, hxs2⟩ : ∃ x, x = xs ++ [gluX b rs k] := ⟨_, rfl⟩
      obtain ⟨ys2, hys2⟩ : ∃ x, x = ys ++ [(xs.length : Int)] := ⟨_, rfl⟩
      have hst : (xs2, ys2) = gluE a b rs es (k + 1) := by rw [hes, if_pos (by omega), hxs2, hys2]
      try simp [go_sem, seval, F2, di1, h11, lge h11, lge hbe, lge hf1, lge hf2, hxs2, hys2, hgx, Edge.c]
      repeat first | intro _ | refine ⟨obs, ?_⟩
      refine nextQ_mk (k + 1) (by omega) ((hI2 _ _ _).2 ⟨(j), (xs2), (ys2), ?_, ?_, ?_, ?_, ?_, ?_, ?_, ?_, ?_, ?_, ?_, ?_, ?_, ?_, ?_, ?_, ?_, ?_, (by omega), (by first | assumption | omega | (simp [go_sem, F2, di1, h11, lge h11, lge hbe, lge hf1, lge hf2, hxs2, hys2, hgx, Edge.c, h3, h14]; done) | (simp_all <;> omega)), (by (exact hst))⟩) <;> first | omega | (simp [go_sem, seval, F2, di1, h11, lge h11, lge hbe, lge hf1, lge hf2, hxs2, hys2, hgx, Edge.c] <;> omega)
     ·try simp [go_sem] at h14
      obtain ⟨xs2, hxs2⟩ : ∃ x, x = xs := ⟨_, rfl⟩
      obtain ⟨ys2, hys2⟩ : ∃ x, x = ys ++ [es[k]] := ⟨_, rfl⟩
      have hst : (xs2, ys2) = gluE a b rs es (k + 1) := by rw [hes, if_neg (by omega), hxs2, hys2]
      try simp [go_sem, seval, F2, di1, h11, lge h11, lge hbe, lge hf1, lge hf2, hxs2, hys2]
      repeat first | intro _ | refine ⟨obs, ?_⟩
      refine nextQ_mk (k + 1) (by omega) ((hI2 _ _ _).2 ⟨(j), (xs2), (ys2), ?_, ?_, ?_, ?_, ?_, ?_, ?_, ?_, ?_, ?_, ?_, ?_, ?_, ?_, ?_, ?_, ?_, ?_, (by omega), (by first | assumption | omega | (simp [go_sem, F2, di1, h11, lge h11, lge hbe, lge hf1, lge hf2, hxs2, hys2, h3, h14]; done) | (simp_all <;> omega)), (by (exact hst))⟩) <;> first | omega | (simp [go_sem, seval, F2, di1, h11, lge h11, lge hbe, lge hf1, lge hf2, hxs2, hys2] <;> omega)
    ·try simp [go_sem] at h11
     have hK : k = es.length := by omega
     subst hK
     have hN1 : (gluN a b ns ns.length).1 = gs := by rw [← hg]
     have hN2 : (gluN a b ns ns.length).2 = rs := by rw [← hg]
     have hE1 : (gluE a b rs es es.length).1 = xs := by rw [← he2]
     have hE2 : (gluE a b rs es es.length).2 = ys := by rw [← he2]
     try simp [go_sem, seval, F2, di1]
     exact hQ _ _ (by first | (left; (simp [go_sem, F2, di1, glu, Ovl.d, Ovl.c, hN1, hN2, hE1, hE2]); done) | (right; (simp [go_sem, F2, di1, glu, Ovl.d, Ovl.c, hN1, hN2, hE1, hE2]); done))
theorem factor_glued (a b : Graph) (ha : graphF a = 0) (hb : graphF b = 0) (ns es : List Int) (hnn : ns.length = b.nodes.length) (he : es.length ≤ b.edges.length) : Pure Tryz.prog 247 [a.d, b.d, dLI ns, dLI es] (glu a b ns es).d := by
  have hla := graphF_le ha
  have hlb := graphF_le hb
  have hib : ∀ x ∈ b.edges, (0 ≤ x.from_ ∧ x.from_ < b.nodes.length) ∧ (0 ≤ x.to_ ∧ x.to_ < b.nodes.length) := fun x hx => ((graphF_in hb).2 x hx).2
  refine pureK (by first | rfl | (simp [go_sem]; done)) (fun Q hQ => ACalls.bump 2 (acalls_of_body (cfg := ⟨fun t => t == 8 || t == 9 || t == 11 || t == 16 || t == 24 || t == 27, fun r => match r with | 2 => [(2, 3), (2, 4), (2, 7), (5, 7), (0, 9), (1, 9), (2, 9), (3, 9), (4, 9), (5, 9), (7, 9)] | 8 => [(0, 8), (1, 8), (2, 8)] | 17 => [(0, 20), (1, 20), (2, 20)] | _ => []⟩) Tz.mixed Tryz.func247 rfl rfl (nlb rfl) (by kernel_rfl) ?_))
  try simp [go_sem, seval]
  refine callQ_pure0 (morphism_Identity a ha) ((by first | rfl | (simp [go_sem, ← List.map_take, ← List.map_drop]; done))) ?_
  try simp [go_sem, seval]
  refine dcallQ_own1 0 (clone_int a.nodes (by omega)) (by first | rfl | (simp [go_sem]; done)) rfl (by first | omega | simp [go_sem]) (by simp [al_push, al_put, al_mk, al_emp]) (by first | trivial | (simp [go_sem]; done) | simp [go_sem, chk]) ?_
  try simp [go_sem, seval]
  refine dcallQ_own1 1 (clone_edge a.edges (by omega)) (by first | rfl | (simp [go_sem]; done)) rfl (by first | omega | simp [go_sem]) (by simp [al_push, al_put, al_mk, al_emp]) (by first | trivial | (simp [go_sem]; done) | simp [go_sem, chk]) ?_
  try simp [go_sem, seval]
  repeat first | intro _ | refine ⟨obs, ?_⟩
  obtain ⟨I0, hI0⟩ := mkI fun i e H => (∃ gs : List Int, ∃ rs : List Int, (e 31 = dLI ns) ∧ (e 32 = dI ns.length) ∧ (e 3 = dLI es) ∧ (e 5 = .adr b.c) ∧ (e 8 = .ptr 2 1 0 0) ∧ (e 11 = .ptr 13 1 0 0) ∧ (e 33 = dI i) ∧ (H.get 2 = some ⟨45, 6, [[.nil, .nil, .nil, .nil, .nil, .nil]], false⟩) ∧ (2 < H.next) ∧ (H.get 13 = some ⟨45, 6, [[.own 0 gs.length, .own 1 a.edges.length, dLI (numL a.nodes.length), dLI (numL a.edges.length), .own 15 rs.length, .nil]], false⟩) ∧ (13 < H.next) ∧ (H.get 0 = some ⟨3, 1, gs.map cI, false⟩) ∧ (0 < H.next) ∧ (H.get 1 = some ⟨124, 3, a.edges.map Edge.c, false⟩) ∧ (1 < H.next) ∧ (H.get 15 = some ⟨3, 1, rs.map cI, false⟩) ∧ (15 < H.next) ∧ (i ≤ ns.length) ∧ ((gs, rs) = gluN a b ns i))
  refine loopKG (Ghosts.step (Ghosts.refl _) 13 0 4 3 1 _ _ (rfl) rfl rfl rfl) I0 (fun i => ns.length - i) (0) ((hI0 _ _ _).2 ⟨(a.nodes), ([]), ?_, ?_, ?_, ?_, ?_, ?_, ?_, ?_, ?_, ?_, ?_, ?_, ?_, ?_, ?_, ?_, ?_, (by first | assumption | omega | (simp [go_sem]; done) | (simp_all; done)), (by rfl)⟩) ?_
  iterate 17 (first | omega | (simp [go_sem, seval] <;> omega))
  intro i e H hi0
  obtain ⟨gs, rs, q31_0, q32_0, q3_0, q5_0, q8_0, q11_0, q33_0, g2_0, n2_0, g13_0, n13_0, g0_0, n0_0, g1_0, n1_0, g15_0, n15_0, hi, hg⟩ := (hI0 _ _ _).1 hi0
  have x2 := frs n2_0
  have x13 := frs n13_0
  have x0 := frs n0_0
  have x1 := frs n1_0
  have x15 := frs n15_0
  have F0 := And.intro q31_0 (And.intro q32_0 (And.intro q3_0 (And.intro q5_0 (And.intro q8_0 (And.intro q11_0 (And.intro q33_0 (And.intro g2_0 (And.intro g13_0 (And.intro g0_0 (And.intro g1_0 (And.intro g15_0 (And.intro x2 (And.intro x13 (And.intro x0 (And.intro x1 x15)))))))))))))))
  try simp [go_sem, seval, F0]
  refine condQ_mk (fun h4 => ?_) (fun h4 => ?_)
  · try simp [go_sem] at h4
    have hbn : i < b.nodes.length := by omega
    have hgl := gluN_len a b ns i
    rw [← hg] at hgl
    simp only at hgl
    have hgs : gluN a b ns (i + 1) = if ns[i] < 0 then (gs ++ [b.nodes[i]], rs ++ [(gs.length : Int)]) else (gs, rs ++ [ns[i]]) := by simp only [gluN, ← hg, lge h4, lge hbn, Option.getD_some]
    try simp [go_sem, seval, F0, h4, lge h4, lge hbn]
    repeat first | intro _ | refine ⟨obs, ?_⟩
    refine condQ_mk (fun h6 => ?_) (fun h6 => ?_)
    ·try simp [go_sem] at h6
     obtain ⟨gs2, hgs2⟩ : ∃ x, x = gs ++ [b.nodes[i]] := ⟨_, rfl⟩
     obtain ⟨rs2, hrs2⟩ : ∃ x, x = rs ++ [(gs.length : Int)] := ⟨_, rfl⟩
     have hst : (gs2, rs2) = gluN a b ns (i + 1) := by rw [hgs, if_pos (by omega), hgs2, hrs2]
     try simp [go_sem, seval, F0, h4, lge h4, lge hbn, hgs2, hrs2]
     repeat first | intro _ | refine ⟨obs, ?_⟩
     refine nextQ_mk (i + 1) (by omega) ((hI0 _ _ _).2 ⟨(gs2), (rs2), ?_, ?_, ?_, ?_, ?_, ?_, ?_, ?_, ?_, ?_, ?_, ?_, ?_, ?_, ?_, ?_, ?_, (by first | assumption | omega | (simp [go_sem, F0, h4, lge h4, lge hbn, hgs2, hrs2, h6]; done) | (simp_all <;> omega)), (by (exact hst))⟩) <;> first | omega | (simp [go_sem, seval, F0, h4, lge h4, lge hbn, hgs2, hrs2] <;> omega)
    ·try simp [go_sem] at h6
     obtain ⟨gs2, hgs2⟩ : ∃ x, x = gs := ⟨_, rfl⟩
     obtain ⟨rs2, hrs2⟩ : ∃ x, x = rs ++ [ns[i]] := ⟨_, rfl⟩
     have hst : (gs2, rs2) = gluN a b ns (i + 1) := by rw [hgs, if_neg (by omega), hgs2, hrs2]
     try simp [go_sem, seval, F0, h4, lge h4, lge hbn, hgs2, hrs2]
     repeat first | intro _ | refine ⟨obs, ?_⟩
     refine nextQ_mk (i + 1) (by omega) ((hI0 _ _ _).2 ⟨(gs2), (rs2), ?_, ?_, ?_, ?_, ?_, ?_, ?_, ?_, ?_, ?_, ?_, ?_, ?_, ?_, ?_, ?_, ?_, (by first | assumption | omega | (simp [go_sem, F0, h4, lge h4, lge hbn, hgs2, hrs2, h6]; done) | (simp_all <;> omega)), (by (exact hst))⟩) <;> first | omega | (simp [go_sem, seval, F0, h4, lge h4, lge hbn, hgs2, hrs2] <;> omega)
  · try simp [go_sem] at h4
    have hI : i = ns.length := by omega
    subst hI
    have hgl := gluN_len a b ns ns.length
    rw [← hg] at hgl
    simp only at hgl
    try simp [go_sem, seval, F0]
    repeat first | intro _ | refine ⟨obs, ?_⟩
    obtain ⟨I2, hI2⟩ := mkI fun k e H => (∃ j : Nat, ∃ xs : List Edge, ∃ ys : List Int, (e 31 = dLI ns) ∧ (e 32 = dI ns.length) ∧ (e 65 = dLI es) ∧ (e 66 = dI es.length) ∧ (e 3 = dLI es) ∧ (e 5 = .adr b.c) ∧ (e 8 = .ptr 2 1 0 0) ∧ (e 11 = .ptr 13 1 0 0) ∧ (e 67 = dI k) ∧ (H.get 2 = some ⟨45, 6, [[.nil, .nil, .nil, .nil, .nil, .nil]], false⟩) ∧ (2 < H.next) ∧ (H.get 13 = some ⟨45, 6, [[.own 0 gs.length, .own 1 xs.length, dLI (numL a.nodes.length), dLI (numL a.edges.length), .own 15 rs.length, .own j ys.length]], false⟩) ∧ (13 < H.next) ∧ (H.get 0 = some ⟨3, 1, gs.map cI, false⟩) ∧ (0 < H.next) ∧ (H.get 1 = some ⟨124, 3, xs.map Edge.c, false⟩) ∧ (1 < H.next) ∧ (H.get 15 = some ⟨3, 1, rs.map cI, false⟩) ∧ (15 < H.next) ∧ (H.get j = some ⟨3, 1, ys.map cI, false⟩) ∧ (j < H.next) ∧ (15 < j) ∧ (k ≤ es.length) ∧ ((xs, ys) = gluE a b rs es k))
    refine loopKG (Ghosts.step (Ghosts.refl _) 13 0 5 3 1 _ _ (g13_0) rfl rfl rfl) I2 (fun k => es.length - k) (0) ((hI2 _ _ _).2 ⟨(H.next), (a.edges), ([]), ?_, ?_, ?_, ?_, ?_, ?_, ?_, ?_, ?_, ?_, ?_, ?_, ?_, ?_, ?_, ?_, ?_, ?_, ?_, ?_, ?_, (by omega), (by first | assumption | omega | (simp [go_sem, F0]; done) | (simp_all; done)), (by rfl)⟩) ?_
    iterate 21 (first | omega | (simp [go_sem, seval, F0] <;> omega))
    intro k e H hi2
    obtain ⟨j, xs, ys, q31_2, q32_2, q65_2, q66_2, q3_2, q5_2, q8_2, q11_2, q67_2, g2_2, n2_2, g13_2, n13_2, g0_2, n0_2, g1_2, n1_2, g15_2, n15_2, gj_2, nj_2, hj, hk, he2⟩ := (hI2 _ _ _).1 hi2
    have x2 := frs n2_2
    have x13 := frs n13_2
    have x0 := frs n0_2
    have x1 := frs n1_2
    have x15 := frs n15_2
    have xj := frs nj_2
    have F2 := And.intro q31_2 (And.intro q32_2 (And.intro q65_2 (And.intro q66_2 (And.intro q3_2 (And.intro q5_2 (And.intro q8_2 (And.intro q11_2 (And.intro q67_2 (And.intro g2_2 (And.intro g13_2 (And.intro g0_2 (And.intro g1_2 (And.intro g15_2 (And.intro gj_2 (And.intro x2 (And.intro x13 (And.intro x0 (And.intro x1 (And.intro x15 xj)))))))))))))))))))
    have di1 := And.intro (nep (show 2 ≠ 13 by omega)) (And.intro (nep (show 2 ≠ 15 by omega)) (And.intro (nep (show 2 ≠ 1 by omega)) (And.intro (nep (show 2 ≠ 0 by omega)) (And.intro (nep (show 2 ≠ j by omega)) (And.intro (nep (show 13 ≠ 15 by omega)) (And.intro (nep (show 13 ≠ 1 by omega)) (And.intro (nep (show 13 ≠ 0 by omega)) (And.intro (nep (show 13 ≠ j by omega)) (And.intro (nep (show 15 ≠ 1 by omega)) (And.intro (nep (show 15 ≠ 0 by omega)) (And.intro (nep (show 15 ≠ j by omega)) (And.intro (nep (show 1 ≠ 0 by omega)) (And.intro (nep (show 1 ≠ j by omega)) (nep (show 0 ≠ j by omega)))))))))))))))
    try simp [go_sem, seval, F2, di1]
    refine condQ_mk (fun h12 => ?_) (fun h12 => ?_)
    ·try simp [go_sem] at h12
     have hbe : k < b.edges.length := by omega
     have hel := gluE_len a b rs es k
     rw [← he2] at hel
     simp only at hel
     have hbx := hib _ (lgm hbe)
     have hf1 : b.edges[k].from_.toNat < rs.length := by omega
     have hf2 : b.edges[k].to_.toNat < rs.length := by omega
     have hgx : gluX b rs k = ⟨b.edges[k].type, rs[b.edges[k].from_.toNat], rs[b.edges[k].to_.toNat]⟩ := by simp only [gluX, lge hbe, Option.getD_some, lge hf1, lge hf2]
     have hes : gluE a b rs es (k + 1) = if es[k] < 0 then (xs ++ [gluX b rs k], ys ++ [(xs.length : Int)]) else (xs, ys ++ [es[k]]) := by simp only [gluE, ← he2, lge h12, Option.getD_some]
     try simp [go_sem, seval, F2, di1, h12, lge h12, lge hbe, lge hf1, lge hf2]
     repeat first | intro _ | refine ⟨obs, ?_⟩
     refine condQ_mk (fun h14 => ?_) (fun h14 => ?_)
     ·try simp [go_sem] at h14
      obtain ⟨xs2, hxs2⟩ : ∃ x, x = xs ++ [gluX b rs k] := ⟨_, rfl⟩
      obtain ⟨ys2, hys2⟩ : ∃ x, x = ys ++ [(xs.length : Int)] := ⟨_, rfl⟩
      have hst : (xs2, ys2) = gluE a b rs es (k + 1) := by rw [hes, if_pos (by omega), hxs2, hys2]
      try simp [go_sem, seval, F2, di1, h12, lge h12, lge hbe, lge hf1, lge hf2, hxs2, hys2, hgx, Edge.c]
      repeat first | intro _ | refine ⟨obs, ?_⟩
      refine nextQ_mk (k + 1) (by omega) ((hI2 _ _ _).2 ⟨(j), (xs2), (ys2), ?_, ?_, ?_, ?_, ?_, ?_, ?_, ?_, ?_, ?_, ?_, ?_, ?_, ?_, ?_, ?_, ?_, ?_, ?_, ?_, ?_, (by omega), (by first | assumption | omega | (simp [go_sem, F2, di1, h12, lge h12, lge hbe, lge hf1, lge hf2, hxs2, hys2, hgx, Edge.c, h4, h14]; done) | (simp_all <;> omega)), (by (exact hst))⟩) <;> first | omega | (simp [go_sem, seval, F2, di1, h12, lge h12, lge hbe, lge hf1, lge hf2, hxs2, hys2, hgx, Edge.c] <;> omega)
     ·try simp [go_sem] at h14
      obtain ⟨xs2, hxs2⟩ : ∃ x, x = xs := ⟨_, rfl⟩
      obtain ⟨ys2, hys2⟩ : ∃ x, x = ys ++ [es[k]] := ⟨_, rfl⟩
      have hst : (xs2, ys2) = gluE a b rs es (k + 1) := by rw [hes, if_neg (by omega), hxs2, hys2]
      try simp [go_sem, seval, F2, di1, h12, lge h12, lge hbe, lge hf1, lge hf2, hxs2, hys2]
      repeat first | intro _ | refine ⟨obs, ?_⟩
      refine nextQ_mk (k + 1) (by omega) ((hI2 _ _ _).2 ⟨(j), (xs2), (ys2), ?_, ?_, ?_, ?_, ?_, ?_, ?_, ?_, ?_, ?_, ?_, ?_, ?_, ?_, ?_, ?_, ?_, ?_, ?_, ?_, ?_, (by omega), (by first | assumption | omega | (simp [go_sem, F2, di1, h12, lge h12, lge hbe, lge hf1, lge hf2, hxs2, hys2, h4, h14]; done) | (simp_all <;> omega)), (by (exact hst))⟩) <;> first | omega | (simp [go_sem, seval, F2, di1, h12, lge h12, lge hbe, lge hf1, lge hf2, hxs2, hys2] <;> omega)
    ·try simp [go_sem] at h12
     have hK : k = es.length := by omega
     subst hK
     have hN1 : (gluN a b ns ns.length).1 = gs := by rw [← hg]
     have hN2 : (gluN a b ns ns.length).2 = rs := by rw [← hg]
     have hE1 : (gluE a b rs es es.length).1 = xs := by rw [← he2]
     have hE2 : (gluE a b rs es es.length).2 = ys := by rw [← he2]
     try simp [go_sem, seval, F2, di1]
     exact hQ _ _ (by first | (left; (simp [go_sem, F2, di1, glu, Ovl.d, Ovl.c, hN1, hN2, hE1, hE2]); done) | (right; (simp [go_sem, F2, di1, glu, Ovl.d, Ovl.c, hN1, hN2, hE1, hE2]); done))
end Go.Abs
end
