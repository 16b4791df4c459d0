/- The abstraction layer, part O: a region that draws its order -/
import Derived.Test.YtjhccdolbhjmaaaGreatZgC
set_option linter.unusedVariables false
set_option linter.unusedSimpArgs false
section
namespace Go.Abs
theorem looks_op {ops : Array Oper} {o : Oper} {t : Tmp} (h : Operand.tmp t ∈ o.op.operands) : t ∈ o.looksAt ops := by
  simp only [Oper.looksAt, List.mem_append, List.mem_filterMap]
  exact .inl ⟨.tmp t, by simpa using h, rfl⟩
theorem looks_guard {ops : Array Oper} {o : Oper} {j : Nat} {b : Bool} {t : Tmp} (hg : o.guard = some (j, b)) (h : (ops[j]?).bind (·.dst) = some t) : t ∈ o.looksAt ops := by
  simp only [Oper.looksAt, List.mem_append, hg]
  exact .inr (by simp [h])
section
variable {P : Program} {md : Nat → Bool} {ops : Array Oper} {nid : Nat}
structure Txt (P : Program) (md : Nat → Bool) (ops : Array Oper) (nid : Nat) (o : Oper) (e : Nat → D) (H : AHeap) (v : D) (H1 : AHeap) (F : List Nat) : Prop where
  self : H1 = overlay H H1 F nid
  still : writes o.op = false → H1 = H
  foot : heapy o.op = false → F = []
  any : ∀ e' H', (∀ t ∈ o.looksAt ops, e' t = e t) → Agree F H' H → nid < H'.next → ¬ H'.al nid →
    aStep P md true nid ops e' o H' fun v' H2 _ => v' = v ∧ H2 = overlay H' H1 F nid
theorem makes_heapy {o : Op} (h : heapy o = false) : makes o = false := by
  cases o <;> first | rfl | (simp [heapy] at h; done) | (simp only [heapy] at h; simp only [makes]; exact h)
theorem foot_nil {e : Nat → D} {o : Op} (h : heapy o = false) : foot nid e o = [] := by simp [foot, h, makes_heapy h]
theorem evD_same {e e' : Nat → D} {o : Oper} (h : ∀ t ∈ o.looksAt ops, e' t = e t) : ∀ x ∈ o.op.operands, evD e' x = evD e x := by
  intro x hx
  cases x with
  | tmp t => exact h t (looks_op hx)
  | _ => rfl
theorem strip_same {e e' : Nat → D} {o : Oper} (h : ∀ t ∈ o.looksAt ops, e' t = e t) : ∀ x ∈ o.op.operands, evD (gE e' o.op) x = evD (gE e o.op) x := by
  intro x hx
  cases x with
  | tmp t =>
    have ht := h t (looks_op hx)
    simp only [evD]
    cases o.op <;> simp only [gE, strip, ht]
    rename_i c _ _
    cases c <;> simp only [ht]
  | _ => rfl
theorem ogs_congr {e e' : Nat → D} : ∀ (l : List Operand), (∀ x ∈ l, og e' x = og e x) → ogs e' l = ogs e l
  | [], _ => rfl
  | x :: l, h => by simp only [ogs, h x (by simp), ogs_congr l fun y hy => h y (by simp [hy])]
theorem Loc.self {r : AOut} {H : AHeap} {F : List Nat} (h : Loc r r H F nid) : r.heap = overlay H r.heap F nid := h.heap
theorem aStep_txt {e : Nat → D} {o : Oper} {H : AHeap} {K : D → AHeap → List Nat → Prop} (h : aStep P md true nid ops e o H K) (hn : ¬ H.al nid) (hlt : nid < H.next) :
    ∃ v H1 F, Txt P md ops nid o e H v H1 F ∧ K v H1 F := by
  unfold aStep at h
  have hself : ∀ F : List Nat, H = overlay H H F nid := fun F => (overlay_same (fun _ _ => rfl) hn).symm
  cases hg : o.guard with
  | none =>
    simp only [hg] at h
    cases hc : callOf e o with
    | some fa =>
      obtain ⟨f, args⟩ := fa
      simp only [hc, if_true] at h
      obtain ⟨r, S, h1, h2⟩ := h
      have hh : heapy o.op = true := by
        unfold callOf at hc
        split at hc
        · rename_i hop; rw [hop]; rfl
        · cases hc
      refine ⟨r, H, S, ⟨hself S, fun _ => rfl, fun h => (by rw [hh] at h; cases h), fun e' H' he hF hlt' hn' => ?_⟩, h2⟩
      unfold aStep
      simp only [hg]
      rw [callOf_congr (evD_same he), hc]
      simp only [if_true]
      exact ⟨r, S, fun H'' hF' => h1 H'' fun i hi => (hF' i hi).trans (hF i hi), rfl, (overlay_same hF hn).symm⟩
    | none =>
      simp only [hc] at h
      obtain ⟨h1, h2⟩ := h
      have hl := aOp_local (P := P) (md := md) (e := e) (o := o) (H := H) (H' := H) (nid := nid) (fun _ _ => rfl) hn hlt
      refine ⟨_, _, _, ⟨hl.heap, fun hw => aOp_heap hw, fun hh => foot_nil hh, fun e' H' he hF hlt' hn' => ?_⟩, h2 (fun h => by cases h)⟩
      unfold aStep
      simp only [hg]
      rw [callOf_congr (evD_same he), hc]
      simp only
      rw [aOp_congr (evD_same he)]
      have hl' := aOp_local (P := P) (md := md) (e := e) (o := o) (H := H) (H' := H') (nid := nid) hF hn hlt'
      exact ⟨hl'.cond h1, fun _ => ⟨hl'.val, hl'.heap⟩⟩
  | some jb =>
    obtain ⟨j, b⟩ := jb
    simp only [hg] at h
    cases hgd : gD ops e j with
    | none => simp [hgd] at h
    | some gc =>
      obtain ⟨g, c⟩ := gc
      simp only [hgd] at h
      obtain ⟨hog, h⟩ := h
      have hgd' : ∀ e', (∀ t ∈ o.looksAt ops, e' t = e t) → gD ops e' j = some (g, c) := by
        intro e' he
        rw [← hgd]
        unfold gD
        cases ht : (ops[j]?).bind (·.dst) with
        | none => rfl
        | some t => simp only [he t (looks_guard hg ht)]
      have hog' : ∀ e', (∀ t ∈ o.looksAt ops, e' t = e t) → ogs e' (gO o.op) = ogs e (gO o.op) := by
        intro e' he
        refine ogs_congr _ fun x hx => ?_
        cases x with
        | tmp t => simp only [og, he t (looks_op (gO_mem hx))]
        | _ => rfl
      cases hc : callOf (gE e o.op) o with
      | some fa =>
        obtain ⟨f, args⟩ := fa
        simp only [hc] at h
        obtain ⟨r, S, h1, h2⟩ := h
        have hh : heapy o.op = true := by
          unfold callOf at hc
          split at hc
          · rename_i hop; rw [hop]; rfl
          · cases hc
        refine ⟨_, H, S, ⟨hself S, fun _ => rfl, fun h => (by rw [hh] at h; cases h), fun e' H' he hF hlt' hn' => ?_⟩, h2⟩
        unfold aStep
        simp only [hg, hgd' e' he, hog' e' he]
        rw [callOf_congr (strip_same he), hc]
        exact ⟨hog, r, S, fun hq H'' hF' => h1 hq H'' fun i hi => (hF' i hi).trans (hF i hi), rfl, (overlay_same hF hn).symm⟩
      | none =>
        simp only [hc] at h
        obtain ⟨h1, h2⟩ := h
        refine ⟨_, H, _, ⟨hself _, fun hw => rfl, fun hh => foot_nil hh, fun e' H' he hF hlt' hn' => ?_⟩, h2 (fun h => by cases h)⟩
        unfold aStep
        simp only [hg, hgd' e' he, hog' e' he]
        rw [callOf_congr (strip_same he), hc]
        simp only
        rw [aOp_congr (strip_same he)]
        have hl' := aOp_local (P := P) (md := md) (e := gE e o.op) (o := o) (H := H) (H' := H') (nid := nid) hF hn hlt'
        refine ⟨hog, fun hq => ⟨hl'.cond (h1 hq).1, ?_⟩, fun _ => ⟨by rw [hl'.val], (overlay_same hF hn).symm⟩⟩
        rw [hl'.heap, (h1 hq).2, overlay_same hF hn]
end
structure Run (P : Program) (md : Nat → Bool) (ops : Array Oper) (sp : List (Nat × Nat)) (n0 : Nat) (es : Nat → Nat → D) (Hs : Nat → AHeap) (vs : Nat → D) (Fs : Nat → List Nat) (i0 : Nat) (l : List Oper) : Prop where
  step : ∀ (j : Nat) (o : Oper), l[j]? = some o → es (i0 + j + 1) = upd (es (i0 + j)) o.dst (vs (i0 + j)) ∧ Txt P md ops (n0 + (i0 + j)) o (es (i0 + j)) (Hs (i0 + j)) (vs (i0 + j)) (Hs (i0 + j + 1)) (Fs (i0 + j))
  apart : ∀ (k j : Nat), k < j → j < l.length → (i0 + k, i0 + j) ∈ sp → ∀ x ∈ Fs (i0 + k), x ∉ Fs (i0 + j)
theorem aDraw_run {P : Program} {md : Nat → Bool} {ops : Array Oper} {sp : List (Nat × Nat)} {n0 nn : Nat} : ∀ (l : List Oper) (i : Nat) (acc : List (Nat × List Nat)) (e : Nat → D) (H : AHeap) (K : (Nat → D) → AHeap → Prop),
    aDraw P md ops sp n0 i l acc e H K → (∀ id, H.al id → id < n0 + i) → H.next = nn → n0 + i + l.length ≤ nn →
    ∃ (es : Nat → Nat → D) (Hs : Nat → AHeap) (vs : Nat → D) (Fs : Nat → List Nat), es i = e ∧ Hs i = H ∧ K (es (i + l.length)) (Hs (i + l.length)) ∧ Run P md ops sp n0 es Hs vs Fs i l ∧
      (∀ (j : Nat), j < l.length → ∀ p ∈ acc, (p.1, i + j) ∈ sp → ∀ x ∈ p.2, x ∉ Fs (i + j))
  | [], i, acc, e, H, K, h, hal, hnn, hle => by
    refine ⟨fun _ => e, fun _ => H, fun _ => .junk, fun _ => [], rfl, rfl, h, ⟨fun j o h => by simp at h, fun k j _ h => by simp at h⟩, fun j h => by simp at h⟩
  | o :: l, i, acc, e, H, K, h, hal, hnn, hle => by
    unfold aDraw at h
    simp only [List.length_cons] at hle
    have hn : ¬ H.al (n0 + i) := fun h => by have := hal _ h; omega
    have hlt : n0 + i < H.next := by omega
    obtain ⟨v, H1, F, hT, hchk, hrest⟩ := aStep_txt h hn hlt
    have hal1 : ∀ id, H1.al id → id < n0 + (i + 1) := fun id hid => by
      rw [hT.self] at hid
      rcases hid with hid | ⟨rfl, _⟩
      · have := hal id hid; omega
      · omega
    have hnn1 : H1.next = nn := by rw [hT.self]; exact hnn
    obtain ⟨es, Hs, vs, Fs, he, hH, hK, hrun, hacc⟩ := aDraw_run l (i + 1) _ _ _ _ hrest hal1 hnn1 (by omega)
    refine ⟨fun k => if k = i then e else es k, fun k => if k = i then H else Hs k, fun k => if k = i then v else vs k, fun k => if k = i then F else Fs k, by simp, by simp, ?_, ⟨fun j o' ho' => ?_, fun k j hkj hj hsp => ?_⟩, fun j hj p hp hsp => ?_⟩
    · have : i + (o :: l).length ≠ i := by simp
      simp only [this, if_false]
      rw [show i + (o :: l).length = i + 1 + l.length by simp; omega]
      exact hK
    · cases j with
      | zero =>
        simp only [List.getElem?_cons_zero, Option.some.injEq] at ho'
        subst ho'
        have : i + 0 + 1 ≠ i := by omega
        simp only [this, if_false, Nat.add_zero, if_true]
        rw [show i + 1 = i + 1 from rfl, he, hH]
        exact ⟨rfl, hT⟩
      | succ j =>
        have h1 : i + (j + 1) ≠ i := by omega
        have h2 : i + (j + 1) + 1 ≠ i := by omega
        simp only [h1, h2, if_false]
        have := hrun.step j o' (by simpa using ho')
        rw [show i + 1 + j = i + (j + 1) by omega] at this
        exact this
    · have hj0 : i + j ≠ i := by omega
      simp only [hj0, if_false]
      cases j with
      | zero => omega
      | succ j =>
        simp only [List.length_cons] at hj
        by_cases hk : k = 0
        · subst hk
          simp only [Nat.add_zero, if_true] at hsp ⊢
          have := hacc j (by omega) (i, F) (by simp)
          rw [show i + 1 + j = i + (j + 1) by omega] at this
          exact this hsp
        · have hk0 : i + k ≠ i := by omega
          simp only [hk0, if_false]
          have := hrun.apart (k - 1) j (by omega) (by omega)
          rw [show i + 1 + (k - 1) = i + k by omega, show i + 1 + j = i + (j + 1) by omega] at this
          exact this hsp
    · cases j with
      | zero =>
        simp only [Nat.add_zero, if_true] at hsp ⊢
        unfold chk at hchk
        cases sp with
        | nil => simp at hsp
        | cons a sp => exact hchk p hp hsp
      | succ j =>
        have h1 : i + (j + 1) ≠ i := by omega
        simp only [h1, if_false]
        simp only [List.length_cons] at hj
        have := hacc j (by omega) p (by simp [hp])
        rw [show i + 1 + j = i + (j + 1) by omega] at this
        exact this hsp
end Go.Abs
end
section
namespace Go.Abs
theorem lastIn_eq {p : Nat → Bool} {i : Nat} : ∀ (n : Nat), i < n → p i = true → (∀ k, i < k → k < n → p k = false) → lastIn p n = some i
  | 0, h, _, _ => by omega
  | n + 1, h, hp, hk => by
    by_cases hi : i = n
    · subst hi; simp [lastIn, hp]
    · simp only [lastIn, hk n (by omega) (by omega), Bool.false_eq_true, if_false]
      exact lastIn_eq n (by omega) hp fun k h1 h2 => hk k h1 (by omega)
section
variable (ops : Array Oper) (n0 : Nat) (e0 : Nat → D) (H0 : AHeap) (Hs : Nat → AHeap) (vs : Nat → D) (Fs : Nat → List Nat)
def dstOf (i : Nat) : Option Tmp := (ops[i]?).bind (·.dst)
def wrOf (i : Nat) : Bool := match ops[i]? with | some o => writes o.op | none => false
def eS (S : Nat → Bool) (m : Nat) : Nat → D := fun t =>
  match lastIn (fun k => S k && (dstOf ops k == some t)) m with
  | some k => vs k
  | none => e0 t
def HS (S : Nat → Bool) (m : Nat) : AHeap where
  next := n0 + ops.size
  al := fun id => H0.al id ∨ ∃ k, k < m ∧ S k = true ∧ id = n0 + k ∧ (Hs (k + 1)).al (n0 + k)
  get := fun id => match lastIn (fun k => S k && (wrOf ops k && (Fs k).contains id)) m with
    | some k => (Hs (k + 1)).get id
    | none => H0.get id
end
section
variable {P : Program} {md : Nat → Bool} {ops : Array Oper} {sp : List (Nat × Nat)} {n0 : Nat} {es : Nat → Nat → D} {Hs : Nat → AHeap} {vs : Nat → D} {Fs : Nat → List Nat}
theorem toList_get (i : Nat) : ops.toList[i]? = ops[i]? := by simp
theorem run_states (hr : Run P md ops sp n0 es Hs vs Fs 0 ops.toList) (hn : (Hs 0).next = n0 + ops.size) : ∀ i, i ≤ ops.size → es i = eS ops (es 0) vs (fun _ => true) i ∧ Hs i = HS ops n0 (Hs 0) Hs Fs (fun _ => true) i
  | 0, _ => ⟨by funext t; rfl, by
      generalize hH : Hs 0 = X at hn
      obtain ⟨nx, al, g⟩ := X
      simp only [HS, AHeap.mk.injEq]
      refine ⟨hn, funext fun id => propext ⟨.inl, fun h => h.elim (fun h => h) fun ⟨k, hk, _⟩ => by omega⟩, funext fun id => rfl⟩⟩
  | i + 1, hi => by
    obtain ⟨ih1, ih2⟩ := run_states hr hn i (by omega)
    have hlt : i < ops.size := by omega
    have ho : ops[i]? = some ops[i] := Array.getElem?_eq_getElem hlt
    obtain ⟨h1, hT⟩ := hr.step i ops[i] (by rw [toList_get, ho])
    simp only [Nat.zero_add] at h1 hT
    refine ⟨?_, ?_⟩
    · rw [h1, ih1]
      funext t
      simp only [eS, lastIn, Bool.true_and]
      have hd : dstOf ops i = ops[i].dst := by simp [dstOf, ho]
      cases hdd : ops[i].dst with
      | none => simp [upd, hd, hdd, eS]
      | some d =>
        by_cases ht : t = d
        · subst ht; simp [upd, hd, hdd]
        · have ht' : ¬ d = t := fun h => ht h.symm
          simp [upd, hd, hdd, ht, ht', eS]
    · have hself := hT.self
      have hw : wrOf ops i = writes ops[i].op := by simp [wrOf, ho]
      have hget : ∀ id, (Hs (i + 1)).get id = if (wrOf ops i && (Fs i).contains id) = true then (Hs (i + 1)).get id else (Hs i).get id := by
        intro id
        split
        · rfl
        · rename_i hc
          by_cases hwr : wrOf ops i = true
          · have hnc : id ∉ Fs i := fun h => hc (by simp [hwr, h])
            rw [hself]; simp [overlay, hnc]
          · rw [hT.still (by rw [← hw]; simpa using hwr)]
      have hnext : (Hs (i + 1)).next = n0 + ops.size := by rw [hself, ih2]; rfl
      have halq : ∀ id, (Hs (i + 1)).al id ↔ (Hs i).al id ∨ (id = n0 + i ∧ (Hs (i + 1)).al (n0 + i)) := fun id => by
        constructor
        · intro h; rw [hself] at h; exact h
        · intro h; rw [hself]; exact h
      generalize hH : Hs (i + 1) = X at hget hnext halq
      obtain ⟨nx, al, g⟩ := X
      simp only [HS, AHeap.mk.injEq]
      refine ⟨hnext, funext fun id => propext ?_, funext fun id => ?_⟩
      · rw [show al id ↔ _ from halq id, ih2]
        simp only [HS]
        constructor
        · rintro ((h | ⟨k, hk, _, rfl, h⟩) | ⟨rfl, h⟩)
          · exact .inl h
          · exact .inr ⟨k, by omega, trivial, rfl, h⟩
          · exact .inr ⟨i, by omega, trivial, rfl, by rw [hH]; exact h⟩
        · rintro (h | ⟨k, hk, _, rfl, h⟩)
          · exact .inl (.inl h)
          · by_cases hki : k = i
            · subst hki; rw [hH] at h; exact .inr ⟨rfl, h⟩
            · exact .inl (.inr ⟨k, by omega, trivial, rfl, h⟩)
      · have := hget id
        simp only at this
        rw [this, ih2]
        simp only [HS, lastIn, Bool.true_and]
        split
        · simp only [hH]
        · rfl
theorem susp_pair (h : suspOK ops sp = true) {i j : Nat} (hij : i < j) (hj : j < ops.size) :
    ((befs ops.toList []).getD j 0).testBit i = true ∨ (clashT ops (ops[i]'(by omega)) ops[j] = false ∧ (clashH (ops[i]'(by omega)) ops[j] = false ∨ (i, j) ∈ sp)) := by
  unfold suspOK at h
  simp only [List.all_eq_true, List.mem_range] at h
  have h1 := h j hj
  rw [Array.getElem?_eq_getElem hj] at h1
  simp only [Bool.and_eq_true, List.all_eq_true, List.mem_range] at h1
  have h2 := h1.2 i hij
  rw [Array.getElem?_eq_getElem (by omega)] at h2
  simp only [Bool.or_eq_true, Bool.and_eq_true, Bool.not_eq_true', List.contains_iff_mem] at h2
  exact h2
theorem susp_edge (h : suspOK ops sp = true) {j : Nat} {o : Oper} (ho : ops[j]? = some o) : ∀ e ∈ o.after.toList, Region.binds .any e = true → e.on < j := by
  have hj : j < ops.size := (Array.getElem?_eq_some_iff.1 ho).1
  unfold suspOK at h
  simp only [List.all_eq_true, List.mem_range] at h
  have h1 := h j hj
  rw [ho] at h1
  simp only [Bool.and_eq_true, List.all_eq_true, Bool.or_eq_true, Bool.not_eq_true', decide_eq_true_eq] at h1
  intro e he hb
  rcases h1.1.1 e he with h2 | h2
  · rw [hb] at h2; cases h2
  · exact h2
variable {S : Nat → Bool} {i : Nat}
def addS (S : Nat → Bool) (i : Nat) : Nat → Bool := fun k => k == i || S k
theorem writes_heapy {o : Op} (h : writes o = true) : heapy o = true := by
  cases o <;> first | rfl | (simp [writes] at h; done) | exact h
theorem apart_looks {x y : Oper} (h : clashT ops x y = false) : (∀ t, x.dst = some t → t ∉ y.looksAt ops ∧ y.dst ≠ some t) ∧ (∀ t, y.dst = some t → t ∉ x.looksAt ops) := by
  have := Oper.apart_spec (by simpa [clashT] using h)
  exact ⟨fun t ht => ⟨this.1 t ht, this.2.1 t ht⟩, this.2.2⟩
theorem order_facts (hs : suspOK ops sp = true) (hD : Down ops S) (hD' : Down ops (addS S i)) (hi : i < ops.size) (hSi : S i = false) :
    (∀ k, k < i → (((befs ops.toList []).getD i 0).testBit k = true) → S k = true) ∧ (∀ k, i < k → k < ops.size → ((befs ops.toList []).getD k 0).testBit i = true → S k = false) := by
  refine ⟨fun k hk hb => ?_, fun k hk hk2 hb => ?_⟩
  · have := befs_down hD' i k (by simp [addS]) hb
    simp only [addS, Bool.or_eq_true, beq_iff_eq] at this
    rcases this with h | h
    · omega
    · exact h
  · cases hSk : S k with
    | false => rfl
    | true => have := befs_down hD k i hSk hb; rw [hSi] at this; cases this
theorem ready_env (hr : Run P md ops sp n0 es Hs vs Fs 0 ops.toList) (hn : (Hs 0).next = n0 + ops.size) (hs : suspOK ops sp = true) (hD : Down ops S) (hD' : Down ops (addS S i)) (hi : i < ops.size) (hSi : S i = false) :
    (∀ t ∈ (ops[i]).looksAt ops, eS ops (es 0) vs S ops.size t = es i t) ∧ Agree (Fs i) (HS ops n0 (Hs 0) Hs Fs S ops.size) (Hs i) := by
  obtain ⟨o1, o2⟩ := order_facts hs hD hD' hi hSi
  obtain ⟨e1, e2⟩ := run_states hr hn i (by omega)
  have hgetk : ∀ k, k < ops.size → dstOf ops k = (ops[k]?).bind (·.dst) := fun k _ => rfl
  obtain ⟨_, hT⟩ := hr.step i ops[i] (by rw [toList_get, Array.getElem?_eq_getElem hi])
  simp only [Nat.zero_add] at hT
  refine ⟨fun t ht => ?_, fun id hid => ?_⟩
  · rw [e1]
    simp only [eS, Bool.true_and]
    have hl : lastIn (fun k => S k && (dstOf ops k == some t)) ops.size = lastIn (fun k => dstOf ops k == some t) i := by
      rw [lastIn_cut (p := fun k => S k && (dstOf ops k == some t)) i ops.size (by omega) (fun k hk hk2 => ?_)]
      · refine lastIn_congr i fun k hk => ?_
        cases hd : (dstOf ops k == some t) with
        | false => simp
        | true =>
          have hks : k < ops.size := by omega
          have hdk : ops[k].dst = some t := by simpa [dstOf, Array.getElem?_eq_getElem hks] using hd
          rcases susp_pair hs hk hi with h | ⟨h, _⟩
          · simp [o1 k hk h]
          · exact absurd ht ((apart_looks h).1 t hdk).1
      · by_cases hki : k = i
        · subst hki; simp [hSi]
        · cases hd : (dstOf ops k == some t) with
          | false => simp
          | true =>
            have hdk : ops[k].dst = some t := by simpa [dstOf, Array.getElem?_eq_getElem hk2] using hd
            rcases susp_pair hs (show i < k by omega) hk2 with h | ⟨h, _⟩
            · simp [o2 k (by omega) hk2 h]
            · exact absurd ht ((apart_looks h).2 t hdk)
    rw [hl]
  · rw [e2]
    have hheap : heapy ops[i].op = true := by
      cases hh : heapy ops[i].op with
      | true => rfl
      | false => rw [hT.foot hh] at hid; cases hid
    simp only [HS, Bool.true_and]
    have hl : lastIn (fun k => S k && (wrOf ops k && (Fs k).contains id)) ops.size = lastIn (fun k => wrOf ops k && (Fs k).contains id) i := by
      rw [lastIn_cut (p := fun k => S k && (wrOf ops k && (Fs k).contains id)) i ops.size (by omega) (fun k hk hk2 => ?_)]
      · refine lastIn_congr i fun k hk => ?_
        cases hd : (wrOf ops k && (Fs k).contains id) with
        | false => simp
        | true =>
          have hks : k < ops.size := by omega
          simp only [Bool.and_eq_true, List.contains_iff_mem] at hd
          have hwk : writes ops[k].op = true := by simpa [wrOf, Array.getElem?_eq_getElem hks] using hd.1
          rcases susp_pair hs hk hi with h | ⟨_, h | h⟩
          · simp [o1 k hk h]
          · simp [clashH, hheap, writes_heapy hwk, hwk] at h
          · have hap := hr.apart k i hk (by simpa using hi)
            simp only [Nat.zero_add] at hap
            exact absurd hid (hap h id hd.2)
      · by_cases hki : k = i
        · subst hki; simp [hSi]
        · cases hd : (wrOf ops k && (Fs k).contains id) with
          | false => simp
          | true =>
            simp only [Bool.and_eq_true, List.contains_iff_mem] at hd
            have hwk : writes ops[k].op = true := by simpa [wrOf, Array.getElem?_eq_getElem hk2] using hd.1
            rcases susp_pair hs (show i < k by omega) hk2 with h | ⟨_, h | h⟩
            · simp [o2 k (by omega) hk2 h]
            · simp [clashH, hheap, writes_heapy hwk, hwk] at h
            · have hap := hr.apart i k (by omega) (by simpa using hk2)
              simp only [Nat.zero_add] at hap
              exact absurd hd.2 (hap h id hid)
    rw [hl]
theorem after_env (hr : Run P md ops sp n0 es Hs vs Fs 0 ops.toList) (hn : (Hs 0).next = n0 + ops.size) (hs : suspOK ops sp = true) (hD : Down ops S) (hD' : Down ops (addS S i)) (hi : i < ops.size) (hSi : S i = false) :
    upd (eS ops (es 0) vs S ops.size) ops[i].dst (vs i) = eS ops (es 0) vs (addS S i) ops.size ∧
    overlay (HS ops n0 (Hs 0) Hs Fs S ops.size) (Hs (i + 1)) (Fs i) (n0 + i) = HS ops n0 (Hs 0) Hs Fs (addS S i) ops.size := by
  obtain ⟨o1, o2⟩ := order_facts hs hD hD' hi hSi
  obtain ⟨_, hT⟩ := hr.step i ops[i] (by rw [toList_get, Array.getElem?_eq_getElem hi])
  simp only [Nat.zero_add] at hT
  have hag := (ready_env hr hn hs hD hD' hi hSi).2
  have hio : ops[i]? = some ops[i] := Array.getElem?_eq_getElem hi
  refine ⟨?_, ?_⟩
  · funext t
    by_cases ht : ops[i].dst = some t
    · have hl : lastIn (fun k => addS S i k && (dstOf ops k == some t)) ops.size = some i := by
        refine lastIn_eq ops.size hi (by simp [addS, dstOf, hio, ht]) fun k hk hk2 => ?_
        cases hd : (dstOf ops k == some t) with
        | false => simp
        | true =>
          have hdk : ops[k].dst = some t := by simpa [dstOf, Array.getElem?_eq_getElem hk2] using hd
          rcases susp_pair hs hk hk2 with h | ⟨h, _⟩
          · have hki : (k == i) = false := by simp; omega
            simp [addS, hki, o2 k hk hk2 h]
          · exact absurd hdk ((apart_looks h).1 t ht).2
      simp only [eS, hl, upd, ht, if_true]
    · have hl : lastIn (fun k => addS S i k && (dstOf ops k == some t)) ops.size = lastIn (fun k => S k && (dstOf ops k == some t)) ops.size := by
        refine lastIn_congr _ fun k hk => ?_
        by_cases hki : k = i
        · subst hki
          have : (dstOf ops k == some t) = false := by simp [dstOf, hio]; exact ht
          simp [this]
        · have : (k == i) = false := by simpa using hki
          simp [addS, this]
      simp only [eS, hl]
      cases hdd : ops[i].dst with
      | none => rfl
      | some d =>
        have : ¬ t = d := fun h => ht (by rw [hdd, h])
        simp only [upd, this, if_false]
        rfl
  · simp only [overlay, HS, AHeap.mk.injEq, true_and]
    refine ⟨funext fun id => propext ?_, funext fun id => ?_⟩
    · constructor
      · rintro ((h | ⟨k, hk, hSk, rfl, h⟩) | ⟨rfl, h⟩)
        · exact .inl h
        · exact .inr ⟨k, hk, by simp [addS, hSk], rfl, h⟩
        · exact .inr ⟨i, hi, by simp [addS], rfl, h⟩
      · rintro (h | ⟨k, hk, hSk, rfl, h⟩)
        · exact .inl (.inl h)
        · by_cases hki : k = i
          · subst hki; exact .inr ⟨rfl, h⟩
          · have : (k == i) = false := by simpa using hki
            exact .inl (.inr ⟨k, hk, by simpa [addS, this] using hSk, rfl, h⟩)
    · by_cases hw : writes ops[i].op = true
      · by_cases hid : id ∈ Fs i
        · rw [if_pos hid]
          have hl : lastIn (fun k => addS S i k && (wrOf ops k && (Fs k).contains id)) ops.size = some i := by
            refine lastIn_eq ops.size hi (by simp [addS, wrOf, hio, hw, hid]) fun k hk hk2 => ?_
            cases hd : (wrOf ops k && (Fs k).contains id) with
            | false => simp
            | true =>
              simp only [Bool.and_eq_true, List.contains_iff_mem] at hd
              have hwk : writes ops[k].op = true := by simpa [wrOf, Array.getElem?_eq_getElem hk2] using hd.1
              rcases susp_pair hs hk hk2 with h | ⟨_, h | h⟩
              · have hki : (k == i) = false := by simp; omega
                simp [addS, hki, o2 k hk hk2 h]
              · simp [clashH, writes_heapy hw, writes_heapy hwk, hwk] at h
              · have hap := hr.apart i k hk (by simpa using hk2)
                simp only [Nat.zero_add] at hap
                exact absurd hd.2 (hap h id hid)
          rw [hl]
        · rw [if_neg hid]
          have hl : lastIn (fun k => addS S i k && (wrOf ops k && (Fs k).contains id)) ops.size = lastIn (fun k => S k && (wrOf ops k && (Fs k).contains id)) ops.size := by
            refine lastIn_congr _ fun k hk => ?_
            by_cases hki : k = i
            · subst hki; simp [hid]
            · have : (k == i) = false := by simpa using hki
              simp [addS, this]
          rw [hl]
      · have hl : lastIn (fun k => addS S i k && (wrOf ops k && (Fs k).contains id)) ops.size = lastIn (fun k => S k && (wrOf ops k && (Fs k).contains id)) ops.size := by
          refine lastIn_congr _ fun k hk => ?_
          by_cases hki : k = i
          · subst hki
            have : wrOf ops k = false := by simp [wrOf, hio]; simpa using hw
            simp [this]
          · have : (k == i) = false := by simpa using hki
            simp [addS, this]
        rw [hl]
        by_cases hid : id ∈ Fs i
        · rw [if_pos hid, hT.still (by simpa using hw), ← hag id hid]
          rfl
        · rw [if_neg hid]
end
end Go.Abs
end
section
namespace Go.Abs
def Came (n : Nat) (M0 : Nat → Prop) (H0 : AHeap) (σ0 : Nat → Option Ow) (w0 : World) (K : (Nat → D) → AHeap → Prop) (a : Act) (w : World) : Prop :=
  ∃ e H σ, K e H ∧ St n M0 H σ w e a ∧ Stp σ0 w0 σ w ∧ Keeps (Mut M0 H0 σ0) σ0 H0.al w0 (Mut M0 H σ) σ H.al w
theorem Came.mono {n : Nat} {M0 : Nat → Prop} {H0 : AHeap} {σ0 : Nat → Option Ow} {w0 : World} {K K' : (Nat → D) → AHeap → Prop} {a : Act} {w : World} (h : Came n M0 H0 σ0 w0 K a w)
    (hk : ∀ e H, K e H → K' e H) : Came n M0 H0 σ0 w0 K' a w := let ⟨e, H, σ, a, b⟩ := h; ⟨e, H, σ, hk _ _ a, b⟩
theorem Came.trans {n : Nat} {M0 : Nat → Prop} {H0 H1 : AHeap} {σ0 σ1 : Nat → Option Ow} {w0 w1 : World} {K : (Nat → D) → AHeap → Prop} {a : Act} {w : World}
    (hs : Stp σ0 w0 σ1 w1) (hk : Keeps (Mut M0 H0 σ0) σ0 H0.al w0 (Mut M0 H1 σ1) σ1 H1.al w1) (h : Came n M0 H1 σ1 w1 K a w) : Came n M0 H0 σ0 w0 K a w :=
  let ⟨e, H, σ, a, b, c, d⟩ := h; ⟨e, H, σ, a, b, hs.trans c, hk.trans d⟩
section
variable {P : Program} {md : Nat → Bool} {n : Nat} {M0 : Nat → Prop}
theorem Rel.bump {H : AHeap} {σ : Nat → Option Ow} {w : World} (h : Rel M0 H σ w) {m : Nat} (hm : H.next ≤ m) : Rel M0 { H with next := m } σ w :=
  ⟨h.top, fun id hid => Nat.lt_of_lt_of_le (h.nxt id hid) hm, fun id k hk => h.lies id k hk, h.inj, h.lt, h.m0⟩
theorem StepC.mono {ops : Array Oper} {Q : Exit → Act → World → Prop} {o : Oper} {K K' : Act → World → Prop} {a : Act} {w : World} (h : ∀ a w, K a w → K' a w) (hh : StepC P ops Q o K a w) : StepC P ops Q o K' a w := by
  unfold StepC at *
  split
  · rename_i hw; rw [if_pos hw] at hh; exact hh.imp (Oper.wp_mono h) id
  · rename_i hw; rw [if_neg hw] at hh; exact h _ _ hh
def aOps (P : Program) (md : Nat → Bool) (ops : Array Oper) : List Oper → (Nat → D) → AHeap → ((Nat → D) → AHeap → Prop) → Prop
  | [], e, H, K => K e H
  | o :: rest, e, H, K => aStep P md false H.next ops e o H fun v H' _ => aOps P md ops rest (upd e o.dst v) H' K
theorem aOps_sound {ops : Array Oper} {Q : Exit → Act → World → Prop} : ∀ (l : List Oper) (e : Nat → D) (H : AHeap) (K : (Nat → D) → AHeap → Prop), aOps P md ops l e H K → (∀ o ∈ l, dstOK n o.dst = true) →
    ∀ (σ : Nat → Option Ow) (w : World) (a : Act), St n M0 H σ w e a → (∀ a' w', Came n M0 H σ w K a' w' → Q .normal a' w') → wpList P ops Q l a w
  | [], e, H, K, h, hd, σ, w, a, hS, hQ => wpList_nil (hQ a w ⟨e, H, σ, h, hS, .refl _ _, .refl _ _ _ _⟩)
  | o :: l, e, H, K, h, hd, σ, w, a, hS, hQ => by
    unfold aOps at h
    have hs := aStep_sound (Q := Q) h hS (fun hn => Nat.lt_irrefl _ (hS.rel.nxt _ hn)) (hd o (by simp))
    have := StepC.mono (K' := wpList P ops Q l) (fun a' w' ⟨v, H', F, σ', hk, hS', hst, hkp⟩ =>
      aOps_sound l _ _ _ hk (fun o' ho' => hd o' (by simp [ho'])) σ' w' a' hS' fun a'' w'' hc => hQ a'' w'' (hc.trans hst hkp)) hs
    unfold StepC at this
    unfold wpList
    exact this
theorem eS_same {ops : Array Oper} {e0 : Nat → D} {vs : Nat → D} {S T : Nat → Bool} {m : Nat} (h : ∀ k, k < m → S k = T k) : eS ops e0 vs S m = eS ops e0 vs T m := by
  funext t
  unfold eS
  rw [lastIn_congr (p := fun k => S k && (dstOf ops k == some t)) (q := fun k => T k && (dstOf ops k == some t)) m fun k hk => by rw [h k hk]]
theorem HS_same {ops : Array Oper} {n0 : Nat} {H0 : AHeap} {Hs : Nat → AHeap} {Fs : Nat → List Nat} {S T : Nat → Bool} {m : Nat} (h : ∀ k, k < m → S k = T k) : HS ops n0 H0 Hs Fs S m = HS ops n0 H0 Hs Fs T m := by
  unfold HS
  congr 1
  · funext id
    refine propext ⟨fun h' => h'.imp (fun x => x) fun ⟨k, hk, a, b⟩ => ⟨k, hk, (h k hk) ▸ a, b⟩, fun h' => h'.imp (fun x => x) fun ⟨k, hk, a, b⟩ => ⟨k, hk, (h k hk).symm ▸ a, b⟩⟩
  · funext id
    rw [lastIn_congr (p := fun k => S k && (wrOf ops k && (Fs k).contains id)) (q := fun k => T k && (wrOf ops k && (Fs k).contains id)) m fun k hk => by rw [h k hk]]
def cnt (S : Nat → Bool) : Nat → Nat
  | 0 => 0
  | m + 1 => (if S m then 0 else 1) + cnt S m
theorem cnt_zero {S : Nat → Bool} : ∀ {m : Nat}, cnt S m = 0 → ∀ k, k < m → S k = true
  | 0, _, k, hk => by omega
  | m + 1, h, k, hk => by
    simp only [cnt] at h
    by_cases hk' : k = m
    · subst hk'; cases hS : S k <;> simp [hS] at h ⊢
    · exact cnt_zero (m := m) (by omega) k (by omega)
theorem cnt_same {S T : Nat → Bool} : ∀ {m : Nat}, (∀ k, k < m → S k = T k) → cnt S m = cnt T m
  | 0, _ => rfl
  | m + 1, h => by simp only [cnt, h m (by omega), cnt_same (m := m) fun k hk => h k (by omega)]
theorem cnt_add {S : Nat → Bool} {i : Nat} (hS : S i = false) : ∀ {m : Nat}, i < m → cnt (addS S i) m + 1 = cnt S m
  | 0, h => by omega
  | m + 1, h => by
    simp only [cnt]
    by_cases hi : i = m
    · subst hi
      have h1 : addS S i i = true := by simp [addS]
      have h2 : cnt (addS S i) i = cnt S i := cnt_same fun k hk => by
        have : (k == i) = false := by simp; omega
        simp [addS, this]
      rw [h1, hS, h2]; simp; omega
    · have h1 : addS S i m = S m := by
        have : (m == i) = false := by simp; omega
        simp [addS, this]
      have := cnt_add hS (m := m) (by omega)
      rw [h1]; omega
theorem draw_sound {ops : Array Oper} {sp : List (Nat × Nat)} {id : Nat} {e : Nat → D} {H : AHeap} {σ : Nat → Option Ow} {w : World} {a : Act} {K : (Nat → D) → AHeap → Prop} {Q : Exit → Act → World → Prop}
    (hm : P.follows .mixedOrders = true) (hs : suspOK ops sp = true) (hd : ∀ o ∈ ops.toList, dstOK n o.dst = true)
    (h : aDraw P md ops sp H.next 0 ops.toList [] e { H with next := H.next + ops.size } K) (hS : St n M0 H σ w e a) (hQ : ∀ a' w', Came n M0 H σ w K a' w' → Q .normal a' w') :
    (Code.region id ops true).wp P Q a w := by
  refine wp_region_any hm ?_
  obtain ⟨hR1, hst1, hk1⟩ := hS.rel.drew
  have hRb := hR1.bump (m := H.next + ops.size) (by omega)
  have hSb : St n M0 { H with next := H.next + ops.size } σ w.drew e a := ⟨hRb, fun t => (hS.env t).keep hk1, hS.defers, hS.size⟩
  obtain ⟨es, Hs, vs, Fs, he, hH, hK, hrun, _⟩ := aDraw_run (nn := H.next + ops.size) ops.toList 0 [] e _ K h (fun i hi => hS.rel.nxt i hi) rfl (by simp)
  simp only [Nat.zero_add, Array.length_toList] at hK
  have hn : (Hs 0).next = H.next + ops.size := by rw [hH]
  have key : ∀ (fuel : Nat) (listed : Array Bool) (a' : Act) (w' : World), listed.size = ops.size → cnt (fun k => listed.getD k false) ops.size ≤ fuel → Down ops (fun k => listed.getD k false) →
      (∃ σ', St n M0 (HS ops H.next (Hs 0) Hs Fs (fun k => listed.getD k false) ops.size) σ' w' (eS ops (es 0) vs (fun k => listed.getD k false) ops.size) a' ∧ Stp σ w σ' w' ∧
        Keeps (Mut M0 H σ) σ H.al w (Mut M0 (HS ops H.next (Hs 0) Hs Fs (fun k => listed.getD k false) ops.size) σ') σ' (HS ops H.next (Hs 0) Hs Fs (fun k => listed.getD k false) ops.size).al w') →
      wpAny P .any ops Q fuel listed a' w' := by
    intro fuel
    induction fuel with
    | zero =>
      intro listed a' w' hl hc hD ⟨σ', hS', hst', hk'⟩
      have hall := cnt_zero (S := fun k => listed.getD k false) (m := ops.size) (by omega)
      refine ⟨?_, ?_⟩
      · unfold Region.ready
        rw [List.filter_eq_nil_iff]
        intro i hi
        have hi' : i < ops.size := by simpa using hi
        have hg : listed.getD i true = true := by
          have := hall i hi'
          simp only [Array.getD_eq_getD_getElem?] at this ⊢
          rw [Array.getElem?_eq_getElem (by omega)] at this ⊢
          simpa using this
        simp [hg]
      · refine hQ a' w' ⟨es ops.size, Hs ops.size, σ', hK, ?_, hst', ?_⟩
        · obtain ⟨r1, r2⟩ := run_states hrun hn ops.size (Nat.le_refl _)
          rw [r1, r2, eS_same (T := fun k => listed.getD k false) fun k hk => (hall k hk).symm, HS_same (T := fun k => listed.getD k false) fun k hk => (hall k hk).symm]
          exact hS'
        · obtain ⟨r1, r2⟩ := run_states hrun hn ops.size (Nat.le_refl _)
          rw [r2, HS_same (T := fun k => listed.getD k false) fun k hk => (hall k hk).symm]
          exact hk'
    | succ fuel ih =>
      intro listed a' w' hl hc hD ⟨σ', hS', hst', hk'⟩
      have hready : ∀ i, i ∈ Region.ready .any ops listed → i < ops.size ∧ listed.getD i false = false ∧ ∀ o, ops[i]? = some o → ∀ ed ∈ o.after.toList, Region.binds .any ed = true → listed.getD ed.on false = true := by
        intro i hi
        unfold Region.ready at hi
        simp only [List.mem_filter, List.mem_range, Bool.and_eq_true, Bool.not_eq_true'] at hi
        obtain ⟨h1, h2, h3⟩ := hi
        refine ⟨h1, ?_, fun o ho ed hed hb => ?_⟩
        · simp only [Array.getD_eq_getD_getElem?] at h2 ⊢
          rw [Array.getElem?_eq_getElem (by omega)] at h2 ⊢
          simpa using h2
        · rw [ho] at h3
          simp only [Option.map_some, Option.getD_some, Array.all_eq_true_iff_forall_mem] at h3
          have := h3 ed (by simpa using hed)
          rw [hb] at this
          simpa using this
      refine ⟨fun hnil => ?_, fun i hi => ?_⟩
      · -- nothing is ready: all is done
        have hall : ∀ k, k < ops.size → listed.getD k false = true := by
          intro k
          induction k using Nat.strongRecOn with
          | _ k ihk =>
            intro hk
            cases hlk : listed.getD k false with
            | true => rfl
            | false =>
              exfalso
              have hmem : k ∈ Region.ready .any ops listed := by
                unfold Region.ready
                simp only [List.mem_filter, List.mem_range, Bool.and_eq_true, Bool.not_eq_true']
                refine ⟨hk, ?_, ?_⟩
                · simp only [Array.getD_eq_getD_getElem?] at hlk ⊢
                  rw [Array.getElem?_eq_getElem (by omega)] at hlk ⊢
                  simpa using hlk
                · have ho : ops[k]? = some ops[k] := Array.getElem?_eq_getElem hk
                  rw [ho]
                  simp only [Option.map_some, Option.getD_some, Array.all_eq_true_iff_forall_mem]
                  intro ed hed
                  cases hb : Region.binds .any ed with
                  | false => simp
                  | true =>
                    have hlt := susp_edge hs ho ed (by simpa using hed) hb
                    simp [ihk ed.on hlt (by omega)]
              rw [hnil] at hmem; cases hmem
        have := (ih listed a' w' hl (by
          have : cnt (fun k => listed.getD k false) ops.size = cnt (fun _ => true) ops.size := cnt_same hall
          have h0 : ∀ m, cnt (fun _ => true) m = 0 := fun m => by induction m with
            | zero => rfl
            | succ m ih => simp [cnt, ih]
          rw [this, h0]; omega) hD ⟨σ', hS', hst', hk'⟩)
        cases fuel with
        | zero => exact this.2
        | succ f => exact this.1 hnil
      · obtain ⟨hi1, hi2, hi3⟩ := hready i hi
        have ho : ops[i]? = some ops[i] := Array.getElem?_eq_getElem hi1
        have hD' : Down ops (addS (fun k => listed.getD k false) i) := by
          intro j o hj hSj ed hed hb
          simp only [addS, Bool.or_eq_true, beq_iff_eq] at hSj
          simp only [addS, Bool.or_eq_true]
          rcases hSj with rfl | hSj
          · exact .inr (hi3 o hj ed hed hb)
          · exact .inr (hD j o hj hSj ed hed hb)
        have hset : (fun k => (listed.setIfInBounds i true).getD k false) = addS (fun k => listed.getD k false) i := by
          funext k
          simp only [addS, Array.getD_eq_getD_getElem?, Array.getElem?_setIfInBounds]
          by_cases hki : k = i
          · subst hki; simp [hl, hi1]
          · have : ¬ i = k := fun h => hki h.symm
            have h2 : (k == i) = false := by simpa using hki
            simp [this, h2]
        obtain ⟨henv, hag⟩ := ready_env hrun hn hs hD hD' hi1 hi2
        obtain ⟨ha1, ha2⟩ := after_env hrun hn hs hD hD' hi1 hi2
        obtain ⟨_, hT⟩ := hrun.step i ops[i] (by rw [toList_get, ho])
        simp only [Nat.zero_add] at hT
        have hnal : ¬ (HS ops H.next (Hs 0) Hs Fs (fun k => listed.getD k false) ops.size).al (H.next + i) := by
          simp only [HS]
          rintro (h | ⟨k, hk, hSk, hkk, _⟩)
          · rw [hH] at h
            have := hS.rel.nxt _ h; omega
          · have : k = i := by omega
            subst this
            rw [hi2] at hSk; cases hSk
        have hstep := hT.any _ _ henv hag (by simp only [HS]; omega) hnal
        have hc := aStep_sound (Q := Q) hstep hS' hnal (hd ops[i] (by simp))
        have hgoal : StepC P ops Q ops[i] (wpAny P .any ops Q fuel (listed.setIfInBounds i true)) a' w' := by
          refine StepC.mono (fun a'' w'' ⟨v, H', F, σ'', ⟨hv, hH'⟩, hS'', hst'', hk''⟩ => ?_) hc
          subst hv; subst hH'
          refine ih _ a'' w'' (by simpa using hl) ?_ (by rw [hset]; exact hD') ⟨σ'', ?_, hst'.trans hst'', ?_⟩
          · rw [hset]
            have := cnt_add (S := fun k => listed.getD k false) hi2 hi1
            omega
          · rw [hset, ← ha1, ← ha2]; exact hS''
          · rw [hset, ← ha2]; exact hk'.trans hk''
        unfold wpOp
        rw [ho]
        exact hgoal
  refine key ops.size _ a _ (by simp) ?_ ?_ ⟨σ, ?_, hst1, ?_⟩
  · have : ∀ S : Nat → Bool, ∀ m, cnt S m ≤ m := fun S m => by
      induction m with
      | zero => simp [cnt]
      | succ m ih => simp only [cnt]; split <;> omega
    exact this _ _
  · intro j o ho hSj
    exfalso
    have hj : j < ops.size := (Array.getElem?_eq_some_iff.1 ho).1
    simp [hj] at hSj
  · have hS0 : (fun k => (Array.replicate ops.size false).getD k false) = fun _ => false := by
      funext k
      by_cases hk : k < ops.size <;> simp [hk]
    have hl0 : ∀ (p : Nat → Bool) m, lastIn (fun k => false && p k) m = none := fun p m => by
      induction m with
      | zero => rfl
      | succ m ih => simp only [lastIn, Bool.false_and, Bool.false_eq_true, if_false]; exact ih
    have e1 : eS ops (es 0) vs (fun k => (Array.replicate ops.size false).getD k false) ops.size = e := by
      rw [hS0]; funext t; simp only [eS, hl0 (fun k => dstOf ops k == some t)]; rw [he]
    have e2 : HS ops H.next (Hs 0) Hs Fs (fun k => (Array.replicate ops.size false).getD k false) ops.size = { H with next := H.next + ops.size } := by
      rw [hS0]
      simp only [HS, AHeap.mk.injEq, true_and]
      refine ⟨funext fun id => propext ⟨fun h => h.elim (fun h => by rw [hH] at h; exact h) fun ⟨_, _, h, _⟩ => (by cases h), fun h => .inl (by rw [hH]; exact h)⟩, funext fun id => ?_⟩
      rw [hl0 (fun k => wrOf ops k && (Fs k).contains id), hH]
    rw [e1, e2]; exact hSb
  · have hS0 : (fun k => (Array.replicate ops.size false).getD k false) = fun _ => false := by
      funext k
      by_cases hk : k < ops.size <;> simp [hk]
    have hl0 : ∀ (p : Nat → Bool) m, lastIn (fun k => false && p k) m = none := fun p m => by
      induction m with
      | zero => rfl
      | succ m ih => simp only [lastIn, Bool.false_and, Bool.false_eq_true, if_false]; exact ih
    have e2 : HS ops H.next (Hs 0) Hs Fs (fun k => (Array.replicate ops.size false).getD k false) ops.size = { H with next := H.next + ops.size } := by
      rw [hS0]
      simp only [HS, AHeap.mk.injEq, true_and]
      refine ⟨funext fun id => propext ⟨fun h => h.elim (fun h => by rw [hH] at h; exact h) fun ⟨_, _, h, _⟩ => (by cases h), fun h => .inl (by rw [hH]; exact h)⟩, funext fun id => ?_⟩
      rw [hl0 (fun k => wrOf ops k && (Fs k).contains id), hH]
    rw [e2]; exact hk1
end
end Go.Abs
end
section
namespace Go.Abs
abbrev Env := Nat → D
structure Cfg where
  own : Nat → Bool
  sp : Nat → List (Nat × Nat)
def ghost (H : AHeap) (id i off : Nat) (ty sz : Nat) : AHeap :=
  match H.get id with
  | some k => (H.put id { k with es := k.es.set i ((k.es[i]?.getD []).set off (.own H.next 0)) }).push H.next ⟨ty, sz, [], false⟩
  | none => H
inductive Ghosts : AHeap → AHeap → Prop
  | refl (H : AHeap) : Ghosts H H
  | step {H H1 : AHeap} (h : Ghosts H H1) (id i off ty sz : Nat) (k : Blk) (c : List D) (hk : H1.get id = some k) (hf : k.fz = false) (hc : k.es[i]? = some c) (hn : c[off]? = some .nil) : Ghosts H (ghost H1 id i off ty sz)
def thenQ (next : Env → AHeap → Prop) (Q : Exit → Env → AHeap → Prop) : Exit → Env → AHeap → Prop
  | .normal, e, H => next e H
  | ex, e, H => Q ex e H
def blockQ (id : Nat) (Q : Exit → Env → AHeap → Prop) : Exit → Env → AHeap → Prop
  | .exit id', e, H => if id' = id then Q .normal e H else Q (.exit id') e H
  | ex, e, H => Q ex e H
def AWp (P : Program) (c : Cfg) : Code → (Exit → Env → AHeap → Prop) → Env → AHeap → Prop
  | .skip, Q, e, H => Q .normal e H
  | .region id ops dr, Q, e, H =>
    if dr then aDraw P c.own ops (c.sp id) H.next 0 ops.toList [] e { H with next := H.next + ops.size } (Q .normal)
    else aOps P c.own ops ops.toList e H (Q .normal)
  | .seq a b, Q, e, H => AWp P c a (thenQ (AWp P c b Q) Q) e H
  | .cond x a b, Q, e, H => match evD e x with
    | .bool t => (t = true → AWp P c a Q e H) ∧ (t = false → AWp P c b Q e H)
    | _ => False
  | .block id b, Q, e, H => AWp P c b (blockQ id Q) e H
  | .loop b, Q, e, H => ∃ I : Nat → Env → AHeap → Prop, (∃ H', Ghosts H H' ∧ ∃ k, I k e H') ∧ ∀ k e' H', I k e' H' → AWp P c b (thenQ (fun e'' H'' => ∃ k', k' < k ∧ I k' e'' H'') Q) e' H'
  | .exit id, Q, e, H => Q (.exit id) e H
  | .ret, Q, e, H => Q .ret e H
  | _, _, _, _ => False
def codeOK (c : Cfg) (n : Nat) : Code → Bool
  | .region id ops dr => (ops.toList.all fun o => dstOK n o.dst) && (!dr || suspOK ops (c.sp id))
  | .seq a b => codeOK c n a && codeOK c n b
  | .cond _ a b => codeOK c n a && codeOK c n b
  | .block _ b => codeOK c n b
  | .loop b => codeOK c n b
  | _ => true
section
variable {P : Program} {c : Cfg} {n : Nat} {M0 : Nat → Prop}
theorem Code.wp_weak {x : Code} {Q Q' : Exit → Act → World → Prop} {a : Act} {w : World} (h : x.wp P Q a w) (hq : ∀ e a w, Q e a w → Q' e a w) : x.wp P Q' a w := wp_mono h hq
theorem exists_least {p : Nat → Prop} (h : ∃ k, p k) : ∃ k, p k ∧ ∀ j, j < k → ¬ p j := by
  obtain ⟨k, hk⟩ := h
  induction k using Nat.strongRecOn with
  | _ k ih =>
    by_cases hj : ∃ j, j < k ∧ p j
    · obtain ⟨j, hlt, hp⟩ := hj
      exact ih j hlt hp
    · exact ⟨k, hk, fun j hlt hp => hj ⟨j, hlt, hp⟩⟩
def CameX (n : Nat) (M0 : Nat → Prop) (H0 : AHeap) (σ0 : Nat → Option Ow) (w0 : World) (Q : Exit → Env → AHeap → Prop) (ex : Exit) (a : Act) (w : World) : Prop := Came n M0 H0 σ0 w0 (Q ex) a w
theorem flatten_set1 {sz : Nat} (d : D) (off : Nat) (c : List D) : ∀ (es : List (List D)) (i : Nat), (∀ c ∈ es, c.length = sz) → es[i]? = some c → off < sz → (es.set i (c.set off d)).flatten = es.flatten.set (i * sz + off) d
  | [], i, _, h, _ => by simp at h
  | a :: es, 0, hl, h, ho => by
    simp at h; subst h
    have := hl a (by simp)
    simp only [List.set_cons_zero, List.flatten_cons, Nat.zero_mul, Nat.zero_add]
    rw [List.set_append_left _ _ (by omega)]
  | a :: es, i + 1, hl, h, ho => by
    have ha := hl a (by simp)
    simp at h
    have ih := flatten_set1 d off c es i (fun c hc => hl c (by simp [hc])) h ho
    simp only [List.set_cons_succ, List.flatten_cons, ih]
    rw [List.set_append_right _ _ (by rw [Nat.add_mul]; omega)]
    congr 2
    rw [ha, Nat.add_mul]; omega
theorem ghost_sound {H : AHeap} {σ : Nat → Option Ow} {w : World} (hR : Rel M0 H σ w) {id i off ty sz : Nat} {k : Blk} {c0 : List D} (hk : H.get id = some k) (hf : k.fz = false) (hc : k.es[i]? = some c0) (hn : c0[off]? = some .nil) :
    ∃ σ', Rel M0 (ghost H id i off ty sz) σ' w ∧ Stp σ w σ' w ∧ Keeps (Mut M0 H σ) σ H.al w (Mut M0 (ghost H id i off ty sz) σ') σ' (ghost H id i off ty sz).al w := by
  have hal : ¬ H.al H.next := fun h => Nat.lt_irrefl _ (hR.nxt _ h)
  have hid : H.al id := Classical.byContradiction fun hn => by rw [(hR.top id hn).2] at hk; cases hk
  have hne : id ≠ H.next := fun h => hal (h ▸ hid)
  obtain ⟨p1, p2, p3⟩ := Rel.push hR H.next hal (w' := w) rfl rfl rfl (Nat.le_refl _) (fun _ _ => rfl) ⟨ty, sz, [], false⟩ ⟨0, .slice none 0 0, sz, ty⟩ (fun b hb => by simp [Ow.block, Value.ownBlock] at hb) rfl rfl rfl (fun c hc => by simp at hc) []
    ⟨by simp, .inl ⟨rfl, rfl⟩⟩ (by simp) ⟨rfl, fun j u d hu => by simp at hu⟩
  obtain ⟨o, ho, l⟩ := hR.lies id k hk
  obtain ⟨xs, hrow, hx1, hrep⟩ := l.row
  have hk1 : (H.push H.next ⟨ty, sz, [], false⟩).get id = some k := by simp [AHeap.push, hne, hk]
  have ho1 : (fun i => if i = H.next then some (⟨0, .slice none 0 0, sz, ty⟩ : Ow) else σ i) id = some o := by simp [hne, ho]
  have hlen0 := l.esz c0 (List.mem_of_getElem? hc)
  have hoff : off < o.esz := by rw [← hlen0]; exact (List.getElem?_eq_some_iff.1 hn).1
  have hesz' : ∀ c ∈ k.es.set i (c0.set off (.own H.next 0)), c.length = o.esz := fun c hc' => by
    rcases List.mem_or_eq_of_mem_set hc' with h | h
    · exact l.esz c h
    · subst h; simp [hlen0]
  have hfl := flatten_set1 (D.own H.next 0) off c0 k.es i l.esz hc hoff
  obtain ⟨q1, q2, q3⟩ := Rel.put p1 hk1 hf ho1 { k with es := k.es.set i (c0.set off (.own H.next 0)) } o ⟨rfl, rfl, rfl, Nat.le_refl _, fun _ _ _ => rfl⟩ (fun b hb => .inl hb) (.inl rfl) (by simp [l.ver]) l.ty l.sz hesz' xs (by simpa using hrow) hx1 (by
      have hrep' := hrep.keep p3
      simp only
      rw [hfl]
      refine ⟨by simpa using hrep'.len, fun j u d hu hd => ?_⟩
      rw [List.getElem?_set] at hd
      split at hd
      · rename_i hj
        split at hd
        · cases hd
          have hold : k.es.flatten[j]? = some .nil := by
            rw [← hj, flatten_at k.es i c0 l.esz hc off hoff]; exact hn
          have hv := hrep'.rep j u _ hu hold
          cases hv
          exact .own _ _ _ (.inl rfl) rfl fun o' ho' => by simp at ho'; subst ho'; exact .inr ⟨rfl, rfl⟩
        · cases hd
      · exact hrep'.rep j u d hu hd)
  have hg : ghost H id i off ty sz = (H.push H.next ⟨ty, sz, [], false⟩).put id { k with es := k.es.set i (c0.set off (.own H.next 0)) } := by
    simp only [ghost, hk, hc, Option.getD_some]
    unfold AHeap.push AHeap.put
    congr 1
    funext j
    by_cases h1 : j = H.next
    · simp [h1, Ne.symm hne]
    · simp [h1]
  rw [hg]
  exact ⟨_, q1, p2.trans q2, p3.trans q3⟩
theorem ghosts_sound {H H' : AHeap} (hg : Ghosts H H') {σ : Nat → Option Ow} {w : World} (hR : Rel M0 H σ w) : ∃ σ', Rel M0 H' σ' w ∧ Stp σ w σ' w ∧ Keeps (Mut M0 H σ) σ H.al w (Mut M0 H' σ') σ' H'.al w := by
  induction hg with
  | refl => exact ⟨σ, hR, .refl _ _, .refl _ _ _ _⟩
  | step h id i off ty sz k c hk hf hc hn ih =>
    obtain ⟨σ1, h1, h2, h3⟩ := ih
    obtain ⟨σ2, h4, h5, h6⟩ := ghost_sound (ty := ty) (sz := sz) h1 hk hf hc hn
    exact ⟨σ2, h4, h2.trans h5, h3.trans h6⟩
theorem St.keeps {H H' : AHeap} {σ σ' : Nat → Option Ow} {w : World} {e : Env} {a : Act} (hS : St n M0 H σ w e a) (hR : Rel M0 H' σ' w) (hk : Keeps (Mut M0 H σ) σ H.al w (Mut M0 H' σ') σ' H'.al w) : St n M0 H' σ' w e a :=
  ⟨hR, fun t => (hS.env t).keep hk, hS.defers, hS.size⟩
theorem awp_sound (hm : P.follows .mixedOrders = true) : ∀ (x : Code) (Q : Exit → Env → AHeap → Prop) (e : Env) (H : AHeap), AWp P c x Q e H → codeOK c n x = true →
    ∀ (σ : Nat → Option Ow) (w : World) (a : Act), St n M0 H σ w e a → x.wp P (CameX n M0 H σ w Q) a w
  | .skip, Q, e, H, h, _, σ, w, a, hS => wp_skip ⟨e, H, σ, h, hS, .refl _ _, .refl _ _ _ _⟩
  | .region id ops dr, Q, e, H, h, hok, σ, w, a, hS => by
    simp only [codeOK, Bool.and_eq_true, List.all_eq_true, Bool.or_eq_true, Bool.not_eq_true'] at hok
    unfold AWp at h
    cases dr with
    | false =>
      simp only [Bool.false_eq_true, if_false] at h
      exact wp_region_list (aOps_sound ops.toList e H _ h hok.1 σ w a hS fun a' w' hc => hc)
    | true =>
      simp only [if_true] at h
      exact draw_sound hm (hok.2.resolve_left (by simp)) hok.1 h hS fun a' w' hc => hc
  | .seq x y, Q, e, H, h, hok, σ, w, a, hS => by
    simp only [codeOK, Bool.and_eq_true] at hok
    unfold AWp at h
    refine wp_seq (Code.wp_weak (awp_sound hm x _ e H h hok.1 σ w a hS) fun ex a' w' hc => ?_)
    cases ex <;> first | exact hc | skip
    obtain ⟨e', H', σ', hq, hS', hst, hk⟩ := hc
    exact Code.wp_weak (awp_sound hm y Q e' H' hq hok.2 σ' w' a' hS') fun ex a'' w'' hc' => Came.trans hst hk hc'
  | .cond x y z, Q, e, H, h, hok, σ, w, a, hS => by
    simp only [codeOK, Bool.and_eq_true] at hok
    unfold AWp at h
    have hx := hS.envR.ev x
    cases hv : evD e x <;> simp only [hv] at h <;> try (exact h.elim)
    rename_i t
    rw [hv] at hx
    have hc : a.eval x = .bool t := by generalize a.eval x = v at hx; cases hx; rfl
    exact wp_cond_split hc (fun ht => awp_sound hm y Q e H (h.1 ht) hok.1 σ w a hS) fun ht => awp_sound hm z Q e H (h.2 ht) hok.2 σ w a hS
  | .block id b, Q, e, H, h, hok, σ, w, a, hS => by
    unfold AWp at h
    refine wp_block (Code.wp_weak (awp_sound hm b _ e H h hok σ w a hS) fun ex a' w' hc => ?_)
    cases ex <;> first | exact hc | skip
    rename_i id'
    by_cases hid : id' = id
    · subst hid
      show (if id' = id' then CameX n M0 H σ w Q .normal a' w' else _)
      rw [if_pos rfl]
      exact Came.mono hc fun e' H' h => by
        have h' : (if id' = id' then Q .normal e' H' else Q (.exit id') e' H') := h
        rw [if_pos rfl] at h'; exact h'
    · show (if id' = id then CameX n M0 H σ w Q .normal a' w' else CameX n M0 H σ w Q (.exit id') a' w')
      rw [if_neg hid]
      exact Came.mono hc fun e' H' h => by
        have h' : (if id' = id then Q .normal e' H' else Q (.exit id') e' H') := h
        rw [if_neg hid] at h'; exact h'
  | .loop b, Q, e, H, h, hok, σ, w, a, hS => by
    unfold AWp at h
    obtain ⟨I, ⟨H1, hgh, k0, h0⟩, hI⟩ := h
    obtain ⟨σ1, g1, g2, g3⟩ := ghosts_sound hgh hS.rel
    have hS1 := hS.keeps g1 g3
    let J : Nat → Act → World → Prop := fun k a' w' => Came n M0 H σ w (I k) a' w'
    have hJ0 : J k0 a w := ⟨e, H1, σ1, h0, hS1, g2, g3⟩
    classical
    let μ : Act → World → Nat := fun a' w' => if hx : ∃ k, J k a' w' then Classical.choose (exists_least hx) else 0
    refine wp_loop (fun a' w' => ∃ k, J k a' w') μ ⟨k0, hJ0⟩ fun a' w' hx => ?_
    have hμ : μ a' w' = Classical.choose (exists_least hx) := by simp only [μ, dif_pos hx]
    obtain ⟨e', H', σ', hi, hS', hst, hk⟩ := (Classical.choose_spec (exists_least hx)).1
    refine Code.wp_weak (awp_sound hm b _ e' H' (hI _ e' H' hi) hok σ' w' a' hS') fun ex a'' w'' hc => ?_
    have hc' := Came.trans hst hk hc
    cases ex <;> first | exact hc' | skip
    obtain ⟨e2, H2, σ2, ⟨k', hlt, hk'⟩, rest⟩ := hc'
    have hx2 : ∃ k, J k a'' w'' := ⟨k', e2, H2, σ2, hk', rest⟩
    refine ⟨hx2, ?_⟩
    have : μ a'' w'' = Classical.choose (exists_least hx2) := by simp only [μ, dif_pos hx2]
    rw [this, hμ]
    refine Nat.lt_of_le_of_lt ?_ hlt
    rcases Nat.lt_or_ge k' (Classical.choose (exists_least hx2)) with hlt' | hge
    · exact absurd ⟨e2, H2, σ2, hk', rest⟩ ((Classical.choose_spec (exists_least hx2)).2 k' hlt')
    · exact hge
  | .exit id, Q, e, H, h, _, σ, w, a, hS => wp_exit ⟨e, H, σ, h, hS, .refl _ _, .refl _ _ _ _⟩
  | .ret, Q, e, H, h, _, σ, w, a, hS => wp_ret ⟨e, H, σ, h, hS, .refl _ _, .refl _ _ _ _⟩
  | .rangeFunc .., Q, e, H, h, _, _, _, _, _ => h.elim
  | .scope .., Q, e, H, h, _, _, _, _, _ => h.elim
  | .label .., Q, e, H, h, _, _, _, _, _ => h.elim
  | .goto .., Q, e, H, h, _, _, _, _, _ => h.elim
  | .refuse .., Q, e, H, h, _, _, _, _, _ => h.elim
end
end Go.Abs
end
section
namespace Go.Abs
def aRes (P : Program) : List ResultVar → Env → AHeap → (List D → Prop) → Prop
  | [], _, _, K => K []
  | .tmp t :: r, e, H, K => aRes P r e H fun l => K (e t :: l)
  | .cell a ty :: r, e, H, K => (aLoad P ty (e a) H).cond ∧ aRes P r e H fun l => K ((aLoad P ty (e a) H).val :: l)
def tupD : List D → D
  | [d] => d
  | l => .tup l
def retQ (P : Program) (rs : List ResultVar) (Q : D → AHeap → Prop) : Exit → Env → AHeap → Prop
  | .normal, e, H => aRes P rs e H fun l => Q (tupD l) H
  | .ret, e, H => aRes P rs e H fun l => Q (tupD l) H
  | _, _, _ => False
def envP (args : List D) : Env := fun t => args.getD t .junk
def resSem (tmps : Array Value) : ResultVar → Sem Value
  | .tmp t => Pure.pure (tmps.getD t undef)
  | .cell x t => do loadVar t (← asAddr (tmps.getD x undef))
section
variable {P : Program} {M0 : Nat → Prop} {H : AHeap} {σ : Nat → Option Ow} {w : World} {n : Nat} {e : Env} {a : Act}
theorem aRes_sound (hS : St n M0 H σ w e a) : ∀ (rs : List ResultVar) (K : List D → Prop), aRes P rs e H K →
    ∃ vs l, Sem.run P (rs.mapM (resSem a.tmps)) w = Result.ok vs w ∧ RepL (Mut M0 H σ) σ H.al w vs l ∧ K l
  | [], K, h => ⟨[], [], by simp, ⟨rfl, fun j u d hu => by simp at hu⟩, h⟩
  | .tmp t :: rs, K, h => by
    obtain ⟨vs, l, h1, h2, h3⟩ := aRes_sound hS rs _ h
    refine ⟨a.tmps.getD t undef :: vs, e t :: l, by simp [List.mapM_cons, resSem, h1], ⟨by simp [h2.len], fun j u d hu hd => ?_⟩, h3⟩
    cases j with
    | zero => simp only [List.getElem?_cons_zero, Option.some.injEq] at hu hd; subst hu; subst hd; exact hS.env t
    | succ j => exact h2.rep j u d (by simpa using hu) (by simpa using hd)
  | .cell x t :: rs, K, h => by
    obtain ⟨vs, l, h1, h2, h3⟩ := aRes_sound hS rs _ h.2
    obtain ⟨_, _, v, hr, hv⟩ := load_run (P := P) hS.rel (hS.env x) h.1
    have hld : Sem.run P (resSem a.tmps (.cell x t)) w = .ok v w := by
      simp only [resSem]
      unfold Instr.loadAt at hr
      generalize a.tmps.getD x undef = q at hr ⊢
      cases q with
      | pointer p => cases p with
        | some ad => simpa [Instr.sureAddr, asAddr] using hr
        | none => simp [Instr.sureAddr, stuck] at hr
      | _ => simp [Instr.sureAddr, stuck] at hr
    refine ⟨v :: vs, _ :: l, by simp [List.mapM_cons, hld, h1], ⟨by simp [h2.len], fun j u d hu hd => ?_⟩, h3⟩
    cases j with
    | zero => simp only [List.getElem?_cons_zero, Option.some.injEq] at hu hd; subst hu; subst hd; exact hv
    | succ j => exact h2.rep j u d (by simpa using hu) (by simpa using hd)
theorem results_run {fn : Func} {vs : List Value} {l : List D} (h : Sem.run P (fn.results.toList.mapM (resSem a.tmps)) w = .ok vs w) (hrep : RepL (Mut M0 H σ) σ H.al w vs l) :
    ∃ v, (results fn a.tmps).run P w = .ok v w ∧ RepV (Mut M0 H σ) σ H.al w v (tupD l) := by
  have hres : results fn a.tmps = (do let vs ← fn.results.mapM (resSem a.tmps); Pure.pure (if h : vs.size = 1 then vs[0] else .tuple vs)) := rfl
  rw [hres, Array.mapM_eq_mapM_toList]
  refine ⟨if h : vs.toArray.size = 1 then vs.toArray[0] else .tuple vs.toArray, by simp [h], ?_⟩
  by_cases h1 : vs.length = 1
  · match vs, h1, hrep with
    | [v], _, hrep =>
      match l, hrep with
      | [d], hrep => simpa [tupD] using hrep.rep 0 v d rfl rfl
      | [], hrep => have := hrep.len; simp at this
      | _ :: _ :: _, hrep => have := hrep.len; simp at this
  · have hsz : ¬ vs.toArray.size = 1 := by simpa using h1
    rw [dif_neg hsz]
    have hl : tupD l = .tup l := by
      match l, hrep with
      | [], _ => rfl
      | [d], hrep => have := hrep.len; simp at this; exact absurd this h1
      | _ :: _ :: _, _ => rfl
    rw [hl]
    exact .tup vs l hrep.len hrep.rep
theorem acalls_of_body {f : FuncId} {fn : Func} {x : Code} {cfg : Cfg} {args : List D} {Q : D → AHeap → Prop} (hm : P.follows .mixedOrders = true) (hf : P.funcs[f]? = some fn) (hb : fn.body = some x)
    (hnm : (fn.name == "runtime.NumGoroutine") = false) (hlen : args.length ≤ fn.ntmps) (hok : codeOK cfg fn.ntmps x = true)
    (h : AWp P cfg x (retQ P fn.results.toList Q) (envP args) H) : ACalls P f args H Q := by
  refine ⟨⟨fn, hf, hnm, by simp [hb]⟩, fun M0 σ w vals hR ha => calls_of_wp hf hb ?_⟩
  have hS : St fn.ntmps M0 H σ w (envP args) { tmps := vals.toArray ++ Array.replicate (fn.ntmps - vals.toArray.size) undef, defers := [] } := by
    refine ⟨hR, fun t => ?_, rfl, by simp [ha.len]; omega⟩
    simp only [envP]
    by_cases ht : t < vals.length
    · have h1 : vals[t]? = some vals[t] := lge ht
      have h2 : args[t]? = some (args[t]'(by rw [← ha.len]; exact ht)) := lge _
      have := ha.rep t _ _ h1 h2
      rw [List.getD_eq_getElem?_getD, h2]
      simp only [Option.getD_some, Array.getD_eq_getD_getElem?]
      rw [Array.getElem?_append_left (by simpa using ht)]
      simpa [h1] using this
    · rw [List.getD_eq_getElem?_getD, List.getElem?_eq_none (by rw [← ha.len]; omega)]
      exact .junk _
  refine Code.wp_weak (awp_sound hm x _ _ H h hok σ w _ hS) fun ex a' w' hc => ?_
  obtain ⟨e', H', σ', hq, hS', hst, hk⟩ := hc
  have fin : aRes P fn.results.toList e' H' (fun l => Q (tupD l) H') → a'.defers = [] ∧ ∃ v, (results fn a'.tmps).run P w' = .ok v w' ∧
      ∃ v2 d H2 σ2, Ending.returned v = .returned v2 ∧ Rel M0 H2 σ2 w' ∧ RepV (Mut M0 H2 σ2) σ2 H2.al w' v2 d ∧ Stp σ w σ2 w' ∧ Keeps (Mut M0 H σ) σ H.al w (Mut M0 H2 σ2) σ2 H2.al w' ∧ Q d H2 := by
    intro hq
    obtain ⟨vs, l, h1, h2, h3⟩ := aRes_sound hS' _ _ hq
    obtain ⟨v, hv1, hv2⟩ := results_run (fn := fn) h1 h2
    exact ⟨hS'.defers, v, hv1, v, _, H', σ', rfl, hS'.rel, hv2, hst, hk, h3⟩
  cases ex <;> first | exact fin hq | exact hq.elim
end
/-! ### pure contracts -/
theorem D.clL_of {l : List D} (h : ∀ d ∈ l, d.cl = true) : D.clL l = true := by
  induction l with
  | nil => rfl
  | cons a l ih => simp [D.clL, h a (by simp), ih fun d hd => h d (by simp [hd])]
def noRef : Nat → Option Ow := fun _ => none
def noId : Nat → Prop := fun _ => False
def Pure (P : Program) (f : FuncId) (args : List D) (r : D) : Prop :=
  Ent P f ∧ ∀ (M : Nat → Prop) (w : World) (vals : List Value), (∀ b, M b → b < w.heap.size) → RepL M noRef noId w vals args →
    Calls P f vals.toArray w fun e w' => ∃ v, e = .returned v ∧ RepV M noRef noId w' v r ∧ RowKit.Below w.heap.size w w'
def Own (P : Program) (f : FuncId) (args : List D) (ty : TypeId) (sz : Nat) (es : List (List D)) : Prop :=
  Ent P f ∧ ∀ (M : Nat → Prop) (w : World) (vals : List Value), (∀ b, M b → b < w.heap.size) → RepL M noRef noId w vals args →
    Calls P f vals.toArray w fun e w' => ∃ v xs, e = .returned v ∧ w'.ownsRow w.heap.size ty sz v es.length xs ∧ (∀ u ∈ xs, u.oneCell' = true) ∧ RepL (fun b => M b ∨ v.ownBlock = some b) noRef noId w' xs es.flatten ∧ D.clLL es = true ∧ (∀ c ∈ es, c.length = sz) ∧
      RowKit.Below w.heap.size w w'
def rsvT (H : AHeap) : D → D
  | .tup vs => .tup (vs.map (rsvD H))
  | d => rsvD H d
def ownT : D → List Nat
  | .tup vs => vs.flatMap ownIds
  | d => ownIds d
section
variable {P : Program} {M0 : Nat → Prop} {H : AHeap} {σ : Nat → Option Ow} {w : World}
theorem rsvT_frozen {v : Value} {d : D} (hR : Rel M0 H σ w) (hx : RepV (Mut M0 H σ) σ H.al w v d) (ids : List Nat) (hi : ∀ i ∈ ownT d, i ∈ ids) :
    RepV (Mut M0 (frzs ids H) σ) σ (frzs ids H).al w v (rsvT H d) := by
  cases d with
  | tup vs =>
    cases hx
    rename_i xs hl hr
    refine .tup xs _ (by simpa using hl) fun j u x hu hx => ?_
    rw [List.getElem?_map, Option.map_eq_some_iff] at hx
    obtain ⟨y, hy, rfl⟩ := hx
    exact rsvD_frozen hR (hr j u y hu hy) ids fun i hii => hi i (by simp only [ownT, List.mem_flatMap]; exact ⟨y, List.mem_of_getElem? hy, hii⟩)
  | _ => exact rsvD_frozen hR hx ids hi
theorem mut_emp (M : Nat → Prop) : Mut M .emp noRef = M := by
  funext b
  exact propext ⟨fun h => h.elim (fun h => h) fun ⟨_, _, _, h, _⟩ => by simp [AHeap.emp] at h, .inl⟩
theorem rel_emp (M : Nat → Prop) (w : World) (hM : ∀ b, M b → b < w.heap.size) : Rel M .emp noRef w :=
  ⟨fun _ _ => ⟨rfl, rfl⟩, fun _ h => h.elim, fun _ _ h => by simp [AHeap.emp] at h, fun _ _ _ _ _ h => by simp [noRef] at h, fun _ _ _ h => by simp [noRef] at h, hM⟩
theorem stp_below {σ' : Nat → Option Ow} {w' : World} (h : Stp noRef w σ' w') : RowKit.Below w.heap.size w w' :=
  ⟨h.os, h.tape, h.output, h.size, fun b hb => h.old b hb fun _ _ h => by simp [noRef] at h⟩
theorem pure_of_calls {f : FuncId} {args : List D} {r : D} (h : ACalls P f args .emp fun d H' => rsvT H' d = r ∧ r.cl = true) : Pure P f args r := by
  refine ⟨h.1, fun M w vals hM ha => (h.2 M noRef w vals (rel_emp M w hM) (by rw [mut_emp]; exact ha)).mono fun e w' ⟨v, d, H', σ', he, hR, hv, hst, hk, hr, hcl⟩ => ⟨v, he, ?_, stp_below hst⟩⟩
  have h1 := rsvT_frozen hR hv (ownT d) fun i hi => hi
  rw [hr] at h1
  exact h1.closed (fun ad u hm hc => ⟨fun h => hm (.inl h), hc⟩) hcl
theorem own_of_calls {f : FuncId} {args : List D} {ty : TypeId} {sz : Nat} {es : List (List D)}
    (h : ACalls P f args .emp fun d H' => ∃ id k, d = .own id es.length ∧ H'.get id = some k ∧ k.es = es ∧ k.ty = ty ∧ k.sz = sz ∧ k.fz = false ∧ D.clLL es = true) : Own P f args ty sz es := by
  refine ⟨h.1, fun M w vals hM ha => (h.2 M noRef w vals (rel_emp M w hM) (by rw [mut_emp]; exact ha)).mono fun e w' ⟨v, d, H', σ', he, hR, hv, hst, hk, id, k, hd, hget, h1, h2, h3, hfz, hcl⟩ => ?_⟩
  subst hd; subst h1; subst h2; subst h3
  obtain ⟨o, ho, l⟩ := hR.lies id k hget
  obtain ⟨xs, hrow, hx1, hrep⟩ := l.row
  cases hv
  rename_i _ _ hval
  rcases hval o ho with hlt | ⟨_, rfl⟩
  · have := l.ver; omega
  · refine ⟨o.val, xs, he, ?_, hx1, ⟨hrep.len, fun j u d hu hd => (hrep.rep j u d hu hd).closed (fun ad u hm hc => ⟨fun h => hm (h.elim .inl fun h => .inr ⟨id, k, o, hget, hfz, ho, h⟩), hc⟩) ?_⟩, hcl, fun c hc => (l.esz c hc).trans l.sz, stp_below hst⟩
    · rw [← l.sz]
      refine ⟨hrow.1, ?_⟩
      rcases hrow.2 with hn | ⟨g, cap, cur, h1, _, h3⟩
      · exact .inl hn
      · refine .inr ⟨g, cap, cur, h1, ?_, h3⟩
        rcases hst.new id o g ho (by simp [Ow.block, h1, Value.ownBlock]) with h | ⟨o', h, _⟩
        · exact h
        · simp [noRef] at h
    · obtain ⟨c, hcm, hxm⟩ := List.mem_flatten.1 (List.mem_of_getElem? hd)
      exact D.clL_mem (D.clLL_mem hcl c hcm) d hxm
theorem keeps_noRef {M : Nat → Prop} {N : Nat → Prop} : Keeps M noRef noId w M σ N w := ⟨fun _ _ h k => ⟨h, k⟩, fun _ _ h => h.elim, fun _ h => h.elim⟩
theorem repL_closed {M M' : Nat → Prop} {N N' : Nat → Prop} {σ' : Nat → Option Ow} (hM : ∀ b, ¬ M b → ¬ M' b) {vs : List Value} {ds : List D} (h : RepL M σ N w vs ds) (hc : D.clL ds = true) : RepL M' σ' N' w vs ds :=
  ⟨h.len, fun j u d hu hd => (h.rep j u d hu hd).closed (fun ad u hm hc => ⟨hM _ hm, hc⟩) (D.clL_mem hc d (List.mem_of_getElem? hd))⟩
theorem mut_lt (hR : Rel M0 H σ w) : ∀ b, Mut M0 H σ b → b < w.heap.size := by
  rintro b (h | ⟨i, k, o, _, _, ho, hb⟩)
  · exact hR.m0 b h
  · exact (hR.lt i o b ho hb).1
theorem ACalls.pure0 {f : FuncId} {args : List D} {r : D} {Q : D → AHeap → Prop} (hp : Pure P f args r) (hcl : D.clL args = true) (hQ : Q r H) : ACalls P f args H Q := by
  refine ⟨hp.1, fun M0 σ w vals hR ha => (hp.2 (Mut M0 H σ) w vals (mut_lt hR) (repL_closed (fun _ h => h) ha hcl)).mono fun e w' ⟨v, he, hv, hb⟩ => ?_⟩
  obtain ⟨h1, h2, h3⟩ := hR.grow hb.os hb.tape hb.output hb.size hb.block
  exact ⟨v, r, H, σ, he, h1, hv.keep keeps_noRef, h2, h3, hQ⟩
theorem repL_rsv {M0 : Nat → Prop} (hR : Rel M0 H σ w) {vals : List Value} {args : List D} (ha : RepL (Mut M0 H σ) σ H.al w vals args) (ids : List Nat) (hi : ∀ i ∈ args.flatMap ownIds, i ∈ ids) :
    RepL (Mut M0 (frzs ids H) σ) σ (frzs ids H).al w vals (args.map (rsvD H)) :=
  ⟨by simpa using ha.len, fun j u d hu hd => by
    rw [List.getElem?_map, Option.map_eq_some_iff] at hd
    obtain ⟨y, hy, rfl⟩ := hd
    exact rsvD_frozen hR (ha.rep j u y hu hy) ids fun i hii => hi i (List.mem_flatMap.2 ⟨y, List.mem_of_getElem? hy, hii⟩)⟩
def D.flat1 : D → Bool
  | .int .. | .bool _ | .str _ | .nil | .nilp | .nilf => true
  | _ => false
def D.flat : D → Bool
  | .tup vs => vs.all D.flat1
  | d => d.flat1
theorem flat1_rep {M M' : Nat → Prop} {N N' : Nat → Prop} {σ σ' : Nat → Option Ow} {w w' : World} {v : Value} {d : D} (h : RepV M σ N w v d) (hf : d.flat1 = true) : RepV M' σ' N' w' v d := by
  cases h <;> first | (simp [D.flat1] at hf; done) | constructor
theorem flat_rep {M M' : Nat → Prop} {N N' : Nat → Prop} {σ σ' : Nat → Option Ow} {w w' : World} {v : Value} {d : D} (h : RepV M σ N w v d) (hf : d.flat = true) : RepV M' σ' N' w' v d := by
  cases d with
  | tup vs =>
    cases h
    rename_i xs hl hr
    simp only [D.flat, List.all_eq_true] at hf
    exact .tup xs vs hl fun j u x hu hx => flat1_rep (hr j u x hu hx) (hf x (List.mem_of_getElem? hx))
  | _ => exact flat1_rep h hf
theorem ACalls.pureF {f : FuncId} {args : List D} {r : D} {Q : D → AHeap → Prop} (hp : Pure P f (args.map (rsvD H)) r) (hcl : D.clL (args.map (rsvD H)) = true) (hf : r.flat = true) (hQ : Q r H) : ACalls P f args H Q := by
  refine ⟨hp.1, fun M0 σ w vals hR ha => ?_⟩
  obtain ⟨f1, f2, f3, f4⟩ := frzs_sound (args.flatMap ownIds) hR
  refine (hp.2 (Mut M0 (frzs (args.flatMap ownIds) H) σ) w vals (mut_lt f1) (repL_closed (fun _ h => h) (repL_rsv hR ha _ fun i h => h) hcl)).mono fun e w' ⟨v, he, hv, hb⟩ => ?_
  obtain ⟨h1, h2, h3⟩ := hR.grow hb.os hb.tape hb.output hb.size hb.block
  exact ⟨v, r, H, σ, he, h1, flat_rep hv hf, h2, h3, hQ⟩
theorem ACalls.pureZ {f : FuncId} {args : List D} {r : D} {Q : D → AHeap → Prop} (hp : Pure P f (args.map (rsvD H)) r) (hcl : D.clL (args.map (rsvD H)) = true) (hQ : Q r (frzs (args.flatMap ownIds) H)) : ACalls P f args H Q := by
  refine ⟨hp.1, fun M0 σ w vals hR ha => ?_⟩
  obtain ⟨f1, f2, f3, f4⟩ := frzs_sound (args.flatMap ownIds) hR
  refine (hp.2 (Mut M0 (frzs (args.flatMap ownIds) H) σ) w vals (mut_lt f1) (repL_closed (fun _ h => h) (repL_rsv hR ha _ fun i h => h) hcl)).mono fun e w' ⟨v, he, hv, hb⟩ => ?_
  obtain ⟨h1, h2, h3⟩ := f1.grow hb.os hb.tape hb.output hb.size hb.block
  exact ⟨v, r, _, σ, he, h1, hv.keep keeps_noRef, h2, f2.trans h3, hQ⟩
theorem ACalls.own0 {f : FuncId} {args : List D} {ty : TypeId} {sz : Nat} {es : List (List D)} {Q : D → AHeap → Prop} (hp : Own P f args ty sz es) (hcl : D.clL args = true)
    (hQ : Q (.own H.next es.length) (H.push H.next ⟨ty, sz, es, false⟩)) : ACalls P f args H Q := by
  refine ⟨hp.1, fun M0 σ w vals hR ha => (hp.2 (Mut M0 H σ) w vals (mut_lt hR) (repL_closed (fun _ h => h) ha hcl)).mono fun e w' ⟨v, xs, he, hrow, h1, hrep, hcll, hsz, hb⟩ => ?_⟩
  have hrow0 : w'.ownsRow 0 ty sz v es.length xs := ⟨hrow.1, hrow.2.imp (fun x => x) fun ⟨g, cap, cur, a, b, c⟩ => ⟨g, cap, cur, a, Nat.zero_le _, c⟩⟩
  have hbk : ∀ b, v.ownBlock = some b → w.heap.size ≤ b := fun b hb' => by
    rcases hrow.2 with hn | ⟨g, cap, cur, h1, h2, h3⟩
    · rw [hn.1] at hb'; simp [Value.ownBlock] at hb'
    · rw [h1] at hb'; simp only [Value.ownBlock, Option.some.injEq] at hb'; omega
  have hG : ∀ ad, ¬ (Mut M0 H σ ad ∨ v.ownBlock = some ad) → ¬ Mut M0 (H.push H.next ⟨ty, sz, es, false⟩) (fun i => if i = H.next then some ⟨es.length, v, sz, ty⟩ else σ i) ad := by
    intro ad hm h
    rcases h with h | ⟨i, k', o', hk', hf, ho', hb'⟩
    · exact hm (.inl (.inl h))
    · by_cases hii : i = H.next
      · simp only [hii, if_true, Option.some.injEq] at ho'
        subst ho'
        exact hm (.inr hb')
      · simp only [hii, if_false] at ho'
        simp only [AHeap.push, hii, if_false] at hk'
        exact hm (.inl (.inr ⟨i, k', o', hk', hf, ho', hb'⟩))
  have hclF : D.clL es.flatten = true := D.clL_of fun d hd => by
    obtain ⟨c, hcm, hxm⟩ := List.mem_flatten.1 hd
    exact D.clL_mem (D.clLL_mem hcll c hcm) d hxm
  obtain ⟨p1, p2, p3⟩ := Rel.pushG hR H.next (fun h => Nat.lt_irrefl _ (hR.nxt _ h)) (w' := w') hb.os hb.tape hb.output hb.size hb.block ⟨ty, sz, es, false⟩ ⟨es.length, v, sz, ty⟩
    hbk rfl rfl rfl hsz xs hrow0 h1 (fun hk => repL_closed hG hrep hclF)
  exact ⟨v, _, _, _, he, p1, .own v _ _ (.inl rfl) (by rcases hrow.2 with ⟨hn, _⟩ | ⟨g, cap, cur, hn, _⟩ <;> simp [hn, Value.oneCell']) (fun o ho => by simp at ho; subst ho; exact .inr ⟨rfl, rfl⟩), p2, p3, hQ⟩
end
end Go.Abs
end
