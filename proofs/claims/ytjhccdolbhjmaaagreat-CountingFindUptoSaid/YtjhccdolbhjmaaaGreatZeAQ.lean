/- weight.Find. · counting.effects. · (*counting.finder).try. · Layer 41, the reference: small functions. · Layer 41, the reference: what the rest touches and lowers. · Layer 41: stages, comparing and copying them; ref41.Rank. -/
import Derived.Test.YtjhccdolbhjmaaaGreatZeAP
import Derived.Test.YtjhccdolbhjmaaaGreatZeAA
section
set_option linter.unusedVariables false
set_option linter.unusedSimpArgs false
set_option maxRecDepth 8000
open Go Go.Proofs
namespace Go.Abs
theorem weight_least {xs : List (List Int)} {tch : List Int} {nn : Nat} (hX : FX xs tch nn) (G : AHeap) (o : List Int) (hG : FI xs tch nn G o) (hn : G.next = 4) (Q : D → AHeap → Prop)
    (hQ : ∀ d b w' o' H', LI xs tch nn H' w' o' → Q (.tup [d, .bool b]) H') : ACalls Tryz.prog 114 [dI tch.length, testV] G Q := by
  have hfew := hX.few
  refine (acalls_of_body (cfg := ⟨fun t => t == 6 || t == 7, fun _ => []⟩) Tz.mixed Tryz.func114 rfl rfl (Nat.le_of_ble_eq_true rfl) (by kernel_rfl) ?_)
  try simp [go_sem, seval, hn, testV]
  repeat (first | intro _ | (refine ⟨obl, ?_⟩))
  obtain ⟨I0, hI0⟩ : ∃ I0 : Nat → Env → AHeap → Prop, ∀ (s : Nat) (e : Env) (H : AHeap), I0 s e H ↔ (∃ w1 : List Int, ∃ o1 : List Int, (e 2 = .adr [dI tch.length]) ∧ (e 6 = .ptr 5 1 0 0) ∧ (e 7 = .ptr 6 1 0 0) ∧ (e 14 = dI (6 * (tch.length : Int) + 1)) ∧ (e 15 = dI s) ∧ (s ≤ 37) ∧ (LI xs tch nn H w1 o1)) := ⟨fun s e H => _, fun _ _ _ => Iff.rfl⟩
  refine loopK I0 (fun s => 100 - s) (0) ((hI0 _ _ _).2 ⟨(List.replicate tch.length 0), (o), ?_, ?_, ?_, ?_, ?_, (by omega), (by exact ⟨hG.of (fun j hj => by simp [go_sem, hn, testV, show j ≠ 4 by omega, show j ≠ 5 by omega, show j ≠ 6 by omega]), by simp [go_sem, hn, testV], by simp [go_sem, hn, testV], by simp [go_sem, hn, testV, fillV, testV], by simp, by simp⟩)⟩) ?_
  iterate 5 (first | omega | (simp [go_sem, seval, hn, testV] <;> omega))
  intro s e H hi0
  obtain ⟨w1, o1, q2_0, q6_0, q7_0, q14_0, q15_0, hs, hI1⟩ := (hI0 _ _ _).1 hi0
  have F0 := And.intro q2_0 (And.intro q6_0 (And.intro q7_0 (And.intro q14_0 q15_0)))
  try simp [go_sem, seval, hn, testV, F0, hI1.b5, hI1.b6, fillV, testV]
  refine condQ_mk (fun h5 => ?_) (fun h5 => ?_)
  · try simp [go_sem] at h5
    try simp [go_sem, seval, hn, testV, F0, hI1.b5, hI1.b6, fillV, testV, h5]
    unfold callQ; refine weight_least1 hX tch.length 0 s w1 o1 _ _ (by omega) (by omega) (by omega) (by omega) hI1 (fun b w2 o2 H2 hI2 hn2 => ?_)
    try simp [go_sem, seval, hn, testV, F0, hI1.b5, hI1.b6, fillV, testV, h5]
    refine condQ_mk (fun h7 => ?_) (fun h7 => ?_)
    · try simp [go_sem] at h7
      have hb5 := hI2.b5
      try simp [go_sem, seval, hn, testV, F0, hI1.b5, hI1.b6, fillV, testV, h5, hb5]
      exact hQ _ _ w2 o2 H2 hI2
    · try simp [go_sem] at h7
      try simp [go_sem, seval, hn, testV, F0, hI1.b5, hI1.b6, fillV, testV, h5]
      repeat (first | intro _ | (refine ⟨obl, ?_⟩))
      refine nextQ_mk (s + 1) (by omega) ((hI0 _ _ _).2 ⟨(w2), (o2), ?_, ?_, ?_, ?_, ?_, (by omega), (by exact hI2)⟩) <;> first | omega | (simp [go_sem, seval, hn, testV, F0, hI1.b5, hI1.b6, fillV, testV, h5] <;> omega)
  · try simp [go_sem] at h5
    try simp [go_sem, seval, hn, testV, F0, hI1.b5, hI1.b6, fillV, testV]
    exact hQ _ _ w1 o1 H hI1
theorem listE_all {α : Type} {f : α → Int} : ∀ {l : List α}, listE f l = 0 → ∀ x ∈ l, f x = 0 := by
  intro l
  induction l with
  | nil => intro _ x hx; cases hx
  | cons a l ih =>
    intro h x hx
    simp only [listE] at h
    split at h
    · rename_i h4; exact absurd h h4
    · rename_i h4
      rcases List.mem_cons.1 hx with rfl | hx
      · omega
      · exact ih h x hx
theorem effsE_of {t : Types} {rs : List Rule} (h : effsE t rs = 0) : (validF t).2 = 0 ∧ rs.length ≤ 6 ∧ listE (effE t) rs = 0 ∧ (∀ r ∈ rs, effE t r = 0) ∧ (touchL (t.nodes.length + t.edges.length) (rs.map (effV t))).length ≤ 6 := by
  unfold effsE at h
  split at h
  · rename_i h1; exact absurd h h1
  · split at h
    · cases h
    · split at h
      · rename_i h1; exact absurd h h1
      · split at h
        · cases h
        · rename_i h1 h2 h3 h4
          exact ⟨by omega, by omega, by omega, listE_all (by omega), by omega⟩
theorem touchL_mem {n : Nat} {ls : List (List Int)} : ∀ v ∈ touchL n ls, 0 ≤ v ∧ v < n := fun v hv => by
  unfold touchL at hv
  rw [List.mem_map] at hv
  obtain ⟨k, hk, rfl⟩ := hv
  have := List.mem_range.1 (List.mem_filter.1 hk).1
  omega
theorem FX_of {t : Types} {rs : List Rule} (h : effsE t rs = 0) : FX (effsV t rs) (effsT t rs) (t.nodes.length + t.edges.length) := by
  obtain ⟨h1, h2, h3, h4, h5⟩ := effsE_of h
  have hv := valid_of h1
  have hN := hv.fewN
  have hE := hv.fewE
  have e1 : effsV t rs = rs.map (effV t) := if_pos h
  have e2 : effsT t rs = touchL (t.nodes.length + t.edges.length) (rs.map (effV t)) := if_pos h
  refine ⟨fun l hl => ?_, fun l hl => ?_, fun v hv => ?_, by rw [e2]; exact h5, by omega⟩
  · rw [e1, List.mem_map] at hl
    obtain ⟨r, hr, rfl⟩ := hl
    exact effV_len (h4 r hr)
  · rw [e1, List.mem_map] at hl
    obtain ⟨r, hr, rfl⟩ := hl
    exact effV_bound
  · rw [e2] at hv; exact touchL_mem v hv
theorem weight_FindC (t : Types) (ht : t.ok) (rs : List Rule) (hr : ∀ r ∈ rs, r.ok) (Q : D → AHeap → Prop)
    (hQ : ∀ d e H', (e = effsE t rs ∨ effsE t rs = 0 ∧ e = 10) → (rsvT H' (.tup [d, dI e])).cl = true → Q (.tup [d, dI e]) H') : ACalls Tryz.prog 70 [t.d, .list (rs.map Rule.c)] .emp Q := by
  refine (acalls_of_body (cfg := ⟨fun t => t == 6 || t == 7 || t == 9, fun _ => []⟩) Tz.mixed Tryz.func70 rfl rfl (Nat.le_of_ble_eq_true rfl) (by kernel_rfl) ?_)
  try simp [go_sem, seval]
  refine callQ_pure0 (weight_effects t ht rs hr) ((by first | rfl | (simp [go_sem, ← List.map_take, ← List.map_drop]; done))) ?_
  try simp [go_sem, seval]
  refine condQ_mk (fun h2 => ?_) (fun h2 => ?_)
  · try simp [go_sem] at h2
    try simp [go_sem, seval]
    exact hQ _ _ _ (.inl rfl) (by simp [go_sem])
  · try simp [go_sem] at h2
    have hX := FX_of h2
    have hv := valid_of (effsE_of h2).1
    have hN := hv.fewN
    have hE := hv.fewE
    have hz : ((t.nodes.length : Int) + t.edges.length).toNat = t.nodes.length + t.edges.length := by omega
    try simp [go_sem, seval, hz]
    repeat (first | intro _ | (refine ⟨obl, ?_⟩))
    unfold callQ; refine weight_least hX _ (List.replicate (t.nodes.length + t.edges.length) 0) ⟨by simp [go_sem, hz], by simp [go_sem, hz], by simp [go_sem, hz], by simp [go_sem, hz], by simp, by simp⟩ (by simp [go_sem]) _ (fun d b w2 o2 H2 hI2 => ?_)
    try simp [go_sem, seval, hz]
    repeat (first | intro _ | (refine ⟨obl, ?_⟩))
    refine condQ_mk (fun h6 => ?_) (fun h6 => ?_)
    · try simp [go_sem] at h6
      try simp [go_sem, seval, hz]
      exact hQ _ _ _ (.inr ⟨h2, rfl⟩) (by simp [go_sem])
    · try simp [go_sem] at h6
      have hb2 := hI2.fi.b2
      have hb3 := hI2.fi.b3
      have hln := hI2.fi.len
      try simp [go_sem, seval, hz, hb2, hb3, hln]
      exact hQ _ _ _ (.inl h2.symm) (by simp [go_sem, hz, hb2, hb3, hln])
theorem weight_Find (t : Types) (ht : t.ok) (rs : List Rule) (hr : ∀ r ∈ rs, r.ok) : PureE Tryz.prog 70 [t.d, .list (rs.map Rule.c)] (fun r => ∃ v e, r = .tup [v, dI e] ∧ (e = effsE t rs ∨ effsE t rs = 0 ∧ e = 10)) :=
  pureE_of_calls (weight_FindC t ht rs hr _ fun d e H' h hc => ⟨⟨rsvD H' d, e, rfl, h⟩, hc⟩)
end Go.Abs
end
section
set_option linter.unusedVariables false
set_option linter.unusedSimpArgs false
set_option maxRecDepth 8000
open Go Go.Proofs
namespace Go.Abs
theorem firstE_le {f : Nat → Int} (h : ∀ k, f k ≤ 7) : ∀ n k, firstE f k n ≤ 7
  | 0, k => by simp [firstE]
  | n + 1, k => by simp only [firstE]; split; exact h k; exact firstE_le h n _
theorem namesE_le : ∀ (r l : List ByteArray), namesE l r ≤ 7
  | [], l => by simp [namesE]
  | s :: r, l => by
    simp only [namesE]; split
    · omega
    · split
      · omega
      · exact namesE_le r _
theorem attributeF_le (x : Attr) (b : List Attr) : attributeF x b ≤ 7 := by
  have h : namesF x.names ≤ 7 := by
    unfold namesF; split
    · omega
    · exact namesE_le _ _
  unfold attributeF
  split
  · omega
  · split
    · omega
    · split
      · exact h
      · split <;> omega
theorem nodeF_le (t : Types) (i : Nat) : nodeF t i ≤ 7 := by
  unfold nodeF
  split
  · omega
  · split
    · omega
    · split
      · omega
      · split
        · omega
        · split
          · omega
          · split
            · omega
            · refine firstE_le (fun k => ?_) _ _
              split
              · exact attributeF_le _ _
              · omega
theorem edgeF_le (t : Types) (i : Nat) : edgeF t i ≤ 7 := by
  unfold edgeF
  split
  · omega
  · split
    · omega
    · split
      · omega
      · split <;> omega
theorem firstNE_le {f : Nat → Int} (h : ∀ k, f k ≤ 7) {nm : Nat → ByteArray} {last : ByteArray × Int} (hl : last.2 ≤ 7) : ∀ n k, (firstNE f nm last k n).2 ≤ 7
  | 0, k => by simpa [firstNE] using hl
  | n + 1, k => by simp only [firstNE]; split; exact h k; exact firstNE_le h hl n _
theorem validF_le (t : Types) : (validF t).2 ≤ 7 := by
  unfold validF
  split
  · decide
  · split
    · decide
    · exact firstNE_le (nodeF_le t) (firstNE_le (edgeF_le t) (by decide) _ _) _ _
theorem counting_effects (t : Types) (ht : t.ok) (rs : List Rule) (hr : ∀ r ∈ rs, r.ok) : Pure Tryz.prog 38 [t.d, .list (rs.map Rule.c)] (.tup [.list ((effsV t rs).map cL), dI (effsE t rs)]) := by
  have hvl := validF_le t
  have hE0 : effsE t rs = 10 → listE (effE t) rs = 10 ∧ rs.length ≤ 6 := by
    intro h
    unfold effsE at h
    split at h
    · omega
    · split at h
      · omega
      · split at h
        · exact ⟨h, by omega⟩
        · split at h <;> omega
  refine pureK (by first | rfl | (simp [go_sem]; done)) (fun Q hQ => (acalls_of_body (cfg := ⟨fun t => t == 8 || t == 10, fun _ => []⟩) Tz.mixed Tryz.func38 rfl rfl (Nat.le_of_ble_eq_true rfl) (by kernel_rfl) ?_))
  try simp [go_sem, seval]
  unfold callQ; refine ACalls.pureE (weight_Find t ht rs hr) (by simp [go_sem]) (fun r hR hrc => ?_); obtain ⟨v, e0, rfl, he0⟩ := hR
  try simp [go_sem, seval]
  repeat (first | intro _ | (refine ⟨obl, ?_⟩))
  refine condQ_mk (fun h2 => ?_) (fun h2 => ?_)
  · try simp [go_sem] at h2
    have hE : effsE t rs = e0 := by omega
    have hV : effsV t rs = [] := if_neg (by omega)
    try simp [go_sem, seval]
    exact hQ _ _ (by first | (left; (simp [go_sem, hE, hV]); done) | (right; (simp [go_sem, hE, hV]); done))
  · try simp [go_sem] at h2
    have hE1 : effsE t rs = 0 ∨ effsE t rs = 10 := by omega
    have hEq : effsE t rs = listE (effE t) rs := by
      rcases hE1 with h | h
      · rw [h, (effsE_of h).2.2.1]
      · rw [h, (hE0 h).1]
    have hlen : rs.length ≤ 6 := by
      rcases hE1 with h | h
      · exact (effsE_of h).2.1
      · exact (hE0 h).2
    try simp [go_sem, seval]
    repeat (first | intro _ | (refine ⟨obl, ?_⟩))
    obtain ⟨I0, hI0⟩ : ∃ I0 : Nat → Env → AHeap → Prop, ∀ (i : Nat) (e : Env) (H : AHeap), I0 i e H ↔ (∃ xs : List (List Int), (e 2 = .adr t.c) ∧ (e 1 = .list (rs.map Rule.c)) ∧ (e 8 = .own 0 xs.length) ∧ (e 26 = .list (rs.map Rule.c)) ∧ (e 27 = dI rs.length) ∧ (e 28 = dI i) ∧ (H.get 0 = some ⟨31, 1, xs.map cL, false⟩) ∧ (0 < H.next) ∧ (i ≤ rs.length) ∧ (xs = (rs.take i).map (effV t)) ∧ (listE (effE t) (rs.drop i) = listE (effE t) rs)) := ⟨fun i e H => _, fun _ _ _ => Iff.rfl⟩
    refine loopK I0 (fun i => rs.length - i) (0) ((hI0 _ _ _).2 ⟨([]), ?_, ?_, ?_, ?_, ?_, ?_, ?_, ?_, (by first | assumption | omega | (simp [go_sem]; done) | (simp_all; done)), (by rfl), (by rfl)⟩) ?_
    iterate 8 (first | omega | (simp [go_sem, seval] <;> omega))
    intro i e H hi0
    obtain ⟨xs, q2_0, q1_0, q8_0, q26_0, q27_0, q28_0, g0_0, n0_0, hi, hx, hL⟩ := (hI0 _ _ _).1 hi0
    have x0 := frs n0_0
    have F0 := And.intro q2_0 (And.intro q1_0 (And.intro q8_0 (And.intro q26_0 (And.intro q27_0 (And.intro q28_0 (And.intro g0_0 x0))))))
    try simp [go_sem, seval, F0]
    refine condQ_mk (fun h6 => ?_) (fun h6 => ?_)
    · try simp [go_sem] at h6
      have hst := hL
      rw [listE_step _ h6] at hst
      have hxl : xs.length = i := by rw [hx]; simp; omega
      try simp [go_sem, seval, F0, h6]
      repeat (first | intro _ | (refine ⟨obl, ?_⟩))
      refine callQ_pure0 (weight_Effect t ht rs[i] (hr _ (List.getElem_mem h6))) ((by first | rfl | (simp [go_sem, ← List.map_take, ← List.map_drop, F0, h6]; done))) ?_
      try simp [go_sem, seval, F0, h6]
      repeat (first | intro _ | (refine ⟨obl, ?_⟩))
      refine condQ_mk (fun h9 => ?_) (fun h9 => ?_)
      · try simp [go_sem] at h9
        rw [if_pos (by omega)] at hst
        have hV : effsV t rs = [] := if_neg (by omega)
        try simp [go_sem, seval, F0, h6]
        exact hQ _ _ (by first | (left; (simp [go_sem, hEq, hV, ← hst]); done) | (right; (simp [go_sem, hEq, hV, ← hst]); done))
      · try simp [go_sem] at h9
        rw [if_neg (by omega)] at hst
        try simp [go_sem, seval, F0, h6]
        repeat (first | intro _ | (refine ⟨obl, ?_⟩))
        refine nextQ_mk (i + 1) (by omega) ((hI0 _ _ _).2 ⟨(xs ++ [effV t rs[i]]), ?_, ?_, ?_, ?_, ?_, ?_, ?_, ?_, (by first | assumption | omega | (simp [go_sem, F0, h6, h2, h9]; done) | (simp_all; done) | (simp_all; omega)), (by (rw [map_take_succ _ h6, ← hx])), (by exact hst)⟩) <;> first | omega | (simp [go_sem, seval, F0, h6] <;> omega)
    · try simp [go_sem] at h6
      have hX : xs = rs.map (effV t) := by rw [hx, map_take_end _ (by omega)]
      have hL0 : listE (effE t) rs = 0 := by rw [← hL, listE_end _ (by omega)]
      have hV : effsV t rs = rs.map (effV t) := if_pos (by omega)
      try simp [go_sem, seval, F0]
      exact hQ _ _ (by first | (left; (simp [go_sem, F0, hEq, hL0, hV, ← hX]); done) | (right; (simp [go_sem, F0, hEq, hL0, hV, ← hX]); done))
end Go.Abs
end
section
set_option linter.unusedVariables false
set_option linter.unusedSimpArgs false
set_option maxRecDepth 8000
open Go Go.Proofs
namespace Go.Abs
theorem ACalls.ownF {P : Program} {H : AHeap} {f : FuncId} {args : List D} {ty : TypeId} {sz : Nat} {es : List (List D)} {Q : D → AHeap → Prop} (hp : Own P f (args.map (rsvD H)) ty sz es) (hcl : D.clL (args.map (rsvD H)) = true) (hf : ∀ d ∈ es.flatten, d.flat = true) (hQ : Q (.list es) H) : ACalls P f args H Q := by
  refine ⟨hp.1, fun M0 σ w vals hR ha => ?_⟩
  obtain ⟨f1, f2, f3, f4⟩ := frzs_sound (args.flatMap ownIds) hR
  refine (hp.2 (Mut M0 (frzs (args.flatMap ownIds) H) σ) w vals (mut_lt f1) (repL_closed (fun _ h => h) (repL_rsv hR ha _ fun i h => h) hcl)).mono fun e w' ⟨v, xs, he, hrow, h1, hrep, hcll, hsz, hb⟩ => ?_
  obtain ⟨g1, g2, g3⟩ := hR.grow hb.os hb.tape hb.output hb.size hb.block
  have hv : RepV (Mut M0 H σ) noRef noId w' v (.list es) := by
    rcases hrow.2 with ⟨hnil, h0⟩ | ⟨g, cap, cur, hval, hg, hcells, hnc, hcm, hsz', htake⟩
    · rw [hnil, List.eq_nil_of_length_eq_zero h0]; exact .listN
    · rw [hval]
      refine .list ⟨g, 0, none⟩ cap sz xs es hnc hcm hsz hrep.len h1 (fun j u hu => ⟨fun hm => ?_, hrow.cells (g := g) (by simp [hval, Value.ownBlock]) j u hu⟩) (fun j u d hu hd => flat_rep (hrep.rep j u d hu hd) (hf d (List.mem_of_getElem? hd)))
      have := mut_lt hR g hm
      omega
  exact ⟨v, .list es, H, σ, he, g1, hv.keep keeps_noRef, g2, g3, hQ⟩
theorem dcallQ_ownF {P : Program} {md : Nat → Bool} {ops : Array Oper} {sp : List (Nat × Nat)} {n0 i : Nat} {rest : List Oper} {acc : List (Nat × List Nat)} {e : Env} {dst : Option Tmp} {K : Env → AHeap → Prop} {f : FuncId} {args args' : List D} {H : AHeap} {ty : TypeId} {sz : Nat} {es : List (List D)}
    (hp : Own P f args' ty sz es) (ha : args.map (rsvD H) = args') (hcl : D.clL args' = true) (hf : ∀ d ∈ es.flatten, d.flat = true) {S : List Nat} (hS : args.flatMap ownIds = S) (hc : chk sp i S acc)
    (h : aDraw P md ops sp n0 (i + 1) rest ((i, S) :: acc) (upd e dst (.list es)) H K) : dcallQ P md ops sp n0 i rest acc e dst K f args H := by
  subst ha hS
  unfold dcallQ
  refine ⟨.list es, _, fun H' hag => ?_, hc, h⟩
  have he := args_agree hag fun x hx => hx
  exact ACalls.ownF (by rw [he]; exact hp) (by rw [he]; exact hcl) hf ⟨rfl, rfl⟩
structure Bst where
  w : List Int
  s : Int
  d : Int
def bestD (B : Bst) : D := if B.w = [] then .nil else .list (B.w.map cI)
theorem aEq_best (P : Program) (t : TypeId) (B : Bst) (H : AHeap) : aEq P t .eql (bestD B) .nil H = ⟨(sl P t).isSome = true, True, .bool (decide (B.w = [])), H⟩ := by
  unfold bestD
  by_cases h : B.w = []
  · simp [h, aEq]
  · simp [h, aEq]
theorem bestD_cons (w : List Int) (s d : Int) (h : w ≠ []) : bestD ⟨w, s, d⟩ = .list (w.map cI) := if_neg h
def posB (xs : List (List Int)) (w : List Int) : Bool := xs.any fun x => decide (0 < prodF w x)
def cntN (xs : List (List Int)) (w : List Int) : Int := (xs.map fun x => if prodF w x < 0 then (1 : Int) else 0).sum
def leafBst (xs : List (List Int)) (w : List Int) (s : Int) (B : Bst) : Bst :=
  if posB xs w = true then B
  else if (decide (B.w = []) || decide (B.d < cntN xs w) || (decide (cntN xs w = B.d) && decide (s < B.s))) = true then ⟨w, s, cntN xs w⟩ else B
def tryB (xs : List (List Int)) : List Int → List Int → Int → Bst → Bst
  | [], w, s, B => leafBst xs w s B
  | p :: ts, w, s, B => (List.range 7).foldl (fun B (v : Nat) => tryB xs ts (w.set p.toNat v) (s + v) B) B
theorem range_fold_succ {β : Type} (f : β → Nat → β) (b : β) (n : Nat) : (List.range (n + 1)).foldl f b = f ((List.range n).foldl f b) n := by
  rw [List.range_succ, List.foldl_append]; rfl
structure FS (f e c q : Nat) (xs : List (List Int)) (tch : List Int) (nn : Nat) (H : AHeap) (w : List Int) (s : Int) (B : Bst) : Prop where
  bf : H.get f = some ⟨169, 7, [[.own e xs.length, .own c tch.length, .own q nn, dI s, bestD B, dI B.s, dI B.d]], false⟩
  be : H.get e = some ⟨31, 1, xs.map cL, false⟩
  bc : H.get c = some ⟨3, 1, tch.map cI, false⟩
  bq : H.get q = some ⟨3, 1, w.map cI, false⟩
  len : w.length = nn
  dig : ∀ x ∈ w, 0 ≤ x ∧ x ≤ 6
theorem cntN_succ (xs : List (List Int)) (w : List Int) {i : Nat} (h : i < xs.length) : cntN (xs.take (i + 1)) w = cntN (xs.take i) w + (if prodF w xs[i] < 0 then 1 else 0) := sum_take_succ xs (fun x => if prodF w x < 0 then (1 : Int) else 0) h
theorem cntN_nil (w : List Int) : cntN [] w = 0 := rfl
theorem cntN_le (w : List Int) : ∀ xs : List (List Int), 0 ≤ cntN xs w ∧ cntN xs w ≤ xs.length
  | [] => by simp [cntN]
  | x :: xs => by
    have h := cntN_le w xs
    have e : cntN (x :: xs) w = (if prodF w x < 0 then (1 : Int) else 0) + cntN xs w := by simp [cntN]
    rw [e]; simp only [List.length_cons]; split <;> omega
theorem nodup_inj {α : Type} : ∀ {l : List α} {i j : Nat}, l.Nodup → ∀ (hi : i < l.length) (hj : j < l.length), l[i] = l[j] → i = j
  | [], i, j, _, hi, _, _ => absurd hi (by simp)
  | x :: l, 0, 0, _, _, _, _ => rfl
  | x :: l, 0, j + 1, h, _, hj, he => by
    simp only [List.getElem_cons_zero, List.getElem_cons_succ] at he
    exact absurd (he ▸ List.getElem_mem _) (List.nodup_cons.1 h).1
  | x :: l, i + 1, 0, h, hi, _, he => by
    simp only [List.getElem_cons_zero, List.getElem_cons_succ] at he
    exact absurd (he ▸ List.getElem_mem _) (List.nodup_cons.1 h).1
  | x :: l, i + 1, j + 1, h, hi, hj, he => by
    simp only [List.getElem_cons_succ] at he
    rw [nodup_inj (List.nodup_cons.1 h).2 _ _ he]
theorem set_zero {tch : List Int} {w : List Int} {a : Nat} (hnd : tch.Nodup) (ha : a < tch.length) (h0 : ∀ x ∈ tch, 0 ≤ x) (hz : ∀ j (h : j < tch.length), a ≤ j → w[tch[j].toNat]?.getD 0 = 0) (v : Int) : ∀ j (h : j < tch.length), a + 1 ≤ j → (w.set tch[a].toNat v)[tch[j].toNat]?.getD 0 = 0 := fun j hj hle => by
  have hne : tch[a].toNat ≠ tch[j].toNat := by
    intro h
    have h1 := h0 _ (List.getElem_mem ha)
    have h2 := h0 _ (List.getElem_mem hj)
    have h3 : tch[a] = tch[j] := by omega
    have := nodup_inj hnd ha hj h3
    omega
  rw [List.getElem?_set_ne hne]
  exact hz j hj (by omega)
theorem set_self {w : List Int} {p : Nat} (h : w[p]?.getD 0 = 0) : w.set p 0 = w := by
  apply List.ext_getElem?
  intro j
  rw [List.getElem?_set]
  by_cases hj : p = j
  · subst hj
    by_cases hp : p < w.length
    · rw [List.getElem?_eq_getElem hp] at h ⊢
      simp [hp] at h ⊢; omega
    · rw [List.getElem?_eq_none (by omega)]; simp [hp]
  · simp [hj]
theorem finder_try (f ee c q : Nat) (hd : f ≠ ee ∧ f ≠ c ∧ f ≠ q ∧ ee ≠ c ∧ ee ≠ q ∧ c ≠ q) (xs : List (List Int)) (tch : List Int) (nn : Nat) (hX : FX xs tch nn) (hx6 : xs.length ≤ 6) (hn0 : 0 < nn) (hnd : tch.Nodup) :
    ∀ (k : Nat) (a : Nat) (w : List Int) (s : Int) (B : Bst) (G : AHeap) (Q : D → AHeap → Prop), a + k = tch.length → 0 ≤ s → s ≤ 6 * a → (∀ j (h : j < tch.length), a ≤ j → w[tch[j].toNat]?.getD 0 = 0) → f < G.next → ee < G.next → c < G.next → q < G.next → FS f ee c q xs tch nn G w s B →
    (∀ H', FS f ee c q xs tch nn H' w s (tryB xs (tch.drop a) w s B) → (∀ j, j ≠ f → j ≠ q → j < G.next → H'.get j = G.get j) → G.next ≤ H'.next → Q (.tup []) H') → ACalls Tryz.prog 91 [.ptr f 1 0 0, dI a] G Q := by
  have hfew := hX.few
  have hnf := hX.nf
  obtain ⟨d1, d2, d3, d4, d5, d6⟩ := hd
  intro k
  induction k using Nat.strongRecOn with
  | _ k ih =>
  intro a w s B G Q hk hs0 hs1 hz hfN heN hcN hqN hF hQ
  obtain ⟨gf, ge, gc, gq, hln, hdg⟩ := hF
  have hbe : ∀ H : AHeap, aEq Tryz.prog 31 .eql (bestD B) .nil H = _ := fun H => aEq_best Tryz.prog 31 B H
  unfold aEq at hbe
  simp [go_sem] at hbe
  refine (acalls_of_body (cfg := ⟨fun _ => false, fun _ => []⟩) Tz.mixed Tryz.func91 rfl rfl (Nat.le_of_ble_eq_true rfl) (by kernel_rfl) ?_)
  try simp [go_sem, seval, gf, ge, gc, gq, hln, d1, d2, d3, d4, d5, d6, d1.symm, d2.symm, d3.symm, d4.symm, d5.symm, d6.symm, hbe, cntN_nil]
  repeat (first | intro _ | (refine ⟨obs, ?_⟩))
  refine condQ_mk (fun h0 => ?_) (fun h0 => ?_)
  · try simp [go_sem] at h0
    have ha : a < tch.length := by omega
    have hp := hX.tb _ (List.getElem_mem ha)
    have hdrop : tch.drop a = tch[a] :: tch.drop (a + 1) := List.drop_eq_getElem_cons ha
    try simp [go_sem, seval, gf, ge, gc, gq, hln, d1, d2, d3, d4, d5, d6, d1.symm, d2.symm, d3.symm, d4.symm, d5.symm, d6.symm, hbe, cntN_nil, List.getElem?_eq_getElem ha]
    obtain ⟨I0, hI0⟩ : ∃ I0 : Nat → Env → AHeap → Prop, ∀ (v : Nat) (e : Env) (H : AHeap), I0 v e H ↔ (∃ w1 : List Int, ∃ B1 : Bst, (e 0 = .ptr f 1 0 0) ∧ (e 1 = dI a) ∧ (e 16 = dI v) ∧ (v ≤ 7) ∧ (FS f ee c q xs tch nn H w1 s B1) ∧ (∀ x, w1.set tch[a].toNat x = w.set tch[a].toNat x) ∧ (B1 = (List.range v).foldl (fun B (u : Nat) => tryB xs (tch.drop (a + 1)) (w.set tch[a].toNat u) (s + u) B) B) ∧ (∀ j, j ≠ f → j ≠ q → j < G.next → H.get j = G.get j) ∧ (G.next ≤ H.next)) := ⟨fun v e H => _, fun _ _ _ => Iff.rfl⟩
    refine loopK I0 (fun v => 7 - v) (0) ((hI0 _ _ _).2 ⟨(w), (B), ?_, ?_, ?_, (by omega), (by exact ⟨gf, ge, gc, gq, hln, hdg⟩), (by (intro x; rfl)), (by rfl), (by (intro j _ _ _; rfl)), (by exact Nat.le_refl _)⟩) ?_
    iterate 3 (first | omega | (simp [go_sem, seval, gf, ge, gc, gq, hln, d1, d2, d3, d4, d5, d6, d1.symm, d2.symm, d3.symm, d4.symm, d5.symm, d6.symm, hbe, cntN_nil, List.getElem?_eq_getElem ha] <;> omega))
    intro v e H hi0
    obtain ⟨w1, B1, q0_0, q1_0, q16_0, hv7, hF1, hw1, hB, hfr, hnx⟩ := (hI0 _ _ _).1 hi0
    have F0 := And.intro q0_0 (And.intro q1_0 q16_0)
    try simp [go_sem, seval, gf, ge, gc, gq, hln, d1, d2, d3, d4, d5, d6, d1.symm, d2.symm, d3.symm, d4.symm, d5.symm, d6.symm, hbe, cntN_nil, List.getElem?_eq_getElem ha, F0, hF1.bf, hF1.be, hF1.bc, hF1.bq, hF1.len]
    refine condQ_mk (fun h2 => ?_) (fun h2 => ?_)
    · try simp [go_sem] at h2
      have hk1 : tch[a].toNat < w1.length := by have := hF1.len; omega
      have hset : (List.map cI w1).set tch[a].toNat [D.int .i64 (v : Int)] = (List.map cI w).set tch[a].toNat [D.int .i64 (v : Int)] := by
        have := congrArg (List.map cI) (hw1 (v : Int))
        simpa [List.map_set, cI, dI] using this
      try simp [go_sem, seval, gf, ge, gc, gq, hln, d1, d2, d3, d4, d5, d6, d1.symm, d2.symm, d3.symm, d4.symm, d5.symm, d6.symm, hbe, cntN_nil, List.getElem?_eq_getElem ha, F0, hF1.bf, hF1.be, hF1.bc, hF1.bq, hF1.len, h2, List.getElem?_eq_getElem hk1, hset]
      repeat (first | intro _ | (refine ⟨obs, ?_⟩))
      unfold callQ; refine ih (k - 1) (by omega) (a + 1) (w.set tch[a].toNat v) (s + v) B1 _ _ (by omega) (by omega) (by omega) (set_zero hnd ha (by have := hX.tb; exact fun x hx => (this x hx).1) hz _) (by simp [go_sem]; omega) (by simp [go_sem]; omega) (by simp [go_sem]; omega) (by simp [go_sem]; omega) ⟨by simp [go_sem, gf, ge, gc, gq, hln, d1, d2, d3, d4, d5, d6, d1.symm, d2.symm, d3.symm, d4.symm, d5.symm, d6.symm, hbe, cntN_nil, List.getElem?_eq_getElem ha, F0, hF1.bf, hF1.be, hF1.bc, hF1.bq, hF1.len, h2, List.getElem?_eq_getElem hk1, hset], by simp [go_sem, gf, ge, gc, gq, hln, d1, d2, d3, d4, d5, d6, d1.symm, d2.symm, d3.symm, d4.symm, d5.symm, d6.symm, hbe, cntN_nil, List.getElem?_eq_getElem ha, F0, hF1.bf, hF1.be, hF1.bc, hF1.bq, hF1.len, h2, List.getElem?_eq_getElem hk1, hset], by simp [go_sem, gf, ge, gc, gq, hln, d1, d2, d3, d4, d5, d6, d1.symm, d2.symm, d3.symm, d4.symm, d5.symm, d6.symm, hbe, cntN_nil, List.getElem?_eq_getElem ha, F0, hF1.bf, hF1.be, hF1.bc, hF1.bq, hF1.len, h2, List.getElem?_eq_getElem hk1, hset], by simp [go_sem, gf, ge, gc, gq, hln, d1, d2, d3, d4, d5, d6, d1.symm, d2.symm, d3.symm, d4.symm, d5.symm, d6.symm, hbe, cntN_nil, List.getElem?_eq_getElem ha, F0, hF1.bf, hF1.be, hF1.bc, hF1.bq, hF1.len, h2, List.getElem?_eq_getElem hk1, hset], by rw [List.length_set]; exact hln, mem_set_dig hdg _ (by omega)⟩ (fun H2 hF2 hf2 hn2 => ?_); have gf2 := hF2.bf; have ge2 := hF2.be; have gc2 := hF2.bc; have gq2 := hF2.bq; have gl2 := hF2.len; simp [go_sem] at hn2; have hfr2 : ∀ j, j ≠ f → j ≠ q → j < G.next → H2.get j = G.get j := fun j h1 h2 h3 => by rw [hf2 j h1 h2 (by simp [go_sem]; omega)]; simp [go_sem, h1, h2]; exact hfr j h1 h2 h3
      try simp [go_sem, seval, gf, ge, gc, gq, hln, d1, d2, d3, d4, d5, d6, d1.symm, d2.symm, d3.symm, d4.symm, d5.symm, d6.symm, hbe, cntN_nil, List.getElem?_eq_getElem ha, F0, hF1.bf, hF1.be, hF1.bc, hF1.bq, hF1.len, h2, List.getElem?_eq_getElem hk1, hset, gf2, ge2, gc2, gq2, gl2]
      repeat (first | intro _ | (refine ⟨obs, ?_⟩))
      refine nextQ_mk (v + 1) (by omega) ((hI0 _ _ _).2 ⟨(w.set tch[a].toNat v), (tryB xs (tch.drop (a + 1)) (w.set tch[a].toNat v) (s + v) B1), ?_, ?_, ?_, (by omega), (by (exact ⟨by simp [go_sem, gf2], by simp [go_sem, ge2, d1.symm], by simp [go_sem, gc2, d2.symm], by simp [go_sem, gq2, d3.symm], gl2, hF2.dig⟩)), (by (intro x; simp)), (by (rw [range_fold_succ, ← hB])), (by (intro j h1 h2 h3; simp [go_sem, h1, h2]; exact hfr2 j h1 h2 h3)), (by (simp [go_sem]; omega))⟩) <;> first | omega | (simp [go_sem, seval, gf, ge, gc, gq, hln, d1, d2, d3, d4, d5, d6, d1.symm, d2.symm, d3.symm, d4.symm, d5.symm, d6.symm, hbe, cntN_nil, List.getElem?_eq_getElem ha, F0, hF1.bf, hF1.be, hF1.bc, hF1.bq, hF1.len, h2, List.getElem?_eq_getElem hk1, hset, gf2, ge2, gc2, gq2, gl2] <;> omega)
    · try simp [go_sem] at h2
      have hk1 : tch[a].toNat < w1.length := by have := hF1.len; omega
      have hset : (List.map cI w1).set tch[a].toNat [D.int .i64 0] = List.map cI w := by
        have := congrArg (List.map cI) ((hw1 0).trans (set_self (hz a ha (Nat.le_refl _))))
        simpa [List.map_set, cI, dI] using this
      have hB7 : tryB xs (tch.drop a) w s B = B1 := by
        rw [hdrop, hB, show v = 7 by omega]; rfl
      try simp [go_sem, seval, gf, ge, gc, gq, hln, d1, d2, d3, d4, d5, d6, d1.symm, d2.symm, d3.symm, d4.symm, d5.symm, d6.symm, hbe, cntN_nil, List.getElem?_eq_getElem ha, F0, hF1.bf, hF1.be, hF1.bc, hF1.bq, hF1.len, List.getElem?_eq_getElem hk1, hset]
      repeat (first | intro _ | (refine ⟨obs, ?_⟩))
      exact hQ _ (by rw [hB7]; exact ⟨by simp [go_sem, gf, ge, gc, gq, hln, d1, d2, d3, d4, d5, d6, d1.symm, d2.symm, d3.symm, d4.symm, d5.symm, d6.symm, hbe, cntN_nil, List.getElem?_eq_getElem ha, F0, hF1.bf, hF1.be, hF1.bc, hF1.bq, hF1.len, List.getElem?_eq_getElem hk1, hset], by simp [go_sem, gf, ge, gc, gq, hln, d1, d2, d3, d4, d5, d6, d1.symm, d2.symm, d3.symm, d4.symm, d5.symm, d6.symm, hbe, cntN_nil, List.getElem?_eq_getElem ha, F0, hF1.bf, hF1.be, hF1.bc, hF1.bq, hF1.len, List.getElem?_eq_getElem hk1, hset], by simp [go_sem, gf, ge, gc, gq, hln, d1, d2, d3, d4, d5, d6, d1.symm, d2.symm, d3.symm, d4.symm, d5.symm, d6.symm, hbe, cntN_nil, List.getElem?_eq_getElem ha, F0, hF1.bf, hF1.be, hF1.bc, hF1.bq, hF1.len, List.getElem?_eq_getElem hk1, hset], by simp [go_sem, gf, ge, gc, gq, hln, d1, d2, d3, d4, d5, d6, d1.symm, d2.symm, d3.symm, d4.symm, d5.symm, d6.symm, hbe, cntN_nil, List.getElem?_eq_getElem ha, F0, hF1.bf, hF1.be, hF1.bc, hF1.bq, hF1.len, List.getElem?_eq_getElem hk1, hset], hln, hdg⟩) (by intro j h1 h2 h3; simp [go_sem, h1, h2]; exact hfr j h1 h2 h3) (by simp [go_sem]; omega)
  · try simp [go_sem] at h0
    have hwne : w ≠ [] := by intro h; rw [h] at hln; simp at hln; omega
    have hak : a = tch.length := by omega
    have hdrop : tch.drop a = [] := List.drop_eq_nil_of_le (by omega)
    try simp [go_sem, seval, gf, ge, gc, gq, hln, d1, d2, d3, d4, d5, d6, d1.symm, d2.symm, d3.symm, d4.symm, d5.symm, d6.symm, hbe, cntN_nil]
    repeat (first | intro _ | (refine ⟨obs, ?_⟩))
    obtain ⟨I2, hI2⟩ : ∃ I2 : Nat → Env → AHeap → Prop, ∀ (i : Nat) (e : Env) (H : AHeap), I2 i e H ↔ ((e 0 = .ptr f 1 0 0) ∧ (e 1 = dI a) ∧ (e 5 = dI (cntN (xs.take i) w)) ∧ (e 68 = .own ee xs.length) ∧ (e 69 = dI xs.length) ∧ (e 70 = dI i) ∧ (i ≤ xs.length) ∧ (posB (xs.take i) w = false) ∧ (H = G)) := ⟨fun i e H => _, fun _ _ _ => Iff.rfl⟩
    refine loopK I2 (fun i => xs.length - i) (0) ((hI2 _ _ _).2 ⟨?_, ?_, ?_, ?_, ?_, ?_, (by first | assumption | omega | (simp [go_sem, gf, ge, gc, gq, hln, d1, d2, d3, d4, d5, d6, d1.symm, d2.symm, d3.symm, d4.symm, d5.symm, d6.symm, hbe, cntN_nil]; done) | (simp_all; done)), (by rfl), (by rfl)⟩) ?_
    iterate 6 (first | omega | (simp [go_sem, seval, gf, ge, gc, gq, hln, d1, d2, d3, d4, d5, d6, d1.symm, d2.symm, d3.symm, d4.symm, d5.symm, d6.symm, hbe, cntN_nil] <;> omega))
    intro i e H hi2
    obtain ⟨q0_2, q1_2, q5_2, q68_2, q69_2, q70_2, hi, hp, hHG⟩ := (hI2 _ _ _).1 hi2
    have F2 := And.intro q0_2 (And.intro q1_2 (And.intro q68_2 (And.intro q69_2 q70_2)))
    try simp [go_sem, seval, gf, ge, gc, gq, hln, d1, d2, d3, d4, d5, d6, d1.symm, d2.symm, d3.symm, d4.symm, d5.symm, d6.symm, hbe, cntN_nil, F2, q5_2, hHG, cntN_nil]
    refine condQ_mk (fun h12 => ?_) (fun h12 => ?_)
    · try simp [go_sem] at h12
      have hst := cntN_succ xs w h12
      have hle := cntN_le w (xs.take i)
      rw [List.length_take] at hle
      try simp [go_sem, seval, gf, ge, gc, gq, hln, d1, d2, d3, d4, d5, d6, d1.symm, d2.symm, d3.symm, d4.symm, d5.symm, d6.symm, hbe, cntN_nil, F2, q5_2, hHG, cntN_nil, h12, hst]
      repeat (first | intro _ | (refine ⟨obs, ?_⟩))
      refine callQ_pureF ((counting_product w xs[i] ⟨by rw [hX.xl _ (List.getElem_mem h12)]; omega, by omega, fun x hx => by have := hdg x hx; omega, hX.xb _ (List.getElem_mem h12)⟩)) (by simp [rsvC, rsvP, cellsAt, go_sem, ← List.map_take, ← List.map_drop, gf, ge, gc, gq, hln, d1, d2, d3, d4, d5, d6, d1.symm, d2.symm, d3.symm, d4.symm, d5.symm, d6.symm, hbe, cntN_nil, F2, q5_2, hHG, cntN_nil, h12, hst]) ((by first | rfl | (simp [go_sem, ← List.map_take, ← List.map_drop, gf, ge, gc, gq, hln, d1, d2, d3, d4, d5, d6, d1.symm, d2.symm, d3.symm, d4.symm, d5.symm, d6.symm, hbe, cntN_nil, F2, q5_2, hHG, cntN_nil, h12, hst]; done))) ( rfl) ?_
      try simp [go_sem, seval, gf, ge, gc, gq, hln, d1, d2, d3, d4, d5, d6, d1.symm, d2.symm, d3.symm, d4.symm, d5.symm, d6.symm, hbe, cntN_nil, F2, q5_2, hHG, cntN_nil, h12, hst]
      repeat (first | intro _ | (refine ⟨obs, ?_⟩))
      refine condQ_mk (fun h15 => ?_) (fun h15 => ?_)
      · try simp [go_sem] at h15
        have hpos : posB xs w = true := List.any_eq_true.2 ⟨_, List.getElem_mem h12, by simp; omega⟩
        try simp [go_sem, seval, gf, ge, gc, gq, hln, d1, d2, d3, d4, d5, d6, d1.symm, d2.symm, d3.symm, d4.symm, d5.symm, d6.symm, hbe, cntN_nil, F2, q5_2, hHG, cntN_nil, h12, hst]
        exact hQ _ (by rw [hdrop]; unfold tryB leafBst; rw [if_pos hpos]; exact ⟨gf, ge, gc, gq, hln, hdg⟩) (by intro j _ _ _; rfl) (Nat.le_refl _)
      · try simp [go_sem] at h15
        try simp [go_sem, seval, gf, ge, gc, gq, hln, d1, d2, d3, d4, d5, d6, d1.symm, d2.symm, d3.symm, d4.symm, d5.symm, d6.symm, hbe, cntN_nil, F2, q5_2, hHG, cntN_nil, h12, hst]
        refine condQ_mk (fun h16 => ?_) (fun h16 => ?_)
        · try simp [go_sem] at h16
          rw [if_pos (by omega)] at hst
          try simp [go_sem, seval, gf, ge, gc, gq, hln, d1, d2, d3, d4, d5, d6, d1.symm, d2.symm, d3.symm, d4.symm, d5.symm, d6.symm, hbe, cntN_nil, F2, q5_2, hHG, cntN_nil, h12, hst]
          repeat (first | intro _ | (refine ⟨obs, ?_⟩))
          refine nextQ_mk (i + 1) (by omega) ((hI2 _ _ _).2 ⟨?_, ?_, ?_, ?_, ?_, ?_, (by first | assumption | omega | (simp [go_sem, gf, ge, gc, gq, hln, d1, d2, d3, d4, d5, d6, d1.symm, d2.symm, d3.symm, d4.symm, d5.symm, d6.symm, hbe, cntN_nil, F2, q5_2, hHG, cntN_nil, h12, hst, h0, h15, h16]; done) | (simp_all; done) | (simp_all; omega)), (by (unfold posB at hp ⊢; rw [any_take_succ _ _ _ h12, hp]; simp; omega)), (by (first | rfl | exact hHG))⟩) <;> first | omega | (simp [go_sem, seval, gf, ge, gc, gq, hln, d1, d2, d3, d4, d5, d6, d1.symm, d2.symm, d3.symm, d4.symm, d5.symm, d6.symm, hbe, cntN_nil, F2, q5_2, hHG, cntN_nil, h12, hst] <;> omega)
        · try simp [go_sem] at h16
          rw [if_neg (by omega)] at hst
          try simp [go_sem, seval, gf, ge, gc, gq, hln, d1, d2, d3, d4, d5, d6, d1.symm, d2.symm, d3.symm, d4.symm, d5.symm, d6.symm, hbe, cntN_nil, F2, q5_2, hHG, cntN_nil, h12, hst]
          repeat (first | intro _ | (refine ⟨obs, ?_⟩))
          refine nextQ_mk (i + 1) (by omega) ((hI2 _ _ _).2 ⟨?_, ?_, ?_, ?_, ?_, ?_, (by first | assumption | omega | (simp [go_sem, gf, ge, gc, gq, hln, d1, d2, d3, d4, d5, d6, d1.symm, d2.symm, d3.symm, d4.symm, d5.symm, d6.symm, hbe, cntN_nil, F2, q5_2, hHG, cntN_nil, h12, hst, h0, h15, h16]; done) | (simp_all; done) | (simp_all; omega)), (by (unfold posB at hp ⊢; rw [any_take_succ _ _ _ h12, hp]; simp; omega)), (by (first | rfl | exact hHG))⟩) <;> first | omega | (simp [go_sem, seval, gf, ge, gc, gq, hln, d1, d2, d3, d4, d5, d6, d1.symm, d2.symm, d3.symm, d4.symm, d5.symm, d6.symm, hbe, cntN_nil, F2, q5_2, hHG, cntN_nil, h12, hst] <;> omega)
    · try simp [go_sem] at h12
      rw [List.take_of_length_le (by omega)] at hp q5_2
      try simp [go_sem, seval, gf, ge, gc, gq, hln, d1, d2, d3, d4, d5, d6, d1.symm, d2.symm, d3.symm, d4.symm, d5.symm, d6.symm, hbe, cntN_nil, F2, q5_2, hHG, cntN_nil, q5_2]
      repeat (first | intro _ | (refine ⟨obs, ?_⟩))
      refine condQ_mk (fun h19 => ?_) (fun h19 => ?_)
      · try simp [go_sem] at h19
        have hL : leafBst xs w s B = ⟨w, s, cntN xs w⟩ := by unfold leafBst; rw [if_neg (by simp [hp]), if_pos (by simpa only [Bool.or_eq_true, Bool.and_eq_true, decide_eq_true_eq] using h19)]
        try simp [go_sem, seval, gf, ge, gc, gq, hln, d1, d2, d3, d4, d5, d6, d1.symm, d2.symm, d3.symm, d4.symm, d5.symm, d6.symm, hbe, cntN_nil, F2, q5_2, hHG, cntN_nil, q5_2]
        refine dcallQ_ownF (clone_intC w (by omega) hwne) (by simp [go_sem, gf, ge, gc, gq, hln, d1, d2, d3, d4, d5, d6, d1.symm, d2.symm, d3.symm, d4.symm, d5.symm, d6.symm, hbe, cntN_nil, F2, q5_2, hHG, cntN_nil, q5_2]) (by simp [go_sem]) (by intro d hd; rw [flat_cI, List.mem_map] at hd; obtain ⟨x, _, rfl⟩ := hd; rfl) rfl (by simp [go_sem]) ?_
        try simp [go_sem, seval, gf, ge, gc, gq, hln, d1, d2, d3, d4, d5, d6, d1.symm, d2.symm, d3.symm, d4.symm, d5.symm, d6.symm, hbe, cntN_nil, F2, q5_2, hHG, cntN_nil, q5_2]
        exact hQ _ (by rw [hdrop]; unfold tryB; rw [hL]; exact ⟨by simp [go_sem, bestD_cons _ _ _ hwne, dI], by simp [go_sem, gf, ge, gc, gq, hln, d1, d2, d3, d4, d5, d6, d1.symm, d2.symm, d3.symm, d4.symm, d5.symm, d6.symm, hbe, cntN_nil, F2, q5_2, hHG, cntN_nil, q5_2], by simp [go_sem, gf, ge, gc, gq, hln, d1, d2, d3, d4, d5, d6, d1.symm, d2.symm, d3.symm, d4.symm, d5.symm, d6.symm, hbe, cntN_nil, F2, q5_2, hHG, cntN_nil, q5_2], by simp [go_sem, gf, ge, gc, gq, hln, d1, d2, d3, d4, d5, d6, d1.symm, d2.symm, d3.symm, d4.symm, d5.symm, d6.symm, hbe, cntN_nil, F2, q5_2, hHG, cntN_nil, q5_2], hln, hdg⟩) (by intro j h1 h2 _; simp [go_sem, h1, h2]) (by simp [go_sem]; omega)
      · try simp [go_sem] at h19
        have hL : leafBst xs w s B = B := by unfold leafBst; rw [if_neg (by simp [hp]), if_neg (by simp only [Bool.or_eq_true, Bool.and_eq_true, decide_eq_true_eq]; rintro ((h | h) | ⟨h, h'⟩); exact h19.1.1 h; omega; have := h19.2 h; omega)]
        try simp [go_sem, seval, gf, ge, gc, gq, hln, d1, d2, d3, d4, d5, d6, d1.symm, d2.symm, d3.symm, d4.symm, d5.symm, d6.symm, hbe, cntN_nil, F2, q5_2, hHG, cntN_nil, q5_2]
        exact hQ _ (by rw [hdrop]; unfold tryB; rw [hL]; exact ⟨gf, ge, gc, gq, hln, hdg⟩) (by intro j _ _ _; rfl) (by simp)
end Go.Abs
end
section
set_option linter.unusedVariables false
set_option linter.unusedSimpArgs false
set_option maxRecDepth 8000
open Go Go.Proofs
namespace Go.Abs
theorem ref41_kinds (t : Types) (hn : t.nodes.length ≤ 1000000) (he : t.edges.length ≤ 1000000) : Pure Tryz.prog 36 [t.d] (dI ((t.nodes.length : Int) + t.edges.length)) := by
  refine pureK (by first | rfl | (simp [go_sem]; done)) (fun Q hQ => (acalls_of_body (cfg := ⟨fun _ => false, fun _ => []⟩) Tz.mixed Tryz.func36 rfl rfl (Nat.le_of_ble_eq_true rfl) (by kernel_rfl) ?_))
  try simp [go_sem, seval]
  repeat (first | intro _ | (refine ⟨obl, ?_⟩))
  exact hQ _ _ (by simp [go_sem] <;> first | omega | (rw [Bool.eq_iff_iff]; simp <;> omega) | (simp_all <;> omega))
theorem ref41_in (l : List Int) (v : Int) : Pure Tryz.prog 75 [dLI l, dI v] (.bool (mem l v)) := by
  refine pureK (by first | rfl | (simp [go_sem]; done)) (fun Q hQ => (acalls_of_body (cfg := ⟨fun _ => false, fun _ => []⟩) Tz.mixed Tryz.func75 rfl rfl (Nat.le_of_ble_eq_true rfl) (by kernel_rfl) ?_))
  try simp [go_sem, seval]
  obtain ⟨I0, hI0⟩ : ∃ I0 : Nat → Env → AHeap → Prop, ∀ (i : Nat) (e : Env) (H : AHeap), I0 i e H ↔ ((e 0 = dLI l) ∧ (e 1 = dI v) ∧ (e 5 = dI i) ∧ (i ≤ l.length) ∧ (∀ j, j < i → l[j]? ≠ some v)) := ⟨fun i e H => _, fun _ _ _ => Iff.rfl⟩
  refine loopK I0 (fun i => l.length - i) (0) ((hI0 _ _ _).2 ⟨?_, ?_, ?_, (by first | assumption | omega | (simp [go_sem]; done) | (simp_all; done)), (by (intro j hj; omega))⟩) ?_
  iterate 3 (first | omega | (simp [go_sem, seval] <;> omega))
  intro i e H hi0
  obtain ⟨q0_0, q1_0, q5_0, hi, hne⟩ := (hI0 _ _ _).1 hi0
  have F0 := And.intro q0_0 (And.intro q1_0 q5_0)
  try simp [go_sem, seval, F0]
  repeat (first | intro _ | (refine ⟨obl, ?_⟩))
  refine condQ_mk (fun h2 => ?_) (fun h2 => ?_)
  · try simp [go_sem] at h2
    try simp [go_sem, seval, F0, h2]
    repeat (first | intro _ | (refine ⟨obl, ?_⟩))
    refine condQ_mk (fun h4 => ?_) (fun h4 => ?_)
    · try simp [go_sem] at h4
      try simp [go_sem, seval, F0, h2]
      have hm : mem l v = true := (mem_iff l v).2 (h4 ▸ List.getElem_mem h2)
      exact hQ _ _ (by first | (left; (simp [go_sem, hm]); done) | (right; (simp [go_sem, hm]); done))
    · try simp [go_sem] at h4
      try simp [go_sem, seval, F0, h2]
      repeat (first | intro _ | (refine ⟨obl, ?_⟩))
      refine nextQ_mk (i + 1) (by omega) ((hI0 _ _ _).2 ⟨?_, ?_, ?_, (by first | assumption | omega | (simp [go_sem, F0, h2, h4]; done) | (simp_all; done) | (simp_all; omega)), (by (exact all_lt_succ hne (by rw [List.getElem?_eq_getElem h2]; simpa using h4)))⟩) <;> first | omega | (simp [go_sem, seval, F0, h2] <;> omega)
  · try simp [go_sem] at h2
    try simp [go_sem, seval, F0]
    have hm : mem l v = false := by rw [Bool.eq_false_iff]; intro h; obtain ⟨j, hj, he⟩ := List.getElem_of_mem ((mem_iff l v).1 h); exact hne j (by omega) (by rw [List.getElem?_eq_getElem hj, he])
    exact hQ _ _ (by first | (left; (simp [go_sem, hm]); done) | (right; (simp [go_sem, hm]); done))
theorem ref41_total (l : List Int) (hl : l.length ≤ 1000) (hd : ∀ x ∈ l, 0 ≤ x ∧ x ≤ 6) : Pure Tryz.prog 149 [dLI l] (dI l.sum) := by
  refine pureK (by first | rfl | (simp [go_sem]; done)) (fun Q hQ => (acalls_of_body (cfg := ⟨fun _ => false, fun _ => []⟩) Tz.mixed Tryz.func149 rfl rfl (Nat.le_of_ble_eq_true rfl) (by kernel_rfl) ?_))
  try simp [go_sem, seval]
  obtain ⟨I0, hI0⟩ : ∃ I0 : Nat → Env → AHeap → Prop, ∀ (i : Nat) (e : Env) (H : AHeap), I0 i e H ↔ (∃ s : Int, (e 0 = dLI l) ∧ (e 3 = dI s) ∧ (e 4 = dI i) ∧ (i ≤ l.length) ∧ (s = (l.take i).sum) ∧ (0 ≤ s ∧ s ≤ 6 * i)) := ⟨fun i e H => _, fun _ _ _ => Iff.rfl⟩
  refine loopK I0 (fun i => l.length - i) (0) ((hI0 _ _ _).2 ⟨(0), ?_, ?_, ?_, (by first | assumption | omega | (simp [go_sem]; done) | (simp_all; done)), (by rfl), (by simp)⟩) ?_
  iterate 3 (first | omega | (simp [go_sem, seval] <;> omega))
  intro i e H hi0
  obtain ⟨s, q0_0, q3_0, q4_0, hi, hs, hb⟩ := (hI0 _ _ _).1 hi0
  have F0 := And.intro q0_0 (And.intro q3_0 q4_0)
  try simp [go_sem, seval, F0]
  repeat (first | intro _ | (refine ⟨obl, ?_⟩))
  refine condQ_mk (fun h3 => ?_) (fun h3 => ?_)
  · try simp [go_sem] at h3
    have hx := hd _ (List.getElem_mem h3)
    try simp [go_sem, seval, F0, h3]
    repeat (first | intro _ | (refine ⟨obl, ?_⟩))
    refine nextQ_mk (i + 1) (by omega) ((hI0 _ _ _).2 ⟨(s + l[i]), ?_, ?_, ?_, (by first | assumption | omega | (simp [go_sem, F0, h3]; done) | (simp_all; done) | (simp_all; omega)), (by (rw [List.take_succ_eq_append_getElem h3, List.sum_append, ← hs]; simp)), (by omega)⟩) <;> first | omega | (simp [go_sem, seval, F0, h3] <;> omega)
  · try simp [go_sem] at h3
    rw [List.take_of_length_le (by omega)] at hs
    try simp [go_sem, seval, F0]
    exact hQ _ _ (by first | (left; (simp [go_sem, F0, hs]); done) | (right; (simp [go_sem, F0, hs]); done))
theorem ref05_SameInts (a b : List Int) : Pure Tryz.prog 62 [dLI a, dLI b] (.bool (decide (a = b))) := by
  refine pureK (by first | rfl | (simp [go_sem]; done)) (fun Q hQ => (acalls_of_body (cfg := ⟨fun _ => false, fun _ => []⟩) Tz.mixed Tryz.func62 rfl rfl (Nat.le_of_ble_eq_true rfl) (by kernel_rfl) ?_))
  try simp [go_sem, seval]
  repeat (first | intro _ | (refine ⟨obl, ?_⟩))
  refine condQ_mk (fun h1 => ?_) (fun h1 => ?_)
  · try simp [go_sem] at h1
    try simp [go_sem, seval]
    have hne : a ≠ b := by intro h; subst h; omega
    exact hQ _ _ (by first | (left; (simp [go_sem, hne]); done) | (right; (simp [go_sem, hne]); done))
  · try simp [go_sem] at h1
    try simp [go_sem, seval]
    obtain ⟨I0, hI0⟩ : ∃ I0 : Nat → Env → AHeap → Prop, ∀ (i : Nat) (e : Env) (H : AHeap), I0 i e H ↔ ((e 0 = dLI a) ∧ (e 1 = dLI b) ∧ (e 5 = dI i) ∧ (i ≤ a.length) ∧ (a.take i = b.take i)) := ⟨fun i e H => _, fun _ _ _ => Iff.rfl⟩
    refine loopK I0 (fun i => a.length - i) (0) ((hI0 _ _ _).2 ⟨?_, ?_, ?_, (by first | assumption | omega | (simp [go_sem]; done) | (simp_all; done)), (by rfl)⟩) ?_
    iterate 3 (first | omega | (simp [go_sem, seval] <;> omega))
    intro i e H hi0
    obtain ⟨q0_0, q1_0, q5_0, hi, he⟩ := (hI0 _ _ _).1 hi0
    have F0 := And.intro q0_0 (And.intro q1_0 q5_0)
    try simp [go_sem, seval, F0]
    repeat (first | intro _ | (refine ⟨obl, ?_⟩))
    refine condQ_mk (fun h4 => ?_) (fun h4 => ?_)
    · try simp [go_sem] at h4
      have hib : i < b.length := by omega
      try simp [go_sem, seval, F0, h4, hib]
      repeat (first | intro _ | (refine ⟨obl, ?_⟩))
      refine condQ_mk (fun h6 => ?_) (fun h6 => ?_)
      · try simp [go_sem] at h6
        try simp [go_sem, seval, F0, h4, hib]
        have hne : a ≠ b := by intro h; subst h; exact h6 rfl
        exact hQ _ _ (by first | (left; (simp [go_sem, hne]); done) | (right; (simp [go_sem, hne]); done))
      · try simp [go_sem] at h6
        try simp [go_sem, seval, F0, h4, hib]
        repeat (first | intro _ | (refine ⟨obl, ?_⟩))
        refine nextQ_mk (i + 1) (by omega) ((hI0 _ _ _).2 ⟨?_, ?_, ?_, (by first | assumption | omega | (simp [go_sem, F0, h4, hib, h1, h6]; done) | (simp_all; done) | (simp_all; omega)), (by (rw [List.take_succ_eq_append_getElem h4, List.take_succ_eq_append_getElem hib, he, h6]))⟩) <;> first | omega | (simp [go_sem, seval, F0, h4, hib] <;> omega)
    · try simp [go_sem] at h4
      rw [List.take_of_length_le (by omega), List.take_of_length_le (by omega)] at he
      try simp [go_sem, seval, F0]
      exact hQ _ _ (by first | (left; (simp [go_sem, he]); done) | (right; (simp [go_sem, he]); done))
end Go.Abs
end
section
set_option linter.unusedVariables false
set_option linter.unusedSimpArgs false
set_option maxRecDepth 8000
open Go Go.Proofs
namespace Go.Abs
def restI (mask : List Bool) : List Nat := (List.range mask.length).filter fun i => mask[i]?.getD false
def restX (ls : List (List Int)) (mask : List Bool) : List (List Int) := ((List.range ls.length).filter fun i => mask[i]?.getD false).map fun i => ls[i]?.getD []
def hitB (ls : List (List Int)) (mask : List Bool) (k i : Nat) : Bool := mask[i]?.getD false && decide ((ls[i]?.getD [])[k]?.getD 0 ≠ 0)
def touchM (n : Nat) (ls : List (List Int)) (mask : List Bool) : List Int := ((List.range n).filter fun (k : Nat) => (List.range ls.length).any (hitB ls mask k)).map fun (k : Nat) => (k : Int)
theorem range_any_succ (p : Nat → Bool) (i : Nat) : (List.range (i + 1)).any p = ((List.range i).any p || p i) := by
  rw [List.range_succ, List.any_append]; simp
theorem ref41_touched (n : Nat) (hn : n ≤ 100000) (ls : List (List Int)) (mask : List Bool) (hm : mask.length = ls.length) (hl : ∀ l ∈ ls, l.length = n) : Pure Tryz.prog 35 [.list (ls.map cL), .list (mask.map cB), dI n] (dLI (touchM n ls mask)) := by
  refine pureK (by first | rfl | (simp [go_sem]; done)) (fun Q hQ => (acalls_of_body (cfg := ⟨fun t => t == 7, fun _ => []⟩) Tz.mixed Tryz.func35 rfl rfl (Nat.le_of_ble_eq_true rfl) (by kernel_rfl) ?_))
  try simp [go_sem, seval]
  obtain ⟨I0, hI0⟩ : ∃ I0 : Nat → Env → AHeap → Prop, ∀ (k : Nat) (e : Env) (H : AHeap), I0 k e H ↔ (∃ ys : List Int, (e 0 = .list (ls.map cL)) ∧ (e 1 = .list (mask.map cB)) ∧ (e 2 = dI n) ∧ (e 7 = .own 0 ys.length) ∧ (e 8 = dI k) ∧ (H.get 0 = some ⟨3, 1, ys.map cI, false⟩) ∧ (0 < H.next) ∧ (k ≤ n) ∧ (ys.length ≤ k) ∧ (ys = ((List.range k).filter fun (k : Nat) => (List.range ls.length).any (hitB ls mask k)).map (fun (b : Nat) => (b : Int)))) := ⟨fun k e H => _, fun _ _ _ => Iff.rfl⟩
  refine loopK I0 (fun k => n - k) (0) ((hI0 _ _ _).2 ⟨([]), ?_, ?_, ?_, ?_, ?_, ?_, ?_, (by first | assumption | omega | (simp [go_sem]; done) | (simp_all; done)), (by simp), (by rfl)⟩) ?_
  iterate 7 (first | omega | (simp [go_sem, seval] <;> omega))
  intro k e H hi0
  obtain ⟨ys, q0_0, q1_0, q2_0, q7_0, q8_0, g0_0, n0_0, hk, hyl, hy⟩ := (hI0 _ _ _).1 hi0
  have x0 := frs n0_0
  have F0 := And.intro q0_0 (And.intro q1_0 (And.intro q2_0 (And.intro q7_0 (And.intro q8_0 (And.intro g0_0 x0)))))
  try simp [go_sem, seval, F0]
  refine condQ_mk (fun h3 => ?_) (fun h3 => ?_)
  · try simp [go_sem] at h3
    try simp [go_sem, seval, F0, h3]
    obtain ⟨I2, hI2⟩ : ∃ I2 : Nat → Env → AHeap → Prop, ∀ (i : Nat) (e : Env) (H : AHeap), I2 i e H ↔ ((e 0 = .list (ls.map cL)) ∧ (e 1 = .list (mask.map cB)) ∧ (e 2 = dI n) ∧ (e 7 = .own 0 ys.length) ∧ (e 8 = dI k) ∧ (e 9 = .bool ((List.range i).any (hitB ls mask k))) ∧ (e 10 = dI i) ∧ (H.get 0 = some ⟨3, 1, ys.map cI, false⟩) ∧ (0 < H.next) ∧ (i ≤ ls.length)) := ⟨fun i e H => _, fun _ _ _ => Iff.rfl⟩
    refine loopK I2 (fun i => ls.length - i) (0) ((hI2 _ _ _).2 ⟨?_, ?_, ?_, ?_, ?_, ?_, ?_, ?_, ?_, (by first | assumption | omega | (simp [go_sem, F0, h3]; done) | (simp_all; done))⟩) ?_
    iterate 9 (first | omega | (simp [go_sem, seval, F0, h3] <;> omega))
    intro i e H hi2
    obtain ⟨q0_2, q1_2, q2_2, q7_2, q8_2, q9_2, q10_2, g0_2, n0_2, hi⟩ := (hI2 _ _ _).1 hi2
    have x0 := frs n0_2
    have F2 := And.intro q0_2 (And.intro q1_2 (And.intro q2_2 (And.intro q7_2 (And.intro q8_2 (And.intro q10_2 (And.intro g0_2 x0))))))
    try simp [go_sem, seval, h3, F2, q9_2]
    repeat (first | intro _ | (refine ⟨obl, ?_⟩))
    refine condQ_mk (fun h7 => ?_) (fun h7 => ?_)
    · try simp [go_sem] at h7
      have hlk : k < (ls[i]'(by omega)).length := by rw [hl _ (List.getElem_mem h7)]; omega
      have hmi : i < mask.length := by omega
      have hhit : hitB ls mask k i = (mask[i] && !decide (ls[i][k] = 0)) := by simp [hitB, List.getElem?_eq_getElem h7, List.getElem?_eq_getElem hlk, List.getElem?_eq_getElem hmi]
      have hts := range_any_succ (hitB ls mask k) i
      rw [hhit] at hts
      have hts2 : (ls[i][k] != 0) = !decide (ls[i][k] = 0) := rfl
      try simp [go_sem, seval, h3, F2, q9_2, h7, List.getElem?_eq_getElem hlk, List.getElem?_eq_getElem hmi, hhit, hts2, -List.any_eq_true, hmi]
      repeat (first | intro _ | (refine ⟨obl, ?_⟩))
      refine nextQ_mk (i + 1) (by omega) ((hI2 _ _ _).2 ⟨?_, ?_, ?_, ?_, ?_, ?_, ?_, ?_, ?_, (by first | assumption | omega | (simp [go_sem, h3, F2, q9_2, h7, List.getElem?_eq_getElem hlk, List.getElem?_eq_getElem hmi, hhit, hts2, -List.any_eq_true, hmi]; done) | (simp_all; done) | (simp_all; omega))⟩) <;> first | omega | (simp [go_sem, seval, h3, F2, q9_2, h7, List.getElem?_eq_getElem hlk, List.getElem?_eq_getElem hmi, hhit, hts2, -List.any_eq_true, hmi] <;> omega)
    · try simp [go_sem] at h7
      have hU : i = ls.length := by omega
      subst hU
      obtain ⟨b, hb⟩ : ∃ b, (List.range ls.length).any (hitB ls mask k) = b := ⟨_, rfl⟩
      rw [hb] at q9_2
      try simp [go_sem, seval, h3, F2, q9_2, hb]
      refine condQ_mk (fun h10 => ?_) (fun h10 => ?_)
      · try simp [go_sem] at h10
        try simp [go_sem, seval, h3, F2, q9_2, hb, h10]
        repeat (first | intro _ | (refine ⟨obl, ?_⟩))
        refine nextQ_mk (k + 1) (by omega) ((hI0 _ _ _).2 ⟨(ys ++ (if ((List.range ls.length).any (hitB ls mask k)) = true then [(k : Int)] else [])), ?_, ?_, ?_, ?_, ?_, ?_, ?_, (by first | assumption | omega | (simp [go_sem, h3, F2, q9_2, hb, h10, h7]; done) | (simp_all; done) | (simp_all; omega)), (by (rw [List.length_append]; split <;> simp <;> omega)), (by (rw [range_filter_succ, ← hy]))⟩) <;> first | omega | (simp [go_sem, seval, h3, F2, q9_2, hb, h10] <;> omega)
      · try simp [go_sem] at h10
        try simp [go_sem, seval, h3, F2, q9_2, hb, h10]
        repeat (first | intro _ | (refine ⟨obl, ?_⟩))
        refine nextQ_mk (k + 1) (by omega) ((hI0 _ _ _).2 ⟨(ys ++ (if ((List.range ls.length).any (hitB ls mask k)) = true then [(k : Int)] else [])), ?_, ?_, ?_, ?_, ?_, ?_, ?_, (by first | assumption | omega | (simp [go_sem, h3, F2, q9_2, hb, h10, h7]; done) | (simp_all; done) | (simp_all; omega)), (by (rw [List.length_append]; split <;> simp <;> omega)), (by (rw [range_filter_succ, ← hy]))⟩) <;> first | omega | (simp [go_sem, seval, h3, F2, q9_2, hb, h10] <;> omega)
  · try simp [go_sem] at h3
    try simp [go_sem, seval, F0]
    exact hQ _ _ (by first | (left; (simp [go_sem, F0, touchM]; rw [hy, show k = n by omega]; simp); done) | (right; (simp [go_sem, F0, touchM]; rw [hy, show k = n by omega]; simp); done))
def lowM (ls : List (List Int)) (mask : List Bool) (w : List Int) (i : Nat) : Bool := mask[i]?.getD false && decide (prodF w (ls[i]?.getD []) < 0)
def highM (ls : List (List Int)) (mask : List Bool) (w : List Int) (i : Nat) : Bool := mask[i]?.getD false && decide (0 < prodF w (ls[i]?.getD []))
def lowL (ls : List (List Int)) (mask : List Bool) (w : List Int) : List Int := ((List.range ls.length).filter (lowM ls mask w)).map fun (i : Nat) => (i : Int)
def okM (ls : List (List Int)) (mask : List Bool) (w : List Int) : Bool := !((List.range ls.length).any (highM ls mask w))
theorem ref41_lowered (ls : List (List Int)) (hls : ls.length ≤ 1000) (mask : List Bool) (hm : mask.length = ls.length) (w : List Int) (hw : ∀ l ∈ ls, ProdOk w l) : Pure Tryz.prog 74 [.list (ls.map cL), .list (mask.map cB), dLI w] (.tup [dLI (if okM ls mask w = true then lowL ls mask w else []), .bool (okM ls mask w)]) := by
  refine pureK (by first | rfl | (simp [go_sem]; done)) (fun Q hQ => (acalls_of_body (cfg := ⟨fun t => t == 8, fun _ => []⟩) Tz.mixed Tryz.func74 rfl rfl (Nat.le_of_ble_eq_true rfl) (by kernel_rfl) ?_))
  try simp [go_sem, seval]
  obtain ⟨I0, hI0⟩ : ∃ I0 : Nat → Env → AHeap → Prop, ∀ (i : Nat) (e : Env) (H : AHeap), I0 i e H ↔ (∃ ys : List Int, (e 0 = .list (ls.map cL)) ∧ (e 1 = .list (mask.map cB)) ∧ (e 2 = dLI w) ∧ (e 8 = .own 0 ys.length) ∧ (e 9 = dI i) ∧ (H.get 0 = some ⟨3, 1, ys.map cI, false⟩) ∧ (0 < H.next) ∧ (i ≤ ls.length) ∧ (ys.length ≤ i) ∧ (ys = ((List.range i).filter (lowM ls mask w)).map (fun (b : Nat) => (b : Int))) ∧ ((List.range i).any (highM ls mask w) = false)) := ⟨fun i e H => _, fun _ _ _ => Iff.rfl⟩
  refine loopK I0 (fun i => ls.length - i) (0) ((hI0 _ _ _).2 ⟨([]), ?_, ?_, ?_, ?_, ?_, ?_, ?_, (by first | assumption | omega | (simp [go_sem]; done) | (simp_all; done)), (by simp), (by rfl), (by rfl)⟩) ?_
  iterate 7 (first | omega | (simp [go_sem, seval] <;> omega))
  intro i e H hi0
  obtain ⟨ys, q0_0, q1_0, q2_0, q8_0, q9_0, g0_0, n0_0, hi, hyl, hy, hok⟩ := (hI0 _ _ _).1 hi0
  have x0 := frs n0_0
  have F0 := And.intro q0_0 (And.intro q1_0 (And.intro q2_0 (And.intro q8_0 (And.intro q9_0 (And.intro g0_0 x0)))))
  try simp [go_sem, seval, F0]
  repeat (first | intro _ | (refine ⟨obl, ?_⟩))
  refine condQ_mk (fun h3 => ?_) (fun h3 => ?_)
  · try simp [go_sem] at h3
    have hmi : i < mask.length := by omega
    have hlo : lowM ls mask w i = (mask[i] && decide (prodF w ls[i] < 0)) := by simp [lowM, List.getElem?_eq_getElem h3, List.getElem?_eq_getElem hmi]
    have hhi0 : highM ls mask w i = (mask[i] && decide (0 < prodF w ls[i])) := by simp [highM, List.getElem?_eq_getElem h3, List.getElem?_eq_getElem hmi]
    try simp [go_sem, seval, F0, h3, List.getElem?_eq_getElem hmi, hmi]
    repeat (first | intro _ | (refine ⟨obl, ?_⟩))
    refine condQ_mk (fun h5 => ?_) (fun h5 => ?_)
    · try simp [go_sem] at h5
      have hlo2 : lowM ls mask w i = false := by simp [hlo, h5]
      have hhi : highM ls mask w i = false := by simp [hhi0, h5]
      try simp [go_sem, seval, F0, h3, List.getElem?_eq_getElem hmi, hmi, hlo2]
      repeat (first | intro _ | (refine ⟨obl, ?_⟩))
      refine nextQ_mk (i + 1) (by omega) ((hI0 _ _ _).2 ⟨(ys ++ (if lowM ls mask w i = true then [(i : Int)] else [])), ?_, ?_, ?_, ?_, ?_, ?_, ?_, (by first | assumption | omega | (simp [go_sem, F0, h3, List.getElem?_eq_getElem hmi, hmi, hlo2, h5]; done) | (simp_all; done) | (simp_all; omega)), (by (rw [List.length_append]; split <;> simp <;> omega)), (by (rw [range_filter_succ, ← hy])), (by (rw [range_any_succ, hok, hhi]; rfl))⟩) <;> first | omega | (simp [go_sem, seval, F0, h3, List.getElem?_eq_getElem hmi, hmi, hlo2] <;> omega)
    · try simp [go_sem] at h5
      have hm1 : mask[i] = true := by simpa using h5
      try simp [go_sem, seval, F0, h3, List.getElem?_eq_getElem hmi, hmi, h5]
      repeat (first | intro _ | (refine ⟨obl, ?_⟩))
      refine callQ_pure0 (ref39_Product w ls[i] (hw _ (List.getElem_mem h3))) ((by first | rfl | (simp [go_sem, ← List.map_take, ← List.map_drop, F0, h3, List.getElem?_eq_getElem hmi, hmi, h5]; done))) ?_
      try simp [go_sem, seval, F0, h3, List.getElem?_eq_getElem hmi, hmi, h5]
      repeat (first | intro _ | (refine ⟨obl, ?_⟩))
      refine condQ_mk (fun h7 => ?_) (fun h7 => ?_)
      · try simp [go_sem] at h7
        have hK : okM ls mask w = false := by
          have : (List.range ls.length).any (highM ls mask w) = true := List.any_eq_true.2 ⟨i, List.mem_range.2 h3, by rw [hhi0, hm1]; simp; omega⟩
          unfold okM; rw [this]; rfl
        try simp [go_sem, seval, F0, h3, List.getElem?_eq_getElem hmi, hmi, h5]
        exact hQ _ _ (by first | (left; (simp [go_sem, hK]); done) | (right; (simp [go_sem, hK]); done))
      · try simp [go_sem] at h7
        have hhi : highM ls mask w i = false := by rw [hhi0]; simp; omega
        try simp [go_sem, seval, F0, h3, List.getElem?_eq_getElem hmi, hmi, h5]
        refine condQ_mk (fun h9 => ?_) (fun h9 => ?_)
        · try simp [go_sem] at h9
          have hlo2 : lowM ls mask w i = true := by rw [hlo, hm1]; simp; omega
          try simp [go_sem, seval, F0, h3, List.getElem?_eq_getElem hmi, hmi, h5, hlo2]
          repeat (first | intro _ | (refine ⟨obl, ?_⟩))
          refine nextQ_mk (i + 1) (by omega) ((hI0 _ _ _).2 ⟨(ys ++ (if lowM ls mask w i = true then [(i : Int)] else [])), ?_, ?_, ?_, ?_, ?_, ?_, ?_, (by first | assumption | omega | (simp [go_sem, F0, h3, List.getElem?_eq_getElem hmi, hmi, h5, hlo2, h7, h9]; done) | (simp_all; done) | (simp_all; omega)), (by (rw [List.length_append]; split <;> simp <;> omega)), (by (rw [range_filter_succ, ← hy])), (by (rw [range_any_succ, hok, hhi]; rfl))⟩) <;> first | omega | (simp [go_sem, seval, F0, h3, List.getElem?_eq_getElem hmi, hmi, h5, hlo2] <;> omega)
        · try simp [go_sem] at h9
          have hlo2 : lowM ls mask w i = false := by rw [hlo]; simp; omega
          try simp [go_sem, seval, F0, h3, List.getElem?_eq_getElem hmi, hmi, h5, hlo2]
          repeat (first | intro _ | (refine ⟨obl, ?_⟩))
          refine nextQ_mk (i + 1) (by omega) ((hI0 _ _ _).2 ⟨(ys ++ (if lowM ls mask w i = true then [(i : Int)] else [])), ?_, ?_, ?_, ?_, ?_, ?_, ?_, (by first | assumption | omega | (simp [go_sem, F0, h3, List.getElem?_eq_getElem hmi, hmi, h5, hlo2, h7, h9]; done) | (simp_all; done) | (simp_all; omega)), (by (rw [List.length_append]; split <;> simp <;> omega)), (by (rw [range_filter_succ, ← hy])), (by (rw [range_any_succ, hok, hhi]; rfl))⟩) <;> first | omega | (simp [go_sem, seval, F0, h3, List.getElem?_eq_getElem hmi, hmi, h5, hlo2] <;> omega)
  · try simp [go_sem] at h3
    have hU : i = ls.length := by omega
    have hK : okM ls mask w = true := by unfold okM; rw [← hU, hok]; rfl
    have hY : ys = lowL ls mask w := by rw [hy, hU]; rfl
    try simp [go_sem, seval, F0]
    exact hQ _ _ (by first | (left; (simp [go_sem, F0, hK, ← hY]); done) | (right; (simp [go_sem, F0, hK, ← hY]); done))
end Go.Abs
end
section
set_option linter.unusedVariables false
set_option linter.unusedSimpArgs false
set_option maxRecDepth 8000
open Go Go.Proofs
namespace Go.Abs
theorem equal_int (a b : List Int) : Pure Tryz.prog 20 [dLI a, dLI b] (.bool (decide (a = b))) := by
  refine pureK (by first | rfl | (simp [go_sem]; done)) (fun Q hQ => (acalls_of_body (cfg := ⟨fun _ => false, fun _ => []⟩) Tz.mixed Tryz.func20 rfl rfl (Nat.le_of_ble_eq_true rfl) (by kernel_rfl) ?_))
  try simp [go_sem, seval]
  repeat (first | intro _ | (refine ⟨obl, ?_⟩))
  refine condQ_mk (fun h1 => ?_) (fun h1 => ?_)
  · try simp [go_sem] at h1
    try simp [go_sem, seval]
    have hne : a ≠ b := by intro h; subst h; omega
    exact hQ _ _ (by first | (left; (simp [go_sem, hne]); done) | (right; (simp [go_sem, hne]); done))
  · try simp [go_sem] at h1
    try simp [go_sem, seval]
    repeat (first | intro _ | (refine ⟨obl, ?_⟩))
    obtain ⟨I0, hI0⟩ : ∃ I0 : Nat → Env → AHeap → Prop, ∀ (i : Nat) (e : Env) (H : AHeap), I0 i e H ↔ ((e 0 = dLI a) ∧ (e 1 = dLI b) ∧ (e 12 = dI a.length) ∧ (e 13 = dI i) ∧ (i ≤ a.length) ∧ (a.take i = b.take i)) := ⟨fun i e H => _, fun _ _ _ => Iff.rfl⟩
    refine loopK I0 (fun i => a.length - i) (0) ((hI0 _ _ _).2 ⟨?_, ?_, ?_, ?_, (by first | assumption | omega | (simp [go_sem]; done) | (simp_all; done)), (by rfl)⟩) ?_
    iterate 4 (first | omega | (simp [go_sem, seval] <;> omega))
    intro i e H hi0
    obtain ⟨q0_0, q1_0, q12_0, q13_0, hi, he⟩ := (hI0 _ _ _).1 hi0
    have F0 := And.intro q0_0 (And.intro q1_0 (And.intro q12_0 q13_0))
    try simp [go_sem, seval, F0]
    refine condQ_mk (fun h4 => ?_) (fun h4 => ?_)
    · try simp [go_sem] at h4
      have hib : i < b.length := by omega
      try simp [go_sem, seval, F0, h4, hib]
      repeat (first | intro _ | (refine ⟨obl, ?_⟩))
      refine condQ_mk (fun h6 => ?_) (fun h6 => ?_)
      · try simp [go_sem] at h6
        try simp [go_sem, seval, F0, h4, hib]
        have hne : a ≠ b := by intro h; subst h; exact h6 rfl
        exact hQ _ _ (by first | (left; (simp [go_sem, hne]); done) | (right; (simp [go_sem, hne]); done))
      · try simp [go_sem] at h6
        try simp [go_sem, seval, F0, h4, hib]
        repeat (first | intro _ | (refine ⟨obl, ?_⟩))
        refine nextQ_mk (i + 1) (by omega) ((hI0 _ _ _).2 ⟨?_, ?_, ?_, ?_, (by first | assumption | omega | (simp [go_sem, F0, h4, hib, h1, h6]; done) | (simp_all; done) | (simp_all; omega)), (by (rw [List.take_succ_eq_append_getElem h4, List.take_succ_eq_append_getElem hib, he, h6]))⟩) <;> first | omega | (simp [go_sem, seval, F0, h4, hib] <;> omega)
    · try simp [go_sem] at h4
      rw [List.take_of_length_le (by omega), List.take_of_length_le (by omega)] at he
      try simp [go_sem, seval, F0]
      exact hQ _ _ (by first | (left; (simp [go_sem, he]); done) | (right; (simp [go_sem, he]); done))
deriving instance DecidableEq for Stage
theorem ref41_SameStages (a b : List Stage) : Pure Tryz.prog 27 [.list (a.map Stage.c), .list (b.map Stage.c)] (.bool (decide (a = b))) := by
  refine pureK (by first | rfl | (simp [go_sem]; done)) (fun Q hQ => (acalls_of_body (cfg := ⟨fun _ => false, fun _ => []⟩) Tz.mixed Tryz.func27 rfl rfl (Nat.le_of_ble_eq_true rfl) (by kernel_rfl) ?_))
  try simp [go_sem, seval]
  repeat (first | intro _ | (refine ⟨obl, ?_⟩))
  refine condQ_mk (fun h1 => ?_) (fun h1 => ?_)
  · try simp [go_sem] at h1
    try simp [go_sem, seval]
    have hne : a ≠ b := by intro h; subst h; omega
    exact hQ _ _ (by first | (left; (simp [go_sem, hne]); done) | (right; (simp [go_sem, hne]); done))
  · try simp [go_sem] at h1
    try simp [go_sem, seval]
    obtain ⟨I0, hI0⟩ : ∃ I0 : Nat → Env → AHeap → Prop, ∀ (i : Nat) (e : Env) (H : AHeap), I0 i e H ↔ ((e 0 = .list (a.map Stage.c)) ∧ (e 1 = .list (b.map Stage.c)) ∧ (e 5 = dI i) ∧ (i ≤ a.length) ∧ (a.take i = b.take i)) := ⟨fun i e H => _, fun _ _ _ => Iff.rfl⟩
    refine loopK I0 (fun i => a.length - i) (0) ((hI0 _ _ _).2 ⟨?_, ?_, ?_, (by first | assumption | omega | (simp [go_sem]; done) | (simp_all; done)), (by rfl)⟩) ?_
    iterate 3 (first | omega | (simp [go_sem, seval] <;> omega))
    intro i e H hi0
    obtain ⟨q0_0, q1_0, q5_0, hi, he⟩ := (hI0 _ _ _).1 hi0
    have F0 := And.intro q0_0 (And.intro q1_0 q5_0)
    try simp [go_sem, seval, F0]
    repeat (first | intro _ | (refine ⟨obl, ?_⟩))
    refine condQ_mk (fun h4 => ?_) (fun h4 => ?_)
    · try simp [go_sem] at h4
      have hib : i < b.length := by omega
      have hS2 := ref05_SameInts a[i].removed b[i].removed
      try simp [go_sem, seval, F0, h4, hib]
      repeat (first | intro _ | (refine ⟨obl, ?_⟩))
      refine dcallQ_pure0 (ref05_SameInts a[i].weights b[i].weights) ((by first | rfl | (simp [go_sem, ← List.map_take, ← List.map_drop, F0, h4, hib]; done))) ?_
      try simp [go_sem, seval, F0, h4, hib]
      repeat (first | intro _ | (refine ⟨obl, ?_⟩))
      refine dgcallQ_pure0 (fun hg => hS2) (fun hg => (by first | rfl | (simp [go_sem, ← List.map_take, ← List.map_drop, F0, h4, hib]; done))) ?_
      try simp [go_sem, seval, F0, h4, hib]
      repeat (first | intro _ | (refine ⟨obl, ?_⟩))
      refine condQ_mk (fun h6 => ?_) (fun h6 => ?_)
      · try simp [go_sem] at h6
        have hne : a ≠ b := by intro h; subst h; simp at h6
        try simp [go_sem, seval, F0, h4, hib]
        exact hQ _ _ (by first | (left; (simp [go_sem, hne]); done) | (right; (simp [go_sem, hne]); done))
      · try simp [go_sem] at h6
        have hEq : a[i] = b[i] := by
          have h6' : a[i].weights = b[i].weights ∧ a[i].removed = b[i].removed := by simpa using h6
          cases ha : a[i]; cases hb : b[i]; rw [ha, hb] at h6'; simp at h6'; rw [h6'.1, h6'.2]
        try simp [go_sem, seval, F0, h4, hib]
        repeat (first | intro _ | (refine ⟨obl, ?_⟩))
        refine nextQ_mk (i + 1) (by omega) ((hI0 _ _ _).2 ⟨?_, ?_, ?_, (by first | assumption | omega | (simp [go_sem, F0, h4, hib, h1, h6]; done) | (simp_all; done) | (simp_all; omega)), (by (rw [List.take_succ_eq_append_getElem h4, List.take_succ_eq_append_getElem hib, he, hEq]))⟩) <;> first | omega | (simp [go_sem, seval, F0, h4, hib] <;> omega)
    · try simp [go_sem] at h4
      rw [List.take_of_length_le (by omega), List.take_of_length_le (by omega)] at he
      try simp [go_sem, seval, F0]
      exact hQ _ _ (by first | (left; (simp [go_sem, he]); done) | (right; (simp [go_sem, he]); done))
def rankE (t : Types) (st : List Stage) (g : Graph) : Int :=
  if typed18 t g ≠ 0 then typed18 t g else if 6 < st.length then 3 else listE (fun s => weightE t s.weights g) st
def rankF (t : Types) (st : List Stage) (g : Graph) : List Int := if rankE t st g = 0 then st.map fun s => weightF t s.weights g else []
theorem indexFunc_stage (xs : List Stage) (g : FuncId) (caps : List D) (p : Stage → Bool) (hc : D.clL caps = true) (hg : ∀ x ∈ xs, Pure Tryz.prog g (.agg x.c :: caps) (.bool (p x))) :
    Pure Tryz.prog 37 [.list (xs.map Stage.c), .fn g caps] (dI (idxF xs p)) := by
  refine pure_of_calls (acalls_of_body (cfg := ⟨fun _ => false, fun _ => []⟩) Tz.mixed Tryz.func37 rfl rfl (Nat.le_of_ble_eq_true rfl) (by kernel_rfl) ?_)
  simp [go_sem, seval, dI, dLI]
  intro hlen
  refine loop_rule (ι := Nat) (fun i e H => H = .emp ∧ i ≤ xs.length ∧ e 0 = .list (xs.map Stage.c) ∧ e 1 = .fn g caps ∧ e 7 = dI xs.length ∧ e 8 = dI i ∧ (∀ j x, j < i → xs[j]? = some x → p x = false)) (fun i => xs.length - i) 0 (by simp [go_sem, seval, dI, dLI]) ?_
  intro i e H ⟨hH, hi, h0, h1, h7, h8, hn⟩
  subst hH
  simp [go_sem, seval, h0, h1, h7, h8, dI, dLI]
  refine condQ_dec (fun hlt => ?_) (fun hge => ?_)
  · have hgx := hg xs[i] (List.getElem_mem hlt)
    simp [go_sem, seval, h0, h1, h7, h8, dI, dLI, hlt, Stage.c] at hgx ⊢
    refine callQ_pure0 hgx (by simp [go_sem, hc]) ?_
    simp [go_sem, seval, h0, h1, h7, h8, dI, dLI]
    refine condQ_mk (fun h => ?_) (fun h => ?_)
    · simp [go_sem, seval, h0, h1, h7, h8, dI, dLI]
      rw [idxF_some hn hlt h]
    · simp [go_sem, seval, h0, h1, h7, h8, dI, dLI]
      refine ⟨inR_i64 (by omega) (by omega), i + 1, by omega, by omega, by omega, fun j x hj hx => ?_⟩
      rcases Nat.lt_or_ge j i with hj' | hj'
      · exact hn j x hj' hx
      · have : j = i := by omega
        subst this
        rw [List.getElem?_eq_getElem hlt] at hx
        cases hx; exact h
  · simp [go_sem, seval, h0, h1, h7, h8, dI, dLI]
    rw [idxF_none fun j x hj => hn j x (by omega)]
theorem containsFunc_stage (xs : List Stage) (g : FuncId) (caps : List D) (p : Stage → Bool) (hc : D.clL caps = true) (hl : D.cl (.list (xs.map Stage.c)) = true) (hg : ∀ x ∈ xs, Pure Tryz.prog g (.agg x.c :: caps) (.bool (p x))) :
    Pure Tryz.prog 11 [.list (xs.map Stage.c), .fn g caps] (.bool (xs.any p)) := by
  refine pure_of_calls (acalls_of_body (cfg := ⟨fun _ => false, fun _ => []⟩) Tz.mixed Tryz.func11 rfl rfl (Nat.le_of_ble_eq_true rfl) (by kernel_rfl) ?_)
  simp [go_sem, seval]
  refine callQ_pure0 (indexFunc_stage xs g caps p hc hg) (by simp only [D.clL, hl, Bool.true_and]; simp [D.cl, hc]) ?_
  simp [go_sem, seval, dI, idxF_any]
end Go.Abs
end
