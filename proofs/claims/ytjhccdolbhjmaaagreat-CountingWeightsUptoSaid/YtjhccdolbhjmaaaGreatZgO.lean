/- (*counting.finder).try. · Layer 41, the reference: small fun -/
import Derived.Test.YtjhccdolbhjmaaaGreatZgE
import Derived.Test.YtjhccdolbhjmaaaGreatZgN
set_option linter.unusedVariables false
set_option linter.unusedSimpArgs false
section
set_option maxRecDepth 8000
open Go Go.Proofs
namespace Go.Abs
theorem ACalls.ownF {P : Program} {H : AHeap} {f : FuncId} {args : List D} {ty : TypeId} {sz : Nat} {es : List (List D)} {Q : D → AHeap → Prop} (hp : Own P f (args.map (rsvD H)) ty sz es) (hcl : D.clL (args.map (rsvD H)) = true) (hf : ∀ d ∈ es.flatten, d.flat = true) (hQ : Q (.list es) H) : ACalls P f args H Q := by
  refine ⟨hp.1, fun M0 σ w vals hR ha => ?_⟩
  obtain ⟨f1, f2, f3, f4⟩ := frzs_sound (args.flatMap ownIds) hR
  refine (hp.2 (Mut M0 (frzs (args.flatMap ownIds) H) σ) w vals (mut_lt f1) (repL_closed (fun _ h => h) (repL_rsv hR ha _ fun i h => h) hcl)).mono fun e w' ⟨v, xs, he, hrow, h1, hrep, hcll, hsz, hb⟩ => ?_
  obtain ⟨g1, g2, g3⟩ := hR.grow hb.os hb.tape hb.output hb.size hb.block
  have hv : RepV (Mut M0 H σ) noRef noId w' v (.list es) := by
    rcases hrow.2 with ⟨hnil, h0⟩ | ⟨g, cap, cur, hval, hg, hcells, hnc, hcm, hsz', htake⟩
    ·rw [hnil, List.eq_nil_of_length_eq_zero h0]; exact .listN
    ·rw [hval]
     refine .list ⟨g, 0, none⟩ cap sz xs es hnc hcm hsz hrep.len h1 (fun j u hu => ⟨fun hm => ?_, hrow.cells (g := g) (by simp [hval, Value.ownBlock]) j u hu⟩) (fun j u d hu hd => flat_rep (hrep.rep j u d hu hd) (hf d (List.mem_of_getElem? hd)))
     have := mut_lt hR g hm
     omega
  exact ⟨v, .list es, H, σ, he, g1, hv.keep keeps_noRef, g2, g3, hQ⟩
theorem dcallQ_ownF {P : Program} {md : Nat → Bool} {ops : Array Oper} {sp : List (Nat × Nat)} {n0 i : Nat} {rest : List Oper} {acc : List (Nat × List Nat)} {e : Env} {dst : Option Tmp} {K : Env → AHeap → Prop} {f : FuncId} {args args' : List D} {H : AHeap} {ty : TypeId} {sz : Nat} {es : List (List D)}
    (hp : Own P f args' ty sz es) (ha : args.map (rsvD H) = args') (hcl : D.clL args' = true) (hf : ∀ d ∈ es.flatten, d.flat = true) {S : List Nat} (hS : args.flatMap ownIds = S) (hc : chk sp i S acc)
    (h : aDraw P md ops sp n0 (i + 1) rest ((i, S) :: acc) (upd e dst (.list es)) H K) : dcallQ P md ops sp n0 i rest acc e dst K f args H := by
  subst ha hS
  unfold dcallQ
  refine ⟨.list es, _, fun H' hag => ?_, hc, h⟩
  have he := args_agree hag fun x hx => hx
  exact ACalls.ownF (by rw [he]; exact hp) (by rw [he]; exact hcl) hf ⟨rfl, rfl⟩
structure Bst where
  w : List Int
  s : Int
  d : Int
def bestD (B : Bst) : D := if B.w = [] then .nil else .list (B.w.map cI)
theorem aEq_best (P : Program) (t : TypeId) (B : Bst) (H : AHeap) : aEq P t .eql (bestD B) .nil H = ⟨(sl P t).isSome = true, True, .bool (decide (B.w = [])), H⟩ := by
  unfold bestD
  by_cases h : B.w = []
  · simp [h, aEq]
  · simp [h, aEq]
theorem bestD_cons (w : List Int) (s d : Int) (h : w ≠ []) : bestD ⟨w, s, d⟩ = .list (w.map cI) := if_neg h
def posB (xs : List (List Int)) (w : List Int) : Bool := xs.any fun x => decide (0 < prodF w x)
def cntN (xs : List (List Int)) (w : List Int) : Int := (xs.map fun x => if prodF w x < 0 then (1 : Int) else 0).sum
def leafBst (xs : List (List Int)) (w : List Int) (s : Int) (B : Bst) : Bst :=
  if posB xs w = true then B
  else if (decide (B.w = []) || decide (B.d < cntN xs w) || (decide (cntN xs w = B.d) && decide (s < B.s))) = true then ⟨w, s, cntN xs w⟩ else B
def tryB (xs : List (List Int)) : List Int → List Int → Int → Bst → Bst
  | [], w, s, B => leafBst xs w s B
  | p :: ts, w, s, B => (List.range 7).foldl (fun B (v : Nat) => tryB xs ts (w.set p.toNat v) (s + v) B) B
theorem range_fold_succ {β : Type} (f : β → Nat → β) (b : β) (n : Nat) : (List.range (n + 1)).foldl f b = f ((List.range n).foldl f b) n := by
  rw [List.range_succ, List.foldl_append]; rfl
structure FS (f e c q : Nat) (xs : List (List Int)) (tch : List Int) (nn : Nat) (H : AHeap) (w : List Int) (s : Int) (B : Bst) : Prop where
  bf : H.get f = some ⟨169, 7, [[.own e xs.length, .own c tch.length, .own q nn, dI s, bestD B, dI B.s, dI B.d]], false⟩
  be : H.get e = some ⟨31, 1, xs.map cL, false⟩
  bc : H.get c = some ⟨3, 1, tch.map cI, false⟩
  bq : H.get q = some ⟨3, 1, w.map cI, false⟩
  len : w.length = nn
  dig : ∀ x ∈ w, 0 ≤ x ∧ x ≤ 6
theorem cntN_succ (xs : List (List Int)) (w : List Int) {i : Nat} (h : i < xs.length) : cntN (xs.take (i + 1)) w = cntN (xs.take i) w + (if prodF w xs[i] < 0 then 1 else 0) := sum_take_succ xs (fun x => if prodF w x < 0 then (1 : Int) else 0) h
theorem cntN_nil (w : List Int) : cntN [] w = 0 := rfl
theorem cntN_le (w : List Int) : ∀ xs : List (List Int), 0 ≤ cntN xs w ∧ cntN xs w ≤ xs.length
  | [] => by simp [cntN]
  | x :: xs => by
    have h := cntN_le w xs
    have e : cntN (x :: xs) w = (if prodF w x < 0 then (1 : Int) else 0) + cntN xs w := by simp [cntN]
    rw [e]; simp only [List.length_cons]; split <;> omega
theorem nodup_inj {α : Type} : ∀ {l : List α} {i j : Nat}, l.Nodup → ∀ (hi : i < l.length) (hj : j < l.length), l[i] = l[j] → i = j
  | [], i, j, _, hi, _, _ => absurd hi (by simp)
  | x :: l, 0, 0, _, _, _, _ => rfl
  | x :: l, 0, j + 1, h, _, hj, he => by
    simp only [List.getElem_cons_zero, List.getElem_cons_succ] at he
    exact absurd (he ▸ lgm _) (List.nodup_cons.1 h).1
  | x :: l, i + 1, 0, h, hi, _, he => by
    simp only [List.getElem_cons_zero, List.getElem_cons_succ] at he
    exact absurd (he ▸ lgm _) (List.nodup_cons.1 h).1
  | x :: l, i + 1, j + 1, h, hi, hj, he => by
    simp only [List.getElem_cons_succ] at he
    rw [nodup_inj (List.nodup_cons.1 h).2 _ _ he]
theorem set_zero {tch : List Int} {w : List Int} {a : Nat} (hnd : tch.Nodup) (ha : a < tch.length) (h0 : ∀ x ∈ tch, 0 ≤ x) (hz : ∀ j (h : j < tch.length), a ≤ j → w[tch[j].toNat]?.getD 0 = 0) (v : Int) : ∀ j (h : j < tch.length), a + 1 ≤ j → (w.set tch[a].toNat v)[tch[j].toNat]?.getD 0 = 0 := fun j hj hle => by
  have hne : tch[a].toNat ≠ tch[j].toNat := by
    intro h
    have h1 := h0 _ (lgm ha)
    have h2 := h0 _ (lgm hj)
    have h3 : tch[a] = tch[j] := by omega
    have := nodup_inj hnd ha hj h3
    omega
  rw [List.getElem?_set_ne hne]
  exact hz j hj (by omega)
theorem set_self {w : List Int} {p : Nat} (h : w[p]?.getD 0 = 0) : w.set p 0 = w := by
  apply List.ext_getElem?
  intro j
  rw [List.getElem?_set]
  by_cases hj : p = j
  · subst hj
    by_cases hp : p < w.length
    ·rw [lge hp] at h ⊢
     simp [hp] at h ⊢; omega
    ·rw [List.getElem?_eq_none (by omega)]; simp [hp]
  · simp [hj]
theorem finder_try (f ee c q : Nat) (hd : f ≠ ee ∧ f ≠ c ∧ f ≠ q ∧ ee ≠ c ∧ ee ≠ q ∧ c ≠ q) (xs : List (List Int)) (tch : List Int) (nn : Nat) (hX : FX xs tch nn) (hx6 : xs.length ≤ 6) (hn0 : 0 < nn) (hnd : tch.Nodup) :
    ∀ (k : Nat) (a : Nat) (w : List Int) (s : Int) (B : Bst) (G : AHeap) (Q : D → AHeap → Prop), a + k = tch.length → 0 ≤ s → s ≤ 6 * a → (∀ j (h : j < tch.length), a ≤ j → w[tch[j].toNat]?.getD 0 = 0) → f < G.next → ee < G.next → c < G.next → q < G.next → FS f ee c q xs tch nn G w s B →
    (∀ H', FS f ee c q xs tch nn H' w s (tryB xs (tch.drop a) w s B) → (∀ j, j ≠ f → j ≠ q → j < G.next → H'.get j = G.get j) → G.next ≤ H'.next → Q (.tup []) H') → ACalls Tryz.prog 91 [.ptr f 1 0 0, dI a] G Q := by
  have hfew := hX.few
  have hnf := hX.nf
  obtain ⟨d1, d2, d3, d4, d5, d6⟩ := hd
  intro k
  induction k using Nat.strongRecOn with
  | _ k ih =>
  intro a w s B G Q hk hs0 hs1 hz hfN heN hcN hqN hF hQ
  obtain ⟨gf, ge, gc, gq, hln, hdg⟩ := hF
  have hbe : ∀ H : AHeap, aEq Tryz.prog 31 .eql (bestD B) .nil H = _ := fun H => aEq_best Tryz.prog 31 B H
  unfold aEq at hbe
  simp [go_sem] at hbe
  refine (acalls_of_body (cfg := ⟨fun _ => false, fun _ => []⟩) Tz.mixed Tryz.func91 rfl rfl (nlb rfl) (by kernel_rfl) ?_)
  try simp [go_sem, gf, ge, gc, gq, hln, d1, d2, d3, d4, d5, d6, d1.symm, d2.symm, d3.symm, d4.symm, d5.symm, d6.symm, hbe, cntN_nil]
  repeat first | intro _ | refine ⟨obs, ?_⟩
  refine condQ_mk (fun h0 => ?_) (fun h0 => ?_)
  · try simp [go_sem] at h0
    have ha : a < tch.length := by omega
    have hp := hX.tb _ (lgm ha)
    have hdrop : tch.drop a = tch[a] :: tch.drop (a + 1) := List.drop_eq_getElem_cons ha
    try simp [go_sem, gf, ge, gc, gq, hln, d1, d2, d3, d4, d5, d6, d1.symm, d2.symm, d3.symm, d4.symm, d5.symm, d6.symm, hbe, cntN_nil, lge ha]
    obtain ⟨I0, hI0⟩ := mkI fun v e H => (∃ w1 : List Int, ∃ B1 : Bst, (e 0 = .ptr f 1 0 0) ∧ (e 1 = dI a) ∧ (e 16 = dI v) ∧ (v ≤ 7) ∧ (FS f ee c q xs tch nn H w1 s B1) ∧ (∀ x, w1.set tch[a].toNat x = w.set tch[a].toNat x) ∧ (B1 = (List.range v).foldl (fun B (u : Nat) => tryB xs (tch.drop (a + 1)) (w.set tch[a].toNat u) (s + u) B) B) ∧ (∀ j, j ≠ f → j ≠ q → j < G.next → H.get j = G.get j) ∧ (G.next ≤ H.next))
    refine loopK I0 (fun v => 7 - v) (0) ((hI0 _ _ _).2 ⟨(w), (B), ?_, ?_, ?_, (by omega), (by exact ⟨gf, ge, gc, gq, hln, hdg⟩), (by (intro x; rfl)), (by rfl), (by (intro j _ _ _; rfl)), (by exact Nat.le_refl _)⟩) ?_
    iterate 3 (first | omega | (simp [go_sem, gf, ge, gc, gq, hln, d1, d2, d3, d4, d5, d6, d1.symm, d2.symm, d3.symm, d4.symm, d5.symm, d6.symm, hbe, cntN_nil, lge ha] <;> omega))
    intro v e H hi0
    obtain ⟨w1, B1, q0_0, q1_0, q16_0, hv7, hF1, hw1, hB, hfr, hnx⟩ := (hI0 _ _ _).1 hi0
    have F0 := And.intro q0_0 (And.intro q1_0 q16_0)
    try simp [go_sem, gf, ge, gc, gq, hln, d1, d2, d3, d4, d5, d6, d1.symm, d2.symm, d3.symm, d4.symm, d5.symm, d6.symm, hbe, cntN_nil, lge ha, F0, hF1.bf, hF1.be, hF1.bc, hF1.bq, hF1.len]
    refine condQ_mk (fun h2 => ?_) (fun h2 => ?_)
    ·try simp [go_sem] at h2
     have hk1 : tch[a].toNat < w1.length := by have := hF1.len; omega
     have hset : (List.map cI w1).set tch[a].toNat [D.int .i64 (v : Int)] = (List.map cI w).set tch[a].toNat [D.int .i64 (v : Int)] := by
      have := congrArg (List.map cI) (hw1 (v : Int))
      simpa [List.map_set, cI, dI] using this
     try simp [go_sem, gf, ge, gc, gq, hln, d1, d2, d3, d4, d5, d6, d1.symm, d2.symm, d3.symm, d4.symm, d5.symm, d6.symm, hbe, cntN_nil, lge ha, F0, hF1.bf, hF1.be, hF1.bc, hF1.bq, hF1.len, h2, lge hk1, hset]
     repeat first | intro _ | refine ⟨obs, ?_⟩
     unfold callQ; refine ih (k - 1) (by omega) (a + 1) (w.set tch[a].toNat v) (s + v) B1 _ _ (by omega) (by omega) (by omega) (set_zero hnd ha (by have := hX.tb; exact fun x hx => (this x hx).1) hz _) (by simp [go_sem]; omega) (by simp [go_sem]; omega) (by simp [go_sem]; omega) (by simp [go_sem]; omega) ⟨by simp [go_sem, gf, ge, gc, gq, hln, d1, d2, d3, d4, d5, d6, d1.symm, d2.symm, d3.symm, d4.symm, d5.symm, d6.symm, hbe, cntN_nil, lge ha, F0, hF1.bf, hF1.be, hF1.bc, hF1.bq, hF1.len, h2, lge hk1, hset], by simp [go_sem, gf, ge, gc, gq, hln, d1, d2, d3, d4, d5, d6, d1.symm, d2.symm, d3.symm, d4.symm, d5.symm, d6.symm, hbe, cntN_nil, lge ha, F0, hF1.bf, hF1.be, hF1.bc, hF1.bq, hF1.len, h2, lge hk1, hset], by simp [go_sem, gf, ge, gc, gq, hln, d1, d2, d3, d4, d5, d6, d1.symm, d2.symm, d3.symm, d4.symm, d5.symm, d6.symm, hbe, cntN_nil, lge ha, F0, hF1.bf, hF1.be, hF1.bc, hF1.bq, hF1.len, h2, lge hk1, hset], by simp [go_sem, gf, ge, gc, gq, hln, d1, d2, d3, d4, d5, d6, d1.symm, d2.symm, d3.symm, d4.symm, d5.symm, d6.symm, hbe, cntN_nil, lge ha, F0, hF1.bf, hF1.be, hF1.bc, hF1.bq, hF1.len, h2, lge hk1, hset], by rw [List.length_set]; exact hln, mem_set_dig hdg _ (by omega)⟩ (fun H2 hF2 hf2 hn2 => ?_); have gf2 := hF2.bf; have ge2 := hF2.be; have gc2 := hF2.bc; have gq2 := hF2.bq; have gl2 := hF2.len; simp [go_sem] at hn2; have hfr2 : ∀ j, j ≠ f → j ≠ q → j < G.next → H2.get j = G.get j := fun j h1 h2 h3 => by rw [hf2 j h1 h2 (by simp [go_sem]; omega)]; simp [go_sem, h1, h2]; exact hfr j h1 h2 h3
     try simp [go_sem, gf, ge, gc, gq, hln, d1, d2, d3, d4, d5, d6, d1.symm, d2.symm, d3.symm, d4.symm, d5.symm, d6.symm, hbe, cntN_nil, lge ha, F0, hF1.bf, hF1.be, hF1.bc, hF1.bq, hF1.len, h2, lge hk1, hset, gf2, ge2, gc2, gq2, gl2]
     repeat first | intro _ | refine ⟨obs, ?_⟩
     refine nextQ_mk (v + 1) (by omega) ((hI0 _ _ _).2 ⟨(w.set tch[a].toNat v), (tryB xs (tch.drop (a + 1)) (w.set tch[a].toNat v) (s + v) B1), ?_, ?_, ?_, (by omega), (by (exact ⟨by simp [go_sem, gf2], by simp [go_sem, ge2, d1.symm], by simp [go_sem, gc2, d2.symm], by simp [go_sem, gq2, d3.symm], gl2, hF2.dig⟩)), (by (intro x; simp)), (by (rw [range_fold_succ, ← hB])), (by (intro j h1 h2 h3; simp [go_sem, h1, h2]; exact hfr2 j h1 h2 h3)), (by (simp [go_sem]; omega))⟩) <;> first | omega | (simp [go_sem, gf, ge, gc, gq, hln, d1, d2, d3, d4, d5, d6, d1.symm, d2.symm, d3.symm, d4.symm, d5.symm, d6.symm, hbe, cntN_nil, lge ha, F0, hF1.bf, hF1.be, hF1.bc, hF1.bq, hF1.len, h2, lge hk1, hset, gf2, ge2, gc2, gq2, gl2] <;> omega)
    ·try simp [go_sem] at h2
     have hk1 : tch[a].toNat < w1.length := by have := hF1.len; omega
     have hset : (List.map cI w1).set tch[a].toNat [D.int .i64 0] = List.map cI w := by
      have := congrArg (List.map cI) ((hw1 0).trans (set_self (hz a ha (Nat.le_refl _))))
      simpa [List.map_set, cI, dI] using this
     have hB7 : tryB xs (tch.drop a) w s B = B1 := by
      rw [hdrop, hB, show v = 7 by omega]; rfl
     try simp [go_sem, gf, ge, gc, gq, hln, d1, d2, d3, d4, d5, d6, d1.symm, d2.symm, d3.symm, d4.symm, d5.symm, d6.symm, hbe, cntN_nil, lge ha, F0, hF1.bf, hF1.be, hF1.bc, hF1.bq, hF1.len, lge hk1, hset]
     repeat first | intro _ | refine ⟨obs, ?_⟩
     exact hQ _ (by rw [hB7]; exact ⟨by simp [go_sem, gf, ge, gc, gq, hln, d1, d2, d3, d4, d5, d6, d1.symm, d2.symm, d3.symm, d4.symm, d5.symm, d6.symm, hbe, cntN_nil, lge ha, F0, hF1.bf, hF1.be, hF1.bc, hF1.bq, hF1.len, lge hk1, hset], by simp [go_sem, gf, ge, gc, gq, hln, d1, d2, d3, d4, d5, d6, d1.symm, d2.symm, d3.symm, d4.symm, d5.symm, d6.symm, hbe, cntN_nil, lge ha, F0, hF1.bf, hF1.be, hF1.bc, hF1.bq, hF1.len, lge hk1, hset], by simp [go_sem, gf, ge, gc, gq, hln, d1, d2, d3, d4, d5, d6, d1.symm, d2.symm, d3.symm, d4.symm, d5.symm, d6.symm, hbe, cntN_nil, lge ha, F0, hF1.bf, hF1.be, hF1.bc, hF1.bq, hF1.len, lge hk1, hset], by simp [go_sem, gf, ge, gc, gq, hln, d1, d2, d3, d4, d5, d6, d1.symm, d2.symm, d3.symm, d4.symm, d5.symm, d6.symm, hbe, cntN_nil, lge ha, F0, hF1.bf, hF1.be, hF1.bc, hF1.bq, hF1.len, lge hk1, hset], hln, hdg⟩) (by intro j h1 h2 h3; simp [go_sem, h1, h2]; exact hfr j h1 h2 h3) (by simp [go_sem]; omega)
  · try simp [go_sem] at h0
    have hwne : w ≠ [] := by intro h; rw [h] at hln; simp at hln; omega
    have hak : a = tch.length := by omega
    have hdrop : tch.drop a = [] := List.drop_eq_nil_of_le (by omega)
    try simp [go_sem, gf, ge, gc, gq, hln, d1, d2, d3, d4, d5, d6, d1.symm, d2.symm, d3.symm, d4.symm, d5.symm, d6.symm, hbe, cntN_nil]
    repeat first | intro _ | refine ⟨obs, ?_⟩
    obtain ⟨I2, hI2⟩ := mkI fun i e H => ((e 0 = .ptr f 1 0 0) ∧ (e 1 = dI a) ∧ (e 5 = dI (cntN (xs.take i) w)) ∧ (e 68 = .own ee xs.length) ∧ (e 69 = dI xs.length) ∧ (e 70 = dI i) ∧ (i ≤ xs.length) ∧ (posB (xs.take i) w = false) ∧ (H = G))
    refine loopK I2 (fun i => xs.length - i) (0) ((hI2 _ _ _).2 ⟨?_, ?_, ?_, ?_, ?_, ?_, (by first | assumption | omega | (simp [go_sem, gf, ge, gc, gq, hln, d1, d2, d3, d4, d5, d6, d1.symm, d2.symm, d3.symm, d4.symm, d5.symm, d6.symm, hbe, cntN_nil]; done) | (simp_all; done)), (by rfl), (by rfl)⟩) ?_
    iterate 6 (first | omega | (simp [go_sem, gf, ge, gc, gq, hln, d1, d2, d3, d4, d5, d6, d1.symm, d2.symm, d3.symm, d4.symm, d5.symm, d6.symm, hbe, cntN_nil] <;> omega))
    intro i e H hi2
    obtain ⟨q0_2, q1_2, q5_2, q68_2, q69_2, q70_2, hi, hp, hHG⟩ := (hI2 _ _ _).1 hi2
    have F2 := And.intro q0_2 (And.intro q1_2 (And.intro q68_2 (And.intro q69_2 q70_2)))
    try simp [go_sem, gf, ge, gc, gq, hln, d1, d2, d3, d4, d5, d6, d1.symm, d2.symm, d3.symm, d4.symm, d5.symm, d6.symm, hbe, cntN_nil, F2, q5_2, hHG, cntN_nil]
    refine condQ_mk (fun h12 => ?_) (fun h12 => ?_)
    ·try simp [go_sem] at h12
     have hst := cntN_succ xs w h12
     have hle := cntN_le w (xs.take i)
     rw [List.length_take] at hle
     try simp [go_sem, gf, ge, gc, gq, hln, d1, d2, d3, d4, d5, d6, d1.symm, d2.symm, d3.symm, d4.symm, d5.symm, d6.symm, hbe, cntN_nil, F2, q5_2, hHG, cntN_nil, h12, hst]
     repeat first | intro _ | refine ⟨obs, ?_⟩
     refine callQ_pureF ((counting_product w xs[i] ⟨by rw [hX.xl _ (lgm h12)]; omega, by omega, fun x hx => by have := hdg x hx; omega, hX.xb _ (lgm h12)⟩)) (by simp [rsvC, rsvP, cellsAt, go_sem, ← List.map_take, ← List.map_drop, gf, ge, gc, gq, hln, d1, d2, d3, d4, d5, d6, d1.symm, d2.symm, d3.symm, d4.symm, d5.symm, d6.symm, hbe, cntN_nil, F2, q5_2, hHG, cntN_nil, h12, hst]) ((by first | rfl | (simp [go_sem, ← List.map_take, ← List.map_drop, gf, ge, gc, gq, hln, d1, d2, d3, d4, d5, d6, d1.symm, d2.symm, d3.symm, d4.symm, d5.symm, d6.symm, hbe, cntN_nil, F2, q5_2, hHG, cntN_nil, h12, hst]; done))) ( rfl) ?_
     try simp [go_sem, gf, ge, gc, gq, hln, d1, d2, d3, d4, d5, d6, d1.symm, d2.symm, d3.symm, d4.symm, d5.symm, d6.symm, hbe, cntN_nil, F2, q5_2, hHG, cntN_nil, h12, hst]
     repeat first | intro _ | refine ⟨obs, ?_⟩
     refine condQ_mk (fun h15 => ?_) (fun h15 => ?_)
     ·try simp [go_sem] at h15
      have hpos : posB xs w = true := List.any_eq_true.2 ⟨_, lgm h12, by simp; omega⟩
      try simp [go_sem, gf, ge, gc, gq, hln, d1, d2, d3, d4, d5, d6, d1.symm, d2.symm, d3.symm, d4.symm, d5.symm, d6.symm, hbe, cntN_nil, F2, q5_2, hHG, cntN_nil, h12, hst]
      exact hQ _ (by rw [hdrop]; unfold tryB leafBst; rw [if_pos hpos]; exact ⟨gf, ge, gc, gq, hln, hdg⟩) (by intro j _ _ _; rfl) (Nat.le_refl _)
     ·try simp [go_sem] at h15
      try simp [go_sem, gf, ge, gc, gq, hln, d1, d2, d3, d4, d5, d6, d1.symm, d2.symm, d3.symm, d4.symm, d5.symm, d6.symm, hbe, cntN_nil, F2, q5_2, hHG, cntN_nil, h12, hst]
      refine condQ_mk (fun h16 => ?_) (fun h16 => ?_)
      ·try simp [go_sem] at h16
       rw [if_pos (by omega)] at hst
       try simp [go_sem, gf, ge, gc, gq, hln, d1, d2, d3, d4, d5, d6, d1.symm, d2.symm, d3.symm, d4.symm, d5.symm, d6.symm, hbe, cntN_nil, F2, q5_2, hHG, cntN_nil, h12, hst]
       repeat first | intro _ | refine ⟨obs, ?_⟩
       refine nextQ_mk (i + 1) (by omega) ((hI2 _ _ _).2 ⟨?_, ?_, ?_, ?_, ?_, ?_, (by first | assumption | omega | (simp [go_sem, gf, ge, gc, gq, hln, d1, d2, d3, d4, d5, d6, d1.symm, d2.symm, d3.symm, d4.symm, d5.symm, d6.symm, hbe, cntN_nil, F2, q5_2, hHG, cntN_nil, h12, hst, h0, h15, h16]; done) | (simp_all <;> omega)), (by (unfold posB at hp ⊢; rw [any_take_succ _ _ _ h12, hp]; simp; omega)), (by (first | rfl | exact hHG))⟩) <;> first | omega | (simp [go_sem, gf, ge, gc, gq, hln, d1, d2, d3, d4, d5, d6, d1.symm, d2.symm, d3.symm, d4.symm, d5.symm, d6.symm, hbe, cntN_nil, F2, q5_2, hHG, cntN_nil, h12, hst] <;> omega)
      ·try simp [go_sem] at h16
       rw [if_neg (by omega)] at hst
       try simp [go_sem, gf, ge, gc, gq, hln, d1, d2, d3, d4, d5, d6, d1.symm, d2.symm, d3.symm, d4.symm, d5.symm, d6.symm, hbe, cntN_nil, F2, q5_2, hHG, cntN_nil, h12, hst]
       repeat first | intro _ | refine ⟨obs, ?_⟩
       refine nextQ_mk (i + 1) (by omega) ((hI2 _ _ _).2 ⟨?_, ?_, ?_, ?_, ?_, ?_, (by first | assumption | omega | (simp [go_sem, gf, ge, gc, gq, hln, d1, d2, d3, d4, d5, d6, d1.symm, d2.symm, d3.symm, d4.symm, d5.symm, d6.symm, hbe, cntN_nil, F2, q5_2, hHG, cntN_nil, h12, hst, h0, h15, h16]; done) | (simp_all <;> omega)), (by (unfold posB at hp ⊢; rw [any_take_succ _ _ _ h12, hp]; simp; omega)), (by (first | rfl | exact hHG))⟩) <;> first | omega | (simp [go_sem, gf, ge, gc, gq, hln, d1, d2, d3, d4, d5, d6, d1.symm, d2.symm, d3.symm, d4.symm, d5.symm, d6.symm, hbe, cntN_nil, F2, q5_2, hHG, cntN_nil, h12, hst] <;> omega)
    ·try simp [go_sem] at h12
     rw [List.take_of_length_le (by omega)] at hp q5_2
     try simp [go_sem, gf, ge, gc, gq, hln, d1, d2, d3, d4, d5, d6, d1.symm, d2.symm, d3.symm, d4.symm, d5.symm, d6.symm, hbe, cntN_nil, F2, q5_2, hHG, cntN_nil, q5_2]
     repeat first | intro _ | refine ⟨obs, ?_⟩
     refine condQ_mk (fun h19 => ?_) (fun h19 => ?_)
     ·try simp [go_sem] at h19
      have hL : leafBst xs w s B = ⟨w, s, cntN xs w⟩ := by unfold leafBst; rw [if_neg (by simp [hp]), if_pos (by simpa only [Bool.or_eq_true, Bool.and_eq_true, decide_eq_true_eq] using h19)]
      try simp [go_sem, gf, ge, gc, gq, hln, d1, d2, d3, d4, d5, d6, d1.symm, d2.symm, d3.symm, d4.symm, d5.symm, d6.symm, hbe, cntN_nil, F2, q5_2, hHG, cntN_nil, q5_2]
      refine dcallQ_ownF (clone_intC w (by omega) hwne) (by simp [go_sem, gf, ge, gc, gq, hln, d1, d2, d3, d4, d5, d6, d1.symm, d2.symm, d3.symm, d4.symm, d5.symm, d6.symm, hbe, cntN_nil, F2, q5_2, hHG, cntN_nil, q5_2]) (by simp [go_sem]) (by intro d hd; rw [flat_cI, List.mem_map] at hd; obtain ⟨x, _, rfl⟩ := hd; rfl) rfl (by simp [go_sem]) ?_
      try simp [go_sem, gf, ge, gc, gq, hln, d1, d2, d3, d4, d5, d6, d1.symm, d2.symm, d3.symm, d4.symm, d5.symm, d6.symm, hbe, cntN_nil, F2, q5_2, hHG, cntN_nil, q5_2]
      exact hQ _ (by rw [hdrop]; unfold tryB; rw [hL]; exact ⟨by simp [go_sem, bestD_cons _ _ _ hwne, dI], by simp [go_sem, gf, ge, gc, gq, hln, d1, d2, d3, d4, d5, d6, d1.symm, d2.symm, d3.symm, d4.symm, d5.symm, d6.symm, hbe, cntN_nil, F2, q5_2, hHG, cntN_nil, q5_2], by simp [go_sem, gf, ge, gc, gq, hln, d1, d2, d3, d4, d5, d6, d1.symm, d2.symm, d3.symm, d4.symm, d5.symm, d6.symm, hbe, cntN_nil, F2, q5_2, hHG, cntN_nil, q5_2], by simp [go_sem, gf, ge, gc, gq, hln, d1, d2, d3, d4, d5, d6, d1.symm, d2.symm, d3.symm, d4.symm, d5.symm, d6.symm, hbe, cntN_nil, F2, q5_2, hHG, cntN_nil, q5_2], hln, hdg⟩) (by intro j h1 h2 _; simp [go_sem, h1, h2]) (by simp [go_sem]; omega)
     ·try simp [go_sem] at h19
      have hL : leafBst xs w s B = B := by unfold leafBst; rw [if_neg (by simp [hp]), if_neg (by simp only [Bool.or_eq_true, Bool.and_eq_true, decide_eq_true_eq]; rintro ((h | h) | ⟨h, h'⟩); exact h19.1.1 h; omega; have := h19.2 h; omega)]
      try simp [go_sem, gf, ge, gc, gq, hln, d1, d2, d3, d4, d5, d6, d1.symm, d2.symm, d3.symm, d4.symm, d5.symm, d6.symm, hbe, cntN_nil, F2, q5_2, hHG, cntN_nil, q5_2]
      exact hQ _ (by rw [hdrop]; unfold tryB; rw [hL]; exact ⟨gf, ge, gc, gq, hln, hdg⟩) (by intro j _ _ _; rfl) (by simp)
end Go.Abs
end
section
set_option maxRecDepth 8000
open Go Go.Proofs
namespace Go.Abs
theorem ref41_kinds (t : Types) (hn : t.nodes.length ≤ 1000000) (he : t.edges.length ≤ 1000000) : Pure Tryz.prog 36 [t.d] (dI ((t.nodes.length : Int) + t.edges.length)) := by
  refine Tz.pK ⟨fun _ => false, fun _ => []⟩ Tryz.func36 rfl (fun Q hQ => ?_)
  try simp [go_sem]
  repeat (first | intro _ | (refine ⟨obl, ?_⟩))
  exact hQ _ _ (by simp [go_sem] <;> first | omega | (rw [bei]; simp <;> omega) | (simp_all <;> omega))
theorem ref05_SameInts (a b : List Int) : Pure Tryz.prog 62 [dLI a, dLI b] (.bool (decide (a = b))) := by
  refine Tz.pK ⟨fun _ => false, fun _ => []⟩ Tryz.func62 rfl (fun Q hQ => ?_)
  try simp [go_sem]
  repeat (first | intro _ | (refine ⟨obl, ?_⟩))
  refine condQ_mk (fun h1 => ?_) (fun h1 => ?_)
  · try simp [go_sem] at h1
    try simp [go_sem]
    have hne : a ≠ b := by intro h; subst h; omega
    exact hQ _ _ (.inl (by simp [go_sem, hne]))
  · try simp [go_sem] at h1
    try simp [go_sem]
    obtain ⟨I0, hI0⟩ := mkI fun i e H => ((e 0 = dLI a) ∧ (e 1 = dLI b) ∧ (e 5 = dI i) ∧ (i ≤ a.length) ∧ (a.take i = b.take i))
    refine loopK I0 (fun i => a.length - i) (0) ((hI0 _ _ _).2 ⟨?_, ?_, ?_, (by first | assumption | omega | (simp [go_sem]; done) | (simp_all; done)), (by rfl)⟩) ?_
    iterate 3 (first | omega | (simp [go_sem] <;> omega))
    intro i e H hi0
    obtain ⟨q0_0, q1_0, q5_0, hi, he⟩ := (hI0 _ _ _).1 hi0
    have F0 := And.intro q0_0 (And.intro q1_0 q5_0)
    try simp [go_sem, F0]
    repeat (first | intro _ | (refine ⟨obl, ?_⟩))
    refine condQ_mk (fun h4 => ?_) (fun h4 => ?_)
    ·try simp [go_sem] at h4
     have hib : i < b.length := by omega
     try simp [go_sem, F0, h4, hib]
     repeat (first | intro _ | (refine ⟨obl, ?_⟩))
     refine condQ_mk (fun h6 => ?_) (fun h6 => ?_)
     ·try simp [go_sem] at h6
      try simp [go_sem, F0, h4, hib]
      have hne : a ≠ b := by intro h; subst h; exact h6 rfl
      exact hQ _ _ (.inl (by simp [go_sem, hne]))
     ·try simp [go_sem] at h6
      try simp [go_sem, F0, h4, hib]
      repeat (first | intro _ | (refine ⟨obl, ?_⟩))
      refine nextQ_mk (i + 1) (by omega) ((hI0 _ _ _).2 ⟨?_, ?_, ?_, (by first | assumption | omega | (simp [go_sem, F0, h4, hib, h1, h6]; done) | (simp_all <;> omega)), (by (rw [List.take_succ_eq_append_getElem h4, List.take_succ_eq_append_getElem hib, he, h6]))⟩) <;> first | omega | (simp [go_sem, F0, h4, hib] <;> omega)
    ·try simp [go_sem] at h4
     rw [List.take_of_length_le (by omega), List.take_of_length_le (by omega)] at he
     try simp [go_sem, F0]
     exact hQ _ _ (.inl (by simp [go_sem, he]))
end Go.Abs
end
section
set_option maxRecDepth 8000
open Go Go.Proofs
namespace Go.Abs
def restI (mask : List Bool) : List Nat := (List.range mask.length).filter fun i => mask[i]?.getD false
def restX (ls : List (List Int)) (mask : List Bool) : List (List Int) := ((List.range ls.length).filter fun i => mask[i]?.getD false).map fun i => ls[i]?.getD []
def hitB (ls : List (List Int)) (mask : List Bool) (k i : Nat) : Bool := mask[i]?.getD false && decide ((ls[i]?.getD [])[k]?.getD 0 ≠ 0)
def touchM (n : Nat) (ls : List (List Int)) (mask : List Bool) : List Int := ((List.range n).filter fun (k : Nat) => (List.range ls.length).any (hitB ls mask k)).map fun (k : Nat) => (k : Int)
theorem range_any_succ (p : Nat → Bool) (i : Nat) : (List.range (i + 1)).any p = ((List.range i).any p || p i) := by
  rw [List.range_succ, List.any_append]; simp
theorem ref41_touched (n : Nat) (hn : n ≤ 100000) (ls : List (List Int)) (mask : List Bool) (hm : mask.length = ls.length) (hl : ∀ l ∈ ls, l.length = n) : Pure Tryz.prog 35 [.list (ls.map cL), .list (mask.map cB), dI n] (dLI (touchM n ls mask)) := by
  refine Tz.pK ⟨fun t => t == 7, fun _ => []⟩ Tryz.func35 rfl (fun Q hQ => ?_)
  try simp [go_sem]
  obtain ⟨I0, hI0⟩ := mkI fun k e H => (∃ ys : List Int, (e 0 = .list (ls.map cL)) ∧ (e 1 = .list (mask.map cB)) ∧ (e 2 = dI n) ∧ (e 7 = .own 0 ys.length) ∧ (e 8 = dI k) ∧ (H.get 0 = some ⟨3, 1, ys.map cI, false⟩) ∧ (0 < H.next) ∧ (k ≤ n) ∧ (ys.length ≤ k) ∧ (ys = ((List.range k).filter fun (k : Nat) => (List.range ls.length).any (hitB ls mask k)).map (fun (b : Nat) => (b : Int))))
  refine loopK I0 (fun k => n - k) (0) ((hI0 _ _ _).2 ⟨([]), ?_, ?_, ?_, ?_, ?_, ?_, ?_, (by first | assumption | omega | (simp [go_sem]; done) | (simp_all; done)), (by simp), (by rfl)⟩) ?_
  iterate 7 (first | omega | (simp [go_sem] <;> omega))
  intro k e H hi0
  obtain ⟨ys, q0_0, q1_0, q2_0, q7_0, q8_0, g0_0, n0_0, hk, hyl, hy⟩ := (hI0 _ _ _).1 hi0
  have x0 := frs n0_0
  have F0 := And.intro q0_0 (And.intro q1_0 (And.intro q2_0 (And.intro q7_0 (And.intro q8_0 (And.intro g0_0 x0)))))
  try simp [go_sem, F0]
  refine condQ_mk (fun h3 => ?_) (fun h3 => ?_)
  · try simp [go_sem] at h3
    try simp [go_sem, F0, h3]
    obtain ⟨I2, hI2⟩ := mkI fun i e H => ((e 0 = .list (ls.map cL)) ∧ (e 1 = .list (mask.map cB)) ∧ (e 2 = dI n) ∧ (e 7 = .own 0 ys.length) ∧ (e 8 = dI k) ∧ (e 9 = .bool ((List.range i).any (hitB ls mask k))) ∧ (e 10 = dI i) ∧ (H.get 0 = some ⟨3, 1, ys.map cI, false⟩) ∧ (0 < H.next) ∧ (i ≤ ls.length))
    refine loopK I2 (fun i => ls.length - i) (0) ((hI2 _ _ _).2 ⟨?_, ?_, ?_, ?_, ?_, ?_, ?_, ?_, ?_, (by first | assumption | omega | (simp [go_sem, F0, h3]; done) | (simp_all; done))⟩) ?_
    iterate 9 (first | omega | (simp [go_sem, F0, h3] <;> omega))
    intro i e H hi2
    obtain ⟨q0_2, q1_2, q2_2, q7_2, q8_2, q9_2, q10_2, g0_2, n0_2, hi⟩ := (hI2 _ _ _).1 hi2
    have x0 := frs n0_2
    have F2 := And.intro q0_2 (And.intro q1_2 (And.intro q2_2 (And.intro q7_2 (And.intro q8_2 (And.intro q10_2 (And.intro g0_2 x0))))))
    try simp [go_sem, h3, F2, q9_2]
    repeat (first | intro _ | (refine ⟨obl, ?_⟩))
    refine condQ_mk (fun h7 => ?_) (fun h7 => ?_)
    ·try simp [go_sem] at h7
     have hlk : k < (ls[i]'(by omega)).length := by rw [hl _ (lgm h7)]; omega
     have hmi : i < mask.length := by omega
     have hhit : hitB ls mask k i = (mask[i] && !decide (ls[i][k] = 0)) := by simp [hitB, lge h7, lge hlk, lge hmi]
     have hts := range_any_succ (hitB ls mask k) i
     rw [hhit] at hts
     have hts2 : (ls[i][k] != 0) = !decide (ls[i][k] = 0) := rfl
     try simp [go_sem, h3, F2, q9_2, h7, lge hlk, lge hmi, hhit, hts2, -List.any_eq_true, hmi]
     repeat (first | intro _ | (refine ⟨obl, ?_⟩))
     refine nextQ_mk (i + 1) (by omega) ((hI2 _ _ _).2 ⟨?_, ?_, ?_, ?_, ?_, ?_, ?_, ?_, ?_, (by first | assumption | omega | (simp [go_sem, h3, F2, q9_2, h7, lge hlk, lge hmi, hhit, hts2, -List.any_eq_true, hmi]; done) | (simp_all <;> omega))⟩) <;> first | omega | (simp [go_sem, h3, F2, q9_2, h7, lge hlk, lge hmi, hhit, hts2, -List.any_eq_true, hmi] <;> omega)
    ·try simp [go_sem] at h7
     have hU : i = ls.length := by omega
     subst hU
     obtain ⟨b, hb⟩ : ∃ b, (List.range ls.length).any (hitB ls mask k) = b := ⟨_, rfl⟩
     rw [hb] at q9_2
     try simp [go_sem, h3, F2, q9_2, hb]
     refine condQ_mk (fun h10 => ?_) (fun h10 => ?_)
     ·try simp [go_sem] at h10
      try simp [go_sem, h3, F2, q9_2, hb, h10]
      repeat (first | intro _ | (refine ⟨obl, ?_⟩))
      refine nextQ_mk (k + 1) (by omega) ((hI0 _ _ _).2 ⟨(ys ++ (if ((List.range ls.length).any (hitB ls mask k)) = true then [(k : Int)] else [])), ?_, ?_, ?_, ?_, ?_, ?_, ?_, (by first | assumption | omega | (simp [go_sem, h3, F2, q9_2, hb, h10, h7]; done) | (simp_all <;> omega)), (by (rw [List.length_append]; split <;> simp <;> omega)), (by (rw [range_filter_succ, ← hy]))⟩) <;> first | omega | (simp [go_sem, h3, F2, q9_2, hb, h10] <;> omega)
     ·try simp [go_sem] at h10
      try simp [go_sem, h3, F2, q9_2, hb, h10]
      repeat (first | intro _ | (refine ⟨obl, ?_⟩))
      refine nextQ_mk (k + 1) (by omega) ((hI0 _ _ _).2 ⟨(ys ++ (if ((List.range ls.length).any (hitB ls mask k)) = true then [(k : Int)] else [])), ?_, ?_, ?_, ?_, ?_, ?_, ?_, (by first | assumption | omega | (simp [go_sem, h3, F2, q9_2, hb, h10, h7]; done) | (simp_all <;> omega)), (by (rw [List.length_append]; split <;> simp <;> omega)), (by (rw [range_filter_succ, ← hy]))⟩) <;> first | omega | (simp [go_sem, h3, F2, q9_2, hb, h10] <;> omega)
  · try simp [go_sem] at h3
    try simp [go_sem, F0]
    exact hQ _ _ (.inl (by simp [go_sem, F0, touchM]; rw [hy, show k = n by omega]; simp))
def lowM (ls : List (List Int)) (mask : List Bool) (w : List Int) (i : Nat) : Bool := mask[i]?.getD false && decide (prodF w (ls[i]?.getD []) < 0)
def highM (ls : List (List Int)) (mask : List Bool) (w : List Int) (i : Nat) : Bool := mask[i]?.getD false && decide (0 < prodF w (ls[i]?.getD []))
def lowL (ls : List (List Int)) (mask : List Bool) (w : List Int) : List Int := ((List.range ls.length).filter (lowM ls mask w)).map fun (i : Nat) => (i : Int)
def okM (ls : List (List Int)) (mask : List Bool) (w : List Int) : Bool := !((List.range ls.length).any (highM ls mask w))
end Go.Abs
end
section
set_option maxRecDepth 8000
open Go Go.Proofs
namespace Go.Abs
theorem equal_int (a b : List Int) : Pure Tryz.prog 20 [dLI a, dLI b] (.bool (decide (a = b))) := by
  refine Tz.pK ⟨fun _ => false, fun _ => []⟩ Tryz.func20 rfl (fun Q hQ => ?_)
  try simp [go_sem]
  repeat (first | intro _ | (refine ⟨obl, ?_⟩))
  refine condQ_mk (fun h1 => ?_) (fun h1 => ?_)
  · try simp [go_sem] at h1
    try simp [go_sem]
    have hne : a ≠ b := by intro h; subst h; omega
    exact hQ _ _ (.inl (by simp [go_sem, hne]))
  · try simp [go_sem] at h1
    try simp [go_sem]
    repeat (first | intro _ | (refine ⟨obl, ?_⟩))
    obtain ⟨I0, hI0⟩ := mkI fun i e H => ((e 0 = dLI a) ∧ (e 1 = dLI b) ∧ (e 12 = dI a.length) ∧ (e 13 = dI i) ∧ (i ≤ a.length) ∧ (a.take i = b.take i))
    refine loopK I0 (fun i => a.length - i) (0) ((hI0 _ _ _).2 ⟨?_, ?_, ?_, ?_, (by first | assumption | omega | (simp [go_sem]; done) | (simp_all; done)), (by rfl)⟩) ?_
    iterate 4 (first | omega | (simp [go_sem] <;> omega))
    intro i e H hi0
    obtain ⟨q0_0, q1_0, q12_0, q13_0, hi, he⟩ := (hI0 _ _ _).1 hi0
    have F0 := And.intro q0_0 (And.intro q1_0 (And.intro q12_0 q13_0))
    try simp [go_sem, F0]
    refine condQ_mk (fun h4 => ?_) (fun h4 => ?_)
    ·try simp [go_sem] at h4
     have hib : i < b.length := by omega
     try simp [go_sem, F0, h4, hib]
     repeat (first | intro _ | (refine ⟨obl, ?_⟩))
     refine condQ_mk (fun h6 => ?_) (fun h6 => ?_)
     ·try simp [go_sem] at h6
      try simp [go_sem, F0, h4, hib]
      have hne : a ≠ b := by intro h; subst h; exact h6 rfl
      exact hQ _ _ (.inl (by simp [go_sem, hne]))
     ·try simp [go_sem] at h6
      try simp [go_sem, F0, h4, hib]
      repeat (first | intro _ | (refine ⟨obl, ?_⟩))
      refine nextQ_mk (i + 1) (by omega) ((hI0 _ _ _).2 ⟨?_, ?_, ?_, ?_, (by first | assumption | omega | (simp [go_sem, F0, h4, hib, h1, h6]; done) | (simp_all <;> omega)), (by (rw [List.take_succ_eq_append_getElem h4, List.take_succ_eq_append_getElem hib, he, h6]))⟩) <;> first | omega | (simp [go_sem, F0, h4, hib] <;> omega)
    ·try simp [go_sem] at h4
     rw [List.take_of_length_le (by omega), List.take_of_length_le (by omega)] at he
     try simp [go_sem, F0]
     exact hQ _ _ (.inl (by simp [go_sem, he]))
deriving instance DecidableEq for Stage
theorem ref41_SameStages (a b : List Stage) : Pure Tryz.prog 27 [.list (a.map Stage.c), .list (b.map Stage.c)] (.bool (decide (a = b))) := by
  refine Tz.pK ⟨fun _ => false, fun _ => []⟩ Tryz.func27 rfl (fun Q hQ => ?_)
  try simp [go_sem]
  repeat (first | intro _ | (refine ⟨obl, ?_⟩))
  refine condQ_mk (fun h1 => ?_) (fun h1 => ?_)
  · try simp [go_sem] at h1
    try simp [go_sem]
    have hne : a ≠ b := by intro h; subst h; omega
    exact hQ _ _ (.inl (by simp [go_sem, hne]))
  · try simp [go_sem] at h1
    try simp [go_sem]
    obtain ⟨I0, hI0⟩ := mkI fun i e H => ((e 0 = .list (a.map Stage.c)) ∧ (e 1 = .list (b.map Stage.c)) ∧ (e 5 = dI i) ∧ (i ≤ a.length) ∧ (a.take i = b.take i))
    refine loopK I0 (fun i => a.length - i) (0) ((hI0 _ _ _).2 ⟨?_, ?_, ?_, (by first | assumption | omega | (simp [go_sem]; done) | (simp_all; done)), (by rfl)⟩) ?_
    iterate 3 (first | omega | (simp [go_sem] <;> omega))
    intro i e H hi0
    obtain ⟨q0_0, q1_0, q5_0, hi, he⟩ := (hI0 _ _ _).1 hi0
    have F0 := And.intro q0_0 (And.intro q1_0 q5_0)
    try simp [go_sem, F0]
    repeat (first | intro _ | (refine ⟨obl, ?_⟩))
    refine condQ_mk (fun h4 => ?_) (fun h4 => ?_)
    ·try simp [go_sem] at h4
     have hib : i < b.length := by omega
     have hS2 := ref05_SameInts a[i].removed b[i].removed
     try simp [go_sem, F0, h4, hib]
     repeat (first | intro _ | (refine ⟨obl, ?_⟩))
     refine dcq0 (ref05_SameInts a[i].weights b[i].weights) ?_
     try simp [go_sem, F0, h4, hib]
     repeat (first | intro _ | (refine ⟨obl, ?_⟩))
     refine dgcq0 (fun hg => hS2) ?_
     try simp [go_sem, F0, h4, hib]
     repeat (first | intro _ | (refine ⟨obl, ?_⟩))
     refine condQ_mk (fun h6 => ?_) (fun h6 => ?_)
     ·try simp [go_sem] at h6
      have hne : a ≠ b := by intro h; subst h; simp at h6
      try simp [go_sem, F0, h4, hib]
      exact hQ _ _ (.inl (by simp [go_sem, hne]))
     ·try simp [go_sem] at h6
      have hEq : a[i] = b[i] := by
       have h6' : a[i].weights = b[i].weights ∧ a[i].removed = b[i].removed := by simpa using h6
       cases ha : a[i]; cases hb : b[i]; rw [ha, hb] at h6'; simp at h6'; rw [h6'.1, h6'.2]
      try simp [go_sem, F0, h4, hib]
      repeat (first | intro _ | (refine ⟨obl, ?_⟩))
      refine nextQ_mk (i + 1) (by omega) ((hI0 _ _ _).2 ⟨?_, ?_, ?_, (by first | assumption | omega | (simp [go_sem, F0, h4, hib, h1, h6]; done) | (simp_all <;> omega)), (by (rw [List.take_succ_eq_append_getElem h4, List.take_succ_eq_append_getElem hib, he, hEq]))⟩) <;> first | omega | (simp [go_sem, F0, h4, hib] <;> omega)
    ·try simp [go_sem] at h4
     rw [List.take_of_length_le (by omega), List.take_of_length_le (by omega)] at he
     try simp [go_sem, F0]
     exact hQ _ _ (.inl (by simp [go_sem, he]))
def rankE (t : Types) (st : List Stage) (g : Graph) : Int :=
  if typed18 t g ≠ 0 then typed18 t g else if 6 < st.length then 3 else listE (fun s => weightE t s.weights g) st
def rankF (t : Types) (st : List Stage) (g : Graph) : List Int := if rankE t st g = 0 then st.map fun s => weightF t s.weights g else []
end Go.Abs
end
section
set_option maxRecDepth 8000
open Go Go.Proofs
namespace Go.Abs
theorem fewR_ok {r : Rule} (h : fewR r = true) : r.ok := by
  simp only [fewR, Bool.and_eq_true, decide_eq_true_eq] at h
  obtain ⟨⟨⟨⟨⟨h1, h2⟩, h3⟩, h4⟩, h5⟩, h6⟩ := h
  simp [fewPart] at h4 h5
  simp [fewC] at h6
  have h7 := leftC_ok r.cond 40 (by omega) h6
  exact ⟨by omega, by omega, by omega, by omega, by omega, h7.1, by omega⟩
theorem fewRs_ok {rs : List Rule} (h : fewRs rs = true) : rs.length ≤ 8 ∧ ∀ r ∈ rs, r.ok := by
  simp [fewRs] at h
  exact ⟨by omega, fun r hr => fewR_ok (h.2 r hr)⟩
def stepM (n i : Nat) : List Bool := List.replicate i true ++ List.replicate (n - i) false
theorem stepM_len {n i : Nat} (h : i ≤ n) : (stepM n i).length = n := by simp [stepM]; omega
theorem stepM_set {n i : Nat} (h : i < n) : (stepM n i).set i true = stepM n (i + 1) := by
  unfold stepM
  rw [List.set_append_right _ _ (by simp)]
  simp only [List.length_replicate, Nat.sub_self]
  obtain ⟨m, hm⟩ : ∃ m, n - i = m + 1 := ⟨n - i - 1, by omega⟩
  rw [hm, show n - (i + 1) = m by omega, List.replicate_succ, List.set_cons_zero, List.replicate_succ' , List.append_assoc]; rfl
theorem stepM_end (n : Nat) : stepM n n = List.replicate n true := by simp [stepM]
theorem stepM_zero (n : Nat) : stepM n 0 = List.replicate n false := by simp [stepM]
def lightB (t : Types) (rs : List Rule) : Bool :=
  if (fewT t && fewRs rs) = false then false
  else if effsE t rs ≠ 0 then true
  else decide (((touchM (t.nodes.length + t.edges.length) (effsV t rs) (List.replicate rs.length true)).length : Int) ≤ 4)
theorem ref41_Light (t : Types) (h1 : ∀ n ∈ t.nodes, n.attrs.length ≤ 1000000000000000) (rs : List Rule) (hr0 : ∀ r ∈ rs, r.le) : Pure Tryz.prog 10 [t.d, .list (rs.map Rule.c)] (.bool (lightB t rs)) := by
  refine Tz.pK ⟨fun _ => false, fun _ => []⟩ Tryz.func10 rfl (fun Q hQ => ?_)
  try simp [go_sem]
  repeat (first | intro _ | (refine ⟨obl, ?_⟩))
  refine cq0 (ref04_Few t h1) ?_
  try simp [go_sem]
  repeat (first | intro _ | (refine ⟨obl, ?_⟩))
  refine gcq0 (fun hg => ref39_Few rs hr0) ?_
  try simp [go_sem]
  repeat (first | intro _ | (refine ⟨obl, ?_⟩))
  refine condQ_mk (fun h1 => ?_) (fun h1 => ?_)
  · try simp [go_sem] at h1
    have hF : (fewT t && fewRs rs) = false := by cases h : fewT t <;> cases h' : fewRs rs <;> simp [h, h'] at h1 <;> rfl
    try simp [go_sem]
    exact hQ _ _ (.inl (by simp [go_sem, lightB, hF]))
  · try simp [go_sem] at h1
    have hF : fewT t = true ∧ fewRs rs = true := by cases h : fewT t <;> cases h' : fewRs rs <;> simp [h, h'] at h1 <;> exact ⟨rfl, rfl⟩
    have ht := fewT_ok hF.1
    have hR := fewRs_ok hF.2
    have hr := hR.2
    try simp [go_sem]
    refine cq0 (ref39_Effects t ht rs hr) ?_
    try simp [go_sem]
    refine condQ_mk (fun h4 => ?_) (fun h4 => ?_)
    ·try simp [go_sem] at h4
     try simp [go_sem]
     exact hQ _ _ (.inl (by simp [go_sem, lightB, hF.1, hF.2, h4]))
    ·try simp [go_sem] at h4
     have hX := FX_of h4
     have hV : effsV t rs = rs.map (effV t) := if_pos h4
     have hv := valid_of (effsE_of h4).1
     have hN := hv.fewN
     have hE := hv.fewE
     try simp [go_sem]
     repeat (first | intro _ | (refine ⟨obl, ?_⟩))
     obtain ⟨I0, hI0⟩ := mkI fun i e H => ((e 2 = .adr t.c) ∧ (e 1 = .list (rs.map Rule.c)) ∧ (e 5 = .list ((effsV t rs).map cL)) ∧ (e 7 = .own 0 rs.length) ∧ (e 8 = dI i) ∧ (H.get 0 = some ⟨4, 1, (stepM rs.length i).map cB, false⟩) ∧ (0 < H.next) ∧ (i ≤ rs.length) ∧ ((stepM rs.length i).length = rs.length))
     refine loopK I0 (fun i => rs.length - i) (0) ((hI0 _ _ _).2 ⟨?_, ?_, ?_, ?_, ?_, (by (simp [go_sem, stepM_zero])), ?_, (by first | assumption | omega | (simp [go_sem]; done) | (simp_all; done)), (by (exact stepM_len (Nat.zero_le _)))⟩) ?_
     iterate 6 (first | omega | (simp [go_sem] <;> omega))
     intro i e H hi0
     obtain ⟨q2_0, q1_0, q5_0, q7_0, q8_0, g0_0, n0_0, hi, hsl⟩ := (hI0 _ _ _).1 hi0
     have x0 := frs n0_0
     have F0 := And.intro q2_0 (And.intro q1_0 (And.intro q5_0 (And.intro q7_0 (And.intro q8_0 x0))))
     try simp [go_sem, F0, g0_0, hsl]
     repeat (first | intro _ | (refine ⟨obl, ?_⟩))
     refine condQ_mk (fun h8 => ?_) (fun h8 => ?_)
     ·try simp [go_sem] at h8
      have hk : i < (stepM rs.length i).length := by rw [stepM_len (by omega)]; exact h8
      try simp [go_sem, F0, g0_0, hsl, h8, lge hk, h8]
      repeat (first | intro _ | (refine ⟨obl, ?_⟩))
      refine nextQ_mk (i + 1) (by omega) ((hI0 _ _ _).2 ⟨?_, ?_, ?_, ?_, ?_, (by (simp [go_sem, F0, g0_0, hsl, h8, lge hk, h8, ← stepM_set h8, List.map_set])), ?_, (by first | assumption | omega | (simp [go_sem, F0, g0_0, hsl, h8, lge hk, h8, h1, h4]; done) | (simp_all <;> omega)), (by (exact stepM_len (by omega)))⟩) <;> first | omega | (simp [go_sem, F0, g0_0, hsl, h8, lge hk, h8] <;> omega)
     ·try simp [go_sem] at h8
      have hie : i = rs.length := by omega
      subst hie
      rw [stepM_end] at g0_0
      have hcl : D.clLL (List.replicate rs.length [D.bool true]) = true := by have := bools_cl (List.replicate rs.length true); simpa [cB] using this
      try simp [go_sem, F0, g0_0, hsl, hcl]
      repeat (first | intro _ | (refine ⟨obl, ?_⟩))
      refine cq0 (ref41_kinds t (by omega) (by omega)) ?_
      try simp [go_sem, F0, g0_0, hsl, hcl]
      repeat (first | intro _ | (refine ⟨obl, ?_⟩))
      refine callQ_pureZ (ref41_touched (t.nodes.length + t.edges.length) (by omega) (effsV t rs) (List.replicate rs.length true) (by rw [List.length_replicate, hV, List.length_map]) hX.xl) (by (simp [go_sem, F0, g0_0, hsl, hcl]) <;> rfl) ((by first | rfl | (simp [go_sem, ← List.map_take, ← List.map_drop, F0, g0_0, hsl, hcl]; done))) (by (simp [go_sem, F0, g0_0, hsl, hcl]) <;> rfl) ?_
      try simp [go_sem, F0, g0_0, hsl, hcl]
      repeat (first | intro _ | (refine ⟨obl, ?_⟩))
      exact hQ _ _ (.inl (by simp [go_sem, lightB, hF.1, hF.2, h4]))
end Go.Abs
end
section
namespace Go.Abs
mutual
def nzA : D → D
  | .nil => .list []
  | .agg cs => .agg (nzAs cs)
  | .tup cs => .tup (nzAs cs)
  | .list es => .list (nzAss es)
  | d => d
def nzAs : List D → List D
  | [] => []
  | d :: l => nzA d :: nzAs l
def nzAss : List (List D) → List (List D)
  | [] => []
  | c :: l => nzAs c :: nzAss l
end
theorem nzAs_map (l : List D) : nzAs l = l.map nzA := by
  induction l with
  | nil => rfl
  | cons a l ih => simp [nzAs, ih]
theorem nzAss_map (l : List (List D)) : nzAss l = l.map nzAs := by
  induction l with
  | nil => rfl
  | cons a l ih => simp [nzAss, ih]
theorem nzAss_flat (l : List (List D)) : (nzAss l).flatten = l.flatten.map nzA := by
  induction l with
  | nil => rfl
  | cons a l ih => simp only [nzAss, List.flatten_cons, ih, List.map_append, nzAs_map]
theorem nzA_rep {M : Nat → Prop} {σ : Nat → Option Ow} {N : Nat → Prop} {w : World} {v : Value} {d : D} (h : RepV M σ N w v d) : RepV M σ N w v (nzA d) := by
  have hm : ∀ {vs : List Value} {ds : List D}, (∀ (j : Nat) (u : Value) (d : D), vs[j]? = some u → ds[j]? = some d → RepV M σ N w u (nzA d)) →
      ∀ (j : Nat) (u : Value) (d : D), vs[j]? = some u → (ds.map nzA)[j]? = some d → RepV M σ N w u d := by
    intro vs ds ih j u d hu hd
    rw [List.getElem?_map, Option.map_eq_some_iff] at hd
    obtain ⟨y, hy, rfl⟩ := hd
    exact ih j u y hu hy
  induction h with
  | int => simp only [nzA]; exact .int _ _
  | bool => simp only [nzA]; exact .bool _
  | str => simp only [nzA]; exact .str _
  | agg vs ds hl h1 _ ih =>
    simp only [nzA, nzAs_map]
    exact .agg vs _ (by simp [hl]) h1 (hm ih)
  | tup vs ds hl _ ih =>
    simp only [nzA, nzAs_map]
    exact .tup vs _ (by simp [hl]) (hm ih)
  | nil => simp only [nzA]; exact .listN
  | listN => simp only [nzA, nzAss]; exact .listN
  | list ad cap sz xs es hc hm' hsz hl h1 hcell _ ih =>
    simp only [nzA]
    have hlen : (nzAss es).length = es.length := by rw [nzAss_map, List.length_map]
    have := RepV.list (M := M) (σ := σ) (N := N) (w := w) ad cap sz xs (nzAss es) (by rw [hlen]; exact hc) hm' (fun c hc' => by
      rw [nzAss_map, List.mem_map] at hc'
      obtain ⟨y, hy, rfl⟩ := hc'
      rw [nzAs_map, List.length_map]; exact hsz y hy) (by rw [nzAss_flat, List.length_map]; exact hl) h1 hcell (by rw [nzAss_flat]; exact hm ih)
    rwa [hlen] at this
  | adr ad xs ds hl h1 hcell hr ih => simp only [nzA]; exact .adr ad xs ds hl h1 hcell hr
  | ne ad cap hm => simp only [nzA]; exact .ne ad cap hm
  | nilp => simp only [nzA]; exact .nilp
  | ptr v id ver i off hN h1 h => simp only [nzA]; exact .ptr v id ver i off hN h1 h
  | own v id n hN h1 h => simp only [nzA]; exact .own v id n hN h1 h
  | fn f vs ds hl hr ih => simp only [nzA]; exact .fn f vs ds hl hr
  | nilf => simp only [nzA]; exact .nilf
  | opt v g d hf h ih => simp only [nzA]; exact .opt v g d hf h
  | junk v => simp only [nzA]; exact .junk v
theorem pureKA {P : Program} {f : FuncId} {args : List D} {r : D} (hcl : r.cl = true) (h : ∀ Q : D → AHeap → Prop, (∀ d H', nzA (rsvT H' d) = r → Q d H') → ACalls P f args .emp Q) : Pure P f args r := by
  have h := h (fun d H' => nzA (rsvT H' d) = r) fun _ _ h => h
  refine ⟨h.1, fun M w vals hM ha => (h.2 M noRef w vals (rel_emp M w hM) (by rw [mut_emp]; exact ha)).mono fun e w' ⟨v, d, H', σ', he, hR, hv, hst, hk, hr⟩ => ⟨v, he, ?_, stp_below hst⟩⟩
  have h1 : RepV (Mut M (frzs (ownT d) H') σ') σ' (frzs (ownT d) H').al w' v r := by
    have h0 := nzA_rep (rsvT_frozen hR hv (ownT d) fun i hi => hi)
    rw [hr] at h0; exact h0
  exact h1.closed (fun ad u hm hc => ⟨fun h => hm (.inl h), hc⟩) hcl
attribute [go_sem] nzA nzAs nzAss
end Go.Abs
end
section
set_option maxRecDepth 8000
open Go Go.Proofs
namespace Go.Abs
def twoT : Types := ⟨[⟨⟨#[65]⟩, -1, false, []⟩, ⟨⟨#[66]⟩, -1, false, []⟩], []⟩
theorem law41_two : Pure Tryz.prog 31 [] twoT.d := by
  refine pureKA (by simp [go_sem, twoT]) (fun Q hQ => (acalls_of_body (cfg := ⟨fun t => t == 0, fun _ => []⟩) Tz.mixed Tryz.func31 rfl rfl (nlb rfl) (by kernel_rfl) ?_))
  simp [go_sem]
  exact hQ _ _ (by simp [go_sem, twoT])
def splitR : Rule := ⟨⟨#[115, 112, 108, 105, 116]⟩, ⟨⟨[0], []⟩, [], 0, []⟩, ⟨⟨[1, 1], []⟩, [], 0, []⟩, ⟨[], []⟩, ⟨[], []⟩, false, .mk 1 [] ⟨[], []⟩ ⟨⟨[], []⟩, [], 0, []⟩⟩
def dropR : Rule := ⟨⟨#[100, 114, 111, 112]⟩, ⟨⟨[1], []⟩, [], 0, []⟩, ⟨⟨[], []⟩, [], 0, []⟩, ⟨[], []⟩, ⟨[], []⟩, false, .mk 1 [] ⟨[], []⟩ ⟨⟨[], []⟩, [], 0, []⟩⟩
theorem law41_rules : Pure Tryz.prog 32 [] (.list ([splitR, dropR].map Rule.c)) := by
  refine pureKA (by simp [go_sem]) (fun Q hQ => (acalls_of_body (cfg := ⟨fun t => t == 1, fun _ => []⟩) Tz.mixed Tryz.func32 rfl rfl (nlb rfl) (by kernel_rfl) ?_))
  simp [go_sem]
  exact hQ _ _ (by simp [go_sem, splitR, dropR, Cond.kind, Cond.kids, Cond.map, Cond.pattern])
end Go.Abs
end
section
set_option maxRecDepth 8000
open Go Go.Proofs
namespace Go.Abs
def odoF (tch : List Int) : Nat → List Int → List Int × Bool
  | 0, w => (w, false)
  | j + 1, w => if w[(tch[j]?.getD 0).toNat]?.getD 0 < 6 then (w.set (tch[j]?.getD 0).toNat (w[(tch[j]?.getD 0).toNat]?.getD 0 + 1), true) else odoF tch j (w.set (tch[j]?.getD 0).toNat 0)
theorem counting_stages1 (l : List Int) (k : Nat) (hk : k < l.length) : Pure Tryz.prog 90 [dLI l, .adr [dI k]] (.bool (decide (l[k]?.getD 0 ≠ 0))) := by
  refine Tz.pK ⟨fun _ => false, fun _ => []⟩ Tryz.func90 rfl (fun Q hQ => ?_)
  try simp [go_sem, lge hk, hk]
  repeat (first | intro _ | (refine ⟨obl, ?_⟩))
  exact hQ _ _ (by simp [go_sem, lge hk, hk] <;> first | omega | (rw [bei]; simp <;> omega) | (simp_all <;> omega))
theorem counting_Check1 (a : Int) : Pure Tryz.prog 40 [dI a] (.bool (oddB a)) := by
  refine Tz.pK ⟨fun _ => false, fun _ => []⟩ Tryz.func40 rfl (fun Q hQ => ?_)
  try simp [go_sem]
  repeat (first | intro _ | (refine ⟨obl, ?_⟩))
  exact hQ _ _ (by simp [go_sem, oddB] <;> first | omega | (rw [bei]; simp <;> omega) | (simp_all <;> omega))
end Go.Abs
end
section
open Go Go.Proofs
namespace Go.Abs
structure BestIn (xs : List (List Int)) (nn : Nat) (B : Bst) : Prop where
  pos : posB xs B.w = false
  cnt : B.d = cntN xs B.w
  len : B.w.length = nn
  dig : ∀ x ∈ B.w, 0 ≤ x ∧ x ≤ 6
def BestOk (xs : List (List Int)) (nn : Nat) (B : Bst) : Prop := (B.w = [] ∧ B.d = 0) ∨ BestIn xs nn B
theorem leafBst_ok {xs : List (List Int)} {nn : Nat} {w : List Int} {s : Int} {B : Bst} (hw : w.length = nn) (hd : ∀ x ∈ w, 0 ≤ x ∧ x ≤ 6) (h : BestOk xs nn B) : BestOk xs nn (leafBst xs w s B) := by
  unfold leafBst
  split
  · exact h
  · rename_i hp
    split
    ·exact .inr ⟨by simpa using hp, rfl, hw, hd⟩
    ·exact h
theorem foldl_inv {α β : Type} {p : β → Prop} {f : β → α → β} {q : α → Prop} (hf : ∀ b a, p b → q a → p (f b a)) : ∀ (l : List α) (b : β), (∀ a ∈ l, q a) → p b → p (l.foldl f b)
  | [], b, _, h => h
  | a :: l, b, hq, h => foldl_inv hf l _ (fun x hx => hq x (by simp [hx])) (hf b a h (hq a (by simp)))
theorem tryB_ok {xs : List (List Int)} {nn : Nat} : ∀ (ts : List Int) (w : List Int) (s : Int) (B : Bst), w.length = nn → (∀ x ∈ w, 0 ≤ x ∧ x ≤ 6) → BestOk xs nn B → BestOk xs nn (tryB xs ts w s B)
  | [], w, s, B, hw, hd, h => by unfold tryB; exact leafBst_ok hw hd h
  | p :: ts, w, s, B, hw, hd, h => by
    unfold tryB
    refine foldl_inv (q := fun (v : Nat) => v < 7) (fun b v hb hv => ?_) _ _ (fun a ha => List.mem_range.1 ha) h
    exact tryB_ok ts _ _ _ (by rw [List.length_set]; exact hw) (mem_set_dig hd _ (by omega)) hb
end Go.Abs
end
section
open Go Go.Proofs
namespace Go.Abs
def enumL : List Int → List Int → List (List Int)
  | [], w => [w]
  | p :: ts, w => (List.range 7).flatMap fun (v : Nat) => enumL ts (w.set p.toNat v)
theorem sum_set : ∀ {w : List Int} {p : Nat} (v : Int), p < w.length → w[p]?.getD 0 = 0 → (w.set p v).sum = w.sum + v
  | [], p, v, hp, _ => by simp at hp
  | a :: w, 0, v, _, h => by simp at h; subst h; simp; omega
  | a :: w, p + 1, v, hp, h => by
    simp only [List.set_cons_succ, List.sum_cons]
    rw [sum_set v (by simpa using hp) (by simpa using h)]
    omega
theorem foldl_congr_mem {α β : Type} {f g : β → α → β} : ∀ (l : List α) (b : β), (∀ b, ∀ a ∈ l, f b a = g b a) → l.foldl f b = l.foldl g b
  | [], b, _ => rfl
  | a :: l, b, h => by
    simp only [List.foldl_cons]
    rw [h b a (by simp)]
    exact foldl_congr_mem l _ fun b x hx => h b x (by simp [hx])
theorem tryB_enum {xs : List (List Int)} : ∀ (ts : List Int) (w : List Int) (B : Bst), (∀ p ∈ ts, 0 ≤ p ∧ p < w.length) → ts.Nodup → (∀ p ∈ ts, w[p.toNat]?.getD 0 = 0) →
    tryB xs ts w w.sum B = (enumL ts w).foldl (fun B u => leafBst xs u u.sum B) B
  | [], w, B, _, _, _ => by simp [tryB, enumL]
  | p :: ts, w, B, hp, hnd, hz => by
    unfold tryB enumL
    rw [List.foldl_flatMap]
    have h0 := hp p (by simp)
    have hn := List.nodup_cons.1 hnd
    refine foldl_congr_mem _ _ fun b v _ => ?_
    rw [← sum_set (v : Int) (by omega) (hz p (by simp))]
    refine tryB_enum ts _ b (fun q hq => by rw [List.length_set]; exact hp q (by simp [hq])) hn.2 fun q hq => ?_
    have hq0 := hp q (by simp [hq])
    have hne : p.toNat ≠ q.toNat := by
     intro h
     have : p = q := by omega
     exact hn.1 (this ▸ hq)
    rw [List.getElem?_set_ne hne]
    exact hz q (by simp [hq])
end Go.Abs
end
section
open Go Go.Proofs
namespace Go.Abs
def chainR {α : Type} (R : α → α → Prop) : List α → Prop
  | [] => True
  | [_] => True
  | x :: y :: l => R x y ∧ chainR R (y :: l)
theorem chainR_append {α : Type} {R : α → α → Prop} : ∀ {l : List α} {z y : α} {m : List α}, l.getLast? = some z → chainR R l → chainR R (y :: m) → R z y → chainR R (l ++ y :: m)
  | [], z, y, m, h, _, _, _ => by simp at h
  | [x], z, y, m, h, _, h2, h3 => by simp at h; subst h; exact ⟨h3, h2⟩
  | x :: x' :: l, z, y, m, h, h1, h2, h3 => ⟨h1.1, chainR_append (l := x' :: l) (by simpa [List.getLast?_cons_cons] using h) h1.2 h2 h3⟩
def odoR (tch : List Int) (u v : List Int) : Prop := odoF tch tch.length u = (v, true)
theorem odo_enum (tch : List Int) (hnd : tch.Nodup) (nn : Nat) (htb : ∀ v ∈ tch, 0 ≤ v ∧ v < nn) : ∀ (k a : Nat), a + k = tch.length → ∀ w : List Int, w.length = nn → (∀ j (h : j < tch.length), a ≤ j → w[tch[j].toNat]?.getD 0 = 0) →
    ∃ l z, enumL (tch.drop a) w = w :: l ∧ chainR (odoR tch) (w :: l) ∧ (w :: l).getLast? = some z ∧ odoF tch tch.length z = odoF tch a w
  | 0, a, hk, w, hw, hz => by
    refine ⟨[], w, ?_, trivial, rfl, by rw [show a = tch.length by omega]⟩
    rw [List.drop_eq_nil_of_le (by omega)]; rfl
  | k + 1, a, hk, w, hw, hz => by
    have ha : a < tch.length := by omega
    have hp := htb _ (lgm ha)
    have hpl : tch[a].toNat < w.length := by omega
    have hset0 : w.set tch[a].toNat 0 = w := set_self (hz a ha (Nat.le_refl _))
    have ih : ∀ v : Int, _ := fun v => odo_enum tch hnd nn htb k (a + 1) (by omega) (w.set tch[a].toNat v) (by rw [List.length_set]; exact hw) (set_zero hnd ha (fun x hx => (htb x hx).1) hz v)
    have hend : ∀ v : Int, 0 ≤ v → odoF tch (a + 1) (w.set tch[a].toNat v) = if v < 6 then (w.set tch[a].toNat (v + 1), true) else odoF tch a w := by
      intro v hv
      simp only [odoF, lge ha, Option.getD_some, List.getElem?_set_self hpl, List.set_set, hset0]
    have main : ∀ n : Nat, n ≤ 6 → ∃ l z, (List.range (n + 1)).flatMap (fun (v : Nat) => enumL (tch.drop (a + 1)) (w.set tch[a].toNat v)) = w :: l ∧ chainR (odoR tch) (w :: l) ∧ (w :: l).getLast? = some z ∧ odoF tch tch.length z = odoF tch (a + 1) (w.set tch[a].toNat n) := by
      intro n
      induction n with
      | zero =>
        intro _
        obtain ⟨l, z, h1, h2, h3, h4⟩ := ih 0
        rw [hset0] at h1 h2 h3
        exact ⟨l, z, by simp [hset0, h1], h2, h3, by simpa [hset0] using h4⟩
      | succ n ihn =>
        intro hn
        obtain ⟨l, z, h1, h2, h3, h4⟩ := ihn (by omega)
        obtain ⟨l', z', g1, g2, g3, g4⟩ := ih ((n + 1 : Nat) : Int)
        refine ⟨l ++ w.set tch[a].toNat ((n + 1 : Nat) : Int) :: l', z', ?_, ?_, ?_, g4⟩
        · rw [List.range_succ, List.flatMap_append, h1]; simp only [List.flatMap_cons, List.flatMap_nil, List.append_nil]; rw [g1]; rfl
        · rw [← List.cons_append]
          refine chainR_append h3 h2 g2 ?_
          unfold odoR
          rw [h4, hend _ (by omega), if_pos (by omega)]; rfl
        · rw [← List.cons_append, List.getLast?_append, g3]; rfl
    obtain ⟨l, z, h1, h2, h3, h4⟩ := main 6 (by omega)
    refine ⟨l, z, ?_, h2, h3, ?_⟩
    · rw [List.drop_eq_getElem_cons ha]; exact h1
    · rw [h4, hend _ (by omega), if_neg (by omega)]
end Go.Abs
end
section
open Go Go.Proofs
namespace Go.Abs
theorem posB_rest (ls : List (List Int)) (mask : List Bool) (w : List Int) : posB (restX ls mask) w = !okM ls mask w := by
  unfold posB restX okM
  rw [List.any_map, List.any_filter, Bool.not_not]
  rfl
theorem cntN_rest (ls : List (List Int)) (mask : List Bool) (w : List Int) : cntN (restX ls mask) w = ((lowL ls mask w).length : Int) := by
  unfold cntN restX lowL
  rw [List.length_map]
  generalize List.range ls.length = l
  induction l with
  | nil => rfl
  | cons i l ih =>
    by_cases hm : mask[i]?.getD false = true
    ·by_cases hp : prodF w (ls[i]?.getD []) < 0
     ·have hl : lowM ls mask w i = true := by simp [lowM, hm, hp]
      rw [List.filter_cons_of_pos (p := fun i => mask[i]?.getD false) hm, List.filter_cons_of_pos hl]
      simp only [List.map_cons, List.sum_cons, List.length_cons]
      rw [ih, if_pos hp]; omega
     ·have hl : ¬ lowM ls mask w i = true := by simp [lowM, hm, hp]
      rw [List.filter_cons_of_pos (p := fun i => mask[i]?.getD false) hm, List.filter_cons_of_neg hl]
      simp only [List.map_cons, List.sum_cons]
      rw [ih, if_neg hp]; omega
    ·have hl : ¬ lowM ls mask w i = true := by simp [lowM, hm]
     rw [List.filter_cons_of_neg (p := fun i => mask[i]?.getD false) hm, List.filter_cons_of_neg hl, ih]
end Go.Abs
end
section
open Go Go.Proofs
namespace Go.Abs
def betterS (ls : List (List Int)) (mask : List Bool) (w : List Int) (S : Stage) : Bool :=
  okM ls mask w && (decide ((S.removed.length : Int) < (lowL ls mask w).length) || (decide (0 < ((lowL ls mask w).length : Int)) && decide (((lowL ls mask w).length : Int) = S.removed.length) && decide (w.sum < S.weights.sum)))
def leafS (ls : List (List Int)) (mask : List Bool) (S : Stage) (w : List Int) : Stage := if betterS ls mask w S = true then ⟨w, lowL ls mask w⟩ else S
def SB (ls : List (List Int)) (mask : List Bool) (S : Stage) (B : Bst) : Prop :=
  (S = ⟨[], []⟩ ∧ B.d = 0) ∨ (B.w ≠ [] ∧ S = ⟨B.w, lowL ls mask B.w⟩ ∧ B.d = (lowL ls mask B.w).length ∧ 0 < B.d ∧ B.s = B.w.sum)
theorem leaf_SB {ls : List (List Int)} {mask : List Bool} {S : Stage} {B : Bst} {w : List Int} (hw : w ≠ []) (h : SB ls mask S B) : SB ls mask (leafS ls mask S w) (leafBst (restX ls mask) w w.sum B) := by
  unfold leafS leafBst betterS
  rw [posB_rest, cntN_rest]
  generalize hL : lowL ls mask w = L
  cases hok : okM ls mask w with
  | false => simpa using h
  | true =>
    simp only [Bool.not_true, Bool.false_eq_true, if_false, Bool.true_and]
    rcases h with ⟨h1, h2⟩ | ⟨h0, h1, h2, h3, h4⟩
    ·subst h1
     by_cases hz : 0 < (L.length : Int)
     ·rw [if_pos (by simp only [Bool.or_eq_true, Bool.and_eq_true, decide_eq_true_eq, List.length_nil]; omega), if_pos (by simp only [Bool.or_eq_true, Bool.and_eq_true, decide_eq_true_eq]; exact .inl (.inr (by omega)))]
      exact .inr ⟨hw, by simp [hL], by simp [hL], hz, rfl⟩
     ·rw [if_neg (by simp only [Bool.or_eq_true, Bool.and_eq_true, decide_eq_true_eq, List.length_nil]; omega)]
      split
      ·exact .inl ⟨rfl, by show (L.length : Int) = 0; omega⟩
      ·exact .inl ⟨rfl, h2⟩
    ·subst h1
     by_cases hc : B.d < (L.length : Int) ∨ ((L.length : Int) = B.d ∧ w.sum < B.s)
     ·rw [if_pos (by simp only [Bool.or_eq_true, Bool.and_eq_true, decide_eq_true_eq]; rw [← h2, ← h4]; omega), if_pos (by simp only [Bool.or_eq_true, Bool.and_eq_true, decide_eq_true_eq]; omega)]
      exact .inr ⟨hw, by simp [hL], by simp [hL], by simp; omega, rfl⟩
     ·rw [if_neg (by simp only [Bool.or_eq_true, Bool.and_eq_true, decide_eq_true_eq]; rw [← h2, ← h4]; omega), if_neg (by simp only [Bool.or_eq_true, Bool.and_eq_true, decide_eq_true_eq]; rintro ((h | h) | h); exact h0 h; omega; omega)]
      exact .inr ⟨h0, rfl, h2, h3, h4⟩
end Go.Abs
end
section
open Go Go.Proofs
namespace Go.Abs
def bestS (ls : List (List Int)) (n : Nat) (m : List Bool) : Stage := (enumL (touchM n ls m) (List.replicate n 0)).foldl (leafS ls m) ⟨[], []⟩
def offM : List Bool → List Int → List Bool
  | m, [] => m
  | m, r :: l => offM (m.set r.toNat false) l
def cntM (m : List Bool) : Nat := m.count true
def stagesF (ls : List (List Int)) (n : Nat) : Nat → List Bool → List Stage × List Bool
  | 0, m => ([], m)
  | k + 1, m => if cntM m = 0 then ([], m) else if (bestS ls n m).removed = [] then ([], m) else
    (bestS ls n m :: (stagesF ls n k (offM m (bestS ls n m).removed)).1, (stagesF ls n k (offM m (bestS ls n m).removed)).2)
theorem offM_len : ∀ (l : List Int) (m : List Bool), (offM m l).length = m.length
  | [], m => rfl
  | r :: l, m => by unfold offM; rw [offM_len l]; simp
theorem offM_get : ∀ (l : List Int) (m : List Bool) (i : Nat), (offM m l)[i]?.getD false = (m[i]?.getD false && !(l.any fun r => decide (r.toNat = i)))
  | [], m, i => by simp [offM]
  | r :: l, m, i => by
    unfold offM
    rw [offM_get l, List.any_cons]
    have h : (m.set r.toNat false)[i]?.getD false = (m[i]?.getD false && !decide (r.toNat = i)) := by
     rw [List.getElem?_set]
     by_cases h : r.toNat = i
     ·simp only [h, if_true, decide_true, Bool.not_true, Bool.and_false]
      split <;> rfl
     ·simp [h]
    rw [h]
    cases m[i]?.getD false <;> cases decide (r.toNat = i) <;> simp
theorem offM_append (m : List Bool) : ∀ (l : List Int) (r : Int), offM m (l ++ [r]) = (offM m l).set r.toNat false := by
  intro l
  induction l generalizing m with
  | nil => intro r; rfl
  | cons a l ih => intro r; simp only [List.cons_append, offM]; exact ih _ r
theorem cntM_set : ∀ {m : List Bool} {i : Nat}, m[i]? = some true → cntM (m.set i false) + 1 = cntM m
  | [], i, h => by simp at h
  | b :: m, 0, h => by simp at h; subst h; simp [cntM]
  | b :: m, i + 1, h => by
    have ih := cntM_set (m := m) (i := i) (by simpa using h)
    unfold cntM at ih ⊢
    simp only [List.set_cons_succ, List.count_cons]
    omega
theorem onM_set {m : List Bool} {i j : Nat} (h : m[j]? = some true) (hne : i ≠ j) : (m.set i false)[j]? = some true := by rw [List.getElem?_set_ne hne]; exact h
theorem cntM_off : ∀ (l : List Int) (m : List Bool), l.Nodup → (∀ r ∈ l, 0 ≤ r ∧ m[r.toNat]? = some true) → cntM (offM m l) + l.length = cntM m
  | [], m, _, _ => by simp [offM]
  | r :: l, m, hn, h => by
    have h0 := h r (by simp)
    have hn' := List.nodup_cons.1 hn
    unfold offM
    have hq' : ∀ q ∈ l, 0 ≤ q ∧ (m.set r.toNat false)[q.toNat]? = some true := fun q hq => by
     have hq0 := h q (by simp [hq])
     refine ⟨hq0.1, onM_set hq0.2 fun he => hn'.1 ?_⟩
     have : r = q := by omega
     rw [this]; exact hq
    have ih := cntM_off l (m.set r.toNat false) hn'.2 hq'
    have := cntM_set h0.2
    simp only [List.length_cons]
    omega
theorem rangeMap (m : List Bool) : (List.range m.length).map (fun i => m[i]?.getD false) = m := by
  apply List.ext_getElem
  · simp
  · intro i h1 h2; simp at h1; simp [h1]
theorem restI_len (m : List Bool) : (restI m).length = cntM m := by
  have h : cntM m = ((List.range m.length).map (fun i => m[i]?.getD false)).count true := by rw [rangeMap]; rfl
  rw [h, List.count_eq_countP, List.countP_map, List.countP_eq_length_filter]
  unfold restI
  congr 1
  apply List.filter_congr
  intro x _
  simp
theorem restX_restI {ls : List (List Int)} {m : List Bool} (h : m.length = ls.length) : restX ls m = (restI m).map fun i => ls[i]?.getD [] := by
  unfold restX restI; rw [h]
theorem restI_mem {m : List Bool} {i : Nat} : i ∈ restI m ↔ m[i]? = some true := by
  unfold restI
  rw [List.mem_filter, List.mem_range]
  constructor
  · rintro ⟨h1, h2⟩
    rw [lge h1] at h2 ⊢
    simpa using h2
  · intro h
    obtain ⟨h1, h2⟩ := List.getElem?_eq_some_iff.1 h
    exact ⟨h1, by rw [h]; rfl⟩
theorem restI_off {ls : List (List Int)} {m : List Bool} (hm : m.length = ls.length) (w : List Int) : restI (offM m (lowL ls m w)) = (restI m).filter fun i => !decide (prodF w (ls[i]?.getD []) < 0) := by
  unfold restI
  rw [offM_len, List.filter_filter]
  apply List.filter_congr
  intro i hi
  rw [offM_get]
  rw [List.mem_range] at hi
  have hany : ((lowL ls m w).any fun r => decide (r.toNat = i)) = lowM ls m w i := by
    rw [bei, List.any_eq_true]
    unfold lowL
    constructor
    ·rintro ⟨r, hr, he⟩
     rw [List.mem_map] at hr
     obtain ⟨j, hj, rfl⟩ := hr
     simp at he
     subst he
     exact (List.mem_filter.1 hj).2
    ·intro h
     exact ⟨(i : Int), List.mem_map.2 ⟨i, List.mem_filter.2 ⟨List.mem_range.2 (by omega), h⟩, rfl⟩, by simp⟩
  rw [hany]
  unfold lowM
  cases m[i]?.getD false <;> simp
theorem lowL_restI {ls : List (List Int)} {m : List Bool} (hm : m.length = ls.length) (w : List Int) : lowL ls m w = ((restI m).filter fun i => decide (prodF w (ls[i]?.getD []) < 0)).map fun (i : Nat) => (i : Int) := by
  unfold lowL restI
  rw [List.filter_filter, hm]
  congr 1
  apply List.filter_congr
  intro i _
  unfold lowM
  cases m[i]?.getD false <;> simp
theorem lowL_on {ls : List (List Int)} {m : List Bool} (hm : m.length = ls.length) (w : List Int) : (lowL ls m w).Nodup ∧ ∀ r ∈ lowL ls m w, 0 ≤ r ∧ m[r.toNat]? = some true := by
  constructor
  · unfold lowL
    refine List.Pairwise.map _ (R := fun a b => a ≠ b) (fun a b h he => h (by omega)) ?_
    exact List.Pairwise.filter _ List.nodup_range
  · intro r hr
    rw [lowL_restI hm, List.mem_map] at hr
    obtain ⟨i, hi, rfl⟩ := hr
    refine ⟨by omega, ?_⟩
    simpa using restI_mem.1 (List.mem_filter.1 hi).1
theorem touchM_in {n : Nat} {ls : List (List Int)} {m : List Bool} : (touchM n ls m).Nodup ∧ ∀ v ∈ touchM n ls m, 0 ≤ v ∧ v < n := by
  constructor
  · unfold touchM
    refine List.Pairwise.map _ (R := fun a b => a ≠ b) (fun a b h he => h (by omega)) ?_
    exact List.Pairwise.filter _ List.nodup_range
  · intro v hv
    unfold touchM at hv
    rw [List.mem_map] at hv
    obtain ⟨i, hi, rfl⟩ := hv
    have := List.mem_range.1 (List.mem_filter.1 hi).1
    omega
theorem touchM_rest {n : Nat} {ls : List (List Int)} {m : List Bool} : touchM n ls m = touchL n (restX ls m) := by
  unfold touchM touchL
  congr 1
  apply List.filter_congr
  intro k _
  unfold restX
  rw [List.any_map, List.any_filter]
  rfl
theorem touchM_few {n : Nat} {ls : List (List Int)} {m : List Bool} : (touchM n ls m).length ≤ (touchL n ls).length := by
  unfold touchM touchL
  rw [List.length_map, List.length_map, ← List.countP_eq_length_filter, ← List.countP_eq_length_filter]
  apply List.countP_mono_left
  intro k _ h
  obtain ⟨i, hi, h1⟩ := List.any_eq_true.1 h
  have hi := List.mem_range.1 hi
  unfold hitB at h1
  rw [Bool.and_eq_true, lge hi] at h1
  exact List.any_eq_true.2 ⟨ls[i], lgm hi, by simpa using h1.2⟩
theorem enumL_dig : ∀ (ts : List Int) (w : List Int), (∀ x ∈ w, 0 ≤ x ∧ x ≤ 6) → ∀ u ∈ enumL ts w, u.length = w.length ∧ ∀ x ∈ u, 0 ≤ x ∧ x ≤ 6
  | [], w, h, u, hu => by
    have : u = w := by simpa [enumL] using hu
    subst this; exact ⟨rfl, h⟩
  | p :: ts, w, h, u, hu => by
    unfold enumL at hu
    rw [List.mem_flatMap] at hu
    obtain ⟨v, hv, hu⟩ := hu
    have hv := List.mem_range.1 hv
    have := enumL_dig ts (w.set p.toNat v) (mem_set_dig h _ (by omega)) u hu
    rw [List.length_set] at this
    exact this
theorem zeros_dig (n : Nat) : ∀ x ∈ List.replicate n (0 : Int), 0 ≤ x ∧ x ≤ 6 := fun x hx => by rw [(List.mem_replicate.1 hx).2]; decide
theorem zeros_get (n j : Nat) : (List.replicate n (0 : Int))[j]?.getD 0 = 0 := by
  rw [List.getElem?_replicate]; split <;> rfl
theorem zeros_sum (n : Nat) : (List.replicate n (0 : Int)).sum = 0 := by
  induction n with
  | zero => rfl
  | succ n ih => rw [List.replicate_succ, List.sum_cons, ih]; rfl
theorem foldl_two {α β γ : Type} {R : β → γ → Prop} {f : β → α → β} {g : γ → α → γ} {q : α → Prop} (h : ∀ b c a, q a → R b c → R (f b a) (g c a)) : ∀ (l : List α) (b : β) (c : γ), (∀ a ∈ l, q a) → R b c → R (l.foldl f b) (l.foldl g c)
  | [], _, _, _, hr => hr
  | a :: l, b, c, hq, hr => foldl_two h l _ _ (fun x hx => hq x (by simp [hx])) (h b c a (hq a (by simp)) hr)
theorem best_SB (ls : List (List Int)) (n : Nat) (hn : 0 < n) (m : List Bool) : SB ls m (bestS ls n m) (tryB (restX ls m) (touchM n ls m) (List.replicate n 0) 0 ⟨[], 0, 0⟩) := by
  have h := tryB_enum (xs := restX ls m) (touchM n ls m) (List.replicate n 0) ⟨[], 0, 0⟩ (fun p hp => by have := touchM_in.2 p hp; rw [List.length_replicate]; exact this) touchM_in.1 fun p _ => zeros_get n _
  rw [zeros_sum] at h
  rw [h]
  unfold bestS
  have key := foldl_two (R := SB ls m) (f := leafS ls m) (g := fun B u => leafBst (restX ls m) u u.sum B) (q := fun w : List Int => w.length = n) (fun S B w hw hr => leaf_SB (fun h0 => by rw [h0] at hw; simp at hw; omega) hr)
    (enumL (touchM n ls m) (List.replicate n 0)) ⟨[], []⟩ ⟨[], 0, 0⟩
  refine key (fun w hw => ?_) (.inl ⟨rfl, rfl⟩)
  have := (enumL_dig _ _ (zeros_dig n) w hw).1
  rw [List.length_replicate] at this; exact this
theorem stagesF_stop {ls : List (List Int)} {n k : Nat} {m : List Bool} (h : cntM m = 0 ∨ (bestS ls n m).removed = []) : stagesF ls n k m = ([], m) := by
  cases k with
  | zero => rfl
  | succ k =>
    unfold stagesF
    by_cases h1 : cntM m = 0
    ·rw [if_pos h1]
    ·rw [if_neg h1, if_pos (h.resolve_left h1)]
theorem stagesF_step {ls : List (List Int)} {n k : Nat} {m : List Bool} (h1 : cntM m ≠ 0) (h2 : (bestS ls n m).removed ≠ []) : stagesF ls n (k + 1) m =
    (bestS ls n m :: (stagesF ls n k (offM m (bestS ls n m).removed)).1, (stagesF ls n k (offM m (bestS ls n m).removed)).2) := by
  conv => lhs; unfold stagesF
  rw [if_neg h1, if_neg h2]
theorem cntM_all (n : Nat) : cntM (List.replicate n true) = n := by simp [cntM]
end Go.Abs
end
section
set_option maxRecDepth 8000
open Go Go.Proofs
namespace Go.Abs
end Go.Abs
end
section
set_option maxRecDepth 8000
set_option maxHeartbeats 2000000
open Go Go.Proofs
namespace Go.Abs
theorem flatI (zs : List Int) : ∀ d ∈ (zs.map cI).flatten, d.flat = true := by
  intro d hd; rw [flat_cI, List.mem_map] at hd; obtain ⟨x, _, rfl⟩ := hd; rfl
end Go.Abs
end
section
set_option maxRecDepth 8000
set_option maxHeartbeats 2000000
open Go Go.Proofs
namespace Go.Abs
end Go.Abs
end
