/- Layer 32: Rule and Overlaps of the program. · The bounds tha -/
import Derived.Test.YthnegcfdjjhfgaaGreatZlA
import Derived.Test.YthnegcfdjjhfgaaGreatZlS
import Derived.Test.YthnegcfdjjhfgaaGreatZlM
set_option linter.unusedVariables false
set_option linter.unusedSimpArgs false
section
set_option maxRecDepth 60000
set_option maxHeartbeats 2000000
open Go Go.Proofs
namespace Go.Abs
theorem glued_rule' {t : Types} {a b : Rule} {o : Ovl} (ha : Rule.parts t a) (hb : Rule.parts t b) (h : cGlueE a b o = 0) : Pure Tryz.prog 28 [(cGlueG a b o).dd] (.tup [(wholeR a b o).d, dI (wholeE a b o)]) := by
  have hp : partsE a b o = 0 := by rw [← glueE_eq ha hb]; exact h
  obtain ⟨e1, e2⟩ := whole_eq ha hb hp
  have := glued_rule (cGlueG a b o) (by rw [glueG_eq ha hb hp]; exact hokL ha hb hp) (by rw [glueG_eq ha hb hp]; exact hokR ha hb hp)
  rwa [e1, e2] at this
theorem concurrent_Rule (t : Types) (ht : t.ok) (a b : Rule) (o : Ovl) (ha : a.ok) (hb : b.ok) (hat : a.thin) (hbt : b.thin) : Pure Tryz.prog 9 [t.d, a.d, b.d, o.d] (.tup [(rRule t a b o).d, dI (rErr t a b o)]) := by
  have hglue := concurrent_glue a b o ha hb
  refine pureKA (by first | rfl | (simp [go_sem]; done)) (fun Q hQ => (acalls_of_body (cfg := ⟨fun t => t == 8 || t == 11, fun _ => []⟩) Tz.mixed Tryz.func9 rfl rfl (nlb rfl) (by kernel_rfl) ?_))
  try simp [go_sem, seval, Glued.dd, Glued.c, Rule.c, Ovl.d, Ovl.c, Part.c, Part.d]
  refine callQ_pure0 (concurrent_given t ht a b ha hb hat hbt) ((by first | rfl | (simp [go_sem, ← List.map_take, ← List.map_drop, Glued.dd, Glued.c, Rule.c, Ovl.d, Ovl.c, Part.c, Part.d]; done))) ?_
  try simp [go_sem, seval, Glued.dd, Glued.c, Rule.c, Ovl.d, Ovl.c, Part.c, Part.d]
  refine condQ_mk (fun h2 => ?_) (fun h2 => ?_)
  · try simp [go_sem] at h2
    have hE : rErr t a b o = givenR t a b := if_pos h2
    have hZ : rRule t a b o = rule0 := if_pos h2
    try simp [go_sem, seval, Glued.dd, Glued.c, Rule.c, Ovl.d, Ovl.c, Part.c, Part.d]
    exact hQ _ _ (by simp [go_sem, hE, hZ, rule0, Rule.d, Rule.c, nz_ints, nz_edges, Cond.kind, Cond.kids, Cond.map, Cond.pattern])
  · try simp [go_sem] at h2
    have hE2 : ¬ givenR t a b ≠ 0 := by rw [h2]; simp
    obtain ⟨hPa, hPb⟩ := givenR_parts h2
    have hE : rErr t a b o = wholeE a b o := if_neg hE2
    have hZ : rRule t a b o = wholeR a b o := if_neg hE2
    have hgE := glueE_eq hPa hPb o
    have hGR := @glued_rule' t a b o hPa hPb
    obtain ⟨X, hX⟩ : ∃ x, cGlueG a b o = x := ⟨_, rfl⟩
    rw [hX] at hglue hGR
    try simp [go_sem, seval, Glued.dd, Glued.c, Rule.c, Ovl.d, Ovl.c, Part.c, Part.d]
    refine callQ_pure0 (hglue) ((by first | rfl | (simp [go_sem, ← List.map_take, ← List.map_drop, Glued.dd, Glued.c, Rule.c, Ovl.d, Ovl.c, Part.c, Part.d]; done))) ?_
    try simp [go_sem, seval, Glued.dd, Glued.c, Rule.c, Ovl.d, Ovl.c, Part.c, Part.d]
    refine condQ_mk (fun h5 => ?_) (fun h5 => ?_)
    ·try simp [go_sem] at h5
     have hW : wholeE a b o = cGlueE a b o := by unfold wholeE; rw [← hgE, if_pos h5]
     have hZ' : wholeR a b o = rule0 := if_neg (by rw [hW]; exact h5)
     try simp [go_sem, seval, Glued.dd, Glued.c, Rule.c, Ovl.d, Ovl.c, Part.c, Part.d]
     exact hQ _ _ (by simp [go_sem, hE, hZ, hW, hZ', rule0, Rule.d, Rule.c, nz_ints, nz_edges, Cond.kind, Cond.kids, Cond.map, Cond.pattern])
    ·try simp [go_sem] at h5
     have hrule := hGR h5
     obtain ⟨W, hWW⟩ : ∃ x, wholeR a b o = x := ⟨_, rfl⟩
     rw [hWW] at hrule hZ
     try simp [go_sem, seval, Glued.dd, Glued.c, Rule.c, Ovl.d, Ovl.c, Part.c, Part.d]
     refine callQ_pure0 (hrule) ((by first | rfl | (simp [go_sem, ← List.map_take, ← List.map_drop, Glued.dd, Glued.c, Rule.c, Ovl.d, Ovl.c, Part.c, Part.d]; done))) ?_
     try simp [go_sem, seval, Glued.dd, Glued.c, Rule.c, Ovl.d, Ovl.c, Part.c, Part.d]
     exact hQ _ _ (by simp [go_sem, Glued.dd, Glued.c, Rule.c, Ovl.d, Ovl.c, Part.c, Part.d, hE, hZ, Rule.d, Rule.c, nz_ints, nz_edges, nz_slots, nz_tests, nz_conds])
theorem concurrent_Overlaps1 (t : Types) (a b : Rule) (o : Ovl) (ha : a.ok) (hb : b.ok) (hPa : Rule.parts t a) (hPb : Rule.parts t b) : Pure Tryz.prog 45 [.agg o.c, .adr a.c, .adr b.c] (.bool (decide (wholeE a b o ≠ 0))) := by
  have hglue := concurrent_glue a b o ha hb
  have hgE := glueE_eq hPa hPb o
  have hGR := @glued_rule' t a b o hPa hPb
  obtain ⟨X, hX⟩ : ∃ x, cGlueG a b o = x := ⟨_, rfl⟩
  rw [hX] at hglue hGR
  refine Tz.pK ⟨fun t => t == 5, fun _ => []⟩ Tryz.func45 rfl (fun Q hQ => ?_)
  try simp [go_sem, seval, Glued.dd, Glued.c, Rule.c, Ovl.d, Ovl.c, Part.c, Part.d]
  refine callQ_pure0 (hglue) ((by first | rfl | (simp [go_sem, ← List.map_take, ← List.map_drop, Glued.dd, Glued.c, Rule.c, Ovl.d, Ovl.c, Part.c, Part.d]; done))) ?_
  try simp [go_sem, seval, Glued.dd, Glued.c, Rule.c, Ovl.d, Ovl.c, Part.c, Part.d]
  refine condQ_mk (fun h2 => ?_) (fun h2 => ?_)
  · try simp [go_sem] at h2
    try simp [go_sem, seval, Glued.dd, Glued.c, Rule.c, Ovl.d, Ovl.c, Part.c, Part.d]
    refine callQ_pure0 (hGR h2) ((by first | rfl | (simp [go_sem, ← List.map_take, ← List.map_drop, Glued.dd, Glued.c, Rule.c, Ovl.d, Ovl.c, Part.c, Part.d]; done))) ?_
    try simp [go_sem, seval, Glued.dd, Glued.c, Rule.c, Ovl.d, Ovl.c, Part.c, Part.d]
    exact hQ _ _ (by first | (left; (simp [go_sem]; rw [bei]; simp); done) | (right; (simp [go_sem]; rw [bei]; simp); done))
  · try simp [go_sem] at h2
    have hW : wholeE a b o = cGlueE a b o := by unfold wholeE; rw [← hgE, if_pos h2]
    try simp [go_sem, seval, Glued.dd, Glued.c, Rule.c, Ovl.d, Ovl.c, Part.c, Part.d]
    exact hQ _ _ (by first | (left; (simp [go_sem, hW]; rw [bei]; simp); done) | (right; (simp [go_sem, hW]; rw [bei]; simp); done))
theorem indexFunc_ovl (xs : List Ovl) (g : FuncId) (caps : List D) (p : Ovl → Bool) (hc : D.clL caps = true) (hg : ∀ x ∈ xs, Pure Tryz.prog g (.agg x.c :: caps) (.bool (p x))) :
    Pure Tryz.prog 97 [.list (xs.map Ovl.c), .fn g caps] (dI (idxF xs p)) := by
  refine pure_of_calls (acalls_of_body (cfg := ⟨fun _ => false, fun _ => []⟩) Tz.mixed Tryz.func97 rfl rfl (nlb rfl) (by kernel_rfl) ?_)
  simp [go_sem, seval, dI, dLI]
  intro hlen
  refine loop_rule (ι := Nat) (fun i e H => H = .emp ∧ i ≤ xs.length ∧ e 0 = .list (xs.map Ovl.c) ∧ e 1 = .fn g caps ∧ e 7 = dI xs.length ∧ e 8 = dI i ∧ (∀ j x, j < i → xs[j]? = some x → p x = false)) (fun i => xs.length - i) 0 (by simp [go_sem, seval, dI, dLI]) ?_
  intro i e H ⟨hH, hi, h0, h1, h7, h8, hn⟩
  subst hH
  simp [go_sem, seval, h0, h1, h7, h8, dI, dLI]
  refine condQ_dec (fun hlt => ?_) (fun hge => ?_)
  · have hgx := hg xs[i] (lgm hlt)
    simp [go_sem, seval, h0, h1, h7, h8, dI, dLI, hlt, Ovl.c] at hgx ⊢
    refine callQ_pure0 hgx (by simp [go_sem, hc]) ?_
    simp [go_sem, seval, h0, h1, h7, h8, dI, dLI]
    refine condQ_mk (fun h => ?_) (fun h => ?_)
    ·simp [go_sem, seval, h0, h1, h7, h8, dI, dLI]
     rw [idxF_some hn hlt h]
    ·simp [go_sem, seval, h0, h1, h7, h8, dI, dLI]
     refine ⟨inR_i64 (by omega) (by omega), i + 1, by omega, by omega, by omega, fun j x hj hx => ?_⟩
     rcases Nat.lt_or_ge j i with hj' | hj'
     ·exact hn j x hj' hx
     ·have : j = i := by omega
      subst this
      rw [lge hlt] at hx
      cases hx; exact h
  · simp [go_sem, seval, h0, h1, h7, h8, dI, dLI]
    rw [idxF_none fun j x hj => hn j x (by omega)]
theorem idxF_neg {α : Type} {xs : List α} {p : α → Bool} (h : idxF xs p = -1) : ∀ x ∈ xs, p x = false := fun x hx => by
  unfold idxF at h
  cases hf : xs.findIdx? p with
  | none => rw [List.findIdx?_eq_none_iff] at hf; simpa using hf x hx
  | some k => rw [hf] at h; simp at h
theorem idxF_pos {α : Type} {xs : List α} {p : α → Bool} (h : idxF xs p ≠ -1) : ∃ k : Nat, ∃ hk : k < xs.length, idxF xs p = k ∧ p xs[k] = true ∧ ∀ j (hj : j < xs.length), j < k → p xs[j] = false := by
  unfold idxF at h ⊢
  cases hf : xs.findIdx? p with
  | none => rw [hf] at h; exact absurd rfl h
  | some k =>
    rw [List.findIdx?_eq_some_iff_getElem] at hf
    obtain ⟨hk, hp, hb⟩ := hf
    exact ⟨k, hk, rfl, hp, fun j hj hjk => by simpa using hb j hjk⟩
theorem take_set_succ {α : Type} {L : List α} {i : Nat} (h : i < L.length) (x : α) : (L.set i x).take (i + 1) = L.take i ++ [x] := by
  rw [List.take_succ_eq_append_getElem (by simpa using h), List.getElem_set_self, List.take_set, List.set_eq_of_length_le (by rw [List.length_take]; omega)]
theorem drop_set_lt {α : Type} (L : List α) {i j : Nat} (h : i < j) (x : α) : (L.set i x).drop j = L.drop j := by
  rw [List.drop_set_of_lt h]
theorem rsvP_cl {H : AHeap} {d : D} (h : d.cl = true) : rsvP H d = d := by cases d <;> first | rfl | (simp [D.cl] at h)
theorem rsvP_caps {caps : List D} (hc : D.clL caps = true) (H : AHeap) : caps.map (rsvP H) = caps := by
  conv => rhs; rw [← List.map_id caps]
  exact List.map_congr_left fun d hd => rsvP_cl (D.clL_mem hc d hd)
theorem deleteFunc_ovl (xs : List Ovl) (hl : xs.length ≤ 100000) (g : FuncId) (caps : List D) (p : Ovl → Bool) (hc : D.clL caps = true) (hg : ∀ x ∈ xs, Pure Tryz.prog g (.agg x.c :: caps) (.bool (p x))) (id : Nat) (H0 : AHeap)
    (hH : H0.get id = some ⟨45, 6, xs.map Ovl.c, false⟩) (hlt : id < H0.next) (Q : D → AHeap → Prop) (hQ : ∀ d H', rsvD H' d = .list ((xs.filter fun x => !p x).map Ovl.c) → Q d H') :
    ACalls Tryz.prog 44 [.own id xs.length, .fn g caps] H0 Q := by
  have hix := indexFunc_ovl xs g caps p hc hg
  obtain ⟨v, hv⟩ : ∃ v, idxF xs p = v := ⟨_, rfl⟩
  rw [hv] at hix
  have hcap := rsvP_caps hc
  refine (acalls_of_body (cfg := ⟨fun t => t == 0 || t == 7, fun _ => []⟩) Tz.mixed Tryz.func44 rfl rfl (nlb rfl) (by kernel_rfl) ?_)
  try simp [go_sem, seval, hH, Ovl.c, hcap, hc]
  refine callQ_pureC (hix) (by simp [rsvC, rsvP, cellsAt, go_sem, ← List.map_take, ← List.map_drop, hH, Ovl.c, hcap, hc]) ((by first | rfl | (simp [go_sem, ← List.map_take, ← List.map_drop, hH, Ovl.c, hcap, hc]; done))) ( rfl) ?_
  try simp [go_sem, seval, hH, Ovl.c, hcap, hc]
  refine condQ_mk (fun h2 => ?_) (fun h2 => ?_)
  · try simp [go_sem] at h2
    have hno : ∀ x ∈ xs, p x = false := idxF_neg (hv.trans h2)
    have hF : xs.filter (fun x => !p x) = xs := List.filter_eq_self.2 fun x hx => by rw [hno x hx]; rfl
    try simp [go_sem, seval, hH, Ovl.c, hcap, hc]
    exact hQ _ _ (by simp [go_sem, hH, hF])
  · try simp [go_sem] at h2
    obtain ⟨k0, hk0, hkv, hpk, hbef⟩ := idxF_pos (xs := xs) (p := p) (by rw [hv]; exact h2)
    rw [hv] at hkv
    subst hkv
    have hst0 : xs.take k0 = (xs.take (k0 + 1)).filter (fun x => !p x) := by
     rw [filter_take_succ _ hk0, hpk, List.filter_eq_self.2 fun x hx => (by
      obtain ⟨q, hq, rfl⟩ := List.getElem_of_mem hx
      rw [List.length_take] at hq
      rw [List.getElem_take, hbef q (by omega) (by omega)]; rfl)]
     simp
    try simp [go_sem, seval, hH, Ovl.c, hcap, hc]
    repeat first | intro _ | refine ⟨obs, ?_⟩
    obtain ⟨I0, hI0⟩ := mkI fun j e H => (∃ i : Nat, ∃ L : List Ovl, (e 0 = .own id xs.length) ∧ (e 1 = .fn g caps) ∧ (e 5 = dI i) ∧ (e 6 = dI j) ∧ (H.get id = some ⟨45, 6, L.map Ovl.c, false⟩) ∧ (id < H.next) ∧ (j ≤ xs.length) ∧ (i < j) ∧ (L.length = xs.length) ∧ (L.take i = (xs.take j).filter (fun x => !p x)) ∧ (L.drop j = xs.drop j))
    refine loopK I0 (fun j => xs.length - j) (k0 + 1) ((hI0 _ _ _).2 ⟨(k0), (xs), ?_, ?_, ?_, ?_, ?_, ?_, (by first | assumption | omega | (simp [go_sem, hH, Ovl.c, hcap, hc]; done) | (simp_all; done)), (by omega), (by rfl), (by exact hst0), (by rfl)⟩) ?_
    iterate 6 (first | omega | (simp [go_sem, seval, hH, Ovl.c, hcap, hc] <;> omega))
    intro j e H hi0
    obtain ⟨i, L, q0_0, q1_0, q5_0, q6_0, gid_0, nid_0, hj, hij, hLl, hLt, hLd⟩ := (hI0 _ _ _).1 hi0
    have xid := frs nid_0
    have F0 := And.intro q0_0 (And.intro q1_0 (And.intro q5_0 (And.intro q6_0 (And.intro gid_0 xid))))
    try simp [go_sem, seval, hH, Ovl.c, hcap, hc, F0, hLl]
    repeat first | intro _ | refine ⟨obs, ?_⟩
    refine condQ_mk (fun h5 => ?_) (fun h5 => ?_)
    ·try simp [go_sem] at h5
     have hjL : j < L.length := by omega
     have hLj : L[j] = xs[j] := by
      have := congrArg (fun l => l[0]?) hLd
      simpa [hjL, h5] using this
     have hmem : L[j] ∈ xs := by rw [hLj]; exact lgm h5
     have hfs := filter_take_succ (fun x => !p x) h5
     have hds : L.drop (j + 1) = xs.drop (j + 1) := by have := congrArg (List.drop 1) hLd; simpa using this
     try simp [go_sem, seval, hH, Ovl.c, hcap, hc, F0, hLl, h5, lge hjL]
     repeat first | intro _ | refine ⟨obs, ?_⟩
     refine callQ_pure0 (hg L[j] hmem) ((by first | rfl | (simp [go_sem, ← List.map_take, ← List.map_drop, hH, Ovl.c, hcap, hc, F0, hLl, h5, lge hjL]; done))) ?_
     try simp [go_sem, seval, hH, Ovl.c, hcap, hc, F0, hLl, h5, lge hjL]
     repeat first | intro _ | refine ⟨obs, ?_⟩
     refine condQ_mk (fun h8 => ?_) (fun h8 => ?_)
     ·try simp [go_sem] at h8
      have hiL : i < L.length := by omega
      have hpj : p xs[j] = false := by rw [← hLj]; simpa using h8
      obtain ⟨L2, hL2⟩ : ∃ x, x = L.set i L[j] := ⟨_, rfl⟩
      obtain ⟨i2, hi2⟩ : ∃ x, x = i + 1 := ⟨_, rfl⟩
      have hl2 : L2.length = xs.length := by rw [hL2]; simpa using hLl
      have ht2 : L2.take i2 = (xs.take (j + 1)).filter (fun x => !p x) := by rw [hL2, hi2, take_set_succ hiL, hLt, hfs, hpj, hLj]; simp
      have hd2 : L2.drop (j + 1) = xs.drop (j + 1) := by rw [hL2, drop_set_lt _ (by omega), hds]
      try simp [go_sem, seval, hH, Ovl.c, hcap, hc, F0, hLl, h5, lge hjL, hL2, hi2, lge hiL]
      repeat first | intro _ | refine ⟨obs, ?_⟩
      refine nextQ_mk (j + 1) (by omega) ((hI0 _ _ _).2 ⟨(i2), (L2), ?_, ?_, ?_, ?_, ?_, ?_, (by first | assumption | omega | (simp [go_sem, hH, Ovl.c, hcap, hc, F0, hLl, h5, lge hjL, hL2, hi2, lge hiL, h2, h8]; done) | (simp_all <;> omega)), (by (rw [hi2]; omega)), (by exact hl2), (by exact ht2), (by exact hd2)⟩) <;> first | omega | (simp [go_sem, seval, hH, Ovl.c, hcap, hc, F0, hLl, h5, lge hjL, hL2, hi2, lge hiL] <;> omega)
     ·try simp [go_sem] at h8
      have hpj : p xs[j] = true := by rw [← hLj]; simpa using h8
      obtain ⟨L2, hL2⟩ : ∃ x, x = L := ⟨_, rfl⟩
      obtain ⟨i2, hi2⟩ : ∃ x, x = i := ⟨_, rfl⟩
      have hl2 : L2.length = xs.length := by rw [hL2, hLl]
      have ht2 : L2.take i2 = (xs.take (j + 1)).filter (fun x => !p x) := by rw [hL2, hi2, hLt, hfs, hpj]; simp
      have hd2 : L2.drop (j + 1) = xs.drop (j + 1) := by rw [hL2, hds]
      try simp [go_sem, seval, hH, Ovl.c, hcap, hc, F0, hLl, h5, lge hjL, hL2, hi2]
      repeat first | intro _ | refine ⟨obs, ?_⟩
      refine nextQ_mk (j + 1) (by omega) ((hI0 _ _ _).2 ⟨(i2), (L2), ?_, ?_, ?_, ?_, ?_, ?_, (by first | assumption | omega | (simp [go_sem, hH, Ovl.c, hcap, hc, F0, hLl, h5, lge hjL, hL2, hi2, h2, h8]; done) | (simp_all <;> omega)), (by (rw [hi2]; omega)), (by exact hl2), (by exact ht2), (by exact hd2)⟩) <;> first | omega | (simp [go_sem, seval, hH, Ovl.c, hcap, hc, F0, hLl, h5, lge hjL, hL2, hi2] <;> omega)
    ·try simp [go_sem] at h5
     have hje : j = xs.length := by omega
     have hF : (L.take i).map Ovl.c = (xs.filter fun x => !p x).map Ovl.c := by rw [hLt, List.take_of_length_le (by omega)]
     try simp [go_sem, seval, hH, Ovl.c, hcap, hc, F0, hLl]
     repeat first | intro _ | refine ⟨obs, ?_⟩
     have hmi : min i xs.length + (xs.length - i) = xs.length := by omega
     exact hQ _ _ (by simp [go_sem, hH, Ovl.c, hcap, hc, F0, hLl, hmi, ← hF]; exact List.take_left' (by simp; omega))
theorem ovL_le (a b : Graph) : (ovL a b).length ≤ 2000 := by
  unfold ovL
  split
  · rename_i h
    unfold ovErr at h
    split at h
    ·rename_i q; exact absurd h q
    ·split at h
     ·rename_i q; exact absurd h q
     ·split at h
      ·cases h
      ·split at h
       ·cases h
       ·omega
  · simp
theorem concurrent_Overlaps (t : Types) (ht : t.ok) (a b : Rule) (ha : a.ok) (hb : b.ok) (hat : a.thin) (hbt : b.thin) : Pure Tryz.prog 13 [t.d, a.d, b.d] (.tup [.list ((rOvlL t a b).map Ovl.c), dI (rOvlE t a b)]) := by
  have hln := ovL_le a.right.graph b.left.graph
  refine pureKA (by first | rfl | (simp [go_sem]; done)) (fun Q hQ => (acalls_of_body (cfg := ⟨fun _ => false, fun _ => []⟩) Tz.mixed Tryz.func13 rfl rfl (nlb rfl) (by kernel_rfl) ?_))
  try simp [go_sem, seval, Rule.c]
  refine callQ_pure0 (concurrent_given t ht a b ha hb hat hbt) ((by first | rfl | (simp [go_sem, ← List.map_take, ← List.map_drop, Rule.c]; done))) ?_
  try simp [go_sem, seval, Rule.c]
  refine condQ_mk (fun h2 => ?_) (fun h2 => ?_)
  · try simp [go_sem] at h2
    have hE : rOvlE t a b = givenR t a b := if_pos h2
    have hZ : rOvlL t a b = [] := if_neg (by rw [hE]; exact h2)
    try simp [go_sem, seval, Rule.c]
    exact hQ _ _ (by simp [go_sem, hE, hZ])
  · try simp [go_sem] at h2
    have hE2 : ¬ givenR t a b ≠ 0 := by rw [h2]; simp
    obtain ⟨hPa, hPb⟩ := givenR_parts h2
    have hE : rOvlE t a b = ovErr a.right.graph b.left.graph := if_neg hE2
    by_cases hov : ovErr a.right.graph b.left.graph = 0
    ·skip
     try simp [go_sem, seval, Rule.c, hov]
     unfold callQ
     first | refine factor_Overlaps a.right.graph b.left.graph _ (fun H' hne => absurd hov hne) (fun q n H' he hn hg hq => ?_) | (refine factor_Overlaps a.right.graph b.left.graph _ (fun H' hne => ?_) (fun q n H' he hn hg hq => absurd he hov); have hg : (ovErr a.right.graph b.left.graph != 0) = true := (by simpa using hov); have hn := hov)
     try simp [go_sem, seval, Rule.c, hov, hg]
     unfold callQ
     subst hn
     refine deleteFunc_ovl (ovL a.right.graph b.left.graph) (by omega) 45 [.adr a.c, .adr b.c] (fun o => decide (wholeE a b o ≠ 0)) (by simp [go_sem]) (fun o _ => concurrent_Overlaps1 t a b o ha hb hPa hPb) q _ hg hq _ (fun d H2 hd => ?_)
     try simp [go_sem, seval, Rule.c, hov, hg, hd]
     have hZ : rOvlL t a b = rOvl t a b := if_pos (by rw [hE, hov])
     have hF : ((ovL a.right.graph b.left.graph).filter fun o => !decide (wholeE a b o ≠ 0)) = rOvl t a b := by unfold rOvl; congr 1; funext o; simp
     rw [hF] at hd
     exact hQ _ _ (by simp [go_sem, Rule.c, hov, hg, hd, hE, hov, hZ, nz_ovls])
    ·skip
     try simp [go_sem, seval, Rule.c]
     unfold callQ
     first | refine factor_Overlaps a.right.graph b.left.graph _ (fun H' hne => absurd hov hne) (fun q n H' he hn hg hq => ?_) | (refine factor_Overlaps a.right.graph b.left.graph _ (fun H' hne => ?_) (fun q n H' he hn hg hq => absurd he hov); have hg : (ovErr a.right.graph b.left.graph != 0) = true := (by simpa using hov); have hn := hov)
     try simp [go_sem, seval, Rule.c, hg]
     have hZ : rOvlL t a b = [] := if_neg (by rw [hE]; exact hov)
     exact hQ _ _ (by simp [go_sem, Rule.c, hg, hE, hZ])
end Go.Abs
end
section
set_option maxRecDepth 8000
open Go Go.Proofs
namespace Go.Abs
def fewG (g : Graph) : Bool := decide ((g.nodes.length : Int) ≤ 45) && decide ((g.edges.length : Int) ≤ 90)
def fewP (p : Pattern) : Bool := fewG p.graph && decide ((p.slots.length : Int) ≤ 15) && decide ((p.tests.length : Int) ≤ 15)
def fewPart (p : Part) (n : Int) : Bool := decide ((p.nodes.length : Int) + p.edges.length ≤ n)
structure Part.le (p : Part) : Prop where
  n : p.nodes.length ≤ 1000000000000000
  e : p.edges.length ≤ 1000000000000000
theorem ref05_Few (g : Graph) : Pure Tryz.prog 24 [g.d] (.bool (fewG g)) := by
  refine Tz.pK ⟨fun _ => false, fun _ => []⟩ Tryz.func24 rfl (fun Q hQ => ?_)
  try simp [go_sem, seval]
  repeat (first | intro _ | (refine ⟨obl, ?_⟩))
  exact hQ _ _ (by simp [go_sem, fewG] <;> first | omega | (rw [bei]; simp <;> omega) | (simp_all <;> omega))
theorem ref21_Few (p : Pattern) : Pure Tryz.prog 113 [p.d] (.bool (fewP p)) := by
  refine Tz.pK ⟨fun _ => false, fun _ => []⟩ Tryz.func113 rfl (fun Q hQ => ?_)
  try simp [go_sem, seval]
  repeat (first | intro _ | (refine ⟨obl, ?_⟩))
  refine callQ_pure0 (ref05_Few p.graph) ((by first | rfl | (simp [go_sem, ← List.map_take, ← List.map_drop]; done))) ?_
  try simp [go_sem, seval]
  repeat (first | intro _ | (refine ⟨obl, ?_⟩))
  exact hQ _ _ (by simp [go_sem, fewP] <;> first | omega | (rw [bei]; simp <;> omega) | (simp_all <;> omega))
theorem ref06_Few (p : Part) (hp : p.le) (n : Int) : Pure Tryz.prog 25 [p.d, dI n] (.bool (fewPart p n)) := by
  obtain ⟨h1, h2⟩ := hp
  refine Tz.pK ⟨fun _ => false, fun _ => []⟩ Tryz.func25 rfl (fun Q hQ => ?_)
  try simp [go_sem, seval]
  repeat (first | intro _ | (refine ⟨obl, ?_⟩))
  exact hQ _ _ (by simp [go_sem, fewPart] <;> first | omega | (rw [bei]; simp <;> omega) | (simp_all <;> omega))
theorem ref07_Few (p : Part) (hp : p.le) (n : Int) : Pure Tryz.prog 114 [p.d, dI n] (.bool (fewPart p n)) := by
  obtain ⟨h1, h2⟩ := hp
  refine Tz.pK ⟨fun _ => false, fun _ => []⟩ Tryz.func114 rfl (fun Q hQ => ?_)
  try simp [go_sem, seval]
  repeat (first | intro _ | (refine ⟨obl, ?_⟩))
  exact hQ _ _ (by simp [go_sem, fewPart] <;> first | omega | (rw [bei]; simp <;> omega) | (simp_all <;> omega))
mutual
def leftC : Cond → Int → Int
  | .mk k l m p, b => if (!fewP p || !fewPart m 140) = true then -1 else leftL l (b - 1)
def leftL : List Cond → Int → Int
  | [], b => b
  | c :: l, b => if 0 ≤ b then leftL l (leftC c b) else b
end
theorem leftC_eq (c : Cond) (b : Int) : leftC c b = if (!fewP c.pattern || !fewPart c.map 140) = true then -1 else leftL c.kids (b - 1) := by cases c; rw [leftC]; rfl
mutual
theorem leftC_le : ∀ (c : Cond) (b : Int), 0 ≤ b → -1 ≤ leftC c b ∧ leftC c b ≤ b - 1
  | .mk k l m p, b, h => by
    rw [leftC]; split
    ·omega
    ·exact leftL_le l (b - 1) (by omega)
theorem leftL_le : ∀ (l : List Cond) (b : Int), -1 ≤ b → -1 ≤ leftL l b ∧ leftL l b ≤ b
  | [], b, h => by rw [leftL]; omega
  | c :: l, b, h => by
    rw [leftL]; split
    ·rename_i h0
     have h1 := leftC_le c b h0
     have h2 := leftL_le l (leftC c b) h1.1
     omega
    ·omega
end
mutual
def Cond.le : Cond → Prop
  | .mk k l m p => m.le ∧ Cond.les l
def Cond.les : List Cond → Prop
  | [] => True
  | c :: l => c.le ∧ Cond.les l
end
theorem Cond.les_iff (l : List Cond) : Cond.les l ↔ ∀ c ∈ l, c.le := by
  induction l with
  | nil => simp [Cond.les]
  | cons a l ih => simp [Cond.les, ih]
theorem Cond.le_iff (c : Cond) : c.le ↔ c.map.le ∧ ∀ k ∈ c.kids, k.le := by cases c; simp [Cond.le, Cond.les_iff, Cond.kids, Cond.map]
mutual
theorem leftC_ok : ∀ (c : Cond) (b : Int), 0 ≤ b → 0 ≤ leftC c b → c.ok ∧ (c.size : Int) ≤ b - leftC c b
  | .mk k l m p, b, h, h0 => by
    rw [leftC] at h0 ⊢
    split at h0
    ·omega
    ·rename_i h1
     rw [if_neg h1]
     have h2 := leftL_ok l (b - 1) (by omega) h0
     simp [fewP, fewG, fewPart] at h1
     refine ⟨⟨⟨?_, ?_, ?_, ?_, ?_, ?_⟩, h2.1⟩, ?_⟩ <;> simp only [Cond.map, Cond.pattern, Cond.size] <;> omega
theorem leftL_ok : ∀ (l : List Cond) (b : Int), -1 ≤ b → 0 ≤ leftL l b → Cond.oks l ∧ (Cond.sizes l : Int) ≤ b - leftL l b
  | [], b, h, h0 => by simp [Cond.oks, Cond.sizes, leftL]
  | c :: l, b, h, h0 => by
    rw [leftL] at h0 ⊢
    split at h0
    ·rename_i hb
     rw [if_pos hb]
     have h1 := leftC_le c b hb
     have h2 := leftL_le l (leftC c b) h1.1
     have h3 := leftC_ok c b hb (by omega)
     have h4 := leftL_ok l (leftC c b) h1.1 h0
     refine ⟨⟨h3.1, h4.1⟩, ?_⟩
     simp only [Cond.sizes]; omega
    ·omega
end
theorem leftL_step {l : List Cond} {i : Nat} (h : i < l.length) {b : Int} (hb : 0 ≤ b) : leftL (l.drop i) b = leftL (l.drop (i + 1)) (leftC l[i] b) := by
  rw [List.drop_eq_getElem_cons h, leftL, if_pos hb]
theorem leftL_end {l : List Cond} {i : Nat} {b : Int} (h : ¬ (i < l.length ∧ 0 ≤ b)) : leftL (l.drop i) b = b := by
  by_cases hi : i < l.length
  · rw [List.drop_eq_getElem_cons hi, leftL, if_neg (by omega)]
  · rw [List.drop_eq_nil_of_le (by omega), leftL]
theorem ref22_left : ∀ c : Cond, c.le → ∀ b : Int, 0 ≤ b → b ≤ 1000 → Pure Tryz.prog 195 [.agg c.c, dI b] (dI (leftC c b)) := by
  refine Cond.ind fun c ih hc b0 hb0 hb1 => ?_
  obtain ⟨hs, hk⟩ := (Cond.le_iff c).1 hc
  have hL0 := leftC_eq c b0
  refine Tz.pK ⟨fun _ => false, fun _ => []⟩ Tryz.func195 rfl (fun Q hQ => ?_)
  try simp [go_sem, seval, Cond.c_eq]
  repeat (first | intro _ | (refine ⟨obl, ?_⟩))
  refine callQ_pure0 (ref21_Few c.pattern) ((by first | rfl | (simp [go_sem, ← List.map_take, ← List.map_drop, Cond.c_eq]; done))) ?_
  try simp [go_sem, seval, Cond.c_eq]
  repeat (first | intro _ | (refine ⟨obl, ?_⟩))
  refine gcallQ_pure0 (fun hg => ref06_Few c.map hs 140) (fun hg => (by first | rfl | (simp [go_sem, ← List.map_take, ← List.map_drop, Cond.c_eq]; done))) ?_
  try simp [go_sem, seval, Cond.c_eq]
  repeat (first | intro _ | (refine ⟨obl, ?_⟩))
  refine condQ_mk (fun h2 => ?_) (fun h2 => ?_)
  · try simp [go_sem] at h2
    rw [if_pos (by simpa using h2)] at hL0
    try simp [go_sem, seval, Cond.c_eq]
    exact hQ _ _ (by first | (left; (simp [go_sem, hL0]); done) | (right; (simp [go_sem, hL0]); done))
  · try simp [go_sem] at h2
    rw [if_neg (by simpa using h2)] at hL0
    try simp [go_sem, seval, Cond.c_eq]
    obtain ⟨I0, hI0⟩ := mkI fun i e H => (∃ b : Int, (e 2 = .adr c.c) ∧ (e 1 = dI b) ∧ (e 5 = dI i) ∧ (i ≤ c.kids.length) ∧ (-1 ≤ b ∧ b < b0) ∧ (leftL (c.kids.drop i) b = leftC c b0))
    refine loopK I0 (fun i => c.kids.length - i) (0) ((hI0 _ _ _).2 ⟨((b0 - 1)), ?_, ?_, ?_, (by first | assumption | omega | (simp [go_sem, Cond.c_eq]; done) | (simp_all; done)), (by omega), (by (exact hL0.symm))⟩) ?_
    iterate 3 (first | omega | (simp [go_sem, seval, Cond.c_eq] <;> omega))
    intro i e H hi0
    obtain ⟨b, q2_0, q1_0, q5_0, hi, hb, hL⟩ := (hI0 _ _ _).1 hi0
    have F0 := And.intro q2_0 (And.intro q1_0 q5_0)
    try simp [go_sem, seval, Cond.c_eq, F0]
    repeat (first | intro _ | (refine ⟨obl, ?_⟩))
    refine condQ_mk (fun h5 => ?_) (fun h5 => ?_)
    ·try simp [go_sem] at h5
     have h5' : i < c.kids.length ∧ 0 ≤ b := by omega
     try simp [go_sem, seval, Cond.c_eq, F0, h5, h5'.1]
     repeat (first | intro _ | (refine ⟨obl, ?_⟩))
     refine callQ_pure0 ((by have := ih _ (lgm h5'.1) (hk _ (lgm h5'.1)) b h5'.2 (by omega); rwa [Cond.c_eq] at this)) ((by first | rfl | (simp [go_sem, ← List.map_take, ← List.map_drop, Cond.c_eq, F0, h5, h5'.1]; done))) ?_
     try simp [go_sem, seval, Cond.c_eq, F0, h5, h5'.1]
     repeat (first | intro _ | (refine ⟨obl, ?_⟩))
     refine nextQ_mk (i + 1) (by omega) ((hI0 _ _ _).2 ⟨(leftC c.kids[i] b), ?_, ?_, ?_, (by first | assumption | omega | (simp [go_sem, Cond.c_eq, F0, h5, h5'.1, h2]; done) | (simp_all <;> omega)), (by (have := leftC_le c.kids[i] b h5'.2; omega)), (by (rw [← hL, leftL_step h5'.1 h5'.2]))⟩) <;> first | omega | (simp [go_sem, seval, Cond.c_eq, F0, h5, h5'.1] <;> omega)
    ·try simp [go_sem] at h5
     have h5' : ¬ (i < c.kids.length ∧ 0 ≤ b) := by omega
     try simp [go_sem, seval, Cond.c_eq, F0]
     have hE : leftC c b0 = b := by rw [← hL, leftL_end h5']
     exact hQ _ _ (by first | (left; (simp [go_sem, hE]); done) | (right; (simp [go_sem, hE]); done))
def fewC (c : Cond) : Bool := decide (0 ≤ leftC c 40)
theorem ref22_Few (c : Cond) (hc : c.le) : Pure Tryz.prog 115 [.agg c.c] (.bool (fewC c)) := by
  refine Tz.pK ⟨fun _ => false, fun _ => []⟩ Tryz.func115 rfl (fun Q hQ => ?_)
  try simp [go_sem, seval, Cond.c_eq]
  refine callQ_pure0 ((by have := ref22_left c hc 40 (by omega) (by omega); rwa [Cond.c_eq] at this)) ((by first | rfl | (simp [go_sem, ← List.map_take, ← List.map_drop, Cond.c_eq]; done))) ?_
  try simp [go_sem, seval, Cond.c_eq]
  exact hQ _ _ (by simp [go_sem, Cond.c_eq, fewC] <;> first | omega | (rw [bei]; simp <;> omega) | (simp_all <;> omega))
def fewR (r : Rule) : Bool := decide ((r.name.size : Int) ≤ 60) && fewP r.left && fewP r.right && fewPart r.keep 140 && fewPart r.into 140 && fewC r.cond
structure Rule.le (r : Rule) : Prop where
  keep : r.keep.le
  into : r.into.le
  cond : r.cond.le
theorem ref24_Few (r : Rule) (hr : r.le) : Pure Tryz.prog 56 [r.d] (.bool (fewR r)) := by
  refine Tz.pK ⟨fun _ => false, fun _ => []⟩ Tryz.func56 rfl (fun Q hQ => ?_)
  try simp [go_sem, seval]
  repeat (first | intro _ | (refine ⟨obl, ?_⟩))
  refine gcallQ_pure0 (fun hg => ref21_Few r.left) (fun hg => (by first | rfl | (simp [go_sem, ← List.map_take, ← List.map_drop]; done))) ?_
  try simp [go_sem, seval]
  repeat (first | intro _ | (refine ⟨obl, ?_⟩))
  refine gcallQ_pure0 (fun hg => ref21_Few r.right) (fun hg => (by first | rfl | (simp [go_sem, ← List.map_take, ← List.map_drop]; done))) ?_
  try simp [go_sem, seval]
  repeat (first | intro _ | (refine ⟨obl, ?_⟩))
  refine gcallQ_pure0 (fun hg => ref07_Few r.keep hr.keep 140) (fun hg => (by first | rfl | (simp [go_sem, ← List.map_take, ← List.map_drop]; done))) ?_
  try simp [go_sem, seval]
  repeat (first | intro _ | (refine ⟨obl, ?_⟩))
  refine gcallQ_pure0 (fun hg => ref06_Few r.into hr.into 140) (fun hg => (by first | rfl | (simp [go_sem, ← List.map_take, ← List.map_drop]; done))) ?_
  try simp [go_sem, seval]
  repeat (first | intro _ | (refine ⟨obl, ?_⟩))
  refine gcallQ_pure0 (fun hg => (by have := ref22_Few r.cond hr.cond; rwa [Cond.c_eq] at this)) (fun hg => (by first | rfl | (simp [go_sem, ← List.map_take, ← List.map_drop]; done))) ?_
  try simp [go_sem, seval]
  repeat (first | intro _ | (refine ⟨obl, ?_⟩))
  exact hQ _ _ (by simp [go_sem, fewR] <;> first | omega | (rw [bei]; simp <;> omega) | (simp_all <;> omega))
end Go.Abs
end
section
set_option maxRecDepth 8000
open Go Go.Proofs
namespace Go.Abs
def badName (s : ByteArray) : Bool := decide (40 < (s.size : Int))
def badAttr (x : Attr) : Bool := badName x.name || decide (25 < (x.names.length : Int)) || x.names.any badName
def badNode (n : NodeTy) : Bool := badName n.name || n.attrs.any badAttr
def badEdge (x : EdgeTy) : Bool := badName x.name
def attrSum (l : List NodeTy) : Nat := (l.map fun n => n.attrs.length).sum
def fewT (t : Types) : Bool := decide ((t.nodes.length : Int) ≤ 20) && decide ((t.edges.length : Int) ≤ 30) && decide (attrSum t.nodes ≤ 30) && !(t.nodes.any badNode) && !(t.edges.any badEdge)
@[go_sem, simp] theorem attrSum_nil : attrSum [] = 0 := rfl
theorem attrSum_succ (l : List NodeTy) {i : Nat} (h : i < l.length) : attrSum (l.take (i + 1)) = attrSum (l.take i) + l[i].attrs.length := by
  unfold attrSum
  rw [List.take_succ_eq_append_getElem h, List.map_append, List.sum_append]; simp
theorem attrSum_le (l : List NodeTy) (i : Nat) : attrSum (l.take i) ≤ attrSum l := by
  have : attrSum l = attrSum (l.take i) + attrSum (l.drop i) := by
    unfold attrSum
    rw [← List.sum_append, ← List.map_append, List.take_append_drop]
  omega
theorem attrs_mem {l : List NodeTy} {n : NodeTy} (h : n ∈ l) : n.attrs.length ≤ attrSum l := by
  induction l with
  | nil => cases h
  | cons a l ih =>
    have e : attrSum (a :: l) = a.attrs.length + attrSum l := by simp [attrSum]
    rcases List.mem_cons.1 h with rfl | h
    ·omega
    ·have := ih h; omega
theorem fewT_ok {t : Types} (h : fewT t = true) : t.ok := by
  simp [fewT] at h
  obtain ⟨⟨⟨⟨h1, h2⟩, h3⟩, h4⟩, h5⟩ := h
  refine ⟨fun n hn => ?_, fun x hx => ⟨?_⟩, by omega, by omega⟩
  · have hl := attrs_mem hn
    have := h4 n hn
    simp [badNode, badName] at this
    refine ⟨by omega, fun x hx => ?_, by omega⟩
    have hb := this.2 x hx
    simp [badAttr, badName] at hb
    refine ⟨by omega, fun s hs => ?_, by omega⟩
    have := hb.2 s hs
    omega
  · have := h5 x hx
    simp [badEdge, badName] at this
    omega
theorem ref04_Few (t : Types) (ht : ∀ n ∈ t.nodes, n.attrs.length ≤ 1000000000000000) : Pure Tryz.prog 55 [t.d] (.bool (fewT t)) := by
  refine Tz.pK ⟨fun t => t == 6, fun _ => []⟩ Tryz.func55 rfl (fun Q hQ => ?_)
  try simp [go_sem, seval]
  repeat (first | intro _ | (refine ⟨obl, ?_⟩))
  refine condQ_mk (fun h1 => ?_) (fun h1 => ?_)
  · try simp [go_sem] at h1
    try simp [go_sem, seval]
    have hb : fewT t = false := by simp [fewT]; omega
    exact hQ _ _ (by first | (left; (simp [go_sem, hb]); done) | (right; (simp [go_sem, hb]); done))
  · try simp [go_sem] at h1
    try simp [go_sem, seval]
    obtain ⟨I0, hI0⟩ := mkI fun i e H => ((e 1 = .adr t.c) ∧ (e 3 = dI (attrSum (t.nodes.take i))) ∧ (e 4 = dI i) ∧ (i ≤ t.nodes.length) ∧ (attrSum (t.nodes.take i) ≤ 30) ∧ ((t.nodes.take i).any badNode = false))
    refine loopK I0 (fun i => t.nodes.length - i) (0) ((hI0 _ _ _).2 ⟨?_, ?_, ?_, (by first | assumption | omega | (simp [go_sem]; done) | (simp_all; done)), (by (simp [attrSum])), (by rfl)⟩) ?_
    iterate 3 (first | omega | (simp [go_sem, seval] <;> omega))
    intro i e H hi0
    obtain ⟨q1_0, q3_0, q4_0, hi, hs, ha⟩ := (hI0 _ _ _).1 hi0
    have F0 := And.intro q1_0 (And.intro q3_0 q4_0)
    try simp [go_sem, seval, F0]
    repeat (first | intro _ | (refine ⟨obl, ?_⟩))
    refine condQ_mk (fun h5 => ?_) (fun h5 => ?_)
    ·try simp [go_sem] at h5
     have hst := attrSum_succ t.nodes h5
     have hle := attrSum_le t.nodes (i + 1)
     have hn := ht _ (lgm h5)
     try simp [go_sem, seval, F0, h5, hst]
     repeat (first | intro _ | (refine ⟨obl, ?_⟩))
     refine condQ_mk (fun h8 => ?_) (fun h8 => ?_)
     ·try simp [go_sem] at h8
      try simp [go_sem, seval, F0, h5, hst]
      have hb : fewT t = false := by
       rcases h8 with h8 | h8
       ·simp [fewT]; omega
       ·have : t.nodes.any badNode = true := List.any_eq_true.2 ⟨_, lgm h5, by simp [badNode, badName]; omega⟩
        simp [fewT, this]
      exact hQ _ _ (by first | (left; (simp [go_sem, hb]); done) | (right; (simp [go_sem, hb]); done))
     ·try simp [go_sem] at h8
      have hN : badName t.nodes[i].name = false := by simp [badName]; omega
      try simp [go_sem, seval, F0, h5, hst]
      obtain ⟨I2, hI2⟩ := mkI fun k e H => ((e 1 = .adr t.c) ∧ (e 3 = dI (attrSum (t.nodes.take (i + 1)))) ∧ (e 4 = dI i) ∧ (e 5 = dI k) ∧ (k ≤ t.nodes[i].attrs.length) ∧ ((t.nodes[i].attrs.take k).any badAttr = false))
      refine loopK I2 (fun k => t.nodes[i].attrs.length - k) (0) ((hI2 _ _ _).2 ⟨?_, ?_, ?_, ?_, (by first | assumption | omega | (simp [go_sem, F0, h5, hst]; done) | (simp_all; done)), (by rfl)⟩) ?_
      iterate 4 (first | omega | (simp [go_sem, seval, F0, h5, hst] <;> omega))
      intro k e H hi2
      obtain ⟨q1_2, q3_2, q4_2, q5_2, hk, hb⟩ := (hI2 _ _ _).1 hi2
      have F2 := And.intro q1_2 (And.intro q3_2 (And.intro q4_2 q5_2))
      try simp [go_sem, seval, h5, hst, F2]
      repeat (first | intro _ | (refine ⟨obl, ?_⟩))
      refine condQ_mk (fun h11 => ?_) (fun h11 => ?_)
      ·try simp [go_sem] at h11
       try simp [go_sem, seval, h5, hst, F2, h11]
       repeat (first | intro _ | (refine ⟨obl, ?_⟩))
       refine condQ_mk (fun h14 => ?_) (fun h14 => ?_)
       ·try simp [go_sem] at h14
        try simp [go_sem, seval, h5, hst, F2, h11]
        have hbad : badAttr t.nodes[i].attrs[k] = true := by simp [badAttr, badName]; omega
        have hb2 : t.nodes.any badNode = true := List.any_eq_true.2 ⟨_, lgm h5, by unfold badNode; rw [Bool.or_eq_true]; right; exact List.any_eq_true.2 ⟨_, lgm h11, hbad⟩⟩
        have hb3 : fewT t = false := by simp [fewT, hb2]
        exact hQ _ _ (by first | (left; (simp [go_sem, hb3]); done) | (right; (simp [go_sem, hb3]); done))
       ·try simp [go_sem] at h14
        have hM : badName t.nodes[i].attrs[k].name = false := by simp [badName]; omega
        try simp [go_sem, seval, h5, hst, F2, h11]
        obtain ⟨I4, hI4⟩ := mkI fun m e H => (∃ j : Nat, (e 1 = .adr t.c) ∧ (e 3 = dI (attrSum (t.nodes.take (i + 1)))) ∧ (e 4 = dI i) ∧ (e 5 = dI k) ∧ (e 6 = .ptr j 1 0 0) ∧ (e 7 = dI m) ∧ (H.get j = some ⟨128, 4, [t.nodes[i].attrs[k].c], false⟩) ∧ (j < H.next) ∧ (m ≤ t.nodes[i].attrs[k].names.length) ∧ ((t.nodes[i].attrs[k].names.take m).any badName = false))
        refine loopK I4 (fun m => t.nodes[i].attrs[k].names.length - m) (0) ((hI4 _ _ _).2 ⟨(H.next), ?_, ?_, ?_, ?_, ?_, ?_, ?_, ?_, (by first | assumption | omega | (simp [go_sem, h5, hst, F2, h11]; done) | (simp_all; done)), (by rfl)⟩) ?_
        iterate 8 (first | omega | (simp [go_sem, seval, h5, hst, F2, h11] <;> omega))
        intro m e H hi4
        obtain ⟨j, q1_4, q3_4, q4_4, q5_4, q6_4, q7_4, gj_4, nj_4, hm, hc⟩ := (hI4 _ _ _).1 hi4
        have xj := frs nj_4
        have F4 := And.intro q1_4 (And.intro q3_4 (And.intro q4_4 (And.intro q5_4 (And.intro q6_4 (And.intro q7_4 (And.intro gj_4 xj))))))
        try simp [go_sem, seval, h5, hst, h11, F4]
        repeat (first | intro _ | (refine ⟨obl, ?_⟩))
        refine condQ_mk (fun h17 => ?_) (fun h17 => ?_)
        ·try simp [go_sem] at h17
         try simp [go_sem, seval, h5, hst, h11, F4, h17]
         repeat (first | intro _ | (refine ⟨obl, ?_⟩))
         refine condQ_mk (fun h19 => ?_) (fun h19 => ?_)
         ·try simp [go_sem] at h19
          try simp [go_sem, seval, h5, hst, h11, F4, h17]
          have hbad : badAttr t.nodes[i].attrs[k] = true := by unfold badAttr; rw [Bool.or_eq_true]; right; exact List.any_eq_true.2 ⟨_, lgm h17, by simp [badName]; omega⟩
          have hb2 : t.nodes.any badNode = true := List.any_eq_true.2 ⟨_, lgm h5, by unfold badNode; rw [Bool.or_eq_true]; right; exact List.any_eq_true.2 ⟨_, lgm h11, hbad⟩⟩
          have hb3 : fewT t = false := by simp [fewT, hb2]
          exact hQ _ _ (by first | (left; (simp [go_sem, hb3]); done) | (right; (simp [go_sem, hb3]); done))
         ·try simp [go_sem] at h19
          try simp [go_sem, seval, h5, hst, h11, F4, h17]
          repeat (first | intro _ | (refine ⟨obl, ?_⟩))
          refine nextQ_mk (m + 1) (by omega) ((hI4 _ _ _).2 ⟨(j), ?_, ?_, ?_, ?_, ?_, ?_, ?_, ?_, (by first | assumption | omega | (simp [go_sem, h5, hst, h11, F4, h17, h1, h8, h14, h19]; done) | (simp_all <;> omega)), (by (rw [any_take_succ _ _ _ h17, hc]; simp [badName]; omega))⟩) <;> first | omega | (simp [go_sem, seval, h5, hst, h11, F4, h17] <;> omega)
        ·try simp [go_sem] at h17
         have hZ := any_end hc h17
         try simp [go_sem, seval, h5, hst, h11, F4]
         repeat (first | intro _ | (refine ⟨obl, ?_⟩))
         refine nextQ_mk (k + 1) (by omega) ((hI2 _ _ _).2 ⟨?_, ?_, ?_, ?_, (by first | assumption | omega | (simp [go_sem, h5, hst, h11, F4, h1, h8, h14, h17]; done) | (simp_all <;> omega)), (by (rw [any_take_succ _ _ _ h11, hb]; simp [badAttr, hM, hZ]; omega))⟩) <;> first | omega | (simp [go_sem, seval, h5, hst, h11, F4] <;> omega)
      ·try simp [go_sem] at h11
       have hA := any_end hb h11
       try simp [go_sem, seval, h5, hst, F2]
       repeat (first | intro _ | (refine ⟨obl, ?_⟩))
       refine nextQ_mk (i + 1) (by omega) ((hI0 _ _ _).2 ⟨?_, ?_, ?_, (by first | assumption | omega | (simp [go_sem, h5, hst, F2, h1, h8, h11]; done) | (simp_all <;> omega)), (by omega), (by (rw [any_take_succ _ _ _ h5, ha]; simp [badNode, hN, hA]))⟩) <;> first | omega | (simp [go_sem, seval, h5, hst, F2] <;> omega)
    ·try simp [go_sem] at h5
     have hNn := any_end ha h5
     rw [List.take_of_length_le (by omega)] at hs
     try simp [go_sem, seval, F0]
     obtain ⟨I6, hI6⟩ := mkI fun q e H => ((e 1 = .adr t.c) ∧ (e 8 = dI q) ∧ (q ≤ t.edges.length) ∧ ((t.edges.take q).any badEdge = false))
     refine loopK I6 (fun q => t.edges.length - q) (0) ((hI6 _ _ _).2 ⟨?_, ?_, (by first | assumption | omega | (simp [go_sem, F0]; done) | (simp_all; done)), (by rfl)⟩) ?_
     iterate 2 (first | omega | (simp [go_sem, seval, F0] <;> omega))
     intro q e H hi6
     obtain ⟨q1_6, q8_6, hj, hd⟩ := (hI6 _ _ _).1 hi6
     have F6 := And.intro q1_6 q8_6
     try simp [go_sem, seval, F6]
     repeat (first | intro _ | (refine ⟨obl, ?_⟩))
     refine condQ_mk (fun h22 => ?_) (fun h22 => ?_)
     ·try simp [go_sem] at h22
      try simp [go_sem, seval, F6, h22]
      repeat (first | intro _ | (refine ⟨obl, ?_⟩))
      refine condQ_mk (fun h24 => ?_) (fun h24 => ?_)
      ·try simp [go_sem] at h24
       try simp [go_sem, seval, F6, h22]
       have hb2 : t.edges.any badEdge = true := List.any_eq_true.2 ⟨_, lgm h22, by simp [badEdge, badName]; omega⟩
       have hb3 : fewT t = false := by simp [fewT, hb2]
       exact hQ _ _ (by first | (left; (simp [go_sem, hb3]); done) | (right; (simp [go_sem, hb3]); done))
      ·try simp [go_sem] at h24
       try simp [go_sem, seval, F6, h22]
       repeat (first | intro _ | (refine ⟨obl, ?_⟩))
       refine nextQ_mk (q + 1) (by omega) ((hI6 _ _ _).2 ⟨?_, ?_, (by first | assumption | omega | (simp [go_sem, F6, h22, h1, h5, h24]; done) | (simp_all <;> omega)), (by (rw [any_take_succ _ _ _ h22, hd]; simp [badEdge, badName]; omega))⟩) <;> first | omega | (simp [go_sem, seval, F6, h22] <;> omega)
     ·try simp [go_sem] at h22
      have hEe := any_end hd h22
      try simp [go_sem, seval, F6]
      have hb3 : fewT t = true := by simp only [fewT, hNn, hEe]; simp; omega
      exact hQ _ _ (by first | (left; (simp [go_sem, hb3]); done) | (right; (simp [go_sem, hb3]); done))
end Go.Abs
end
section
set_option maxRecDepth 60000
set_option maxHeartbeats 2000000
open Go Go.Proofs
namespace Go.Abs
theorem fewP_of {p : Pattern} (h : fewP p = true) : p.graph.nodes.length ≤ 45 ∧ p.graph.edges.length ≤ 90 ∧ p.slots.length ≤ 15 ∧ p.tests.length ≤ 15 := by
  simp [fewP, fewG] at h; omega
theorem fewR_ok {r : Rule} (h : fewR r = true) : r.ok ∧ r.thin := by
  simp only [fewR, Bool.and_eq_true, decide_eq_true_eq] at h
  obtain ⟨⟨⟨⟨⟨h1, h2⟩, h3⟩, h4⟩, h5⟩, h6⟩ := h
  have p2 := fewP_of h2
  have p3 := fewP_of h3
  simp [fewPart] at h4 h5
  simp [fewC] at h6
  have h7 := leftC_ok r.cond 40 (by omega) h6
  exact ⟨⟨by omega, by omega, by omega, by omega, by omega, h7.1, by omega⟩, by omega, by omega, by omega⟩
@[go_sem] theorem asInts_slot (x : Slot) : asInts x.c = some [x.node, x.attr, x.term.var, x.term.add] := rfl
@[go_sem] theorem asInts_test (x : Test) : asInts x.c = some [x.kind, x.left.var, x.left.add, x.right.var, x.right.add] := rfl
/-! ### each thing is the same as itself -/
theorem ref05_SameInts1 (a : List Int) : Pure Tryz.prog 74 [dLI a, dLI a] (.bool true) := by
  refine Tz.pK ⟨fun _ => false, fun _ => []⟩ Tryz.func74 rfl (fun Q hQ => ?_)
  try simp [go_sem, seval]
  repeat (first | intro _ | (refine ⟨obl, ?_⟩))
  obtain ⟨I0, hI0⟩ := mkI fun i e H => ((e 0 = dLI a) ∧ (e 1 = dLI a) ∧ (e 5 = dI i) ∧ (i ≤ a.length))
  refine loopK I0 (fun i => a.length - i) (0) ((hI0 _ _ _).2 ⟨?_, ?_, ?_, (by first | assumption | omega | (simp [go_sem]; done) | (simp_all; done))⟩) ?_
  iterate 3 (first | omega | (simp [go_sem, seval] <;> omega))
  intro i e H hi0
  obtain ⟨q0_0, q1_0, q5_0, hi⟩ := (hI0 _ _ _).1 hi0
  have F0 := And.intro q0_0 (And.intro q1_0 q5_0)
  try simp [go_sem, seval, F0]
  repeat (first | intro _ | (refine ⟨obl, ?_⟩))
  refine condQ_mk (fun h4 => ?_) (fun h4 => ?_)
  · try simp [go_sem] at h4
    try simp [go_sem, seval, F0, h4, lge h4]
    repeat (first | intro _ | (refine ⟨obl, ?_⟩))
    refine nextQ_mk (i + 1) (by omega) ((hI0 _ _ _).2 ⟨?_, ?_, ?_, (by first | assumption | omega | (simp [go_sem, F0, h4, lge h4]; done) | (simp_all <;> omega))⟩) <;> first | omega | (simp [go_sem, seval, F0, h4, lge h4] <;> omega)
  · try simp [go_sem] at h4
    try simp [go_sem, seval, F0]
    exact hQ _ _ (by simp [go_sem, F0, h4] <;> first | omega | (rw [bei]; simp <;> omega) | (simp_all <;> omega))
theorem ref02_SameInts1 (a : List Int) : Pure Tryz.prog 75 [dLI a, dLI a] (.bool true) := by
  refine Tz.pK ⟨fun _ => false, fun _ => []⟩ Tryz.func75 rfl (fun Q hQ => ?_)
  try simp [go_sem, seval]
  repeat (first | intro _ | (refine ⟨obl, ?_⟩))
  obtain ⟨I0, hI0⟩ := mkI fun i e H => ((e 0 = dLI a) ∧ (e 1 = dLI a) ∧ (e 5 = dI i) ∧ (i ≤ a.length))
  refine loopK I0 (fun i => a.length - i) (0) ((hI0 _ _ _).2 ⟨?_, ?_, ?_, (by first | assumption | omega | (simp [go_sem]; done) | (simp_all; done))⟩) ?_
  iterate 3 (first | omega | (simp [go_sem, seval] <;> omega))
  intro i e H hi0
  obtain ⟨q0_0, q1_0, q5_0, hi⟩ := (hI0 _ _ _).1 hi0
  have F0 := And.intro q0_0 (And.intro q1_0 q5_0)
  try simp [go_sem, seval, F0]
  repeat (first | intro _ | (refine ⟨obl, ?_⟩))
  refine condQ_mk (fun h4 => ?_) (fun h4 => ?_)
  · try simp [go_sem] at h4
    try simp [go_sem, seval, F0, h4, lge h4]
    repeat (first | intro _ | (refine ⟨obl, ?_⟩))
    refine nextQ_mk (i + 1) (by omega) ((hI0 _ _ _).2 ⟨?_, ?_, ?_, (by first | assumption | omega | (simp [go_sem, F0, h4, lge h4]; done) | (simp_all <;> omega))⟩) <;> first | omega | (simp [go_sem, seval, F0, h4, lge h4] <;> omega)
  · try simp [go_sem] at h4
    try simp [go_sem, seval, F0]
    exact hQ _ _ (by simp [go_sem, F0, h4] <;> first | omega | (rw [bei]; simp <;> omega) | (simp_all <;> omega))
theorem ref05_Same1 (g : Graph) : Pure Tryz.prog 73 [g.d, g.d] (.bool true) := by
  refine Tz.pK ⟨fun _ => false, fun _ => []⟩ Tryz.func73 rfl (fun Q hQ => ?_)
  try simp [go_sem, seval]
  repeat (first | intro _ | (refine ⟨obl, ?_⟩))
  refine callQ_pure0 (ref05_SameInts1 g.nodes) ((by first | rfl | (simp [go_sem, ← List.map_take, ← List.map_drop]; done))) ?_
  try simp [go_sem, seval]
  repeat (first | intro _ | (refine ⟨obl, ?_⟩))
  obtain ⟨I0, hI0⟩ := mkI fun i e H => ((e 2 = .adr g.c) ∧ (e 3 = .adr g.c) ∧ (e 5 = dI i) ∧ (i ≤ g.edges.length))
  refine loopK I0 (fun i => g.edges.length - i) (0) ((hI0 _ _ _).2 ⟨?_, ?_, ?_, (by first | assumption | omega | (simp [go_sem]; done) | (simp_all; done))⟩) ?_
  iterate 3 (first | omega | (simp [go_sem, seval] <;> omega))
  intro i e H hi0
  obtain ⟨q2_0, q3_0, q5_0, hi⟩ := (hI0 _ _ _).1 hi0
  have F0 := And.intro q2_0 (And.intro q3_0 q5_0)
  try simp [go_sem, seval, F0]
  repeat (first | intro _ | (refine ⟨obl, ?_⟩))
  refine condQ_mk (fun h4 => ?_) (fun h4 => ?_)
  · try simp [go_sem] at h4
    try simp [go_sem, seval, F0, h4, lge h4]
    repeat (first | intro _ | (refine ⟨obl, ?_⟩))
    refine nextQ_mk (i + 1) (by omega) ((hI0 _ _ _).2 ⟨?_, ?_, ?_, (by first | assumption | omega | (simp [go_sem, F0, h4, lge h4]; done) | (simp_all <;> omega))⟩) <;> first | omega | (simp [go_sem, seval, F0, h4, lge h4] <;> omega)
  · try simp [go_sem] at h4
    try simp [go_sem, seval, F0]
    exact hQ _ _ (by simp [go_sem, F0, h4] <;> first | omega | (rw [bei]; simp <;> omega) | (simp_all <;> omega))
theorem ref06_Same1 (p : Part) : Pure Tryz.prog 33 [p.d, p.d] (.bool true) := by
  refine Tz.pK ⟨fun _ => false, fun _ => []⟩ Tryz.func33 rfl (fun Q hQ => ?_)
  try simp [go_sem, seval]
  repeat (first | intro _ | (refine ⟨obl, ?_⟩))
  refine callQ_pure0 (ref02_SameInts1 p.nodes) ((by first | rfl | (simp [go_sem, ← List.map_take, ← List.map_drop]; done))) ?_
  try simp [go_sem, seval]
  repeat (first | intro _ | (refine ⟨obl, ?_⟩))
  refine gcallQ_pure0 (fun hg => ref02_SameInts1 p.edges) (fun hg => (by first | rfl | (simp [go_sem, ← List.map_take, ← List.map_drop]; done))) ?_
  try simp [go_sem, seval]
  repeat (first | intro _ | (refine ⟨obl, ?_⟩))
  exact hQ _ _ (by simp [go_sem] <;> first | omega | (rw [bei]; simp <;> omega) | (simp_all <;> omega))
structure Rule.bare (r : Rule) : Prop where
  ls : r.left.slots = []
  lt : r.left.tests = []
  rs : r.right.slots = []
  rt : r.right.tests = []
  ck : r.cond.kids = []
  cs : r.cond.pattern.slots = []
  ct : r.cond.pattern.tests = []
theorem ref13_SameOverlap1 (o : Ovl) : Pure Tryz.prog 47 [o.d, o.d] (.bool true) := by
  refine Tz.pK ⟨fun _ => false, fun _ => []⟩ Tryz.func47 rfl (fun Q hQ => ?_)
  try simp [go_sem, seval, Ovl.d, Ovl.c]
  repeat (first | intro _ | (refine ⟨obl, ?_⟩))
  refine callQ_pure0 (ref05_Same1 o.graph) ((by first | rfl | (simp [go_sem, ← List.map_take, ← List.map_drop, Ovl.d, Ovl.c]; done))) ?_
  try simp [go_sem, seval, Ovl.d, Ovl.c]
  repeat (first | intro _ | (refine ⟨obl, ?_⟩))
  refine gcallQ_pure0 (fun hg => ref06_Same1 o.left) (fun hg => (by first | rfl | (simp [go_sem, ← List.map_take, ← List.map_drop, Ovl.d, Ovl.c]; done))) ?_
  try simp [go_sem, seval, Ovl.d, Ovl.c]
  repeat (first | intro _ | (refine ⟨obl, ?_⟩))
  refine gcallQ_pure0 (fun hg => ref06_Same1 o.right) (fun hg => (by first | rfl | (simp [go_sem, ← List.map_take, ← List.map_drop, Ovl.d, Ovl.c]; done))) ?_
  try simp [go_sem, seval, Ovl.d, Ovl.c]
  repeat (first | intro _ | (refine ⟨obl, ?_⟩))
  exact hQ _ _ (by simp [go_sem, Ovl.d, Ovl.c] <;> first | omega | (rw [bei]; simp <;> omega) | (simp_all <;> omega))
theorem ref13_SameOverlaps1 (l : List Ovl) : Pure Tryz.prog 15 [.list (l.map Ovl.c), .list (l.map Ovl.c)] (.bool true) := by
  refine Tz.pK ⟨fun _ => false, fun _ => []⟩ Tryz.func15 rfl (fun Q hQ => ?_)
  try simp [go_sem, seval]
  repeat (first | intro _ | (refine ⟨obl, ?_⟩))
  obtain ⟨I0, hI0⟩ := mkI fun i e H => ((e 0 = .list (l.map Ovl.c)) ∧ (e 1 = .list (l.map Ovl.c)) ∧ (e 5 = dI i) ∧ (i ≤ l.length))
  refine loopK I0 (fun i => l.length - i) (0) ((hI0 _ _ _).2 ⟨?_, ?_, ?_, (by first | assumption | omega | (simp [go_sem]; done) | (simp_all; done))⟩) ?_
  iterate 3 (first | omega | (simp [go_sem, seval] <;> omega))
  intro i e H hi0
  obtain ⟨q0_0, q1_0, q5_0, hi⟩ := (hI0 _ _ _).1 hi0
  have F0 := And.intro q0_0 (And.intro q1_0 q5_0)
  try simp [go_sem, seval, F0]
  repeat (first | intro _ | (refine ⟨obl, ?_⟩))
  refine condQ_mk (fun h4 => ?_) (fun h4 => ?_)
  · try simp [go_sem] at h4
    try simp [go_sem, seval, F0, h4, lge h4, Ovl.c]
    repeat (first | intro _ | (refine ⟨obl, ?_⟩))
    refine dcallQ_pure0 (ref13_SameOverlap1 l[i]) ((by first | rfl | (simp [go_sem, ← List.map_take, ← List.map_drop, F0, h4, lge h4, Ovl.c]; done))) ?_
    try simp [go_sem, seval, F0, h4, lge h4, Ovl.c]
    repeat (first | intro _ | (refine ⟨obl, ?_⟩))
    refine nextQ_mk (i + 1) (by omega) ((hI0 _ _ _).2 ⟨?_, ?_, ?_, (by first | assumption | omega | (simp [go_sem, F0, h4, lge h4, Ovl.c]; done) | (simp_all <;> omega))⟩) <;> first | omega | (simp [go_sem, seval, F0, h4, lge h4, Ovl.c] <;> omega)
  · try simp [go_sem] at h4
    try simp [go_sem, seval, F0]
    exact hQ _ _ (by simp [go_sem, F0, h4] <;> first | omega | (rw [bei]; simp <;> omega) | (simp_all <;> omega))
/-! ### the bounds -/
def slimB (t : Types) (r : Rule) : Bool := fewT t && fewR r && (decide (ruleF t r ≠ 0) || (decide (r.left.graph.nodes.length ≤ 3) && decide (r.left.graph.edges.length ≤ 3) && decide (r.right.graph.nodes.length ≤ 4) && decide (r.right.graph.edges.length ≤ 4)))
theorem ref32_Slim (t : Types) (hta : ∀ n ∈ t.nodes, n.attrs.length ≤ 1000000000000000) (r : Rule) (hr : r.le) : Pure Tryz.prog 23 [t.d, r.d] (.bool (slimB t r)) := by
  refine Tz.pK ⟨fun t => t == 5 || t == 6, fun r => match r with | 5 => [(0, 6), (1, 6), (2, 6), (3, 6), (4, 6), (5, 6), (0, 7), (1, 7), (2, 7), (3, 7), (4, 7), (5, 7), (6, 7), (3, 8), (4, 8), (5, 8)] | _ => []⟩ Tryz.func23 rfl (fun Q hQ => ?_)
  try simp [go_sem, seval]
  repeat (first | intro _ | (refine ⟨obl, ?_⟩))
  refine callQ_pure0 (ref04_Few t hta) ((by first | rfl | (simp [go_sem, ← List.map_take, ← List.map_drop]; done))) ?_
  try simp [go_sem, seval]
  repeat (first | intro _ | (refine ⟨obl, ?_⟩))
  refine gcallQ_pure0 (fun hg => ref24_Few r hr) (fun hg => (by first | rfl | (simp [go_sem, ← List.map_take, ← List.map_drop]; done))) ?_
  try simp [go_sem, seval]
  repeat (first | intro _ | (refine ⟨obl, ?_⟩))
  refine condQ_mk (fun h1 => ?_) (fun h1 => ?_)
  · try simp [go_sem] at h1
    have hS : slimB t r = false := by
     unfold slimB; revert h1; cases fewT t <;> cases fewR r <;> simp
    try simp [go_sem, seval]
    exact hQ _ _ (by first | (left; (simp [go_sem, hS]); done) | (right; (simp [go_sem, hS]); done))
  · try simp [go_sem] at h1
    have hT : fewT t = true := by revert h1; cases fewT t <;> cases fewR r <;> simp
    have hR : fewR r = true := by revert h1; cases fewT t <;> cases fewR r <;> simp
    try simp [go_sem, seval]
    refine callQ_pure0 (ref24_Valid t (fewT_ok hT) r (fewR_ok hR).1) ((by first | rfl | (simp [go_sem, ← List.map_take, ← List.map_drop]; done))) ?_
    try simp [go_sem, seval]
    refine condQ_mk (fun h3 => ?_) (fun h3 => ?_)
    ·try simp [go_sem] at h3
     have hS : slimB t r = true := by unfold slimB; rw [hT, hR]; simp [h3]
     try simp [go_sem, seval]
     exact hQ _ _ (by first | (left; (simp [go_sem, hS]); done) | (right; (simp [go_sem, hS]); done))
    ·try simp [go_sem] at h3
     have hS : slimB t r = (decide (r.left.graph.nodes.length ≤ 3) && decide (r.left.graph.edges.length ≤ 3) && decide (r.right.graph.nodes.length ≤ 4) && decide (r.right.graph.edges.length ≤ 4)) := by unfold slimB; rw [hT, hR]; simp [h3]
     try simp [go_sem, seval]
     repeat (first | intro _ | (refine ⟨obl, ?_⟩))
     exact hQ _ _ (by first | (left; (simp [go_sem, hS]; rw [bei]; simp; omega); done) | (right; (simp [go_sem, hS]; rw [bei]; simp; omega); done))
theorem law32_slim (t : Types) (h1 : ∀ n ∈ t.nodes, n.attrs.length ≤ 1000000000000000) (a b : Rule) (ha : a.le) (hb : b.le) : Pure Tryz.prog 7 [.agg (t.c ++ a.c ++ b.c)] (.bool (slimB t a && slimB t b)) := by
  refine Tz.pK ⟨fun _ => false, fun _ => []⟩ Tryz.func7 rfl (fun Q hQ => ?_)
  try simp [go_sem, seval, Types.c, Rule.c]
  repeat (first | intro _ | (refine ⟨obl, ?_⟩))
  refine callQ_pure0 (ref32_Slim t h1 a ha) ((by first | rfl | (simp [go_sem, ← List.map_take, ← List.map_drop, Types.c, Rule.c]; done))) ?_
  try simp [go_sem, seval, Types.c, Rule.c]
  repeat (first | intro _ | (refine ⟨obl, ?_⟩))
  refine gcallQ_pure0 (fun hg => ref32_Slim t h1 b hb) (fun hg => (by first | rfl | (simp [go_sem, ← List.map_take, ← List.map_drop, Types.c, Rule.c]; done))) ?_
  try simp [go_sem, seval, Types.c, Rule.c]
  repeat (first | intro _ | (refine ⟨obl, ?_⟩))
  exact hQ _ _ (by simp [go_sem, Types.c, Rule.c] <;> first | omega | (rw [bei]; simp <;> omega) | (simp_all <;> omega))
end Go.Abs
end
section
set_option maxRecDepth 8000
open Go Go.Proofs
namespace Go.Abs
structure GOk (g : Graph) (p : Part) (more : Graph) (kept : Part) (im : List Int) : Prop where
  sub : subF g p = 0
  gm : graphF more = 0
  kl : kept.nodes.length ≤ im.length
  ip : ∀ k : Int, 0 ≤ k → k < kept.nodes.length → iA im k ∈ p.nodes ∧ gN g (iA im k) = gN more (iA kept.nodes k)
section
variable {g : Graph} {p : Part} {more : Graph} {kept : Part} {im : List Int}
end
end Go.Abs
end
section
set_option maxRecDepth 8000
open Go Go.Proofs
namespace Go.Abs
section
variable {t : Types} {a b : Rule} {o : Ovl}
end
/-! ### what is common to two parts -/
section
variable {g : Graph} {d f : Part} {ml mr : Graph} {kl kr : Part} {il ir : List Int}
end
end Go.Abs
end
section
set_option maxRecDepth 8000
open Go Go.Proofs
namespace Go.Abs
section
variable {t : Types} {a b : Rule} {o : Ovl}
end
end Go.Abs
end
section
set_option maxRecDepth 60000
set_option maxHeartbeats 2000000
open Go Go.Proofs
namespace Go.Abs
theorem Pure.nz {P : Program} {f : FuncId} {args args' : List D} {r : D} (hp : Pure P f args' r) (ha : args.map nzA = args') : Pure P f args r := by
  subst ha
  refine ⟨hp.1, fun M w vals hM hv => hp.2 M w vals hM ⟨by simpa using hv.len, fun j u d hu hd => ?_⟩⟩
  rw [List.getElem?_map, Option.map_eq_some_iff] at hd
  obtain ⟨y, hy, rfl⟩ := hd
  exact nzA_rep (hv.rep j u y hu hy)
theorem nz_strs (l : List ByteArray) : nzAss (l.map cS) = l.map cS := nzAss_id fun c hc => by
  rw [List.mem_map] at hc; obtain ⟨x, _, rfl⟩ := hc; rfl
theorem nz_attrs (l : List Attr) : nzAss (l.map Attr.c) = l.map Attr.c := nzAss_id fun c hc => by
  rw [List.mem_map] at hc; obtain ⟨x, _, rfl⟩ := hc
  simp [Attr.c, nzAs, nzA, dLS, dI, nz_strs]
theorem nz_nodes (l : List NodeTy) : nzAss (l.map NodeTy.c) = l.map NodeTy.c := nzAss_id fun c hc => by
  rw [List.mem_map] at hc; obtain ⟨x, _, rfl⟩ := hc
  simp [NodeTy.c, nzAs, nzA, dI, nz_attrs]
theorem nz_edgeTys (l : List EdgeTy) : nzAss (l.map EdgeTy.c) = l.map EdgeTy.c := nzAss_id fun c hc => by
  rw [List.mem_map] at hc; obtain ⟨x, _, rfl⟩ := hc
  simp [EdgeTy.c, nzAs, nzA, dI]
def exT : Types := ⟨[⟨⟨#[65, 99, 99, 111, 117, 110, 116]⟩, -1, true, [⟨⟨#[98, 97, 108, 97, 110, 99, 101]⟩, -1000, 1000, []⟩]⟩, ⟨⟨#[67, 97, 115, 104]⟩, 0, false, []⟩, ⟨⟨#[76, 111, 97, 110]⟩, 0, false, [⟨⟨#[115, 116, 97, 116, 101]⟩, 0, 1, [⟨#[111, 112, 101, 110]⟩, ⟨#[99, 108, 111, 115, 101, 100]⟩]⟩]⟩, ⟨⟨#[80, 101, 114, 115, 111, 110]⟩, -1, false, []⟩],
  [⟨⟨#[111, 119, 110, 115]⟩, 3, 0, 0, -1, 1, 1⟩, ⟨⟨#[112, 97, 121, 115]⟩, 1, 1, 0, -1, 0, -1⟩]⟩
theorem ref04_Example : Pure Tryz.prog 22 [] exT.d := by
  refine pureKA (by first | rfl | (simp [go_sem]; done)) (fun Q hQ => (acalls_of_body (cfg := ⟨fun t => t == 0, fun _ => []⟩) Tz.mixed Tryz.func22 rfl rfl (nlb rfl) (by kernel_rfl) ?_))
  try simp -implicitDefEqProofs [go_sem, seval]
  exact hQ _ _ (by simp [go_sem, exT, Types.d, Types.c, NodeTy.c, EdgeTy.c, Attr.c, dLS, cS, dI])
def mkR : Rule := ⟨⟨#[109, 97, 107, 101]⟩, ⟨⟨[], []⟩, [], 0, []⟩, ⟨⟨[3], []⟩, [], 0, []⟩, ⟨[], []⟩, ⟨[], []⟩, true, trueC⟩
def drR : Rule := ⟨⟨#[100, 114, 111, 112]⟩, ⟨⟨[3], []⟩, [], 0, []⟩, ⟨⟨[], []⟩, [], 0, []⟩, ⟨[], []⟩, ⟨[], []⟩, true, trueC⟩
theorem exT_few : fewT exT = true := by decide +kernel
theorem mkR_few : fewR mkR = true := by decide +kernel
theorem drR_few : fewR drR = true := by decide +kernel
def exO (i : Nat) : Ovl := (rOvlL exT mkR drR)[i]?.getD ovl0
theorem ex1 : rOvlE exT mkR drR = 0 := by decide +kernel
theorem ex2 : (rOvlL exT mkR drR).length = 2 := by decide +kernel
theorem ex3 : rErr exT mkR drR (exO 0) = 0 := by decide +kernel
theorem ex4 : rErr exT mkR drR (exO 1) = 0 := by decide +kernel
theorem ex5 : (rRule exT mkR drR (exO 0)).left.graph.nodes.length = 1 := by decide +kernel
theorem ex6 : (rRule exT mkR drR (exO 0)).right.graph.nodes.length = 1 := by decide +kernel
theorem ex7 : (rRule exT mkR drR (exO 0)).keep.nodes.length = 0 := by decide +kernel
theorem ex8 : (rRule exT mkR drR (exO 1)).left.graph.nodes.length = 0 := by decide +kernel
theorem ex9 : (rRule exT mkR drR (exO 1)).right.graph.nodes.length = 0 := by decide +kernel
theorem exO_list : rOvlL exT mkR drR = [exO 0, exO 1] := by
  have h := ex2
  unfold exO
  generalize rOvlL exT mkR drR = l at *
  match l, h with
  | [x, y], _ => rfl
theorem law32_awake : Pure Tryz.prog 6 [] (.bool true) := by
  have ht := fewT_ok exT_few
  have hm := fewR_ok mkR_few
  have hd := fewR_ok drR_few
  have hO := concurrent_Overlaps exT ht mkR drR hm.1 hd.1 hm.2 hd.2
  have hR0 := concurrent_Rule exT ht mkR drR (exO 0) hm.1 hd.1 hm.2 hd.2
  have hR1 := concurrent_Rule exT ht mkR drR (exO 1) hm.1 hd.1 hm.2 hd.2
  rw [exO_list, ex1] at hO
  rw [ex3] at hR0
  rw [ex4] at hR1
  have h5 := ex5
  have h6 := ex6
  have h7 := ex7
  have h8 := ex8
  have h9 := ex9
  generalize exO 0 = x at *
  generalize exO 1 = y at *
  generalize rRule exT mkR drR x = X at *
  generalize rRule exT mkR drR y = Y at *
  refine Tz.pK ⟨fun t => t == 1 || t == 2 || t == 3 || t == 4 || t == 7 || t == 9, fun r => match r with | 8 => [(0, 10), (1, 10), (2, 10), (4, 10), (5, 10), (6, 10)] | 9 => [(0, 10), (1, 10), (2, 10), (4, 10), (5, 10), (6, 10)] | _ => []⟩ Tryz.func6 rfl (fun Q hQ => ?_)
  try simp -implicitDefEqProofs [go_sem, seval, Ovl.c, Rule.c, h5, h6, h7, h8, h9]
  refine callQ_pure0 (ref04_Example) ((by first | rfl | (simp [go_sem, ← List.map_take, ← List.map_drop, Ovl.c, Rule.c, h5, h6, h7, h8, h9]; done))) ?_
  try simp -implicitDefEqProofs [go_sem, seval, Ovl.c, Rule.c, h5, h6, h7, h8, h9]
  refine callQ_pure0 (hO.nz (by simp [go_sem, nz_nodes, nz_edgeTys, mkR, drR, trueC, Rule.d, Types.d, Types.c, dLI, cI, dI, Cond.kind, Cond.kids, Cond.map, Cond.pattern])) ((by first | rfl | (simp [go_sem, ← List.map_take, ← List.map_drop, Ovl.c, Rule.c, h5, h6, h7, h8, h9]; done))) ?_
  try simp -implicitDefEqProofs [go_sem, seval, Ovl.c, Rule.c, h5, h6, h7, h8, h9]
  repeat first | intro _ | refine ⟨obs, ?_⟩
  refine dcallQ_pure0 (hR0.nz (by simp [go_sem, nz_nodes, nz_edgeTys, nz_ints, nz_edges, mkR, drR, trueC, Rule.d, Types.d, Types.c, Ovl.d, Ovl.c, dLI, cI, dI, Cond.kind, Cond.kids, Cond.map, Cond.pattern])) ((by first | rfl | (simp [go_sem, ← List.map_take, ← List.map_drop, Ovl.c, Rule.c, h5, h6, h7, h8, h9]; done))) ?_
  try simp -implicitDefEqProofs [go_sem, seval, Ovl.c, Rule.c, h5, h6, h7, h8, h9]
  repeat first | intro _ | refine ⟨obs, ?_⟩
  refine dcallQ_pure0 (hR1.nz (by simp [go_sem, nz_nodes, nz_edgeTys, nz_ints, nz_edges, mkR, drR, trueC, Rule.d, Types.d, Types.c, Ovl.d, Ovl.c, dLI, cI, dI, Cond.kind, Cond.kids, Cond.map, Cond.pattern])) ((by first | rfl | (simp [go_sem, ← List.map_take, ← List.map_drop, Ovl.c, Rule.c, h5, h6, h7, h8, h9]; done))) ?_
  try simp -implicitDefEqProofs [go_sem, seval, Ovl.c, Rule.c, h5, h6, h7, h8, h9]
  repeat first | intro _ | refine ⟨obs, ?_⟩
  exact hQ _ _ (by simp [go_sem, Ovl.c, Rule.c, h5, h6, h7, h8, h9] <;> first | omega | (rw [bei]; simp <;> omega) | (simp_all <;> omega))
end Go.Abs
end
section
set_option maxRecDepth 60000
set_option maxHeartbeats 2000000
open Go Go.Proofs
namespace Go.Abs
theorem rule_bounded_rOk {t : Types} {a b : Rule} {o : Ovl} (h : givenR t a b = 0) (hp : partsE a b o = 0) : ROk a b o (partsD a b o) (partsF a b o) := by
  obtain ⟨ha, hb⟩ := givenR_parts h
  exact rok ha hb hp
theorem law32_ConcurrentOverlaps (t : Types) (hta : ∀ n ∈ t.nodes, n.attrs.length ≤ 1000000000000000) (a b : Rule) (ha : a.le) (hb : b.le) : Pure Tryz.prog 4 [.agg (t.c ++ a.c ++ b.c)] (.bool true) := by
  refine Tz.pK ⟨fun _ => false, fun _ => []⟩ Tryz.func4 rfl (fun Q hQ => ?_)
  try simp -implicitDefEqProofs [go_sem, seval, Types.c, Rule.c]
  repeat first | intro _ | refine ⟨obs, ?_⟩
  refine callQ_pure0 (law32_awake) ((by first | rfl | (simp [go_sem, ← List.map_take, ← List.map_drop, Types.c, Rule.c]; done))) ?_
  try simp -implicitDefEqProofs [go_sem, seval, Types.c, Rule.c]
  repeat first | intro _ | refine ⟨obs, ?_⟩
  refine gcallQ_pure0 (fun hg => law32_slim t hta a b ha hb) (fun hg => (by first | rfl | (simp [go_sem, ← List.map_take, ← List.map_drop, Types.c, Rule.c]; done))) ?_
  try simp -implicitDefEqProofs [go_sem, seval, Types.c, Rule.c]
  repeat first | intro _ | refine ⟨obs, ?_⟩
  refine condQ_mk (fun h1 => ?_) (fun h1 => ?_)
  · try simp [go_sem] at h1
    try simp -implicitDefEqProofs [go_sem, seval, Types.c, Rule.c]
    refine callQ_pure0 (law32_awake) ((by first | rfl | (simp [go_sem, ← List.map_take, ← List.map_drop, Types.c, Rule.c]; done))) ?_
    try simp -implicitDefEqProofs [go_sem, seval, Types.c, Rule.c]
    exact hQ _ _ (by simp [go_sem, Types.c, Rule.c, h1] <;> first | omega | (rw [bei]; simp <;> omega) | (simp_all <;> omega))
  · try simp [go_sem] at h1
    have hS : slimB t a = true ∧ slimB t b = true := by simpa using h1
    have ht : t.ok := fewT_ok (by have := hS.1; unfold slimB at this; simp only [Bool.and_eq_true] at this; exact this.1.1)
    have fa := fewR_ok (r := a) (by have := hS.1; unfold slimB at this; simp only [Bool.and_eq_true] at this; exact this.1.2)
    have fb := fewR_ok (r := b) (by have := hS.2; unfold slimB at this; simp only [Bool.and_eq_true] at this; exact this.1.2)
    try simp -implicitDefEqProofs [go_sem, seval, Types.c, Rule.c]
    refine callQ_pure0 (concurrent_Overlaps t ht a b fa.1 fb.1 fa.2 fb.2) ((by first | rfl | (simp [go_sem, ← List.map_take, ← List.map_drop, Types.c, Rule.c]; done))) ?_
    try simp -implicitDefEqProofs [go_sem, seval, Types.c, Rule.c]
    refine callQ_pure0 (ref32_Overlaps t ht a b fa.1 fb.1 fa.2 fb.2 (by have := ovL_le a.right.graph b.left.graph; omega) (fun h o _ hp => rule_bounded_rOk h hp)) ((by first | rfl | (simp [go_sem, ← List.map_take, ← List.map_drop, Types.c, Rule.c]; done))) ?_
    try simp -implicitDefEqProofs [go_sem, seval, Types.c, Rule.c]
    repeat first | intro _ | refine ⟨obs, ?_⟩
    refine gcallQ_pure0 (fun hg => ref13_SameOverlaps1 (rOvlL t a b)) (fun hg => (by first | rfl | (simp [go_sem, ← List.map_take, ← List.map_drop, Types.c, Rule.c]; done))) ?_
    try simp -implicitDefEqProofs [go_sem, seval, Types.c, Rule.c]
    repeat first | intro _ | refine ⟨obs, ?_⟩
    exact hQ _ _ (by simp [go_sem, Types.c, Rule.c, h1] <;> first | omega | (rw [bei]; simp <;> omega) | (simp_all <;> omega))
end Go.Abs
end
