/- Layer 32: Rule and Overlaps of the program. · The bounds tha -/
import Derived.Test.YthnegcfdjjhfgaaGreatZmA
import Derived.Test.YthnegcfdjjhfgaaGreatZmO
import Derived.Test.YthnegcfdjjhfgaaGreatZmL
import Derived.Test.YthnegcfdjjhfgaaGreatZmI
set_option linter.unusedVariables false
set_option linter.unusedSimpArgs false
section
set_option maxRecDepth 60000
set_option maxHeartbeats 2000000
open Go Go.Proofs
namespace Go.Abs
theorem glued_rule' {t : Types} {a b : Rule} {o : Ovl} (ha : Rule.parts t a) (hb : Rule.parts t b) (h : cGlueE a b o = 0) : Pure Tryz.prog 28 [(cGlueG a b o).dd] (.tup [(wholeR a b o).d, dI (wholeE a b o)]) := by
  have hp : partsE a b o = 0 := by rw [← glueE_eq ha hb]; exact h
  obtain ⟨e1, e2⟩ := whole_eq ha hb hp
  have := glued_rule (cGlueG a b o) (by rw [glueG_eq ha hb hp]; exact hokL ha hb hp) (by rw [glueG_eq ha hb hp]; exact hokR ha hb hp)
  rwa [e1, e2] at this
theorem concurrent_Rule (t : Types) (ht : t.ok) (a b : Rule) (o : Ovl) (ha : a.ok) (hb : b.ok) (hat : a.thin) (hbt : b.thin) : Pure Tryz.prog 9 [t.d, a.d, b.d, o.d] (.tup [(rRule t a b o).d, dI (rErr t a b o)]) := by
  have hglue := concurrent_glue a b o ha hb
  refine pureKA (by first | rfl | (simp [go_sem]; done)) (fun Q hQ => (acalls_of_body (cfg := ⟨fun t => t == 8 || t == 11, fun _ => []⟩) Tz.mixed Tryz.func9 rfl rfl (nlb rfl) (by kernel_rfl) ?_))
  try simp [go_sem, seval, Glued.dd, Glued.c, Rule.c, Ovl.d, Ovl.c, Part.c, Part.d]
  refine callQ_pure0 (concurrent_given t ht a b ha hb hat hbt) ((by first | rfl | (simp [go_sem, ← List.map_take, ← List.map_drop, Glued.dd, Glued.c, Rule.c, Ovl.d, Ovl.c, Part.c, Part.d]; done))) ?_
  try simp [go_sem, seval, Glued.dd, Glued.c, Rule.c, Ovl.d, Ovl.c, Part.c, Part.d]
  refine condQ_mk (fun h2 => ?_) (fun h2 => ?_)
  · try simp [go_sem] at h2
    have hE : rErr t a b o = givenR t a b := if_pos h2
    have hZ : rRule t a b o = rule0 := if_pos h2
    try simp [go_sem, seval, Glued.dd, Glued.c, Rule.c, Ovl.d, Ovl.c, Part.c, Part.d]
    exact hQ _ _ (by simp [go_sem, hE, hZ, rule0, Rule.d, Rule.c, nz_ints, nz_edges, Cond.kind, Cond.kids, Cond.map, Cond.pattern])
  · try simp [go_sem] at h2
    have hE2 : ¬ givenR t a b ≠ 0 := by rw [h2]; simp
    obtain ⟨hPa, hPb⟩ := givenR_parts h2
    have hE : rErr t a b o = wholeE a b o := if_neg hE2
    have hZ : rRule t a b o = wholeR a b o := if_neg hE2
    have hgE := glueE_eq hPa hPb o
    have hGR := @glued_rule' t a b o hPa hPb
    obtain ⟨X, hX⟩ : ∃ x, cGlueG a b o = x := ⟨_, rfl⟩
    rw [hX] at hglue hGR
    try simp [go_sem, seval, Glued.dd, Glued.c, Rule.c, Ovl.d, Ovl.c, Part.c, Part.d]
    refine callQ_pure0 (hglue) ((by first | rfl | (simp [go_sem, ← List.map_take, ← List.map_drop, Glued.dd, Glued.c, Rule.c, Ovl.d, Ovl.c, Part.c, Part.d]; done))) ?_
    try simp [go_sem, seval, Glued.dd, Glued.c, Rule.c, Ovl.d, Ovl.c, Part.c, Part.d]
    refine condQ_mk (fun h5 => ?_) (fun h5 => ?_)
    ·try simp [go_sem] at h5
     have hW : wholeE a b o = cGlueE a b o := by unfold wholeE; rw [← hgE, if_pos h5]
     have hZ' : wholeR a b o = rule0 := if_neg (by rw [hW]; exact h5)
     try simp [go_sem, seval, Glued.dd, Glued.c, Rule.c, Ovl.d, Ovl.c, Part.c, Part.d]
     exact hQ _ _ (by simp [go_sem, hE, hZ, hW, hZ', rule0, Rule.d, Rule.c, nz_ints, nz_edges, Cond.kind, Cond.kids, Cond.map, Cond.pattern])
    ·try simp [go_sem] at h5
     have hrule := hGR h5
     obtain ⟨W, hWW⟩ : ∃ x, wholeR a b o = x := ⟨_, rfl⟩
     rw [hWW] at hrule hZ
     try simp [go_sem, seval, Glued.dd, Glued.c, Rule.c, Ovl.d, Ovl.c, Part.c, Part.d]
     refine callQ_pure0 (hrule) ((by first | rfl | (simp [go_sem, ← List.map_take, ← List.map_drop, Glued.dd, Glued.c, Rule.c, Ovl.d, Ovl.c, Part.c, Part.d]; done))) ?_
     try simp [go_sem, seval, Glued.dd, Glued.c, Rule.c, Ovl.d, Ovl.c, Part.c, Part.d]
     exact hQ _ _ (by simp [go_sem, Glued.dd, Glued.c, Rule.c, Ovl.d, Ovl.c, Part.c, Part.d, hE, hZ, Rule.d, Rule.c, nz_ints, nz_edges, nz_slots, nz_tests, nz_conds])
theorem concurrent_Overlaps1 (t : Types) (a b : Rule) (o : Ovl) (ha : a.ok) (hb : b.ok) (hPa : Rule.parts t a) (hPb : Rule.parts t b) : Pure Tryz.prog 45 [.agg o.c, .adr a.c, .adr b.c] (.bool (decide (wholeE a b o ≠ 0))) := by
  have hglue := concurrent_glue a b o ha hb
  have hgE := glueE_eq hPa hPb o
  have hGR := @glued_rule' t a b o hPa hPb
  obtain ⟨X, hX⟩ : ∃ x, cGlueG a b o = x := ⟨_, rfl⟩
  rw [hX] at hglue hGR
  refine Tz.pK ⟨fun t => t == 5, fun _ => []⟩ Tryz.func45 rfl (fun Q hQ => ?_)
  try simp [go_sem, seval, Glued.dd, Glued.c, Rule.c, Ovl.d, Ovl.c, Part.c, Part.d]
  refine callQ_pure0 (hglue) ((by first | rfl | (simp [go_sem, ← List.map_take, ← List.map_drop, Glued.dd, Glued.c, Rule.c, Ovl.d, Ovl.c, Part.c, Part.d]; done))) ?_
  try simp [go_sem, seval, Glued.dd, Glued.c, Rule.c, Ovl.d, Ovl.c, Part.c, Part.d]
  refine condQ_mk (fun h2 => ?_) (fun h2 => ?_)
  · try simp [go_sem] at h2
    try simp [go_sem, seval, Glued.dd, Glued.c, Rule.c, Ovl.d, Ovl.c, Part.c, Part.d]
    refine callQ_pure0 (hGR h2) ((by first | rfl | (simp [go_sem, ← List.map_take, ← List.map_drop, Glued.dd, Glued.c, Rule.c, Ovl.d, Ovl.c, Part.c, Part.d]; done))) ?_
    try simp [go_sem, seval, Glued.dd, Glued.c, Rule.c, Ovl.d, Ovl.c, Part.c, Part.d]
    exact hQ _ _ (by first | (left; (simp [go_sem]; rw [bei]; simp); done) | (right; (simp [go_sem]; rw [bei]; simp); done))
  · try simp [go_sem] at h2
    have hW : wholeE a b o = cGlueE a b o := by unfold wholeE; rw [← hgE, if_pos h2]
    try simp [go_sem, seval, Glued.dd, Glued.c, Rule.c, Ovl.d, Ovl.c, Part.c, Part.d]
    exact hQ _ _ (by first | (left; (simp [go_sem, hW]; rw [bei]; simp); done) | (right; (simp [go_sem, hW]; rw [bei]; simp); done))
theorem indexFunc_ovl (xs : List Ovl) (g : FuncId) (caps : List D) (p : Ovl → Bool) (hc : D.clL caps = true) (hg : ∀ x ∈ xs, Pure Tryz.prog g (.agg x.c :: caps) (.bool (p x))) :
    Pure Tryz.prog 97 [.list (xs.map Ovl.c), .fn g caps] (dI (idxF xs p)) := by
  refine pure_of_calls (acalls_of_body (cfg := ⟨fun _ => false, fun _ => []⟩) Tz.mixed Tryz.func97 rfl rfl (nlb rfl) (by kernel_rfl) ?_)
  simp [go_sem, seval, dI, dLI]
  intro hlen
  refine loop_rule (ι := Nat) (fun i e H => H = .emp ∧ i ≤ xs.length ∧ e 0 = .list (xs.map Ovl.c) ∧ e 1 = .fn g caps ∧ e 7 = dI xs.length ∧ e 8 = dI i ∧ (∀ j x, j < i → xs[j]? = some x → p x = false)) (fun i => xs.length - i) 0 (by simp [go_sem, seval, dI, dLI]) ?_
  intro i e H ⟨hH, hi, h0, h1, h7, h8, hn⟩
  subst hH
  simp [go_sem, seval, h0, h1, h7, h8, dI, dLI]
  refine condQ_dec (fun hlt => ?_) (fun hge => ?_)
  · have hgx := hg xs[i] (lgm hlt)
    simp [go_sem, seval, h0, h1, h7, h8, dI, dLI, hlt, Ovl.c] at hgx ⊢
    refine callQ_pure0 hgx (by simp [go_sem, hc]) ?_
    simp [go_sem, seval, h0, h1, h7, h8, dI, dLI]
    refine condQ_mk (fun h => ?_) (fun h => ?_)
    ·simp [go_sem, seval, h0, h1, h7, h8, dI, dLI]
     rw [idxF_some hn hlt h]
    ·simp [go_sem, seval, h0, h1, h7, h8, dI, dLI]
     refine ⟨inR_i64 (by omega) (by omega), i + 1, by omega, by omega, by omega, fun j x hj hx => ?_⟩
     rcases Nat.lt_or_ge j i with hj' | hj'
     ·exact hn j x hj' hx
     ·have : j = i := by omega
      subst this
      rw [lge hlt] at hx
      cases hx; exact h
  · simp [go_sem, seval, h0, h1, h7, h8, dI, dLI]
    rw [idxF_none fun j x hj => hn j x (by omega)]
theorem idxF_neg {α : Type} {xs : List α} {p : α → Bool} (h : idxF xs p = -1) : ∀ x ∈ xs, p x = false := fun x hx => by
  unfold idxF at h
  cases hf : xs.findIdx? p with
  | none => rw [List.findIdx?_eq_none_iff] at hf; simpa using hf x hx
  | some k => rw [hf] at h; simp at h
theorem idxF_pos {α : Type} {xs : List α} {p : α → Bool} (h : idxF xs p ≠ -1) : ∃ k : Nat, ∃ hk : k < xs.length, idxF xs p = k ∧ p xs[k] = true ∧ ∀ j (hj : j < xs.length), j < k → p xs[j] = false := by
  unfold idxF at h ⊢
  cases hf : xs.findIdx? p with
  | none => rw [hf] at h; exact absurd rfl h
  | some k =>
    rw [List.findIdx?_eq_some_iff_getElem] at hf
    obtain ⟨hk, hp, hb⟩ := hf
    exact ⟨k, hk, rfl, hp, fun j hj hjk => by simpa using hb j hjk⟩
theorem take_set_succ {α : Type} {L : List α} {i : Nat} (h : i < L.length) (x : α) : (L.set i x).take (i + 1) = L.take i ++ [x] := by
  rw [List.take_succ_eq_append_getElem (by simpa using h), List.getElem_set_self, List.take_set, List.set_eq_of_length_le (by rw [List.length_take]; omega)]
theorem drop_set_lt {α : Type} (L : List α) {i j : Nat} (h : i < j) (x : α) : (L.set i x).drop j = L.drop j := by
  rw [List.drop_set_of_lt h]
theorem rsvP_cl {H : AHeap} {d : D} (h : d.cl = true) : rsvP H d = d := by cases d <;> first | rfl | (simp [D.cl] at h)
theorem rsvP_caps {caps : List D} (hc : D.clL caps = true) (H : AHeap) : caps.map (rsvP H) = caps := by
  conv => rhs; rw [← List.map_id caps]
  exact List.map_congr_left fun d hd => rsvP_cl (D.clL_mem hc d hd)
theorem deleteFunc_ovl (xs : List Ovl) (hl : xs.length ≤ 100000) (g : FuncId) (caps : List D) (p : Ovl → Bool) (hc : D.clL caps = true) (hg : ∀ x ∈ xs, Pure Tryz.prog g (.agg x.c :: caps) (.bool (p x))) (id : Nat) (H0 : AHeap)
    (hH : H0.get id = some ⟨45, 6, xs.map Ovl.c, false⟩) (hlt : id < H0.next) (Q : D → AHeap → Prop) (hQ : ∀ d H', rsvD H' d = .list ((xs.filter fun x => !p x).map Ovl.c) → Q d H') :
    ACalls Tryz.prog 44 [.own id xs.length, .fn g caps] H0 Q := by
  have hix := indexFunc_ovl xs g caps p hc hg
  obtain ⟨v, hv⟩ : ∃ v, idxF xs p = v := ⟨_, rfl⟩
  rw [hv] at hix
  have hcap := rsvP_caps hc
  refine (acalls_of_body (cfg := ⟨fun t => t == 0 || t == 7, fun _ => []⟩) Tz.mixed Tryz.func44 rfl rfl (nlb rfl) (by kernel_rfl) ?_)
  try simp [go_sem, seval, hH, Ovl.c, hcap, hc]
  refine callQ_pureC (hix) (by simp [rsvC, rsvP, cellsAt, go_sem, ← List.map_take, ← List.map_drop, hH, Ovl.c, hcap, hc]) ((by first | rfl | (simp [go_sem, ← List.map_take, ← List.map_drop, hH, Ovl.c, hcap, hc]; done))) ( rfl) ?_
  try simp [go_sem, seval, hH, Ovl.c, hcap, hc]
  refine condQ_mk (fun h2 => ?_) (fun h2 => ?_)
  · try simp [go_sem] at h2
    have hno : ∀ x ∈ xs, p x = false := idxF_neg (hv.trans h2)
    have hF : xs.filter (fun x => !p x) = xs := List.filter_eq_self.2 fun x hx => by rw [hno x hx]; rfl
    try simp [go_sem, seval, hH, Ovl.c, hcap, hc]
    exact hQ _ _ (by simp [go_sem, hH, hF])
  · try simp [go_sem] at h2
    obtain ⟨k0, hk0, hkv, hpk, hbef⟩ := idxF_pos (xs := xs) (p := p) (by rw [hv]; exact h2)
    rw [hv] at hkv
    subst hkv
    have hst0 : xs.take k0 = (xs.take (k0 + 1)).filter (fun x => !p x) := by
     rw [filter_take_succ _ hk0, hpk, List.filter_eq_self.2 fun x hx => (by
      obtain ⟨q, hq, rfl⟩ := List.getElem_of_mem hx
      rw [List.length_take] at hq
      rw [List.getElem_take, hbef q (by omega) (by omega)]; rfl)]
     simp
    try simp [go_sem, seval, hH, Ovl.c, hcap, hc]
    repeat first | intro _ | refine ⟨obs, ?_⟩
    obtain ⟨I0, hI0⟩ := mkI fun j e H => (∃ i : Nat, ∃ L : List Ovl, (e 0 = .own id xs.length) ∧ (e 1 = .fn g caps) ∧ (e 5 = dI i) ∧ (e 6 = dI j) ∧ (H.get id = some ⟨45, 6, L.map Ovl.c, false⟩) ∧ (id < H.next) ∧ (j ≤ xs.length) ∧ (i < j) ∧ (L.length = xs.length) ∧ (L.take i = (xs.take j).filter (fun x => !p x)) ∧ (L.drop j = xs.drop j))
    refine loopK I0 (fun j => xs.length - j) (k0 + 1) ((hI0 _ _ _).2 ⟨(k0), (xs), ?_, ?_, ?_, ?_, ?_, ?_, (by first | assumption | omega | (simp [go_sem, hH, Ovl.c, hcap, hc]; done) | (simp_all; done)), (by omega), (by rfl), (by exact hst0), (by rfl)⟩) ?_
    iterate 6 (first | omega | (simp [go_sem, seval, hH, Ovl.c, hcap, hc] <;> omega))
    intro j e H hi0
    obtain ⟨i, L, q0_0, q1_0, q5_0, q6_0, gid_0, nid_0, hj, hij, hLl, hLt, hLd⟩ := (hI0 _ _ _).1 hi0
    have xid := frs nid_0
    have F0 := And.intro q0_0 (And.intro q1_0 (And.intro q5_0 (And.intro q6_0 (And.intro gid_0 xid))))
    try simp [go_sem, seval, hH, Ovl.c, hcap, hc, F0, hLl]
    repeat first | intro _ | refine ⟨obs, ?_⟩
    refine condQ_mk (fun h5 => ?_) (fun h5 => ?_)
    ·try simp [go_sem] at h5
     have hjL : j < L.length := by omega
     have hLj : L[j] = xs[j] := by
      have := congrArg (fun l => l[0]?) hLd
      simpa [hjL, h5] using this
     have hmem : L[j] ∈ xs := by rw [hLj]; exact lgm h5
     have hfs := filter_take_succ (fun x => !p x) h5
     have hds : L.drop (j + 1) = xs.drop (j + 1) := by have := congrArg (List.drop 1) hLd; simpa using this
     try simp [go_sem, seval, hH, Ovl.c, hcap, hc, F0, hLl, h5, lge hjL]
     repeat first | intro _ | refine ⟨obs, ?_⟩
     refine callQ_pure0 (hg L[j] hmem) ((by first | rfl | (simp [go_sem, ← List.map_take, ← List.map_drop, hH, Ovl.c, hcap, hc, F0, hLl, h5, lge hjL]; done))) ?_
     try simp [go_sem, seval, hH, Ovl.c, hcap, hc, F0, hLl, h5, lge hjL]
     repeat first | intro _ | refine ⟨obs, ?_⟩
     refine condQ_mk (fun h8 => ?_) (fun h8 => ?_)
     ·try simp [go_sem] at h8
      have hiL : i < L.length := by omega
      have hpj : p xs[j] = false := by rw [← hLj]; simpa using h8
      obtain ⟨L2, hL2⟩ : ∃ x, x = L.set i L[j] := ⟨_, rfl⟩
      obtain ⟨i2, hi2⟩ : ∃ x, x = i + 1 := ⟨_, rfl⟩
      have hl2 : L2.length = xs.length := by rw [hL2]; simpa using hLl
      have ht2 : L2.take i2 = (xs.take (j + 1)).filter (fun x => !p x) := by rw [hL2, hi2, take_set_succ hiL, hLt, hfs, hpj, hLj]; simp
      have hd2 : L2.drop (j + 1) = xs.drop (j + 1) := by rw [hL2, drop_set_lt _ (by omega), hds]
      try simp [go_sem, seval, hH, Ovl.c, hcap, hc, F0, hLl, h5, lge hjL, hL2, hi2, lge hiL]
      repeat first | intro _ | refine ⟨obs, ?_⟩
      refine nextQ_mk (j + 1) (by omega) ((hI0 _ _ _).2 ⟨(i2), (L2), ?_, ?_, ?_, ?_, ?_, ?_, (by first | assumption | omega | (simp [go_sem, hH, Ovl.c, hcap, hc, F0, hLl, h5, lge hjL, hL2, hi2, lge hiL, h2, h8]; done) | (simp_all <;> omega)), (by (rw [hi2]; omega)), (by exact hl2), (by exact ht2), (by exact hd2)⟩) <;> first | omega | (simp [go_sem, seval, hH, Ovl.c, hcap, hc, F0, hLl, h5, lge hjL, hL2, hi2, lge hiL] <;> omega)
     ·try simp [go_sem] at h8
      have hpj : p xs[j] = true := by rw [← hLj]; simpa using h8
      obtain ⟨L2, hL2⟩ : ∃ x, x = L := ⟨_, rfl⟩
      obtain ⟨i2, hi2⟩ : ∃ x, x = i := ⟨_, rfl⟩
      have hl2 : L2.length = xs.length := by rw [hL2, hLl]
      have ht2 : L2.take i2 = (xs.take (j + 1)).filter (fun x => !p x) := by rw [hL2, hi2, hLt, hfs, hpj]; simp
      have hd2 : L2.drop (j + 1) = xs.drop (j + 1) := by rw [hL2, hds]
      try simp [go_sem, seval, hH, Ovl.c, hcap, hc, F0, hLl, h5, lge hjL, hL2, hi2]
      repeat first | intro _ | refine ⟨obs, ?_⟩
      refine nextQ_mk (j + 1) (by omega) ((hI0 _ _ _).2 ⟨(i2), (L2), ?_, ?_, ?_, ?_, ?_, ?_, (by first | assumption | omega | (simp [go_sem, hH, Ovl.c, hcap, hc, F0, hLl, h5, lge hjL, hL2, hi2, h2, h8]; done) | (simp_all <;> omega)), (by (rw [hi2]; omega)), (by exact hl2), (by exact ht2), (by exact hd2)⟩) <;> first | omega | (simp [go_sem, seval, hH, Ovl.c, hcap, hc, F0, hLl, h5, lge hjL, hL2, hi2] <;> omega)
    ·try simp [go_sem] at h5
     have hje : j = xs.length := by omega
     have hF : (L.take i).map Ovl.c = (xs.filter fun x => !p x).map Ovl.c := by rw [hLt, List.take_of_length_le (by omega)]
     try simp [go_sem, seval, hH, Ovl.c, hcap, hc, F0, hLl]
     repeat first | intro _ | refine ⟨obs, ?_⟩
     have hmi : min i xs.length + (xs.length - i) = xs.length := by omega
     exact hQ _ _ (by simp [go_sem, hH, Ovl.c, hcap, hc, F0, hLl, hmi, ← hF]; exact List.take_left' (by simp; omega))
theorem ovL_le (a b : Graph) : (ovL a b).length ≤ 2000 := by
  unfold ovL
  split
  · rename_i h
    unfold ovErr at h
    split at h
    ·rename_i q; exact absurd h q
    ·split at h
     ·rename_i q; exact absurd h q
     ·split at h
      ·cases h
      ·split at h
       ·cases h
       ·omega
  · simp
theorem concurrent_Overlaps (t : Types) (ht : t.ok) (a b : Rule) (ha : a.ok) (hb : b.ok) (hat : a.thin) (hbt : b.thin) : Pure Tryz.prog 13 [t.d, a.d, b.d] (.tup [.list ((rOvlL t a b).map Ovl.c), dI (rOvlE t a b)]) := by
  have hln := ovL_le a.right.graph b.left.graph
  refine pureKA (by first | rfl | (simp [go_sem]; done)) (fun Q hQ => (acalls_of_body (cfg := ⟨fun _ => false, fun _ => []⟩) Tz.mixed Tryz.func13 rfl rfl (nlb rfl) (by kernel_rfl) ?_))
  try simp [go_sem, seval, Rule.c]
  refine callQ_pure0 (concurrent_given t ht a b ha hb hat hbt) ((by first | rfl | (simp [go_sem, ← List.map_take, ← List.map_drop, Rule.c]; done))) ?_
  try simp [go_sem, seval, Rule.c]
  refine condQ_mk (fun h2 => ?_) (fun h2 => ?_)
  · try simp [go_sem] at h2
    have hE : rOvlE t a b = givenR t a b := if_pos h2
    have hZ : rOvlL t a b = [] := if_neg (by rw [hE]; exact h2)
    try simp [go_sem, seval, Rule.c]
    exact hQ _ _ (by simp [go_sem, hE, hZ])
  · try simp [go_sem] at h2
    have hE2 : ¬ givenR t a b ≠ 0 := by rw [h2]; simp
    obtain ⟨hPa, hPb⟩ := givenR_parts h2
    have hE : rOvlE t a b = ovErr a.right.graph b.left.graph := if_neg hE2
    by_cases hov : ovErr a.right.graph b.left.graph = 0
    ·skip
     try simp [go_sem, seval, Rule.c, hov]
     unfold callQ
     first | refine factor_Overlaps a.right.graph b.left.graph _ (fun H' hne => absurd hov hne) (fun q n H' he hn hg hq => ?_) | (refine factor_Overlaps a.right.graph b.left.graph _ (fun H' hne => ?_) (fun q n H' he hn hg hq => absurd he hov); have hg : (ovErr a.right.graph b.left.graph != 0) = true := (by simpa using hov); have hn := hov)
     try simp [go_sem, seval, Rule.c, hov, hg]
     unfold callQ
     subst hn
     refine deleteFunc_ovl (ovL a.right.graph b.left.graph) (by omega) 45 [.adr a.c, .adr b.c] (fun o => decide (wholeE a b o ≠ 0)) (by simp [go_sem]) (fun o _ => concurrent_Overlaps1 t a b o ha hb hPa hPb) q _ hg hq _ (fun d H2 hd => ?_)
     try simp [go_sem, seval, Rule.c, hov, hg, hd]
     have hZ : rOvlL t a b = rOvl t a b := if_pos (by rw [hE, hov])
     have hF : ((ovL a.right.graph b.left.graph).filter fun o => !decide (wholeE a b o ≠ 0)) = rOvl t a b := by unfold rOvl; congr 1; funext o; simp
     rw [hF] at hd
     exact hQ _ _ (by simp [go_sem, Rule.c, hov, hg, hd, hE, hov, hZ, nz_ovls])
    ·skip
     try simp [go_sem, seval, Rule.c]
     unfold callQ
     first | refine factor_Overlaps a.right.graph b.left.graph _ (fun H' hne => absurd hov hne) (fun q n H' he hn hg hq => ?_) | (refine factor_Overlaps a.right.graph b.left.graph _ (fun H' hne => ?_) (fun q n H' he hn hg hq => absurd he hov); have hg : (ovErr a.right.graph b.left.graph != 0) = true := (by simpa using hov); have hn := hov)
     try simp [go_sem, seval, Rule.c, hg]
     have hZ : rOvlL t a b = [] := if_neg (by rw [hE]; exact hov)
     exact hQ _ _ (by simp [go_sem, Rule.c, hg, hE, hZ])
end Go.Abs
end
section
set_option maxRecDepth 8000
open Go Go.Proofs
namespace Go.Abs
def fewG (g : Graph) : Bool := decide ((g.nodes.length : Int) ≤ 45) && decide ((g.edges.length : Int) ≤ 90)
def fewP (p : Pattern) : Bool := fewG p.graph && decide ((p.slots.length : Int) ≤ 15) && decide ((p.tests.length : Int) ≤ 15)
def fewPart (p : Part) (n : Int) : Bool := decide ((p.nodes.length : Int) + p.edges.length ≤ n)
structure Part.le (p : Part) : Prop where
  n : p.nodes.length ≤ 1000000000000000
  e : p.edges.length ≤ 1000000000000000
mutual
def leftC : Cond → Int → Int
  | .mk k l m p, b => if (!fewP p || !fewPart m 140) = true then -1 else leftL l (b - 1)
def leftL : List Cond → Int → Int
  | [], b => b
  | c :: l, b => if 0 ≤ b then leftL l (leftC c b) else b
end
mutual
theorem leftC_le : ∀ (c : Cond) (b : Int), 0 ≤ b → -1 ≤ leftC c b ∧ leftC c b ≤ b - 1
  | .mk k l m p, b, h => by
    rw [leftC]; split
    ·omega
    ·exact leftL_le l (b - 1) (by omega)
theorem leftL_le : ∀ (l : List Cond) (b : Int), -1 ≤ b → -1 ≤ leftL l b ∧ leftL l b ≤ b
  | [], b, h => by rw [leftL]; omega
  | c :: l, b, h => by
    rw [leftL]; split
    ·rename_i h0
     have h1 := leftC_le c b h0
     have h2 := leftL_le l (leftC c b) h1.1
     omega
    ·omega
end
mutual
def Cond.le : Cond → Prop
  | .mk k l m p => m.le ∧ Cond.les l
def Cond.les : List Cond → Prop
  | [] => True
  | c :: l => c.le ∧ Cond.les l
end
theorem Cond.les_iff (l : List Cond) : Cond.les l ↔ ∀ c ∈ l, c.le := by
  induction l with
  | nil => simp [Cond.les]
  | cons a l ih => simp [Cond.les, ih]
theorem Cond.le_iff (c : Cond) : c.le ↔ c.map.le ∧ ∀ k ∈ c.kids, k.le := by cases c; simp [Cond.le, Cond.les_iff, Cond.kids, Cond.map]
mutual
theorem leftC_ok : ∀ (c : Cond) (b : Int), 0 ≤ b → 0 ≤ leftC c b → c.ok ∧ (c.size : Int) ≤ b - leftC c b
  | .mk k l m p, b, h, h0 => by
    rw [leftC] at h0 ⊢
    split at h0
    ·omega
    ·rename_i h1
     rw [if_neg h1]
     have h2 := leftL_ok l (b - 1) (by omega) h0
     simp [fewP, fewG, fewPart] at h1
     refine ⟨⟨⟨?_, ?_, ?_, ?_, ?_, ?_⟩, h2.1⟩, ?_⟩ <;> simp only [Cond.map, Cond.pattern, Cond.size] <;> omega
theorem leftL_ok : ∀ (l : List Cond) (b : Int), -1 ≤ b → 0 ≤ leftL l b → Cond.oks l ∧ (Cond.sizes l : Int) ≤ b - leftL l b
  | [], b, h, h0 => by simp [Cond.oks, Cond.sizes, leftL]
  | c :: l, b, h, h0 => by
    rw [leftL] at h0 ⊢
    split at h0
    ·rename_i hb
     rw [if_pos hb]
     have h1 := leftC_le c b hb
     have h2 := leftL_le l (leftC c b) h1.1
     have h3 := leftC_ok c b hb (by omega)
     have h4 := leftL_ok l (leftC c b) h1.1 h0
     refine ⟨⟨h3.1, h4.1⟩, ?_⟩
     simp only [Cond.sizes]; omega
    ·omega
end
def fewC (c : Cond) : Bool := decide (0 ≤ leftC c 40)
def fewR (r : Rule) : Bool := decide ((r.name.size : Int) ≤ 60) && fewP r.left && fewP r.right && fewPart r.keep 140 && fewPart r.into 140 && fewC r.cond
structure Rule.le (r : Rule) : Prop where
  keep : r.keep.le
  into : r.into.le
  cond : r.cond.le
end Go.Abs
end
section
set_option maxRecDepth 8000
open Go Go.Proofs
namespace Go.Abs
def badName (s : ByteArray) : Bool := decide (40 < (s.size : Int))
def badAttr (x : Attr) : Bool := badName x.name || decide (25 < (x.names.length : Int)) || x.names.any badName
def badNode (n : NodeTy) : Bool := badName n.name || n.attrs.any badAttr
def badEdge (x : EdgeTy) : Bool := badName x.name
def attrSum (l : List NodeTy) : Nat := (l.map fun n => n.attrs.length).sum
def fewT (t : Types) : Bool := decide ((t.nodes.length : Int) ≤ 20) && decide ((t.edges.length : Int) ≤ 30) && decide (attrSum t.nodes ≤ 30) && !(t.nodes.any badNode) && !(t.edges.any badEdge)
@[go_sem, simp] theorem attrSum_nil : attrSum [] = 0 := rfl
theorem attrs_mem {l : List NodeTy} {n : NodeTy} (h : n ∈ l) : n.attrs.length ≤ attrSum l := by
  induction l with
  | nil => cases h
  | cons a l ih =>
    have e : attrSum (a :: l) = a.attrs.length + attrSum l := by simp [attrSum]
    rcases List.mem_cons.1 h with rfl | h
    ·omega
    ·have := ih h; omega
theorem fewT_ok {t : Types} (h : fewT t = true) : t.ok := by
  simp [fewT] at h
  obtain ⟨⟨⟨⟨h1, h2⟩, h3⟩, h4⟩, h5⟩ := h
  refine ⟨fun n hn => ?_, fun x hx => ⟨?_⟩, by omega, by omega⟩
  · have hl := attrs_mem hn
    have := h4 n hn
    simp [badNode, badName] at this
    refine ⟨by omega, fun x hx => ?_, by omega⟩
    have hb := this.2 x hx
    simp [badAttr, badName] at hb
    refine ⟨by omega, fun s hs => ?_, by omega⟩
    have := hb.2 s hs
    omega
  · have := h5 x hx
    simp [badEdge, badName] at this
    omega
end Go.Abs
end
section
set_option maxRecDepth 60000
set_option maxHeartbeats 2000000
open Go Go.Proofs
namespace Go.Abs
theorem fewP_of {p : Pattern} (h : fewP p = true) : p.graph.nodes.length ≤ 45 ∧ p.graph.edges.length ≤ 90 ∧ p.slots.length ≤ 15 ∧ p.tests.length ≤ 15 := by
  simp [fewP, fewG] at h; omega
theorem fewR_ok {r : Rule} (h : fewR r = true) : r.ok ∧ r.thin := by
  simp only [fewR, Bool.and_eq_true, decide_eq_true_eq] at h
  obtain ⟨⟨⟨⟨⟨h1, h2⟩, h3⟩, h4⟩, h5⟩, h6⟩ := h
  have p2 := fewP_of h2
  have p3 := fewP_of h3
  simp [fewPart] at h4 h5
  simp [fewC] at h6
  have h7 := leftC_ok r.cond 40 (by omega) h6
  exact ⟨⟨by omega, by omega, by omega, by omega, by omega, h7.1, by omega⟩, by omega, by omega, by omega⟩
@[go_sem] theorem asInts_slot (x : Slot) : asInts x.c = some [x.node, x.attr, x.term.var, x.term.add] := rfl
@[go_sem] theorem asInts_test (x : Test) : asInts x.c = some [x.kind, x.left.var, x.left.add, x.right.var, x.right.add] := rfl
/-! ### each thing is the same as itself -/
structure Rule.bare (r : Rule) : Prop where
  ls : r.left.slots = []
  lt : r.left.tests = []
  rs : r.right.slots = []
  rt : r.right.tests = []
  ck : r.cond.kids = []
  cs : r.cond.pattern.slots = []
  ct : r.cond.pattern.tests = []
end Go.Abs
end
section
set_option maxRecDepth 8000
open Go Go.Proofs
namespace Go.Abs
theorem graphF_mk {g : Graph} (h1 : g.nodes.length ≤ 40) (h2 : g.edges.length ≤ 80) (hn : ∀ a ∈ g.nodes, 0 ≤ a ∧ a ≤ 99)
    (he : ∀ x ∈ g.edges, (0 ≤ x.type ∧ x.type ≤ 99) ∧ (0 ≤ x.from_ ∧ x.from_ < g.nodes.length) ∧ (0 ≤ x.to_ ∧ x.to_ < g.nodes.length)) : graphF g = 0 := by
  unfold graphF
  rw [if_neg (by omega), if_neg, if_neg]
  · rw [List.any_eq_true]; rintro ⟨x, hx, hf⟩
    have h3 := he x hx
    have h4 : fitsF x g.nodes.length = true := by simp [fitsF, withinF]; omega
    rw [h4] at hf; cases hf
  · rw [List.any_eq_true]; rintro ⟨a, ha, hf⟩
    have h3 := hn a ha
    have h4 : withinF a 99 = true := by simp [withinF]; omega
    rw [h4] at hf; cases hf
theorem gN_mem {g : Graph} {n : Int} (h0 : 0 ≤ n) (h : n < g.nodes.length) : gN g n ∈ g.nodes := by
  unfold gN; rw [lge (show n.toNat < g.nodes.length by omega), Option.getD_some]; exact lgm _
theorem eA_mem {g : Graph} {n : Int} (h0 : 0 ≤ n) (h : n < g.edges.length) : eA g n ∈ g.edges := by
  unfold eA; rw [lge (show n.toNat < g.edges.length by omega), Option.getD_some]; exact lgm _
theorem iA_mem {l : List Int} {n : Int} (h0 : 0 ≤ n) (h : n < l.length) : iA l n ∈ l := by
  unfold iA; rw [lge (show n.toNat < l.length by omega), Option.getD_some]; exact lgm _
theorem asc_le {l : List Int} {n : Nat} (h : l.Pairwise (· < ·)) (hr : ∀ x ∈ l, 0 ≤ x ∧ x < n) : l.length ≤ n := by
  rcases Nat.eq_zero_or_pos l.length with h1 | h1
  · omega
  · have h2 := asc_ge h (fun x hx => (hr x hx).1) (l.length - 1) (by omega)
    have h3 := hr _ (lgm (show l.length - 1 < l.length by omega))
    omega
theorem subF_edges {g : Graph} {p : Part} (h : subF g p = 0) : p.edges.Pairwise (· < ·) := by
  unfold subF partF at h
  split at h
  · rename_i q; exact absurd h q
  · split at h
    ·rename_i q; exact absurd h q
    ·split at h
     ·rename_i q; exact absurd h q
     ·rename_i q; exact (asc_of (show ascF p.edges g.edges.length = 0 by omega)).2
theorem pos_ok {l : List Int} (hs : l.Pairwise (· < ·)) {v : Int} (hv : v ∈ l) : posL l v < l.length ∧ iA l (posL l v) = v ∧ idx l v = posL l v := by
  have hm := (mem_iff l v).2 hv
  have h1 := idx_posL hs hm
  obtain ⟨h2, h3, h4⟩ := idx_lt hm
  rw [h1] at h2 h3 h4
  refine ⟨by simpa using h3, ?_, h1⟩
  unfold iA; rw [h4]; rfl
theorem sub_ends {g : Graph} {p : Part} (h : subF g p = 0) {k : Int} (hk : k ∈ p.edges) : (eA g k).from_ ∈ p.nodes ∧ (eA g k).to_ ∈ p.nodes := by
  have := subF_ends h k hk
  exact ⟨(mem_iff _ _).1 this.1, (mem_iff _ _).1 this.2⟩
theorem gEd_eq (g : Graph) (p : Part) (k : Int) : gEd g p k = ⟨(eA g k).type, posL p.nodes (eA g k).from_, posL p.nodes (eA g k).to_⟩ := rfl
theorem map_at {α β : Type} (f : α → β) (l : List α) (d : α) (e : β) {i : Nat} (h : i < l.length) : ((l.map f)[i]?).getD e = f ((l[i]?).getD d) := by simp [h]
theorem extract_node {g : Graph} {p : Part} (h : subF g p = 0) {i : Int} (h0 : 0 ≤ i) (hi : i < p.nodes.length) : gN (extractG g p) i = gN g (iA p.nodes i) := by
  unfold extractG; rw [if_pos h]
  exact map_at (gN g) p.nodes 0 0 (by omega)
theorem extract_edge {g : Graph} {p : Part} (h : subF g p = 0) {i : Int} (h0 : 0 ≤ i) (hi : i < p.edges.length) : eA (extractG g p) i = gEd g p (iA p.edges i) := by
  unfold extractG; rw [if_pos h]
  exact map_at (gEd g p) p.edges 0 zeroEdge (by omega)
theorem extract_len {g : Graph} {p : Part} (h : subF g p = 0) : (extractG g p).nodes.length = p.nodes.length ∧ (extractG g p).edges.length = p.edges.length := by
  unfold extractG; rw [if_pos h]; simp
theorem sub_le {g : Graph} {p : Part} (h : subF g p = 0) : p.nodes.length ≤ g.nodes.length ∧ p.edges.length ≤ g.edges.length := by
  obtain ⟨_, h1, h2, h3⟩ := subF_of h
  exact ⟨asc_le h1 h2, asc_le (subF_edges h) h3⟩
theorem extract_ok {g : Graph} {p : Part} (h : subF g p = 0) : graphF (extractG g p) = 0 := by
  obtain ⟨hg, hs, hn, he⟩ := subF_of h
  obtain ⟨l1, l2⟩ := extract_len h
  obtain ⟨l3, l4⟩ := sub_le h
  have hle := graphF_le hg
  have hin := graphF_in hg
  refine graphF_mk (by omega) (by omega) (fun a ha => ?_) (fun x hx => ?_)
  · unfold extractG at ha; rw [if_pos h, List.mem_map] at ha
    obtain ⟨n, hn', rfl⟩ := ha
    exact hin.1 _ (gN_mem (hn n hn').1 (hn n hn').2)
  · rw [l1]
    unfold extractG at hx; rw [if_pos h, List.mem_map] at hx
    obtain ⟨k, hk, rfl⟩ := hx
    rw [gEd_eq]
    have h1 := hin.2 _ (eA_mem (he k hk).1 (he k hk).2)
    have h2 := sub_ends h hk
    have h3 := (pos_ok hs h2.1).1
    have h4 := (pos_ok hs h2.2).1
    exact ⟨h1.1, by show (0 : Int) ≤ (posL _ _ : Nat) ∧ ((posL _ _ : Nat) : Int) < _; omega, by show (0 : Int) ≤ (posL _ _ : Nat) ∧ ((posL _ _ : Nat) : Int) < _; omega⟩
theorem morphF_mk {a b : Graph} {m : Part} (ha : graphF a = 0) (hb : graphF b = 0) (l1 : m.nodes.length = a.nodes.length) (l2 : m.edges.length = a.edges.length)
    (hn : ∀ i : Int, 0 ≤ i → i < a.nodes.length → (0 ≤ iA m.nodes i ∧ iA m.nodes i < b.nodes.length) ∧ gN b (iA m.nodes i) = gN a i)
    (he : ∀ k : Int, 0 ≤ k → k < a.edges.length → (0 ≤ iA m.edges k ∧ iA m.edges k < b.edges.length) ∧ (eA a k).type = (eA b (iA m.edges k)).type ∧ iA m.nodes (eA a k).from_ = (eA b (iA m.edges k)).from_ ∧ iA m.nodes (eA a k).to_ = (eA b (iA m.edges k)).to_) : morphF a b m = 0 := by
  unfold morphF
  rw [if_neg (by rw [ha]; simp), if_neg (by rw [hb]; simp), if_neg (by omega)]
  have h1 : firstE (mapNE a b m) 0 a.nodes.length = 0 := firstE_mk _ _ fun i _ hi => by
    have := hn i (by omega) (by omega)
    unfold iA gN at this
    unfold mapNE
    simp only [Int.toNat_natCast] at this
    rw [if_neg (by omega), if_neg (by rw [this.2]; simp)]
  rw [if_neg (by rw [h1]; simp)]
  refine firstE_mk _ _ fun k _ hk => ?_
  have := he k (by omega) (by omega)
  unfold iA eA at this
  simp only [Int.toNat_natCast] at this
  obtain ⟨q1, q2, q3, q4⟩ := this
  unfold mapEE
  rw [if_neg (by omega), if_neg (by rw [q2]; simp), if_neg]
  rintro (h | h)
  · exact h q3
  · exact h q4
theorem typedB_mk {t : Types} {g : Graph} (hn : ∀ a ∈ g.nodes, a < t.nodes.length) (he : ∀ x ∈ g.edges, x.type < t.edges.length) : typedB t g = true := by
  unfold typedB
  rw [Bool.and_eq_true, Bool.not_eq_true', Bool.not_eq_true', List.any_eq_false, List.any_eq_false]
  exact ⟨fun a ha => by have := hn a ha; simpa using this, fun x hx => by have := he x hx; simpa using this⟩
/-! ### grown graphs -/
structure GOk (g : Graph) (p : Part) (more : Graph) (kept : Part) (im : List Int) : Prop where
  sub : subF g p = 0
  gm : graphF more = 0
  kl : kept.nodes.length ≤ im.length
  ip : ∀ k : Int, 0 ≤ k → k < kept.nodes.length → iA im k ∈ p.nodes ∧ gN g (iA im k) = gN more (iA kept.nodes k)
section
variable {g : Graph} {p : Part} {more : Graph} {kept : Part} {im : List Int}
def GOk.pl (g : Graph) (p : Part) (more : Graph) (kept : Part) (im : List Int) : List Int := plaL p.nodes.length p.nodes kept.nodes im more.nodes.length
theorem grown_eq (h : GOk g p more kept im) : grownG g p more kept im = ⟨p.nodes.map (gN g) ++ (othersL kept.nodes more.nodes.length).map (gN more), p.edges.map (gEd g p) ++ (othersL kept.edges more.edges.length).map fun n => gluX more (GOk.pl g p more kept im) n.toNat⟩ := by
  unfold grownG GOk.pl
  rw [(extract_len h.sub).1]
  unfold extractG
  rw [if_pos h.sub]
  rfl
theorem grown_lens (h : GOk g p more kept im) : (grownG g p more kept im).nodes.length = p.nodes.length + (othersL kept.nodes more.nodes.length).length ∧ (grownG g p more kept im).edges.length = p.edges.length + (othersL kept.edges more.edges.length).length := by
  rw [grown_eq h]; simp
theorem app_lo {α : Type} (a b : List α) {i : Nat} (h : i < a.length) : (a ++ b)[i]? = a[i]? := List.getElem?_append_left h
theorem app_hi {α : Type} (a b : List α) {i : Nat} (h : a.length ≤ i) : (a ++ b)[i]? = b[i - a.length]? := List.getElem?_append_right h
theorem node_lo (h : GOk g p more kept im) {i : Int} (h0 : 0 ≤ i) (hi : i < p.nodes.length) : gN (grownG g p more kept im) i = gN g (iA p.nodes i) := by
  rw [grown_eq h]
  show (((p.nodes.map (gN g)) ++ _)[i.toNat]?).getD 0 = _
  rw [app_lo _ _ (by simp; omega)]
  exact map_at (gN g) p.nodes 0 0 (by omega)
theorem node_hi (h : GOk g p more kept im) {k : Nat} (hk : k < (othersL kept.nodes more.nodes.length).length) : gN (grownG g p more kept im) ((p.nodes.length + k : Nat) : Int) = gN more (iA (othersL kept.nodes more.nodes.length) k) := by
  rw [grown_eq h]
  show (((p.nodes.map (gN g)) ++ _)[((p.nodes.length + k : Nat) : Int).toNat]?).getD 0 = _
  rw [app_hi _ _ (by simp; omega), List.length_map, show ((p.nodes.length + k : Nat) : Int).toNat - p.nodes.length = k by omega]
  exact map_at (gN more) _ 0 0 hk
theorem edge_lo (h : GOk g p more kept im) {i : Int} (h0 : 0 ≤ i) (hi : i < p.edges.length) : eA (grownG g p more kept im) i = gEd g p (iA p.edges i) := by
  rw [grown_eq h]
  show (((p.edges.map (gEd g p)) ++ _)[i.toNat]?).getD zeroEdge = _
  rw [app_lo _ _ (by simp; omega)]
  exact map_at (gEd g p) p.edges 0 zeroEdge (by omega)
theorem edge_hi (h : GOk g p more kept im) {k : Nat} (hk : k < (othersL kept.edges more.edges.length).length) : eA (grownG g p more kept im) ((p.edges.length + k : Nat) : Int) = gluX more (GOk.pl g p more kept im) (iA (othersL kept.edges more.edges.length) k).toNat := by
  rw [grown_eq h]
  show (((p.edges.map (gEd g p)) ++ _)[((p.edges.length + k : Nat) : Int).toNat]?).getD zeroEdge = _
  rw [app_hi _ _ (by simp; omega), List.length_map, show ((p.edges.length + k : Nat) : Int).toNat - p.edges.length = k by omega]
  exact map_at (fun n => gluX more (GOk.pl g p more kept im) n.toNat) _ 0 zeroEdge hk
theorem pl_ok (h : GOk g p more kept im) {j : Int} (h0 : 0 ≤ j) (hj : j < more.nodes.length) : (0 ≤ iA (GOk.pl g p more kept im) j ∧ iA (GOk.pl g p more kept im) j < (grownG g p more kept im).nodes.length) ∧ gN (grownG g p more kept im) (iA (GOk.pl g p more kept im) j) = gN more j := by
  obtain ⟨hg, hs, hn, he⟩ := subF_of h.sub
  have hv : iA (GOk.pl g p more kept im) j = plcI p.nodes.length p.nodes kept.nodes im j.toNat := by
    unfold iA GOk.pl plaL
    rw [List.getElem?_map, List.getElem?_range (by omega)]; rfl
  rw [hv]
  unfold plcI
  rw [show ((j.toNat : Nat) : Int) = j by omega]
  by_cases hm : mem kept.nodes j = true
  · rw [if_pos hm]
    obtain ⟨i0, i1, i2⟩ := idx_lt hm
    have hik := h.ip (idx kept.nodes j) i0 (by omega)
    change (0 ≤ idx p.nodes (iA im (idx kept.nodes j)) ∧ idx p.nodes (iA im (idx kept.nodes j)) < _) ∧ gN _ (idx p.nodes (iA im (idx kept.nodes j))) = _
    obtain ⟨p1, p2, p3⟩ := pos_ok hs hik.1
    have hkj : iA kept.nodes (idx kept.nodes j) = j := by unfold iA; rw [i2]; rfl
    rw [p3]
    refine ⟨⟨by omega, by have := (grown_lens h).1; omega⟩, ?_⟩
    rw [node_lo h (by omega) (by omega), p2, hik.2, hkj]
  · have hm' : mem kept.nodes j = false := by simpa using hm
    rw [if_neg hm]
    have ho := others_at more.nodes.length j.toNat (by omega) (by rw [show ((j.toNat : Nat) : Int) = j by omega]; exact hm')
    obtain ⟨hlt, hoe⟩ := List.getElem?_eq_some_iff.1 ho
    refine ⟨⟨by omega, by have := (grown_lens h).1; omega⟩, ?_⟩
    rw [node_hi h hlt]
    congr 1
    unfold iA
    rw [Int.toNat_natCast, ho, Option.getD_some]; omega
theorem gluX_eq {pl : List Int} {n : Int} (h0 : 0 ≤ n) : gluX more pl n.toNat = ⟨(eA more n).type, iA pl (eA more n).from_, iA pl (eA more n).to_⟩ := rfl
theorem grown_ok (h : GOk g p more kept im) (hb : bigB (grownG g p more kept im) = false) : graphF (grownG g p more kept im) = 0 := by
  obtain ⟨hg, hs, hn, he⟩ := subF_of h.sub
  have hin := graphF_in hg
  have hinm := graphF_in h.gm
  have hsz : (grownG g p more kept im).nodes.length ≤ 40 ∧ (grownG g p more kept im).edges.length ≤ 80 := by simpa [bigB] using hb
  have hl := grown_lens h
  refine graphF_mk hsz.1 hsz.2 (fun a ha => ?_) (fun x hx => ?_)
  · rw [grown_eq h] at ha
    rcases List.mem_append.1 ha with ha | ha
    ·obtain ⟨n, hn', rfl⟩ := List.mem_map.1 ha
     exact hin.1 _ (gN_mem (hn n hn').1 (hn n hn').2)
    ·obtain ⟨n, hn', rfl⟩ := List.mem_map.1 ha
     have := othersL_mem hn'
     exact hinm.1 _ (gN_mem this.1 this.2)
  · have hx' := hx
    rw [grown_eq h] at hx'
    rcases List.mem_append.1 hx' with hx' | hx'
    ·obtain ⟨k, hk, rfl⟩ := List.mem_map.1 hx'
     rw [gEd_eq]
     have h1 := hin.2 _ (eA_mem (he k hk).1 (he k hk).2)
     have h2 := sub_ends h.sub hk
     have h3 := (pos_ok hs h2.1).1
     have h4 := (pos_ok hs h2.2).1
     exact ⟨h1.1, by show (0 : Int) ≤ (posL _ _ : Nat) ∧ ((posL _ _ : Nat) : Int) < _; omega, by show (0 : Int) ≤ (posL _ _ : Nat) ∧ ((posL _ _ : Nat) : Int) < _; omega⟩
    ·obtain ⟨n, hn', rfl⟩ := List.mem_map.1 hx'
     have hr := othersL_mem hn'
     rw [gluX_eq hr.1]
     have h1 := hinm.2 _ (eA_mem hr.1 hr.2)
     exact ⟨h1.1, (pl_ok h h1.2.1.1 h1.2.1.2).1, (pl_ok h h1.2.2.1 h1.2.2.2).1⟩
theorem grown_typed {t : Types} (h : GOk g p more kept im) (tg : typedB t g = true) (tm : typedB t more = true) : typedB t (grownG g p more kept im) = true := by
  obtain ⟨hg, hs, hn, he⟩ := subF_of h.sub
  have hin := typedB_in hg tg
  have hinm := typedB_in h.gm tm
  refine typedB_mk (fun a ha => ?_) (fun x hx => ?_)
  · rw [grown_eq h] at ha
    rcases List.mem_append.1 ha with ha | ha
    ·obtain ⟨n, hn', rfl⟩ := List.mem_map.1 ha
     exact (hin.1 _ (gN_mem (hn n hn').1 (hn n hn').2)).2
    ·obtain ⟨n, hn', rfl⟩ := List.mem_map.1 ha
     have := othersL_mem hn'
     exact (hinm.1 _ (gN_mem this.1 this.2)).2
  · rw [grown_eq h] at hx
    rcases List.mem_append.1 hx with hx | hx
    ·obtain ⟨k, hk, rfl⟩ := List.mem_map.1 hx
     exact (hin.2 _ (eA_mem (he k hk).1 (he k hk).2)).1.2
    ·obtain ⟨n, hn', rfl⟩ := List.mem_map.1 hx
     have hr := othersL_mem hn'
     exact (hinm.2 _ (eA_mem hr.1 hr.2)).1.2
end
end Go.Abs
end
section
set_option maxRecDepth 8000
open Go Go.Proofs
namespace Go.Abs
theorem mem_img {l : List Int} {x : Int} (h : x ∈ l) : ∃ j : Int, (0 ≤ j ∧ j < l.length) ∧ iA l j = x := by
  obtain ⟨i, hi, he⟩ := List.getElem_of_mem h
  exact ⟨i, by omega, by unfold iA; simp [hi, he]⟩
theorem cover_mem {a b : List Int} {n : Nat} (h : coverB a b n = true) {i : Int} (h0 : 0 ≤ i) (hi : i < n) : i ∈ a ∨ i ∈ b := by
  have := List.all_eq_true.1 h i.toNat (List.mem_range.2 (by omega))
  rw [show ((i.toNat : Nat) : Int) = i by omega, Bool.or_eq_true, mem_iff, mem_iff] at this
  exact this
theorem gN_at {g : Graph} {i : Nat} (h : i < g.nodes.length) : gN g i = g.nodes[i] := by unfold gN; simp [h]
theorem eA_at {g : Graph} {i : Nat} (h : i < g.edges.length) : eA g i = g.edges[i] := by unfold eA; simp [h]
section
variable {t : Types} {a b : Rule} {o : Ovl}
theorem over_typed (ha : Rule.parts t a) (hb : Rule.parts t b) (g : GlueOk a b o) : typedB t o.graph = true := by
  have hj := g.jo
  simp only [jointB, Bool.and_eq_true] at hj
  obtain ⟨_, _, c1, c2⟩ := hj
  have ta := typedB_in ha.gr ha.tr
  have tb := typedB_in hb.gl hb.tl
  obtain ⟨_, _, l1, l2⟩ := morphF_len g.m1
  obtain ⟨_, _, l3, l4⟩ := morphF_len g.m2
  refine typedB_mk (fun x hx => ?_) (fun x hx => ?_)
  · obtain ⟨i, hi, rfl⟩ := List.getElem_of_mem hx
    rw [← gN_at hi]
    rcases cover_mem c1 (i := (i : Int)) (by omega) (by omega) with hm | hm
    ·obtain ⟨j, hj, he⟩ := mem_img hm
     have := (morph_node g.m1 hj.1 (by omega)).2
     rw [he] at this; rw [this]
     exact (ta.1 _ (gN_mem hj.1 (by omega))).2
    ·obtain ⟨j, hj, he⟩ := mem_img hm
     have := (morph_node g.m2 hj.1 (by omega)).2
     rw [he] at this; rw [this]
     exact (tb.1 _ (gN_mem hj.1 (by omega))).2
  · obtain ⟨i, hi, rfl⟩ := List.getElem_of_mem hx
    rw [← eA_at hi]
    rcases cover_mem c2 (i := (i : Int)) (by omega) (by omega) with hm | hm
    ·obtain ⟨j, hj, he⟩ := mem_img hm
     have := (morph_edge g.m1 hj.1 (by omega)).2.1
     rw [he] at this; rw [← this]
     exact (ta.2 _ (eA_mem hj.1 (by omega))).1.2
    ·obtain ⟨j, hj, he⟩ := mem_img hm
     have := (morph_edge g.m2 hj.1 (by omega)).2.1
     rw [he] at this; rw [← this]
     exact (tb.2 _ (eA_mem hj.1 (by omega))).1.2
theorem led_at {l by_ : List Int} {k : Int} (h0 : 0 ≤ k) (hk : k < l.length) : iA (ledL l by_) k = iA by_ (iA l k) := map_at (i := k.toNat) (fun x : Int => by_[x.toNat]?.getD 0) l 0 0 (by omega)
theorem partsD_eq (h : partsE a b o = 0) : partsD a b o = ⟨othersL (goneL o.left.nodes (inP a).nodes) o.graph.nodes.length, othersL (goneL o.left.edges (inP a).edges) o.graph.edges.length⟩ := by
  have g := parts_ok h
  unfold partsD; rw [if_pos h]; unfold compP; rw [if_pos g.c1]
theorem partsF_eq (h : partsE a b o = 0) : partsF a b o = ⟨othersL (goneL o.right.nodes b.keep.nodes) o.graph.nodes.length, othersL (goneL o.right.edges b.keep.edges) o.graph.edges.length⟩ := by
  have g := parts_ok h
  unfold partsF; rw [if_pos h]; unfold compP; rw [if_pos g.c2]
theorem gokL (ha : Rule.parts t a) (hb : Rule.parts t b) (h : partsE a b o = 0) : GOk o.graph (partsD a b o) a.left.graph a.keep (ledL a.into.nodes o.left.nodes) := by
  have g := parts_ok h
  have r := rok ha hb h
  obtain ⟨_, _, hd1, _, _⟩ := comp_of g.c1
  obtain ⟨_, _, l1, _⟩ := morphF_len g.m1
  refine ⟨r.sd, ha.gl, by rw [ledL_len, r.ka]; exact Nat.le_refl _, fun k h0 hk => ?_⟩
  have hk2 : k < a.into.nodes.length := by rw [← r.ka]; exact hk
  rw [led_at h0 hk2]
  have hv := iA_mem h0 hk2
  have hr := (morphF_in ha.mor).1 _ hv
  have hmn := morph_node g.m1 hr.1 hr.2
  have hke : k < (extractG a.left.graph a.keep).nodes.length := by rw [(extract_len ha.sub).1]; exact hk
  have hme := morph_node ha.mor h0 hke
  rw [extract_node ha.sub h0 hk] at hme
  refine ⟨?_, by rw [hmn.2, hme.2]⟩
  rw [partsD_eq h]
  exact othersL_iff.2 ⟨hmn.1, gone_kept hd1 hr.1 (by omega) (inL_iff.2 ⟨hr, hv⟩)⟩
theorem gokR (ha : Rule.parts t a) (hb : Rule.parts t b) (h : partsE a b o = 0) : GOk o.graph (partsF a b o) b.right.graph (intoP b) (ledL b.keep.nodes o.right.nodes) := by
  have g := parts_ok h
  have r := rok ha hb h
  obtain ⟨_, _, hd1, _, _⟩ := comp_of g.c2
  obtain ⟨_, _, l2, _⟩ := morphF_len g.m2
  refine ⟨r.sf, hb.gr, by rw [ledL_len, r.kb]; exact Nat.le_refl _, fun k h0 hk => ?_⟩
  have hk1 : k < b.into.nodes.length := hk
  have hk2 : k < b.keep.nodes.length := by rw [r.kb]; exact hk1
  rw [led_at h0 hk2]
  have hv := iA_mem h0 hk2
  have hr := (subF_of hb.sub).2.2.1 _ hv
  have hmn := morph_node g.m2 hr.1 hr.2
  have hke : k < (extractG b.left.graph b.keep).nodes.length := by rw [(extract_len hb.sub).1]; exact hk2
  have hme := morph_node hb.mor h0 hke
  rw [extract_node hb.sub h0 hk2] at hme
  refine ⟨?_, by rw [hmn.2]; exact hme.2.symm⟩
  rw [partsF_eq h]
  exact othersL_iff.2 ⟨hmn.1, gone_kept hd1 hr.1 (by omega) hv⟩
end
/-! ### what is common to two parts -/
theorem comA_iff {d f : List Int} {x : Int} : x ∈ comA d f d.length ↔ (0 ≤ x ∧ x < d.length) ∧ iA d x ∈ f := by
  unfold comA
  rw [rangeF_iff, mem_iff]; rfl
theorem comA_asc (d f : List Int) : (comA d f d.length).Pairwise (· < ·) := rangeF_asc _ _
theorem comB_eq (d f : List Int) : comB d f d.length = (comA d f d.length).map fun x => idx f (iA d x) := by
  unfold comB comA
  rw [List.map_map]
  rfl
theorem comB_at {d f : List Int} {i : Int} (h0 : 0 ≤ i) (hi : i < (comA d f d.length).length) : iA (comB d f d.length) i = idx f (iA d (iA (comA d f d.length) i)) := by
  rw [comB_eq]; exact map_at (fun x => idx f (iA d x)) _ 0 0 (by omega)
theorem comB_len2 (d f : List Int) : (comB d f d.length).length = (comA d f d.length).length := by rw [comB_eq, List.length_map]
theorem iA_inj {l : List Int} (h : l.Pairwise (· < ·)) {x y : Int} (hx : 0 ≤ x ∧ x < l.length) (hy : 0 ≤ y ∧ y < l.length) (he : iA l x = iA l y) : x = y := by
  unfold iA at he
  rw [lge (show x.toNat < l.length by omega), lge (show y.toNat < l.length by omega), Option.getD_some, Option.getD_some] at he
  have := (List.getElem_inj (asc_nodup h)).1 he
  omega
theorem comB_nodup {d f : List Int} (hd : d.Pairwise (· < ·)) (hf : f.Pairwise (· < ·)) : (comB d f d.length).Nodup := by
  rw [comB_eq]
  show List.Pairwise _ _
  rw [List.pairwise_map]
  refine (comA_asc d f).imp_of_mem fun {x y} hx hy hlt he => ?_
  obtain ⟨x1, x2⟩ := comA_iff.1 hx
  obtain ⟨y1, y2⟩ := comA_iff.1 hy
  have p1 := pos_ok hf x2
  have p2 := pos_ok hf y2
  have : iA d x = iA d y := by rw [← p1.2.1, ← p2.2.1, ← p1.2.2, ← p2.2.2, he]
  have := iA_inj hd x1 y1 this
  omega
section
variable {g : Graph} {d f : Part} {ml mr : Graph} {kl kr : Part} {il ir : List Int}
theorem conc_sub (hL : GOk g d ml kl il) (hF : subF g f = 0) (bL : bigB (grownG g d ml kl il) = false) : subF (grownG g d ml kl il) ⟨comA d.nodes f.nodes d.nodes.length, comA d.edges f.edges d.edges.length⟩ = 0 := by
  have hs := (subF_of hL.sub).2.1
  have hl := grown_lens hL
  refine subF_mk (grown_ok hL bL) (fun x hx => ?_) (comA_asc _ _) (fun x hx => ?_) (comA_asc _ _) fun k hk => ?_
  · have := (comA_iff.1 hx).1; omega
  · have := (comA_iff.1 hx).1; omega
  · obtain ⟨k1, k2⟩ := comA_iff.1 hk
    rw [edge_lo hL k1.1 k1.2, gEd_eq]
    have e1 := sub_ends hL.sub (iA_mem k1.1 k1.2)
    have e2 := sub_ends hF k2
    have q1 := pos_ok hs e1.1
    have q2 := pos_ok hs e1.2
    exact ⟨comA_iff.2 ⟨⟨by show (0 : Int) ≤ (posL _ _ : Nat); omega, by show ((posL _ _ : Nat) : Int) < _; omega⟩, by show iA d.nodes (posL _ _ : Nat) ∈ _; rw [q1.2.1]; exact e2.1⟩,
     comA_iff.2 ⟨⟨by show (0 : Int) ≤ (posL _ _ : Nat); omega, by show ((posL _ _ : Nat) : Int) < _; omega⟩, by show iA d.nodes (posL _ _ : Nat) ∈ _; rw [q2.2.1]; exact e2.2⟩⟩
theorem conc_morph (hL : GOk g d ml kl il) (hR : GOk g f mr kr ir) (bL : bigB (grownG g d ml kl il) = false) (bR : bigB (grownG g f mr kr ir) = false) :
    morphF (extractG (grownG g d ml kl il) ⟨comA d.nodes f.nodes d.nodes.length, comA d.edges f.edges d.edges.length⟩) (grownG g f mr kr ir) ⟨comB d.nodes f.nodes d.nodes.length, comB d.edges f.edges d.edges.length⟩ = 0 := by
  have hS := conc_sub hL hR.sub bL
  obtain ⟨_, hd1, hd2, hd3⟩ := subF_of hL.sub
  obtain ⟨_, hf1, hf2, hf3⟩ := subF_of hR.sub
  have hfe := subF_edges hR.sub
  have hlL := grown_lens hL
  have hlR := grown_lens hR
  obtain ⟨x1, x2⟩ := extract_len hS
  have key : ∀ v : Int, v ∈ d.nodes → v ∈ f.nodes → iA (comB d.nodes f.nodes d.nodes.length) (posL (comA d.nodes f.nodes d.nodes.length) (posL d.nodes v)) = posL f.nodes v := fun v h1 h2 => by
    have p1 := pos_ok hd1 h1
    have hm : ((posL d.nodes v : Nat) : Int) ∈ comA d.nodes f.nodes d.nodes.length := comA_iff.2 ⟨⟨by omega, by omega⟩, by rw [p1.2.1]; exact h2⟩
    have p2 := pos_ok (comA_asc d.nodes f.nodes) hm
    rw [comB_at (by omega) (by omega), p2.2.1, p1.2.1, (pos_ok hf1 h2).2.2]
  refine morphF_mk (extract_ok hS) (grown_ok hR bR) (by rw [x1]; exact comB_len2 _ _) (by rw [x2]; exact comB_len2 _ _) (fun i h0 hi => ?_) (fun k h0 hk => ?_)
  · rw [x1] at hi
    have hx := comA_iff.1 (iA_mem h0 hi)
    have p := pos_ok hf1 hx.2
    show (0 ≤ iA (comB d.nodes f.nodes d.nodes.length) i ∧ iA (comB d.nodes f.nodes d.nodes.length) i < _) ∧ gN _ (iA (comB d.nodes f.nodes d.nodes.length) i) = _
    rw [comB_at h0 hi, p.2.2]
    refine ⟨⟨by omega, by omega⟩, ?_⟩
    rw [node_lo hR (by omega) (by omega), p.2.1, extract_node hS h0 hi]
    exact (node_lo hL hx.1.1 hx.1.2).symm
  · rw [x2] at hk
    have hx := comA_iff.1 (iA_mem h0 hk)
    have p := pos_ok hfe hx.2
    show (0 ≤ iA (comB d.edges f.edges d.edges.length) k ∧ iA (comB d.edges f.edges d.edges.length) k < _) ∧ _ = (eA _ (iA (comB d.edges f.edges d.edges.length) k)).type ∧ _ = (eA _ (iA (comB d.edges f.edges d.edges.length) k)).from_ ∧ _ = (eA _ (iA (comB d.edges f.edges d.edges.length) k)).to_
    rw [comB_at h0 hk, p.2.2]
    refine ⟨⟨by omega, by omega⟩, ?_⟩
    rw [edge_lo hR (by omega) (by omega), p.2.1, extract_edge hS h0 hk, gEd_eq, gEd_eq]
    show (eA _ (iA (comA d.edges f.edges d.edges.length) k)).type = _ ∧ _ = ((posL f.nodes _ : Nat) : Int) ∧ _ = ((posL f.nodes _ : Nat) : Int)
    rw [edge_lo hL hx.1.1 hx.1.2, gEd_eq]
    have e1 := sub_ends hL.sub (iA_mem hx.1.1 hx.1.2)
    have e2 := sub_ends hR.sub hx.2
    exact ⟨rfl, key _ e1.1 e2.1, key _ e1.2 e2.2⟩
end
end Go.Abs
end
section
set_option maxRecDepth 8000
open Go Go.Proofs
namespace Go.Abs
theorem makeB_of {t : Types} {g : Graph} {ns es : List Int} (h : makeB t g ns es = true) : (∀ i ∈ ns, absB t g i = false) ∧ ∀ k ∈ es, unfitB t g k = false := by
  unfold makeB at h
  rw [Bool.and_eq_true, Bool.not_eq_true', Bool.not_eq_true', List.any_eq_false, List.any_eq_false] at h
  exact ⟨fun i hi => by simpa using h.1 i hi, fun k hk => by simpa using h.2 k hk⟩
theorem makeB_mk {t : Types} {g : Graph} {ns es : List Int} (h1 : ∀ i ∈ ns, absB t g i = false) (h2 : ∀ k ∈ es, unfitB t g k = false) : makeB t g ns es = true := by
  unfold makeB
  rw [Bool.and_eq_true, Bool.not_eq_true', Bool.not_eq_true', List.any_eq_false, List.any_eq_false]
  exact ⟨fun i hi => by rw [h1 i hi]; simp, fun k hk => by rw [h2 k hk]; simp⟩
theorem absB_eq {t : Types} {g g' : Graph} {i j : Int} (h : gN g i = gN g' j) : absB t g i = absB t g' j := by unfold absB; rw [h]
theorem unfitB_eq {t : Types} {g g' : Graph} {i j : Int} (h1 : (eA g i).type = (eA g' j).type) (h2 : gN g (eA g i).from_ = gN g' (eA g' j).from_) (h3 : gN g (eA g i).to_ = gN g' (eA g' j).to_) : unfitB t g i = unfitB t g' j := by
  show (!fitsT t (eA g i).type (gN g (eA g i).from_) (gN g (eA g i).to_)) = !fitsT t (eA g' j).type (gN g' (eA g' j).from_) (gN g' (eA g' j).to_)
  rw [h1, h2, h3]
theorem fresh_cases {d f : List Int} (hd : d.Pairwise (· < ·)) (hf : f.Pairwise (· < ·)) {m : Nat} {i : Int} (hi : i ∈ othersL (comB d f d.length) (f.length + m)) : ((0 ≤ i ∧ i < f.length) ∧ iA f i ∉ d) ∨ ∃ k, k < m ∧ i = ((f.length + k : Nat) : Int) := by
  obtain ⟨hr, hn⟩ := othersL_iff.1 hi
  rcases Int.lt_or_le i f.length with hlt | hge
  · refine .inl ⟨⟨hr.1, hlt⟩, fun hm => hn ?_⟩
    have p := pos_ok hd hm
    have hfm := iA_mem hr.1 hlt
    have q := pos_ok hf hfm
    rw [comB_eq, List.mem_map]
    refine ⟨posL d (iA f i), comA_iff.2 ⟨⟨by omega, by omega⟩, by rw [p.2.1]; exact hfm⟩, ?_⟩
    rw [p.2.1, q.2.2]
    exact iA_inj hf ⟨by omega, by omega⟩ ⟨hr.1, hlt⟩ q.2.1
  · exact .inr ⟨i.toNat - f.length, by omega, by omega⟩
section
variable {t : Types} {a b : Rule} {o : Ovl}
theorem not_dN (h : partsE a b o = 0) {n : Int} (h0 : 0 ≤ n ∧ n < o.graph.nodes.length) (hn : n ∉ (partsD a b o).nodes) : ∃ j, j ∈ a.freshN ∧ iA o.left.nodes j = n := by
  have g := parts_ok h
  obtain ⟨_, _, l1, l2⟩ := morphF_len g.m1
  rw [partsD_eq h] at hn
  have hg : n ∈ goneL o.left.nodes (inP a).nodes := Classical.byContradiction fun hc => hn (othersL_iff.2 ⟨h0, hc⟩)
  obtain ⟨i, hi, hm, he⟩ := goneL_mem.1 hg
  refine ⟨i, othersL_iff.2 ⟨⟨by omega, by omega⟩, fun hc => ?_⟩, by unfold iA; rw [Int.toNat_natCast, he]; rfl⟩
  have hx := (mem_iff (inP a).nodes (i : Int)).2 (inL_iff.2 ⟨⟨by omega, by omega⟩, hc⟩)
  rw [hx] at hm; cases hm
theorem not_dE (h : partsE a b o = 0) {n : Int} (h0 : 0 ≤ n ∧ n < o.graph.edges.length) (hn : n ∉ (partsD a b o).edges) : ∃ j, j ∈ a.freshE ∧ iA o.left.edges j = n := by
  have g := parts_ok h
  obtain ⟨_, _, l1, l2⟩ := morphF_len g.m1
  rw [partsD_eq h] at hn
  have hg : n ∈ goneL o.left.edges (inP a).edges := Classical.byContradiction fun hc => hn (othersL_iff.2 ⟨h0, hc⟩)
  obtain ⟨i, hi, hm, he⟩ := goneL_mem.1 hg
  refine ⟨i, othersL_iff.2 ⟨⟨by omega, by omega⟩, fun hc => ?_⟩, by unfold iA; rw [Int.toNat_natCast, he]; rfl⟩
  have hx := (mem_iff (inP a).edges (i : Int)).2 (inL_iff.2 ⟨⟨by omega, by omega⟩, hc⟩)
  rw [hx] at hm; cases hm
theorem conc_make (ha : Rule.parts t a) (hb : Rule.parts t b) (h : partsE a b o = 0) :
    makeB t (refR a b o (partsD a b o) (partsF a b o)) (othersL (comB (partsD a b o).nodes (partsF a b o).nodes (partsD a b o).nodes.length) (refR a b o (partsD a b o) (partsF a b o)).nodes.length) (othersL (comB (partsD a b o).edges (partsF a b o).edges (partsD a b o).edges.length) (refR a b o (partsD a b o) (partsF a b o)).edges.length) = true := by
  have g := parts_ok h
  have r := rok ha hb h
  have hG := gokR ha hb h
  have hl := grown_lens hG
  obtain ⟨_, hd1, hd2, hd3⟩ := subF_of r.sd
  obtain ⟨_, hf1, hf2, hf3⟩ := subF_of r.sf
  have hde := subF_edges r.sd
  have hfe := subF_edges r.sf
  have ma := makeB_of ha.mkb
  have mb := makeB_of hb.mkb
  obtain ⟨_, hgo, l1, l2⟩ := morphF_len g.m1
  refine makeB_mk (fun i hi => ?_) (fun i hi => ?_)
  · have hi' : i ∈ othersL (comB (partsD a b o).nodes (partsF a b o).nodes (partsD a b o).nodes.length) ((partsF a b o).nodes.length + (othersL (intoP b).nodes b.right.graph.nodes.length).length) := by rw [← hl.1]; exact hi
    rcases fresh_cases hd1 hf1 hi' with ⟨h1, h2⟩ | ⟨k, hk, rfl⟩
    ·obtain ⟨j, hj, he⟩ := not_dN h (hf2 _ (iA_mem h1.1 h1.2)) h2
     have hjr := othersL_mem hj
     have hmn := (morph_node g.m1 hjr.1 hjr.2).2
     rw [← ma.1 j hj]
     refine absB_eq ?_
     rw [← hmn, he]
     exact node_lo hG h1.1 h1.2
    ·rw [← mb.1 _ (iA_mem (l := b.freshN) (n := (k : Int)) (by omega) (by have : k < b.freshN.length := hk; omega))]
     exact absB_eq (node_hi hG hk)
  · have hi' : i ∈ othersL (comB (partsD a b o).edges (partsF a b o).edges (partsD a b o).edges.length) ((partsF a b o).edges.length + (othersL (intoP b).edges b.right.graph.edges.length).length) := by rw [← hl.2]; exact hi
    rcases fresh_cases hde hfe hi' with ⟨h1, h2⟩ | ⟨k, hk, rfl⟩
    ·have hem := iA_mem h1.1 h1.2
     obtain ⟨j, hj, he⟩ := not_dE h (hf3 _ hem) h2
     have hjr := othersL_mem hj
     have hme := morph_edge g.m1 hjr.1 hjr.2
     have hei := edge_in ha.gr hjr.1 hjr.2
     have n1 := (morph_node g.m1 hei.1.1 hei.1.2).2
     have n2 := (morph_node g.m1 hei.2.1.1 hei.2.1.2).2
     rw [he] at hme
     have hE : eA (refR a b o (partsD a b o) (partsF a b o)) i = gEd o.graph (partsF a b o) (iA (partsF a b o).edges i) := edge_lo hG h1.1 h1.2
     have en := sub_ends r.sf hem
     have p1 := pos_ok hf1 en.1
     have p2 := pos_ok hf1 en.2
     rw [← ma.2 j hj]
     refine unfitB_eq ?_ ?_ ?_
     ·rw [hE, gEd_eq]; exact hme.2.1.symm
     ·rw [hE, gEd_eq, ← n1, hme.2.2.1]
      have := node_lo hG (i := ((posL (partsF a b o).nodes (eA o.graph (iA (partsF a b o).edges i)).from_ : Nat) : Int)) (by omega) (by omega)
      rw [p1.2.1] at this
      exact this
     ·rw [hE, gEd_eq, ← n2, hme.2.2.2]
      have := node_lo hG (i := ((posL (partsF a b o).nodes (eA o.graph (iA (partsF a b o).edges i)).to_ : Nat) : Int)) (by omega) (by omega)
      rw [p2.2.1] at this
      exact this
    ·have hm := iA_mem (l := b.freshE) (n := (k : Int)) (by omega) (by have : k < b.freshE.length := hk; omega)
     have hr := othersL_mem hm
     have hei := edge_in hb.gr hr.1 hr.2
     rw [← mb.2 _ hm]
     have hE : eA (refR a b o (partsD a b o) (partsF a b o)) (((partsF a b o).edges.length + k : Nat) : Int) = gluX b.right.graph (GOk.pl o.graph (partsF a b o) b.right.graph (intoP b) (ledL b.keep.nodes o.right.nodes)) (iA b.freshE k).toNat := edge_hi hG hk
     rw [gluX_eq hr.1] at hE
     refine unfitB_eq ?_ ?_ ?_
     ·rw [hE]
     ·rw [hE]; exact (pl_ok hG hei.1.1 hei.1.2).2
     ·rw [hE]; exact (pl_ok hG hei.2.1.1 hei.2.1.2).2
theorem whole_parts (h : wholeE a b o = 0) : partsE a b o = 0 ∧ bigB (refL a b o (partsD a b o) (partsF a b o)) = false ∧ bigB (refR a b o (partsD a b o) (partsF a b o)) = false := by
  unfold wholeE at h
  split at h
  · rename_i q; exact absurd h q
  · rename_i q
    split at h
    ·cases h
    ·rename_i q2
     rw [Bool.not_eq_true, Bool.or_eq_false_iff] at q2
     exact ⟨by omega, q2.1, q2.2⟩
theorem patternF_plain {g : Graph} (hv : (validF t).2 = 0) (hg : graphF g = 0) (ht : typedB t g = true) : patternF t ⟨g, [], 0, []⟩ = 0 := by
  unfold patternF
  rw [if_neg (by rw [hv]; simp), if_neg (by show ¬ graphF g ≠ 0; rw [hg]; simp), if_neg (by show ¬ typedB t g = false; rw [ht]; simp), if_neg (by show ¬ inF 0 0 12 = false; decide), if_neg (by simp), if_neg (by simp [listE]), if_neg (by show ¬ testsF 0 [] ≠ 0; decide), if_neg (by show ¬ mem (usedL (0 : Int).toNat []) false = true; decide)]
theorem conc_rule (h : givenR t a b = 0) (hw : wholeE a b o = 0) : ruleF t (wholeR a b o) = 0 := by
  obtain ⟨ha, hb⟩ := givenR_parts h
  obtain ⟨hp, bL, bR⟩ := whole_parts hw
  have g := parts_ok hp
  have r := rok ha hb hp
  have hGL := gokL ha hb hp
  have hGR := gokR ha hb hp
  have to := over_typed ha hb g
  have hZ : wholeR a b o = concOf (refL a b o (partsD a b o) (partsF a b o)) (refR a b o (partsD a b o) (partsF a b o)) (partsD a b o) (partsF a b o) := by unfold wholeR; rw [if_pos hw]
  have gL : graphF (refL a b o (partsD a b o) (partsF a b o)) = 0 := grown_ok hGL bL
  have gR : graphF (refR a b o (partsD a b o) (partsF a b o)) = 0 := grown_ok hGR bR
  have tL : typedB t (refL a b o (partsD a b o) (partsF a b o)) = true := grown_typed hGL to ha.tl
  have tR : typedB t (refR a b o (partsD a b o) (partsF a b o)) = true := grown_typed hGR to hb.tr
  have hS : subF (refL a b o (partsD a b o) (partsF a b o)) ⟨comA (partsD a b o).nodes (partsF a b o).nodes (partsD a b o).nodes.length, comA (partsD a b o).edges (partsF a b o).edges (partsD a b o).edges.length⟩ = 0 := conc_sub hGL r.sf bL
  have hM : morphF (extractG (refL a b o (partsD a b o) (partsF a b o)) ⟨comA (partsD a b o).nodes (partsF a b o).nodes (partsD a b o).nodes.length, comA (partsD a b o).edges (partsF a b o).edges (partsD a b o).edges.length⟩) (refR a b o (partsD a b o) (partsF a b o)) ⟨comB (partsD a b o).nodes (partsF a b o).nodes (partsD a b o).nodes.length, comB (partsD a b o).edges (partsF a b o).edges (partsD a b o).edges.length⟩ = 0 := conc_morph hGL hGR bL bR
  have hI : injB (extractG (refL a b o (partsD a b o) (partsF a b o)) ⟨comA (partsD a b o).nodes (partsF a b o).nodes (partsD a b o).nodes.length, comA (partsD a b o).edges (partsF a b o).edges (partsD a b o).edges.length⟩) (refR a b o (partsD a b o) (partsF a b o)) ⟨comB (partsD a b o).nodes (partsF a b o).nodes (partsD a b o).nodes.length, comB (partsD a b o).edges (partsF a b o).edges (partsD a b o).edges.length⟩ = true := by
    simp only [injB, Bool.and_eq_true, decide_eq_true_eq]
    exact ⟨hM, comB_nodup (subF_of r.sd).2.1 (subF_of r.sf).2.1, comB_nodup (subF_edges r.sd) (subF_edges r.sf)⟩
  have hK := conc_make ha hb hp
  have hP := patternF_plain ha.v gL tL
  rw [hZ]
  generalize refL a b o (partsD a b o) (partsF a b o) = L at *
  generalize refR a b o (partsD a b o) (partsF a b o) = R at *
  unfold ruleF
  rw [if_neg (by rw [ha.v]; simp), if_neg (by show ¬ isName concName = false; decide), if_neg (by show ¬ patternF t ⟨L, [], 0, []⟩ ≠ 0; rw [hP]; simp), if_neg, if_neg, if_neg]
  · show condF t ⟨L, [], 0, []⟩ trueC = 0
    unfold condF
    rw [if_neg (by rw [hP]; simp), if_neg (by decide)]
    rfl
  · intro hh
    have hh' := hK.symm.trans hh
    cases hh'
  · have hk : keptF (concOf L R (partsD a b o) (partsF a b o)) = 0 := by
     unfold keptF
     rw [if_neg (fun hc => hc hS), if_neg (fun hc => hc hM)]
     refine if_neg fun hc => ?_
     have hc' := hI.symm.trans hc
     cases hc'
    rw [hk]; simp
  · show ¬ rightF t _ ≠ 0
    unfold rightF
    rw [if_neg (by show ¬ graphF R ≠ 0; rw [gR]; simp), if_neg (by show ¬ typedB t R = false; rw [tR]; simp), if_neg (by simp [concOf]), if_neg (by simp [concOf])]
    simp [concOf, firstE]
end
end Go.Abs
end
section
set_option maxRecDepth 60000
set_option maxHeartbeats 2000000
open Go Go.Proofs
namespace Go.Abs
theorem Pure.nz {P : Program} {f : FuncId} {args args' : List D} {r : D} (hp : Pure P f args' r) (ha : args.map nzA = args') : Pure P f args r := by
  subst ha
  refine ⟨hp.1, fun M w vals hM hv => hp.2 M w vals hM ⟨by simpa using hv.len, fun j u d hu hd => ?_⟩⟩
  rw [List.getElem?_map, Option.map_eq_some_iff] at hd
  obtain ⟨y, hy, rfl⟩ := hd
  exact nzA_rep (hv.rep j u y hu hy)
theorem nz_strs (l : List ByteArray) : nzAss (l.map cS) = l.map cS := nzAss_id fun c hc => by
  rw [List.mem_map] at hc; obtain ⟨x, _, rfl⟩ := hc; rfl
theorem nz_attrs (l : List Attr) : nzAss (l.map Attr.c) = l.map Attr.c := nzAss_id fun c hc => by
  rw [List.mem_map] at hc; obtain ⟨x, _, rfl⟩ := hc
  simp [Attr.c, nzAs, nzA, dLS, dI, nz_strs]
theorem nz_nodes (l : List NodeTy) : nzAss (l.map NodeTy.c) = l.map NodeTy.c := nzAss_id fun c hc => by
  rw [List.mem_map] at hc; obtain ⟨x, _, rfl⟩ := hc
  simp [NodeTy.c, nzAs, nzA, dI, nz_attrs]
theorem nz_edgeTys (l : List EdgeTy) : nzAss (l.map EdgeTy.c) = l.map EdgeTy.c := nzAss_id fun c hc => by
  rw [List.mem_map] at hc; obtain ⟨x, _, rfl⟩ := hc
  simp [EdgeTy.c, nzAs, nzA, dI]
def exT : Types := ⟨[⟨⟨#[65, 99, 99, 111, 117, 110, 116]⟩, -1, true, [⟨⟨#[98, 97, 108, 97, 110, 99, 101]⟩, -1000, 1000, []⟩]⟩, ⟨⟨#[67, 97, 115, 104]⟩, 0, false, []⟩, ⟨⟨#[76, 111, 97, 110]⟩, 0, false, [⟨⟨#[115, 116, 97, 116, 101]⟩, 0, 1, [⟨#[111, 112, 101, 110]⟩, ⟨#[99, 108, 111, 115, 101, 100]⟩]⟩]⟩, ⟨⟨#[80, 101, 114, 115, 111, 110]⟩, -1, false, []⟩],
  [⟨⟨#[111, 119, 110, 115]⟩, 3, 0, 0, -1, 1, 1⟩, ⟨⟨#[112, 97, 121, 115]⟩, 1, 1, 0, -1, 0, -1⟩]⟩
theorem ref04_Example : Pure Tryz.prog 22 [] exT.d := by
  refine pureKA (by first | rfl | (simp [go_sem]; done)) (fun Q hQ => (acalls_of_body (cfg := ⟨fun t => t == 0, fun _ => []⟩) Tz.mixed Tryz.func22 rfl rfl (nlb rfl) (by kernel_rfl) ?_))
  try simp -implicitDefEqProofs [go_sem, seval]
  exact hQ _ _ (by simp [go_sem, exT, Types.d, Types.c, NodeTy.c, EdgeTy.c, Attr.c, dLS, cS, dI])
def mkR : Rule := ⟨⟨#[109, 97, 107, 101]⟩, ⟨⟨[], []⟩, [], 0, []⟩, ⟨⟨[3], []⟩, [], 0, []⟩, ⟨[], []⟩, ⟨[], []⟩, true, trueC⟩
def drR : Rule := ⟨⟨#[100, 114, 111, 112]⟩, ⟨⟨[3], []⟩, [], 0, []⟩, ⟨⟨[], []⟩, [], 0, []⟩, ⟨[], []⟩, ⟨[], []⟩, true, trueC⟩
theorem exT_few : fewT exT = true := by decide +kernel
theorem mkR_few : fewR mkR = true := by decide +kernel
theorem drR_few : fewR drR = true := by decide +kernel
def exO (i : Nat) : Ovl := (rOvlL exT mkR drR)[i]?.getD ovl0
theorem ex1 : rOvlE exT mkR drR = 0 := by decide +kernel
theorem ex2 : (rOvlL exT mkR drR).length = 2 := by decide +kernel
theorem ex3 : rErr exT mkR drR (exO 0) = 0 := by decide +kernel
theorem ex4 : rErr exT mkR drR (exO 1) = 0 := by decide +kernel
theorem ex5 : (rRule exT mkR drR (exO 0)).left.graph.nodes.length = 1 := by decide +kernel
theorem ex6 : (rRule exT mkR drR (exO 0)).right.graph.nodes.length = 1 := by decide +kernel
theorem ex7 : (rRule exT mkR drR (exO 0)).keep.nodes.length = 0 := by decide +kernel
theorem ex8 : (rRule exT mkR drR (exO 1)).left.graph.nodes.length = 0 := by decide +kernel
theorem ex9 : (rRule exT mkR drR (exO 1)).right.graph.nodes.length = 0 := by decide +kernel
theorem exO_list : rOvlL exT mkR drR = [exO 0, exO 1] := by
  have h := ex2
  unfold exO
  generalize rOvlL exT mkR drR = l at *
  match l, h with
  | [x, y], _ => rfl
theorem law32_awake : Pure Tryz.prog 6 [] (.bool true) := by
  have ht := fewT_ok exT_few
  have hm := fewR_ok mkR_few
  have hd := fewR_ok drR_few
  have hO := concurrent_Overlaps exT ht mkR drR hm.1 hd.1 hm.2 hd.2
  have hR0 := concurrent_Rule exT ht mkR drR (exO 0) hm.1 hd.1 hm.2 hd.2
  have hR1 := concurrent_Rule exT ht mkR drR (exO 1) hm.1 hd.1 hm.2 hd.2
  rw [exO_list, ex1] at hO
  rw [ex3] at hR0
  rw [ex4] at hR1
  have h5 := ex5
  have h6 := ex6
  have h7 := ex7
  have h8 := ex8
  have h9 := ex9
  generalize exO 0 = x at *
  generalize exO 1 = y at *
  generalize rRule exT mkR drR x = X at *
  generalize rRule exT mkR drR y = Y at *
  refine Tz.pK ⟨fun t => t == 1 || t == 2 || t == 3 || t == 4 || t == 7 || t == 9, fun r => match r with | 8 => [(0, 10), (1, 10), (2, 10), (4, 10), (5, 10), (6, 10)] | 9 => [(0, 10), (1, 10), (2, 10), (4, 10), (5, 10), (6, 10)] | _ => []⟩ Tryz.func6 rfl (fun Q hQ => ?_)
  try simp -implicitDefEqProofs [go_sem, seval, Ovl.c, Rule.c, h5, h6, h7, h8, h9]
  refine callQ_pure0 (ref04_Example) ((by first | rfl | (simp [go_sem, ← List.map_take, ← List.map_drop, Ovl.c, Rule.c, h5, h6, h7, h8, h9]; done))) ?_
  try simp -implicitDefEqProofs [go_sem, seval, Ovl.c, Rule.c, h5, h6, h7, h8, h9]
  refine callQ_pure0 (hO.nz (by simp [go_sem, nz_nodes, nz_edgeTys, mkR, drR, trueC, Rule.d, Types.d, Types.c, dLI, cI, dI, Cond.kind, Cond.kids, Cond.map, Cond.pattern])) ((by first | rfl | (simp [go_sem, ← List.map_take, ← List.map_drop, Ovl.c, Rule.c, h5, h6, h7, h8, h9]; done))) ?_
  try simp -implicitDefEqProofs [go_sem, seval, Ovl.c, Rule.c, h5, h6, h7, h8, h9]
  repeat first | intro _ | refine ⟨obs, ?_⟩
  refine dcallQ_pure0 (hR0.nz (by simp [go_sem, nz_nodes, nz_edgeTys, nz_ints, nz_edges, mkR, drR, trueC, Rule.d, Types.d, Types.c, Ovl.d, Ovl.c, dLI, cI, dI, Cond.kind, Cond.kids, Cond.map, Cond.pattern])) ((by first | rfl | (simp [go_sem, ← List.map_take, ← List.map_drop, Ovl.c, Rule.c, h5, h6, h7, h8, h9]; done))) ?_
  try simp -implicitDefEqProofs [go_sem, seval, Ovl.c, Rule.c, h5, h6, h7, h8, h9]
  repeat first | intro _ | refine ⟨obs, ?_⟩
  refine dcallQ_pure0 (hR1.nz (by simp [go_sem, nz_nodes, nz_edgeTys, nz_ints, nz_edges, mkR, drR, trueC, Rule.d, Types.d, Types.c, Ovl.d, Ovl.c, dLI, cI, dI, Cond.kind, Cond.kids, Cond.map, Cond.pattern])) ((by first | rfl | (simp [go_sem, ← List.map_take, ← List.map_drop, Ovl.c, Rule.c, h5, h6, h7, h8, h9]; done))) ?_
  try simp -implicitDefEqProofs [go_sem, seval, Ovl.c, Rule.c, h5, h6, h7, h8, h9]
  repeat first | intro _ | refine ⟨obs, ?_⟩
  exact hQ _ _ (by simp [go_sem, Ovl.c, Rule.c, h5, h6, h7, h8, h9] <;> first | omega | (rw [bei]; simp <;> omega) | (simp_all <;> omega))
end Go.Abs
end
section
set_option maxRecDepth 60000
set_option maxHeartbeats 2000000
open Go Go.Proofs
namespace Go.Abs
theorem rRule_valid {t : Types} {a b : Rule} {o : Ovl} (h : rErr t a b o = 0) : ruleF t (rRule t a b o) = 0 := by
  unfold rErr at h
  split at h
  · rename_i q; exact absurd h q
  · rename_i q
    unfold rRule; rw [if_neg q]
    exact conc_rule (by omega) h
theorem comA_le (d f : List Int) : (comA d f d.length).length ≤ d.length := comA_len _ _ _
theorem rRule_ok {t : Types} {a b : Rule} {o : Ovl} (h : rErr t a b o = 0) : (rRule t a b o).ok := by
  unfold rErr at h
  split at h
  · rename_i q; exact absurd h q
  · rename_i q
    obtain ⟨ha, hb⟩ := givenR_parts (t := t) (a := a) (b := b) (by omega)
    obtain ⟨hp, bL, bR⟩ := whole_parts h
    have r := rok ha hb hp
    unfold rRule; rw [if_neg q]
    have hZ : wholeR a b o = concOf (refL a b o (partsD a b o) (partsF a b o)) (refR a b o (partsD a b o) (partsF a b o)) (partsD a b o) (partsF a b o) := by unfold wholeR; rw [if_pos h]
    rw [hZ]
    have l1 := comA_le (partsD a b o).nodes (partsF a b o).nodes
    have l2 := comA_le (partsD a b o).edges (partsF a b o).edges
    have l3 := comB_len2 (partsD a b o).nodes (partsF a b o).nodes
    have l4 := comB_len2 (partsD a b o).edges (partsF a b o).edges
    have q1 := r.ld
    have q2 := r.ld'
    refine ⟨by show concName.size ≤ 100000; decide, by show (comA _ _ _).length ≤ _; omega, by show (comA _ _ _).length ≤ _; omega, by show (comB _ _ _).length ≤ _; omega, by show (comB _ _ _).length ≤ _; omega, ?_, ?_⟩
    ·show Cond.ok trueC
     refine ⟨⟨by decide, by decide, by decide, by decide, by decide, by decide⟩, trivial⟩
    ·show Cond.size trueC ≤ 1000000
     decide
end Go.Abs
end
section
open Go Go.Proofs
namespace Go.Abs
def cL (l : List Int) : List D := [dLI l]
def restI (mask : List Bool) : List Nat := (List.range mask.length).filter fun i => mask[i]?.getD false
theorem flatI (zs : List Int) : ∀ d ∈ (zs.map cI).flatten, d.flat = true := by
  intro d hd; rw [flat_cI, List.mem_map] at hd; obtain ⟨x, _, rfl⟩ := hd; rfl
theorem ACalls.ownF {P : Program} {H : AHeap} {f : FuncId} {args : List D} {ty : TypeId} {sz : Nat} {es : List (List D)} {Q : D → AHeap → Prop} (hp : Own P f (args.map (rsvD H)) ty sz es) (hcl : D.clL (args.map (rsvD H)) = true) (hf : ∀ d ∈ es.flatten, d.flat = true) (hQ : Q (.list es) H) : ACalls P f args H Q := by
  refine ⟨hp.1, fun M0 σ w vals hR ha => ?_⟩
  obtain ⟨f1, f2, f3, f4⟩ := frzs_sound (args.flatMap ownIds) hR
  refine (hp.2 (Mut M0 (frzs (args.flatMap ownIds) H) σ) w vals (mut_lt f1) (repL_closed (fun _ h => h) (repL_rsv hR ha _ fun i h => h) hcl)).mono fun e w' ⟨v, xs, he, hrow, h1, hrep, hcll, hsz, hb⟩ => ?_
  obtain ⟨g1, g2, g3⟩ := hR.grow hb.os hb.tape hb.output hb.size hb.block
  have hv : RepV (Mut M0 H σ) noRef noId w' v (.list es) := by
    rcases hrow.2 with ⟨hnil, h0⟩ | ⟨g, cap, cur, hval, hg, hcells, hnc, hcm, hsz', htake⟩
    ·rw [hnil, List.eq_nil_of_length_eq_zero h0]; exact .listN
    ·rw [hval]
     refine .list ⟨g, 0, none⟩ cap sz xs es hnc hcm hsz hrep.len h1 (fun j u hu => ⟨fun hm => ?_, hrow.cells (g := g) (by simp [hval, Value.ownBlock]) j u hu⟩) (fun j u d hu hd => flat_rep (hrep.rep j u d hu hd) (hf d (List.mem_of_getElem? hd)))
     have := mut_lt hR g hm
     omega
  exact ⟨v, .list es, H, σ, he, g1, hv.keep keeps_noRef, g2, g3, hQ⟩
theorem dcallQ_ownF {P : Program} {md : Nat → Bool} {ops : Array Oper} {sp : List (Nat × Nat)} {n0 i : Nat} {rest : List Oper} {acc : List (Nat × List Nat)} {e : Env} {dst : Option Tmp} {K : Env → AHeap → Prop} {f : FuncId} {args args' : List D} {H : AHeap} {ty : TypeId} {sz : Nat} {es : List (List D)}
    (hp : Own P f args' ty sz es) (ha : args.map (rsvD H) = args') (hcl : D.clL args' = true) (hf : ∀ d ∈ es.flatten, d.flat = true) {S : List Nat} (hS : args.flatMap ownIds = S) (hc : chk sp i S acc)
    (h : aDraw P md ops sp n0 (i + 1) rest ((i, S) :: acc) (upd e dst (.list es)) H K) : dcallQ P md ops sp n0 i rest acc e dst K f args H := by
  subst ha hS
  unfold dcallQ
  refine .inl ⟨.list es, _, fun H' hag => ?_, hc, h⟩
  have he := args_agree hag fun x hx => hx
  exact ACalls.ownF (by rw [he]; exact hp) (by rw [he]; exact hcl) hf ⟨rfl, rfl⟩
end Go.Abs
end
