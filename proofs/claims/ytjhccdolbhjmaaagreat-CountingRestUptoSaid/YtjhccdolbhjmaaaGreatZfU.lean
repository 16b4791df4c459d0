/- law41: CountingRest, the walk. · From a reading of an argume -/
import Derived.Test.YtjhccdolbhjmaaaGreatZfE
import Derived.Test.YtjhccdolbhjmaaaGreatZfS
import Derived.Test.YtjhccdolbhjmaaaGreatZfT
import Derived.Test.YtjhccdolbhjmaaaGreatZfD
import Derived.Test.YtjhccdolbhjmaaaGreatZfN
import Derived.Carry
import Derived.ChangeArms
import Derived.WideShapes
import Derived.DataElems
import Derived.Test.YtjhccdolbhjmaaaGreatRows
import Derived.OpenShut
set_option linter.unusedVariables false
set_option linter.unusedSimpArgs false
section
set_option maxRecDepth 8000
set_option maxHeartbeats 1000000
open Go Go.Proofs
namespace Go.Abs
def keepF (R : List Int) (rs : List Rule) (i : Nat) : List Rule := (List.range i).flatMap fun (j : Nat) => if mem R (j : Int) = true then [] else rs[j]?.toList
theorem keepF_succ (R : List Int) (rs : List Rule) (i : Nat) (h : i < rs.length) : keepF R rs (i + 1) = keepF R rs i ++ (if mem R (i : Int) = true then [] else [rs[i]]) := by
  simp [keepF, List.range_succ, lge h]
theorem law41_RestG (d : DrT) (t : Types) (rs K : List Rule) (h : Host) (S S1 : List Stage) (R : List Int) (E E1 X : Int) (b k : Bool) (hrs : rs.length ≤ 100000) (hK : keepF R rs rs.length = K)
    (cP : Pure Tryz.prog 21 [.agg d.c] (.tup [t.d, .list (rs.map Rule.c), h.d, .bool b]))
    (c1 : b = true → Pure Tryz.prog 23 [t.d, .list (rs.map Rule.c)] (.tup [.list (S.map Stage.c), dI E]))
    (c2 : b = true → Pure Tryz.prog 23 [t.d, .list (K.map Rule.c)] (.tup [.list (S1.map Stage.c), dI E1]))
    (c3 : b = true → Pure Tryz.prog 25 [t.d, .list (rs.map Rule.c)] (.tup [dLI R, dI X]))
    (c5 : b = true → Pure Tryz.prog 13 [t.d, .list (K.map Rule.c), .list (S1.map Stage.c)] (.bool k))
    (hx : b = true → X ≠ 0 → E = X) (hk : b = true → X = 0 → E1 = 0 ∧ k = true ∧ (E = 0 ↔ R = [])) : Pure Tryz.prog 7 [.agg d.c] (.bool true) := by
  refine Tz.pK ⟨fun t => t == 3 || t == 5 || t == 11 || t == 13, fun _ => []⟩ Tryz.func7 rfl (fun Q hQ => ?_)
  try simp [go_sem, w_seqN, DrT.c]
  refine cq0 ((by have hz := cP; simp only [DrT.c] at hz; exact hz)) ?_
  try simp [go_sem, w_seqN, DrT.c]
  repeat first | intro _ | refine ⟨obs, ?_⟩
  refine cq0 (law41_awake) ?_
  try simp [go_sem, w_seqN, DrT.c]
  repeat first | intro _ | refine ⟨obs, ?_⟩
  refine condQ_mk (fun h2 => ?_) (fun h2 => ?_)
  · try simp [go_sem] at h2
    try simp [go_sem, w_seqN, DrT.c]
    refine cq0 (law41_awake) ?_
    try simp [go_sem, w_seqN, DrT.c]
    exact hQ _ _ (by simp [go_sem, w_seqN, DrT.c, h2] <;> first | omega | (rw [bei]; simp <;> omega) | (simp_all <;> omega))
  · try simp [go_sem] at h2
    have hb : b = true := by cases hbb : b <;> simp [hbb] at h2 ⊢
    try simp [go_sem, w_seqN, DrT.c]
    refine cq0 (c3 hb) ?_
    try simp [go_sem, w_seqN, DrT.c]
    refine condQ_mk (fun h5 => ?_) (fun h5 => ?_)
    ·try simp [go_sem] at h5
     have hEX := hx hb h5
     try simp [go_sem, w_seqN, DrT.c]
     refine cq0 (c1 hb) ?_
     try simp [go_sem, w_seqN, DrT.c]
     exact hQ _ _ (by simp [go_sem, w_seqN, DrT.c, h2, h5] <;> first | omega | (rw [bei]; simp <;> omega) | (simp_all <;> omega))
    ·try simp [go_sem] at h5
     have hX : X = 0 := by omega
     have hK3 := hk hb hX
     try simp [go_sem, w_seqN, DrT.c]
     repeat first | intro _ | refine ⟨obs, ?_⟩
     obtain ⟨I0, hI0⟩ := mkI fun i e H => (∃ xs : List Rule, (e 1 = .adr d.c) ∧ (e 3 = .ptr 0 1 0 0) ∧ (e 4 = .list (rs.map Rule.c)) ∧ (e 7 = dLI R) ∧ (e 5 = .ptr 1 1 0 0) ∧ (e 11 = .own 2 xs.length) ∧ (e 49 = .list (rs.map Rule.c)) ∧ (e 50 = dI rs.length) ∧ (e 51 = dI i) ∧ (H.get 0 = some ⟨25, 2, [t.c], false⟩) ∧ (0 < H.next) ∧ (H.get 1 = some ⟨55, 3, [h.c], false⟩) ∧ (1 < H.next) ∧ (H.get 2 = some ⟨74, 25, xs.map Rule.c, false⟩) ∧ (2 < H.next) ∧ (i ≤ rs.length) ∧ (xs.length ≤ i) ∧ (xs = keepF R rs i))
     refine loopK I0 (fun i => rs.length - i) (0) ((hI0 _ _ _).2 ⟨([]), ?_, ?_, ?_, ?_, ?_, ?_, ?_, ?_, ?_, ?_, ?_, ?_, ?_, ?_, ?_, (by first | assumption | omega | (simp [go_sem, w_seqN, DrT.c]; done) | (simp_all; done)), (by simp), (by rfl)⟩) ?_
     iterate 15 (first | omega | (simp [go_sem, w_seqN, DrT.c] <;> omega))
     intro i e H hi0
     obtain ⟨xs, q1_0, q3_0, q4_0, q7_0, q5_0, q11_0, q49_0, q50_0, q51_0, g0_0, n0_0, g1_0, n1_0, g2_0, n2_0, hi, hyl, hy⟩ := (hI0 _ _ _).1 hi0
     have x0 := frs n0_0
     have x1 := frs n1_0
     have x2 := frs n2_0
     have F0 := And.intro q1_0 (And.intro q3_0 (And.intro q4_0 (And.intro q7_0 (And.intro q5_0 (And.intro q11_0 (And.intro q49_0 (And.intro q50_0 (And.intro q51_0 (And.intro g0_0 (And.intro g1_0 (And.intro g2_0 (And.intro x0 (And.intro x1 x2)))))))))))))
     try simp [go_sem, w_seqN, DrT.c, F0]
     refine condQ_mk (fun h10 => ?_) (fun h10 => ?_)
     ·try simp [go_sem] at h10
      try simp [go_sem, w_seqN, DrT.c, F0, h10, lge h10]
      repeat first | intro _ | refine ⟨obs, ?_⟩
      refine cq0 (contains_int R i) ?_
      try simp [go_sem, w_seqN, DrT.c, F0, h10, lge h10]
      repeat first | intro _ | refine ⟨obs, ?_⟩
      refine condQ_mk (fun h12 => ?_) (fun h12 => ?_)
      ·try simp [go_sem] at h12
       try simp [go_sem, w_seqN, DrT.c, F0, h10, lge h10, h12]
       repeat first | intro _ | refine ⟨obs, ?_⟩
       refine nextQ_mk (i + 1) (by omega) ((hI0 _ _ _).2 ⟨(xs ++ (if mem R (i : Int) = true then [] else [rs[i]])), ?_, ?_, ?_, ?_, ?_, ?_, ?_, ?_, ?_, ?_, ?_, ?_, ?_, ?_, ?_, (by first | assumption | omega | (simp [go_sem, w_seqN, DrT.c, F0, h10, lge h10, h12, h2, h5]; done) | (simp_all <;> omega)), (by (rw [List.length_append]; split <;> simp <;> omega)), (by (rw [keepF_succ _ _ _ h10, ← hy]))⟩) <;> first | omega | (simp [go_sem, w_seqN, DrT.c, F0, h10, lge h10, h12] <;> omega)
      ·try simp [go_sem] at h12
       try simp [go_sem, w_seqN, DrT.c, F0, h10, lge h10, h12]
       repeat first | intro _ | refine ⟨obs, ?_⟩
       refine nextQ_mk (i + 1) (by omega) ((hI0 _ _ _).2 ⟨(xs ++ (if mem R (i : Int) = true then [] else [rs[i]])), ?_, ?_, ?_, ?_, ?_, ?_, ?_, ?_, ?_, ?_, ?_, ?_, ?_, ?_, ?_, (by first | assumption | omega | (simp [go_sem, w_seqN, DrT.c, F0, h10, lge h10, h12, h2, h5]; done) | (simp_all <;> omega)), (by (rw [List.length_append]; split <;> simp <;> omega)), (by (rw [keepF_succ _ _ _ h10, ← hy]))⟩) <;> first | omega | (simp [go_sem, w_seqN, DrT.c, F0, h10, lge h10, h12] <;> omega)
     ·try simp [go_sem] at h10
      have hfin : xs = K := by rw [hy, show i = rs.length by omega]; exact hK
      try simp [go_sem, w_seqN, DrT.c, F0, hfin]
      refine callQ_pureZ (c2 hb) (by (simp [go_sem, w_seqN, DrT.c, F0, hfin]) <;> rfl) ((by first | rfl | (simp [go_sem, ← List.map_take, ← List.map_drop, w_seqN, DrT.c, F0, hfin]; done))) (by (simp [go_sem, w_seqN, DrT.c, F0, hfin]) <;> rfl) ?_
      try simp [go_sem, w_seqN, DrT.c, F0, hfin]
      refine cq0 (c1 hb) ?_
      try simp [go_sem, w_seqN, DrT.c, F0, hfin]
      repeat first | intro _ | refine ⟨obs, ?_⟩
      refine gcallQ_pureF (fun hg => c5 hb) (by simp [rsvC, rsvP, cellsAt, go_sem, ← List.map_take, ← List.map_drop, w_seqN, DrT.c, F0, hfin]) (fun hg => (by first | rfl | (simp [go_sem, ← List.map_take, ← List.map_drop, w_seqN, DrT.c, F0, hfin]; done))) (fun hg =>  rfl) ?_
      try simp [go_sem, w_seqN, DrT.c, F0, hfin]
      repeat first | intro _ | refine ⟨obs, ?_⟩
      have hval : (decide (E1 = 0) && k && ((E == 0) == ((R.length : Int) == 0))) = true := by
       obtain ⟨e1, e2, e3⟩ := hK3
       rw [e1, e2]
       by_cases hR : R = []
       ·rw [hR, e3.2 hR]; rfl
       ·have hE : E ≠ 0 := fun h => hR (e3.1 h)
        have hl : (R.length : Int) ≠ 0 := by
         intro h; exact hR (List.eq_nil_of_length_eq_zero (by omega))
        rw [beq_eq_false_iff_ne.2 hE, beq_eq_false_iff_ne.2 hl]; rfl
      rw [hval]
      exact hQ _ _ (by simp [go_sem])
theorem restI_mem_int {m : List Bool} {i : Nat} : mem ((restI m).map fun (i : Nat) => (i : Int)) (i : Int) = (m[i]?.getD false) := by
  rw [bei, mem_iff, List.mem_map]
  constructor
  · rintro ⟨j, hj, he⟩
    have : j = i := by omega
    subst this
    rw [restI_mem.1 hj]; rfl
  · intro h
    refine ⟨i, restI_mem.2 ?_, rfl⟩
    cases hx : m[i]? with
    | none => rw [hx] at h; simp at h
    | some b => rw [hx] at h; simp at h; rw [h]
theorem keepF_map {m : List Bool} {rs : List Rule} {α : Type} (f : Rule → α) (z : α) : ∀ i, i ≤ rs.length → (keepF ((restI m).map fun (i : Nat) => (i : Int)) rs i).map f = (offI m i).map fun j => (rs.map f)[j]?.getD z
  | 0, _ => rfl
  | i + 1, h => by
    have ih := keepF_map (m := m) (rs := rs) f z i (by omega)
    rw [keepF_succ _ _ _ (by omega), List.map_append, ih, restI_mem_int]
    unfold offI
    rw [List.range_succ, List.filter_append, List.map_append]
    congr 1
    have hg : rs[i]? = some rs[i] := lge (by omega)
    cases hb : m[i]?.getD false <;> simp [hg, hb]
theorem keepF_sub {R : List Int} {rs : List Rule} {i : Nat} : ∀ r ∈ keepF R rs i, r ∈ rs := fun r hr => by
  unfold keepF at hr
  obtain ⟨j, _, hj⟩ := List.mem_flatMap.1 hr
  split at hj
  · simp at hj
  · exact List.mem_of_getElem? (Option.mem_toList.1 hj)
theorem offI_len (m : List Bool) (n : Nat) : (offI m n).length ≤ n := by
  unfold offI; exact Nat.le_trans (List.length_filter_le _ _) (by simp)
theorem listE_of {α : Type} {f : α → Int} : ∀ {l : List α}, (∀ x ∈ l, f x = 0) → listE f l = 0
  | [], _ => rfl
  | x :: l, h => by
    unfold listE
    rw [if_neg (by simp [h x (by simp)])]
    exact listE_of fun y hy => h y (by simp [hy])
theorem touchL_sub {n : Nat} {ls ls' : List (List Int)} (h : ∀ l ∈ ls', l ∈ ls) : (touchL n ls').length ≤ (touchL n ls).length := by
  unfold touchL
  rw [List.length_map, List.length_map, ← List.countP_eq_length_filter, ← List.countP_eq_length_filter]
  refine List.countP_mono_left fun k _ hk => ?_
  obtain ⟨l, hl, hd⟩ := List.any_eq_true.1 hk
  exact List.any_eq_true.2 ⟨l, h l hl, hd⟩
theorem kept_law {t : Types} {rs K : List Rule} (hE : effsE t rs = 0) (hK : keepF (rstV t rs) rs rs.length = K) : effsE t K = 0 ∧ rstV t K = [] := by
  obtain ⟨h1, h2, h3, h4, h5⟩ := effsE_of hE
  have hR : rstV t rs = (restI (stgG t rs).2).map fun (i : Nat) => (i : Int) := by unfold rstV; rw [if_pos hE]
  rw [hR] at hK
  have hmap := keepF_map (m := (stgG t rs).2) (rs := rs) (effV t) [] rs.length (Nat.le_refl _)
  rw [hK] at hmap
  have hsub : ∀ r ∈ K, r ∈ rs := by rw [← hK]; exact keepF_sub
  have hlen : K.length ≤ rs.length := by
    have h := congrArg List.length hmap
    rw [List.length_map, List.length_map] at h
    rw [h]; exact offI_len _ _
  have hE' : effsE t K = 0 := by
    unfold effsE
    have ht := touchL_sub (n := t.nodes.length + t.edges.length) (ls := rs.map (effV t)) (ls' := K.map (effV t)) (fun l hl => by
     obtain ⟨r, hr, rfl⟩ := List.mem_map.1 hl
     exact List.mem_map_of_mem (hsub r hr))
    rw [if_neg (by simp [h1]), if_neg (by omega), if_neg (by simp [listE_of (fun r hr => h4 r (hsub r hr))]), if_neg (by omega)]
  refine ⟨hE', ?_⟩
  unfold rstV
  rw [if_pos hE']
  have hv : effsV t rs = rs.map (effV t) := if_pos hE
  have hv' : effsV t K = K.map (effV t) := if_pos hE'
  have hk := stages_kept (ls := rs.map (effV t)) (ls' := K.map (effV t)) (n := t.nodes.length + t.edges.length) (by
    rw [hmap, List.length_map]; unfold stgG; rw [hv])
  rw [List.length_map] at hk
  unfold stgG
  rw [hv', hk]; rfl
theorem law41_CountingRest (d : DrT) : Pure Tryz.prog 7 [.agg d.c] (.bool true) := by
  have hP := law41_parts d
  unfold DrT.v at hP
  by_cases hs : d.small = true
  · rw [if_pos hs] at hP
    have hll : d.l.length ≤ 6 := by show (made39 _ _).length ≤ 6; unfold made39; rw [List.length_map, List.length_take]; omega
    have hh : d.light = true → d.t.ok ∧ ∀ r ∈ d.l, r.ok := fun hL => by
     have hL' : lightB d.t d.l = true := by unfold DrT.light at hL; simp only [Bool.and_eq_true] at hL; exact hL.1
     exact ⟨fewT_ok (light_few hL').1, (fewRs_ok (light_few hL').2).2⟩
    obtain ⟨K, hK⟩ : ∃ K, keepF (rstV d.t d.l) d.l d.l.length = K := ⟨_, rfl⟩
    have hKs : ∀ r ∈ K, r ∈ d.l := by rw [← hK]; exact keepF_sub
    refine law41_RestG d d.t d.l K d.h (stV d.t d.l) (stV d.t K) (rstV d.t d.l) (findE d.t d.l) (findE d.t K) (effsE d.t d.l) d.light (chkF d.t K (stV d.t K)) (by omega) hK hP
     (fun h => counting_Find d.t (hh h).1 d.l (hh h).2) (fun h => counting_Find d.t (hh h).1 K (fun r hr => (hh h).2 r (hKs r hr))) (fun h => counting_Rest d.t (hh h).1 d.l (hh h).2)
     (fun h => counting_Check d.t (hh h).1 K (fun r hr => (hh h).2 r (hKs r hr)) _) (fun _ hX => ?_) (fun _ hX => ?_)
    ·unfold findE; rw [if_neg (fun h => hX h.1)]
    ·obtain ⟨k1, k2⟩ := kept_law hX hK
     refine ⟨?_, chkF_stV k1 k2, ?_⟩
     ·unfold findE; rw [if_neg (fun h => h.2 k2), k1]
     ·unfold findE
      by_cases hr : rstV d.t d.l = []
      ·rw [if_neg (fun h => h.2 hr)]; exact ⟨fun _ => hr, fun _ => hX⟩
      ·rw [if_pos ⟨hX, hr⟩]; exact ⟨fun h => by simp at h, fun h => absurd h hr⟩
  · rw [if_neg hs] at hP
    exact law41_RestG d ⟨[], []⟩ [] [] ⟨⟨[], []⟩, []⟩ [] [] [] 0 0 0 false false (by simp) rfl hP (fun h => by cases h) (fun h => by cases h) (fun h => by cases h) (fun h => by cases h) (fun h => by cases h) (fun h => by cases h)
end Go.Abs
end
section
namespace Go.Abs
open Go.ChangeShapes Go.WideShapes Go.RowKit
structure Bulk {H : Type} (bulk : DataW H → Nat) : Prop where
  len : ∀ e s, e.length ≤ bulk (.slice e s)
  el : ∀ e s, ∀ d ∈ e, bulk d ≤ bulk (.slice e s)
  part : ∀ l, ∀ d ∈ l, bulk d ≤ bulk (.agg l)
  str : ∀ s : List UInt8, s.length ≤ bulk (.lit (.string s))
abbrev noM : Nat → Prop := fun _ => False
section
variable {H : Type} {enc : TypeId × Value → H} {P : Program} {w : World} {base : Nat} {spare : Nat → Bool} {held : Bool} {bulk : DataW H → Nat} {B : Nat}
def Opens (enc : TypeId × Value → H) (P : Program) (w : World) (base : Nat) (spare : Nat → Bool) (held : Bool) (bulk : DataW H → Nat) (B : Nat) (n : Nat) (t : TypeId) {α : Type} (C : α → List D) (G : α → Prop) : Prop :=
  ∀ (fuel : Nat) (cs : List Value) (x : DataW H × List MemPlace), fuel ≤ n → DataW.trod enc P w base spare held fuel t cs = some x → bulk x.1 ≤ B →
    ∃ a, G a ∧ RepL noM noRef noId w cs (C a) ∧ ∀ u ∈ cs, u.oneCell' = true
variable {n : Nat} {t : TypeId}
theorem Opens.mono {α : Type} {C : α → List D} {G : α → Prop} {m : Nat} (h : Opens enc P w base spare held bulk B n t C G) (hm : m ≤ n) : Opens enc P w base spare held bulk B m t C G :=
  fun fuel cs x hf hx hb => h fuel cs x (Nat.le_trans hf hm) hx hb
theorem Opens.zero {α : Type} {C : α → List D} {G : α → Prop} : Opens enc P w base spare held bulk B 0 t C G := fun fuel cs x hf hx _ => by
  have : fuel = 0 := by omega
  subst this
  simp [DataW.trod] at hx
theorem Opens.map {α β : Type} {C : α → List D} {G : α → Prop} {C' : β → List D} {G' : β → Prop} (h : Opens enc P w base spare held bulk B n t C G) (f : α → β) (hC : ∀ a, C a = C' (f a)) (hG : ∀ a, G a → G' (f a)) : Opens enc P w base spare held bulk B n t C' G' :=
  fun fuel cs x hf hx hb => by
    obtain ⟨a, h1, h2, h3⟩ := h fuel cs x hf hx hb
    exact ⟨f a, hG a h1, by rw [← hC]; exact h2, h3⟩
theorem repL_one {v : Value} {d : D} (h : RepV noM noRef noId w v d) : RepL noM noRef noId w [v] [d] :=
  ⟨rfl, fun j u x hu hx => by
    cases j with
    | zero => simp at hu hx; subst hu; subst hx; exact h
    | succ j => simp at hu⟩
theorem repL_app {a b : List Value} {c d : List D} (h : RepL noM noRef noId w a c) (k : RepL noM noRef noId w b d) : RepL noM noRef noId w (a ++ b) (c ++ d) := by
  refine ⟨by simp [h.len, k.len], fun j u x hu hx => ?_⟩
  by_cases hj : j < a.length
  · rw [List.getElem?_append_left hj] at hu
    rw [List.getElem?_append_left (by rw [← h.len]; exact hj)] at hx
    exact h.rep j u x hu hx
  · rw [List.getElem?_append_right (by omega)] at hu
    rw [List.getElem?_append_right (by rw [← h.len]; omega), ← h.len] at hx
    exact k.rep _ u x hu hx
theorem opens_bool (ht : P.underlying t = some .bool) : Opens enc P w base spare held bulk B n t (fun b : Bool => [D.bool b]) (fun _ => True) := fun fuel cs x _ hx _ => by
  obtain ⟨b, rfl, _⟩ := DataW.trod_bool ht hx
  exact ⟨b, trivial, repL_one (.bool b), by simp [Value.oneCell']⟩
theorem rows {α : Type} {C : α → List D} {G : α → Prop} {ad : Addr} {sz : Nat} : ∀ (len : Nat),
    (∀ i, i < len → ∃ c a, w.cells? base (ad.add (i * sz)) sz = some c ∧ G a ∧ RepL noM noRef noId w c (C a) ∧ ∀ u ∈ c, u.oneCell' = true) →
    ∃ (l : List α) (xs : List Value), l.length = len ∧ (∀ a ∈ l, G a) ∧ RepL noM noRef noId w xs (l.map C).flatten ∧ (∀ u ∈ xs, u.oneCell' = true) ∧ xs.length = len * sz ∧
      (∀ (j : Nat) (u : Value), xs[j]? = some u → w.cell? (ad.add j) = some u) ∧ ∀ c ∈ l.map C, c.length = sz
  | 0, _ => ⟨[], [], rfl, by simp, ⟨rfl, fun j u d hu => by simp at hu⟩, by simp, by simp, by simp, by simp⟩
  | len + 1, h => by
    obtain ⟨l, xs, h1, h2, h3, h4, h5, h6, h7⟩ := rows len fun i hi => h i (by omega)
    obtain ⟨c, a, hc, hg, hr, h1c⟩ := h len (by omega)
    obtain ⟨_, hcl, hcell⟩ := World.cells?_some hc
    refine ⟨l ++ [a], xs ++ c, by simp [h1], fun b hb => ?_, ?_, fun u hu => ?_, by rw [List.length_append, h5, hcl, Nat.succ_mul], fun j u hu => ?_, fun b hb => ?_⟩
    · rcases List.mem_append.1 hb with h | h
      · exact h2 b h
      · simp at h; subst h; exact hg
    · rw [List.map_append, List.flatten_append]
      refine repL_app h3 ?_
      simpa using hr
    · rcases List.mem_append.1 hu with h | h
      · exact h4 u h
      · exact h1c u h
    · by_cases hj : j < xs.length
      · rw [List.getElem?_append_left hj] at hu; exact h6 j u hu
      · rw [List.getElem?_append_right (by omega)] at hu
        have hlt : j - xs.length < sz := by rw [← hcl]; exact (List.getElem?_eq_some_iff.1 hu).1
        have := hcell (j - xs.length) hlt
        rw [Addr.add_add, hu] at this
        rwa [show len * sz + (j - xs.length) = j by omega] at this
    · rw [List.map_append] at hb
      rcases List.mem_append.1 hb with h | h
      · exact h7 b h
      · simp at h; subst h; rw [← hr.len, hcl]
theorem opens_slice (hB : Bulk bulk) {e : TypeId} (ht : P.underlying t = some (.slice e)) {α : Type} {C : α → List D} {G : α → Prop} (h : Opens enc P w base spare held bulk B n e C G) :
    Opens enc P w base spare held bulk B (n + 1) t (fun l : List α => [.list (l.map C)]) (fun l => l.length ≤ B ∧ ∀ a ∈ l, G a) := fun fuel cs x hf hx hb => by
  rcases DataW.trod_slice ht hx with ⟨rfl, rfl⟩ | ⟨ad, len, cap, elems, rest, m, rfl, rfl, rfl, hbase, hlc, hcap, hlen, hel, _, _⟩
  · exact ⟨[], ⟨Nat.zero_le _, by simp⟩, repL_one .listN, by simp [Value.oneCell']⟩
  · simp only at hb
    have hb1 := hB.len (elems.map (·.1)) (rest.map (·.1))
    rw [List.length_map] at hb1
    obtain ⟨l, xs, h1, h2, h3, h4, h5, h6, h7⟩ := rows (w := w) (base := base) (C := C) (G := G) (ad := ad) (sz := P.cellsOf e) len fun i hi => by
      have := hel i hi
      rw [lge (by omega), Option.bind_eq_some_iff] at this
      obtain ⟨c, hc, hd⟩ := this
      obtain ⟨a, g1, g2, g3⟩ := h m c _ (by omega) hd (Nat.le_trans (hB.el _ (rest.map (·.1)) _ (List.mem_map.2 ⟨_, lgm (by omega), rfl⟩)) hb)
      exact ⟨c, a, hc, g1, g2, g3⟩
    refine ⟨l, ⟨by omega, h2⟩, repL_one ?_, by simp [Value.oneCell']⟩
    have key := RepV.list (M := noM) (σ := noRef) (N := noId) (w := w) ad cap (P.cellsOf e) xs (l.map C) (by rw [List.length_map]; omega) hcap h7 h3.len h4 (fun j u hu => ⟨fun h => h, h6 j u hu⟩) h3.rep
    rw [List.length_map, h1] at key
    exact key
def Segs (enc : TypeId × Value → H) (P : Program) (w : World) (base : Nat) (spare : Nat → Bool) (held : Bool) (bulk : DataW H → Nat) (B n : Nat) : List TypeId → List Value → Prop
  | [], cs => cs = []
  | t :: ts, cs => (∃ y, DataW.trod enc P w base spare held n t (cs.take (P.cellsOf t)) = some y ∧ bulk y.1 ≤ B) ∧ Segs enc P w base spare held bulk B n ts (cs.drop (P.cellsOf t))
def OpensL (enc : TypeId × Value → H) (P : Program) (w : World) (base : Nat) (spare : Nat → Bool) (held : Bool) (bulk : DataW H → Nat) (B : Nat) (n : Nat) (ts : List TypeId) {α : Type} (C : α → List D) (G : α → Prop) : Prop :=
  ∀ (fuel : Nat) (cs : List Value), fuel ≤ n → Segs enc P w base spare held bulk B fuel ts cs → ∃ a, G a ∧ RepL noM noRef noId w cs (C a) ∧ ∀ u ∈ cs, u.oneCell' = true
theorem opensL_nil : OpensL enc P w base spare held bulk B n [] (fun _ : Unit => []) (fun _ => True) := fun fuel cs _ h => by
  have h : cs = [] := h
  subst h
  exact ⟨(), trivial, ⟨rfl, fun j u d hu => by simp at hu⟩, by simp⟩
theorem opensL_cons {ts : List TypeId} {α β : Type} {C : α → List D} {G : α → Prop} {C' : β → List D} {G' : β → Prop} (h : Opens enc P w base spare held bulk B n t C G) (k : OpensL enc P w base spare held bulk B n ts C' G') :
    OpensL enc P w base spare held bulk B n (t :: ts) (fun p : α × β => C p.1 ++ C' p.2) (fun p => G p.1 ∧ G' p.2) := fun fuel cs hf hs => by
  obtain ⟨⟨y, hy, hyb⟩, hs⟩ := hs
  obtain ⟨a, a1, a2, a3⟩ := h fuel _ y hf hy hyb
  obtain ⟨b, b1, b2, b3⟩ := k fuel _ hf hs
  refine ⟨(a, b), ⟨a1, b1⟩, ?_, fun u hu => ?_⟩
  · have := repL_app a2 b2
    rwa [List.take_append_drop] at this
  · rw [← List.take_append_drop (P.cellsOf t) cs] at hu
    rcases List.mem_append.1 hu with h | h
    · exact a3 u h
    · exact b3 u h
def offs (P : Program) : Nat → List Field → Option Nat
  | o, [] => some o
  | o, f :: r => if f.offset = o then offs P (o + P.cellsOf f.type) r else none
theorem segs_of {fuel : Nat} {cs : List Value} : ∀ (fs : List Field) (o : Nat), offs P o fs = some cs.length →
    (∀ f ∈ fs, ∃ y, DataW.trod enc P w base spare held fuel f.type ((cs.drop f.offset).take (P.cellsOf f.type)) = some y ∧ bulk y.1 ≤ B) → o ≤ cs.length ∧ Segs enc P w base spare held bulk B fuel (fs.map (·.type)) (cs.drop o)
  | [], o, ho, _ => by
    simp only [offs, Option.some.injEq] at ho
    subst ho
    exact ⟨Nat.le_refl _, by show cs.drop cs.length = []; simp⟩
  | f :: fs, o, ho, h => by
    unfold offs at ho
    split at ho
    · rename_i hof
      subst hof
      obtain ⟨h1, h2⟩ := segs_of fs _ ho fun g hg => h g (by simp [hg])
      refine ⟨by omega, ?_⟩
      refine ⟨h f (by simp), ?_⟩
      rw [List.drop_drop]
      exact h2
    · cases ho
theorem opens_struct (hB : Bulk bulk) {fs : Array Field} (ht : P.underlying t = some (.struct fs)) (ho : offs P 0 fs.toList = some (P.cellsOf t)) {α : Type} {C : α → List D} {G : α → Prop} (h : OpensL enc P w base spare held bulk B n (fs.toList.map (·.type)) C G) :
    Opens enc P w base spare held bulk B (n + 1) t C G := fun fuel cs x hf hx hb => by
  obtain ⟨xs, m, rfl, rfl, hcl, hxl, hfl⟩ := DataW.trod_struct ht hx
  simp only at hb
  have hs := (segs_of (enc := enc) (P := P) (w := w) (base := base) (spare := spare) (held := held) (bulk := bulk) (B := B) (fuel := m) (cs := cs) fs.toList 0 (by rw [hcl]; exact ho) fun f hfm => by
    obtain ⟨i, hi, rfl⟩ := List.getElem_of_mem hfm
    have hi' : i < fs.size := by simpa using hi
    have hfi := hfl i (fs.toList[i]) (by simp [hi'])
    rw [lge (by omega)] at hfi
    exact ⟨_, hfi, Nat.le_trans (hB.part _ _ (List.mem_map.2 ⟨_, lgm (by omega), rfl⟩)) hb⟩).2
  rw [List.drop_zero] at hs
  exact h m cs (by omega) hs
theorem arg_struct {r : Reach} {b0 : Nat} {fs : Array Field} {v : Value} {d : DataW H} {ps : List MemPlace} {α : Type} {C : α → List D} {G : α → Prop} (ht : P.underlying t = some (.struct fs)) (h : ∀ n, Opens enc P w base spare held bulk B n t C G)
    (hval : Value.okWide P w r b0 t v) (hd : DataW.Trod enc P w base spare held t v d ps) (hb : bulk d ≤ B) : ∃ a, G a ∧ RepV noM noRef noId w v (.agg (C a)) := by
  obtain ⟨cs, rfl, _⟩ := okWide_struct ht hval
  obtain ⟨fuel, hf⟩ := hd
  obtain ⟨a, h1, h2, h3⟩ := h fuel fuel _ _ (Nat.le_refl _) hf hb
  have hc : (Value.agg cs).cells.toList = cs.toList := rfl
  rw [hc] at h2 h3
  have := RepV.agg (M := noM) (σ := noRef) (N := noId) (w := w) cs.toList (C a) h2.len h3 h2.rep
  exact ⟨a, h1, by simpa using this⟩
theorem trodAll_stays (hl : laidOutB P = true) {W W' : World} {sp' : Nat → Bool} (hb : Below W.heap.size W W') : ∀ {ts : List TypeId} {vs : List Value} {ds : List (DataW H)} {ps : List MemPlace}, (∀ t ∈ ts, P.readableRec t = true ∧ t < P.types.size) →
    DataW.TrodAll enc P W 0 (fun _ => true) true ts vs ds ps → (∀ x ∈ ps, x.block < W.heap.size) → (∀ x ∈ ps, sp' x.block = true) → DataW.TrodAll enc P W' 0 sp' true ts vs ds ps
  | [], _, _, _, _, h, _, _ => by
    obtain ⟨rfl, rfl, rfl⟩ := trodAll_nil h
    rfl
  | t :: ts, _, _, _, hr, h, hlt, hs => by
    obtain ⟨v, vs, d, ds, p, q, rfl, rfl, rfl, h1, h2⟩ := trodAll_cons h
    refine ⟨p, q, WideElems.Trod_stays hl (hr t (by simp)).1 (hr t (by simp)).2 h1 (fun x hx => hb.same (hlt x (by simp [hx]))) (fun x hx => hs x (by simp [hx])), trodAll_stays hl hb (fun u hu => hr u (by simp [hu])) h2 (fun x hx => hlt x (by simp [hx])) (fun x hx => hs x (by simp [hx])), rfl⟩
theorem post_of_below (hl : laidOutB P = true) {f : Func} {s : ChangeSpec} {apart fresh handsOn again : Bool} {W W' : World} {args : Array Value} {v : Value} {ds gs : List (DataW H)} {before : List MemPlace}
    (hr : ∀ t ∈ f.params.toList, P.readableRec t = true ∧ t < P.types.size) (hvars : s.vars = []) (hW : DataW.Whole enc P f.params.toList s.vars apart W args.toList ds gs before)
    (hres : ∀ (b : Nat) (sp : Nat → Bool) (hd : Bool), DataW.TrodAll enc P W' b sp hd f.resultTypes.toList (v.resultList f.resultTypes.size) (s.fn H (ds ++ gs)).results [])
    (hargs : (s.fn H (ds ++ gs)).args = ds) (hvs : (s.fn H (ds ++ gs)).vars = []) (hb : Below W.heap.size W W')
    (hok : ∀ (j : Nat) (t : TypeId) (r : Value), f.resultTypes[j]? = some t → (v.resultList f.resultTypes.size)[j]? = some r → Value.okWide P W' .any 0 t r) :
    s.post enc P f apart fresh handsOn again W args v W' := by
  have hW' := hW
  obtain ⟨p, q, hA, hV, rfl, hz, hn⟩ := hW
  rw [hvars] at hV
  obtain ⟨rfl, rfl⟩ := trodVars_none hV
  rw [List.append_nil] at hW' hz hn
  have hlt : ∀ x ∈ p, x.block < W.heap.size := fun x hx => by simpa using hW'.lt x hx
  have hTr : ∀ sp : Nat → Bool, (∀ x ∈ p, sp x.block = true) → DataW.TrodAll enc P W' 0 sp true f.params.toList args.toList (s.fn H (ds ++ [])).args p := fun sp hs => by
    rw [hargs]; exact trodAll_stays hl hb hr hA hlt hs
  have hVr : ∀ sp : Nat → Bool, DataW.TrodVars enc P W' sp s.vars (s.fn H (ds ++ [])).vars [] := fun sp => by rw [hvars, hvs]; rfl
  refine ⟨ds, [], p, [], p, [], hW', hres _ _ _, hTr _ (fun x hx => by simpa using hlt x hx), hVr _, World.keptBut_mono (fun x hx => ⟨hx, .inr (by simpa using hx)⟩) (hb.frame (· ∈ p)), fun _ => ?_⟩
  refine ⟨hok, _, _, ([] ++ p) ++ [], ⟨[] ++ p, [], trodAll_append (hTr _ (fun _ _ => rfl)) (hres _ _ _), hVr _, rfl, ?_, ?_⟩, ?_⟩
  · intro b off hp
    have hp' : MemPlace.cell b off ∈ p := by simpa using hp
    have := hz b off hp'
    rw [← this]
    exact hb.frozen (hlt _ hp')
  · intro ha
    simpa using hn ha
  · intro x hx _
    simpa using hx
end
end Go.Abs
end
section
namespace Go.Proofs.YtjhccdolbhjmaaaGreat.bulks
theorem one_le {H : Type} (d : DataW H) : 1 ≤ Rows.uptoBulk d := by
  cases d with
  | lit l => cases l <;> simp [Rows.uptoBulk]
  | _ => simp [Rows.uptoBulk]
theorem mem_le {H : Type} {d : DataW H} : ∀ {l : List (DataW H)}, d ∈ l → Rows.uptoBulk d ≤ Rows.uptoBulkAll l
  | [], h => by cases h
  | x :: r, h => by
    simp only [Rows.uptoBulkAll]
    rcases List.mem_cons.1 h with rfl | h
    · omega
    · have := mem_le h; omega
theorem len_le {H : Type} : ∀ l : List (DataW H), l.length ≤ Rows.uptoBulkAll l
  | [] => by simp [Rows.uptoBulkAll]
  | x :: r => by have := one_le x; have := len_le r; simp only [Rows.uptoBulkAll, List.length_cons]; omega
theorem ok {H : Type} : Go.Abs.Bulk (Rows.uptoBulk (H := H)) where
  len e s := by have := len_le e; simp only [Rows.uptoBulk]; omega
  el e s d h := by have := mem_le h; simp only [Rows.uptoBulk]; omega
  part l d h := by have := mem_le h; simp only [Rows.uptoBulk]; omega
  str s := by simp [Rows.uptoBulk]
theorem bound {H : Type} {l : List (DataW H)} (hk : Rows.uptoSmall H l = true) : ∀ d ∈ l, Rows.uptoBulk d ≤ 1048576 := fun d hd => by
  have h := of_decide_eq_true hk
  have := mem_le hd
  omega
end Go.Proofs.YtjhccdolbhjmaaaGreat.bulks
end
section
open Go Go.Proofs
namespace Go.Abs
mutual
def Cond.bnd (B : Nat) : Cond → Prop
  | .mk k l m p => (m.nodes.length ≤ B ∧ m.edges.length ≤ B) ∧ Cond.bnds B l
def Cond.bnds (B : Nat) : List Cond → Prop
  | [] => True
  | c :: l => c.bnd B ∧ Cond.bnds B l
end
theorem Cond.bnds_iff (B : Nat) (l : List Cond) : Cond.bnds B l ↔ ∀ c ∈ l, c.bnd B := by
  induction l with
  | nil => simp [Cond.bnds]
  | cons a l ih => simp [Cond.bnds, ih]
theorem Cond.bnd_iff (B : Nat) (c : Cond) : c.bnd B ↔ (c.map.nodes.length ≤ B ∧ c.map.edges.length ≤ B) ∧ ∀ k ∈ c.kids, k.bnd B := by cases c; simp [Cond.bnd, Cond.bnds_iff, Cond.kids, Cond.map]
theorem Cond.bnd_le {B : Nat} (hB : B ≤ 1000000000000000) : ∀ c : Cond, c.bnd B → c.le := by
  refine Cond.ind fun c ih h => ?_
  obtain ⟨h1, h2⟩ := (Cond.bnd_iff B c).1 h
  exact (Cond.le_iff c).2 ⟨⟨by omega, by omega⟩, fun k hk => ih k hk (h2 k hk)⟩
def Rule.bnd (B : Nat) (x : Rule) : Prop := (x.keep.nodes.length ≤ B ∧ x.keep.edges.length ≤ B) ∧ (x.into.nodes.length ≤ B ∧ x.into.edges.length ≤ B) ∧ x.cond.bnd B
theorem Rule.bnd_le {B : Nat} (hB : B ≤ 1000000000000000) {r : Rule} (h : r.bnd B) : r.le := by
  obtain ⟨⟨h1, h2⟩, ⟨h3, h4⟩, h5⟩ := h
  exact ⟨⟨by omega, by omega⟩, ⟨by omega, by omega⟩, Cond.bnd_le hB _ h5⟩
section
variable {H : Type} {enc : TypeId × Value → H} {w : World} {base : Nat} {spare : Nat → Bool} {held : Bool} {bulk : DataW H → Nat} {B : Nat}
theorem op4 : ∀ n, Opens enc Tryz.prog w base spare held bulk B n 4 (fun b : Bool => [D.bool b]) (fun _ => True) := fun n => opens_bool Tryz.underlying4
end
end Go.Abs
end
section
open Go Go.Proofs
namespace Go.Abs
section
variable {H : Type} {enc : TypeId × Value → H} {P : Program} {w : World} {base : Nat} {spare : Nat → Bool} {held : Bool} {bulk : DataW H → Nat} {B : Nat} {n : Nat} {t : TypeId}
theorem segs_arr {fuel : Nat} {cs : List Value} {e : TypeId} : ∀ (k o : Nat), cs.length = (o + k) * P.cellsOf e →
    (∀ i, o ≤ i → i < o + k → ∃ y, DataW.trod enc P w base spare held fuel e ((cs.drop (i * P.cellsOf e)).take (P.cellsOf e)) = some y ∧ bulk y.1 ≤ B) → Segs enc P w base spare held bulk B fuel (List.replicate k e) (cs.drop (o * P.cellsOf e))
  | 0, o, hl, _ => by
    show cs.drop _ = []
    rw [List.drop_eq_nil_iff, hl]; simp
  | k + 1, o, hl, h => by
    rw [List.replicate_succ]
    refine ⟨h o (Nat.le_refl _) (by omega), ?_⟩
    rw [List.drop_drop, show o * P.cellsOf e + P.cellsOf e = (o + 1) * P.cellsOf e by rw [Nat.succ_mul]]
    exact segs_arr k (o + 1) (by rw [hl]; congr 1; omega) fun i h1 h2 => h i (by omega) (by omega)
theorem opens_array (hB : Bulk bulk) {k : Nat} {e : TypeId} (ht : P.underlying t = some (.array k e)) (hc : P.cellsOf t = k * P.cellsOf e) {α : Type} {C : α → List D} {G : α → Prop} (h : OpensL enc P w base spare held bulk B n (List.replicate k e) C G) :
    Opens enc P w base spare held bulk B (n + 1) t C G := fun fuel cs x hf hx hb => by
  obtain ⟨xs, m, rfl, rfl, hcl, hxl, hfl⟩ := DataW.trod_array ht hx
  simp only at hb
  have hs := segs_arr (enc := enc) (P := P) (w := w) (base := base) (spare := spare) (held := held) (bulk := bulk) (B := B) (fuel := m) (cs := cs) (e := e) k 0 (by rw [hcl, hc]; simp) fun i _ hi => by
    have hfi := hfl i (by omega)
    rw [lge (by omega)] at hfi
    exact ⟨_, hfi, Nat.le_trans (hB.part _ _ (List.mem_map.2 ⟨_, lgm (by omega), rfl⟩)) hb⟩
  rw [Nat.zero_mul, List.drop_zero] at hs
  exact h m cs (by omega) hs
theorem opens_u8 (ht : P.underlying t = some (.int .u8)) : Opens enc P w base spare held bulk B n t cU (fun _ => True) := fun fuel cs x _ hx _ => by
  obtain ⟨z, rfl, _, hw⟩ := DataW.trod_int ht hx
  refine ⟨UInt8.ofNat z.toNat, trivial, ?_, by simp [Value.oneCell']⟩
  have hz : 0 ≤ z ∧ z < 256 := by
    have h1 : IntKind.u8.min = 0 := by decide
    have h2 : IntKind.u8.max = 255 := by decide
    simp only [Lit.wf, Bool.and_eq_true, decide_eq_true_eq, h1, h2] at hw; omega
  have he : (((UInt8.ofNat z.toNat).toNat : Nat) : Int) = z := by simp; omega
  unfold cU; rw [he]; exact repL_one (.int .u8 z)
theorem opens_i8 (ht : P.underlying t = some (.int .i8)) : Opens enc P w base spare held bulk B n t (fun x : Int8 => [D.int .i8 x.toInt]) (fun _ => True) := fun fuel cs x _ hx _ => by
  obtain ⟨z, rfl, _, hw⟩ := DataW.trod_int ht hx
  refine ⟨Int8.ofInt z, trivial, ?_, by simp [Value.oneCell']⟩
  have hz : -128 ≤ z ∧ z < 128 := by
    have h1 : IntKind.i8.min = -128 := by decide
    have h2 : IntKind.i8.max = 127 := by decide
    simp only [Lit.wf, Bool.and_eq_true, decide_eq_true_eq, h1, h2] at hw; omega
  have he : (Int8.ofInt z).toInt = z := by rw [Int8.toInt_ofInt_of_le] <;> omega
  show RepL noM noRef noId w _ [D.int .i8 (Int8.ofInt z).toInt]
  rw [he]; exact repL_one (.int .i8 z)
theorem opens_u64 (ht : P.underlying t = some (.int .u64)) : Opens enc P w base spare held bulk B n t (fun x : UInt64 => [D.int .u64 (x.toNat : Int)]) (fun _ => True) := fun fuel cs x _ hx _ => by
  obtain ⟨z, rfl, _, hw⟩ := DataW.trod_int ht hx
  refine ⟨UInt64.ofNat z.toNat, trivial, ?_, by simp [Value.oneCell']⟩
  have hz : 0 ≤ z ∧ z < 18446744073709551616 := by
    have h1 : IntKind.u64.min = 0 := by decide
    have h2 : IntKind.u64.max = 18446744073709551615 := by decide
    simp only [Lit.wf, Bool.and_eq_true, decide_eq_true_eq, h1, h2] at hw; omega
  have he : (((UInt64.ofNat z.toNat).toNat : Nat) : Int) = z := by simp; omega
  show RepL noM noRef noId w _ [D.int .u64 (((UInt64.ofNat z.toNat).toNat : Nat) : Int)]
  rw [he]; exact repL_one (.int .u64 z)
end
section
variable {H : Type} {enc : TypeId × Value → H} {w : World} {base : Nat} {spare : Nat → Bool} {held : Bool} {bulk : DataW H → Nat} {B : Nat}
theorem op5 : ∀ n, Opens enc Tryz.prog w base spare held bulk B n 5 cU (fun _ => True) := fun n => opens_u8 Tryz.underlying5
theorem op270 : ∀ n, Opens enc Tryz.prog w base spare held bulk B n 270 (fun x : Int8 => [D.int .i8 x.toInt]) (fun _ => True) := fun n => opens_i8 Tryz.underlying270
theorem op157 : ∀ n, Opens enc Tryz.prog w base spare held bulk B n 157 (fun x : UInt64 => [D.int .u64 (x.toNat : Int)]) (fun _ => True) := fun n => opens_u64 Tryz.underlying157
theorem op149 (hB : Bulk bulk) : ∀ n, Opens enc Tryz.prog w base spare held bulk B n 149 cP (fun _ => True)
  | 0 => Opens.zero
  | n + 1 => (opens_array hB (k := 2) Tryz.underlying149 (by kernel_rfl) (opensL_cons (op5 n) (opensL_cons (op5 n) (opensL_nil)))).map (fun p => (p.1, p.2.1)) (fun p => rfl) (fun _ _ => trivial)
theorem op164 (hB : Bulk bulk) : ∀ n, Opens enc Tryz.prog w base spare held bulk B n 164 cT3 (fun _ => True)
  | 0 => Opens.zero
  | n + 1 => (opens_array hB (k := 3) Tryz.underlying164 (by kernel_rfl) (opensL_cons (op5 n) (opensL_cons (op5 n) (opensL_cons (op5 n) (opensL_nil))))).map (fun p => (p.1, p.2.1, p.2.2.1)) (fun p => rfl) (fun _ _ => trivial)
theorem op158 (hB : Bulk bulk) : ∀ n, Opens enc Tryz.prog w base spare held bulk B n 158 cU4 (fun _ => True)
  | 0 => Opens.zero
  | n + 1 => (opens_array hB (k := 4) Tryz.underlying158 (by kernel_rfl) (opensL_cons (op5 n) (opensL_cons (op5 n) (opensL_cons (op5 n) (opensL_cons (op5 n) (opensL_nil)))))).map (fun p => (p.1, p.2.1, p.2.2.1, p.2.2.2.1)) (fun p => rfl) (fun _ _ => trivial)
theorem op271 (hB : Bulk bulk) : ∀ n, Opens enc Tryz.prog w base spare held bulk B n 271 cT4 (fun _ => True)
  | 0 => Opens.zero
  | n + 1 => (opens_array hB (k := 4) Tryz.underlying271 (by kernel_rfl) (opensL_cons (op270 n) (opensL_cons (op270 n) (opensL_cons (op270 n) (opensL_cons (op270 n) (opensL_nil)))))).map (fun p => (p.1, p.2.1, p.2.2.1, p.2.2.2.1)) (fun p => rfl) (fun _ _ => trivial)
theorem op46 (hB : Bulk bulk) : ∀ n, Opens enc Tryz.prog w base spare held bulk B n 46 (fun l : List B2 => [D.list (l.map cP)]) (fun _ => True)
  | 0 => Opens.zero
  | n + 1 => (opens_slice hB Tryz.underlying46 (op149 hB n)).map id (fun _ => rfl) (fun _ _ => trivial)
theorem op48 (hB : Bulk bulk) : ∀ n, Opens enc Tryz.prog w base spare held bulk B n 48 (fun l : List B3 => [D.list (l.map cT3)]) (fun _ => True)
  | 0 => Opens.zero
  | n + 1 => (opens_slice hB Tryz.underlying48 (op164 hB n)).map id (fun _ => rfl) (fun _ _ => trivial)
theorem op151 (hB : Bulk bulk) : ∀ n, Opens enc Tryz.prog w base spare held bulk B n 151 (fun l : List UInt8 => [D.list (l.map cU)]) (fun _ => True)
  | 0 => Opens.zero
  | n + 1 => (opens_slice hB Tryz.underlying151 (op5 n)).map id (fun _ => rfl) (fun _ _ => trivial)
theorem op154 (hB : Bulk bulk) : ∀ n, Opens enc Tryz.prog w base spare held bulk B n 154 (fun l : List T4 => [D.list (l.map cT4)]) (fun _ => True)
  | 0 => Opens.zero
  | n + 1 => (opens_slice hB Tryz.underlying154 (op271 hB n)).map id (fun _ => rfl) (fun _ _ => trivial)
theorem op153 (hB : Bulk bulk) : ∀ n, Opens enc Tryz.prog w base spare held bulk B n 153 Dr5.c (fun _ => True)
  | 0 => Opens.zero
  | n + 1 => (opens_struct hB Tryz.underlying153 (by kernel_rfl) (opensL_cons (op151 hB n) (opensL_cons (op48 hB n) (opensL_nil)))).map (fun p => ⟨p.1, p.2.1⟩) (fun p => rfl) (fun _ _ => trivial)
theorem op156 (hB : Bulk bulk) : ∀ n, Opens enc Tryz.prog w base spare held bulk B n 156 Dr21.c (fun _ => True)
  | 0 => Opens.zero
  | n + 1 => (opens_struct hB Tryz.underlying156 (by kernel_rfl) (opensL_cons (op153 hB n) (opensL_cons (op48 hB n) (opensL_cons (op154 hB n) (opensL_nil))))).map (fun p => ⟨p.1, p.2.1, p.2.2.1⟩) (fun p => rfl) (fun _ _ => trivial)
theorem op160 (hB : Bulk bulk) : ∀ n, Opens enc Tryz.prog w base spare held bulk B n 160 Dr24.c (fun _ => True)
  | 0 => Opens.zero
  | n + 1 => (opens_struct hB Tryz.underlying160 (by kernel_rfl) (opensL_cons (op156 hB n) (opensL_cons (op157 n) (opensL_cons (op151 hB n) (opensL_cons (op48 hB n) (opensL_cons (op48 hB n) (opensL_cons (op4 n) (opensL_cons (op4 n) (opensL_cons (op158 hB n) (opensL_cons (op151 hB n) (opensL_nil))))))))))).map (fun p => ⟨p.1, p.2.1, p.2.2.1, p.2.2.2.1, p.2.2.2.2.1, p.2.2.2.2.2.1, p.2.2.2.2.2.2.1, p.2.2.2.2.2.2.2.1, p.2.2.2.2.2.2.2.2.1⟩) (fun p => rfl) (fun _ _ => trivial)
theorem op47 (hB : Bulk bulk) : ∀ n, Opens enc Tryz.prog w base spare held bulk B n 47 (fun l : List Dr24 => [D.list (l.map Dr24.c)]) (fun _ => True)
  | 0 => Opens.zero
  | n + 1 => (opens_slice hB Tryz.underlying47 (op160 hB n)).map id (fun _ => rfl) (fun _ _ => trivial)
theorem op50 (hB : Bulk bulk) : ∀ n, Opens enc Tryz.prog w base spare held bulk B n 50 Dr15.c (fun _ => True)
  | 0 => Opens.zero
  | n + 1 => (opens_struct hB Tryz.underlying50 (by kernel_rfl) (opensL_cons (op46 hB n) (opensL_cons (op48 hB n) (opensL_nil)))).map (fun p => ⟨p.1, p.2.1⟩) (fun p => rfl) (fun _ _ => trivial)
theorem op52 (hB : Bulk bulk) : ∀ n, Opens enc Tryz.prog w base spare held bulk B n 52 DrT.c (fun _ => True)
  | 0 => Opens.zero
  | n + 1 => (opens_struct hB Tryz.underlying52 (by kernel_rfl) (opensL_cons (op46 hB n) (opensL_cons (op46 hB n) (opensL_cons (op47 hB n) (opensL_cons (op50 hB n) (opensL_nil)))))).map (fun p => ⟨p.1, p.2.1, p.2.2.1, p.2.2.2.1⟩) (fun p => rfl) (fun _ _ => trivial)
end
end Go.Abs
end
