/- statistic.counted and what it calls. · What a proof of termi -/
import Derived.Test.YtjhccdolbhjmaaaGreatZgE
import Derived.Test.YtjhccdolbhjmaaaGreatZgP
import Derived.Test.YtjhccdolbhjmaaaGreatZgS
set_option linter.unusedVariables false
set_option linter.unusedSimpArgs false
section
set_option maxRecDepth 8000
set_option maxHeartbeats 2000000
open Go Go.Proofs
namespace Go.Abs
structure Cnt where
  type : Int
  from_ : Int
  to_ : Int
  num : Int
def Cnt.c (x : Cnt) : List D := [dI x.type, dI x.from_, dI x.to_, dI x.num]
attribute [go_sem] Cnt.c
theorem Cnt.cl (x : Cnt) : D.clL x.c = true := rfl
@[go_sem] theorem cnts_cl (l : List Cnt) : D.clLL (l.map Cnt.c) = true := clLL_map _ Cnt.cl l
def Cnt.small (x : Cnt) : Prop := (-1000000 ≤ x.type ∧ x.type ≤ 1000000) ∧ (-1000000 ≤ x.from_ ∧ x.from_ ≤ 1000000) ∧ (-1000000 ≤ x.to_ ∧ x.to_ ≤ 1000000) ∧ (1 ≤ x.num ∧ x.num ≤ 1000000)
def orF : List Int → Int
  | [] => 0
  | a :: l => if a ≠ 0 then a else orF l
theorem orF_step {l : List Int} {i : Nat} (h : i < l.length) : orF (l.drop i) = if l[i] ≠ 0 then l[i] else orF (l.drop (i + 1)) := by
  rw [List.drop_eq_getElem_cons h]; rfl
theorem cmp_Or (l : List Int) : Pure Tryz.prog 195 [dLI l] (dI (orF l)) := by
  refine Tz.pK ⟨fun _ => false, fun _ => []⟩ Tryz.func195 rfl (fun Q hQ => ?_)
  try simp [go_sem]
  repeat (first | intro _ | (refine ⟨obl, ?_⟩))
  obtain ⟨I0, hI0⟩ := mkI fun i e H => ((e 6 = dLI l) ∧ (e 7 = dI l.length) ∧ (e 3 = dI 0) ∧ (e 8 = dI i) ∧ (i ≤ l.length) ∧ (orF (l.drop i) = orF l))
  refine loopK I0 (fun i => l.length - i) (0) ((hI0 _ _ _).2 ⟨?_, ?_, ?_, ?_, (by first | assumption | omega | (simp [go_sem]; done) | (simp_all; done)), (by rfl)⟩) ?_
  iterate 4 (first | omega | (simp [go_sem] <;> omega))
  intro i e H hi0
  obtain ⟨q6_0, q7_0, q3_0, q8_0, hi, hO⟩ := (hI0 _ _ _).1 hi0
  have F0 := And.intro q6_0 (And.intro q7_0 (And.intro q3_0 q8_0))
  try simp [go_sem, F0]
  refine condQ_mk (fun h3 => ?_) (fun h3 => ?_)
  · try simp [go_sem] at h3
    have hst := hO
    rw [orF_step h3] at hst
    try simp [go_sem, F0, h3]
    repeat (first | intro _ | (refine ⟨obl, ?_⟩))
    refine condQ_mk (fun h5 => ?_) (fun h5 => ?_)
    ·try simp [go_sem] at h5
     rw [if_pos (by omega)] at hst
     try simp [go_sem, F0, h3]
     exact hQ _ _ (.inl (by simp [go_sem, F0, h3, ← hst]))
    ·try simp [go_sem] at h5
     rw [if_neg (by omega)] at hst
     try simp [go_sem, F0, h3]
     repeat (first | intro _ | (refine ⟨obl, ?_⟩))
     refine nextQ_mk (i + 1) (by omega) ((hI0 _ _ _).2 ⟨?_, ?_, ?_, ?_, (by first | assumption | omega | (simp [go_sem, F0, h3, h5]; done) | (simp_all <;> omega)), (by exact hst)⟩) <;> first | omega | (simp [go_sem, F0, h3] <;> omega)
  · try simp [go_sem] at h3
    rw [List.drop_eq_nil_of_le (by omega)] at hO
    try simp [go_sem, F0]
    exact hQ _ _ (.inl (by simp [go_sem, ← hO, orF]))
def cmpC (a b : Cnt) : Int := orF [a.type - b.type, a.from_ - b.from_, a.to_ - b.to_]
theorem statistic_compare (a b : Cnt) (ha : a.small) (hb : b.small) : Pure Tryz.prog 123 [.agg a.c, .agg b.c] (dI (cmpC a b)) := by
  obtain ⟨a1, a2, a3, a4⟩ := ha
  obtain ⟨b1, b2, b3, b4⟩ := hb
  refine Tz.pK ⟨fun _ => false, fun _ => []⟩ Tryz.func123 rfl (fun Q hQ => ?_)
  try simp [go_sem]
  repeat (first | intro _ | (refine ⟨obl, ?_⟩))
  refine cq0 (cmp_Or [a.type - b.type, a.from_ - b.from_, a.to_ - b.to_]) ?_
  try simp [go_sem]
  repeat (first | intro _ | (refine ⟨obl, ?_⟩))
  exact hQ _ _ (by simp [go_sem, cmpC] <;> first | omega | (rw [bei]; simp <;> omega) | (simp_all <;> omega))
def bsG (p : Nat → Bool) : Nat → Nat → Nat → Nat
  | 0, i, _ => i
  | m + 1, i, j => if i < j then (if p ((i + j) / 2) = true then bsG p m ((i + j) / 2 + 1) j else bsG p m i ((i + j) / 2)) else i
theorem bsG_stop {p : Nat → Bool} {m i j : Nat} (h : ¬ i < j) : bsG p m i j = i := by
  cases m with
  | zero => rfl
  | succ m => unfold bsG; rw [if_neg h]
def cntK (l : List Cnt) (x : Cnt) : Nat := bsG (fun h => match l[h]? with | some y => decide (cmpC y x < 0) | none => false) l.length 0 l.length
def cntB (l : List Cnt) (x : Cnt) : Bool := match l[cntK l x]? with | some y => decide (cmpC y x = 0) | none => false
theorem bsearch_cnt (a : D) (l : List Cnt) (ha : a = .list (l.map Cnt.c)) (x : Cnt) (hl : l.length ≤ 1000000) (hs : ∀ y ∈ l, y.small) (hx : x.small) : Pure Tryz.prog 122 [a, .agg x.c, .fn 123 []] (.tup [dI (cntK l x), .bool (cntB l x)]) := by
  subst ha
  refine Tz.pK ⟨fun _ => false, fun _ => []⟩ Tryz.func122 rfl (fun Q hQ => ?_)
  try simp [go_sem, fdiv2]
  repeat first | intro _ | refine ⟨obs, ?_⟩
  obtain ⟨I0, hI0⟩ := mkI fun m e H => (∃ i : Nat, ∃ j : Nat, (e 0 = .list (l.map Cnt.c)) ∧ (e 4 = .adr x.c) ∧ (e 2 = .fn 123 []) ∧ (e 8 = dI l.length) ∧ (e 9 = dI i) ∧ (e 10 = dI j) ∧ (i ≤ j) ∧ (j ≤ l.length) ∧ (j - i ≤ m) ∧ (bsG (fun h => match l[h]? with | some y => decide (cmpC y x < 0) | none => false) m i j = cntK l x))
  refine loopK I0 (fun m => m) (l.length) ((hI0 _ _ _).2 ⟨(0), (l.length), ?_, ?_, ?_, ?_, ?_, ?_, (by omega), (by omega), (by omega), (by rfl)⟩) ?_
  iterate 6 (first | omega | (simp [go_sem, fdiv2] <;> omega))
  intro m e H hi0
  obtain ⟨i, j, q0_0, q4_0, q2_0, q8_0, q9_0, q10_0, hj, hjl, hjm, hB⟩ := (hI0 _ _ _).1 hi0
  have F0 := And.intro q0_0 (And.intro q4_0 (And.intro q2_0 (And.intro q8_0 (And.intro q9_0 q10_0))))
  try simp [go_sem, fdiv2, F0]
  refine condQ_mk (fun h3 => ?_) (fun h3 => ?_)
  · try simp [go_sem] at h3
    have hk : (i + j) / 2 < l.length := by omega
    have htn : (((i : Int) + (j : Int)) / 2).toNat = (i + j) / 2 := by omega
    have hu := inR_u64 (show 0 ≤ (i : Int) + (j : Int) by omega) (show (i : Int) + (j : Int) ≤ 18446744073709551615 by omega)
    obtain ⟨m', hm'⟩ : ∃ m', m = m' + 1 := ⟨m - 1, by omega⟩
    rw [hm'] at hB
    unfold bsG at hB
    rw [if_pos (by omega), lge hk] at hB
    simp only [decide_eq_true_eq] at hB
    try simp [go_sem, fdiv2, F0, h3, htn, lge hk]
    repeat first | intro _ | refine ⟨obs, ?_⟩
    refine dcq0 ((statistic_compare l[(i + j) / 2] x (hs _ (lgm hk)) hx)) ?_
    try simp [go_sem, fdiv2, F0, h3, htn, lge hk]
    repeat first | intro _ | refine ⟨obs, ?_⟩
    refine condQ_mk (fun h5 => ?_) (fun h5 => ?_)
    ·try simp [go_sem] at h5
     rw [if_pos h5] at hB
     obtain ⟨i', hi'⟩ : ∃ i' : Nat, i' = (i + j) / 2 + 1 := ⟨_, rfl⟩
     obtain ⟨j', hj'⟩ : ∃ j' : Nat, j' = j := ⟨_, rfl⟩
     have hB' : bsG (fun h => match l[h]? with | some y => decide (cmpC y x < 0) | none => false) (m - 1) i' j' = cntK l x := by rw [hi', hj', show m - 1 = m' by omega]; exact hB
     try simp [go_sem, fdiv2, F0, h3, htn, lge hk]
     repeat first | intro _ | refine ⟨obs, ?_⟩
     refine nextQ_mk (m - 1) (by omega) ((hI0 _ _ _).2 ⟨(i'), (j'), ?_, ?_, ?_, ?_, ?_, ?_, (by omega), (by omega), (by omega), (by exact hB')⟩) <;> first | omega | (simp [go_sem, fdiv2, F0, h3, htn, lge hk] <;> omega)
    ·try simp [go_sem] at h5
     rw [if_neg (by omega)] at hB
     obtain ⟨i', hi'⟩ : ∃ i' : Nat, i' = i := ⟨_, rfl⟩
     obtain ⟨j', hj'⟩ : ∃ j' : Nat, j' = (i + j) / 2 := ⟨_, rfl⟩
     have hB' : bsG (fun h => match l[h]? with | some y => decide (cmpC y x < 0) | none => false) (m - 1) i' j' = cntK l x := by rw [hi', hj', show m - 1 = m' by omega]; exact hB
     try simp [go_sem, fdiv2, F0, h3, htn, lge hk]
     refine nextQ_mk (m - 1) (by omega) ((hI0 _ _ _).2 ⟨(i'), (j'), ?_, ?_, ?_, ?_, ?_, ?_, (by omega), (by omega), (by omega), (by exact hB')⟩) <;> first | omega | (simp [go_sem, fdiv2, F0, h3, htn, lge hk] <;> omega)
  · try simp [go_sem] at h3
    rw [bsG_stop (by omega)] at hB
    have hcB : ∀ h : i < l.length, cntB l x = decide (cmpC l[i] x = 0) := fun h => by unfold cntB; rw [← hB, lge h]
    have hcN : ¬ i < l.length → cntB l x = false := fun h => by unfold cntB; rw [← hB, List.getElem?_eq_none (by omega)]
    by_cases hlt : i < l.length
    ·skip
     try simp [go_sem, fdiv2, F0, hlt, lge hlt, hcB hlt, ← hB]
     repeat first | intro _ | refine ⟨obs, ?_⟩
     first | (refine dgcallQ_pure0 (fun hg => (by exact statistic_compare (l[i]'hlt) x (hs _ (lgm _)) hx)) (fun hg => by simp [go_sem]) ?_) | (refine dgcallQ_pure0 (r := .int .i64 0) (fun hg => absurd hg (by simp)) (fun hg => absurd hg (by simp)) ?_)
     try simp [go_sem, fdiv2, F0, hlt, lge hlt, hcB hlt, ← hB]
     repeat first | intro _ | refine ⟨obs, ?_⟩
     exact hQ _ _ (.inl (by simp [go_sem, fdiv2, F0, hlt, lge hlt, hcB hlt, ← hB]; rfl))
    ·skip
     try simp [go_sem, fdiv2, F0, hlt, List.getElem?_eq_none (Nat.le_of_not_lt hlt), hcN hlt, ← hB]
     repeat first | intro _ | refine ⟨obs, ?_⟩
     first | (refine dgcallQ_pure0 (fun hg => (by exact statistic_compare (l[i]'hlt) x (hs _ (lgm _)) hx)) (fun hg => by simp [go_sem]) ?_) | (refine dgcallQ_pure0 (r := .int .i64 0) (fun hg => absurd hg (by simp)) (fun hg => absurd hg (by simp)) ?_)
     try simp [go_sem, fdiv2, F0, hlt, List.getElem?_eq_none (Nat.le_of_not_lt hlt), hcN hlt, ← hB]
     repeat first | intro _ | refine ⟨obs, ?_⟩
     exact hQ _ _ (.inl (by simp [go_sem, fdiv2, F0, hlt, List.getElem?_eq_none (Nat.le_of_not_lt hlt), hcN hlt, ← hB]))
def insC (l : List Cnt) (k : Nat) (x : Cnt) : List Cnt := l.take k ++ x :: l.drop k
def cntF (l : List Cnt) (x : Cnt) : List Cnt := match cntB l x, l[cntK l x]? with
  | true, some y => l.set (cntK l x) { y with num := y.num + x.num }
  | _, _ => insC l (cntK l x) x
def InsOk (l : List Cnt) (k : Nat) (x : Cnt) : Prop := ∀ (G : AHeap) (id : Nat) (Q : D → AHeap → Prop), G.get id = some ⟨144, 4, l.map Cnt.c, false⟩ → id < G.next →
  (∀ id' H', id' < H'.next → H'.get id' = some ⟨144, 4, (insC l k x).map Cnt.c, false⟩ → Q (.own id' (l.length + 1)) H') → ACalls Tryz.prog 124 [.own id l.length, dI k, .list [x.c]] G Q
theorem insert_end (l : List Cnt) (hl : l.length ≤ 1000000) (x : Cnt) : InsOk l l.length x := by
  intro G id Q hg hid hQ
  refine acalls_of_sem Tryz.func124 rfl rfl (nlb rfl) ?_
  refine sem_seq (sem_awp (c := ⟨fun _ => false, fun _ => []⟩) Tz.mixed (by kernel_rfl) ?_)
  simp [go_sem]
  refine sem_seq (sem_slice (rid := 1) (l := [_, _]) (md := fun _ => false) rfl (fun o ho => ?_) rfl Tz.sl104 ?_)
  · simp at ho; rcases ho with rfl | rfl <;> rfl
  simp [go_sem]
  refine ⟨id, l.length, ⟨rfl, rfl⟩, _, hg, by simp, .i64, l.length, ⟨rfl, rfl⟩, by omega, by omega, ?_⟩
  refine sem_awp (c := ⟨fun _ => false, fun _ => []⟩) Tz.mixed (by kernel_rfl) ?_
  simp [go_sem, hg]
  intro _
  exact ⟨by omega, hQ id _ (by simpa [go_sem] using hid) (by simp [go_sem, insC, dI])⟩
theorem clone_cnt0 : Own Tryz.prog 121 [.nil] 144 4 [] := by
  refine Tz.oK ⟨fun t => t == 2 || t == 5, fun _ => []⟩ Tryz.func121 rfl (fun Q hQ => ?_)
  try simp [go_sem]
  exact hQ _ _ _ (by simp [go_sem] <;> first | omega | (rw [bei]; simp <;> omega) | (simp_all <;> omega)) (by simp [go_sem] <;> first | omega | (rw [bei]; simp <;> omega) | (simp_all <;> omega))
theorem clone_cntE : Own Tryz.prog 121 [.ne] 144 4 [] := by
  refine Tz.oK ⟨fun t => t == 2 || t == 5, fun _ => []⟩ Tryz.func121 rfl (fun Q hQ => ?_)
  try simp [go_sem]
  repeat (first | intro _ | (refine ⟨obl, ?_⟩))
  exact hQ _ _ _ (by simp [go_sem] <;> first | omega | (rw [bei]; simp <;> omega) | (simp_all <;> omega)) (by simp [go_sem] <;> first | omega | (rw [bei]; simp <;> omega) | (simp_all <;> omega))
theorem clone_cntC (l : List Cnt) (hl : l.length ≤ 1000000) (hne : l ≠ []) : Own Tryz.prog 121 [.list (l.map Cnt.c)] 144 4 (l.map Cnt.c) := by
  refine Tz.oK ⟨fun t => t == 2 || t == 5, fun _ => []⟩ Tryz.func121 rfl (fun Q hQ => ?_)
  try simp [go_sem, hne]
  repeat (first | intro _ | (refine ⟨obl, ?_⟩))
  exact hQ _ _ _ (by simp [go_sem, hne] <;> first | omega | (rw [bei]; simp <;> omega) | (simp_all <;> omega)) (by simp [go_sem, hne] <;> first | omega | (rw [bei]; simp <;> omega) | (simp_all <;> omega))
theorem clone_cnt (l : List Cnt) (hl : l.length ≤ 1000000) : Own Tryz.prog 121 [.list (l.map Cnt.c)] 144 4 (l.map Cnt.c) := by
  by_cases hne : l = []
  · subst hne; exact own_split clone_cnt0 clone_cntE
  · exact clone_cntC l hl hne
theorem cntB_some {l : List Cnt} {x : Cnt} (h : cntB l x = true) : ∃ hk : cntK l x < l.length, cmpC l[cntK l x] x = 0 := by
  unfold cntB at h
  by_cases hk : cntK l x < l.length
  · rw [lge hk] at h
    exact ⟨hk, by simpa using h⟩
  · rw [List.getElem?_eq_none (by omega)] at h; cases h
theorem statistic_counted (a : D) (l : List Cnt) (hl : l.length ≤ 1000) (ha : Own Tryz.prog 121 [a] 144 4 (l.map Cnt.c)) (hacl : a.cl = true) (hs : ∀ y ∈ l, y.small) (x : Cnt) (hx : x.small) (hi : cntB l x = false → InsOk l (cntK l x) x) :
    Own Tryz.prog 77 [a, .agg x.c] 144 4 ((cntF l x).map Cnt.c) := by
  refine Tz.oK ⟨fun t => t == 5, fun _ => []⟩ Tryz.func77 rfl (fun Q hQ => ?_)
  try simp [go_sem, hacl]
  refine callQ_own0 (ha) ((by first | rfl | (simp [go_sem, ← List.map_take, ← List.map_drop, hacl]; done))) ?_
  try simp [go_sem, hacl]
  refine callQ_pureF ((bsearch_cnt _ l rfl x (by omega) hs hx)) (by simp [rsvC, rsvP, cellsAt, go_sem, ← List.map_take, ← List.map_drop, hacl]) ((by first | rfl | (simp [go_sem, ← List.map_take, ← List.map_drop, hacl]; done))) ( rfl) ?_
  try simp [go_sem, hacl]
  repeat first | intro _ | refine ⟨obs, ?_⟩
  refine condQ_mk (fun h3 => ?_) (fun h3 => ?_)
  · try simp [go_sem] at h3
    try simp [go_sem, hacl]
    unfold callQ; refine hi h3 _ 0 _ (by simp [go_sem]) (by simp [go_sem]) (fun id' H' h1 h2 => ?_)
    have hF : cntF l x = insC l (cntK l x) x := by unfold cntF; rw [h3]
    try simp [go_sem, hacl]
    exact hQ _ _ _ (by rw [hF]; simp [insC]; omega) (by rw [hF]; exact h2)
  · try simp [go_sem] at h3
    obtain ⟨hk, hk0⟩ := cntB_some (show cntB l x = true by simpa using h3)
    have q1 := (hs _ (lgm hk)).2.2.2
    have q2 := hx.2.2.2
    have hF : cntF l x = l.set (cntK l x) { l[cntK l x] with num := l[cntK l x].num + x.num } := by unfold cntF; rw [lge hk, show cntB l x = true by simpa using h3]
    try simp [go_sem, hacl, lge hk, hk]
    repeat first | intro _ | refine ⟨obs, ?_⟩
    refine condQ_mk (fun h5 => ?_) (fun h5 => ?_)
    ·simp at h5; omega
    ·try simp [go_sem] at h5
     try simp [go_sem, hacl, lge hk, hk]
     repeat first | intro _ | refine ⟨obs, ?_⟩
     exact hQ _ _ _ (by rw [hF]; simp) (by rw [hF]; simp [go_sem, List.map_set, lge hk, dI])
end Go.Abs
end
section
open Go Go.Proofs
namespace Go.Abs
def remB (ls : List (List Int)) (m : List Bool) (w l : List Int) (i : Nat) : Bool := decide (0 ≤ l[i]?.getD 0) && lowM ls m w (l[i]?.getD 0).toNat && (decide (i = 0) || decide (l[i - 1]?.getD 0 < l[i]?.getD 0))
def rightB (ls : List (List Int)) (n : Nat) (m : List Bool) (s : Stage) : Bool :=
  decide (s.weights.length = n) && !decide (s.removed = []) && !(s.weights.any oddB) && (List.range s.removed.length).all (remB ls m s.weights s.removed) && okM ls m s.weights
def chkL (ls : List (List Int)) (n : Nat) : List Stage → List Bool → Bool
  | [], m => decide (cntM m = 0)
  | s :: l, m => rightB ls n m s && chkL ls n l (offM m s.removed)
def chkF (t : Types) (rs : List Rule) (st : List Stage) : Bool :=
  decide (effsE t rs = 0) && chkL (effsV t rs) (t.nodes.length + t.edges.length) st (List.replicate rs.length true)
theorem lowM_on {ls : List (List Int)} {m : List Bool} {w : List Int} {i : Nat} (h : lowM ls m w i = true) : m[i]? = some true := by
  unfold lowM at h
  rw [Bool.and_eq_true] at h
  have h1 := h.1
  cases hm : m[i]? with
  | none => rw [hm] at h1; simp at h1
  | some b => rw [hm] at h1; simp at h1; rw [h1]
theorem rightB_on {ls : List (List Int)} {n : Nat} {m : List Bool} {s : Stage} (h : rightB ls n m s = true) : s.weights.length = n ∧ s.removed ≠ [] ∧ (∀ x ∈ s.weights, 0 ≤ x ∧ x ≤ 1000) ∧ s.removed.Nodup ∧ (∀ r ∈ s.removed, 0 ≤ r ∧ m[r.toNat]? = some true) := by
  unfold rightB at h
  simp only [Bool.and_eq_true, decide_eq_true_eq, Bool.not_eq_true', decide_eq_false_iff_not] at h
  obtain ⟨⟨⟨⟨h1, h2⟩, h3⟩, h4⟩, h5⟩ := h
  rw [List.all_eq_true] at h4
  have hrem : ∀ i, (hi : i < s.removed.length) → 0 ≤ s.removed[i] ∧ lowM ls m s.weights s.removed[i].toNat = true ∧ (i = 0 ∨ s.removed[i - 1]?.getD 0 < s.removed[i]) := fun i hi => by
    have := h4 i (List.mem_range.2 hi)
    unfold remB at this
    rw [lge hi] at this
    simp only [Option.getD_some, Bool.and_eq_true, Bool.or_eq_true, decide_eq_true_eq] at this
    exact ⟨this.1.1, this.1.2, this.2⟩
  refine ⟨h1, h2, fun x hx => ?_, ?_, fun r hr => ?_⟩
  · have : oddB x = false := by
      cases ho : oddB x
      · rfl
      · rw [List.any_eq_true.2 ⟨x, hx, ho⟩] at h3; cases h3
    unfold oddB at this
    simp at this
    omega
  · have hlt : ∀ d i, (hd : i + d < s.removed.length) → 0 < d → s.removed[i]'(by omega) < s.removed[i + d] := by
      intro d
      induction d with
      | zero => intro i _ h; omega
      | succ d ih =>
        intro i hd _
        have h0 := (hrem (i + (d + 1)) hd).2.2
        rw [show i + (d + 1) - 1 = i + d by omega, lge (by omega)] at h0
        simp only [Option.getD_some] at h0
        have h1 := h0.resolve_left (by omega)
        rcases Nat.eq_zero_or_pos d with h | h
        · subst h; exact h1
        · have := ih i (by omega) h
          omega
    refine List.pairwise_iff_getElem.2 fun i j hi hj hij he => ?_
    have := hlt (j - i) i (by omega) (by omega)
    simp only [show i + (j - i) = j by omega] at this
    omega
  · obtain ⟨i, hi, rfl⟩ := List.getElem_of_mem hr
    exact ⟨(hrem i hi).1, lowM_on (hrem i hi).2.1⟩
end Go.Abs
end
section
set_option maxRecDepth 8000
set_option maxHeartbeats 2000000
open Go Go.Proofs
namespace Go.Abs
theorem range_all_succ (p : Nat → Bool) (i : Nat) : (List.range (i + 1)).all p = ((List.range i).all p && p i) := by
  rw [List.range_succ, List.all_append]; simp
end Go.Abs
end
section
set_option maxRecDepth 8000
set_option maxHeartbeats 4000000
open Go Go.Proofs
namespace Go.Abs
theorem mem_cnt (m : List Bool) : mem m true = !decide (cntM m = 0) := by
  rw [bei, mem_iff]
  unfold cntM
  rw [← List.count_pos_iff]
  simp only [Bool.not_eq_true', decide_eq_false_iff_not]
  omega
theorem counting_Check (t : Types) (ht : t.ok) (rs : List Rule) (hr : ∀ r ∈ rs, r.ok) (st : List Stage) : Pure Tryz.prog 13 [t.d, .list (rs.map Rule.c), .list (st.map Stage.c)] (.bool (chkF t rs st)) := by
  refine Tz.pK ⟨fun t => t == 12, fun _ => []⟩ Tryz.func13 rfl (fun Q hQ => ?_)
  try simp [go_sem, cntM_all]
  refine cq0 (counting_effects t ht rs hr) ?_
  try simp [go_sem, cntM_all]
  refine condQ_mk (fun h2 => ?_) (fun h2 => ?_)
  · try simp [go_sem] at h2
    have hR : chkF t rs st = false := by unfold chkF; rw [decide_eq_false h2]; rfl
    try simp [go_sem, cntM_all]
    exact hQ _ _ (.inl (by simp [go_sem, hR]))
  · try simp [go_sem] at h2
    have hv := valid_of (effsE_of h2).1
    have hN := hv.fewN
    have hE := hv.fewE
    have hV : effsV t rs = rs.map (effV t) := if_pos h2
    have hX0 := FX_of h2
    have hVl : (effsV t rs).length = rs.length := by rw [hV, List.length_map]
    have hlen6 := (effsE_of h2).2.1
    have hxl := hX0.xl
    have hxb := hX0.xb
    obtain ⟨ls, hls⟩ : ∃ ls, effsV t rs = ls := ⟨_, rfl⟩
    have hchk : chkF t rs st = chkL ls (t.nodes.length + t.edges.length) st (List.replicate rs.length true) := by unfold chkF; rw [decide_eq_true h2, hls]; rfl
    rw [hls] at hVl hxl hxb
    try simp [go_sem, cntM_all, hls]
    repeat first | intro _ | refine ⟨obs, ?_⟩
    obtain ⟨I0, hI0⟩ := mkI fun i e H => ((e 3 = .adr t.c) ∧ (e 1 = .list (rs.map Rule.c)) ∧ (e 2 = .list (st.map Stage.c)) ∧ (e 7 = .list (ls.map cL)) ∧ (e 9 = .own 0 rs.length) ∧ (e 30 = dI rs.length) ∧ (e 31 = dI i) ∧ (H.get 0 = some ⟨4, 1, (stepM rs.length i).map cB, false⟩) ∧ (0 < H.next) ∧ (i ≤ rs.length) ∧ ((stepM rs.length i).length = rs.length))
    refine loopK I0 (fun i => rs.length - i) (0) ((hI0 _ _ _).2 ⟨?_, ?_, ?_, ?_, ?_, ?_, ?_, (by (simp [go_sem, stepM_zero])), ?_, (by first | assumption | omega | (simp [go_sem, cntM_all, hls]; done) | (simp_all; done)), (by (exact stepM_len (Nat.zero_le _)))⟩) ?_
    iterate 8 (first | omega | (simp [go_sem, cntM_all, hls] <;> omega))
    intro i e H hi0
    obtain ⟨q3_0, q1_0, q2_0, q7_0, q9_0, q30_0, q31_0, g0_0, n0_0, hi, hsl⟩ := (hI0 _ _ _).1 hi0
    have x0 := frs n0_0
    have F0 := And.intro q3_0 (And.intro q1_0 (And.intro q2_0 (And.intro q7_0 (And.intro q9_0 (And.intro q30_0 (And.intro q31_0 x0))))))
    try simp [go_sem, cntM_all, hls, F0, g0_0, hsl]
    refine condQ_mk (fun h6 => ?_) (fun h6 => ?_)
    ·try simp [go_sem] at h6
     have hk : i < (stepM rs.length i).length := by rw [stepM_len (by omega)]; exact h6
     try simp [go_sem, cntM_all, hls, F0, g0_0, hsl, h6, lge hk, h6]
     repeat first | intro _ | refine ⟨obs, ?_⟩
     refine nextQ_mk (i + 1) (by omega) ((hI0 _ _ _).2 ⟨?_, ?_, ?_, ?_, ?_, ?_, ?_, (by (simp [go_sem, cntM_all, hls, F0, g0_0, hsl, h6, lge hk, h6, ← stepM_set h6, List.map_set])), ?_, (by first | assumption | omega | (simp [go_sem, cntM_all, hls, F0, g0_0, hsl, h6, lge hk, h6, h2]; done) | (simp_all <;> omega)), (by (exact stepM_len (by omega)))⟩) <;> first | omega | (simp [go_sem, cntM_all, hls, F0, g0_0, hsl, h6, lge hk, h6] <;> omega)
    ·try simp [go_sem] at h6
     have hie : i = rs.length := by omega
     subst hie
     rw [stepM_end] at g0_0
     try simp [go_sem, cntM_all, hls, F0, g0_0, hsl]
     repeat first | intro _ | refine ⟨obs, ?_⟩
     obtain ⟨I2, hI2⟩ := mkI fun q e H => (∃ m : List Bool, (e 3 = .adr t.c) ∧ (e 1 = .list (rs.map Rule.c)) ∧ (e 2 = .list (st.map Stage.c)) ∧ (e 7 = .list (ls.map cL)) ∧ (e 9 = .own 0 rs.length) ∧ (e 38 = .list (st.map Stage.c)) ∧ (e 39 = dI st.length) ∧ (e 40 = dI q) ∧ (H.get 0 = some ⟨4, 1, m.map cB, false⟩) ∧ (0 < H.next) ∧ (q ≤ st.length) ∧ (m.length = rs.length) ∧ (chkL ls (t.nodes.length + t.edges.length) (st.drop q) m = chkF t rs st))
     refine loopK I2 (fun q => st.length - q) (0) ((hI2 _ _ _).2 ⟨(List.replicate rs.length true), ?_, ?_, ?_, ?_, ?_, ?_, ?_, ?_, ?_, ?_, (by first | assumption | omega | (simp [go_sem, cntM_all, hls, F0, g0_0, hsl]; done) | (simp_all; done)), (by simp), (by (rw [hchk]; rfl))⟩) ?_
     iterate 10 (first | omega | (simp [go_sem, cntM_all, hls, F0, g0_0, hsl] <;> omega))
     intro q e H hi2
     obtain ⟨m, q3_2, q1_2, q2_2, q7_2, q9_2, q38_2, q39_2, q40_2, g0_2, n0_2, hq, hm, hF⟩ := (hI2 _ _ _).1 hi2
     have x0 := frs n0_2
     have F2 := And.intro q3_2 (And.intro q1_2 (And.intro q2_2 (And.intro q7_2 (And.intro q9_2 (And.intro q38_2 (And.intro q39_2 (And.intro q40_2 (And.intro g0_2 x0))))))))
     try simp [go_sem, cntM_all, hls, hsl, F2, hm]
     refine condQ_mk (fun h11 => ?_) (fun h11 => ?_)
     ·try simp [go_sem] at h11
      have hd : st.drop q = st[q] :: st.drop (q + 1) := List.drop_eq_getElem_cons h11
      rw [hd] at hF
      have hml : m.length = ls.length := by omega
      try simp [go_sem, cntM_all, hls, hsl, F2, hm, h11, h11, lge h11]
      repeat first | intro _ | refine ⟨obs, ?_⟩
      refine gcq0 (fun hg => (containsFunc_int st[q].weights 40 [] oddB rfl (by simp [go_sem]) (fun x _ => counting_Check1 x))) ?_
      try simp [go_sem, cntM_all, hls, hsl, F2, hm, h11, h11, lge h11]
      repeat first | intro _ | refine ⟨obs, ?_⟩
      refine condQ_mk (fun h13 => ?_) (fun h13 => ?_)
      ·try simp [go_sem] at h13
       have hR : rightB ls (t.nodes.length + t.edges.length) m st[q] = false := by
        unfold rightB
        rcases h13 with (h | h) | ⟨x, hx, ho⟩
        ·rw [decide_eq_false (show ¬ st[q].weights.length = t.nodes.length + t.edges.length by omega)]; rfl
        ·simp [h]
        ·rw [List.any_eq_true.2 ⟨x, hx, ho⟩]; simp
       have hC : chkF t rs st = false := by rw [← hF]; simp only [chkL, hR, Bool.false_and]
       try simp [go_sem, cntM_all, hls, hsl, F2, hm, h11, h11, lge h11]
       exact hQ _ _ (.inl (by simp [go_sem, hC]))
      ·try simp [go_sem] at h13
       have hsl2 : st[q].weights.length = t.nodes.length + t.edges.length := by have := h13.1.1; omega
       have hsr : st[q].removed ≠ [] := h13.1.2
       have ho : st[q].weights.any oddB = false := List.any_eq_false.2 (fun x hx => by rw [h13.2 x hx]; simp)
       have hwd : ∀ x ∈ st[q].weights, 0 ≤ x ∧ x ≤ 1000 := fun x hx => by have := List.any_eq_false.1 ho x hx; simp [oddB] at this; omega
       have hPO : ∀ l ∈ ls, ProdOk st[q].weights l := fun l hl' => ⟨by rw [hxl l hl']; omega, by omega, fun x hx => by have := hwd x hx; omega, hxb l hl'⟩
       try simp [go_sem, cntM_all, hls, hsl, F2, hm, h11, h11, lge h11]
       repeat first | intro _ | refine ⟨obs, ?_⟩
       obtain ⟨I4, hI4⟩ := mkI fun i e H => (∃ b : Nat, (e 3 = .adr t.c) ∧ (e 1 = .list (rs.map Rule.c)) ∧ (e 2 = .list (st.map Stage.c)) ∧ (e 7 = .list (ls.map cL)) ∧ (e 9 = .own 0 rs.length) ∧ (e 12 = .ptr b 1 0 0) ∧ (e 38 = .list (st.map Stage.c)) ∧ (e 39 = dI st.length) ∧ (e 40 = dI q) ∧ (e 67 = dLI st[q].removed) ∧ (e 68 = dI st[q].removed.length) ∧ (e 69 = dI i) ∧ (H.get 0 = some ⟨4, 1, m.map cB, false⟩) ∧ (0 < H.next) ∧ (H.get b = some ⟨33, 2, [st[q].c], false⟩) ∧ (b < H.next) ∧ (i ≤ st[q].removed.length) ∧ (b ≠ 0) ∧ ((List.range i).all (remB ls m st[q].weights st[q].removed) = true))
       refine loopK I4 (fun i => st[q].removed.length - i) (0) ((hI4 _ _ _).2 ⟨(H.next), ?_, ?_, ?_, ?_, ?_, ?_, ?_, ?_, ?_, ?_, ?_, ?_, ?_, ?_, ?_, ?_, (by first | assumption | omega | (simp [go_sem, cntM_all, hls, hsl, F2, hm, h11, h11, lge h11]; done) | (simp_all; done)), (by omega), (by rfl)⟩) ?_
       iterate 16 (first | omega | (simp [go_sem, cntM_all, hls, hsl, F2, hm, h11, h11, lge h11] <;> omega))
       intro i e H hi4
       obtain ⟨b, q3_4, q1_4, q2_4, q7_4, q9_4, q12_4, q38_4, q39_4, q40_4, q67_4, q68_4, q69_4, g0_4, n0_4, gb_4, nb_4, hi, hb0, hall⟩ := (hI4 _ _ _).1 hi4
       have x0 := frs n0_4
       have xb := frs nb_4
       have F4 := And.intro q3_4 (And.intro q1_4 (And.intro q2_4 (And.intro q7_4 (And.intro q9_4 (And.intro q12_4 (And.intro q38_4 (And.intro q39_4 (And.intro q40_4 (And.intro q67_4 (And.intro q68_4 (And.intro q69_4 (And.intro g0_4 (And.intro gb_4 x0)))))))))))))
       have di1 := nep (show 0 ≠ b by omega)
       try simp [go_sem, cntM_all, hls, hsl, hm, h11, h11, lge h11, F4, xb, Stage.c, di1]
       refine condQ_mk (fun h16 => ?_) (fun h16 => ?_)
       ·try simp [go_sem] at h16
        obtain ⟨kk, hkk⟩ : ∃ kk, st[q].removed[i] = kk := ⟨_, rfl⟩
        have htn : ((i : Int) - 1).toNat = i - 1 := by omega
        have hk1 : i - 1 < st[q].removed.length := by omega
        have hrem : remB ls m st[q].weights st[q].removed i = (decide (0 ≤ kk) && lowM ls m st[q].weights kk.toNat && (decide (i = 0) || decide (st[q].removed[i - 1] < kk))) := by
         unfold remB; rw [lge h16, lge hk1]; simp only [Option.getD_some, hkk]
        have hkA : 0 ≤ kk ∧ kk < rs.length → kk.toNat < ls.length := by omega
        have hkM : 0 ≤ kk ∧ kk < rs.length → kk.toNat < m.length := by omega
        have hT : kk < 0 → kk.toNat = 0 := by omega
        have hbad : ¬ (0 ≤ kk ∧ kk < rs.length) → chkF t rs st = false := fun h => by
         have hrf : remB ls m st[q].weights st[q].removed i = false := by
          rw [hrem, Bool.eq_false_iff]
          intro h0
          simp only [Bool.and_eq_true, decide_eq_true_eq] at h0
          have := (List.getElem?_eq_some_iff.1 (lowM_on h0.1.2)).1
          omega
         have ha : (List.range st[q].removed.length).all (remB ls m st[q].weights st[q].removed) = false := by
          rw [List.all_eq_false]
          exact ⟨i, List.mem_range.2 h16, by rw [hrf]; simp⟩
         have hR : rightB ls (t.nodes.length + t.edges.length) m st[q] = false := by unfold rightB; rw [ha]; simp
         rw [← hF]; simp only [chkL, hR, Bool.false_and]
        rcases (show (kk < 0 ∧ rs.length = 0) ∨ (kk < 0 ∧ 0 < rs.length) ∨ (0 ≤ kk ∧ (rs.length : Int) ≤ kk) ∨ (0 ≤ kk ∧ kk < rs.length) by omega) with hc | hc | hc | hc
        ·simp [go_sem, cntM_all, hls, hsl, hm, h11, h11, lge h11, F4, xb, Stage.c, di1, h16, lge h16, hkk, htn, lge hk1, h16, hk1, hc.1, hT hc.1, List.getElem?_eq_none (show m.length ≤ 0 by omega), List.getElem?_eq_none (show ls.length ≤ 0 by omega)]
         refine dgcallQ_pure0 (r := .int .i64 0) (fun hg => absurd hg (by simp)) (fun hg => absurd hg (by simp)) ?_
         simp [go_sem, cntM_all, hls, hsl, hm, h11, h11, lge h11, F4, xb, Stage.c, di1, h16, lge h16, hkk, htn, lge hk1, h16, hk1, hc.1, hT hc.1, List.getElem?_eq_none (show m.length ≤ 0 by omega), List.getElem?_eq_none (show ls.length ≤ 0 by omega)]
         exact hQ _ _ (by left; simp [go_sem, hbad (by omega)])
        ·simp [go_sem, cntM_all, hls, hsl, hm, h11, h11, lge h11, F4, xb, Stage.c, di1, h16, lge h16, hkk, htn, lge hk1, h16, hk1, hc.1, hT hc.1, lge (show 0 < m.length by omega), lge (show 0 < ls.length by omega)]
         refine dgcallQ_pure0 (r := .int .i64 0) (fun hg => absurd hg (by simp)) (fun hg => absurd hg (by simp)) ?_
         simp [go_sem, cntM_all, hls, hsl, hm, h11, h11, lge h11, F4, xb, Stage.c, di1, h16, lge h16, hkk, htn, lge hk1, h16, hk1, hc.1, hT hc.1, lge (show 0 < m.length by omega), lge (show 0 < ls.length by omega)]
         exact hQ _ _ (by left; simp [go_sem, hbad (by omega)])
        ·simp [go_sem, cntM_all, hls, hsl, hm, h11, h11, lge h11, F4, xb, Stage.c, di1, h16, lge h16, hkk, htn, lge hk1, h16, hk1, hc.2, Int.not_lt.2 hc.1, List.getElem?_eq_none (show m.length ≤ kk.toNat by omega), List.getElem?_eq_none (show ls.length ≤ kk.toNat by omega)]
         refine dgcallQ_pure0 (r := .int .i64 0) (fun hg => absurd hg (by simp)) (fun hg => absurd hg (by simp)) ?_
         simp [go_sem, cntM_all, hls, hsl, hm, h11, h11, lge h11, F4, xb, Stage.c, di1, h16, lge h16, hkk, htn, lge hk1, h16, hk1, hc.2, Int.not_lt.2 hc.1, List.getElem?_eq_none (show m.length ≤ kk.toNat by omega), List.getElem?_eq_none (show ls.length ≤ kk.toNat by omega)]
         exact hQ _ _ (by left; simp [go_sem, hbad (by omega)])
        try simp [go_sem, cntM_all, hls, hsl, hm, h11, h11, lge h11, F4, xb, Stage.c, di1, h16, lge h16, hkk, htn, lge hk1, h16, hk1, hc.2, Int.not_lt.2 hc.1, Int.not_le.2 hc.2, hc.1, lge (hkA hc), lge (hkM hc), hkA hc, hkM hc]
        repeat first | intro _ | refine ⟨obs, ?_⟩
        refine dgcq0 (fun hg => (by exact counting_product st[q].weights (ls[kk.toNat]'(hkA hc)) (hPO _ (lgm _)))) ?_
        try simp [go_sem, cntM_all, hls, hsl, hm, h11, h11, lge h11, F4, xb, Stage.c, di1, h16, lge h16, hkk, htn, lge hk1, h16, hk1, hc.2, Int.not_lt.2 hc.1, Int.not_le.2 hc.2, hc.1, lge (hkA hc), lge (hkM hc), hkA hc, hkM hc]
        repeat first | intro _ | refine ⟨obs, ?_⟩
        refine condQ_mk (fun h18 => ?_) (fun h18 => ?_)
        ·try simp [go_sem] at h18
         have hlow : lowM ls m st[q].weights kk.toNat = (m[kk.toNat]'(hkM hc) && decide (prodF st[q].weights (ls[kk.toNat]'(hkA hc)) < 0)) := by simp [lowM, lge (hkA hc), lge (hkM hc)]
         have hr18 : remB ls m st[q].weights st[q].removed i = false := by
          rw [hrem, hlow, Bool.eq_false_iff]
          intro h0
          simp only [Bool.and_eq_true, Bool.or_eq_true, decide_eq_true_eq] at h0
          rcases h18 with (h | h) | h
          ·rw [h] at h0; simp at h0
          ·omega
          ·omega
         have hR : rightB ls (t.nodes.length + t.edges.length) m st[q] = false := by
          have ha : (List.range st[q].removed.length).all (remB ls m st[q].weights st[q].removed) = false := by
           rw [List.all_eq_false]
           exact ⟨i, List.mem_range.2 h16, by rw [hr18]; simp⟩
          unfold rightB; rw [ha]; simp
         have hC : chkF t rs st = false := by rw [← hF]; simp only [chkL, hR, Bool.false_and]
         try simp [go_sem, cntM_all, hls, hsl, hm, h11, h11, lge h11, F4, xb, Stage.c, di1, h16, lge h16, hkk, htn, lge hk1, h16, hk1, hc.2, Int.not_lt.2 hc.1, Int.not_le.2 hc.2, hc.1, lge (hkA hc), lge (hkM hc), hkA hc, hkM hc]
         exact hQ _ _ (.inl (by simp [go_sem, hC]))
        ·try simp [go_sem] at h18
         have hlow : lowM ls m st[q].weights kk.toNat = (m[kk.toNat]'(hkM hc) && decide (prodF st[q].weights (ls[kk.toNat]'(hkA hc)) < 0)) := by simp [lowM, lge (hkA hc), lge (hkM hc)]
         have hr18 : remB ls m st[q].weights st[q].removed i = true := by
          rw [hrem, hlow, h18.1.1, decide_eq_true hc.1, decide_eq_true h18.2]
          rcases Nat.eq_zero_or_pos i with h0 | h0
          ·simp [h0]
          ·simp; exact .inr (h18.1.2 h0)
         try simp [go_sem, cntM_all, hls, hsl, hm, h11, h11, lge h11, F4, xb, Stage.c, di1, h16, lge h16, hkk, htn, lge hk1, h16, hk1, hc.2, Int.not_lt.2 hc.1, Int.not_le.2 hc.2, hc.1, lge (hkA hc), lge (hkM hc), hkA hc, hkM hc]
         repeat first | intro _ | refine ⟨obs, ?_⟩
         refine nextQ_mk (i + 1) (by omega) ((hI4 _ _ _).2 ⟨(b), ?_, ?_, ?_, ?_, ?_, ?_, ?_, ?_, ?_, ?_, ?_, ?_, ?_, ?_, ?_, ?_, (by first | assumption | omega | (simp [go_sem, cntM_all, hls, hsl, hm, h11, h11, lge h11, F4, xb, Stage.c, di1, h16, lge h16, hkk, htn, lge hk1, h16, hk1, hc.2, Int.not_lt.2 hc.1, Int.not_le.2 hc.2, hc.1, lge (hkA hc), lge (hkM hc), hkA hc, hkM hc, h2, h6, h13, h18]; done) | (simp_all <;> omega)), (by first | assumption | omega | (simp [go_sem, cntM_all, hls, hsl, hm, h11, h11, lge h11, F4, xb, Stage.c, di1, h16, lge h16, hkk, htn, lge hk1, h16, hk1, hc.2, Int.not_lt.2 hc.1, Int.not_le.2 hc.2, hc.1, lge (hkA hc), lge (hkM hc), hkA hc, hkM hc, h2, h6, h13, h18]; done) | (simp_all <;> omega)), (by (rw [range_all_succ, hall, hr18]; rfl))⟩) <;> first | omega | (simp [go_sem, cntM_all, hls, hsl, hm, h11, h11, lge h11, F4, xb, Stage.c, di1, h16, lge h16, hkk, htn, lge hk1, h16, hk1, hc.2, Int.not_lt.2 hc.1, Int.not_le.2 hc.2, hc.1, lge (hkA hc), lge (hkM hc), hkA hc, hkM hc] <;> omega)
       ·try simp [go_sem] at h16
        rw [show i = st[q].removed.length by omega] at hall
        try simp [go_sem, cntM_all, hls, hsl, hm, h11, h11, lge h11, F4, xb, Stage.c, di1]
        repeat first | intro _ | refine ⟨obs, ?_⟩
        obtain ⟨I6, hI6⟩ := mkI fun j e H => ((e 3 = .adr t.c) ∧ (e 1 = .list (rs.map Rule.c)) ∧ (e 2 = .list (st.map Stage.c)) ∧ (e 7 = .list (ls.map cL)) ∧ (e 9 = .own 0 rs.length) ∧ (e 12 = .ptr b 1 0 0) ∧ (e 38 = .list (st.map Stage.c)) ∧ (e 39 = dI st.length) ∧ (e 40 = dI q) ∧ (e 115 = dI rs.length) ∧ (e 116 = dI j) ∧ (H.get 0 = some ⟨4, 1, m.map cB, false⟩) ∧ (0 < H.next) ∧ (H.get b = some ⟨33, 2, [st[q].c], false⟩) ∧ (b < H.next) ∧ (j ≤ rs.length) ∧ ((List.range j).any (highM ls m st[q].weights) = false))
        refine loopK I6 (fun j => rs.length - j) (0) ((hI6 _ _ _).2 ⟨?_, ?_, ?_, ?_, ?_, ?_, ?_, ?_, ?_, ?_, ?_, ?_, ?_, ?_, ?_, (by first | assumption | omega | (simp [go_sem, cntM_all, hls, hsl, hm, h11, h11, lge h11, F4, xb, Stage.c, di1]; done) | (simp_all; done)), (by rfl)⟩) ?_
        iterate 15 (first | omega | (simp [go_sem, cntM_all, hls, hsl, hm, h11, h11, lge h11, F4, xb, Stage.c, di1] <;> omega))
        intro j e H hi6
        obtain ⟨q3_6, q1_6, q2_6, q7_6, q9_6, q12_6, q38_6, q39_6, q40_6, q115_6, q116_6, g0_6, n0_6, gb_6, nb_6, hj, hok⟩ := (hI6 _ _ _).1 hi6
        have x0 := frs n0_6
        have xb := frs nb_6
        have F6 := And.intro q3_6 (And.intro q1_6 (And.intro q2_6 (And.intro q7_6 (And.intro q9_6 (And.intro q12_6 (And.intro q38_6 (And.intro q39_6 (And.intro q40_6 (And.intro q115_6 (And.intro q116_6 (And.intro g0_6 (And.intro gb_6 x0))))))))))))
        try simp [go_sem, cntM_all, hls, hsl, hm, h11, h11, lge h11, Stage.c, di1, F6, xb, Stage.c]
        refine condQ_mk (fun h22 => ?_) (fun h22 => ?_)
        ·try simp [go_sem] at h22
         have hjl : j < ls.length := by omega
         have hjm : j < m.length := by omega
         have hhi0 : highM ls m st[q].weights j = (m[j] && decide (0 < prodF st[q].weights ls[j])) := by simp [highM, lge hjl, lge hjm]
         try simp [go_sem, cntM_all, hls, hsl, hm, h11, h11, lge h11, Stage.c, di1, F6, xb, Stage.c, h22, lge hjl, lge hjm, hjl, hjm]
         repeat first | intro _ | refine ⟨obs, ?_⟩
         refine dgcq0 (fun hg => (by exact counting_product st[q].weights ls[j] (hPO _ (lgm hjl)))) ?_
         try simp [go_sem, cntM_all, hls, hsl, hm, h11, h11, lge h11, Stage.c, di1, F6, xb, Stage.c, h22, lge hjl, lge hjm, hjl, hjm]
         repeat first | intro _ | refine ⟨obs, ?_⟩
         refine condQ_mk (fun h24 => ?_) (fun h24 => ?_)
         ·try simp [go_sem] at h24
          have hK : okM ls m st[q].weights = false := by
           have : (List.range ls.length).any (highM ls m st[q].weights) = true := List.any_eq_true.2 ⟨j, List.mem_range.2 hjl, by rw [hhi0]; simp; exact h24⟩
           unfold okM; rw [this]; rfl
          have hR : rightB ls (t.nodes.length + t.edges.length) m st[q] = false := by unfold rightB; rw [hK]; simp
          have hC : chkF t rs st = false := by rw [← hF]; simp only [chkL, hR, Bool.false_and]
          try simp [go_sem, cntM_all, hls, hsl, hm, h11, h11, lge h11, Stage.c, di1, F6, xb, Stage.c, h22, lge hjl, lge hjm, hjl, hjm]
          exact hQ _ _ (.inl (by simp [go_sem, hC]))
         ·try simp [go_sem] at h24
          have hhi : highM ls m st[q].weights j = false := by rw [hhi0]; simp; exact h24
          try simp [go_sem, cntM_all, hls, hsl, hm, h11, h11, lge h11, Stage.c, di1, F6, xb, Stage.c, h22, lge hjl, lge hjm, hjl, hjm]
          repeat first | intro _ | refine ⟨obs, ?_⟩
          refine nextQ_mk (j + 1) (by omega) ((hI6 _ _ _).2 ⟨?_, ?_, ?_, ?_, ?_, ?_, ?_, ?_, ?_, ?_, ?_, ?_, ?_, ?_, ?_, (by first | assumption | omega | (simp [go_sem, cntM_all, hls, hsl, hm, h11, h11, lge h11, Stage.c, di1, F6, xb, Stage.c, h22, lge hjl, lge hjm, hjl, hjm, h2, h6, h13, h16, h24]; done) | (simp_all <;> omega)), (by (rw [range_any_succ, hok, hhi]; rfl))⟩) <;> first | omega | (simp [go_sem, cntM_all, hls, hsl, hm, h11, h11, lge h11, Stage.c, di1, F6, xb, Stage.c, h22, lge hjl, lge hjm, hjl, hjm] <;> omega)
        ·try simp [go_sem] at h22
         have hok2 : okM ls m st[q].weights = true := by unfold okM; rw [show ls.length = j by omega, hok]; rfl
         have hR : rightB ls (t.nodes.length + t.edges.length) m st[q] = true := by unfold rightB; rw [decide_eq_true hsl2, decide_eq_false hsr, ho, hall, hok2]; rfl
         obtain ⟨r1, r2, r3, r4, r5⟩ := rightB_on hR
         try simp [go_sem, cntM_all, hls, hsl, hm, h11, h11, lge h11, Stage.c, di1, F6, xb, Stage.c]
         repeat first | intro _ | refine ⟨obs, ?_⟩
         obtain ⟨I8, hI8⟩ := mkI fun p e H => ((e 3 = .adr t.c) ∧ (e 1 = .list (rs.map Rule.c)) ∧ (e 2 = .list (st.map Stage.c)) ∧ (e 7 = .list (ls.map cL)) ∧ (e 9 = .own 0 rs.length) ∧ (e 38 = .list (st.map Stage.c)) ∧ (e 39 = dI st.length) ∧ (e 40 = dI q) ∧ (e 135 = dLI st[q].removed) ∧ (e 136 = dI st[q].removed.length) ∧ (e 137 = dI p) ∧ (H.get 0 = some ⟨4, 1, (offM m (st[q].removed.take p)).map cB, false⟩) ∧ (0 < H.next) ∧ (p ≤ st[q].removed.length))
         refine loopK I8 (fun p => st[q].removed.length - p) (0) ((hI8 _ _ _).2 ⟨?_, ?_, ?_, ?_, ?_, ?_, ?_, ?_, ?_, ?_, ?_, (by (simp [go_sem, cntM_all, hls, hsl, hm, h11, h11, lge h11, Stage.c, di1, F6, xb, Stage.c, offM])), ?_, (by first | assumption | omega | (simp [go_sem, cntM_all, hls, hsl, hm, h11, h11, lge h11, Stage.c, di1, F6, xb, Stage.c]; done) | (simp_all; done))⟩) ?_
         iterate 12 (first | omega | (simp [go_sem, cntM_all, hls, hsl, hm, h11, h11, lge h11, Stage.c, di1, F6, xb, Stage.c] <;> omega))
         intro p e H hi8
         obtain ⟨q3_8, q1_8, q2_8, q7_8, q9_8, q38_8, q39_8, q40_8, q135_8, q136_8, q137_8, g0_8, n0_8, hp⟩ := (hI8 _ _ _).1 hi8
         have x0 := frs n0_8
         have F8 := And.intro q3_8 (And.intro q1_8 (And.intro q2_8 (And.intro q7_8 (And.intro q9_8 (And.intro q38_8 (And.intro q39_8 (And.intro q40_8 (And.intro q135_8 (And.intro q136_8 (And.intro q137_8 x0))))))))))
         try simp [go_sem, cntM_all, hls, hsl, hm, h11, h11, lge h11, Stage.c, di1, Stage.c, F8, g0_8]
         refine condQ_mk (fun h28 => ?_) (fun h28 => ?_)
         ·try simp [go_sem] at h28
          have hrr := r5 _ (lgm h28)
          have hrm := (List.getElem?_eq_some_iff.1 hrr.2).1
          have hrl : st[q].removed[p] < rs.length := by omega
          have hrt : st[q].removed[p].toNat < rs.length := by omega
          have hofl : (offM m (st[q].removed.take p)).length = rs.length := by rw [offM_len]; exact hm
          have hset : offM m (st[q].removed.take (p + 1)) = (offM m (st[q].removed.take p)).set st[q].removed[p].toNat false := by rw [List.take_succ_eq_append_getElem h28, offM_append]
          try simp [go_sem, cntM_all, hls, hsl, hm, h11, h11, lge h11, Stage.c, di1, Stage.c, F8, g0_8, h28, lge h28, hset, hofl, hrl, hrt, h28]
          repeat first | intro _ | refine ⟨obs, ?_⟩
          refine nextQ_mk (p + 1) (by omega) ((hI8 _ _ _).2 ⟨?_, ?_, ?_, ?_, ?_, ?_, ?_, ?_, ?_, ?_, ?_, (by (simp [go_sem, cntM_all, hls, hsl, hm, h11, h11, lge h11, Stage.c, di1, Stage.c, F8, g0_8, h28, lge h28, hset, hofl, hrl, hrt, h28, List.map_set])), ?_, (by first | assumption | omega | (simp [go_sem, cntM_all, hls, hsl, hm, h11, h11, lge h11, Stage.c, di1, Stage.c, F8, g0_8, h28, lge h28, hset, hofl, hrl, hrt, h28, h2, h6, h13, h16, h22]; done) | (simp_all <;> omega))⟩) <;> first | omega | (simp [go_sem, cntM_all, hls, hsl, hm, h11, h11, lge h11, Stage.c, di1, Stage.c, F8, g0_8, h28, lge h28, hset, hofl, hrl, hrt, h28] <;> omega)
         ·try simp [go_sem] at h28
          rw [List.take_of_length_le (by omega)] at g0_8
          try simp [go_sem, cntM_all, hls, hsl, hm, h11, h11, lge h11, Stage.c, di1, Stage.c, F8, g0_8]
          repeat first | intro _ | refine ⟨obs, ?_⟩
          refine nextQ_mk (q + 1) (by omega) ((hI2 _ _ _).2 ⟨(offM m st[q].removed), ?_, ?_, ?_, ?_, ?_, ?_, ?_, ?_, ?_, ?_, (by first | assumption | omega | (simp [go_sem, cntM_all, hls, hsl, hm, h11, h11, lge h11, Stage.c, di1, Stage.c, F8, g0_8, h2, h6, h13, h16, h22, h28]; done) | (simp_all <;> omega)), (by (rw [offM_len]; exact hm)), (by (rw [← hF]; simp only [chkL, hR, Bool.true_and]))⟩) <;> first | omega | (simp [go_sem, cntM_all, hls, hsl, hm, h11, h11, lge h11, Stage.c, di1, Stage.c, F8, g0_8] <;> omega)
     ·try simp [go_sem] at h11
      rw [List.drop_eq_nil_of_le (by omega)] at hF
      have hE2 : chkF t rs st = decide (cntM m = 0) := by rw [← hF]; rfl
      try simp [go_sem, cntM_all, hls, hsl, F2, hm]
      repeat first | intro _ | refine ⟨obs, ?_⟩
      refine callQ_pureF (contains_bool m true) (by simp [rsvC, rsvP, cellsAt, go_sem, ← List.map_take, ← List.map_drop, cntM_all, hls, hsl, F2, hm]) ((by first | rfl | (simp [go_sem, ← List.map_take, ← List.map_drop, cntM_all, hls, hsl, F2, hm]; done))) ( rfl) ?_
      try simp [go_sem, cntM_all, hls, hsl, F2, hm]
      repeat first | intro _ | refine ⟨obs, ?_⟩
      exact hQ _ _ (.inl (by simp [go_sem, cntM_all, hls, hsl, F2, hm, hE2, mem_cnt]))
end Go.Abs
end
section
set_option maxRecDepth 8000
set_option maxHeartbeats 2000000
open Go Go.Proofs
namespace Go.Abs
def preC (xs : List Cnt) (i : Nat) : List Cnt := (xs.take i).foldl cntF []
theorem preC_succ {xs : List Cnt} {i : Nat} (h : i < xs.length) : preC xs (i + 1) = cntF (preC xs i) xs[i] := by
  unfold preC; rw [List.take_succ_eq_append_getElem h, List.foldl_append]; rfl
structure CntOk (xs : List Cnt) : Prop where
  sm : ∀ x ∈ xs, x.small
  pre : ∀ i, i ≤ xs.length → (preC xs i).length ≤ 1000 ∧ ∀ y ∈ preC xs i, y.small
  ins : ∀ i (h : i < xs.length), cntB (preC xs i) xs[i] = false → InsOk (preC xs i) (cntK (preC xs i) xs[i]) xs[i]
def cntG (g : Graph) : List Cnt := g.nodes.map fun n => ⟨n, 0, 0, 1⟩
theorem statistic_OfC (t : Types) (ht : t.ok) (g : Graph) (hT : typed18 t g = 0) (hE0 : g.edges = []) (ok : CntOk (cntG g)) (Q : D → AHeap → Prop) (hQ : ∀ c H', c.cl = true → c.cell = true → (∀ H, rsv1 H c = c) → Q (.tup [.agg [c, .nil], dI 0]) H') : ACalls Tryz.prog 44 [t.d, g.d] .emp Q := by
  refine (acalls_of_body (cfg := ⟨fun t => t == 4 || t == 7 || t == 1000000, fun _ => []⟩) Tz.mixed Tryz.func44 rfl rfl (nlb rfl) (by kernel_rfl) ?_)
  try simp [go_sem, hT]
  refine cq0 (statistic_typed t ht g) ?_
  try simp [go_sem, hT]
  repeat first | intro _ | refine ⟨obs, ?_⟩
  obtain ⟨I0, hI0⟩ := mkI fun i e H => (∃ c : D, (e 2 = .adr t.c) ∧ (e 3 = .adr g.c) ∧ (e 4 = .ptr 0 1 0 0) ∧ (e 7 = .ptr 1 1 0 0) ∧ (e 20 = dLI g.nodes) ∧ (e 21 = dI g.nodes.length) ∧ (e 22 = dI i) ∧ (H.get 0 = some ⟨106, 2, [[.nil, .nil]], false⟩) ∧ (0 < H.next) ∧ (H.get 1 = some ⟨106, 2, [[c, .nil]], false⟩) ∧ (1 < H.next) ∧ (i ≤ g.nodes.length) ∧ (c = .nil ∨ ∃ es, c = .list es) ∧ (c.cl = true ∧ Own Tryz.prog 121 [c] 144 4 ((preC (cntG g) i).map Cnt.c)))
  refine loopK I0 (fun i => g.nodes.length - i) (0) ((hI0 _ _ _).2 ⟨(.nil), ?_, ?_, ?_, ?_, ?_, ?_, ?_, ?_, ?_, ?_, ?_, (by first | assumption | omega | (simp [go_sem, hT]; done) | (simp_all; done)), (by exact .inl rfl), (by exact ⟨rfl, clone_cnt0⟩)⟩) ?_
  iterate 11 (first | omega | (simp [go_sem, hT] <;> omega))
  intro i e H hi0
  obtain ⟨c, q2_0, q3_0, q4_0, q7_0, q20_0, q21_0, q22_0, g0_0, n0_0, g1_0, n1_0, hi, hcv, hc⟩ := (hI0 _ _ _).1 hi0
  have x0 := frs n0_0
  have x1 := frs n1_0
  have F0 := And.intro q2_0 (And.intro q3_0 (And.intro q4_0 (And.intro q7_0 (And.intro q20_0 (And.intro q21_0 (And.intro q22_0 (And.intro g0_0 (And.intro g1_0 (And.intro x0 x1)))))))))
  have hcl : c.cl = true := hc.1
  have hr1 : ∀ H, rsv1 H c = c := fun H => by rcases hcv with rfl | ⟨es, rfl⟩ <;> rfl
  have hr2 : ids1 c = [] := by rcases hcv with rfl | ⟨es, rfl⟩ <;> rfl
  have hr3 : c.cell = true := by rcases hcv with rfl | ⟨es, rfl⟩ <;> rfl
  have hr4 := hr3
  unfold D.cell at hr4
  try simp [go_sem, hT, F0, hcl, hr1, hr2, hr3, hr4]
  refine condQ_mk (fun h6 => ?_) (fun h6 => ?_)
  · try simp [go_sem] at h6
    have hil : i < (cntG g).length := by unfold cntG; rw [List.length_map]; exact h6
    have hx : (cntG g)[i] = ⟨g.nodes[i], 0, 0, 1⟩ := by simp [cntG]
    have hps := preC_succ hil
    rw [hx] at hps
    try simp [go_sem, hT, F0, hcl, hr1, hr2, hr3, hr4, h6, h6, lge h6, hps]
    repeat first | intro _ | refine ⟨obs, ?_⟩
    refine callQ_own0 ((by have hq := statistic_counted c (preC (cntG g) i) (ok.pre i (Nat.le_of_lt hil)).1 hc.2 hc.1 (ok.pre i (Nat.le_of_lt hil)).2 ((cntG g)[i]'hil) (ok.sm _ (lgm _)) (ok.ins i hil); simp only [hx] at hq; exact hq)) ((by first | rfl | (simp [go_sem, ← List.map_take, ← List.map_drop, hT, F0, hcl, hr1, hr2, hr3, hr4, h6, h6, lge h6, hps]; done))) ?_
    try simp [go_sem, hT, F0, hcl, hr1, hr2, hr3, hr4, h6, h6, lge h6, hps]
    repeat first | intro _ | refine ⟨obs, ?_⟩
    refine nextQ_mk (i + 1) (by omega) ((hI0 _ _ _).2 ⟨(.list ((preC (cntG g) (i + 1)).map Cnt.c)), ?_, ?_, ?_, ?_, ?_, ?_, ?_, ?_, ?_, ?_, ?_, (by first | assumption | omega | (simp [go_sem, hT, F0, hcl, hr1, hr2, hr3, hr4, h6, h6, lge h6, hps]; done) | (simp_all <;> omega)), (by exact .inr ⟨_, rfl⟩), (by (exact ⟨by simp [go_sem], clone_cnt _ (Nat.le_trans (ok.pre (i + 1) hil).1 (by decide))⟩))⟩) <;> first | omega | (simp [go_sem, hT, F0, hcl, hr1, hr2, hr3, hr4, h6, h6, lge h6, hps] <;> omega)
  · try simp [go_sem] at h6
    try simp [go_sem, hT, F0, hcl, hr1, hr2, hr3, hr4]
    repeat first | intro _ | refine ⟨obs, ?_⟩
    obtain ⟨I2, hI2⟩ := mkI fun k e H => ((e 2 = .adr t.c) ∧ (e 3 = .adr g.c) ∧ (e 4 = .ptr 0 1 0 0) ∧ (e 7 = .ptr 1 1 0 0) ∧ (e 34 = .list (g.edges.map Edge.c)) ∧ (e 35 = dI g.edges.length) ∧ (e 36 = dI k) ∧ (H.get 0 = some ⟨106, 2, [[.nil, .nil]], false⟩) ∧ (0 < H.next) ∧ (H.get 1 = some ⟨106, 2, [[c, .nil]], false⟩) ∧ (1 < H.next))
    refine loopK I2 (fun k => g.edges.length - k) (0) ((hI2 _ _ _).2 ⟨?_, ?_, ?_, ?_, ?_, ?_, ?_, ?_, ?_, ?_, ?_⟩) ?_
    iterate 11 (first | omega | (simp [go_sem, hT, F0, hcl, hr1, hr2, hr3, hr4] <;> omega))
    intro k e H hi2
    obtain ⟨q2_2, q3_2, q4_2, q7_2, q34_2, q35_2, q36_2, g0_2, n0_2, g1_2, n1_2⟩ := (hI2 _ _ _).1 hi2
    have x0 := frs n0_2
    have x1 := frs n1_2
    have F2 := And.intro q2_2 (And.intro q3_2 (And.intro q4_2 (And.intro q7_2 (And.intro q34_2 (And.intro q35_2 (And.intro q36_2 (And.intro g0_2 (And.intro g1_2 (And.intro x0 x1)))))))))
    try simp [go_sem, hT, hcl, hr1, hr2, hr3, hr4, F2]
    refine condQ_mk (fun h11 => ?_) (fun h11 => ?_)
    ·rw [hE0] at h11; simp at h11
    ·try simp [go_sem] at h11
     try simp [go_sem, hT, hcl, hr1, hr2, hr3, hr4, F2]
     exact hQ c _ hcl hr3 hr1
theorem counting_RankA (t : Types) (ht : t.ok) (st : List Stage) (g : Graph) (hT : typed18 t g = 0) (hE0 : g.edges = []) (ok : CntOk (cntG g)) : Pure Tryz.prog 18 [t.d, .list (st.map Stage.c), g.d] (.tup [dLI (rankF t st g), dI (rankE t st g)]) := by
  have hSt : PureE Tryz.prog 44 [t.d, g.d] (fun r => ∃ c, c.cell = true ∧ r = .tup [.agg [c, .nil], dI 0]) :=
    pureE_of_calls (statistic_OfC t ht g hT hE0 ok _ fun c H' h1 h2 h3 => by
     have e : rsvT H' (.tup [.agg [c, .nil], dI 0]) = .tup [.agg [c, .nil], dI 0] := by simp [go_sem, h3, dI]
     rw [e]
     exact ⟨⟨c, h2, rfl⟩, by simp [go_sem, h1, dI]⟩)
  refine Tz.pK ⟨fun t => t == 8 || t == 10 || t == 12, fun _ => []⟩ Tryz.func18 rfl (fun Q hQ => ?_)
  try simp [go_sem]
  unfold callQ; refine ACalls.pureE hSt (by simp [go_sem]) (fun r hR hrc => ?_); obtain ⟨c, hr3, rfl⟩ := hR; have hr4 := hr3; unfold D.cell at hr4
  try simp [go_sem, hr3, hr4]
  repeat (first | intro _ | (refine ⟨obl, ?_⟩))
  refine condQ_mk (fun h4 => ?_) (fun h4 => ?_)
  · try simp [go_sem] at h4
    have hE : rankE t st g = 3 := by unfold rankE; rw [if_neg (by omega), if_pos (by omega)]
    try simp [go_sem, hr3, hr4]
    exact hQ _ _ (by first | (left; (simp [go_sem, rankF, hE]); done) | (right; (simp [go_sem, rankF, hE]); done))
  · try simp [go_sem] at h4
    have hE : rankE t st g = listE (fun s => weightE t s.weights g) st := by unfold rankE; rw [if_neg (by omega), if_neg (by omega)]
    try simp [go_sem, hr3, hr4]
    repeat (first | intro _ | (refine ⟨obl, ?_⟩))
    obtain ⟨I0, hI0⟩ := mkI fun i e H => (∃ xs : List Int, (e 3 = .adr t.c) ∧ (e 5 = .adr g.c) ∧ (e 1 = .list (st.map Stage.c)) ∧ (e 10 = .own 1 xs.length) ∧ (e 27 = .list (st.map Stage.c)) ∧ (e 28 = dI st.length) ∧ (e 29 = dI i) ∧ (H.get 1 = some ⟨3, 1, xs.map cI, false⟩) ∧ (1 < H.next) ∧ (i ≤ st.length) ∧ (xs = (st.take i).map (fun s => weightF t s.weights g)) ∧ (listE (fun s => weightE t s.weights g) (st.drop i) = rankE t st g))
    refine loopK I0 (fun i => st.length - i) (0) ((hI0 _ _ _).2 ⟨([]), ?_, ?_, ?_, ?_, ?_, ?_, ?_, ?_, ?_, (by first | assumption | omega | (simp [go_sem, hr3, hr4]; done) | (simp_all; done)), (by rfl), (by (exact hE.symm))⟩) ?_
    iterate 9 (first | omega | (simp [go_sem, hr3, hr4] <;> omega))
    intro i e H hi0
    obtain ⟨xs, q3_0, q5_0, q1_0, q10_0, q27_0, q28_0, q29_0, g1_0, n1_0, hi, hx, hL⟩ := (hI0 _ _ _).1 hi0
    have x1 := frs n1_0
    have F0 := And.intro q3_0 (And.intro q5_0 (And.intro q1_0 (And.intro q10_0 (And.intro q27_0 (And.intro q28_0 (And.intro q29_0 (And.intro g1_0 x1)))))))
    try simp [go_sem, hr3, hr4, F0]
    refine condQ_mk (fun h8 => ?_) (fun h8 => ?_)
    ·try simp [go_sem] at h8
     have hst := hL
     rw [listE_step _ h8] at hst
     have hxl : xs.length = i := by rw [hx]; simp; omega
     try simp [go_sem, hr3, hr4, F0, h8]
     repeat (first | intro _ | (refine ⟨obl, ?_⟩))
     refine cq0 (weight_Of t ht st[i].weights g) ?_
     try simp [go_sem, hr3, hr4, F0, h8]
     repeat (first | intro _ | (refine ⟨obl, ?_⟩))
     refine condQ_mk (fun h11 => ?_) (fun h11 => ?_)
     ·try simp [go_sem] at h11
      rw [if_pos (by omega)] at hst
      have hF : rankF t st g = [] := if_neg (by omega)
      try simp [go_sem, hr3, hr4, F0, h8]
      exact hQ _ _ (by first | (left; (simp [go_sem, hF, ← hst]); done) | (right; (simp [go_sem, hF, ← hst]); done))
     ·try simp [go_sem] at h11
      rw [if_neg (by omega)] at hst
      try simp [go_sem, hr3, hr4, F0, h8]
      repeat (first | intro _ | (refine ⟨obl, ?_⟩))
      refine nextQ_mk (i + 1) (by omega) ((hI0 _ _ _).2 ⟨(xs ++ [weightF t st[i].weights g]), ?_, ?_, ?_, ?_, ?_, ?_, ?_, ?_, ?_, (by first | assumption | omega | (simp [go_sem, hr3, hr4, F0, h8, h4, h11]; done) | (simp_all <;> omega)), (by (rw [map_take_succ _ h8, ← hx])), (by exact hst)⟩) <;> first | omega | (simp [go_sem, hr3, hr4, F0, h8] <;> omega)
    ·try simp [go_sem] at h8
     have hL0 : rankE t st g = 0 := by rw [← hL, listE_end _ (by omega)]
     have hX : xs = rankF t st g := by unfold rankF; rw [if_pos hL0, hx, map_take_end _ (by omega)]
     try simp [go_sem, hr3, hr4, F0]
     exact hQ _ _ (.inl (by simp [go_sem, hr3, hr4, F0, hL0, ← hX]))
theorem cntOk_awake : CntOk (cntG ⟨[0, 1, 1], []⟩) where
  sm x hx := by
    simp [cntG] at hx
    rcases hx with rfl | rfl <;> simp [Cnt.small]
  pre i hi := by
    have h : ∀ j, j ≤ 3 → (preC (cntG ⟨[0, 1, 1], []⟩) j).length ≤ 1000 ∧ ∀ y ∈ preC (cntG ⟨[0, 1, 1], []⟩) j, y.small := by
     intro j hj
     have e0 : preC (cntG ⟨[0, 1, 1], []⟩) 0 = [] := rfl
     have e1 : preC (cntG ⟨[0, 1, 1], []⟩) 1 = [⟨0, 0, 0, 1⟩] := by rfl
     have e2 : preC (cntG ⟨[0, 1, 1], []⟩) 2 = [⟨0, 0, 0, 1⟩, ⟨1, 0, 0, 1⟩] := by rfl
     have e3 : preC (cntG ⟨[0, 1, 1], []⟩) 3 = [⟨0, 0, 0, 1⟩, ⟨1, 0, 0, 2⟩] := by rfl
     rcases (show j = 0 ∨ j = 1 ∨ j = 2 ∨ j = 3 by omega) with rfl | rfl | rfl | rfl
     ·rw [e0]; simp
     ·rw [e1]; simp [Cnt.small]
     ·rw [e2]; simp [Cnt.small]
     ·rw [e3]; simp [Cnt.small]
    exact h i hi
  ins i hi hb := by
    have h : i < 3 := hi
    rcases (show i = 0 ∨ i = 1 ∨ i = 2 by omega) with rfl | rfl | rfl
    ·exact insert_end [] (by simp) _
    ·exact insert_end [⟨0, 0, 0, 1⟩] (by simp) _
    ·have hb' : cntB [⟨0, 0, 0, 1⟩, ⟨1, 0, 0, 1⟩] ⟨1, 0, 0, 1⟩ = false := hb
     exact absurd hb' (by decide)
theorem counting_Rank_awake (ht : twoT.ok) : Pure Tryz.prog 18 [twoT.d, .list ([(⟨[3, 1], [0, 1]⟩ : Stage)].map Stage.c), Graph.d ⟨[0, 1, 1], []⟩] (.tup [dLI (rankF twoT [⟨[3, 1], [0, 1]⟩] ⟨[0, 1, 1], []⟩), dI (rankE twoT [⟨[3, 1], [0, 1]⟩] ⟨[0, 1, 1], []⟩)]) :=
  counting_RankA twoT ht [⟨[3, 1], [0, 1]⟩] ⟨[0, 1, 1], []⟩ (by decide +kernel) rfl cntOk_awake
end Go.Abs
end
section
set_option maxRecDepth 8000
set_option maxHeartbeats 400000
open Go Go.Proofs
namespace Go.Abs
theorem ACalls.nz {P : Program} {f : FuncId} {args args' : List D} {H : AHeap} {Q : D → AHeap → Prop} (ha : args.map nzA = args') (h : ACalls P f args' H Q) : ACalls P f args H Q := by
  subst ha
  refine ⟨h.1, fun M0 σ w vals hR hv => h.2 M0 σ w vals hR ⟨by simpa using hv.len, fun j u d hu hd => ?_⟩⟩
  rw [List.getElem?_map, Option.map_eq_some_iff] at hd
  obtain ⟨y, hy, rfl⟩ := hd
  exact nzA_rep (hv.rep j u y hu hy)
theorem twoT_few : fewT twoT = true := by decide +kernel
theorem two_few : fewRs [splitR, dropR] = true := by decide +kernel
theorem awakeS : stV twoT [splitR, dropR] = [⟨[3, 1], [0, 1]⟩] := by decide +kernel
theorem awakeF : findE twoT [splitR, dropR] = 0 := by decide +kernel
theorem awakeK : rankE twoT [⟨[3, 1], [0, 1]⟩] ⟨[0, 1, 1], []⟩ = 0 := by decide +kernel
theorem awakeV : rankF twoT [⟨[3, 1], [0, 1]⟩] ⟨[0, 1, 1], []⟩ = [5] := by decide +kernel
theorem awakeC : chkF twoT [splitR, dropR] [⟨[3, 1], [0, 1]⟩] = true := by decide +kernel
theorem law41_awake : Pure Tryz.prog 9 [] (.bool true) := by
  have ht := fewT_ok twoT_few
  have hr := (fewRs_ok two_few).2
  refine Tz.pK ⟨fun _ => false, fun _ => []⟩ Tryz.func9 rfl (fun Q hQ => ?_)
  try simp [go_sem, awakeS, awakeF, awakeK, awakeV, awakeC]
  refine cq0 (law41_two) ?_
  try simp [go_sem, awakeS, awakeF, awakeK, awakeV, awakeC]
  refine cq0 (law41_rules) ?_
  try simp [go_sem, awakeS, awakeF, awakeK, awakeV, awakeC]
  refine cq0 (counting_Find twoT ht [splitR, dropR] hr) ?_
  try simp [go_sem, awakeS, awakeF, awakeK, awakeV, awakeC]
  refine cq0 (law41_two) ?_
  try simp [go_sem, awakeS, awakeF, awakeK, awakeV, awakeC]
  unfold callQ; refine ACalls.nz (args' := [twoT.d, .list ([(⟨[3, 1], [0, 1]⟩ : Stage)].map Stage.c), Graph.d ⟨[0, 1, 1], []⟩]) (by simp [go_sem, twoT, NodeTy.c, Stage.c, Types.d, Types.c, Graph.d, Graph.c, dLI, dI, cI, dLS]) (ACalls.pure0 (counting_Rank_awake ht) (by simp [go_sem]) ?_)
  try simp [go_sem, awakeS, awakeF, awakeK, awakeV, awakeC]
  repeat (first | intro _ | (refine ⟨obl, ?_⟩))
  refine gcq0 (fun hg => ref41_SameStages [⟨[3, 1], [0, 1]⟩] [⟨[3, 1], [0, 1]⟩]) ?_
  try simp [go_sem, awakeS, awakeF, awakeK, awakeV, awakeC]
  repeat (first | intro _ | (refine ⟨obl, ?_⟩))
  refine gcq0 (fun hg => equal_int [5] [5]) ?_
  try simp [go_sem, awakeS, awakeF, awakeK, awakeV, awakeC]
  repeat (first | intro _ | (refine ⟨obl, ?_⟩))
  refine gcq0 (fun hg => law41_two) ?_
  try simp [go_sem, awakeS, awakeF, awakeK, awakeV, awakeC]
  repeat (first | intro _ | (refine ⟨obl, ?_⟩))
  refine gcq0 (fun hg => law41_rules) ?_
  try simp [go_sem, awakeS, awakeF, awakeK, awakeV, awakeC]
  repeat (first | intro _ | (refine ⟨obl, ?_⟩))
  refine gcq0 (fun hg => counting_Check twoT ht [splitR, dropR] hr [⟨[3, 1], [0, 1]⟩]) ?_
  try simp [go_sem, awakeS, awakeF, awakeK, awakeV, awakeC]
  repeat (first | intro _ | (refine ⟨obl, ?_⟩))
  exact hQ _ _ (by simp [go_sem, awakeS, awakeF, awakeK, awakeV, awakeC] <;> first | omega | (rw [bei]; simp <;> omega) | (simp_all <;> omega))
theorem light_few {t : Types} {rs : List Rule} (h : lightB t rs = true) : fewT t = true ∧ fewRs rs = true := by
  unfold lightB at h
  cases h1 : fewT t <;> cases h2 : fewRs rs <;> simp [h1, h2] at h ⊢
end Go.Abs
end
section
set_option maxRecDepth 8000
set_option maxHeartbeats 400000
open Go Go.Proofs
namespace Go.Abs
theorem w_seqN (P : Program) (c : Cfg) (Q : Exit → Env → AHeap → Prop) (e : Env) (H : AHeap) (a b : Code) : AWp P c (.seq a b) Q e H = AWp P c a (thenQ (AWp P c b Q) Q) e H := Eq.trans (w_seq P c Q e H a b) rfl
end Go.Abs
end
section
open Go Go.Proofs
namespace Go.Abs
end Go.Abs
end
section
set_option maxRecDepth 8000
set_option maxHeartbeats 1000000
open Go Go.Proofs
namespace Go.Abs
end Go.Abs
end
section
set_option maxRecDepth 8000
set_option maxHeartbeats 1000000
open Go Go.Proofs
namespace Go.Abs
theorem ref39_total (l : List Int) (hl : l.length ≤ 1000) (hd : ∀ x ∈ l, 0 ≤ x ∧ x ≤ 6) : Pure Tryz.prog 57 [dLI l] (dI l.sum) := by
  refine Tz.pK ⟨fun _ => false, fun _ => []⟩ Tryz.func57 rfl (fun Q hQ => ?_)
  try simp [go_sem]
  obtain ⟨I0, hI0⟩ := mkI fun i e H => (∃ s : Int, (e 0 = dLI l) ∧ (e 3 = dI s) ∧ (e 4 = dI i) ∧ (i ≤ l.length) ∧ (s = (l.take i).sum) ∧ (0 ≤ s ∧ s ≤ 6 * i))
  refine loopK I0 (fun i => l.length - i) (0) ((hI0 _ _ _).2 ⟨(0), ?_, ?_, ?_, (by first | assumption | omega | (simp [go_sem]; done) | (simp_all; done)), (by rfl), (by simp)⟩) ?_
  iterate 3 (first | omega | (simp [go_sem] <;> omega))
  intro i e H hi0
  obtain ⟨s, q0_0, q3_0, q4_0, hi, hs, hb⟩ := (hI0 _ _ _).1 hi0
  have F0 := And.intro q0_0 (And.intro q3_0 q4_0)
  try simp [go_sem, F0]
  repeat (first | intro _ | (refine ⟨obl, ?_⟩))
  refine condQ_mk (fun h3 => ?_) (fun h3 => ?_)
  · try simp [go_sem] at h3
    have hx := hd _ (lgm h3)
    try simp [go_sem, F0, h3]
    repeat (first | intro _ | (refine ⟨obl, ?_⟩))
    refine nextQ_mk (i + 1) (by omega) ((hI0 _ _ _).2 ⟨(s + l[i]), ?_, ?_, ?_, (by first | assumption | omega | (simp [go_sem, F0, h3]; done) | (simp_all <;> omega)), (by (rw [List.take_succ_eq_append_getElem h3, List.sum_append, ← hs]; simp)), (by omega)⟩) <;> first | omega | (simp [go_sem, F0, h3] <;> omega)
  · try simp [go_sem] at h3
    rw [List.take_of_length_le (by omega)] at hs
    try simp [go_sem, F0]
    exact hQ _ _ (.inl (by simp [go_sem, F0, hs]))
theorem ref39_lowers (w : List Int) (xs : List (List Int)) (hw : ∀ l ∈ xs, ProdOk w l) : Pure Tryz.prog 58 [dLI w, .list (xs.map cL)] (.bool (xs.all fun x => decide (prodF w x ≤ -1))) := by
  refine Tz.pK ⟨fun _ => false, fun _ => []⟩ Tryz.func58 rfl (fun Q hQ => ?_)
  try simp [go_sem]
  obtain ⟨I0, hI0⟩ := mkI fun i e H => ((e 0 = dLI w) ∧ (e 1 = .list (xs.map cL)) ∧ (e 5 = dI i) ∧ (i ≤ xs.length) ∧ ((xs.take i).all (fun x => decide (prodF w x ≤ -1)) = true))
  refine loopK I0 (fun i => xs.length - i) (0) ((hI0 _ _ _).2 ⟨?_, ?_, ?_, (by first | assumption | omega | (simp [go_sem]; done) | (simp_all; done)), (by rfl)⟩) ?_
  iterate 3 (first | omega | (simp [go_sem] <;> omega))
  intro i e H hi0
  obtain ⟨q0_0, q1_0, q5_0, hi, ha⟩ := (hI0 _ _ _).1 hi0
  have F0 := And.intro q0_0 (And.intro q1_0 q5_0)
  try simp [go_sem, F0]
  repeat (first | intro _ | (refine ⟨obl, ?_⟩))
  refine condQ_mk (fun h2 => ?_) (fun h2 => ?_)
  · try simp [go_sem] at h2
    try simp [go_sem, F0, h2, lge h2, cL]
    repeat (first | intro _ | (refine ⟨obl, ?_⟩))
    refine cq0 (ref39_Product w xs[i] (hw _ (lgm h2))) ?_
    try simp [go_sem, F0, h2, lge h2, cL]
    repeat (first | intro _ | (refine ⟨obl, ?_⟩))
    refine condQ_mk (fun h4 => ?_) (fun h4 => ?_)
    ·try simp [go_sem] at h4
     try simp [go_sem, F0, h2, lge h2, cL]
     have hF : (xs.all fun x => decide (prodF w x ≤ -1)) = false := by
      rw [Bool.eq_false_iff]; intro h
      have := of_decide_eq_true (List.all_eq_true.1 h _ (lgm h2)); omega
     exact hQ _ _ (.inl (by simp [go_sem, hF]))
    ·try simp [go_sem] at h4
     try simp [go_sem, F0, h2, lge h2, cL]
     repeat (first | intro _ | (refine ⟨obl, ?_⟩))
     refine nextQ_mk (i + 1) (by omega) ((hI0 _ _ _).2 ⟨?_, ?_, ?_, (by first | assumption | omega | (simp [go_sem, F0, h2, lge h2, cL, h4]; done) | (simp_all <;> omega)), (by (rw [all_take_succ _ _ h2, ha]; simp; omega))⟩) <;> first | omega | (simp [go_sem, F0, h2, lge h2, cL] <;> omega)
  · try simp [go_sem] at h2
    have hF : (xs.all fun x => decide (prodF w x ≤ -1)) = true := by rw [List.take_of_length_le (by omega)] at ha; exact ha
    try simp [go_sem, F0]
    exact hQ _ _ (.inl (by simp [go_sem, hF]))
def narF (l tch : List Int) (k : Nat) : List Int := (List.range k).map fun i => l[(tch[i]?.getD 0).toNat]?.getD 0
theorem narF_succ (l tch : List Int) (k : Nat) : narF l tch (k + 1) = narF l tch k ++ [l[(tch[k]?.getD 0).toNat]?.getD 0] := by simp [narF, List.range_succ]
theorem ref39_narrow (l tch : List Int) (htb : ∀ v ∈ tch, 0 ≤ v ∧ v < l.length) (hfew : tch.length ≤ 1000) : Pure Tryz.prog 55 [dLI l, dLI tch] (dLI (narF l tch tch.length)) := by
  refine Tz.pK ⟨fun t => t == 5, fun _ => []⟩ Tryz.func55 rfl (fun Q hQ => ?_)
  try simp [go_sem]
  obtain ⟨I0, hI0⟩ := mkI fun i e H => ((e 0 = dLI l) ∧ (e 1 = dLI tch) ∧ (e 5 = .own 0 i) ∧ (e 6 = dI i) ∧ (H.get 0 = some ⟨3, 1, (narF l tch i).map cI, false⟩) ∧ (0 < H.next) ∧ (i ≤ tch.length) ∧ ((narF l tch i).length = i))
  refine loopK I0 (fun i => tch.length - i) (0) ((hI0 _ _ _).2 ⟨?_, ?_, ?_, ?_, (by rfl), ?_, (by first | assumption | omega | (simp [go_sem]; done) | (simp_all; done)), (by rfl)⟩) ?_
  iterate 5 (first | omega | (simp [go_sem] <;> omega))
  intro i e H hi0
  obtain ⟨q0_0, q1_0, q5_0, q6_0, g0_0, n0_0, hi, hl⟩ := (hI0 _ _ _).1 hi0
  have x0 := frs n0_0
  have F0 := And.intro q0_0 (And.intro q1_0 (And.intro q5_0 (And.intro q6_0 (And.intro g0_0 x0))))
  try simp [go_sem, F0]
  repeat (first | intro _ | (refine ⟨obl, ?_⟩))
  refine condQ_mk (fun h3 => ?_) (fun h3 => ?_)
  · try simp [go_sem] at h3
    have htv := htb _ (lgm h3)
    have hv : tch[i].toNat < l.length := by omega
    try simp [go_sem, F0, h3, lge h3, lge hv, hl]
    repeat (first | intro _ | (refine ⟨obl, ?_⟩))
    refine nextQ_mk (i + 1) (by omega) ((hI0 _ _ _).2 ⟨?_, ?_, ?_, ?_, (by (simp [go_sem, F0, h3, lge h3, lge hv, hl, narF_succ])), ?_, (by first | assumption | omega | (simp [go_sem, F0, h3, lge h3, lge hv, hl]; done) | (simp_all <;> omega)), (by (simp [narF]))⟩) <;> first | omega | (simp [go_sem, F0, h3, lge h3, lge hv, hl] <;> omega)
  · try simp [go_sem] at h3
    have hI : i = tch.length := by omega
    subst hI
    try simp [go_sem, F0, hl]
    exact hQ _ _ (by simp [go_sem, F0, hl, h3] <;> first | omega | (rw [bei]; simp <;> omega) | (simp_all <;> omega))
def sprF (n : Nat) (tch w : List Int) (k : Nat) : List Int := (List.range k).foldl (fun acc i => acc.set (tch[i]?.getD 0).toNat (w[i]?.getD 0)) (List.replicate n 0)
theorem sprF_succ (n : Nat) (tch w : List Int) (k : Nat) : sprF n tch w (k + 1) = (sprF n tch w k).set (tch[k]?.getD 0).toNat (w[k]?.getD 0) := by simp [sprF, List.range_succ]
theorem sprF_len (n : Nat) (tch w : List Int) : ∀ k, (sprF n tch w k).length = n
  | 0 => by simp [sprF]
  | k + 1 => by rw [sprF_succ, List.length_set, sprF_len n tch w k]
theorem ref39_spread (n : Nat) (hn : n ≤ 10000000) (tch w : List Int) (htb : ∀ v ∈ tch, 0 ≤ v ∧ v < n) (hfew : tch.length ≤ 1000) (hw : w.length = tch.length) : Pure Tryz.prog 59 [dI n, dLI tch, dLI w] (dLI (sprF n tch w tch.length)) := by
  refine Tz.pK ⟨fun t => t == 10, fun _ => []⟩ Tryz.func59 rfl (fun Q hQ => ?_)
  try simp [go_sem]
  repeat (first | intro _ | (refine ⟨obl, ?_⟩))
  obtain ⟨I0, hI0⟩ := mkI fun i e H => ((e 0 = dI n) ∧ (e 1 = dLI tch) ∧ (e 2 = dLI w) ∧ (e 7 = .own 0 n) ∧ (e 8 = dI i) ∧ (H.get 0 = some ⟨3, 1, (sprF n tch w i).map cI, false⟩) ∧ (0 < H.next) ∧ (i ≤ tch.length) ∧ ((sprF n tch w i).length = n))
  refine loopK I0 (fun i => tch.length - i) (0) ((hI0 _ _ _).2 ⟨?_, ?_, ?_, ?_, ?_, (by (simp [go_sem, sprF])), ?_, (by first | assumption | omega | (simp [go_sem]; done) | (simp_all; done)), (by (exact sprF_len _ _ _ _))⟩) ?_
  iterate 6 (first | omega | (simp [go_sem] <;> omega))
  intro i e H hi0
  obtain ⟨q0_0, q1_0, q2_0, q7_0, q8_0, g0_0, n0_0, hi, hl⟩ := (hI0 _ _ _).1 hi0
  have x0 := frs n0_0
  have F0 := And.intro q0_0 (And.intro q1_0 (And.intro q2_0 (And.intro q7_0 (And.intro q8_0 (And.intro g0_0 x0)))))
  try simp [go_sem, F0]
  repeat (first | intro _ | (refine ⟨obl, ?_⟩))
  refine condQ_mk (fun h3 => ?_) (fun h3 => ?_)
  · try simp [go_sem] at h3
    have htv := htb _ (lgm h3)
    have hv : tch[i].toNat < (sprF n tch w i).length := by omega
    have hwi : i < w.length := by omega
    try simp [go_sem, F0, h3, lge h3, lge hv, lge hwi, hl]
    repeat (first | intro _ | (refine ⟨obl, ?_⟩))
    refine nextQ_mk (i + 1) (by omega) ((hI0 _ _ _).2 ⟨?_, ?_, ?_, ?_, ?_, (by (simp [go_sem, F0, h3, lge h3, lge hv, lge hwi, hl, sprF_succ, List.map_set])), ?_, (by first | assumption | omega | (simp [go_sem, F0, h3, lge h3, lge hv, lge hwi, hl]; done) | (simp_all <;> omega)), (by (exact sprF_len _ _ _ _))⟩) <;> first | omega | (simp [go_sem, F0, h3, lge h3, lge hv, lge hwi, hl] <;> omega)
  · try simp [go_sem] at h3
    have hI : i = tch.length := by omega
    subst hI
    try simp [go_sem, F0, hl]
    exact hQ _ _ (by simp [go_sem, F0, hl, h3] <;> first | omega | (rw [bei]; simp <;> omega) | (simp_all <;> omega))
theorem numL_at {n i : Nat} (h : i < n) : (numL n)[i]?.getD 0 = (i : Int) := by simp [numL, h]
theorem ref39_next (nn : Nat) (hfew : nn ≤ 1000) (q : Nat) (w : List Int) (hw : w.length = nn) (hd : ∀ x ∈ w, 0 ≤ x ∧ x ≤ 6) (G : AHeap) (hg : G.get q = some ⟨3, 1, w.map cI, false⟩) (Q : D → AHeap → Prop)
    (hQ : ∀ H', H'.get q = some ⟨3, 1, (odoF (numL nn) nn w).1.map cI, false⟩ → (odoF (numL nn) nn w).1.length = nn → (∀ x ∈ (odoF (numL nn) nn w).1, 0 ≤ x ∧ x ≤ 6) → (∀ j, j ≠ q → H'.get j = G.get j) → G.next ≤ H'.next → Q (.bool (odoF (numL nn) nn w).2) H') : ACalls Tryz.prog 56 [.own q nn] G Q := by
  refine (acalls_of_body (cfg := ⟨fun _ => false, fun _ => []⟩) Tz.mixed Tryz.func56 rfl rfl (nlb rfl) (by kernel_rfl) ?_)
  try simp [go_sem, hg, hw]
  repeat (first | intro _ | (refine ⟨obl, ?_⟩))
  obtain ⟨I0, hI0⟩ := mkI fun k e H => (∃ w1 : List Int, (e 0 = .own q nn) ∧ (e 3 = dI ((k : Int) - 1)) ∧ (k ≤ nn) ∧ (H.get q = some ⟨3, 1, w1.map cI, false⟩) ∧ (w1.length = nn) ∧ (∀ x ∈ w1, 0 ≤ x ∧ x ≤ 6) ∧ (odoF (numL nn) k w1 = odoF (numL nn) nn w) ∧ (∀ j, j ≠ q → H.get j = G.get j) ∧ (G.next ≤ H.next))
  refine loopK I0 (fun k => k) (nn) ((hI0 _ _ _).2 ⟨(w), ?_, ?_, (by omega), (by exact hg), (by exact hw), (by exact hd), (by rfl), (by exact fun _ _ => rfl), (by exact Nat.le_refl _)⟩) ?_
  iterate 2 (first | omega | (simp [go_sem, hg, hw] <;> omega))
  intro k e H hi0
  obtain ⟨w1, q0_0, q3_0, hk, hH, hl1, hd1, hN, hfr, hnx⟩ := (hI0 _ _ _).1 hi0
  have F0 := And.intro q0_0 q3_0
  try simp [go_sem, hg, hw, F0, hH, hl1]
  refine condQ_mk (fun h2 => ?_) (fun h2 => ?_)
  · try simp [go_sem] at h2
    have hk0 : 0 < k := by omega
    have htn : ((k : Int) - 1).toNat = k - 1 := by omega
    have hv : k - 1 < w1.length := by omega
    have hdv := hd1 _ (lgm hv)
    have hstep : odoF (numL nn) k w1 = if w1[k - 1] < 6 then (w1.set (k - 1) (w1[k - 1] + 1), true) else odoF (numL nn) (k - 1) (w1.set (k - 1) 0) := by
     obtain ⟨m, rfl⟩ : ∃ m, k = m + 1 := ⟨k - 1, by omega⟩
     simp only [Nat.add_sub_cancel] at hv ⊢
     simp only [odoF, numL_at (show m < nn by omega), Int.toNat_natCast, lge hv, Option.getD_some]
    try simp [go_sem, hg, hw, F0, hH, hl1, h2, htn, lge hv]
    repeat (first | intro _ | (refine ⟨obl, ?_⟩))
    refine condQ_mk (fun h4 => ?_) (fun h4 => ?_)
    ·try simp [go_sem] at h4
     rw [if_pos (by omega)] at hstep
     have hE : odoF (numL nn) nn w = (w1.set (k - 1) (w1[k - 1] + 1), true) := hN.symm.trans hstep
     have hE2 : (odoF (numL nn) nn w).2 = true := by rw [hE]
     try simp [go_sem, hg, hw, F0, hH, hl1, h2, htn, lge hv]
     repeat (first | intro _ | (refine ⟨obl, ?_⟩))
     rw [← hE2]; exact hQ _ (by rw [hE]; simp [go_sem, hH, hl1, List.map_set]) (by rw [hE]; simp [hl1]) (by rw [hE]; exact mem_set_dig hd1 _ (by omega)) (by intro j hj'; simp [go_sem, hj', hfr j hj']) (by simp [go_sem]; omega)
    ·try simp [go_sem] at h4
     try simp [go_sem, hg, hw, F0, hH, hl1, h2, htn, lge hv]
     repeat (first | intro _ | (refine ⟨obl, ?_⟩))
     refine nextQ_mk (k - 1) (by omega) ((hI0 _ _ _).2 ⟨(w1.set (k - 1) 0), ?_, ?_, (by omega), (by (simp [go_sem, hH, hl1, List.map_set, lge hv])), (by (simp [hl1])), (by (exact mem_set_dig hd1 _ (by omega))), (by (rw [← hN, hstep, if_neg (by omega)])), (by (intro j hj'; simp [go_sem, hj', hfr j hj'])), (by (simp [go_sem]; omega))⟩) <;> first | omega | (simp [go_sem, hg, hw, F0, hH, hl1, h2, htn, lge hv] <;> omega)
  · try simp [go_sem] at h2
    have hk0 : k = 0 := by omega
    subst hk0
    have hE : odoF (numL nn) nn w = (w1, false) := by rw [← hN]; rfl
    have hE2 : (odoF (numL nn) nn w).2 = false := by rw [hE]
    try simp [go_sem, hg, hw, F0, hH, hl1]
    rw [← hE2]; exact hQ _ (by rw [hE]; exact hH) (by rw [hE]; exact hl1) (by rw [hE]; exact hd1) hfr hnx
end Go.Abs
end
