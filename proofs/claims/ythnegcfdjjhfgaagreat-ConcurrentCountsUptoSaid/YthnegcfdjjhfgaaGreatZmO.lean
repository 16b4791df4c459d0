/- Layer 32: the error of two rules (program). · Layer 32: two  -/
import Derived.Test.YthnegcfdjjhfgaaGreatZmA
import Derived.Test.YthnegcfdjjhfgaaGreatZmN
import Derived.Shelf.Spec.SlicesGrow
set_option linter.unusedVariables false
set_option linter.unusedSimpArgs false
section
set_option maxRecDepth 60000
set_option maxHeartbeats 1000000
open Go Go.Proofs
namespace Go.Abs
def growRen : Go.Shelf.Ren := ⟨fun | 4 => 206 | n => n, fun | 22 => 26 | 25 => 3 | n => n, fun n => n⟩
theorem laysGrow : Lays8.n4 Tryz.prog growRen := {
  mixed := by kernel_rfl
  f4 := ⟨Tryz.f206.name, rfl, Tryz.func206.trans (congrArg some (by kernel_rfl))⟩
  t0 := Tryz.underlying0
  a0 := Tryz.isAgg0
  z0 := Tryz.sizeOf0
  v0 := Tryz.zeroValue0
  t3 := Tryz.underlying3
  a3 := Tryz.isAgg3
  z3 := Tryz.sizeOf3
  v3 := Tryz.zeroValue3
  t4 := Tryz.underlying4
  a4 := Tryz.isAgg4
  z4 := Tryz.sizeOf4
  v4 := Tryz.zeroValue4
  t9 := Tryz.underlying9
  a9 := Tryz.isAgg9
  z9 := Tryz.sizeOf9
  v9 := Tryz.zeroValue9
  t20 := Tryz.underlying20
  a20 := Tryz.isAgg20
  z20 := Tryz.sizeOf20
  v20 := Tryz.zeroValue20
  t22 := Tryz.underlying26
  a22 := Tryz.isAgg26
  z22 := Tryz.sizeOf26
  v22 := Tryz.zeroValue26 }
theorem grow_int (n : Nat) (hn : n ≤ 1000000) : Own Tryz.prog 206 [.nil, dI n] 3 1 [] := by
  refine ⟨⟨_, Tryz.func206, rfl, rfl⟩, fun M w vals hM ha => ?_⟩
  obtain ⟨hlen, hr⟩ := ha
  match vals, hlen with
  | [v0, v1], _ =>
    have e0 := hr 0 v0 .nil rfl rfl
    have e1 := hr 1 v1 (dI n) rfl rfl
    cases e0
    unfold dI at e1
    cases e1
    rcases Nat.eq_zero_or_pos n with h0 | h0
    ·subst h0
     refine (Any8.slices_Grow_room laysGrow none 0 0 0 w (by omega) (by omega) (by omega) (by omega)).mono fun e w' ⟨he, hw⟩ => ?_
     subst hw
     exact ⟨_, [], he, ⟨rfl, .inl ⟨rfl, rfl⟩⟩, by simp, ⟨rfl, fun j u d hu => by simp at hu⟩, rfl, by simp, RowKit.Below.refl _ _⟩
    ·obtain ⟨i0, hi0, hz, hs, hb⟩ : ∃ i0, Tryz.prog.info? 3 = some i0 ∧ i0.zero = some (.int .i64 0) ∧ i0.size = 1 ∧ i0.bytes = 8 := ⟨_, rfl, rfl, rfl, rfl⟩
     refine (Any8.slices_Grow_grow laysGrow i0 (.int .i64 0) hi0 hz (by omega) none 0 0 n [] w (by omega) (by omega) (by rw [hb]; omega) (by omega) (by simp) (fun _ => rfl) (fun a ha => by cases ha)).mono fun e w' ⟨he, hw⟩ => ?_
     rw [show growRen.t 25 = 3 from rfl, Nat.zero_add] at he hw
     have hG := grownCap_ge w n 0 3
     have hM' := grownCap_le_maxLen w n 0 3 (by unfold maxLen; omega)
     obtain ⟨G, hGe⟩ : ∃ G, grownCap w n 0 3 = G := ⟨_, rfl⟩
     rw [hGe] at hG hM' he hw
     obtain ⟨C, hC⟩ : ∃ C, ([].toArray ++ Builtin.zeroCells (Value.int IntKind.i64 0).cells (n - 0) ++ Builtin.zeroCells (Value.int IntKind.i64 0).cells (G - n) : Array Value) = C := ⟨_, rfl⟩
     have hCs : C.size = G := by rw [← hC]; simp [Builtin.zeroCells, Value.cells]; omega
     rw [hC] at hw
     have hbl : RowKit.Below w.heap.size w (w.drew.alloc (.cells C 3)) := ((RowKit.Below.refl _ _).drew).alloc (Nat.le_refl _) _
     subst hw
     refine ⟨_, [], he, ⟨rfl, .inr ⟨w.heap.size, G, C, rfl, Nat.le_refl _, ?_, Nat.zero_le _, hM', by rw [hCs]; omega, by simp⟩⟩, by simp, ⟨rfl, fun j u d hu => by simp at hu⟩, rfl, by simp, hbl⟩
     show (w.heap.push _)[w.heap.size]? = _
     simp
theorem flat_take_len (ls : List (List Int)) (i : Nat) : (ls.take i).flatten.length ≤ ls.flatten.length := by
  have h := congrArg (fun l => (List.flatten l).length) (List.take_append_drop i ls)
  simp only [List.flatten_append, List.length_append] at h
  omega
def exactP (t : Types) (l : List Int) : Bool := !(l.any fun k => decide (given2F t k k ≠ 0) || decide (1 < (belowT t k).length))
def flen (ls : List (List Int)) (i : Nat) : Nat := (ls.take i).flatten.length
theorem flen_succ {ls : List (List Int)} {i : Nat} (h : i < ls.length) : flen ls (i + 1) = flen ls i + ls[i].length := by
  unfold flen; rw [List.take_succ_eq_append_getElem h, List.flatten_append, List.length_append]; simp only [List.flatten_cons, List.flatten_nil, List.append_nil]
@[go_sem] theorem flen_zero (ls : List (List Int)) : flen ls 0 = 0 := rfl
theorem flen_le (ls : List (List Int)) (i : Nat) : flen ls i ≤ ls.flatten.length := flat_take_len ls i
theorem flen_end {ls : List (List Int)} {i : Nat} (h : ls.length ≤ i) : flen ls i = ls.flatten.length := by
  unfold flen; rw [List.take_of_length_le h]
theorem concat_ints (ls : List (List Int)) (fs : List Int) (hfs : fs = ls.flatten) (hk : ls.length ≤ 1000) (h : fs.length ≤ 100000) : Own Tryz.prog 124 [.list (ls.map fun l => [dLI l])] 3 1 (fs.map cI) := by
  refine Tz.oK ⟨fun _ => false, fun _ => []⟩ Tryz.func124 rfl (fun Q hQ => ?_)
  try simp [go_sem, seval]
  repeat (first | intro _ | (refine ⟨obl, ?_⟩))
  obtain ⟨I0, hI0⟩ := mkI fun i e H => ((e 9 = .list (ls.map fun l => [dLI l])) ∧ (e 10 = dI ls.length) ∧ (e 11 = dI i) ∧ (e 0 = .list (ls.map fun l => [dLI l])) ∧ (e 3 = dI (flen ls i)) ∧ (i ≤ ls.length))
  refine loopK I0 (fun i => ls.length - i) (0) ((hI0 _ _ _).2 ⟨?_, ?_, ?_, ?_, ?_, (by first | assumption | omega | (simp [go_sem]; done) | (simp_all; done))⟩) ?_
  iterate 5 (first | omega | (simp [go_sem, seval] <;> omega))
  intro i e H hi0
  obtain ⟨q9_0, q10_0, q11_0, q0_0, q3_0, hi⟩ := (hI0 _ _ _).1 hi0
  have F0 := And.intro q9_0 (And.intro q10_0 (And.intro q11_0 (And.intro q0_0 q3_0)))
  try simp [go_sem, seval, F0]
  refine condQ_mk (fun h3 => ?_) (fun h3 => ?_)
  · try simp [go_sem] at h3
    have hst := flen_succ h3
    have hle := flen_le ls (i + 1)
    rw [← hfs] at hle
    try simp [go_sem, seval, F0, h3, lge h3, hst]
    repeat (first | intro _ | (refine ⟨obl, ?_⟩))
    refine condQ_mk (fun h6 => ?_) (fun h6 => ?_)
    ·(try simp [go_sem] at h6); omega
    ·try simp [go_sem] at h6
     try simp [go_sem, seval, F0, h3, lge h3, hst]
     repeat (first | intro _ | (refine ⟨obl, ?_⟩))
     refine nextQ_mk (i + 1) (by omega) ((hI0 _ _ _).2 ⟨?_, ?_, ?_, ?_, ?_, (by first | assumption | omega | (simp [go_sem, F0, h3, lge h3, hst, h6]; done) | (simp_all <;> omega))⟩) <;> first | omega | (simp [go_sem, seval, F0, h3, lge h3, hst] <;> omega)
  · try simp [go_sem] at h3
    have hI : flen ls i = fs.length := by rw [flen_end (by omega), hfs]
    try simp [go_sem, seval, F0, hI]
    refine callQ_own0 (grow_int fs.length (by omega)) ((by first | rfl | (simp [go_sem, ← List.map_take, ← List.map_drop, F0, hI]; done))) ?_
    try simp [go_sem, seval, F0, hI]
    repeat (first | intro _ | (refine ⟨obl, ?_⟩))
    obtain ⟨I2, hI2⟩ := mkI fun k e H => (∃ q : Nat, ∃ xs : List Int, (e 25 = .list (ls.map fun l => [dLI l])) ∧ (e 26 = dI ls.length) ∧ (e 27 = dI k) ∧ (e 6 = .own q xs.length) ∧ (H.get q = some ⟨3, 1, xs.map cI, false⟩) ∧ (q < H.next) ∧ (k ≤ ls.length) ∧ (xs = (ls.take k).flatten))
    refine loopK I2 (fun k => ls.length - k) (0) ((hI2 _ _ _).2 ⟨(H.next), ([]), ?_, ?_, ?_, ?_, ?_, ?_, (by first | assumption | omega | (simp [go_sem, F0, hI]; done) | (simp_all; done)), (by (simp))⟩) ?_
    iterate 6 (first | omega | (simp [go_sem, seval, F0, hI] <;> omega))
    intro k e H hi2
    obtain ⟨q, xs, q25_2, q26_2, q27_2, q6_2, gq_2, nq_2, hk, hx⟩ := (hI2 _ _ _).1 hi2
    have xq := frs nq_2
    have F2 := And.intro q25_2 (And.intro q26_2 (And.intro q27_2 (And.intro q6_2 (And.intro gq_2 xq))))
    try simp [go_sem, seval, hI, F2]
    refine condQ_mk (fun h11 => ?_) (fun h11 => ?_)
    ·try simp [go_sem] at h11
     have hle : xs.length + ls[k].length ≤ fs.length := by
      have := flen_le ls (k + 1); rw [flen_succ h11, ← hfs] at this; rw [hx]; exact this
     try simp [go_sem, seval, hI, F2, h11, lge h11]
     repeat (first | intro _ | (refine ⟨obl, ?_⟩))
     refine nextQ_mk (k + 1) (by omega) ((hI2 _ _ _).2 ⟨(q), (xs ++ ls[k]), ?_, ?_, ?_, ?_, ?_, ?_, (by first | assumption | omega | (simp [go_sem, hI, F2, h11, lge h11, h3]; done) | (simp_all <;> omega)), (by (rw [List.take_succ_eq_append_getElem h11, List.flatten_append, ← hx]; simp))⟩) <;> first | omega | (simp [go_sem, seval, hI, F2, h11, lge h11] <;> omega)
    ·try simp [go_sem] at h11
     have hX : xs = fs := by rw [hx, List.take_of_length_le (by omega), hfs]
     try simp [go_sem, seval, hI, F2]
     exact hQ _ _ _ (by simp [go_sem, hI, F2, hX]) (by simp [go_sem, hI, F2, hX])
theorem concurrent_exact1 (t : Types) (ht : t.ok) (k : Int) : Pure Tryz.prog 125 [dI k, .adr t.c] (.bool (decide (given2F t k k ≠ 0) || decide (1 < (belowT t k).length))) := by
  refine Tz.pK ⟨fun _ => false, fun _ => []⟩ Tryz.func125 rfl (fun Q hQ => ?_)
  try simp [go_sem, seval]
  refine callQ_pure0 (types_Below t ht k) ((by first | rfl | (simp [go_sem, ← List.map_take, ← List.map_drop]; done))) ?_
  try simp [go_sem, seval]
  repeat (first | intro _ | (refine ⟨obl, ?_⟩))
  exact hQ _ _ (by simp [go_sem] <;> first | omega | (rw [bei]; simp <;> omega) | (simp_all <;> omega))
theorem concurrent_exact (t : Types) (ht : t.ok) (r : Rule) (h1 : r.left.graph.nodes.length ≤ 1000) (h2 : r.right.graph.nodes.length ≤ 1000) : Pure Tryz.prog 59 [t.d, r.d] (.bool (exactP t (r.left.graph.nodes ++ r.right.graph.nodes))) := by
  obtain ⟨fs, hfs⟩ : ∃ fs, fs = r.left.graph.nodes ++ r.right.graph.nodes := ⟨_, rfl⟩
  have hc := (concat_ints [r.left.graph.nodes, r.right.graph.nodes] fs (by rw [hfs]; simp) (by simp) (by rw [hfs]; simp; omega)).pure
  have hf := containsFunc_int fs 125 [.adr t.c] (fun k => decide (given2F t k k ≠ 0) || decide (1 < (belowT t k).length)) (by simp [go_sem]) (by simp [go_sem]) (fun k _ => concurrent_exact1 t ht k)
  have hX : exactP t fs = !(fs.any fun k => decide (given2F t k k ≠ 0) || decide (1 < (belowT t k).length)) := rfl
  obtain ⟨u, hu⟩ : ∃ u, (fs.any fun k => decide (given2F t k k ≠ 0) || decide (1 < (belowT t k).length)) = u := ⟨_, rfl⟩
  rw [hu] at hf hX
  rw [← hfs, hX]
  simp only [List.map_cons, List.map_nil] at hc
  refine Tz.pK ⟨fun _ => false, fun _ => []⟩ Tryz.func59 rfl (fun Q hQ => ?_)
  try simp [go_sem, seval]
  repeat (first | intro _ | (refine ⟨obl, ?_⟩))
  refine callQ_pure0 (hc) ((by first | rfl | (simp [go_sem, ← List.map_take, ← List.map_drop]; done))) ?_
  try simp [go_sem, seval]
  repeat (first | intro _ | (refine ⟨obl, ?_⟩))
  refine callQ_pure0 (hf) ((by first | rfl | (simp [go_sem, ← List.map_take, ← List.map_drop]; done))) ?_
  try simp [go_sem, seval]
  repeat (first | intro _ | (refine ⟨obl, ?_⟩))
  exact hQ _ _ (by simp [go_sem] <;> first | omega | (rw [bei]; simp <;> omega) | (simp_all <;> omega))
theorem given2F_zero {t : Types} (hv : (validF t).2 = 0) {k : Int} (h : 0 ≤ k ∧ k < t.nodes.length) : given2F t k k = 0 := by
  unfold given2F; rw [if_neg (by rw [hv]; simp), if_pos (by simp [insideF]; omega)]
theorem exactP_eq {t : Types} {l : List Int} (h : ∀ k ∈ l, given2F t k k = 0) : exactP t l = leafB t l := by
  unfold exactP leafB
  induction l with
  | nil => rfl
  | cons a l ih =>
    have ih' := ih fun k hk => h k (List.mem_cons_of_mem _ hk)
    have ha := h a (List.mem_cons_self ..)
    rw [List.any_cons, List.all_cons, Bool.not_or, ih', ha]
    congr 1
    rw [bei]; simp
theorem leafB_append (t : Types) (l m : List Int) : leafB t (l ++ m) = (leafB t l && leafB t m) := by unfold leafB; rw [List.all_append]
structure Rule.parts (t : Types) (r : Rule) : Prop where
  v : (validF t).2 = 0
  pat : patternF t r.left = 0
  gl : graphF r.left.graph = 0
  gr : graphF r.right.graph = 0
  tl : typedB t r.left.graph = true
  tr : typedB t r.right.graph = true
  sub : subF r.left.graph r.keep = 0
  mor : morphF (extractG r.left.graph r.keep) r.right.graph r.into = 0
  inj : injB (extractG r.left.graph r.keep) r.right.graph r.into = true
  mkb : makeB t r.right.graph r.freshN r.freshE = true
theorem ruleF_parts {t : Types} {r : Rule} (h : ruleF t r = 0) : Rule.parts t r := by
  unfold ruleF at h
  split at h
  · rename_i h1; exact absurd h h1
  · rename_i h1
    split at h
    ·cases h
    ·split at h
     ·rename_i h3; exact absurd h h3
     ·rename_i h3
      split at h
      ·rename_i h4; exact absurd h h4
      ·rename_i h4
       split at h
       ·rename_i h5; exact absurd h h5
       ·rename_i h5
        split at h
        ·cases h
        ·rename_i h6
         have hr := rightF_of (t := t) (r := r) (by omega)
         have hp : graphF r.left.graph = 0 ∧ typedB t r.left.graph = true := by
          have h3' : patternF t r.left = 0 := by omega
          unfold patternF at h3'
          split at h3'
          ·rename_i q; exact absurd h3' q
          ·split at h3'
           ·rename_i q; exact absurd h3' q
           ·rename_i q
            split at h3'
            ·cases h3'
            ·rename_i q2; exact ⟨by omega, by simpa using q2⟩
         have hk : subF r.left.graph r.keep = 0 ∧ morphF (extractG r.left.graph r.keep) r.right.graph r.into = 0 ∧ injB (extractG r.left.graph r.keep) r.right.graph r.into = true := by
          have h5' : keptF r = 0 := by omega
          unfold keptF at h5'
          split at h5'
          ·rename_i q; exact absurd h5' q
          ·rename_i q
           split at h5'
           ·rename_i q2; exact absurd h5' q2
           ·rename_i q2
            split at h5'
            ·cases h5'
            ·rename_i q3; exact ⟨by omega, by omega, by simpa using q3⟩
         exact ⟨by omega, by omega, hp.1, hr.1, hp.2, hr.2, hk.1, hk.2.1, hk.2.2, by simpa using h6⟩
theorem exactP_of {t : Types} {r : Rule} (h : ruleF t r = 0) : exactP t (r.left.graph.nodes ++ r.right.graph.nodes) = (leafB t r.left.graph.nodes && leafB t r.right.graph.nodes) := by
  have hp := ruleF_parts h
  rw [exactP_eq, leafB_append]
  intro k hk
  rcases List.mem_append.1 hk with hk | hk
  · exact given2F_zero hp.v ((typedB_in hp.gl hp.tl).1 k hk)
  · exact given2F_zero hp.v ((typedB_in hp.gr hp.tr).1 k hk)
theorem givenR_at {t : Types} {a b : Rule} (hv : (validF t).2 = 0) {rs : List Rule} (hrs : rs = [a, b]) {i : Nat} (hi : i < rs.length) (hz : ∀ j x, j < i → rs[j]? = some x → oneR t x = 0) (hne : oneR t rs[i] ≠ 0) : givenR t a b = oneR t rs[i] := by
  subst hrs
  unfold givenR
  rw [if_neg (by rw [hv]; simp)]
  simp only [List.length_cons, List.length_nil] at hi
  rcases (show i = 0 ∨ i = 1 by omega) with rfl | rfl
  · exact if_pos hne
  · rw [if_neg (by rw [hz 0 a (by omega) rfl]; simp)]; rfl
theorem concurrent_given (t : Types) (ht : t.ok) (a b : Rule) (ha : a.ok) (hb : b.ok) (hat : a.thin) (hbt : b.thin) : Pure Tryz.prog 26 [t.d, .list [a.c, b.c]] (dI (givenR t a b)) := by
  obtain ⟨rs, hrs⟩ : ∃ rs, rs = [a, b] := ⟨_, rfl⟩
  have hok : ∀ r ∈ rs, r.ok ∧ r.thin := by rw [hrs]; intro r hr; simp at hr; rcases hr with rfl | rfl; exact ⟨ha, hat⟩; exact ⟨hb, hbt⟩
  refine Tz.pK ⟨fun t => t == 8, fun _ => []⟩ Tryz.func26 rfl (fun Q hQ => ?_)
  try simp [go_sem, seval]
  refine callQ_pure0 (types_Valid t ht) ((by first | rfl | (simp [go_sem, ← List.map_take, ← List.map_drop]; done))) ?_
  try simp [go_sem, seval]
  refine condQ_mk (fun h2 => ?_) (fun h2 => ?_)
  · try simp [go_sem] at h2
    have hE : givenR t a b = (validF t).2 := if_pos h2
    try simp [go_sem, seval]
    exact hQ _ _ (by first | (left; (simp [go_sem, hE]); done) | (right; (simp [go_sem, hE]); done))
  · try simp [go_sem] at h2
    try simp [go_sem, seval]
    repeat (first | intro _ | (refine ⟨obl, ?_⟩))
    obtain ⟨I0, hI0⟩ := mkI fun i e H => (∃ l : List (List D), (e 2 = .adr t.c) ∧ (e 18 = .list l) ∧ (e 19 = dI 2) ∧ (e 20 = dI i) ∧ (i ≤ 2) ∧ (l = rs.map Rule.c) ∧ (∀ j x, j < i → rs[j]? = some x → oneR t x = 0))
    refine loopK I0 (fun i => 2 - i) (0) ((hI0 _ _ _).2 ⟨([a.c, b.c]), ?_, ?_, ?_, ?_, (by first | assumption | omega | (simp [go_sem]; done) | (simp_all; done)), (by (rw [hrs]; rfl)), (by (intro j x hj; omega))⟩) ?_
    iterate 4 (first | omega | (simp [go_sem, seval] <;> omega))
    intro i e H hi0
    obtain ⟨l, q2_0, q18_0, q19_0, q20_0, hi, hl, hz⟩ := (hI0 _ _ _).1 hi0
    have F0 := And.intro q2_0 (And.intro q18_0 (And.intro q19_0 q20_0))
    try simp [go_sem, seval, F0]
    refine condQ_mk (fun h5 => ?_) (fun h5 => ?_)
    ·try simp [go_sem] at h5
     have hgl : i < rs.length := by rw [hrs]; simp; omega
     have hoi := hok _ (lgm hgl)
     try simp [go_sem, seval, F0, h5, hl, lge hgl, Rule.c]
     repeat (first | intro _ | (refine ⟨obl, ?_⟩))
     refine callQ_pure0 (rule_Valid t ht rs[i] hoi.1) ((by first | rfl | (simp [go_sem, ← List.map_take, ← List.map_drop, F0, h5, hl, lge hgl, Rule.c]; done))) ?_
     try simp [go_sem, seval, F0, h5, hl, lge hgl, Rule.c]
     repeat (first | intro _ | (refine ⟨obl, ?_⟩))
     refine condQ_mk (fun h8 => ?_) (fun h8 => ?_)
     ·try simp [go_sem] at h8
      have hO : oneR t rs[i] = ruleF t rs[i] := if_pos h8
      have hE := givenR_at h2 hrs hgl hz (by rw [hO]; exact h8)
      try simp [go_sem, seval, F0, h5, hl, lge hgl, Rule.c]
      exact hQ _ _ (by first | (left; (simp [go_sem, hE, hO]); done) | (right; (simp [go_sem, hE, hO]); done))
     ·try simp [go_sem] at h8
      have h8' : ¬ ruleF t rs[i] ≠ 0 := by rw [h8]; simp
      have hP := ruleF_parts h8
      have hg1 := graphF_le hP.gl
      have hg2 := graphF_le hP.gr
      have hX := exactP_of h8
      try simp [go_sem, seval, F0, h5, hl, lge hgl, Rule.c]
      repeat (first | intro _ | (refine ⟨obl, ?_⟩))
      refine callQ_pure0 (concurrent_structural rs[i] hoi.2) ((by first | rfl | (simp [go_sem, ← List.map_take, ← List.map_drop, F0, h5, hl, lge hgl, Rule.c]; done))) ?_
      try simp [go_sem, seval, F0, h5, hl, lge hgl, Rule.c]
      repeat (first | intro _ | (refine ⟨obl, ?_⟩))
      refine condQ_mk (fun h10 => ?_) (fun h10 => ?_)
      ·try simp [go_sem] at h10
       have hO : oneR t rs[i] = 8 := by unfold oneR; rw [if_neg h8', if_pos h10]
       have hE := givenR_at h2 hrs hgl hz (by rw [hO]; simp)
       try simp [go_sem, seval, F0, h5, hl, lge hgl, Rule.c]
       exact hQ _ _ (by first | (left; (simp [go_sem, hE, hO]); done) | (right; (simp [go_sem, hE, hO]); done))
      ·try simp [go_sem] at h10
       have h10' : ¬ structB rs[i] = false := by rw [h10]; simp
       try simp [go_sem, seval, F0, h5, hl, lge hgl, Rule.c]
       repeat (first | intro _ | (refine ⟨obl, ?_⟩))
       refine callQ_pure0 (concurrent_exact t ht rs[i] (by omega) (by omega)) ((by first | rfl | (simp [go_sem, ← List.map_take, ← List.map_drop, F0, h5, hl, lge hgl, Rule.c]; done))) ?_
       try simp [go_sem, seval, F0, h5, hl, lge hgl, Rule.c]
       repeat (first | intro _ | (refine ⟨obl, ?_⟩))
       refine condQ_mk (fun h12 => ?_) (fun h12 => ?_)
       ·try simp [go_sem] at h12
        have hO : oneR t rs[i] = 13 := by unfold oneR; rw [if_neg h8', if_neg h10', if_pos (by rw [← hX]; exact h12)]
        have hE := givenR_at h2 hrs hgl hz (by rw [hO]; simp)
        try simp [go_sem, seval, F0, h5, hl, lge hgl, Rule.c]
        exact hQ _ _ (by first | (left; (simp [go_sem, hE, hO]); done) | (right; (simp [go_sem, hE, hO]); done))
       ·try simp [go_sem] at h12
        have hO : oneR t rs[i] = 0 := by unfold oneR; rw [if_neg h8', if_neg h10', if_neg (by rw [← hX, h12]; simp)]
        try simp [go_sem, seval, F0, h5, hl, lge hgl, Rule.c]
        repeat (first | intro _ | (refine ⟨obl, ?_⟩))
        refine nextQ_mk (i + 1) (by omega) ((hI0 _ _ _).2 ⟨(l), ?_, ?_, ?_, ?_, (by first | assumption | omega | (simp [go_sem, F0, h5, hl, lge hgl, Rule.c, h2, h8, h10, h12]; done) | (simp_all <;> omega)), (by (exact hl)), (by (intro j x hj hx; rcases Nat.lt_or_ge j i with h | h; exact hz j x h hx; obtain rfl : j = i := (by omega); rw [lge hgl] at hx; cases hx; exact hO))⟩) <;> first | omega | (simp [go_sem, seval, F0, h5, hl, lge hgl, Rule.c] <;> omega)
    ·try simp [go_sem] at h5
     have hE : givenR t a b = 0 := by
      unfold givenR; rw [if_neg (by rw [h2]; simp), if_neg (by rw [hz 0 a (by omega) (by rw [hrs]; rfl)]; simp)]
      exact hz 1 b (by omega) (by rw [hrs]; rfl)
     try simp [go_sem, seval, F0]
     exact hQ _ _ (by first | (left; (simp [go_sem, hE]); done) | (right; (simp [go_sem, hE]); done))
end Go.Abs
end
section
set_option maxRecDepth 60000
set_option maxHeartbeats 2000000
open Go Go.Proofs
namespace Go.Abs
theorem nz_slots (l : List Slot) : nzAss (l.map Slot.c) = l.map Slot.c := nzAss_id fun c hc => by
  rw [List.mem_map] at hc; obtain ⟨x, _, rfl⟩ := hc; rfl
theorem nz_tests (l : List Test) : nzAss (l.map Test.c) = l.map Test.c := nzAss_id fun c hc => by
  rw [List.mem_map] at hc; obtain ⟨x, _, rfl⟩ := hc; rfl
theorem nz_cond (c : Cond) : nzAs c.c = c.c := by
  refine Cond.ind (p := fun c => nzAs c.c = c.c) (fun c ih => ?_) c
  rw [Cond.c_eq]
  have hk : nzAss (c.kids.map Cond.c) = c.kids.map Cond.c := nzAss_id fun d hd => by
    rw [List.mem_map] at hd; obtain ⟨x, hx, rfl⟩ := hd; exact ih x hx
  simp [nzAs, nzA, dLI, dI, nz_ints, nz_edges, nz_slots, nz_tests, hk]
theorem nz_conds (l : List Cond) : nzAss (l.map Cond.c) = l.map Cond.c := nzAss_id fun c hc => by
  rw [List.mem_map] at hc; obtain ⟨x, _, rfl⟩ := hc; exact nz_cond x
@[go_sem] theorem Glued.cl (x : Glued) : x.dd.cl = true := by simp [go_sem, Glued.dd, Glued.c, Rule.c, Ovl.c, Part.c]
def intoS (r : Rule) : Part := ⟨sorted r.into.nodes, sorted r.into.edges⟩
def cGlueE (a b : Rule) (o : Ovl) : Int :=
  if morphF a.right.graph o.graph o.left ≠ 0 then morphF a.right.graph o.graph o.left
  else if morphF b.left.graph o.graph o.right ≠ 0 then morphF b.left.graph o.graph o.right
  else if (injB a.right.graph o.graph o.left && (injB b.left.graph o.graph o.right && jointB a.right.graph b.left.graph o.graph o.left o.right)) = false then 1
  else if compE a.right.graph o.graph (intoS a) o.left ≠ 0 ∨ compE b.left.graph o.graph b.keep o.right ≠ 0 then 14 else 0
def cGlueG (a b : Rule) (o : Ovl) : Glued := if cGlueE a b o = 0 then ⟨a, b, o, compP a.right.graph o.graph (intoS a) o.left, compP b.left.graph o.graph b.keep o.right⟩ else glued0
theorem sorted_len' (xs : List Int) : (sorted xs).length = xs.length := sorted_len xs
theorem concurrent_glue (a b : Rule) (o : Ovl) (ha : a.ok) (hb : b.ok) : Pure Tryz.prog 27 [a.d, b.d, o.d] (.tup [(cGlueG a b o).dd, dI (cGlueE a b o)]) := by
  have hi1 := ha.i1
  have hi2 := ha.i2
  have hk1 := hb.k1
  have hs1 := sorted_len' a.into.nodes
  refine pureKA (by first | rfl | (simp [go_sem]; done)) (fun Q hQ => (acalls_of_body (cfg := ⟨fun t => t == 6 || t == 10 || t == 12, fun r => match r with | 9 => [(0, 20), (1, 20), (2, 20), (3, 20), (4, 20), (5, 20), (6, 20), (7, 20), (8, 20), (9, 20), (10, 20), (11, 20), (12, 20), (14, 20), (15, 20), (16, 20)] | _ => []⟩) Tz.mixed Tryz.func27 rfl rfl (nlb rfl) (by kernel_rfl) ?_))
  try simp [go_sem, seval, Ovl.d, Ovl.c, Part.c, Part.d, Glued.dd, Glued.c, Rule.c]
  refine callQ_pure0 (morphism_Valid a.right.graph o.graph o.left) ((by first | rfl | (simp [go_sem, ← List.map_take, ← List.map_drop, Ovl.d, Ovl.c, Part.c, Part.d, Glued.dd, Glued.c, Rule.c]; done))) ?_
  try simp [go_sem, seval, Ovl.d, Ovl.c, Part.c, Part.d, Glued.dd, Glued.c, Rule.c]
  refine condQ_mk (fun h2 => ?_) (fun h2 => ?_)
  · try simp [go_sem] at h2
    have hE : cGlueE a b o = morphF a.right.graph o.graph o.left := if_pos h2
    have hZ : cGlueG a b o = glued0 := if_neg (by rw [hE]; exact h2)
    try simp [go_sem, seval, Ovl.d, Ovl.c, Part.c, Part.d, Glued.dd, Glued.c, Rule.c]
    exact hQ _ _ (by simp [go_sem, hE, hZ, glued0, rule0, ovl0, Glued.dd, Glued.c, Rule.c, Ovl.c, Part.c, nz_ints, nz_edges, Cond.kind, Cond.kids, Cond.map, Cond.pattern])
  · try simp [go_sem] at h2
    have hE2 : ¬ morphF a.right.graph o.graph o.left ≠ 0 := by rw [h2]; simp
    obtain ⟨hg1, hgo, hl1, hl2⟩ := morphF_len h2
    have hle1 := graphF_le hg1
    have hleo := graphF_le hgo
    try simp [go_sem, seval, Ovl.d, Ovl.c, Part.c, Part.d, Glued.dd, Glued.c, Rule.c]
    refine callQ_pure0 (morphism_Valid b.left.graph o.graph o.right) ((by first | rfl | (simp [go_sem, ← List.map_take, ← List.map_drop, Ovl.d, Ovl.c, Part.c, Part.d, Glued.dd, Glued.c, Rule.c]; done))) ?_
    try simp [go_sem, seval, Ovl.d, Ovl.c, Part.c, Part.d, Glued.dd, Glued.c, Rule.c]
    refine condQ_mk (fun h5 => ?_) (fun h5 => ?_)
    ·try simp [go_sem] at h5
     have hE : cGlueE a b o = morphF b.left.graph o.graph o.right := by unfold cGlueE; rw [if_neg hE2, if_pos h5]
     have hZ : cGlueG a b o = glued0 := if_neg (by rw [hE]; exact h5)
     try simp [go_sem, seval, Ovl.d, Ovl.c, Part.c, Part.d, Glued.dd, Glued.c, Rule.c]
     exact hQ _ _ (by simp [go_sem, hE, hZ, glued0, rule0, ovl0, Glued.dd, Glued.c, Rule.c, Ovl.c, Part.c, nz_ints, nz_edges, Cond.kind, Cond.kids, Cond.map, Cond.pattern])
    ·try simp [go_sem] at h5
     have hE5 : ¬ morphF b.left.graph o.graph o.right ≠ 0 := by rw [h5]; simp
     obtain ⟨hg2, _, hl3, hl4⟩ := morphF_len h5
     have hle2 := graphF_le hg2
     try simp [go_sem, seval, Ovl.d, Ovl.c, Part.c, Part.d, Glued.dd, Glued.c, Rule.c]
     repeat first | intro _ | refine ⟨obs, ?_⟩
     refine callQ_pure0 (morphism_Injective a.right.graph o.graph o.left (by omega) (by omega)) ((by first | rfl | (simp [go_sem, ← List.map_take, ← List.map_drop, Ovl.d, Ovl.c, Part.c, Part.d, Glued.dd, Glued.c, Rule.c]; done))) ?_
     try simp [go_sem, seval, Ovl.d, Ovl.c, Part.c, Part.d, Glued.dd, Glued.c, Rule.c]
     repeat first | intro _ | refine ⟨obs, ?_⟩
     refine gcallQ_pure0 (fun hg => morphism_Injective b.left.graph o.graph o.right (by omega) (by omega)) (fun hg => (by first | rfl | (simp [go_sem, ← List.map_take, ← List.map_drop, Ovl.d, Ovl.c, Part.c, Part.d, Glued.dd, Glued.c, Rule.c]; done))) ?_
     try simp [go_sem, seval, Ovl.d, Ovl.c, Part.c, Part.d, Glued.dd, Glued.c, Rule.c]
     repeat first | intro _ | refine ⟨obs, ?_⟩
     refine gcallQ_pure0 (fun hg => factor_Jointly a.right.graph b.left.graph o.graph o.left o.right (by omega) (by omega)) (fun hg => (by first | rfl | (simp [go_sem, ← List.map_take, ← List.map_drop, Ovl.d, Ovl.c, Part.c, Part.d, Glued.dd, Glued.c, Rule.c]; done))) ?_
     try simp [go_sem, seval, Ovl.d, Ovl.c, Part.c, Part.d, Glued.dd, Glued.c, Rule.c]
     repeat first | intro _ | refine ⟨obs, ?_⟩
     refine condQ_mk (fun h7 => ?_) (fun h7 => ?_)
     ·try simp [go_sem] at h7
      have hJ : (injB a.right.graph o.graph o.left && (injB b.left.graph o.graph o.right && jointB a.right.graph b.left.graph o.graph o.left o.right)) = false := by
       rw [Bool.eq_false_iff]; intro hh; simp only [Bool.and_eq_true] at hh; simp [hh.1, hh.2.1, hh.2.2] at h7
      have hE : cGlueE a b o = 1 := by unfold cGlueE; rw [if_neg hE2, if_neg hE5, if_pos hJ]
      have hZ : cGlueG a b o = glued0 := if_neg (by rw [hE]; simp)
      try simp [go_sem, seval, Ovl.d, Ovl.c, Part.c, Part.d, Glued.dd, Glued.c, Rule.c]
      exact hQ _ _ (by simp [go_sem, hE, hZ, glued0, rule0, ovl0, Glued.dd, Glued.c, Rule.c, Ovl.c, Part.c, nz_ints, nz_edges, Cond.kind, Cond.kids, Cond.map, Cond.pattern])
     ·try simp [go_sem] at h7
      have hJ : ¬ (injB a.right.graph o.graph o.left && (injB b.left.graph o.graph o.right && jointB a.right.graph b.left.graph o.graph o.left o.right)) = false := by
       intro hh; revert h7 hh; cases injB a.right.graph o.graph o.left <;> cases injB b.left.graph o.graph o.right <;> cases jointB a.right.graph b.left.graph o.graph o.left o.right <;> simp
      obtain ⟨P1, hP1⟩ : ∃ x, x = compP a.right.graph o.graph (intoS a) o.left := ⟨_, rfl⟩
      obtain ⟨E1, hE1⟩ : ∃ x, x = compE a.right.graph o.graph (intoS a) o.left := ⟨_, rfl⟩
      obtain ⟨P2, hP2⟩ : ∃ x, x = compP b.left.graph o.graph b.keep o.right := ⟨_, rfl⟩
      obtain ⟨E2, hE2'⟩ : ∃ x, x = compE b.left.graph o.graph b.keep o.right := ⟨_, rfl⟩
      try simp [go_sem, seval, Ovl.d, Ovl.c, Part.c, Part.d, Glued.dd, Glued.c, Rule.c]
      refine dcallQ_pure0 (concurrent_sorted a.into.nodes hi1) ((by first | rfl | (simp [go_sem, ← List.map_take, ← List.map_drop, Ovl.d, Ovl.c, Part.c, Part.d, Glued.dd, Glued.c, Rule.c]; done))) ?_
      try simp [go_sem, seval, Ovl.d, Ovl.c, Part.c, Part.d, Glued.dd, Glued.c, Rule.c]
      refine dcallQ_pure0 (concurrent_sorted a.into.edges hi2) ((by first | rfl | (simp [go_sem, ← List.map_take, ← List.map_drop, Ovl.d, Ovl.c, Part.c, Part.d, Glued.dd, Glued.c, Rule.c]; done))) ?_
      try simp [go_sem, seval, Ovl.d, Ovl.c, Part.c, Part.d, Glued.dd, Glued.c, Rule.c]
      refine dcallQ_pure0 (complement_Of a.right.graph o.graph (intoS a) o.left (by show (sorted a.into.nodes).length ≤ 1000000; omega) (by omega) (by omega) (by omega) (by omega)) ((by first | rfl | (simp [go_sem, ← List.map_take, ← List.map_drop, Ovl.d, Ovl.c, Part.c, Part.d, Glued.dd, Glued.c, Rule.c]; done))) ?_
      try simp [go_sem, seval, Ovl.d, Ovl.c, Part.c, Part.d, Glued.dd, Glued.c, Rule.c]
      refine callQ_pure0 (complement_Of b.left.graph o.graph b.keep o.right hk1 (by omega) (by omega) (by omega) (by omega)) ((by first | rfl | (simp [go_sem, ← List.map_take, ← List.map_drop, Ovl.d, Ovl.c, Part.c, Part.d, Glued.dd, Glued.c, Rule.c]; done))) ?_
      try simp [go_sem, seval, Ovl.d, Ovl.c, Part.c, Part.d, Glued.dd, Glued.c, Rule.c]
      repeat first | intro _ | refine ⟨obs, ?_⟩
      refine condQ_mk (fun h11 => ?_) (fun h11 => ?_)
      ·try simp [go_sem] at h11
       have hE : cGlueE a b o = 14 := by unfold cGlueE; rw [if_neg hE2, if_neg hE5, if_neg hJ, if_pos (by rw [← hE1, ← hE2']; omega)]
       have hZ : cGlueG a b o = glued0 := if_neg (by rw [hE]; simp)
       try simp [go_sem, seval, Ovl.d, Ovl.c, Part.c, Part.d, Glued.dd, Glued.c, Rule.c]
       exact hQ _ _ (by simp [go_sem, hE, hZ, glued0, rule0, ovl0, Glued.dd, Glued.c, Rule.c, Ovl.c, Part.c, nz_ints, nz_edges, Cond.kind, Cond.kids, Cond.map, Cond.pattern])
      ·try simp [go_sem] at h11
       have hE : cGlueE a b o = 0 := by unfold cGlueE; rw [if_neg hE2, if_neg hE5, if_neg hJ, if_neg (by rw [← hE1, ← hE2']; omega)]
       have hZ : cGlueG a b o = ⟨a, b, o, P1, P2⟩ := by unfold cGlueG; rw [if_pos hE, hP1, hP2]
       try simp [go_sem, seval, Ovl.d, Ovl.c, Part.c, Part.d, Glued.dd, Glued.c, Rule.c]
       exact hQ _ _ (by simp [go_sem, Ovl.d, Ovl.c, Part.c, Part.d, Glued.dd, Glued.c, Rule.c, hE, hZ, hP1, hP2, Glued.dd, Glued.c, Rule.c, Ovl.c, Part.c, nz_ints, nz_edges, nz_slots, nz_tests, nz_conds])
end Go.Abs
end
section
set_option maxRecDepth 60000
set_option maxHeartbeats 2000000
open Go Go.Proofs
namespace Go.Abs
theorem othersL_succ (l : List Int) (n : Nat) : othersL l (n + 1) = othersL l n ++ (if (!mem l n) = true then [(n : Int)] else []) := range_filter_succ _ n
def plcI (base : Nat) (p kept im : List Int) (j : Nat) : Int := if mem kept j = true then idx p (im[(idx kept j).toNat]?.getD 0) else ((base + (othersL kept j).length : Nat) : Int)
def plaL (base : Nat) (p kept im : List Int) (n : Nat) : List Int := (List.range n).map (plcI base p kept im)
theorem plaL_len (base : Nat) (p kept im : List Int) (n : Nat) : (plaL base p kept im n).length = n := by simp [plaL]
def grownG (g : Graph) (p : Part) (more : Graph) (kept : Part) (im : List Int) : Graph :=
  ⟨(extractG g p).nodes ++ (othersL kept.nodes more.nodes.length).map (moreN more), (extractG g p).edges ++ (othersL kept.edges more.edges.length).map fun n => gluX more (plaL (extractG g p).nodes.length p.nodes kept.nodes im more.nodes.length) n.toNat⟩
theorem idx_lt {l : List Int} {v : Int} (h : mem l v = true) : 0 ≤ idx l v ∧ (idx l v).toNat < l.length ∧ l[(idx l v).toNat]? = some v := by
  obtain ⟨i, hi, he⟩ := List.getElem_of_mem ((mem_iff l v).1 h)
  have h0 : 0 ≤ idx l v := by simpa [mem] using h
  unfold idx at h0 ⊢
  cases hf : l.findIdx? (fun x => decide (x = v)) with
  | none => rw [hf] at h0; simp at h0
  | some k =>
    rw [List.findIdx?_eq_some_iff_getElem] at hf
    obtain ⟨hk, hv, _⟩ := hf
    simp only [decide_eq_true_eq] at hv
    exact ⟨by simp, by simpa using hk, by simp [hk, hv]⟩
end Go.Abs
end
section
set_option maxRecDepth 60000
set_option maxHeartbeats 2000000
open Go Go.Proofs
namespace Go.Abs
def intoP (r : Rule) : Part := ⟨r.into.nodes, r.into.edges⟩
def refL (a b : Rule) (o : Ovl) (d f : Part) : Graph := grownG o.graph d a.left.graph a.keep (ledL a.into.nodes o.left.nodes)
def refR (a b : Rule) (o : Ovl) (d f : Part) : Graph := grownG o.graph f b.right.graph (intoP b) (ledL b.keep.nodes o.right.nodes)
theorem ledL_len (l by_ : List Int) : (ledL l by_).length = l.length := by simp [ledL]
structure ROk (a b : Rule) (o : Ovl) (d f : Part) : Prop where
  sd : subF o.graph d = 0
  sf : subF o.graph f = 0
  ld : d.nodes.length ≤ 1000
  ld' : d.edges.length ≤ 1000
  lf : f.nodes.length ≤ 1000
  lf' : f.edges.length ≤ 1000
  ga : graphF a.left.graph = 0
  gb : graphF b.right.graph = 0
  ka : a.keep.nodes.length = a.into.nodes.length
  kb : b.keep.nodes.length = b.into.nodes.length
  la : a.into.nodes.length ≤ 1000000
  lb : b.into.nodes.length ≤ 1000000
  ia : ∀ x ∈ a.into.nodes, 0 ≤ x ∧ x < o.left.nodes.length
  ib : ∀ x ∈ b.keep.nodes, 0 ≤ x ∧ x < o.right.nodes.length
def partsE (a b : Rule) (o : Ovl) : Int :=
  if morphF a.right.graph o.graph o.left ≠ 0 then morphF a.right.graph o.graph o.left
  else if morphF b.left.graph o.graph o.right ≠ 0 then morphF b.left.graph o.graph o.right
  else if (injB a.right.graph o.graph o.left && (injB b.left.graph o.graph o.right && jointB a.right.graph b.left.graph o.graph o.left o.right)) = false then 1
  else if compE a.right.graph o.graph ⟨inL a.into.nodes a.right.graph.nodes.length, inL a.into.edges a.right.graph.edges.length⟩ o.left ≠ 0 then compE a.right.graph o.graph ⟨inL a.into.nodes a.right.graph.nodes.length, inL a.into.edges a.right.graph.edges.length⟩ o.left
  else compE b.left.graph o.graph b.keep o.right
def inP (a : Rule) : Part := ⟨inL a.into.nodes a.right.graph.nodes.length, inL a.into.edges a.right.graph.edges.length⟩
def partsD (a b : Rule) (o : Ovl) : Part := if partsE a b o = 0 then compP a.right.graph o.graph (inP a) o.left else ⟨[], []⟩
def partsF (a b : Rule) (o : Ovl) : Part := if partsE a b o = 0 then compP b.left.graph o.graph b.keep o.right else ⟨[], []⟩
end Go.Abs
end
section
set_option maxRecDepth 60000
set_option maxHeartbeats 2000000
open Go Go.Proofs
namespace Go.Abs
def wholeE (a b : Rule) (o : Ovl) : Int :=
  if partsE a b o ≠ 0 then partsE a b o
  else if (bigB (refL a b o (partsD a b o) (partsF a b o)) || bigB (refR a b o (partsD a b o) (partsF a b o))) = true then 3 else 0
def wholeR (a b : Rule) (o : Ovl) : Rule := if wholeE a b o = 0 then concOf (refL a b o (partsD a b o) (partsF a b o)) (refR a b o (partsD a b o) (partsF a b o)) (partsD a b o) (partsF a b o) else rule0
def rErr (t : Types) (a b : Rule) (o : Ovl) : Int := if givenR t a b ≠ 0 then givenR t a b else wholeE a b o
def rRule (t : Types) (a b : Rule) (o : Ovl) : Rule := if givenR t a b ≠ 0 then rule0 else wholeR a b o
def rOvl (t : Types) (a b : Rule) : List Ovl := (ovL a.right.graph b.left.graph).filter fun o => decide (wholeE a b o = 0)
def rOvlE (t : Types) (a b : Rule) : Int := if givenR t a b ≠ 0 then givenR t a b else ovErr a.right.graph b.left.graph
def rOvlL (t : Types) (a b : Rule) : List Ovl := if rOvlE t a b = 0 then rOvl t a b else []
theorem filter_take_succ {α : Type} (p : α → Bool) {l : List α} {i : Nat} (h : i < l.length) : (l.take (i + 1)).filter p = (l.take i).filter p ++ (if p l[i] = true then [l[i]] else []) := by
  rw [List.take_succ_eq_append_getElem h, List.filter_append]
  congr 1
  by_cases hp : p l[i] = true <;> simp [hp]
end Go.Abs
end
section
set_option maxRecDepth 8000
open Go Go.Proofs
namespace Go.Abs
theorem firstE_mk {f : Nat → Int} : ∀ (n k : Nat), (∀ j, k ≤ j → j < k + n → f j = 0) → firstE f k n = 0
  | 0, k, _ => rfl
  | n + 1, k, h => by
    unfold firstE
    rw [if_neg (by rw [h k (Nat.le_refl _) (by omega)]; simp)]
    exact firstE_mk n (k + 1) fun j h1 h2 => h j (by omega) (by omega)
theorem asc_mk {l : List Int} {n : Int} (h1 : ∀ x ∈ l, 0 ≤ x ∧ x < n) (h2 : l.Pairwise (· < ·)) : ascF l n = 0 := by
  refine firstE_mk _ _ fun j _ hj => ?_
  have hj' : j < l.length := by omega
  have hx := h1 _ (lgm hj')
  unfold ascI
  rw [lge hj', Option.getD_some, if_neg (by omega), if_neg]
  rintro ⟨h0, hle⟩
  rw [lge (show j - 1 < l.length by omega), Option.getD_some] at hle
  have := List.pairwise_iff_getElem.1 h2 (j - 1) j (by omega) hj' (by omega)
  omega
theorem asc_ge {l : List Int} (h : l.Pairwise (· < ·)) (h0 : ∀ x ∈ l, 0 ≤ x) : ∀ i (hi : i < l.length), (i : Int) ≤ l[i]
  | 0, hi => by have := h0 _ (lgm hi); omega
  | i + 1, hi => by
    have h1 := asc_ge h h0 i (by omega)
    have h2 := List.pairwise_iff_getElem.1 h i (i + 1) (by omega) hi (by omega)
    omega
theorem asc_len {l : List Int} {n : Nat} (h : l.Pairwise (· < ·)) (hr : ∀ x ∈ l, 0 ≤ x ∧ x < n) (hN : n ≤ 1000) : l.length ≤ 1000 := by
  rcases Nat.eq_zero_or_pos l.length with h1 | h1
  · omega
  · have h2 := asc_ge h (fun x hx => (hr x hx).1) (l.length - 1) (by omega)
    have h3 := hr _ (lgm (show l.length - 1 < l.length by omega))
    omega
theorem listE_mk {α : Type} {f : α → Int} : ∀ {l : List α}, (∀ x ∈ l, f x = 0) → listE f l = 0
  | [], _ => rfl
  | x :: l, h => by
    unfold listE
    rw [if_neg (by rw [h x (List.mem_cons_self ..)]; simp)]
    exact listE_mk fun y hy => h y (List.mem_cons_of_mem _ hy)
def eA (g : Graph) (k : Int) : Edge := g.edges[k.toNat]?.getD zeroEdge
def iA (l : List Int) (k : Int) : Int := l[k.toNat]?.getD 0
theorem subF_mk {g : Graph} {p : Part} (hg : graphF g = 0) (hn : ∀ x ∈ p.nodes, 0 ≤ x ∧ x < g.nodes.length) (hns : p.nodes.Pairwise (· < ·)) (he : ∀ x ∈ p.edges, 0 ≤ x ∧ x < g.edges.length) (hes : p.edges.Pairwise (· < ·))
    (hends : ∀ k ∈ p.edges, (eA g k).from_ ∈ p.nodes ∧ (eA g k).to_ ∈ p.nodes) : subF g p = 0 := by
  unfold subF partF
  rw [if_neg (by rw [hg]; simp), if_neg (by rw [asc_mk hn hns]; simp), if_neg (by rw [asc_mk he hes]; simp)]
  refine listE_mk fun k hk => ?_
  have h1 := (mem_iff _ _).2 (hends k hk).1
  have h2 := (mem_iff _ _).2 (hends k hk).2
  unfold eA at h1 h2
  unfold dangE; rw [if_pos (by rw [h1, h2]; rfl)]
theorem rangeF_asc (p : Nat → Bool) (n : Nat) : (((List.range n).filter p).map fun (b : Nat) => (b : Int)).Pairwise (· < ·) := by
  rw [List.pairwise_map]
  have h : ((List.range n).filter p).Pairwise (· < ·) := List.Pairwise.filter _ List.pairwise_lt_range
  exact h.imp fun h => by omega
theorem rangeF_iff (p : Nat → Bool) (n : Nat) (x : Int) : x ∈ (((List.range n).filter p).map fun (b : Nat) => (b : Int)) ↔ (0 ≤ x ∧ x < n) ∧ p x.toNat = true := by
  simp only [List.mem_map, List.mem_filter, List.mem_range]
  constructor
  · rintro ⟨a, ⟨h1, h2⟩, rfl⟩; exact ⟨by omega, by simpa using h2⟩
  · rintro ⟨⟨h1, h2⟩, h3⟩; exact ⟨x.toNat, ⟨by omega, h3⟩, by omega⟩
theorem othersL_iff {l : List Int} {n : Nat} {x : Int} : x ∈ othersL l n ↔ (0 ≤ x ∧ x < n) ∧ x ∉ l := by
  unfold othersL
  rw [rangeF_iff]
  constructor
  · rintro ⟨h, h2⟩
    refine ⟨h, fun hm => ?_⟩
    rw [show ((x.toNat : Nat) : Int) = x by omega, (mem_iff l x).2 hm] at h2; cases h2
  · rintro ⟨h, h2⟩
    refine ⟨h, ?_⟩
    rw [show ((x.toNat : Nat) : Int) = x by omega, Bool.not_eq_true', Bool.eq_false_iff]
    exact fun hm => h2 ((mem_iff l x).1 hm)
theorem othersL_asc (l : List Int) (n : Nat) : (othersL l n).Pairwise (· < ·) := rangeF_asc _ n
theorem inL_iff {l : List Int} {n : Nat} {x : Int} : x ∈ inL l n ↔ (0 ≤ x ∧ x < n) ∧ x ∈ l := by
  unfold inL
  rw [rangeF_iff]
  constructor
  · rintro ⟨h, h2⟩
    refine ⟨h, ?_⟩
    rw [show ((x.toNat : Nat) : Int) = x by omega] at h2; exact (mem_iff l x).1 h2
  · rintro ⟨h, h2⟩
    refine ⟨h, ?_⟩
    rw [show ((x.toNat : Nat) : Int) = x by omega]
    exact (mem_iff l x).2 h2
theorem inL_asc (l : List Int) (n : Nat) : (inL l n).Pairwise (· < ·) := rangeF_asc _ n
theorem asc_ext : ∀ {l m : List Int}, l.Pairwise (· < ·) → m.Pairwise (· < ·) → (∀ x, x ∈ l ↔ x ∈ m) → l = m
  | [], [], _, _, _ => rfl
  | [], b :: m, _, _, h => by have := (h b).2 (List.mem_cons_self ..); cases this
  | a :: l, [], _, _, h => by have := (h a).1 (List.mem_cons_self ..); cases this
  | a :: l, b :: m, hl, hm, h => by
    obtain ⟨h1, h2⟩ := List.pairwise_cons.1 hl
    obtain ⟨h3, h4⟩ := List.pairwise_cons.1 hm
    have hab : a = b := by
     have q1 := (h a).1 (List.mem_cons_self ..)
     have q2 := (h b).2 (List.mem_cons_self ..)
     rw [List.mem_cons] at q1 q2
     rcases q1 with q1 | q1
     ·exact q1
     ·rcases q2 with q2 | q2
      ·exact q2.symm
      ·have h5 := h1 b q2
       have h6 := h3 a q1
       omega
    subst hab
    congr 1
    refine asc_ext h2 h4 fun x => ⟨fun hx => ?_, fun hx => ?_⟩
    ·rcases List.mem_cons.1 ((h x).1 (List.mem_cons_of_mem _ hx)) with rfl | h'
     ·have := h1 x hx; omega
     ·exact h'
    ·rcases List.mem_cons.1 ((h x).2 (List.mem_cons_of_mem _ hx)) with rfl | h'
     ·have := h3 x hx; omega
     ·exact h'
theorem sorted_eq {xs : List Int} {n : Nat} (hr : ∀ x ∈ xs, 0 ≤ x ∧ x < n) (hd : xs.Nodup) : sorted xs = inL xs n := by
  have hp : (sorted xs).Perm xs := List.mergeSort_perm _ _
  have hs : (sorted xs).Pairwise fun a b => decide (a ≤ b) = true := List.pairwise_mergeSort (fun a b c h1 h2 => by simp at *; omega) (fun a b => by simp; omega) xs
  have hn : (sorted xs).Nodup := hp.nodup_iff.2 hd
  have hlt : (sorted xs).Pairwise (· < ·) := (hs.and hn).imp fun ⟨h1, h2⟩ => by simp at h1 h2; omega
  exact asc_ext hlt (inL_asc _ _) fun x => by rw [inL_iff, hp.mem_iff]; exact ⟨fun h => ⟨hr x h, h⟩, fun h => h.2⟩
theorem morph_all {a b : Graph} {m : Part} (h : morphF a b m = 0) : (∀ i, i < a.nodes.length → mapNE a b m i = 0) ∧ ∀ k, k < a.edges.length → mapEE a b m k = 0 := by
  obtain ⟨g1, g2, h3, h4⟩ := morphF_len h
  have hM : morphF a b m = (if firstE (mapNE a b m) 0 a.nodes.length ≠ 0 then firstE (mapNE a b m) 0 a.nodes.length else firstE (mapEE a b m) 0 a.edges.length) := by
    unfold morphF; rw [if_neg (by rw [g1]; simp), if_neg (by rw [g2]; simp), if_neg (by omega)]
  rw [hM] at h
  split at h
  · rename_i q; exact absurd h q
  · rename_i q
    exact ⟨fun i hi => firstE_zero a.nodes.length 0 (show firstE (mapNE a b m) 0 a.nodes.length = 0 by omega) i (by omega) (by omega), fun k hk => firstE_zero a.edges.length 0 h k (by omega) (by omega)⟩
theorem morph_node {a b : Graph} {m : Part} (h : morphF a b m = 0) {i : Int} (h0 : 0 ≤ i) (hi : i < a.nodes.length) : (0 ≤ iA m.nodes i ∧ iA m.nodes i < b.nodes.length) ∧ gN b (iA m.nodes i) = gN a i := by
  have q := (morph_all h).1 i.toNat (by omega)
  unfold mapNE at q
  split at q
  · cases q
  · rename_i q1
    split at q
    ·cases q
    ·rename_i q2
     exact ⟨by unfold iA; omega, by unfold gN iA; simpa using q2⟩
theorem morph_edge {a b : Graph} {m : Part} (h : morphF a b m = 0) {k : Int} (h0 : 0 ≤ k) (hk : k < a.edges.length) : (0 ≤ iA m.edges k ∧ iA m.edges k < b.edges.length) ∧ (eA a k).type = (eA b (iA m.edges k)).type ∧
    iA m.nodes (eA a k).from_ = (eA b (iA m.edges k)).from_ ∧ iA m.nodes (eA a k).to_ = (eA b (iA m.edges k)).to_ := by
  have q := (morph_all h).2 k.toNat (by omega)
  unfold mapEE at q
  split at q
  · cases q
  · rename_i q1
    split at q
    ·cases q
    ·rename_i q2
     split at q
     ·cases q
     ·rename_i q3
      unfold eA iA
      refine ⟨by omega, by simpa using q2, ?_, ?_⟩ <;> exact Classical.byContradiction fun hc => q3 (by first | exact .inl hc | exact .inr hc)
theorem edge_in {g : Graph} (hg : graphF g = 0) {k : Int} (h0 : 0 ≤ k) (hk : k < g.edges.length) : (0 ≤ (eA g k).from_ ∧ (eA g k).from_ < g.nodes.length) ∧ (0 ≤ (eA g k).to_ ∧ (eA g k).to_ < g.nodes.length) ∧ 0 ≤ (eA g k).type ∧ (eA g k).type ≤ 99 := by
  have hk' : k.toNat < g.edges.length := by omega
  have hx := (graphF_in hg).2 _ (lgm hk')
  unfold eA
  rw [lge hk', Option.getD_some]
  exact ⟨hx.2.1, hx.2.2, hx.1⟩
theorem dup_none {im keep : List Int} (h : dupL im keep = []) {i k : Nat} (hik : i < k) (hk : k < im.length) : dupB im keep i k = false := by
  rw [Bool.eq_false_iff]
  intro hd
  have hm : (i, k) ∈ dupL im keep := by
    unfold dupL dupN
    rw [List.mem_flatMap]
    refine ⟨i, List.mem_range.2 (by omega), ?_⟩
    unfold dupRow
    rw [List.mem_map]
    exact ⟨k - (i + 1), List.mem_filter.2 ⟨List.mem_range.2 (by omega), by rw [show i + 1 + (k - (i + 1)) = k by omega]; exact hd⟩, by simp; omega⟩
  rw [h] at hm; cases hm
theorem dup_kept {im keep : List Int} (h : dupL im keep = []) {i k : Nat} (hi : i < im.length) (hk : k < im.length) (hne : i ≠ k) (he : im[i]?.getD 0 = im[k]?.getD 0) : mem keep i = true ∧ mem keep k = true := by
  rcases Nat.lt_or_gt_of_ne hne with hlt | hlt
  · have := dup_none h hlt hk
    unfold dupB at this; rw [he] at this; simpa using this
  · have := dup_none h hlt hi
    unfold dupB at this; rw [he] at this; simp at this; exact ⟨this.2, this.1⟩
theorem nodup_dup {im keep : List Int} (h : im.Nodup) : dupL im keep = [] := by
  rw [List.eq_nil_iff_forall_not_mem]
  rintro ⟨i, k⟩ hp
  unfold dupL dupN at hp
  rw [List.mem_flatMap] at hp
  obtain ⟨i', hi', hp⟩ := hp
  unfold dupRow at hp
  rw [List.mem_map] at hp
  obtain ⟨b, hb, he⟩ := hp
  rw [List.mem_filter, List.mem_range] at hb
  rw [List.mem_range] at hi'
  have hd := hb.2
  unfold dupB at hd
  rw [Bool.and_eq_true, decide_eq_true_eq] at hd
  have h1 := hd.1
  rw [lge hi', lge (show i' + 1 + b < im.length by omega), Option.getD_some, Option.getD_some] at h1
  have := (List.getElem_inj h).1 h1
  omega
theorem comp_of {l g : Graph} {keep m : Part} (h : compE l g keep m = 0) : morphF l g m = 0 ∧ subF l keep = 0 ∧ dupL m.nodes keep.nodes = [] ∧ dupL m.edges keep.edges = [] ∧ dangL g m.edges (goneL m.nodes keep.nodes) = [] := by
  unfold compE at h
  split at h
  · rename_i q; exact absurd h q
  · rename_i q
    have q' : compG l g keep m = 0 := by omega
    unfold compG at q'
    split at h
    ·cases h
    ·rename_i q2
     split at h
     ·cases h
     ·rename_i q3
      have q4 : morphF l g m = 0 ∧ subF l keep = 0 := by
       split at q'
       ·rename_i q5; exact absurd q' q5
       ·rename_i q5; exact ⟨by omega, q'⟩
      exact ⟨q4.1, q4.2, List.eq_nil_of_length_eq_zero (by omega), List.eq_nil_of_length_eq_zero (by omega), List.eq_nil_of_length_eq_zero (by omega)⟩
theorem gone_kept {im keep : List Int} (hd : dupL im keep = []) {j : Int} (h0 : 0 ≤ j) (hj : j < im.length) (hk : j ∈ keep) : iA im j ∉ goneL im keep := by
  intro hm
  obtain ⟨i, hi, hki, he⟩ := goneL_mem.1 hm
  have hne : i ≠ j.toNat := by
    rintro rfl
    rw [show ((j.toNat : Nat) : Int) = j by omega, (mem_iff _ _).2 hk] at hki; cases hki
  have := dup_kept hd hi (show j.toNat < im.length by omega) hne (by rw [he]; rfl)
  rw [hki] at this; exact absurd this.1 (by simp)
theorem comp_ok {l g : Graph} {keep m : Part} (h : compE l g keep m = 0) : subF g (compP l g keep m) = 0 := by
  obtain ⟨hm, hs, hd1, hd2, hda⟩ := comp_of h
  unfold compP; rw [if_pos h]
  obtain ⟨hgl, hg, hln, hle⟩ := morphF_len hm
  refine subF_mk hg (fun x hx => othersL_mem hx) (othersL_asc _ _) (fun x hx => othersL_mem hx) (othersL_asc _ _) fun k hk => ?_
  obtain ⟨hkr, hkn⟩ := othersL_iff.1 hk
  have hen := edge_in hg hkr.1 hkr.2
  by_cases hkm : k ∈ m.edges
  · obtain ⟨i, hi, hik⟩ := List.getElem_of_mem hkm
    have hkeep : (i : Int) ∈ keep.edges := by
     refine Classical.byContradiction fun hc => hkn (goneL_mem.2 ⟨i, hi, ?_, ?_⟩)
     ·rw [Bool.eq_false_iff]; exact fun h' => hc ((mem_iff _ _).1 h')
     ·rw [lge hi, hik]
    have hse := subF_ends hs i hkeep
    have hei := edge_in (k := (i : Int)) hgl (by omega) (by omega)
    have hme := morph_edge (k := (i : Int)) hm (by omega) (by omega)
    have hii : iA m.edges i = k := by unfold iA; simp [hi, hik]
    rw [hii] at hme
    have g1 := gone_kept hd1 hei.1.1 (by omega) ((mem_iff _ _).1 hse.1)
    have g2 := gone_kept hd1 hei.2.1.1 (by omega) ((mem_iff _ _).1 hse.2)
    rw [hme.2.2.1] at g1
    rw [hme.2.2.2] at g2
    exact ⟨othersL_iff.2 ⟨hen.1, g1⟩, othersL_iff.2 ⟨hen.2.1, g2⟩⟩
  · have hb : dangB g m.edges (goneL m.nodes keep.nodes) k.toNat = false := by
     rw [Bool.eq_false_iff]
     intro hb
     have hmm : k ∈ dangL g m.edges (goneL m.nodes keep.nodes) := by
      unfold dangL; rw [rangeF_iff]; exact ⟨hkr, hb⟩
     rw [hda] at hmm; cases hmm
    unfold dangB at hb
    rw [show ((k.toNat : Nat) : Int) = k by omega, show mem m.edges k = false by rw [Bool.eq_false_iff]; exact fun h' => hkm ((mem_iff _ _).1 h')] at hb
    simp only [Bool.not_false, Bool.true_and, Bool.or_eq_false_iff] at hb
    exact ⟨othersL_iff.2 ⟨hen.1, fun h' => by have := (mem_iff _ _).2 h'; unfold eA at this; rw [hb.1] at this; cases this⟩, othersL_iff.2 ⟨hen.2.1, fun h' => by have := (mem_iff _ _).2 h'; unfold eA at this; rw [hb.2] at this; cases this⟩⟩
theorem comp_err {l g : Graph} {keep m : Part} (hm : morphF l g m = 0) (hk : subF l keep = 0) (hn : m.nodes.Nodup) (he : m.edges.Nodup) : compE l g keep m = 0 ∨ compE l g keep m = 14 := by
  unfold compE
  have h0 : compG l g keep m = 0 := by unfold compG; rw [if_neg (by rw [hm]; simp), hk]
  rw [if_neg (by rw [h0]; simp), nodup_dup hn, nodup_dup he, if_neg (by simp)]
  split
  · exact .inr rfl
  · exact .inl rfl
theorem injB_of {a b : Graph} {m : Part} (h : injB a b m = true) : morphF a b m = 0 ∧ m.nodes.Nodup ∧ m.edges.Nodup := by
  simpa [injB] using h
theorem inP_sub {t : Types} {r : Rule} (h : Rule.parts t r) : subF r.right.graph (inP r) = 0 := by
  obtain ⟨hge, _, hl1, hl2⟩ := morphF_len h.mor
  refine subF_mk h.gr (fun x hx => (inL_iff.1 hx).1) (inL_asc _ _) (fun x hx => (inL_iff.1 hx).1) (inL_asc _ _) fun k hk => ?_
  obtain ⟨hkr, hkm⟩ := inL_iff.1 hk
  obtain ⟨j, hj, hjk⟩ := List.getElem_of_mem hkm
  have hme := morph_edge (k := (j : Int)) h.mor (by omega) (by omega)
  have hii : iA r.into.edges j = k := by unfold iA; simp [hj, hjk]
  rw [hii] at hme
  have hex := edge_in (k := (j : Int)) hge (by omega) (by omega)
  have hen := edge_in h.gr hkr.1 hkr.2
  have key : ∀ v : Int, 0 ≤ v → v < (extractG r.left.graph r.keep).nodes.length → iA r.into.nodes v ∈ r.into.nodes := fun v h0 h1 => by
    have hv : v.toNat < r.into.nodes.length := by omega
    unfold iA; rw [lge hv, Option.getD_some]; exact lgm hv
  have k1 := key _ hex.1.1 hex.1.2
  have k2 := key _ hex.2.1.1 hex.2.1.2
  rw [hme.2.2.1] at k1
  rw [hme.2.2.2] at k2
  exact ⟨inL_iff.2 ⟨hen.1, k1⟩, inL_iff.2 ⟨hen.2.1, k2⟩⟩
theorem intoS_eq {t : Types} {r : Rule} (h : Rule.parts t r) : intoS r = inP r := by
  obtain ⟨_, h1, h2⟩ := injB_of h.inj
  have hin := morphF_in h.mor
  unfold intoS inP
  rw [sorted_eq hin.1 h1, sorted_eq hin.2 h2]
theorem keep_len {t : Types} {r : Rule} (h : Rule.parts t r) : r.keep.nodes.length = r.into.nodes.length ∧ r.keep.edges.length = r.into.edges.length := by
  obtain ⟨_, _, hl1, hl2⟩ := morphF_len h.mor
  rw [hl1, hl2]; unfold extractG; rw [if_pos h.sub]; simp
theorem glueE_eq {t : Types} {a b : Rule} (ha : Rule.parts t a) (hb : Rule.parts t b) (o : Ovl) : cGlueE a b o = partsE a b o := by
  unfold cGlueE partsE
  rw [intoS_eq ha]
  split
  · rfl
  · rename_i m1
    split
    ·rfl
    ·rename_i m2
     split
     ·rfl
     ·rename_i m3
      have m3' : injB a.right.graph o.graph o.left = true ∧ injB b.left.graph o.graph o.right = true := by
       revert m3; cases injB a.right.graph o.graph o.left <;> cases injB b.left.graph o.graph o.right <;> simp
      obtain ⟨i1, i2, i3⟩ := injB_of m3'.1
      obtain ⟨j1, j2, j3⟩ := injB_of m3'.2
      have c1 := comp_err i1 (inP_sub ha) i2 i3
      have c2 := comp_err j1 hb.sub j2 j3
      change (if compE a.right.graph o.graph (inP a) o.left ≠ 0 ∨ _ then (14 : Int) else 0) = if compE a.right.graph o.graph (inP a) o.left ≠ 0 then compE a.right.graph o.graph (inP a) o.left else compE b.left.graph o.graph b.keep o.right
      rcases c1 with c1 | c1 <;> rcases c2 with c2 | c2 <;> rw [c1, c2] <;> simp
theorem comp_len {l g : Graph} {keep m : Part} (h : compE l g keep m = 0) : (compP l g keep m).nodes.length ≤ 1000 ∧ (compP l g keep m).edges.length ≤ 1000 := by
  obtain ⟨hm, _⟩ := comp_of h
  obtain ⟨_, hg, _, _⟩ := morphF_len hm
  have := graphF_le hg
  unfold compP; rw [if_pos h]
  have h1 := othersL_len (goneL m.nodes keep.nodes) g.nodes.length
  have h2 := othersL_len (goneL m.edges keep.edges) g.edges.length
  exact ⟨by show (othersL _ _).length ≤ _; omega, by show (othersL _ _).length ≤ _; omega⟩
structure GlueOk (a b : Rule) (o : Ovl) : Prop where
  m1 : morphF a.right.graph o.graph o.left = 0
  m2 : morphF b.left.graph o.graph o.right = 0
  i1 : injB a.right.graph o.graph o.left = true
  i2 : injB b.left.graph o.graph o.right = true
  jo : jointB a.right.graph b.left.graph o.graph o.left o.right = true
  c1 : compE a.right.graph o.graph (inP a) o.left = 0
  c2 : compE b.left.graph o.graph b.keep o.right = 0
theorem parts_ok {a b : Rule} {o : Ovl} (h : partsE a b o = 0) : GlueOk a b o := by
  have h' := h
  unfold partsE at h
  split at h
  · rename_i q; exact absurd h q
  · rename_i q1
    split at h
    ·rename_i q; exact absurd h q
    ·rename_i q2
     split at h
     ·cases h
     ·rename_i q3
      split at h
      ·rename_i q; exact absurd h q
      ·rename_i q4
       have m3' : injB a.right.graph o.graph o.left = true ∧ injB b.left.graph o.graph o.right = true ∧ jointB a.right.graph b.left.graph o.graph o.left o.right = true := by
        revert q3; cases injB a.right.graph o.graph o.left <;> cases injB b.left.graph o.graph o.right <;> cases jointB a.right.graph b.left.graph o.graph o.left o.right <;> simp
       exact ⟨by omega, by omega, m3'.1, m3'.2.1, m3'.2.2, by show compE _ _ ⟨inL _ _, inL _ _⟩ _ = 0; omega, h⟩
theorem rok {t : Types} {a b : Rule} {o : Ovl} (ha : Rule.parts t a) (hb : Rule.parts t b) (h : partsE a b o = 0) : ROk a b o (partsD a b o) (partsF a b o) := by
  have g := parts_ok h
  obtain ⟨ka, _⟩ := keep_len ha
  obtain ⟨kb, _⟩ := keep_len hb
  obtain ⟨_, _, la, _⟩ := morphF_len ha.mor
  obtain ⟨_, _, l1, _⟩ := morphF_len g.m1
  obtain ⟨_, _, l2, _⟩ := morphF_len g.m2
  have ia := (morphF_in ha.mor).1
  have hsb := subF_of hb.sub
  have hl1 := comp_len g.c1
  have hl2 := comp_len g.c2
  have e1 : partsD a b o = compP a.right.graph o.graph (inP a) o.left := if_pos h
  have e2 : partsF a b o = compP b.left.graph o.graph b.keep o.right := if_pos h
  have na : a.keep.nodes.length ≤ 1000 := asc_len (subF_of ha.sub).2.1 (subF_of ha.sub).2.2.1 (by have := graphF_le ha.gl; omega)
  have nb : b.keep.nodes.length ≤ 1000 := asc_len hsb.2.1 hsb.2.2.1 (by have := graphF_le hb.gl; omega)
  rw [e1, e2]
  exact ⟨comp_ok g.c1, comp_ok g.c2, hl1.1, hl1.2, hl2.1, hl2.2, ha.gl, hb.gr, ka, kb, by omega, by omega, fun x hx => by have := ia x hx; omega, fun x hx => by have := hsb.2.2.1 x hx; omega⟩
end Go.Abs
end
section
set_option maxRecDepth 8000
open Go Go.Proofs
namespace Go.Abs
theorem sidA_out (av : List Int) (b : Nat) (ns : List Int) (j : Nat) : ∀ i, i ≤ ns.length → (∀ x ∈ ns, x.toNat ≠ j) → (sidA av b ns i)[j]? = av[j]?
  | 0, _, _ => rfl
  | i + 1, hi, h => by
    unfold sidA
    have hx := h _ (lgm (show i < ns.length by omega))
    rw [lge (show i < ns.length by omega), Option.getD_some, List.getElem?_set_ne hx]
    exact sidA_out av b ns j i (by omega) h
theorem sidA_in {av : List Int} {b : Nat} {ns : List Int} (hp : ns.Pairwise (· < ·)) (h0 : ∀ x ∈ ns, 0 ≤ x ∧ x < av.length) {k : Nat} (hk : k < ns.length) : ∀ i, i ≤ ns.length → k < i → (sidA av b ns i)[ns[k].toNat]? = some ((b + k : Nat) : Int)
  | 0, _, h => by omega
  | i + 1, hi, h => by
    unfold sidA
    have hi' : i < ns.length := by omega
    rw [lge hi', Option.getD_some]
    have hr := h0 _ (lgm hk)
    rcases Nat.lt_or_ge k i with hlt | hge
    ·have h1 := List.pairwise_iff_getElem.1 hp k i hk hi' hlt
     have h2 := h0 _ (lgm hi')
     rw [List.getElem?_set_ne (by omega)]
     exact sidA_in hp h0 hk i (by omega) hlt
    ·obtain rfl : k = i := by omega
     rw [List.getElem?_set_self (by rw [sidA_len]; omega)]
theorem atL_in {n : Nat} {keep : List Int} (val : Nat → Int) (hd : keep.Nodup) (h0 : ∀ x ∈ keep, 0 ≤ x ∧ x < n) {k : Nat} (hk : k < keep.length) : ∀ i, i ≤ keep.length → k < i → (atL n keep val i)[keep[k].toNat]? = some (val k)
  | 0, _, h => by omega
  | i + 1, hi, h => by
    unfold atL
    have hi' : i < keep.length := by omega
    rw [lge hi', Option.getD_some]
    have hr := h0 _ (lgm hk)
    rcases Nat.lt_or_ge k i with hlt | hge
    ·have h2 := h0 _ (lgm hi')
     have hne : keep[i] ≠ keep[k] := fun he => by have := (List.getElem_inj hd).1 he; omega
     rw [List.getElem?_set_ne (by omega)]
     exact atL_in val hd h0 hk i (by omega) hlt
    ·obtain rfl : k = i := by omega
     rw [List.getElem?_set_self (by rw [atL_len]; omega)]
theorem others_at {l : List Int} : ∀ (n j : Nat), j < n → mem l j = false → (othersL l n)[(othersL l j).length]? = some (j : Int)
  | 0, j, h, _ => by omega
  | n + 1, j, h, hm => by
    rw [othersL_succ]
    rcases Nat.lt_or_ge j n with hlt | hge
    ·have ih := others_at n j hlt hm
     rw [List.getElem?_append_left (List.getElem?_eq_some_iff.1 ih).1, ih]
    ·obtain rfl : j = n := by omega
     simp [hm]
theorem places_eq {n base : Nat} {p kept into im : List Int} (hd : kept.Nodup) (h0 : ∀ x ∈ kept, 0 ≤ x ∧ x < n) (hl : kept.length = into.length) :
    sidA (atL n kept (valL p into im) kept.length) base (othersL kept n) (othersL kept n).length = plaL base p kept (ledL into im) n := by
  have hal := atL_len n kept (valL p into im) kept.length
  refine List.ext_getElem? fun j => ?_
  by_cases hj : j < n
  · have hR : (plaL base p kept (ledL into im) n)[j]? = some (plcI base p kept (ledL into im) j) := by simp [plaL, hj]
    rw [hR]
    unfold plcI
    by_cases hm : mem kept j = true
    ·rw [if_pos hm]
     obtain ⟨hi0, hi1, hi2⟩ := idx_lt hm
     have hkj : kept[(idx kept (j : Int)).toNat] = (j : Int) := by rw [lge hi1] at hi2; exact Option.some.inj hi2
     rw [sidA_out _ _ _ _ _ (Nat.le_refl _) (fun x hx he => by
      have := othersL_iff.1 hx
      exact this.2 (by rw [show x = (j : Int) by omega]; exact (mem_iff _ _).1 hm))]
     have := atL_in (valL p into im) hd h0 hi1 kept.length (Nat.le_refl _) hi1
     rw [hkj] at this
     rw [show ((j : Int)).toNat = j by omega] at this
     rw [this]
     have hil : (idx kept (j : Int)).toNat < into.length := by omega
     congr 1
     unfold valL ledL
     congr 1
     rw [List.getElem?_map, lge hil]
     rfl
    ·have hm' : mem kept j = false := by simpa using hm
     rw [if_neg hm]
     have ho := others_at n j hj hm'
     obtain ⟨hlt, he⟩ := List.getElem?_eq_some_iff.1 ho
     have := sidA_in (av := atL n kept (valL p into im) kept.length) (b := base) (othersL_asc kept n) (fun x hx => by rw [hal]; exact othersL_mem hx) hlt _ (Nat.le_refl _) hlt
     rw [he] at this
     simpa using this
  · rw [List.getElem?_eq_none (by rw [sidA_len, hal]; omega), List.getElem?_eq_none (by rw [plaL_len]; omega)]
theorem half_eq {g : Graph} {p : Part} {more : Graph} {kept : Part} {into im : List Int} (hd : kept.nodes.Nodup) (h0 : ∀ x ∈ kept.nodes, 0 ≤ x ∧ x < more.nodes.length) (hl : kept.nodes.length = into.length) :
    halfG g p more kept into im = grownG g p more kept (ledL into im) := by
  unfold halfG sideG grownG
  rw [places_eq hd h0 hl]
theorem asc_nodup {l : List Int} (h : l.Pairwise (· < ·)) : l.Nodup := h.imp fun h => by omega
theorem glueG_eq {t : Types} {a b : Rule} {o : Ovl} (ha : Rule.parts t a) (hb : Rule.parts t b) (h : partsE a b o = 0) : cGlueG a b o = ⟨a, b, o, partsD a b o, partsF a b o⟩ := by
  unfold cGlueG partsD partsF
  rw [glueE_eq ha hb, if_pos h, if_pos h, if_pos h, intoS_eq ha]
theorem hokL {t : Types} {a b : Rule} {o : Ovl} (ha : Rule.parts t a) (hb : Rule.parts t b) (h : partsE a b o = 0) : HOk o.graph (partsD a b o) a.left.graph a.keep a.into.nodes o.left.nodes := by
  have r := rok ha hb h
  exact ⟨r.sd, by have := r.ld; omega, by have := r.ld'; omega, r.ga, (subF_of ha.sub).2.2.1, r.ka, r.la, r.ia⟩
theorem hokR {t : Types} {a b : Rule} {o : Ovl} (ha : Rule.parts t a) (hb : Rule.parts t b) (h : partsE a b o = 0) : HOk o.graph (partsF a b o) b.right.graph (intoP b) b.keep.nodes o.right.nodes := by
  have r := rok ha hb h
  exact ⟨r.sf, by have := r.lf; omega, by have := r.lf'; omega, r.gb, (morphF_in hb.mor).1, r.kb.symm, by have := r.kb; have := r.lb; omega, r.ib⟩
theorem halves_eq {t : Types} {a b : Rule} {o : Ovl} (ha : Rule.parts t a) (hb : Rule.parts t b) (h : partsE a b o = 0) :
    halfG o.graph (partsD a b o) a.left.graph a.keep a.into.nodes o.left.nodes = refL a b o (partsD a b o) (partsF a b o) ∧
    halfG o.graph (partsF a b o) b.right.graph (intoP b) b.keep.nodes o.right.nodes = refR a b o (partsD a b o) (partsF a b o) := by
  have r := rok ha hb h
  have hsa := subF_of ha.sub
  refine ⟨half_eq (asc_nodup hsa.2.1) hsa.2.2.1 r.ka, half_eq (kept := intoP b) (injB_of hb.inj).2.1 (morphF_in hb.mor).1 r.kb.symm⟩
theorem whole_eq {t : Types} {a b : Rule} {o : Ovl} (ha : Rule.parts t a) (hb : Rule.parts t b) (h : partsE a b o = 0) : ruleErr (cGlueG a b o) = wholeE a b o ∧ ruleOf (cGlueG a b o) = wholeR a b o := by
  obtain ⟨e1, e2⟩ := halves_eq ha hb h
  have hE : ruleErr (cGlueG a b o) = wholeE a b o := by
    have hw : wholeE a b o = if (bigB (refL a b o (partsD a b o) (partsF a b o)) || bigB (refR a b o (partsD a b o) (partsF a b o))) = true then 3 else 0 := by unfold wholeE; rw [if_neg (by rw [h]; simp)]
    rw [hw, glueG_eq ha hb h]
    change (if (bigB (halfG o.graph (partsD a b o) a.left.graph a.keep a.into.nodes o.left.nodes) || bigB (halfG o.graph (partsF a b o) b.right.graph (intoP b) b.keep.nodes o.right.nodes)) = true then (3 : Int) else 0) = _
    rw [e1, e2]
  refine ⟨hE, ?_⟩
  unfold ruleOf wholeR
  rw [hE, glueG_eq ha hb h]
  change (if _ then concOf (halfG o.graph (partsD a b o) a.left.graph a.keep a.into.nodes o.left.nodes) (halfG o.graph (partsF a b o) b.right.graph (intoP b) b.keep.nodes o.right.nodes) (partsD a b o) (partsF a b o) else _) = _
  rw [e1, e2]
theorem oneR_parts {t : Types} {r : Rule} (h : oneR t r = 0) : Rule.parts t r ∧ structB r = true ∧ ruleF t r = 0 := by
  unfold oneR at h
  split at h
  · rename_i q; exact absurd h q
  · rename_i q
    split at h
    ·cases h
    ·rename_i q2
     have q' : ruleF t r = 0 := by omega
     exact ⟨ruleF_parts q', by simpa using q2, q'⟩
theorem givenR_parts {t : Types} {a b : Rule} (h : givenR t a b = 0) : Rule.parts t a ∧ Rule.parts t b := by
  unfold givenR at h
  split at h
  · rename_i q; exact absurd h q
  · split at h
    ·rename_i q; exact absurd h q
    ·rename_i q; exact ⟨(oneR_parts (by omega)).1, (oneR_parts h).1⟩
end Go.Abs
end
