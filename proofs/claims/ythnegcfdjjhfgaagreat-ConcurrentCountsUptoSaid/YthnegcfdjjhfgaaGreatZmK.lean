/- Layer 22: conditions. · Layer 22: conditions, continued. · L -/
import Derived.Test.YthnegcfdjjhfgaaGreatZmJ
import Derived.Test.YthnegcfdjjhfgaaGreatZmA
set_option linter.unusedVariables false
set_option linter.unusedSimpArgs false
section
set_option maxRecDepth 4000
open Go Go.Proofs
namespace Go.Abs
mutual
theorem Cond.ind {p : Cond → Prop} (h : ∀ c : Cond, (∀ k ∈ c.kids, p k) → p c) : ∀ c : Cond, p c
  | .mk k l m q => h _ (Cond.indL h l)
theorem Cond.indL {p : Cond → Prop} (h : ∀ c : Cond, (∀ k ∈ c.kids, p k) → p c) : ∀ l : List Cond, ∀ k ∈ l, p k
  | [] => fun k hk => absurd hk (by simp)
  | c :: l => fun k hk => by
    rcases List.mem_cons.1 hk with h1 | h1
    ·rw [h1]; exact Cond.ind h c
    ·exact Cond.indL h l k h1
end
def bareB (c : Cond) : Bool := decide ((c.map.nodes.length : Int) + c.map.edges.length + c.pattern.graph.nodes.length + c.pattern.graph.edges.length + c.pattern.slots.length + c.pattern.tests.length = 0) && decide (c.pattern.vars = 0)
structure Cond.short (c : Cond) : Prop where
  m1 : c.map.nodes.length ≤ 1000000
  m2 : c.map.edges.length ≤ 1000000
  p1 : c.pattern.graph.nodes.length ≤ 1000000
  p2 : c.pattern.graph.edges.length ≤ 1000000
  p3 : c.pattern.slots.length ≤ 1000000
  p4 : c.pattern.tests.length ≤ 1000000
theorem condition_bare (c : Cond) (hc : c.short) : Pure Tryz.prog 243 [.agg c.c] (.bool (bareB c)) := by
  obtain ⟨h1, h2, h3, h4, h5, h6⟩ := hc
  refine Tz.pK ⟨fun t => t == 3, fun _ => []⟩ Tryz.func243 rfl (fun Q hQ => ?_)
  try simp [go_sem, seval, Cond.c_eq]
  repeat (first | intro _ | (refine ⟨obl, ?_⟩))
  exact hQ _ _ (by simp [go_sem, Cond.c_eq, bareB] <;> first | omega | (rw [bei]; simp <;> omega) | (simp_all <;> omega))
theorem indexFunc_cond (xs : List Cond) (g : FuncId) (caps : List D) (p : Cond → Bool) (hc : D.clL caps = true) (hg : ∀ x ∈ xs, Pure Tryz.prog g (.agg x.c :: caps) (.bool (p x))) :
    Pure Tryz.prog 282 [.list (xs.map Cond.c), .fn g caps] (dI (idxF xs p)) := by
  refine pure_of_calls (acalls_of_body (cfg := ⟨fun _ => false, fun _ => []⟩) Tz.mixed Tryz.func282 rfl rfl (nlb rfl) (by kernel_rfl) ?_)
  simp [go_sem, seval, dI, dLI]
  intro hlen
  refine loop_rule (ι := Nat) (fun i e H => H = .emp ∧ i ≤ xs.length ∧ e 0 = .list (xs.map Cond.c) ∧ e 1 = .fn g caps ∧ e 7 = dI xs.length ∧ e 8 = dI i ∧ (∀ j x, j < i → xs[j]? = some x → p x = false)) (fun i => xs.length - i) 0 (by simp [go_sem, seval, dI, dLI]) ?_
  intro i e H ⟨hH, hi, h0, h1, h7, h8, hn⟩
  subst hH
  simp [go_sem, seval, h0, h1, h7, h8, dI, dLI]
  refine condQ_dec (fun hlt => ?_) (fun hge => ?_)
  · have hgx := hg xs[i] (lgm hlt)
    simp [go_sem, seval, h0, h1, h7, h8, dI, dLI, hlt, Cond.c_eq] at hgx ⊢
    refine callQ_pure0 hgx (by simp [go_sem, hc]) ?_
    simp [go_sem, seval, h0, h1, h7, h8, dI, dLI]
    refine condQ_mk (fun h => ?_) (fun h => ?_)
    ·simp [go_sem, seval, h0, h1, h7, h8, dI, dLI]
     rw [idxF_some hn hlt h]
    ·simp [go_sem, seval, h0, h1, h7, h8, dI, dLI]
     refine ⟨inR_i64 (by omega) (by omega), i + 1, by omega, by omega, by omega, fun j x hj hx => ?_⟩
     rcases Nat.lt_or_ge j i with hj' | hj'
     ·exact hn j x hj' hx
     ·have : j = i := by omega
      subst this
      rw [lge hlt] at hx
      cases hx; exact h
  · simp [go_sem, seval, h0, h1, h7, h8, dI, dLI]
    rw [idxF_none fun j x hj => hn j x (by omega)]
theorem containsFunc_cond (xs : List Cond) (g : FuncId) (caps : List D) (p : Cond → Bool) (hc : D.clL caps = true) (hl : D.cl (.list (xs.map Cond.c)) = true) (hg : ∀ x ∈ xs, Pure Tryz.prog g (.agg x.c :: caps) (.bool (p x))) :
    Pure Tryz.prog 244 [.list (xs.map Cond.c), .fn g caps] (.bool (xs.any p)) := by
  refine pure_of_calls (acalls_of_body (cfg := ⟨fun _ => false, fun _ => []⟩) Tz.mixed Tryz.func244 rfl rfl (nlb rfl) (by kernel_rfl) ?_)
  simp [go_sem, seval]
  refine callQ_pure0 (indexFunc_cond xs g caps p hc hg) (by simp only [D.clL, hl, Bool.true_and]; simp [D.cl, hc]) ?_
  simp [go_sem, seval, dI, idxF_any]
def kindB (c : Cond) : Bool :=
  if c.kind = 1 then decide ((c.kids.length : Int) = 0) && bareB c
  else if c.kind = 2 then decide ((c.kids.length : Int) = 1) && bareB c
  else if c.kind = 3 ∨ c.kind = 4 then decide (1 ≤ (c.kids.length : Int)) && bareB c
  else decide (c.kind = 5) && decide ((c.kids.length : Int) = 1)
mutual
def wfB : Cond → Bool
  | .mk k l m p => kindB (.mk k l m p) && wfBs l
def wfBs : List Cond → Bool
  | [] => true
  | c :: l => wfB c && wfBs l
end
theorem wfBs_eq (l : List Cond) : wfBs l = l.all wfB := by
  induction l with
  | nil => rfl
  | cons a l ih => simp [wfBs, ih]
theorem wfB_eq (c : Cond) : wfB c = (kindB c && c.kids.all wfB) := by cases c; simp [wfB, wfBs_eq, Cond.kids]
mutual
def Cond.ok : Cond → Prop
  | .mk k l m p => (Cond.mk k l m p).short ∧ Cond.oks l
def Cond.oks : List Cond → Prop
  | [] => True
  | c :: l => c.ok ∧ Cond.oks l
end
theorem Cond.oks_iff (l : List Cond) : Cond.oks l ↔ ∀ c ∈ l, c.ok := by
  induction l with
  | nil => simp [Cond.oks]
  | cons a l ih => simp [Cond.oks, ih]
theorem Cond.ok_iff (c : Cond) : c.ok ↔ c.short ∧ ∀ k ∈ c.kids, k.ok := by cases c; simp [Cond.ok, Cond.oks_iff, Cond.kids]
theorem wf1 (c : Cond) (h : Pure Tryz.prog 175 [.agg c.c] (.bool (wfB c))) : Pure Tryz.prog 245 [.agg c.c] (.bool (!wfB c)) := by
  refine Tz.pK ⟨fun _ => false, fun _ => []⟩ Tryz.func245 rfl (fun Q hQ => ?_)
  try simp [go_sem, seval, Cond.c_eq]
  repeat (first | intro _ | (refine ⟨obl, ?_⟩))
  refine callQ_pure0 ((by simpa [Cond.c_eq, go_sem] using h)) ((by first | rfl | (simp [go_sem, ← List.map_take, ← List.map_drop, Cond.c_eq]; done))) ?_
  try simp [go_sem, seval, Cond.c_eq]
  repeat (first | intro _ | (refine ⟨obl, ?_⟩))
  exact hQ _ _ (by simp [go_sem, Cond.c_eq] <;> first | omega | (rw [bei]; simp <;> omega) | (simp_all <;> omega))
theorem condition_wellFormed : ∀ c : Cond, c.ok → Pure Tryz.prog 175 [.agg c.c] (.bool (wfB c)) := by
  refine Cond.ind fun c ih hc => ?_
  obtain ⟨hs, hk⟩ := (Cond.ok_iff c).1 hc
  have hkids := containsFunc_cond c.kids 245 [] (fun k => !wfB k) rfl (by simp [go_sem]) (fun k hm => wf1 k (ih k hm (hk k hm)))
  have hbare : ∀ k' : Int, k' = c.kind → Pure Tryz.prog 243 [.agg [dI k', .list (c.kids.map Cond.c), dLI c.map.nodes, dLI c.map.edges, dLI c.pattern.graph.nodes, .list (c.pattern.graph.edges.map Edge.c), .list (c.pattern.slots.map Slot.c), dI c.pattern.vars, .list (c.pattern.tests.map Test.c)]] (.bool (bareB c)) := by
    intro k' hk'
    have := condition_bare c hs
    rwa [Cond.c_eq, ← hk'] at this
  have hall : (!(c.kids.any fun k => !wfB k)) = c.kids.all wfB := by simp [List.not_any_eq_all_not]
  refine Tz.pK ⟨fun _ => false, fun _ => []⟩ Tryz.func175 rfl (fun Q hQ => ?_)
  try simp [go_sem, seval, Cond.c_eq]
  repeat (first | intro _ | (refine ⟨obl, ?_⟩))
  refine condQ_mk (fun h4 => ?_) (fun h4 => ?_)
  · try simp [go_sem] at h4
    try simp [go_sem, seval, Cond.c_eq, h4]
    repeat (first | intro _ | (refine ⟨obl, ?_⟩))
    refine gcallQ_pure0 (fun hg => (hbare _ (by omega))) (fun hg => (by first | rfl | (simp [go_sem, ← List.map_take, ← List.map_drop, Cond.c_eq, h4]; done))) ?_
    try simp [go_sem, seval, Cond.c_eq, h4]
    repeat (first | intro _ | (refine ⟨obl, ?_⟩))
    refine gcallQ_pure0 (fun hg => hkids) (fun hg => (by first | rfl | (simp [go_sem, ← List.map_take, ← List.map_drop, Cond.c_eq, h4]; done))) ?_
    try simp [go_sem, seval, Cond.c_eq, h4]
    repeat (first | intro _ | (refine ⟨obl, ?_⟩))
    exact hQ _ _ (by first | (left; (simp [go_sem, wfB_eq, ← hall, kindB, Cond.c_eq, h4]); done) | (right; (simp [go_sem, wfB_eq, ← hall, kindB, Cond.c_eq, h4]); done))
  · try simp [go_sem] at h4
    try simp [go_sem, seval, Cond.c_eq, h4]
    refine condQ_mk (fun h6 => ?_) (fun h6 => ?_)
    ·try simp [go_sem] at h6
     try simp [go_sem, seval, Cond.c_eq, h4, h6]
     repeat (first | intro _ | (refine ⟨obl, ?_⟩))
     refine gcallQ_pure0 (fun hg => (hbare _ (by omega))) (fun hg => (by first | rfl | (simp [go_sem, ← List.map_take, ← List.map_drop, Cond.c_eq, h4, h6]; done))) ?_
     try simp [go_sem, seval, Cond.c_eq, h4, h6]
     repeat (first | intro _ | (refine ⟨obl, ?_⟩))
     refine gcallQ_pure0 (fun hg => hkids) (fun hg => (by first | rfl | (simp [go_sem, ← List.map_take, ← List.map_drop, Cond.c_eq, h4, h6]; done))) ?_
     try simp [go_sem, seval, Cond.c_eq, h4, h6]
     repeat (first | intro _ | (refine ⟨obl, ?_⟩))
     exact hQ _ _ (by first | (left; (simp [go_sem, wfB_eq, ← hall, kindB, Cond.c_eq, h4, h6]); done) | (right; (simp [go_sem, wfB_eq, ← hall, kindB, Cond.c_eq, h4, h6]); done))
    ·try simp [go_sem] at h6
     try simp [go_sem, seval, Cond.c_eq, h4, h6]
     refine condQ_mk (fun h8 => ?_) (fun h8 => ?_)
     ·try simp [go_sem] at h8
      try simp [go_sem, seval, Cond.c_eq, h4, h6, h8]
      repeat (first | intro _ | (refine ⟨obl, ?_⟩))
      refine gcallQ_pure0 (fun hg => (hbare _ (by omega))) (fun hg => (by first | rfl | (simp [go_sem, ← List.map_take, ← List.map_drop, Cond.c_eq, h4, h6, h8]; done))) ?_
      try simp [go_sem, seval, Cond.c_eq, h4, h6, h8]
      repeat (first | intro _ | (refine ⟨obl, ?_⟩))
      refine gcallQ_pure0 (fun hg => hkids) (fun hg => (by first | rfl | (simp [go_sem, ← List.map_take, ← List.map_drop, Cond.c_eq, h4, h6, h8]; done))) ?_
      try simp [go_sem, seval, Cond.c_eq, h4, h6, h8]
      repeat (first | intro _ | (refine ⟨obl, ?_⟩))
      exact hQ _ _ (by first | (left; (simp [go_sem, wfB_eq, ← hall, kindB, Cond.c_eq, h4, h6, h8]); done) | (right; (simp [go_sem, wfB_eq, ← hall, kindB, Cond.c_eq, h4, h6, h8]); done))
     ·try simp [go_sem] at h8
      try simp [go_sem, seval, Cond.c_eq, h4, h6, h8]
      refine condQ_mk (fun h9 => ?_) (fun h9 => ?_)
      ·try simp [go_sem] at h9
       try simp [go_sem, seval, Cond.c_eq, h4, h6, h8, h9]
       repeat (first | intro _ | (refine ⟨obl, ?_⟩))
       refine gcallQ_pure0 (fun hg => (hbare _ (by omega))) (fun hg => (by first | rfl | (simp [go_sem, ← List.map_take, ← List.map_drop, Cond.c_eq, h4, h6, h8, h9]; done))) ?_
       try simp [go_sem, seval, Cond.c_eq, h4, h6, h8, h9]
       repeat (first | intro _ | (refine ⟨obl, ?_⟩))
       refine gcallQ_pure0 (fun hg => hkids) (fun hg => (by first | rfl | (simp [go_sem, ← List.map_take, ← List.map_drop, Cond.c_eq, h4, h6, h8, h9]; done))) ?_
       try simp [go_sem, seval, Cond.c_eq, h4, h6, h8, h9]
       repeat (first | intro _ | (refine ⟨obl, ?_⟩))
       exact hQ _ _ (by first | (left; (simp [go_sem, wfB_eq, ← hall, kindB, Cond.c_eq, h4, h6, h8, h9]); done) | (right; (simp [go_sem, wfB_eq, ← hall, kindB, Cond.c_eq, h4, h6, h8, h9]); done))
      ·try simp [go_sem] at h9
       try simp [go_sem, seval, Cond.c_eq, h4, h6, h8, h9]
       refine condQ_mk (fun h11 => ?_) (fun h11 => ?_)
       ·try simp [go_sem] at h11
        try simp [go_sem, seval, Cond.c_eq, h4, h6, h8, h9, h11]
        repeat (first | intro _ | (refine ⟨obl, ?_⟩))
        refine gcallQ_pure0 (fun hg => hkids) (fun hg => (by first | rfl | (simp [go_sem, ← List.map_take, ← List.map_drop, Cond.c_eq, h4, h6, h8, h9, h11]; done))) ?_
        try simp [go_sem, seval, Cond.c_eq, h4, h6, h8, h9, h11]
        repeat (first | intro _ | (refine ⟨obl, ?_⟩))
        exact hQ _ _ (by first | (left; (simp [go_sem, wfB_eq, ← hall, kindB, Cond.c_eq, h4, h6, h8, h9, h11]); done) | (right; (simp [go_sem, wfB_eq, ← hall, kindB, Cond.c_eq, h4, h6, h8, h9, h11]); done))
       ·try simp [go_sem] at h11
        try simp [go_sem, seval, Cond.c_eq, h4, h6, h8, h9, h11]
        repeat (first | intro _ | (refine ⟨obl, ?_⟩))
        refine gcallQ_pure0 (fun hg => hkids) (fun hg => (by first | rfl | (simp [go_sem, ← List.map_take, ← List.map_drop, Cond.c_eq, h4, h6, h8, h9, h11]; done))) ?_
        try simp [go_sem, seval, Cond.c_eq, h4, h6, h8, h9, h11]
        repeat (first | intro _ | (refine ⟨obl, ?_⟩))
        exact hQ _ _ (by first | (left; (simp [go_sem, wfB_eq, ← hall, kindB, Cond.c_eq, h4, h6, h8, h9, h11]); done) | (right; (simp [go_sem, wfB_eq, ← hall, kindB, Cond.c_eq, h4, h6, h8, h9, h11]); done))
end Go.Abs
end
section
set_option maxRecDepth 4000
open Go Go.Proofs
namespace Go.Abs
mutual
def Cond.size : Cond → Nat
  | .mk _ l _ _ => 1 + Cond.sizes l
def Cond.sizes : List Cond → Nat
  | [] => 0
  | c :: l => c.size + Cond.sizes l
end
mutual
def Cond.dep : Cond → Nat
  | .mk k l _ _ => Cond.deps l + (if k = 5 then 1 else 0)
def Cond.deps : List Cond → Nat
  | [] => 0
  | c :: l => max c.dep (Cond.deps l)
end
theorem sizes_snoc (l : List Cond) (c : Cond) : Cond.sizes (l ++ [c]) = Cond.sizes l + c.size := by
  induction l with
  | nil => simp [Cond.sizes]
  | cons a l ih => simp [Cond.sizes, ih]; omega
theorem deps_snoc (l : List Cond) (c : Cond) : Cond.deps (l ++ [c]) = max (Cond.deps l) c.dep := by
  induction l with
  | nil => simp [Cond.deps]
  | cons a l ih => simp only [List.cons_append, Cond.deps, ih]; omega
theorem size_eq (c : Cond) : c.size = 1 + Cond.sizes c.kids := by cases c; simp [Cond.size, Cond.kids]
theorem dep_eq (c : Cond) : c.dep = Cond.deps c.kids + (if c.kind = 5 then 1 else 0) := by cases c; rw [Cond.dep]; rfl
@[go_sem] theorem sizes_nil : Cond.sizes [] = 0 := by simp [Cond.sizes]
@[go_sem] theorem deps_nil : Cond.deps [] = 0 := by simp [Cond.deps]
theorem size_mem {l : List Cond} {c : Cond} (h : c ∈ l) : c.size ≤ Cond.sizes l := by
  induction l with
  | nil => cases h
  | cons a l ih =>
    rcases List.mem_cons.1 h with h1 | h1
    · subst h1; simp only [Cond.sizes]; omega
    · have := ih h1; simp only [Cond.sizes]; omega
theorem sizes_take (l : List Cond) (i : Nat) : Cond.sizes (l.take i) ≤ Cond.sizes l := by
  induction l generalizing i with
  | nil => simp
  | cons a l ih => cases i with
    | zero => simp [Cond.sizes]
    | succ i => have := ih i; simp only [List.take_succ_cons, Cond.sizes]; omega
mutual
theorem dep_le : ∀ c : Cond, c.dep ≤ c.size
  | .mk k l m p => by have := deps_le l; simp only [Cond.dep, Cond.size]; split <;> omega
theorem deps_le : ∀ l : List Cond, Cond.deps l ≤ Cond.sizes l
  | [] => by simp [Cond.deps]
  | c :: l => by have := dep_le c; have := deps_le l; simp only [Cond.deps, Cond.sizes]; omega
end
theorem maxI (a b : Nat) : (if (a : Int) < (b : Int) then (b : Int) else (a : Int)) = ((max a b : Nat) : Int) := by split <;> omega
theorem condition_measure : ∀ c : Cond, c.size ≤ 1000000 → Pure Tryz.prog 176 [.agg c.c] (.tup [dI c.size, dI c.dep]) := by
  refine Cond.ind fun c ih hc => ?_
  have hse := size_eq c
  have hde := dep_eq c
  have hle := deps_le c.kids
  refine Tz.pK ⟨fun t => t == 7, fun _ => []⟩ Tryz.func176 rfl (fun Q hQ => ?_)
  try simp [go_sem, seval, Cond.c_eq]
  repeat (first | intro _ | (refine ⟨obl, ?_⟩))
  obtain ⟨I0, hI0⟩ := mkI fun i e H => ((e 1 = .adr c.c) ∧ (e 11 = .list (c.kids.map Cond.c)) ∧ (e 12 = dI c.kids.length) ∧ (e 4 = dI ((1 + Cond.sizes (c.kids.take i) : Nat) : Int)) ∧ (e 5 = dI (Cond.deps (c.kids.take i) : Nat)) ∧ (e 13 = dI i) ∧ (i ≤ c.kids.length))
  refine loopK I0 (fun i => c.kids.length - i) (0) ((hI0 _ _ _).2 ⟨?_, ?_, ?_, ?_, ?_, ?_, (by first | assumption | omega | (simp [go_sem, Cond.c_eq]; done) | (simp_all; done))⟩) ?_
  iterate 6 (first | omega | (simp [go_sem, seval, Cond.c_eq] <;> omega))
  intro i e H hi0
  obtain ⟨q1_0, q11_0, q12_0, q4_0, q5_0, q13_0, hi⟩ := (hI0 _ _ _).1 hi0
  have F0 := And.intro q1_0 (And.intro q11_0 (And.intro q12_0 q13_0))
  try simp [go_sem, seval, Cond.c_eq, F0, q4_0, q5_0]
  refine condQ_mk (fun h3 => ?_) (fun h3 => ?_)
  · try simp [go_sem] at h3
    have hsm := size_mem (lgm h3)
    have hdm := dep_le c.kids[i]
    have hts := List.take_succ_eq_append_getElem h3
    have h1s := sizes_snoc (c.kids.take i) c.kids[i]
    have h1d := deps_snoc (c.kids.take i) c.kids[i]
    have hst := sizes_take c.kids (i + 1)
    have hS : Cond.sizes (c.kids.take (i + 1)) = Cond.sizes (c.kids.take i) + c.kids[i].size := by rw [hts, h1s]
    have hD : Cond.deps (c.kids.take (i + 1)) = max (Cond.deps (c.kids.take i)) c.kids[i].dep := by rw [hts, h1d]
    have hdt := deps_le (c.kids.take i)
    try simp [go_sem, seval, Cond.c_eq, F0, q4_0, q5_0, h3, hS, hD, maxI]
    repeat (first | intro _ | (refine ⟨obl, ?_⟩))
    refine callQ_pure0 ((by have := ih _ (lgm h3) (by omega); rwa [Cond.c_eq] at this)) ((by first | rfl | (simp [go_sem, ← List.map_take, ← List.map_drop, Cond.c_eq, F0, q4_0, q5_0, h3, hS, hD, maxI]; done))) ?_
    try simp [go_sem, seval, Cond.c_eq, F0, q4_0, q5_0, h3, hS, hD, maxI]
    repeat (first | intro _ | (refine ⟨obl, ?_⟩))
    refine nextQ_mk (i + 1) (by omega) ((hI0 _ _ _).2 ⟨?_, ?_, ?_, ?_, ?_, ?_, (by first | assumption | omega | (simp [go_sem, Cond.c_eq, F0, q4_0, q5_0, h3, hS, hD, maxI]; done) | (simp_all <;> omega))⟩) <;> first | omega | (simp [go_sem, seval, Cond.c_eq, F0, q4_0, q5_0, h3, hS, hD, maxI] <;> omega)
  · try simp [go_sem] at h3
    have hU : c.kids.take i = c.kids := List.take_of_length_le h3
    rw [hU] at q4_0 q5_0
    try simp [go_sem, seval, Cond.c_eq, F0, q4_0, q5_0]
    refine condQ_mk (fun h8 => ?_) (fun h8 => ?_)
    · try simp [go_sem] at h8
      try simp [go_sem, seval, Cond.c_eq, F0, q4_0, q5_0]
      repeat (first | intro _ | (refine ⟨obl, ?_⟩))
      exact hQ _ _ (by first | (left; (simp [go_sem, hse, hde, h8]); done) | (right; (simp [go_sem, hse, hde, h8]); done))
    · try simp [go_sem] at h8
      try simp [go_sem, seval, Cond.c_eq, F0, q4_0, q5_0]
      exact hQ _ _ (by first | (left; (simp [go_sem, hse, hde, h8]); done) | (right; (simp [go_sem, hse, hde, h8]); done))
def shapeF (c : Cond) : Int := if wfB c = false then 1 else if 12 < c.size ∨ 3 < c.dep then 3 else 0
theorem condition_shape (c : Cond) (hc : c.ok) (hs : c.size ≤ 1000000) : Pure Tryz.prog 94 [.agg c.c] (dI (shapeF c)) := by
  refine Tz.pK ⟨fun _ => false, fun _ => []⟩ Tryz.func94 rfl (fun Q hQ => ?_)
  try simp [go_sem, seval, Cond.c_eq]
  repeat (first | intro _ | (refine ⟨obl, ?_⟩))
  refine callQ_pure0 ((by have := condition_wellFormed c hc; rwa [Cond.c_eq] at this)) ((by first | rfl | (simp [go_sem, ← List.map_take, ← List.map_drop, Cond.c_eq]; done))) ?_
  try simp [go_sem, seval, Cond.c_eq]
  repeat (first | intro _ | (refine ⟨obl, ?_⟩))
  refine condQ_mk (fun h1 => ?_) (fun h1 => ?_)
  · try simp [go_sem] at h1
    try simp [go_sem, seval, Cond.c_eq]
    exact hQ _ _ (by first | (left; (simp [go_sem, shapeF, h1]); done) | (right; (simp [go_sem, shapeF, h1]); done))
  · try simp [go_sem] at h1
    try simp [go_sem, seval, Cond.c_eq]
    refine callQ_pure0 ((by have := condition_measure c hs; rwa [Cond.c_eq] at this)) ((by first | rfl | (simp [go_sem, ← List.map_take, ← List.map_drop, Cond.c_eq]; done))) ?_
    try simp [go_sem, seval, Cond.c_eq]
    repeat (first | intro _ | (refine ⟨obl, ?_⟩))
    refine condQ_mk (fun h4 => ?_) (fun h4 => ?_)
    · try simp [go_sem] at h4
      try simp [go_sem, seval, Cond.c_eq]
      exact hQ _ _ (by first | (left; (simp [go_sem, shapeF, h1]; omega); done) | (right; (simp [go_sem, shapeF, h1]; omega); done))
    · try simp [go_sem] at h4
      try simp [go_sem, seval, Cond.c_eq]
      exact hQ _ _ (by first | (left; (simp [go_sem, shapeF, h1]; omega); done) | (right; (simp [go_sem, shapeF, h1]; omega); done))
def innerF (t : Types) (q : Pattern) (outer : Int) : Int :=
  if patternF t q ≠ 9 then patternF t q
  else if ((List.range q.vars.toNat).all fun (v : Nat) => decide ((v : Int) < outer) || occursB q v) = true then 0 else 9
theorem innerF_zero {t : Types} {q : Pattern} {outer : Int} (h : patternF t q = 9) (h0 : 0 ≤ outer) (ho : ∀ v : Int, outer ≤ v → v < q.vars → occursB q v = true) : innerF t q outer = 0 := by
  unfold innerF
  rw [if_neg (by omega), if_pos]
  rw [List.all_eq_true]
  intro v hv
  simp at hv ⊢
  by_cases hlt : (v : Int) < outer
  · exact .inl hlt
  · exact .inr (ho v (by omega) (by omega))
theorem innerF_nine {t : Types} {q : Pattern} {outer : Int} (h : patternF t q = 9) (h0 : 0 ≤ outer) {v : Int} (h1 : outer ≤ v) (h2 : v < q.vars) (h3 : occursB q v = false) : innerF t q outer = 9 := by
  unfold innerF
  rw [if_neg (by omega), if_neg]
  intro ha
  rw [List.all_eq_true] at ha
  have := ha v.toNat (by simp; omega)
  simp at this
  rw [show max v 0 = v by omega, h3] at this
  simp at this; omega
theorem firstE_ne {f : Nat → Int} {m : Int} (h0 : (0 : Int) ≠ m) (h : ∀ j, f j ≠ m) : ∀ n k, firstE f k n ≠ m
  | 0, k => h0
  | n + 1, k => by unfold firstE; split; exact h k; exact firstE_ne h0 h n (k + 1)
theorem firstNE_ne {f : Nat → Int} {nm : Nat → ByteArray} {last : ByteArray × Int} {m : Int} (h0 : last.2 ≠ m) (h : ∀ j, f j ≠ m) : ∀ n k, (firstNE f nm last k n).2 ≠ m
  | 0, k => h0
  | n + 1, k => by unfold firstNE; split; exact h k; exact firstNE_ne h0 h n (k + 1)
theorem namesE_ne : ∀ (r l : List ByteArray), namesE l r ≠ 9
  | [], l => by simp [namesE]
  | s :: r, l => by
    unfold namesE
    split
    · decide
    · split
      · decide
      · exact namesE_ne r _
theorem namesF_ne (l : List ByteArray) : namesF l ≠ 9 := by unfold namesF; split; decide; exact namesE_ne l []
theorem attributeF_ne (x : Attr) (l : List Attr) : attributeF x l ≠ 9 := by
  have := namesF_ne x.names
  unfold attributeF
  repeat' split
  all_goals first | assumption | decide
theorem nodeF_ne (t : Types) (i : Nat) : nodeF t i ≠ 9 := by
  unfold nodeF
  split
  · decide
  · repeat' split
    all_goals first | decide | skip
    refine firstE_ne (by decide) (fun j => ?_) _ _
    split
    · exact attributeF_ne _ _
    · decide
theorem edgeF_ne (t : Types) (i : Nat) : edgeF t i ≠ 9 := by
  unfold edgeF
  split
  · decide
  · repeat' split
    all_goals decide
theorem validF_ne (t : Types) : (validF t).2 ≠ 9 := by
  unfold validF
  split
  · decide
  · split
    · decide
    · exact firstNE_ne (firstNE_ne (by decide) (edgeF_ne t) _ _) (nodeF_ne t) _ _
theorem condition_pattern1 (s : Slot) (v : Int) : Pure Tryz.prog 246 [.agg s.c, .adr [dI v]] (.bool (decide (s.term.var = v))) := by
  refine Tz.pK ⟨fun _ => false, fun _ => []⟩ Tryz.func246 rfl (fun Q hQ => ?_)
  try simp [go_sem, seval]
  exact hQ _ _ (by simp [go_sem] <;> first | omega | (rw [bei]; simp <;> omega) | (simp_all <;> omega))
theorem indexFunc_slot (xs : List Slot) (g : FuncId) (caps : List D) (p : Slot → Bool) (hc : D.clL caps = true) (hg : ∀ x ∈ xs, Pure Tryz.prog g (.agg x.c :: caps) (.bool (p x))) :
    Pure Tryz.prog 237 [.list (xs.map Slot.c), .fn g caps] (dI (idxF xs p)) := by
  refine pure_of_calls (acalls_of_body (cfg := ⟨fun _ => false, fun _ => []⟩) Tz.mixed Tryz.func237 rfl rfl (nlb rfl) (by kernel_rfl) ?_)
  simp [go_sem, seval, dI, dLI]
  intro hlen
  refine loop_rule (ι := Nat) (fun i e H => H = .emp ∧ i ≤ xs.length ∧ e 0 = .list (xs.map Slot.c) ∧ e 1 = .fn g caps ∧ e 7 = dI xs.length ∧ e 8 = dI i ∧ (∀ j x, j < i → xs[j]? = some x → p x = false)) (fun i => xs.length - i) 0 (by simp [go_sem, seval, dI, dLI]) ?_
  intro i e H ⟨hH, hi, h0, h1, h7, h8, hn⟩
  subst hH
  simp [go_sem, seval, h0, h1, h7, h8, dI, dLI]
  refine condQ_dec (fun hlt => ?_) (fun hge => ?_)
  · have hgx := hg xs[i] (lgm hlt)
    simp [go_sem, seval, h0, h1, h7, h8, dI, dLI, hlt, Slot.c] at hgx ⊢
    refine callQ_pure0 hgx (by simp [go_sem, hc]) ?_
    simp [go_sem, seval, h0, h1, h7, h8, dI, dLI]
    refine condQ_mk (fun h => ?_) (fun h => ?_)
    · simp [go_sem, seval, h0, h1, h7, h8, dI, dLI]
      rw [idxF_some hn hlt h]
    · simp [go_sem, seval, h0, h1, h7, h8, dI, dLI]
      refine ⟨inR_i64 (by omega) (by omega), i + 1, by omega, by omega, by omega, fun j x hj hx => ?_⟩
      rcases Nat.lt_or_ge j i with hj' | hj'
      · exact hn j x hj' hx
      · have : j = i := by omega
        subst this
        rw [lge hlt] at hx
        cases hx; exact h
  · simp [go_sem, seval, h0, h1, h7, h8, dI, dLI]
    rw [idxF_none fun j x hj => hn j x (by omega)]
theorem containsFunc_slot (xs : List Slot) (g : FuncId) (caps : List D) (p : Slot → Bool) (hc : D.clL caps = true) (hl : D.cl (.list (xs.map Slot.c)) = true) (hg : ∀ x ∈ xs, Pure Tryz.prog g (.agg x.c :: caps) (.bool (p x))) :
    Pure Tryz.prog 168 [.list (xs.map Slot.c), .fn g caps] (.bool (xs.any p)) := by
  refine pure_of_calls (acalls_of_body (cfg := ⟨fun _ => false, fun _ => []⟩) Tz.mixed Tryz.func168 rfl rfl (nlb rfl) (by kernel_rfl) ?_)
  simp [go_sem, seval]
  refine callQ_pure0 (indexFunc_slot xs g caps p hc hg) (by simp only [D.clL, hl, Bool.true_and]; simp [D.cl, hc]) ?_
  simp [go_sem, seval, dI, idxF_any]
theorem patternF_vars {t : Types} {q : Pattern} (h : patternF t q = 9 ∨ patternF t q = 0) : 0 ≤ q.vars ∧ q.vars ≤ 12 := by
  have hne := validF_ne t
  unfold patternF at h
  by_cases h1 : (validF t).2 = 0
  · rw [if_neg (by omega)] at h
    by_cases h2 : graphF q.graph = 0
    · rw [if_neg (by omega)] at h
      split at h
      · omega
      · split at h
        · omega
        · rename_i h3; simp [inF] at h3; omega
    · rw [if_pos h2] at h
      have h3 : graphF q.graph ≠ 9 := by unfold graphF; repeat' split
                                         all_goals decide
      omega
  · rw [if_pos h1] at h
    omega
theorem condition_pattern (t : Types) (ht : t.ok) (q : Pattern) (outer : Int) (h0 : 0 ≤ outer) : Pure Tryz.prog 177 [t.d, q.d, dI outer] (dI (innerF t q outer)) := by
  refine Tz.pK ⟨fun t => t == 8, fun _ => []⟩ Tryz.func177 rfl (fun Q hQ => ?_)
  try simp [go_sem, seval]
  refine callQ_pure0 (attribute_Valid t ht q) ((by first | rfl | (simp [go_sem, ← List.map_take, ← List.map_drop]; done))) ?_
  try simp [go_sem, seval]
  refine condQ_mk (fun h2 => ?_) (fun h2 => ?_)
  · try simp [go_sem] at h2
    try simp [go_sem, seval]
    exact hQ _ _ (by first | (left; (simp [go_sem, innerF, h2]); done) | (right; (simp [go_sem, innerF, h2]); done))
  · try simp [go_sem] at h2
    have hv := patternF_vars (.inl h2)
    try simp [go_sem, seval]
    obtain ⟨I0, hI0⟩ := mkI fun v e H => (∃ id : Nat, (e 4 = .adr q.c) ∧ (e 7 = dI 9) ∧ (e 8 = .ptr id 1 0 0) ∧ (H.get id = some ⟨3, 1, [[dI (outer + v)]], false⟩) ∧ (id < H.next) ∧ (∀ u : Int, outer ≤ u → u < outer + v → occursB q u = true))
    refine loopK I0 (fun v => (q.vars - outer).toNat - v) (0) ((hI0 _ _ _).2 ⟨(0), ?_, ?_, ?_, ?_, ?_, (by (intro u hu hv; omega))⟩) ?_
    iterate 5 (first | omega | (simp [go_sem, seval] <;> omega))
    intro v e H hi0
    obtain ⟨id, q4_0, q7_0, q8_0, gid_0, nid_0, ho⟩ := (hI0 _ _ _).1 hi0
    have xid := frs nid_0
    have F0 := And.intro q4_0 (And.intro q7_0 (And.intro q8_0 (And.intro gid_0 xid)))
    try simp [go_sem, seval, F0]
    refine condQ_mk (fun h5 => ?_) (fun h5 => ?_)
    · try simp [go_sem] at h5
      have hOv : (q.slots.any fun s => decide (s.term.var = outer + v)) = occursB q (outer + v) := rfl
      try simp [go_sem, seval, F0, h5, hOv]
      repeat (first | intro _ | (refine ⟨obl, ?_⟩))
      refine callQ_pureC ((containsFunc_slot q.slots 246 [.adr [dI (outer + v)]] (fun s => decide (s.term.var = outer + v)) (by simp [go_sem]) (by simp [go_sem]) (fun s _ => condition_pattern1 s (outer + v)))) (by simp [rsvC, rsvP, cellsAt, go_sem, ← List.map_take, ← List.map_drop, F0, h5, hOv]) ((by first | rfl | (simp [go_sem, ← List.map_take, ← List.map_drop, F0, h5, hOv]; done))) ( rfl) ?_
      try simp [go_sem, seval, F0, h5, hOv]
      repeat (first | intro _ | (refine ⟨obl, ?_⟩))
      refine condQ_mk (fun h7 => ?_) (fun h7 => ?_)
      · try simp [go_sem] at h7
        try simp [go_sem, seval, F0, h5, hOv]
        exact hQ _ _ (by first | (left; (rw [innerF_nine h2 h0 (v := outer + v) (by omega) h5 (by simpa using h7)]; simp [go_sem]); done) | (right; (rw [innerF_nine h2 h0 (v := outer + v) (by omega) h5 (by simpa using h7)]; simp [go_sem]); done))
      · try simp [go_sem] at h7
        have ho' : ∀ u : Int, outer ≤ u → u < outer + ((v + 1 : Nat) : Int) → occursB q u = true := fun u hu hv => by
          by_cases hc : u < outer + v
          · exact ho u hu hc
          · rw [show u = outer + v by omega]; simpa using h7
        try simp [go_sem, seval, F0, h5, hOv]
        repeat (first | intro _ | (refine ⟨obl, ?_⟩))
        refine nextQ_mk (v + 1) (by omega) ((hI0 _ _ _).2 ⟨(H.next), ?_, ?_, ?_, ?_, ?_, (by exact ho')⟩) <;> first | omega | (simp [go_sem, seval, F0, h5, hOv] <;> omega)
    · try simp [go_sem] at h5
      try simp [go_sem, seval, F0]
      exact hQ _ _ (by first | (left; (rw [innerF_zero h2 h0 fun u hu hv => ho u hu (by omega)]; simp [go_sem]); done) | (right; (rw [innerF_zero h2 h0 fun u hu hv => ho u hu (by omega)]; simp [go_sem]); done))
end Go.Abs
end
section
set_option maxRecDepth 4000
open Go Go.Proofs
namespace Go.Abs
def existsE (t : Types) (p : Pattern) (m : Part) (q : Pattern) : Int :=
  if q.vars < p.vars then 20
  else if innerF t q p.vars ≠ 0 then innerF t q p.vars
  else if morphF p.graph q.graph m ≠ 0 then morphF p.graph q.graph m
  else if injB p.graph q.graph m = false then 1 else 0
mutual
def insF (t : Types) : Pattern → Cond → Int
  | p, .mk k l m q => if (if k = 5 then existsE t p m q else 0) ≠ 0 then (if k = 5 then existsE t p m q else 0) else insL t (if k = 5 then q else p) l
def insL (t : Types) : Pattern → List Cond → Int
  | _, [] => 0
  | p, c :: l => if insF t p c ≠ 0 then insF t p c else insL t p l
end
theorem insL_eq (t : Types) (p : Pattern) (l : List Cond) : insL t p l = listE (insF t p) l := by
  induction l with
  | nil => simp [insL, listE]
  | cons a l ih => simp only [insL, listE, ih]
theorem insF_eq (t : Types) (p : Pattern) (c : Cond) : insF t p c = if (if c.kind = 5 then existsE t p c.map c.pattern else 0) ≠ 0 then (if c.kind = 5 then existsE t p c.map c.pattern else 0) else listE (insF t (if c.kind = 5 then c.pattern else p)) c.kids := by
  cases c; simp only [insF, insL_eq]; rfl
theorem innerF_vars {t : Types} {q : Pattern} {o : Int} (h : innerF t q o = 0) : 0 ≤ q.vars ∧ q.vars ≤ 12 := by
  unfold innerF at h
  split at h
  · exact patternF_vars (.inr h)
  · rename_i h1; exact patternF_vars (t := t) (.inl (by omega))
theorem condition_inside (t : Types) (ht : t.ok) : ∀ (c : Cond) (p : Pattern), 0 ≤ p.vars → p.vars ≤ 12 → Pure Tryz.prog 95 [t.d, p.d, .agg c.c] (dI (insF t p c)) := by
  refine Cond.ind fun c ih p hp0 hp1 => ?_
  have hF := insF_eq t p c
  refine Tz.pK ⟨fun t => t == 4 || t == 7 || t == 11, fun _ => []⟩ Tryz.func95 rfl (fun Q hQ => ?_)
  try simp [go_sem, seval, Cond.c_eq]
  refine condQ_mk (fun h1 => ?_) (fun h1 => ?_)
  · try simp [go_sem] at h1
    rw [if_pos h1, if_pos h1] at hF
    try simp [go_sem, seval, Cond.c_eq]
    refine condQ_mk (fun h3 => ?_) (fun h3 => ?_)
    ·try simp [go_sem] at h3
     try simp [go_sem, seval, Cond.c_eq]
     exact hQ _ _ (by first | (left; (simp [go_sem, hF, existsE, h3]); done) | (right; (simp [go_sem, hF, existsE, h3]); done))
    ·try simp [go_sem] at h3
     try simp [go_sem, seval, Cond.c_eq]
     refine callQ_pure0 (condition_pattern t ht c.pattern p.vars hp0) ((by first | rfl | (simp [go_sem, ← List.map_take, ← List.map_drop, Cond.c_eq]; done))) ?_
     try simp [go_sem, seval, Cond.c_eq]
     refine condQ_mk (fun h6 => ?_) (fun h6 => ?_)
     ·try simp [go_sem] at h6
      try simp [go_sem, seval, Cond.c_eq]
      exact hQ _ _ (by first | (left; (simp [go_sem, hF, existsE, h6]; omega); done) | (right; (simp [go_sem, hF, existsE, h6]; omega); done))
     ·try simp [go_sem] at h6
      try simp [go_sem, seval, Cond.c_eq]
      refine callQ_pure0 (morphism_Valid p.graph c.pattern.graph c.map) ((by first | rfl | (simp [go_sem, ← List.map_take, ← List.map_drop, Cond.c_eq]; done))) ?_
      try simp [go_sem, seval, Cond.c_eq]
      refine condQ_mk (fun h9 => ?_) (fun h9 => ?_)
      ·try simp [go_sem] at h9
       try simp [go_sem, seval, Cond.c_eq]
       exact hQ _ _ (by first | (left; (simp [go_sem, hF, existsE, h6, h9]; omega); done) | (right; (simp [go_sem, hF, existsE, h6, h9]; omega); done))
      ·try simp [go_sem] at h9
       have hm := morphF_len h9
       have hga := graphF_le hm.1
       try simp [go_sem, seval, Cond.c_eq]
       repeat (first | intro _ | (refine ⟨obl, ?_⟩))
       refine callQ_pure0 (morphism_Injective p.graph c.pattern.graph c.map (by omega) (by omega)) ((by first | rfl | (simp [go_sem, ← List.map_take, ← List.map_drop, Cond.c_eq]; done))) ?_
       try simp [go_sem, seval, Cond.c_eq]
       repeat (first | intro _ | (refine ⟨obl, ?_⟩))
       refine condQ_mk (fun h11 => ?_) (fun h11 => ?_)
       ·try simp [go_sem] at h11
        try simp [go_sem, seval, Cond.c_eq]
        exact hQ _ _ (by first | (left; (simp [go_sem, hF, existsE, h6, h9, h11]; omega); done) | (right; (simp [go_sem, hF, existsE, h6, h9, h11]; omega); done))
       ·try simp [go_sem] at h11
        have hE0 : existsE t p c.map c.pattern = 0 := by simp [existsE, h6, h9, h11]; omega
        rw [hE0, if_neg (by omega)] at hF
        obtain ⟨w, hw⟩ : ∃ w : Pattern, w = c.pattern := ⟨_, rfl⟩
        have hv := innerF_vars h6
        have hw0 : 0 ≤ w.vars := by rw [hw]; exact hv.1
        have hw1 : w.vars ≤ 12 := by rw [hw]; exact hv.2
        have hF' : insF t p c = listE (insF t w) c.kids := by rw [hF, hw]
        try simp [go_sem, seval, Cond.c_eq]
        repeat (first | intro _ | (refine ⟨obl, ?_⟩))
        obtain ⟨I0, hI0⟩ := mkI fun i e H => ((e 3 = .adr t.c) ∧ (e 5 = .adr c.c) ∧ (e 51 = .list (c.kids.map Cond.c)) ∧ (e 52 = dI c.kids.length) ∧ (e 4 = .ptr 0 1 0 0) ∧ (e 53 = dI i) ∧ (H.get 0 = some ⟨33, 5, [w.c], false⟩) ∧ (0 < H.next) ∧ (i ≤ c.kids.length) ∧ (listE (insF t w) (c.kids.drop i) = insF t p c))
        refine loopK I0 (fun i => c.kids.length - i) (0) ((hI0 _ _ _).2 ⟨?_, ?_, ?_, ?_, ?_, ?_, (by (simp [go_sem, hw])), ?_, (by first | assumption | omega | (simp [go_sem, Cond.c_eq]; done) | (simp_all; done)), (by (exact hF'.symm))⟩) ?_
        iterate 7 (first | omega | (simp [go_sem, seval, Cond.c_eq] <;> omega))
        intro i e H hi0
        obtain ⟨q3_0, q5_0, q51_0, q52_0, q4_0, q53_0, g0_0, n0_0, hi, hL⟩ := (hI0 _ _ _).1 hi0
        have x0 := frs n0_0
        have F0 := And.intro q3_0 (And.intro q5_0 (And.intro q51_0 (And.intro q52_0 (And.intro q4_0 (And.intro q53_0 (And.intro g0_0 x0))))))
        try simp [go_sem, seval, Cond.c_eq, F0]
        refine condQ_mk (fun h15 => ?_) (fun h15 => ?_)
        ·try simp [go_sem] at h15
         have hst := hL
         rw [listE_step _ h15] at hst
         try simp [go_sem, seval, Cond.c_eq, F0, h15]
         repeat (first | intro _ | (refine ⟨obl, ?_⟩))
         refine callQ_pure0 ((by have := ih _ (lgm h15) w hw0 hw1; rwa [Cond.c_eq] at this)) ((by first | rfl | (simp [go_sem, ← List.map_take, ← List.map_drop, Cond.c_eq, F0, h15]; done))) ?_
         try simp [go_sem, seval, Cond.c_eq, F0, h15]
         repeat (first | intro _ | (refine ⟨obl, ?_⟩))
         refine condQ_mk (fun h18 => ?_) (fun h18 => ?_)
         ·try simp [go_sem] at h18
          rw [if_pos (by omega)] at hst
          try simp [go_sem, seval, Cond.c_eq, F0, h15]
          exact hQ _ _ (by first | (left; (simp [go_sem, hst]); done) | (right; (simp [go_sem, hst]); done))
         ·try simp [go_sem] at h18
          rw [if_neg (by omega)] at hst
          try simp [go_sem, seval, Cond.c_eq, F0, h15]
          repeat (first | intro _ | (refine ⟨obl, ?_⟩))
          refine nextQ_mk (i + 1) (by omega) ((hI0 _ _ _).2 ⟨?_, ?_, ?_, ?_, ?_, ?_, (by (simp [go_sem, Cond.c_eq, F0, h15])), ?_, (by first | assumption | omega | (simp [go_sem, Cond.c_eq, F0, h15, h1, h3, h6, h9, h11, h18]; done) | (simp_all <;> omega)), (by exact hst)⟩) <;> first | omega | (simp [go_sem, seval, Cond.c_eq, F0, h15] <;> omega)
        ·try simp [go_sem] at h15
         try simp [go_sem, seval, Cond.c_eq, F0]
         exact hQ _ _ (by first | (left; (rw [← hL, listE_end _ (by omega)]; simp [go_sem]); done) | (right; (rw [← hL, listE_end _ (by omega)]; simp [go_sem]); done))
  · try simp [go_sem] at h1
    rw [if_neg h1, if_neg (by omega), if_neg h1] at hF
    obtain ⟨w, hw⟩ : ∃ w : Pattern, w = p := ⟨_, rfl⟩
    have hw0 : 0 ≤ w.vars := by rw [hw]; exact hp0
    have hw1 : w.vars ≤ 12 := by rw [hw]; exact hp1
    have hF' : insF t p c = listE (insF t w) c.kids := by rw [hF, hw]
    try simp [go_sem, seval, Cond.c_eq]
    repeat (first | intro _ | (refine ⟨obl, ?_⟩))
    obtain ⟨I0, hI0⟩ := mkI fun i e H => ((e 3 = .adr t.c) ∧ (e 5 = .adr c.c) ∧ (e 51 = .list (c.kids.map Cond.c)) ∧ (e 52 = dI c.kids.length) ∧ (e 4 = .ptr 0 1 0 0) ∧ (e 53 = dI i) ∧ (H.get 0 = some ⟨33, 5, [w.c], false⟩) ∧ (0 < H.next) ∧ (i ≤ c.kids.length) ∧ (listE (insF t w) (c.kids.drop i) = insF t p c))
    refine loopK I0 (fun i => c.kids.length - i) (0) ((hI0 _ _ _).2 ⟨?_, ?_, ?_, ?_, ?_, ?_, (by (simp [go_sem, hw])), ?_, (by first | assumption | omega | (simp [go_sem, Cond.c_eq]; done) | (simp_all; done)), (by (exact hF'.symm))⟩) ?_
    iterate 7 (first | omega | (simp [go_sem, seval, Cond.c_eq] <;> omega))
    intro i e H hi0
    obtain ⟨q3_0, q5_0, q51_0, q52_0, q4_0, q53_0, g0_0, n0_0, hi, hL⟩ := (hI0 _ _ _).1 hi0
    have x0 := frs n0_0
    have F0 := And.intro q3_0 (And.intro q5_0 (And.intro q51_0 (And.intro q52_0 (And.intro q4_0 (And.intro q53_0 (And.intro g0_0 x0))))))
    try simp [go_sem, seval, Cond.c_eq, F0]
    refine condQ_mk (fun h15 => ?_) (fun h15 => ?_)
    ·try simp [go_sem] at h15
     have hst := hL
     rw [listE_step _ h15] at hst
     try simp [go_sem, seval, Cond.c_eq, F0, h15]
     repeat (first | intro _ | (refine ⟨obl, ?_⟩))
     refine callQ_pure0 ((by have := ih _ (lgm h15) w hw0 hw1; rwa [Cond.c_eq] at this)) ((by first | rfl | (simp [go_sem, ← List.map_take, ← List.map_drop, Cond.c_eq, F0, h15]; done))) ?_
     try simp [go_sem, seval, Cond.c_eq, F0, h15]
     repeat (first | intro _ | (refine ⟨obl, ?_⟩))
     refine condQ_mk (fun h18 => ?_) (fun h18 => ?_)
     ·try simp [go_sem] at h18
      rw [if_pos (by omega)] at hst
      try simp [go_sem, seval, Cond.c_eq, F0, h15]
      exact hQ _ _ (by first | (left; (simp [go_sem, hst]); done) | (right; (simp [go_sem, hst]); done))
     ·try simp [go_sem] at h18
      rw [if_neg (by omega)] at hst
      try simp [go_sem, seval, Cond.c_eq, F0, h15]
      repeat (first | intro _ | (refine ⟨obl, ?_⟩))
      refine nextQ_mk (i + 1) (by omega) ((hI0 _ _ _).2 ⟨?_, ?_, ?_, ?_, ?_, ?_, (by (simp [go_sem, Cond.c_eq, F0, h15])), ?_, (by first | assumption | omega | (simp [go_sem, Cond.c_eq, F0, h15, h1, h18]; done) | (simp_all <;> omega)), (by exact hst)⟩) <;> first | omega | (simp [go_sem, seval, Cond.c_eq, F0, h15] <;> omega)
    ·try simp [go_sem] at h15
     try simp [go_sem, seval, Cond.c_eq, F0]
     exact hQ _ _ (by first | (left; (rw [← hL, listE_end _ (by omega)]; simp [go_sem]); done) | (right; (rw [← hL, listE_end _ (by omega)]; simp [go_sem]); done))
def condF (t : Types) (p : Pattern) (c : Cond) : Int :=
  if patternF t p ≠ 0 then patternF t p else if shapeF c ≠ 0 then shapeF c else insF t p c
theorem condition_Valid (t : Types) (ht : t.ok) (p : Pattern) (c : Cond) (hc : c.ok) (hs : c.size ≤ 1000000) : Pure Tryz.prog 42 [t.d, p.d, .agg c.c] (dI (condF t p c)) := by
  refine Tz.pK ⟨fun _ => false, fun _ => []⟩ Tryz.func42 rfl (fun Q hQ => ?_)
  try simp [go_sem, seval, Cond.c_eq]
  refine callQ_pure0 (attribute_Valid t ht p) ((by first | rfl | (simp [go_sem, ← List.map_take, ← List.map_drop, Cond.c_eq]; done))) ?_
  try simp [go_sem, seval, Cond.c_eq]
  refine condQ_mk (fun h2 => ?_) (fun h2 => ?_)
  · try simp [go_sem] at h2
    try simp [go_sem, seval, Cond.c_eq]
    exact hQ _ _ (by simp [go_sem, Cond.c_eq, h2, condF] <;> first | omega | (rw [bei]; simp <;> omega) | (simp_all <;> omega))
  · try simp [go_sem] at h2
    have hv := patternF_vars (.inr h2)
    try simp [go_sem, seval, Cond.c_eq]
    refine callQ_pure0 ((by have := condition_shape c hc hs; rwa [Cond.c_eq] at this)) ((by first | rfl | (simp [go_sem, ← List.map_take, ← List.map_drop, Cond.c_eq]; done))) ?_
    try simp [go_sem, seval, Cond.c_eq]
    refine condQ_mk (fun h5 => ?_) (fun h5 => ?_)
    ·try simp [go_sem] at h5
     try simp [go_sem, seval, Cond.c_eq]
     exact hQ _ _ (by simp [go_sem, Cond.c_eq, h2, h5, condF] <;> first | omega | (rw [bei]; simp <;> omega) | (simp_all <;> omega))
    ·try simp [go_sem] at h5
     try simp [go_sem, seval, Cond.c_eq]
     refine callQ_pure0 ((by have := condition_inside t ht c p hv.1 hv.2; rwa [Cond.c_eq] at this)) ((by first | rfl | (simp [go_sem, ← List.map_take, ← List.map_drop, Cond.c_eq]; done))) ?_
     try simp [go_sem, seval, Cond.c_eq]
     exact hQ _ _ (by simp [go_sem, Cond.c_eq, h2, h5, condF] <;> first | omega | (rw [bei]; simp <;> omega) | (simp_all <;> omega))
end Go.Abs
end
section
set_option maxRecDepth 4000
open Go Go.Proofs
namespace Go.Abs
end Go.Abs
end
section
set_option maxRecDepth 8000
open Go Go.Proofs
namespace Go.Abs
attribute [go_sem] Rule.c Rule.d
@[go_sem] theorem hd_attr (o : Option Attr) (a0 a1 a2 a3 : D) : ((Option.map Attr.c o).getD [a0, a1, a2, a3]).length = 4 := by cases o <;> rfl
@[go_sem] theorem hd_node (o : Option NodeTy) (a0 a1 a2 a3 : D) : ((Option.map NodeTy.c o).getD [a0, a1, a2, a3]).length = 4 := by cases o <;> rfl
@[go_sem] theorem hd_edgety (o : Option EdgeTy) (a0 a1 a2 a3 a4 a5 a6 : D) : ((Option.map EdgeTy.c o).getD [a0, a1, a2, a3, a4, a5, a6]).length = 7 := by cases o <;> rfl
@[go_sem] theorem hd_gedge (o : Option Edge) (a0 a1 a2 : D) : ((Option.map Edge.c o).getD [a0, a1, a2]).length = 3 := by cases o <;> rfl
@[go_sem] theorem hd_slot (o : Option Slot) (a0 a1 a2 a3 : D) : ((Option.map Slot.c o).getD [a0, a1, a2, a3]).length = 4 := by cases o <;> rfl
@[go_sem] theorem hd_test (o : Option Test) (a0 a1 a2 a3 a4 : D) : ((Option.map Test.c o).getD [a0, a1, a2, a3, a4]).length = 5 := by cases o <;> rfl
@[go_sem] theorem hd_stage (o : Option Stage) (a0 a1 : D) : ((Option.map Stage.c o).getD [a0, a1]).length = 2 := by cases o <;> rfl
@[go_sem] theorem hd_int (o : Option Int) (a0 : D) : ((Option.map cI o).getD [a0]).length = 1 := by cases o <;> rfl
@[go_sem] theorem hd_str (o : Option ByteArray) (a0 : D) : ((Option.map cS o).getD [a0]).length = 1 := by cases o <;> rfl
@[go_sem] theorem hd_bool (o : Option Bool) (a0 : D) : ((Option.map cB o).getD [a0]).length = 1 := by cases o <;> rfl
theorem rule_typed1 (t : Types) (a : Int) : Pure Tryz.prog 166 [dI a, .adr t.c] (.bool (decide ((t.nodes.length : Int) ≤ a))) := by
  refine Tz.pK ⟨fun _ => false, fun _ => []⟩ Tryz.func166 rfl (fun Q hQ => ?_)
  try simp [go_sem, seval]
  repeat (first | intro _ | (refine ⟨obl, ?_⟩))
  exact hQ _ _ (by simp [go_sem] <;> first | omega | (rw [bei]; simp <;> omega) | (simp_all <;> omega))
theorem rule_typed2 (t : Types) (x : Edge) : Pure Tryz.prog 167 [.agg x.c, .adr t.c] (.bool (decide ((t.edges.length : Int) ≤ x.type))) := by
  refine Tz.pK ⟨fun _ => false, fun _ => []⟩ Tryz.func167 rfl (fun Q hQ => ?_)
  try simp [go_sem, seval]
  repeat (first | intro _ | (refine ⟨obl, ?_⟩))
  exact hQ _ _ (by simp [go_sem] <;> first | omega | (rw [bei]; simp <;> omega) | (simp_all <;> omega))
theorem rule_typed (t : Types) (g : Graph) : Pure Tryz.prog 87 [t.d, g.d] (.bool (typedB t g)) := by
  have h1 := containsFunc_int g.nodes 166 [.adr t.c] (fun a => decide ((t.nodes.length : Int) ≤ a)) (by simp [go_sem]) (by simp [go_sem]) (fun a _ => rule_typed1 t a)
  have h2 := containsFunc_gedge g.edges 167 [.adr t.c] (fun x => decide ((t.edges.length : Int) ≤ x.type)) (by simp [go_sem]) (by simp [go_sem]) (fun x _ => rule_typed2 t x)
  have he : typedB t g = ((!(g.nodes.any fun n => decide ((t.nodes.length : Int) ≤ n))) && !(g.edges.any fun x => decide ((t.edges.length : Int) ≤ x.type))) := rfl
  generalize (g.nodes.any fun n => decide ((t.nodes.length : Int) ≤ n)) = u at *
  generalize (g.edges.any fun x => decide ((t.edges.length : Int) ≤ x.type)) = v at *
  rw [he]
  refine Tz.pK ⟨fun _ => false, fun _ => []⟩ Tryz.func87 rfl (fun Q hQ => ?_)
  try simp [go_sem, seval]
  repeat (first | intro _ | (refine ⟨obl, ?_⟩))
  refine callQ_pure0 (h1) ((by first | rfl | (simp [go_sem, ← List.map_take, ← List.map_drop]; done))) ?_
  try simp [go_sem, seval]
  repeat (first | intro _ | (refine ⟨obl, ?_⟩))
  refine gcallQ_pure0 (fun hg => h2) (fun hg => (by first | rfl | (simp [go_sem, ← List.map_take, ← List.map_drop]; done))) ?_
  try simp [go_sem, seval]
  repeat (first | intro _ | (refine ⟨obl, ?_⟩))
  exact hQ _ _ (by simp [go_sem] <;> first | omega | (rw [bei]; simp <;> omega) | (simp_all <;> omega))
def sameSlot (x y : Slot) : Bool := decide (y.node = x.node) && decide (y.attr = x.attr)
theorem rule_slot1 (x y : Slot) : Pure Tryz.prog 169 [.agg y.c, .adr x.c] (.bool (sameSlot x y)) := by
  refine Tz.pK ⟨fun _ => false, fun _ => []⟩ Tryz.func169 rfl (fun Q hQ => ?_)
  try simp [go_sem, seval]
  repeat (first | intro _ | (refine ⟨obl, ?_⟩))
  exact hQ _ _ (by simp [go_sem, sameSlot] <;> first | omega | (rw [bei]; simp <;> omega) | (simp_all <;> omega))
def slotRE (t : Types) (p : Pattern) (i : Nat) : Int := match p.slots[i]? with
  | some s => if slotE t p s ≠ 0 then 6 else if ((p.slots.take i).any (sameSlot s)) = true then 5 else 0
  | none => 0
theorem slotRE_at {t : Types} {p : Pattern} {i : Nat} (h : i < p.slots.length) : slotRE t p i = if slotE t p p.slots[i] ≠ 0 then 6 else if ((p.slots.take i).any (sameSlot p.slots[i])) = true then 5 else 0 := by
  unfold slotRE; rw [lge h]
theorem rule_slot (t : Types) (ht : t.ok) (r : Rule) (hr : r.right.graph.nodes.length ≤ 1000) (i : Nat) (hi : i < r.right.slots.length) : Pure Tryz.prog 88 [t.d, r.d, dI i] (dI (slotRE t r.right i)) := by
  have hS := slotRE_at (t := t) hi
  have h8 := attrsT_len ht (r.right.kind r.right.slots[i].node)
  have hdup := containsFunc_slot (r.right.slots.take i) 169 [.adr r.right.slots[i].c] (sameSlot r.right.slots[i]) (by simp [go_sem]) (by simp only [D.cl]; exact slots_cl _) (fun y _ => rule_slot1 r.right.slots[i] y)
  refine Tz.pK ⟨fun t => t == 7 || t == 10, fun _ => []⟩ Tryz.func88 rfl (fun Q hQ => ?_)
  try simp [go_sem, seval, lge hi, hi]
  repeat (first | intro _ | (refine ⟨obl, ?_⟩))
  refine condQ_mk (fun h2 => ?_) (fun h2 => ?_)
  · try simp [go_sem] at h2
    have hE : slotE t r.right r.right.slots[i] ≠ 0 := by
     unfold slotE; rw [if_neg]; decide; intro h; simp [attrB] at h; omega
    rw [if_pos hE] at hS
    try simp [go_sem, seval, lge hi, hi]
    exact hQ _ _ (by first | (left; (simp [go_sem, hS]); done) | (right; (simp [go_sem, hS]); done))
  · try simp [go_sem] at h2
    have hn : r.right.slots[i].node.toNat < r.right.graph.nodes.length := by omega
    have hk : r.right.kind r.right.slots[i].node = r.right.graph.nodes[r.right.slots[i].node.toNat] := by simp [Pattern.kind, hn]
    rw [hk] at h8
    try simp [go_sem, seval, lge hi, hi, lge hn, hk]
    repeat (first | intro _ | (refine ⟨obl, ?_⟩))
    refine dcallQ_pure0 (types_Attrs t ht r.right.graph.nodes[r.right.slots[i].node.toNat]) ((by first | rfl | (simp [go_sem, ← List.map_take, ← List.map_drop, lge hi, hi, lge hn, hk]; done))) ?_
    try simp [go_sem, seval, lge hi, hi, lge hn, hk]
    repeat (first | intro _ | (refine ⟨obl, ?_⟩))
    refine condQ_mk (fun h6 => ?_) (fun h6 => ?_)
    ·try simp [go_sem] at h6
     have hE : slotE t r.right r.right.slots[i] ≠ 0 := by
      unfold slotE; rw [if_neg]; decide; intro h; simp [attrB, inF, hk] at h; omega
     rw [if_pos hE] at hS
     try simp [go_sem, seval, lge hi, hi, lge hn, hk]
     exact hQ _ _ (by first | (left; (simp [go_sem, hS]); done) | (right; (simp [go_sem, hS]); done))
    ·try simp [go_sem] at h6
     have hE : slotE t r.right r.right.slots[i] = 0 := by
      unfold slotE; rw [if_pos]; simp [attrB, inF, hk]; omega
     rw [if_neg (by omega)] at hS
     have hsl : (i : Int) ≤ r.right.slots.length := by omega
     try simp [go_sem, seval, lge hi, hi, lge hn, hk]
     repeat (first | intro _ | (refine ⟨obl, ?_⟩))
     refine callQ_pureC (hdup) (by simp [rsvC, rsvP, cellsAt, go_sem, ← List.map_take, ← List.map_drop, lge hi, hi, lge hn, hk]) ((by first | rfl | (simp [go_sem, ← List.map_take, ← List.map_drop, lge hi, hi, lge hn, hk]; done))) ( rfl) ?_
     try simp [go_sem, seval, lge hi, hi, lge hn, hk]
     repeat (first | intro _ | (refine ⟨obl, ?_⟩))
     refine condQ_mk (fun h8 => ?_) (fun h8 => ?_)
     ·try simp [go_sem] at h8
      try simp [go_sem, seval, lge hi, hi, lge hn, hk]
      exact hQ _ _ (by first | (left; (rw [hS, if_pos (by rw [List.any_eq_true]; exact h8)]; simp [go_sem]); done) | (right; (rw [hS, if_pos (by rw [List.any_eq_true]; exact h8)]; simp [go_sem]); done))
     ·try simp [go_sem] at h8
      try simp [go_sem, seval, lge hi, hi, lge hn, hk]
      exact hQ _ _ (by first | (left; (rw [hS, if_neg (by rw [List.any_eq_true]; rintro ⟨x, hx, hs⟩; have := h8 x hx; rw [this] at hs; cases hs)]; simp [go_sem]); done) | (right; (rw [hS, if_neg (by rw [List.any_eq_true]; rintro ⟨x, hx, hs⟩; have := h8 x hx; rw [this] at hs; cases hs)]; simp [go_sem]); done))
end Go.Abs
end
section
set_option maxRecDepth 8000
open Go Go.Proofs
namespace Go.Abs
def rightF (t : Types) (r : Rule) : Int :=
  if graphF r.right.graph ≠ 0 then graphF r.right.graph
  else if typedB t r.right.graph = false then 13
  else if r.right.vars ≠ r.left.vars ∨ 0 < r.right.tests.length then 1
  else if 10 < r.right.slots.length then 3
  else firstE (slotRE t r.right) 0 r.right.slots.length
theorem rule_right (t : Types) (ht : t.ok) (r : Rule) : Pure Tryz.prog 38 [t.d, r.d] (dI (rightF t r)) := by
  refine Tz.pK ⟨fun _ => false, fun _ => []⟩ Tryz.func38 rfl (fun Q hQ => ?_)
  try simp [go_sem, seval]
  refine callQ_pure0 (graph_Valid r.right.graph) ((by first | rfl | (simp [go_sem, ← List.map_take, ← List.map_drop]; done))) ?_
  try simp [go_sem, seval]
  refine condQ_mk (fun h2 => ?_) (fun h2 => ?_)
  · try simp [go_sem] at h2
    try simp [go_sem, seval]
    exact hQ _ _ (by first | (left; (simp [go_sem, rightF, h2]); done) | (right; (simp [go_sem, rightF, h2]); done))
  · try simp [go_sem] at h2
    have hg := graphF_le h2
    try simp [go_sem, seval]
    repeat (first | intro _ | (refine ⟨obl, ?_⟩))
    refine callQ_pure0 (rule_typed t r.right.graph) ((by first | rfl | (simp [go_sem, ← List.map_take, ← List.map_drop]; done))) ?_
    try simp [go_sem, seval]
    repeat (first | intro _ | (refine ⟨obl, ?_⟩))
    refine condQ_mk (fun h4 => ?_) (fun h4 => ?_)
    ·try simp [go_sem] at h4
     try simp [go_sem, seval]
     exact hQ _ _ (by first | (left; (simp [go_sem, rightF, h2, h4]); done) | (right; (simp [go_sem, rightF, h2, h4]); done))
    ·try simp [go_sem] at h4
     try simp [go_sem, seval]
     repeat (first | intro _ | (refine ⟨obl, ?_⟩))
     refine condQ_mk (fun h6 => ?_) (fun h6 => ?_)
     ·try simp [go_sem] at h6
      have hR : rightF t r = 1 := by unfold rightF; rw [if_neg (by omega), if_neg (by simp [h4]), if_pos (by omega)]
      try simp [go_sem, seval]
      exact hQ _ _ (by first | (left; (simp [go_sem, hR]); done) | (right; (simp [go_sem, hR]); done))
     ·try simp [go_sem] at h6
      have h6' : ¬ (r.right.vars ≠ r.left.vars ∨ 0 < r.right.tests.length) := by
       rintro (h | h)
       ·exact h h6.1
       ·have := h6.2; simp [this] at h
      try simp [go_sem, seval]
      repeat (first | intro _ | (refine ⟨obl, ?_⟩))
      refine condQ_mk (fun h8 => ?_) (fun h8 => ?_)
      ·try simp [go_sem] at h8
       have hR : rightF t r = 3 := by unfold rightF; rw [if_neg (by omega), if_neg (by simp [h4]), if_neg h6', if_pos (by omega)]
       try simp [go_sem, seval]
       exact hQ _ _ (by first | (left; (simp [go_sem, hR]); done) | (right; (simp [go_sem, hR]); done))
      ·try simp [go_sem] at h8
       have hR : rightF t r = firstE (slotRE t r.right) 0 r.right.slots.length := by unfold rightF; rw [if_neg (by omega), if_neg (by simp [h4]), if_neg h6', if_neg (by omega)]
       try simp [go_sem, seval]
       repeat (first | intro _ | (refine ⟨obl, ?_⟩))
       obtain ⟨I1, hI1⟩ := mkI fun i e H => ((e 2 = .adr t.c) ∧ (e 3 = .adr r.c) ∧ (e 46 = dI r.right.slots.length) ∧ (e 47 = dI i) ∧ (i ≤ r.right.slots.length) ∧ (firstE (slotRE t r.right) i (r.right.slots.length - i) = rightF t r))
       refine loopK I1 (fun i => r.right.slots.length - i) (0) ((hI1 _ _ _).2 ⟨?_, ?_, ?_, ?_, (by first | assumption | omega | (simp [go_sem]; done) | (simp_all; done)), (by (exact hR.symm))⟩) ?_
       iterate 4 (first | omega | (simp [go_sem, seval] <;> omega))
       intro i e H hi1
       obtain ⟨q2_1, q3_1, q46_1, q47_1, hi, hF⟩ := (hI1 _ _ _).1 hi1
       have F1 := And.intro q2_1 (And.intro q3_1 (And.intro q46_1 q47_1))
       try simp [go_sem, seval, F1]
       refine condQ_mk (fun h11 => ?_) (fun h11 => ?_)
       ·try simp [go_sem] at h11
        have hst := hF
        rw [firstE_step _ h11] at hst
        try simp [go_sem, seval, F1, h11]
        refine callQ_pure0 (rule_slot t ht r (by omega) i h11) ((by first | rfl | (simp [go_sem, ← List.map_take, ← List.map_drop, F1, h11]; done))) ?_
        try simp [go_sem, seval, F1, h11]
        refine condQ_mk (fun h14 => ?_) (fun h14 => ?_)
        ·try simp [go_sem] at h14
         rw [if_pos (by omega)] at hst
         try simp [go_sem, seval, F1, h11]
         exact hQ _ _ (by first | (left; (simp [go_sem, hst]); done) | (right; (simp [go_sem, hst]); done))
        ·try simp [go_sem] at h14
         rw [if_neg (by omega)] at hst
         try simp [go_sem, seval, F1, h11]
         repeat (first | intro _ | (refine ⟨obl, ?_⟩))
         refine nextQ_mk (i + 1) (by omega) ((hI1 _ _ _).2 ⟨?_, ?_, ?_, ?_, (by first | assumption | omega | (simp [go_sem, F1, h11, h2, h4, h6, h8, h14]; done) | (simp_all <;> omega)), (by exact hst)⟩) <;> first | omega | (simp [go_sem, seval, F1, h11] <;> omega)
       ·try simp [go_sem] at h11
        try simp [go_sem, seval, F1]
        exact hQ _ _ (by first | (left; (rw [← hF, show r.right.slots.length - i = 0 by omega]; rfl); done) | (right; (rw [← hF, show r.right.slots.length - i = 0 by omega]; rfl); done))
def othersL (l : List Int) (n : Nat) : List Int := ((List.range n).filter fun (i : Nat) => !mem l i).map fun (b : Nat) => (b : Int)
theorem othersL_mem {l : List Int} {n : Nat} {x : Int} (h : x ∈ othersL l n) : 0 ≤ x ∧ x < n := by
  simp only [othersL, List.mem_map, List.mem_filter, List.mem_range] at h
  obtain ⟨a, ⟨h1, _⟩, rfl⟩ := h
  omega
theorem othersL_len (l : List Int) (n : Nat) : (othersL l n).length ≤ n := by
  unfold othersL; rw [List.length_map]; exact Nat.le_trans (List.length_filter_le _ _) (by simp)
theorem rule_others (l : List Int) (n : Nat) (hn : n ≤ 1000000) : Pure Tryz.prog 90 [dLI l, dI n] (dLI (othersL l n)) := by
  refine Tz.pK ⟨fun t => t == 5, fun _ => []⟩ Tryz.func90 rfl (fun Q hQ => ?_)
  try simp [go_sem, seval]
  obtain ⟨I0, hI0⟩ := mkI fun i e H => (∃ xs : List Int, (e 0 = dLI l) ∧ (e 7 = dI n) ∧ (e 5 = .own 0 xs.length) ∧ (e 8 = dI i) ∧ (H.get 0 = some ⟨3, 1, xs.map cI, false⟩) ∧ (0 < H.next) ∧ (i ≤ n) ∧ (xs.length ≤ i) ∧ (xs = ((List.range i).filter fun (b : Nat) => !mem l b).map (fun (b : Nat) => (b : Int))))
  refine loopK I0 (fun i => n - i) (0) ((hI0 _ _ _).2 ⟨([]), ?_, ?_, ?_, ?_, ?_, ?_, (by first | assumption | omega | (simp [go_sem]; done) | (simp_all; done)), (by simp), (by rfl)⟩) ?_
  iterate 6 (first | omega | (simp [go_sem, seval] <;> omega))
  intro i e H hi0
  obtain ⟨xs, q0_0, q7_0, q5_0, q8_0, g0_0, n0_0, hi, hl, hx⟩ := (hI0 _ _ _).1 hi0
  have x0 := frs n0_0
  have F0 := And.intro q0_0 (And.intro q7_0 (And.intro q5_0 (And.intro q8_0 (And.intro g0_0 x0))))
  try simp [go_sem, seval, F0]
  refine condQ_mk (fun h3 => ?_) (fun h3 => ?_)
  · try simp [go_sem] at h3
    try simp [go_sem, seval, F0, h3]
    repeat (first | intro _ | (refine ⟨obl, ?_⟩))
    refine callQ_pure0 (contains_int l i) ((by first | rfl | (simp [go_sem, ← List.map_take, ← List.map_drop, F0, h3]; done))) ?_
    try simp [go_sem, seval, F0, h3]
    repeat (first | intro _ | (refine ⟨obl, ?_⟩))
    refine condQ_mk (fun h5 => ?_) (fun h5 => ?_)
    ·try simp [go_sem] at h5
     try simp [go_sem, seval, F0, h3, h5]
     repeat (first | intro _ | (refine ⟨obl, ?_⟩))
     refine nextQ_mk (i + 1) (by omega) ((hI0 _ _ _).2 ⟨(xs ++ (if (!mem l i) = true then [(i : Int)] else [])), ?_, ?_, ?_, ?_, ?_, ?_, (by first | assumption | omega | (simp [go_sem, F0, h3, h5]; done) | (simp_all <;> omega)), (by (rw [List.length_append]; split <;> simp <;> omega)), (by (rw [range_filter_succ, ← hx]))⟩) <;> first | omega | (simp [go_sem, seval, F0, h3, h5] <;> omega)
    ·try simp [go_sem] at h5
     try simp [go_sem, seval, F0, h3, h5]
     repeat (first | intro _ | (refine ⟨obl, ?_⟩))
     refine nextQ_mk (i + 1) (by omega) ((hI0 _ _ _).2 ⟨(xs ++ (if (!mem l i) = true then [(i : Int)] else [])), ?_, ?_, ?_, ?_, ?_, ?_, (by first | assumption | omega | (simp [go_sem, F0, h3, h5]; done) | (simp_all <;> omega)), (by (rw [List.length_append]; split <;> simp <;> omega)), (by (rw [range_filter_succ, ← hx]))⟩) <;> first | omega | (simp [go_sem, seval, F0, h3, h5] <;> omega)
  · try simp [go_sem] at h3
    try simp [go_sem, seval, F0]
    exact hQ _ _ (by first | (left; (simp [go_sem, F0, othersL]; rw [hx, show i = n by omega]; simp); done) | (right; (simp [go_sem, F0, othersL]; rw [hx, show i = n by omega]; simp); done))
def keptF (r : Rule) : Int :=
  if subF r.left.graph r.keep ≠ 0 then subF r.left.graph r.keep
  else if morphF (extractG r.left.graph r.keep) r.right.graph r.into ≠ 0 then morphF (extractG r.left.graph r.keep) r.right.graph r.into
  else if injB (extractG r.left.graph r.keep) r.right.graph r.into = false then 11 else 0
structure Rule.ok (r : Rule) : Prop where
  name : r.name.size ≤ 100000
  k1 : r.keep.nodes.length ≤ 1000000
  k2 : r.keep.edges.length ≤ 1000000
  i1 : r.into.nodes.length ≤ 1000000
  i2 : r.into.edges.length ≤ 1000000
  cond : r.cond.ok
  size : r.cond.size ≤ 1000000
theorem rule_kept (r : Rule) (hr : r.ok) : Pure Tryz.prog 39 [r.d] (dI (keptF r)) := by
  obtain ⟨_, hk1, hk2, hi1, hi2, _, _⟩ := hr
  refine Tz.pK ⟨fun t => t == 3 || t == 4, fun _ => []⟩ Tryz.func39 rfl (fun Q hQ => ?_)
  try simp [go_sem, seval]
  refine callQ_pure0 (subgraph_Extract r.left.graph r.keep hk1 hk2) ((by first | rfl | (simp [go_sem, ← List.map_take, ← List.map_drop]; done))) ?_
  try simp [go_sem, seval]
  refine condQ_mk (fun h2 => ?_) (fun h2 => ?_)
  · try simp [go_sem] at h2
    try simp [go_sem, seval]
    exact hQ _ _ (by simp [go_sem, h2, keptF] <;> first | omega | (rw [bei]; simp <;> omega) | (simp_all <;> omega))
  · try simp [go_sem] at h2
    try simp [go_sem, seval]
    refine callQ_pure0 (morphism_Valid (extractG r.left.graph r.keep) r.right.graph r.into) ((by first | rfl | (simp [go_sem, ← List.map_take, ← List.map_drop]; done))) ?_
    try simp [go_sem, seval]
    refine condQ_mk (fun h5 => ?_) (fun h5 => ?_)
    ·try simp [go_sem] at h5
     try simp [go_sem, seval]
     exact hQ _ _ (by simp [go_sem, h2, h5, keptF] <;> first | omega | (rw [bei]; simp <;> omega) | (simp_all <;> omega))
    ·try simp [go_sem] at h5
     try simp [go_sem, seval]
     repeat (first | intro _ | (refine ⟨obl, ?_⟩))
     refine callQ_pure0 (morphism_Injective (extractG r.left.graph r.keep) r.right.graph r.into hi1 hi2) ((by first | rfl | (simp [go_sem, ← List.map_take, ← List.map_drop]; done))) ?_
     try simp [go_sem, seval]
     repeat (first | intro _ | (refine ⟨obl, ?_⟩))
     refine condQ_mk (fun h7 => ?_) (fun h7 => ?_)
     ·try simp [go_sem] at h7
      try simp [go_sem, seval]
      exact hQ _ _ (by simp [go_sem, h2, h5, h7, keptF] <;> first | omega | (rw [bei]; simp <;> omega) | (simp_all <;> omega))
     ·try simp [go_sem] at h7
      try simp [go_sem, seval]
      exact hQ _ _ (by simp [go_sem, h2, h5, h7, keptF] <;> first | omega | (rw [bei]; simp <;> omega) | (simp_all <;> omega))
def absB (t : Types) (g : Graph) (i : Int) : Bool := ((t.nodes[(gN g i).toNat]?).map (·.abs)).getD false
def unfitB (t : Types) (g : Graph) (k : Int) : Bool := !fitsT t (g.edges[k.toNat]?.getD zeroEdge).type (gN g (g.edges[k.toNat]?.getD zeroEdge).from_) (gN g (g.edges[k.toNat]?.getD zeroEdge).to_)
def makeB (t : Types) (g : Graph) (nodes edges : List Int) : Bool := (!(nodes.any (absB t g))) && !(edges.any (unfitB t g))
theorem typedB_in {t : Types} {g : Graph} (h0 : graphF g = 0) (h : typedB t g = true) : (∀ a ∈ g.nodes, 0 ≤ a ∧ a < t.nodes.length) ∧ ∀ x ∈ g.edges, (0 ≤ x.type ∧ x.type < t.edges.length) ∧ (0 ≤ x.from_ ∧ x.from_ < g.nodes.length) ∧ (0 ≤ x.to_ ∧ x.to_ < g.nodes.length) := by
  obtain ⟨h1, h2⟩ := graphF_in h0
  simp [typedB] at h
  exact ⟨fun a ha => ⟨(h1 a ha).1, h.1 a ha⟩, fun x hx => ⟨⟨(h2 x hx).1.1, h.2 x hx⟩, (h2 x hx).2⟩⟩
theorem rule_makable1 (t : Types) (g : Graph) (h0 : graphF g = 0) (hT : typedB t g = true) (i : Int) (hi0 : 0 ≤ i) (hi1 : i < g.nodes.length) : Pure Tryz.prog 91 [dI i, .adr t.c, .adr g.c] (.bool (absB t g i)) := by
  have hk : i.toNat < g.nodes.length := by omega
  have hin := (typedB_in h0 hT).1 _ (lgm hk)
  have hn : g.nodes[i.toNat].toNat < t.nodes.length := by omega
  refine Tz.pK ⟨fun _ => false, fun _ => []⟩ Tryz.func91 rfl (fun Q hQ => ?_)
  try simp [go_sem, seval, lge hk, lge hn]
  repeat (first | intro _ | (refine ⟨obl, ?_⟩))
  exact hQ _ _ (by simp [go_sem, lge hk, lge hn, absB, gN] <;> first | omega | (rw [bei]; simp <;> omega) | (simp_all <;> omega))
theorem rule_makable2 (t : Types) (ht : t.ok) (g : Graph) (h0 : graphF g = 0) (hT : typedB t g = true) (k : Int) (hi0 : 0 ≤ k) (hi1 : k < g.edges.length) : Pure Tryz.prog 92 [dI k, .adr g.c, .adr t.c] (.bool (unfitB t g k)) := by
  have hk : k.toNat < g.edges.length := by omega
  have hin := (typedB_in h0 hT).2 _ (lgm hk)
  have hf : g.edges[k.toNat].from_.toNat < g.nodes.length := by omega
  have hto : g.edges[k.toNat].to_.toNat < g.nodes.length := by omega
  refine Tz.pK ⟨fun t => t == 5, fun _ => []⟩ Tryz.func92 rfl (fun Q hQ => ?_)
  try simp [go_sem, seval, lge hk, lge hf, lge hto]
  repeat (first | intro _ | (refine ⟨obl, ?_⟩))
  refine dcallQ_pure0 (types_Fits t ht _ _ _) ((by first | rfl | (simp [go_sem, ← List.map_take, ← List.map_drop, lge hk, lge hf, lge hto]; done))) ?_
  try simp [go_sem, seval, lge hk, lge hf, lge hto]
  repeat (first | intro _ | (refine ⟨obl, ?_⟩))
  exact hQ _ _ (by simp [go_sem, lge hk, lge hf, lge hto, unfitB, gN] <;> first | omega | (rw [bei]; simp <;> omega) | (simp_all <;> omega))
theorem rule_makable (t : Types) (ht : t.ok) (g : Graph) (h0 : graphF g = 0) (hT : typedB t g = true) (nodes edges : List Int) (hn : ∀ i ∈ nodes, 0 ≤ i ∧ i < g.nodes.length) (he : ∀ k ∈ edges, 0 ≤ k ∧ k < g.edges.length) : Pure Tryz.prog 41 [t.d, g.d, dLI nodes, dLI edges] (.bool (makeB t g nodes edges)) := by
  have h1 := containsFunc_int nodes 91 [.adr t.c, .adr g.c] (absB t g) (by simp [go_sem]) (by simp [go_sem]) (fun i hi => rule_makable1 t g h0 hT i (hn i hi).1 (hn i hi).2)
  have h2 := containsFunc_int edges 92 [.adr g.c, .adr t.c] (unfitB t g) (by simp [go_sem]) (by simp [go_sem]) (fun k hk => rule_makable2 t ht g h0 hT k (he k hk).1 (he k hk).2)
  have hM : makeB t g nodes edges = ((!(nodes.any (absB t g))) && !(edges.any (unfitB t g))) := rfl
  generalize nodes.any (absB t g) = u at *
  generalize edges.any (unfitB t g) = v at *
  rw [hM]
  refine Tz.pK ⟨fun _ => false, fun _ => []⟩ Tryz.func41 rfl (fun Q hQ => ?_)
  try simp [go_sem, seval]
  repeat (first | intro _ | (refine ⟨obl, ?_⟩))
  refine callQ_pure0 (h1) ((by first | rfl | (simp [go_sem, ← List.map_take, ← List.map_drop]; done))) ?_
  try simp [go_sem, seval]
  repeat (first | intro _ | (refine ⟨obl, ?_⟩))
  refine gcallQ_pure0 (fun hg => h2) (fun hg => (by first | rfl | (simp [go_sem, ← List.map_take, ← List.map_drop]; done))) ?_
  try simp [go_sem, seval]
  repeat (first | intro _ | (refine ⟨obl, ?_⟩))
  exact hQ _ _ (by simp [go_sem] <;> first | omega | (rw [bei]; simp <;> omega) | (simp_all <;> omega))
def Rule.freshN (r : Rule) : List Int := othersL r.into.nodes r.right.graph.nodes.length
def Rule.freshE (r : Rule) : List Int := othersL r.into.edges r.right.graph.edges.length
def Rule.goneN (r : Rule) : List Int := othersL r.keep.nodes r.left.graph.nodes.length
def Rule.goneE (r : Rule) : List Int := othersL r.keep.edges r.left.graph.edges.length
theorem rule_created (r : Rule) (h1 : r.right.graph.nodes.length ≤ 1000000) (h2 : r.right.graph.edges.length ≤ 1000000) : Pure Tryz.prog 40 [r.d] (.tup [dLI r.freshN, dLI r.freshE]) := by
  refine Tz.pK ⟨fun _ => false, fun _ => []⟩ Tryz.func40 rfl (fun Q hQ => ?_)
  try simp [go_sem, seval]
  repeat (first | intro _ | (refine ⟨obl, ?_⟩))
  refine dcallQ_pure0 (rule_others r.into.nodes _ h1) ((by first | rfl | (simp [go_sem, ← List.map_take, ← List.map_drop]; done))) ?_
  try simp [go_sem, seval]
  repeat (first | intro _ | (refine ⟨obl, ?_⟩))
  refine dcallQ_pure0 (rule_others r.into.edges _ h2) ((by first | rfl | (simp [go_sem, ← List.map_take, ← List.map_drop]; done))) ?_
  try simp [go_sem, seval]
  repeat (first | intro _ | (refine ⟨obl, ?_⟩))
  exact hQ _ _ (by simp [go_sem, Rule.freshN, Rule.freshE] <;> first | omega | (rw [bei]; simp <;> omega) | (simp_all <;> omega))
theorem rule_deleted (r : Rule) (h1 : r.left.graph.nodes.length ≤ 1000000) (h2 : r.left.graph.edges.length ≤ 1000000) : Pure Tryz.prog 52 [r.d] (.tup [dLI r.goneN, dLI r.goneE]) := by
  refine Tz.pK ⟨fun _ => false, fun _ => []⟩ Tryz.func52 rfl (fun Q hQ => ?_)
  try simp [go_sem, seval]
  repeat (first | intro _ | (refine ⟨obl, ?_⟩))
  refine dcallQ_pure0 (rule_others r.keep.nodes _ h1) ((by first | rfl | (simp [go_sem, ← List.map_take, ← List.map_drop]; done))) ?_
  try simp [go_sem, seval]
  repeat (first | intro _ | (refine ⟨obl, ?_⟩))
  refine dcallQ_pure0 (rule_others r.keep.edges _ h2) ((by first | rfl | (simp [go_sem, ← List.map_take, ← List.map_drop]; done))) ?_
  try simp [go_sem, seval]
  repeat (first | intro _ | (refine ⟨obl, ?_⟩))
  exact hQ _ _ (by simp [go_sem, Rule.goneN, Rule.goneE] <;> first | omega | (rw [bei]; simp <;> omega) | (simp_all <;> omega))
def ruleF (t : Types) (r : Rule) : Int :=
  if (validF t).2 ≠ 0 then (validF t).2
  else if isName r.name = false then 2
  else if patternF t r.left ≠ 0 then patternF t r.left
  else if rightF t r ≠ 0 then rightF t r
  else if keptF r ≠ 0 then keptF r
  else if makeB t r.right.graph r.freshN r.freshE = false then 13
  else condF t r.left r.cond
theorem rightF_of {t : Types} {r : Rule} (h : rightF t r = 0) : graphF r.right.graph = 0 ∧ typedB t r.right.graph = true := by
  unfold rightF at h
  split at h
  · rename_i h1; exact absurd h h1
  · rename_i h1
    split at h
    ·cases h
    ·rename_i h2; exact ⟨by omega, by simpa using h2⟩
theorem rule_Valid (t : Types) (ht : t.ok) (r : Rule) (hr : r.ok) : Pure Tryz.prog 12 [t.d, r.d] (dI (ruleF t r)) := by
  have hcv := condition_Valid t ht r.left r.cond hr.cond hr.size
  rw [Cond.c_eq] at hcv
  refine Tz.pK ⟨fun _ => false, fun _ => []⟩ Tryz.func12 rfl (fun Q hQ => ?_)
  try simp [go_sem, seval]
  refine callQ_pure0 (types_Valid t ht) ((by first | rfl | (simp [go_sem, ← List.map_take, ← List.map_drop]; done))) ?_
  try simp [go_sem, seval]
  refine condQ_mk (fun h2 => ?_) (fun h2 => ?_)
  · try simp [go_sem] at h2
    try simp [go_sem, seval]
    exact hQ _ _ (by simp [go_sem, h2, ruleF] <;> first | omega | (rw [bei]; simp <;> omega) | (simp_all <;> omega))
  · try simp [go_sem] at h2
    try simp [go_sem, seval]
    repeat (first | intro _ | (refine ⟨obl, ?_⟩))
    refine callQ_pure0 (token_IsName r.name hr.name) ((by first | rfl | (simp [go_sem, ← List.map_take, ← List.map_drop]; done))) ?_
    try simp [go_sem, seval]
    repeat (first | intro _ | (refine ⟨obl, ?_⟩))
    refine condQ_mk (fun h4 => ?_) (fun h4 => ?_)
    ·try simp [go_sem] at h4
     try simp [go_sem, seval]
     exact hQ _ _ (by simp [go_sem, h2, h4, ruleF] <;> first | omega | (rw [bei]; simp <;> omega) | (simp_all <;> omega))
    ·try simp [go_sem] at h4
     try simp [go_sem, seval]
     refine callQ_pure0 (attribute_Valid t ht r.left) ((by first | rfl | (simp [go_sem, ← List.map_take, ← List.map_drop]; done))) ?_
     try simp [go_sem, seval]
     refine condQ_mk (fun h7 => ?_) (fun h7 => ?_)
     ·try simp [go_sem] at h7
      try simp [go_sem, seval]
      exact hQ _ _ (by simp [go_sem, h2, h4, h7, ruleF] <;> first | omega | (rw [bei]; simp <;> omega) | (simp_all <;> omega))
     ·try simp [go_sem] at h7
      try simp [go_sem, seval]
      refine callQ_pure0 (rule_right t ht r) ((by first | rfl | (simp [go_sem, ← List.map_take, ← List.map_drop]; done))) ?_
      try simp [go_sem, seval]
      refine condQ_mk (fun h10 => ?_) (fun h10 => ?_)
      ·try simp [go_sem] at h10
       try simp [go_sem, seval]
       exact hQ _ _ (by simp [go_sem, h2, h4, h7, h10, ruleF] <;> first | omega | (rw [bei]; simp <;> omega) | (simp_all <;> omega))
      ·try simp [go_sem] at h10
       have hg := rightF_of h10
       have hgl := graphF_le hg.1
       try simp [go_sem, seval]
       refine callQ_pure0 (rule_kept r hr) ((by first | rfl | (simp [go_sem, ← List.map_take, ← List.map_drop]; done))) ?_
       try simp [go_sem, seval]
       refine condQ_mk (fun h13 => ?_) (fun h13 => ?_)
       ·try simp [go_sem] at h13
        try simp [go_sem, seval]
        exact hQ _ _ (by simp [go_sem, h2, h4, h7, h10, h13, ruleF] <;> first | omega | (rw [bei]; simp <;> omega) | (simp_all <;> omega))
       ·try simp [go_sem] at h13
        try simp [go_sem, seval]
        refine callQ_pure0 (rule_created r (by omega) (by omega)) ((by first | rfl | (simp [go_sem, ← List.map_take, ← List.map_drop]; done))) ?_
        try simp [go_sem, seval]
        repeat (first | intro _ | (refine ⟨obl, ?_⟩))
        refine callQ_pure0 (rule_makable t ht r.right.graph hg.1 hg.2 r.freshN r.freshE (fun i hi => othersL_mem hi) (fun i hi => othersL_mem hi)) ((by first | rfl | (simp [go_sem, ← List.map_take, ← List.map_drop]; done))) ?_
        try simp [go_sem, seval]
        repeat (first | intro _ | (refine ⟨obl, ?_⟩))
        refine condQ_mk (fun h16 => ?_) (fun h16 => ?_)
        ·try simp [go_sem] at h16
         try simp [go_sem, seval]
         exact hQ _ _ (by simp [go_sem, h2, h4, h7, h10, h13, h16, ruleF] <;> first | omega | (rw [bei]; simp <;> omega) | (simp_all <;> omega))
        ·try simp [go_sem] at h16
         try simp [go_sem, seval]
         refine callQ_pure0 (hcv) ((by first | rfl | (simp [go_sem, ← List.map_take, ← List.map_drop]; done))) ?_
         try simp [go_sem, seval]
         exact hQ _ _ (by simp [go_sem, h2, h4, h7, h10, h13, h16, ruleF] <;> first | omega | (rw [bei]; simp <;> omega) | (simp_all <;> omega))
end Go.Abs
end
