/- Layer 5: graphs. · Layer 5, the reference: graphs. · Layer 4 -/
import Derived.Test.YtjhccdolbhjmaaaGreatZgE
import Derived.Test.YtjhccdolbhjmaaaGreatZgG
set_option linter.unusedVariables false
set_option linter.unusedSimpArgs false
section
set_option maxRecDepth 4000
open Go Go.Proofs
namespace Go.Abs
@[go_sem] theorem ints_cl (l : List Int) : D.clLL (l.map cI) = true := clLL_map cI (fun _ => rfl) l
@[go_sem] theorem gedges_cl (l : List Edge) : D.clLL (l.map Edge.c) = true := clLL_map _ Edge.cl l
theorem indexFunc_int (xs : List Int) (g : FuncId) (caps : List D) (p : Int → Bool) (hc : D.clL caps = true) (hg : ∀ x ∈ xs, Pure Tryz.prog g (.int .i64 x :: caps) (.bool (p x))) :
    Pure Tryz.prog 72 [.list (xs.map cI), .fn g caps] (dI (idxF xs p)) := by
  refine pure_of_calls (acalls_of_body (cfg := ⟨fun _ => false, fun _ => []⟩) Tz.mixed Tryz.func72 rfl rfl (nlb rfl) (by kernel_rfl) ?_)
  simp [go_sem, dI, dLI]
  intro hlen
  refine loop_rule (ι := Nat) (fun i e H => H = .emp ∧ i ≤ xs.length ∧ e 0 = .list (xs.map cI) ∧ e 1 = .fn g caps ∧ e 7 = dI xs.length ∧ e 8 = dI i ∧ (∀ j x, j < i → xs[j]? = some x → p x = false)) (fun i => xs.length - i) 0 (by simp [go_sem, dI, dLI]) ?_
  intro i e H ⟨hH, hi, h0, h1, h7, h8, hn⟩
  subst hH
  simp [go_sem, h0, h1, h7, h8, dI, dLI]
  refine condQ_dec (fun hlt => ?_) (fun hge => ?_)
  · have hgx := hg xs[i] (lgm hlt)
    simp [go_sem, h0, h1, h7, h8, dI, dLI, hlt, cI] at hgx ⊢
    refine callQ_pure0 hgx (by simp [go_sem, hc]) ?_
    simp [go_sem, h0, h1, h7, h8, dI, dLI]
    refine condQ_mk (fun h => ?_) (fun h => ?_)
    ·simp [go_sem, h0, h1, h7, h8, dI, dLI]
     rw [idxF_some hn hlt h]
    ·simp [go_sem, h0, h1, h7, h8, dI, dLI]
     refine ⟨inR_i64 (by omega) (by omega), i + 1, by omega, by omega, by omega, fun j x hj hx => ?_⟩
     rcases Nat.lt_or_ge j i with hj' | hj'
     ·exact hn j x hj' hx
     ·have : j = i := by omega
      subst this
      rw [lge hlt] at hx
      cases hx; exact h
  · simp [go_sem, h0, h1, h7, h8, dI, dLI]
    rw [idxF_none fun j x hj => hn j x (by omega)]
theorem containsFunc_int (xs : List Int) (g : FuncId) (caps : List D) (p : Int → Bool) (hc : D.clL caps = true) (hl : D.cl (.list (xs.map cI)) = true) (hg : ∀ x ∈ xs, Pure Tryz.prog g (.int .i64 x :: caps) (.bool (p x))) :
    Pure Tryz.prog 39 [.list (xs.map cI), .fn g caps] (.bool (xs.any p)) := by
  refine pure_of_calls (acalls_of_body (cfg := ⟨fun _ => false, fun _ => []⟩) Tz.mixed Tryz.func39 rfl rfl (nlb rfl) (by kernel_rfl) ?_)
  simp [go_sem]
  refine callQ_pure0 (indexFunc_int xs g caps p hc hg) (by simp only [D.clL, hl, Bool.true_and]; simp [D.cl, hc]) ?_
  simp [go_sem, dI, idxF_any]
theorem indexFunc_gedge (xs : List Edge) (g : FuncId) (caps : List D) (p : Edge → Bool) (hc : D.clL caps = true) (hg : ∀ x ∈ xs, Pure Tryz.prog g (.agg x.c :: caps) (.bool (p x))) :
    Pure Tryz.prog 245 [.list (xs.map Edge.c), .fn g caps] (dI (idxF xs p)) := by
  refine pure_of_calls (acalls_of_body (cfg := ⟨fun _ => false, fun _ => []⟩) Tz.mixed Tryz.func245 rfl rfl (nlb rfl) (by kernel_rfl) ?_)
  simp [go_sem, dI, dLI]
  intro hlen
  refine loop_rule (ι := Nat) (fun i e H => H = .emp ∧ i ≤ xs.length ∧ e 0 = .list (xs.map Edge.c) ∧ e 1 = .fn g caps ∧ e 7 = dI xs.length ∧ e 8 = dI i ∧ (∀ j x, j < i → xs[j]? = some x → p x = false)) (fun i => xs.length - i) 0 (by simp [go_sem, dI, dLI]) ?_
  intro i e H ⟨hH, hi, h0, h1, h7, h8, hn⟩
  subst hH
  simp [go_sem, h0, h1, h7, h8, dI, dLI]
  refine condQ_dec (fun hlt => ?_) (fun hge => ?_)
  · have hgx := hg xs[i] (lgm hlt)
    simp [go_sem, h0, h1, h7, h8, dI, dLI, hlt, Edge.c] at hgx ⊢
    refine callQ_pure0 hgx (by simp [go_sem, hc]) ?_
    simp [go_sem, h0, h1, h7, h8, dI, dLI]
    refine condQ_mk (fun h => ?_) (fun h => ?_)
    ·simp [go_sem, h0, h1, h7, h8, dI, dLI]
     rw [idxF_some hn hlt h]
    ·simp [go_sem, h0, h1, h7, h8, dI, dLI]
     refine ⟨inR_i64 (by omega) (by omega), i + 1, by omega, by omega, by omega, fun j x hj hx => ?_⟩
     rcases Nat.lt_or_ge j i with hj' | hj'
     ·exact hn j x hj' hx
     ·have : j = i := by omega
      subst this
      rw [lge hlt] at hx
      cases hx; exact h
  · simp [go_sem, h0, h1, h7, h8, dI, dLI]
    rw [idxF_none fun j x hj => hn j x (by omega)]
theorem containsFunc_gedge (xs : List Edge) (g : FuncId) (caps : List D) (p : Edge → Bool) (hc : D.clL caps = true) (hl : D.cl (.list (xs.map Edge.c)) = true) (hg : ∀ x ∈ xs, Pure Tryz.prog g (.agg x.c :: caps) (.bool (p x))) :
    Pure Tryz.prog 190 [.list (xs.map Edge.c), .fn g caps] (.bool (xs.any p)) := by
  refine pure_of_calls (acalls_of_body (cfg := ⟨fun _ => false, fun _ => []⟩) Tz.mixed Tryz.func190 rfl rfl (nlb rfl) (by kernel_rfl) ?_)
  simp [go_sem]
  refine callQ_pure0 (indexFunc_gedge xs g caps p hc hg) (by simp only [D.clL, hl, Bool.true_and]; simp [D.cl, hc]) ?_
  simp [go_sem, dI, idxF_any]
def withinF (n m : Int) : Bool := decide (0 ≤ n) && decide (n ≤ m)
theorem graph_within (n m : Int) : Pure Tryz.prog 189 [dI n, dI m] (.bool (withinF n m)) := by
  refine pure_of_calls (acalls_of_body (cfg := ⟨fun _ => false, fun _ => []⟩) Tz.mixed Tryz.func189 rfl rfl (nlb rfl) (by kernel_rfl) ?_)
  simp [go_sem, dI, withinF]
def fitsF (x : Edge) (n : Int) : Bool := withinF x.type 99 && withinF x.from_ (n - 1) && withinF x.to_ (n - 1)
theorem graph_fits (x : Edge) (n : Int) (h0 : 0 ≤ n) (h1 : n ≤ 1000000) : Pure Tryz.prog 192 [.agg x.c, dI n] (.bool (fitsF x n)) := by
  have hw : ∀ a b : Int, Pure Tryz.prog 189 [.int .i64 a, .int .i64 b] (.bool (withinF a b)) := graph_within
  refine pure_of_calls (acalls_of_body (cfg := ⟨fun _ => false, fun _ => []⟩) Tz.mixed Tryz.func192 rfl rfl (nlb rfl) (by kernel_rfl) ?_)
  simp [go_sem, dI, Edge.c]
  refine callQ_pure0 (hw _ _) rfl ?_
  simp [go_sem, dI, Edge.c]
  refine ⟨fun _ => inR_i64 (by omega) (by omega), gcallQ_pure0 (fun _ => hw _ _) (fun _ => rfl) ?_⟩
  simp [go_sem, dI, Edge.c]
  refine ⟨fun _ _ => inR_i64 (by omega) (by omega), gcallQ_pure0 (fun _ => hw _ _) (fun _ => rfl) ?_⟩
  simp [go_sem, fitsF]
theorem graph_Valid1 (n : Int) : Pure Tryz.prog 188 [.int .i64 n] (.bool (!withinF n 99)) := by
  have hw : ∀ a b : Int, Pure Tryz.prog 189 [.int .i64 a, .int .i64 b] (.bool (withinF a b)) := graph_within
  refine pure_of_calls (acalls_of_body (cfg := ⟨fun _ => false, fun _ => []⟩) Tz.mixed Tryz.func188 rfl rfl (nlb rfl) (by kernel_rfl) ?_)
  simp [go_sem, dI]
  refine callQ_pure0 (hw _ _) rfl ?_
  simp [go_sem]
theorem graph_Valid2 (g : Graph) (hg : g.nodes.length ≤ 1000000) (x : Edge) : Pure Tryz.prog 191 [.agg x.c, .adr g.c] (.bool (!fitsF x g.nodes.length)) := by
  have hf := graph_fits x g.nodes.length (by omega) (by omega)
  simp only [Edge.c, dI] at hf
  refine pure_of_calls (acalls_of_body (cfg := ⟨fun _ => false, fun _ => []⟩) Tz.mixed Tryz.func191 rfl rfl (nlb rfl) (by kernel_rfl) ?_)
  simp [go_sem, dI, Edge.c, Graph.c, dLI]
  intro _
  refine callQ_pure0 hf rfl ?_
  simp [go_sem]
def graphF (g : Graph) : Int :=
  if 40 < g.nodes.length ∨ 80 < g.edges.length then 3
  else if (g.nodes.any fun n => !withinF n 99) = true then 6
  else if (g.edges.any fun x => !fitsF x g.nodes.length) = true then 6
  else 0
theorem graph_Valid (g : Graph) : Pure Tryz.prog 119 [g.d] (dI (graphF g)) := by
  refine pure_of_calls (acalls_of_body (cfg := ⟨fun _ => false, fun _ => []⟩) Tz.mixed Tryz.func119 rfl rfl (nlb rfl) (by kernel_rfl) ?_)
  simp [go_sem, dI, Graph.d, Graph.c, dLI]
  intro _ _
  refine condQ_mk (fun h => ?_) (fun h => ?_)
  · have h' : 40 < g.nodes.length ∨ 80 < g.edges.length := by simp at h; omega
    simp [go_sem, graphF, h']
  · have h' : ¬ (40 < g.nodes.length ∨ 80 < g.edges.length) := by simp at h; omega
    have h1 := containsFunc_int g.nodes 188 [] (fun n => !withinF n 99) rfl (by simp [D.cl, ints_cl]) (fun n _ => graph_Valid1 n)
    have h2 := containsFunc_gedge g.edges 191 [.adr g.c] (fun x => !fitsF x g.nodes.length) (by simp [D.clL, D.cl, Graph.c, ints_cl, gedges_cl, dLI]) (by simp [D.cl, gedges_cl]) (fun x _ => graph_Valid2 g (by omega) x)
    simp only [Graph.c, dLI] at h2
    simp [go_sem]
    refine callQ_pure0 h1 (by simp [D.clL, D.cl, ints_cl]) ?_
    simp [go_sem]
    refine condQ_mk (fun ha => ?_) (fun ha => ?_)
    ·have e : graphF g = 6 := by unfold graphF; rw [if_neg h', if_pos ha]
     simp [go_sem, e]
    ·simp [go_sem]
     refine callQ_pure0 h2 (by simp [D.clL, D.cl, ints_cl, gedges_cl]) ?_
     simp [go_sem]
     refine condQ_mk (fun hb => ?_) (fun hb => ?_)
     ·have e : graphF g = 6 := by unfold graphF; rw [if_neg h', if_neg (by rw [ha]; simp), if_pos hb]
      simp [go_sem, e]
     ·have e : graphF g = 0 := by unfold graphF; rw [if_neg h', if_neg (by rw [ha]; simp), if_neg (by rw [hb]; simp)]
      simp [go_sem, e]
end Go.Abs
end
section
set_option maxRecDepth 4000
open Go Go.Proofs
namespace Go.Abs
theorem ref05_kind (n : Int) : Pure Tryz.prog 127 [.int .i64 n] (.bool (withinF n 99)) := by
  refine pure_of_calls (acalls_of_body (cfg := ⟨fun _ => false, fun _ => []⟩) Tz.mixed Tryz.func127 rfl rfl (nlb rfl) (by kernel_rfl) ?_)
  simp [go_sem, withinF]
theorem ref05_right (x : Edge) (n : Int) : Pure Tryz.prog 128 [.agg x.c, .int .i64 n] (.bool (fitsF x n)) := by
  refine pure_of_calls (acalls_of_body (cfg := ⟨fun _ => false, fun _ => []⟩) Tz.mixed Tryz.func128 rfl rfl (nlb rfl) (by kernel_rfl) ?_)
  simp [go_sem, Edge.c, dI]
  refine callQ_pure0 (ref05_kind _) rfl ?_
  simp [go_sem, Edge.c, dI, fitsF, withinF]
  rw [bei]; simp; omega
theorem any_take_succ {α : Type} (l : List α) (p : α → Bool) (i : Nat) (hi : i < l.length) : (l.take (i + 1)).any p = ((l.take i).any p || p l[i]) := by
  rw [List.take_succ_eq_append_getElem hi, List.any_append]; simp
theorem ref05_Valid (g : Graph) : Pure Tryz.prog 80 [g.d] (dI (graphF g)) := by
  refine pure_of_calls (acalls_of_body (cfg := ⟨fun _ => false, fun _ => []⟩) Tz.mixed Tryz.func80 rfl rfl (nlb rfl) (by kernel_rfl) ?_)
  simp [go_sem, dI, Graph.d, Graph.c, dLI]
  intro _ _
  refine condQ_mk (fun h => ?_) (fun h => ?_)
  · have h' : 40 < g.nodes.length ∨ 80 < g.edges.length := by simp at h; omega
    simp [go_sem, graphF, h']
  · have h' : ¬ (40 < g.nodes.length ∨ 80 < g.edges.length) := by simp at h; omega
    simp [go_sem]
    refine loop_rule (ι := Nat) (fun i e H => i ≤ g.nodes.length ∧ e 1 = .adr g.c ∧ e 3 = dI i ∧ ((g.nodes.take i).any fun n => !withinF n 99) = false) (fun i => g.nodes.length - i) 0 (by simp [go_sem, dI, Graph.c, dLI]) ?_
    intro i e H ⟨hi, h1, h3, ha⟩
    simp [go_sem, h1, h3, dI, Graph.c, dLI]
    intro _
    refine condQ_dec (fun hlt => ?_) (fun hge => ?_)
    ·simp [go_sem, h1, h3, dI, Graph.c, dLI, hlt, cI]
     refine callQ_pure0 (ref05_kind _) rfl ?_
     simp [go_sem]
     refine condQ_mk (fun hc => ?_) (fun hc => ?_)
     ·have hany : (g.nodes.any fun n => !withinF n 99) = true := List.any_eq_true.2 ⟨_, lgm hlt, hc⟩
      have e : graphF g = 6 := by unfold graphF; rw [if_neg h', if_pos hany]
      simp [go_sem, e]
     ·simp [go_sem, h1, h3, dI, Graph.c, dLI]
      refine ⟨inR_i64 (by omega) (by omega), i + 1, by omega, by omega, by omega, ?_⟩
      have := any_take_succ g.nodes (fun n => !withinF n 99) i hlt
      rw [ha, hc] at this
      simpa using this
    ·simp [go_sem, h1, h3, dI, Graph.c, dLI]
     have ha' : (g.nodes.any fun n => !withinF n 99) = false := by rw [show i = g.nodes.length by omega, List.take_length] at ha; exact ha
     refine loop_rule (ι := Nat) (fun k e H => k ≤ g.edges.length ∧ e 1 = .adr g.c ∧ e 4 = dI k ∧ ((g.edges.take k).any fun x => !fitsF x g.nodes.length) = false) (fun k => g.edges.length - k) 0 (by simp [go_sem, h1, dI, Graph.c, dLI]) ?_
     intro k e H ⟨hk, h1, h4, hb⟩
     simp [go_sem, h1, h4, dI, Graph.c, dLI]
     intro _
     refine condQ_dec (fun hlt => ?_) (fun hge => ?_)
     ·have hr := ref05_right g.edges[k] g.nodes.length
      simp only [Edge.c, dI] at hr
      simp [go_sem, h1, h4, dI, Graph.c, dLI, hlt, Edge.c]
      refine dcallQ_pure0 hr rfl ?_
      simp [go_sem]
      refine condQ_mk (fun hc => ?_) (fun hc => ?_)
      ·have hany : (g.edges.any fun x => !fitsF x g.nodes.length) = true := List.any_eq_true.2 ⟨_, lgm hlt, hc⟩
       have e : graphF g = 6 := by unfold graphF; rw [if_neg h', if_neg (by rw [ha']; simp), if_pos hany]
       simp [go_sem, e]
      ·simp [go_sem, h1, h4, dI, Graph.c, dLI]
       refine ⟨inR_i64 (by omega) (by omega), k + 1, by omega, by omega, by omega, ?_⟩
       have := any_take_succ g.edges (fun x => !fitsF x g.nodes.length) k hlt
       rw [hb, hc] at this
       simpa using this
     ·have hb' : (g.edges.any fun x => !fitsF x g.nodes.length) = false := by rw [show k = g.edges.length by omega, List.take_length] at hb; exact hb
      have e : graphF g = 0 := by unfold graphF; rw [if_neg h', if_neg (by rw [ha']; simp), if_neg (by rw [hb']; simp)]
      simp [go_sem, e]
end Go.Abs
end
section
set_option maxRecDepth 4000
open Go Go.Proofs
namespace Go.Abs
attribute [go_sem] dI dLI dLS cI cS Attr.c NodeTy.c EdgeTy.c Types.c Types.d Edge.c Graph.c Graph.d
theorem clL_append (a b : List D) : D.clL (a ++ b) = (D.clL a && D.clL b) := by
  induction a with
  | nil => simp [D.clL]
  | cons x a ih => simp [D.clL, ih, Bool.and_assoc]
@[go_sem] theorem clLL_append (a b : List (List D)) : D.clLL (a ++ b) = (D.clLL a && D.clLL b) := by
  induction a with
  | nil => simp [D.clLL]
  | cons x a ih => simp [D.clLL, ih, Bool.and_assoc]
attribute [go_sem] clL_append
def inF (n low high : Int) : Bool := decide (low ≤ n) && decide (n ≤ high)
theorem ref04_in (n low high : Int) : Pure Tryz.prog 130 [dI n, dI low, dI high] (.bool (inF n low high)) := by
  refine Tz.pK ⟨fun _ => false, fun _ => []⟩ Tryz.func130 rfl (fun Q hQ => ?_)
  try simp [go_sem]
  repeat (first | intro _ | (refine ⟨obl, ?_⟩))
  exact hQ _ _ (by simp [go_sem, inF] <;> first | omega | (rw [bei]; simp <;> omega) | (simp_all <;> omega))
theorem mem_take {l : List ByteArray} {i : Nat} (hi : i < l.length) : mem (l.take i) l[i] = true ↔ ∃ j, j < i ∧ l[j]? = some l[i] := by
  rw [mem_iff, List.mem_take_iff_getElem]
  constructor
  · rintro ⟨j, hj, he⟩
    have hj' : j < l.length := by omega
    exact ⟨j, by omega, by rw [lge hj', he]⟩
  · rintro ⟨j, hj, he⟩
    have hj' : j < l.length := by omega
    rw [lge hj'] at he
    exact ⟨j, by omega, by simpa using he⟩
theorem all_lt_succ {p : Nat → Prop} {k : Nat} (h : ∀ j, j < k → p j) (hk : p k) : ∀ j, j < k + 1 → p j := fun j hj => by
  rcases Nat.lt_or_ge j k with h' | h'
  · exact h j h'
  · have : j = k := by omega
    subst this; exact hk
theorem ref04_names (l : List ByteArray) (hs : ∀ s ∈ l, s.size ≤ 100000) : Pure Tryz.prog 224 [dLS l] (dI (namesF l)) := by
  refine Tz.pK ⟨fun _ => false, fun _ => []⟩ Tryz.func224 rfl (fun Q hQ => ?_)
  try simp [go_sem]
  repeat (first | intro _ | (refine ⟨obl, ?_⟩))
  refine condQ_mk (fun h1 => ?_) (fun h1 => ?_)
  · try simp [go_sem] at h1
    try simp [go_sem]
    exact hQ _ _ (.inl (by simp [go_sem, namesF, show 20 < l.length by omega]))
  · try simp [go_sem] at h1
    try simp [go_sem]
    obtain ⟨I0, hI0⟩ := mkI fun i e H => ((e 0 = dLS l) ∧ (e 3 = dI i) ∧ (i ≤ l.length) ∧ (namesE (l.take i) (l.drop i) = namesF l))
    refine loopK I0 (fun i => l.length - i) (0) ((hI0 _ _ _).2 ⟨?_, ?_, (by first | assumption | omega | (simp [go_sem]; done) | (simp_all; done)), (by simp [namesF, show ¬ 20 < l.length by omega])⟩) ?_
    iterate 2 (first | omega | (simp [go_sem] <;> omega))
    intro i e H hi0
    obtain ⟨q0_0, q3_0, hi, hn⟩ := (hI0 _ _ _).1 hi0
    have F0 := And.intro q0_0 q3_0
    try simp [go_sem, F0]
    repeat (first | intro _ | (refine ⟨obl, ?_⟩))
    refine condQ_mk (fun h4 => ?_) (fun h4 => ?_)
    ·try simp [go_sem] at h4
     rw [List.drop_eq_getElem_cons h4] at hn
     have hsz := hs _ (lgm h4)
     try simp [go_sem, F0, h4]
     repeat (first | intro _ | (refine ⟨obl, ?_⟩))
     refine cq0 (ref01_IsName _ (by assumption)) ?_
     try simp [go_sem, F0, h4]
     repeat (first | intro _ | (refine ⟨obl, ?_⟩))
     refine condQ_mk (fun h6 => ?_) (fun h6 => ?_)
     ·try simp [go_sem] at h6
      try simp [go_sem, F0, h4]
      exact hQ _ _ (.inl (by rw [← hn]; simp [go_sem, namesE, h6]))
     ·try simp [go_sem] at h6
      try simp [go_sem, F0, h4]
      obtain ⟨I2, hI2⟩ := mkI fun k e H => ((e 0 = dLS l) ∧ (e 3 = dI i) ∧ (e 4 = dI k) ∧ (k ≤ i) ∧ (∀ j, j < k → l[j]? ≠ some l[i]))
      refine loopK I2 (fun k => i - k) (0) ((hI2 _ _ _).2 ⟨?_, ?_, ?_, (by first | assumption | omega | (simp [go_sem, F0, h4]; done) | (simp_all; done)), (by intro j hj; omega)⟩) ?_
      iterate 3 (first | omega | (simp [go_sem, F0, h4] <;> omega))
      intro k e H hi2
      obtain ⟨q0_2, q3_2, q4_2, hk, hne⟩ := (hI2 _ _ _).1 hi2
      have F2 := And.intro q0_2 (And.intro q3_2 q4_2)
      try simp [go_sem, h4, F2]
      refine condQ_mk (fun h9 => ?_) (fun h9 => ?_)
      ·try simp [go_sem] at h9
       have hkl : k < l.length := by omega
       try simp [go_sem, h4, F2, h9, hkl]
       repeat (first | intro _ | (refine ⟨obl, ?_⟩))
       refine condQ_mk (fun h11 => ?_) (fun h11 => ?_)
       ·try simp [go_sem] at h11
        try simp [go_sem, h4, F2, h9, hkl]
        exact hQ _ _ (.inl (by have hm : mem (l.take i) l[i] = true := (mem_take h4).2 ⟨k, h9, by rw [lge hkl, h11]⟩; rw [← hn]; simp [go_sem, namesE, h6, hm]))
       ·try simp [go_sem] at h11
        try simp [go_sem, h4, F2, h9, hkl]
        repeat (first | intro _ | (refine ⟨obl, ?_⟩))
        refine nextQ_mk (k + 1) (by omega) ((hI2 _ _ _).2 ⟨?_, ?_, ?_, (by first | assumption | omega | (simp [go_sem, h4, F2, h9, hkl, h1, h6, h11]; done) | (simp_all <;> omega)), (by exact all_lt_succ hne (by rw [lge hkl]; simpa using h11))⟩) <;> first | omega | (simp [go_sem, h4, F2, h9, hkl] <;> omega)
      ·try simp [go_sem] at h9
       have hm : ¬ mem (l.take i) l[i] = true := fun hm => by
        obtain ⟨j, hj, he⟩ := (mem_take h4).1 hm
        exact hne j (by omega) he
       try simp [go_sem, h4, F2]
       repeat (first | intro _ | (refine ⟨obl, ?_⟩))
       refine nextQ_mk (i + 1) (by omega) ((hI0 _ _ _).2 ⟨?_, ?_, (by first | assumption | omega | (simp [go_sem, h4, F2, h1, h6, h9]; done) | (simp_all <;> omega)), (by rw [← hn, namesE, if_neg (by simp [h6]), if_neg hm, List.take_succ_eq_append_getElem h4])⟩) <;> first | omega | (simp [go_sem, h4, F2] <;> omega)
    ·try simp [go_sem] at h4
     try simp [go_sem, F0]
     exact hQ _ _ (.inl (by rw [← hn, show i = l.length by omega]; simp [go_sem, namesE]))
def attr0 (x : Attr) : Int :=
  if namesF x.names ≠ 0 then namesF x.names
  else if (if 0 < x.names.length then decide (x.low = 0) && decide (x.high = x.names.length - 1) else decide (-1000000 ≤ x.low) && decide (x.low ≤ x.high) && decide (x.high ≤ 1000000)) = true then 0 else 6
theorem ref04_attribute (x : Attr) (hx : x.ok) : Pure Tryz.prog 170 [.agg x.c] (dI (attr0 x)) := by
  have hfew := hx.few
  have hz : x.names = [] → namesF x.names = 0 := fun h => by rw [h]; rfl
  refine Tz.pK ⟨fun _ => false, fun _ => []⟩ Tryz.func170 rfl (fun Q hQ => ?_)
  try simp [go_sem]
  repeat (first | intro _ | (refine ⟨obl, ?_⟩))
  refine condQ_mk (fun h1 => ?_) (fun h1 => ?_)
  · try simp [go_sem] at h1
    have hp : ¬ 0 < x.names.length := by simp [h1]
    try simp [go_sem]
    repeat (first | intro _ | (refine ⟨obl, ?_⟩))
    refine cq0 (ref04_in _ _ _) ?_
    try simp [go_sem]
    repeat (first | intro _ | (refine ⟨obl, ?_⟩))
    refine gcq0 (fun hg => ref04_in _ _ _) ?_
    try simp [go_sem]
    repeat (first | intro _ | (refine ⟨obl, ?_⟩))
    refine condQ_mk (fun h2 => ?_) (fun h2 => ?_)
    ·try simp [go_sem] at h2
     try simp [go_sem]
     exact hQ _ _ (.inl (by simp [go_sem, attr0, hz h1, hp]; simp [inF] at h2; omega))
    ·try simp [go_sem] at h2
     try simp [go_sem]
     exact hQ _ _ (.inl (by simp [go_sem, attr0, hz h1, hp]; simp [inF] at h2; omega))
  · try simp [go_sem] at h1
    have hp : 0 < x.names.length := by cases hh : x.names <;> simp_all
    try simp [go_sem]
    refine cq0 (ref04_names x.names hx.names) ?_
    try simp [go_sem]
    refine condQ_mk (fun h6 => ?_) (fun h6 => ?_)
    ·try simp [go_sem] at h6
     try simp [go_sem]
     exact hQ _ _ (.inl (by simp [go_sem, attr0, h6]))
    ·try simp [go_sem] at h6
     try simp [go_sem]
     repeat (first | intro _ | (refine ⟨obl, ?_⟩))
     refine condQ_mk (fun h8 => ?_) (fun h8 => ?_)
     ·try simp [go_sem] at h8
      try simp [go_sem]
      exact hQ _ _ (.inl (by simp [go_sem, attr0, h6, hp]; omega))
     ·try simp [go_sem] at h8
      try simp [go_sem]
      exact hQ _ _ (.inl (by simp [go_sem, attr0, h6, hp]; omega))
theorem attrs_rec (t : Types) (a : Nat) (ha : a < t.nodes.length) (hp : parentsOK t.nodes a) :
    t.attrs a = (if 0 ≤ t.nodes[a].parent then t.attrs t.nodes[a].parent.toNat else []) ++ t.nodes[a].attrs := by
  have hpa := hp a _ (Nat.le_refl _) (lge ha)
  by_cases h' : 0 ≤ t.nodes[a].parent
  · have hlt : t.nodes[a].parent.toNat < a := by omega
    have := attrsF_fuel t.nodes t.nodes[a].parent.toNat a (t.nodes[a].parent.toNat + 1) (fun j m hj hm => hp j m (by omega) hm) hlt (by omega)
    simp [Types.attrs, attrsF, lge ha, h', this]
  · simp [Types.attrs, attrsF, lge ha, h']
theorem ref04_attrsN (t : Types) (a : Int) (ha : a < 0) : Pure Tryz.prog 141 [t.d, dI a] (.list []) := by
  refine Tz.pK ⟨fun t => t == 7, fun r => match r with | 3 => [(0, 1), (0, 2), (0, 3), (0, 5), (0, 6), (0, 7), (0, 8), (0, 10), (9, 10), (0, 11), (9, 11), (0, 13), (9, 13), (0, 14), (9, 14), (0, 15), (9, 15)] | _ => []⟩ Tryz.func141 rfl (fun Q hQ => ?_)
  try simp [go_sem, ha]
  exact hQ _ _ (by simp [go_sem, ha] <;> first | omega | (rw [bei]; simp <;> omega) | (simp_all <;> omega))
theorem ref04_attrs (t : Types) (ht : t.ok) : ∀ a : Nat, a < t.nodes.length → parentsOK t.nodes a → Pure Tryz.prog 141 [t.d, dI a] (.list ((t.attrs a).map Attr.c)) := by
  intro a
  induction a using Nat.strongRecOn with
  | _ a ih =>
  intro ha hp
  have hpa := hp a _ (Nat.le_refl _) (lge ha)
  have hlen := attrsF_len t.nodes (fun n hn => (ht.nodes n hn).few) (a + 1) a
  have hfew := ht.fewN
  have e := attrs_rec t a ha hp
  have hc : Pure Tryz.prog 141 [t.d, dI t.nodes[a].parent] (.list (((if 0 ≤ t.nodes[a].parent then t.attrs t.nodes[a].parent.toNat else [])).map Attr.c)) := by
    by_cases h' : 0 ≤ t.nodes[a].parent
    ·rw [if_pos h']
     have := ih t.nodes[a].parent.toNat (by omega) (by omega) (fun j m hj hm => hp j m (by omega) hm)
     rwa [Int.toNat_of_nonneg h'] at this
    ·rw [if_neg h']
     exact ref04_attrsN t _ (by omega)
  have hl2 : (if 0 ≤ t.nodes[a].parent then t.attrs t.nodes[a].parent.toNat else []).length + t.nodes[a].attrs.length ≤ 2000000 := by
    have h1 : (t.attrs a).length ≤ 1000 * (a + 1) := hlen
    rw [e, List.length_append] at h1
    omega
  rw [e]
  generalize (if 0 ≤ t.nodes[a].parent then t.attrs t.nodes[a].parent.toNat else []) = u at *
  refine Tz.pK ⟨fun t => t == 7, fun r => match r with | 3 => [(0, 1), (0, 2), (0, 3), (0, 5), (0, 6), (0, 7), (0, 8), (0, 10), (9, 10), (0, 11), (9, 11), (0, 13), (9, 13), (0, 14), (9, 14), (0, 15), (9, 15)] | _ => []⟩ Tryz.func141 rfl (fun Q hQ => ?_)
  try simp [go_sem, lge ha, ha, show ¬ ((a : Int) < 0) by omega]
  repeat (first | intro _ | (refine ⟨obl, ?_⟩))
  refine dcq0 (hc) ?_
  try simp [go_sem, lge ha, ha, show ¬ ((a : Int) < 0) by omega]
  repeat (first | intro _ | (refine ⟨obl, ?_⟩))
  exact hQ _ _ (by simp [go_sem, lge ha, ha, show ¬ ((a : Int) < 0) by omega] <;> first | omega | (rw [bei]; simp <;> omega) | (simp_all <;> omega))
theorem ref04_bound (low high : Int) : Pure Tryz.prog 171 [dI low, dI high] (.bool (boundedF low high)) := by
  refine Tz.pK ⟨fun _ => false, fun _ => []⟩ Tryz.func171 rfl (fun Q hQ => ?_)
  try simp [go_sem]
  repeat (first | intro _ | (refine ⟨obl, ?_⟩))
  refine cq0 (ref04_in _ _ _) ?_
  try simp [go_sem]
  repeat (first | intro _ | (refine ⟨obl, ?_⟩))
  refine gcq0 (fun hg => ref04_in _ _ _) ?_
  try simp [go_sem]
  repeat (first | intro _ | (refine ⟨obl, ?_⟩))
  exact hQ _ _ (by simp [go_sem, boundedF, inF] <;> first | omega | (rw [bei]; simp <;> omega) | (simp_all <;> omega))
theorem any_take_of {α : Type} {l : List α} {p : α → Bool} {k i : Nat} (hk : k < i) (hl : k < l.length) (h : p l[k] = true) : (l.take i).any p = true :=
  List.any_eq_true.2 ⟨l[k], List.mem_take_iff_getElem.2 ⟨k, by omega, rfl⟩, h⟩
theorem any_take_end {α : Type} {l : List α} {p : α → Bool} {k i : Nat} (h : (l.take k).any p = false) (he : k = i) : (l.take i).any p = false := by rw [← he]; exact h
def attrE (l : List Attr) (k : Nat) : Int := match l[k]? with | some x => attributeF x (l.take k) | none => 0
theorem attrE_at {l : List Attr} {k : Nat} (h : k < l.length) : attrE l k = if isName l[k].name = false then 2 else if ((l.take k).any fun y => decide (y.name = l[k].name)) = true then 5 else attr0 l[k] := by
  unfold attrE; rw [lge h]; rfl
theorem firstE_step (f : Nat → Int) {k n : Nat} (h : k < n) : firstE f k (n - k) = if f k ≠ 0 then f k else firstE f (k + 1) (n - (k + 1)) := by
  rw [show n - k = n - (k + 1) + 1 by omega, firstE]
theorem nodeF_at (t : Types) (i : Nat) (hi : i < t.nodes.length) : nodeF t i =
    if isName t.nodes[i].name = false then 2
    else if ((t.nodes.take i).any fun m => decide (m.name = t.nodes[i].name)) = true then 5
    else if (decide (t.nodes[i].parent < -1) || decide ((i : Int) ≤ t.nodes[i].parent)) = true then 6
    else if 4 < t.nodes[i].attrs.length then 3
    else if 8 < (t.attrs i).length then 3
    else firstE (attrE (t.attrs i)) ((t.attrs i).length - t.nodes[i].attrs.length) t.nodes[i].attrs.length := by
  unfold nodeF; rw [lge hi]; rfl
theorem ref04_node (t : Types) (ht : t.ok) (i : Nat) (hi : i < t.nodes.length) (hp : ∀ j n, j < i → t.nodes[j]? = some n → n.parent < j) : Pure Tryz.prog 107 [t.d, dI i] (dI (nodeF t i)) := by
  have hno := ht.nodes _ (lgm hi)
  have hfew := ht.fewN
  have hF := nodeF_at t i hi
  have hok : ∀ x ∈ t.attrs i, x.ok := attrsF_ok t.nodes ht.nodes _ _
  have hal := attrsF_len t.nodes (fun n hn => (ht.nodes n hn).few) (i + 1) i
  have hle : t.nodes[i].attrs.length ≤ (t.attrs i).length := by simp [Types.attrs, attrsF, lge hi]
  refine Tz.pK ⟨fun t => t == 5, fun _ => []⟩ Tryz.func107 rfl (fun Q hQ => ?_)
  try simp [go_sem, lge hi, hi]
  repeat (first | intro _ | (refine ⟨obl, ?_⟩))
  refine cq0 (ref01_IsName _ hno.name) ?_
  try simp [go_sem, lge hi, hi]
  repeat (first | intro _ | (refine ⟨obl, ?_⟩))
  refine condQ_mk (fun h2 => ?_) (fun h2 => ?_)
  · try simp [go_sem] at h2
    try simp [go_sem, lge hi, hi]
    exact hQ _ _ (.inl (by simp [go_sem, hF, h2]))
  · try simp [go_sem] at h2
    try simp [go_sem, lge hi, hi]
    obtain ⟨I0, hI0⟩ := mkI fun k e H => ((e 1 = dI i) ∧ (e 2 = .adr t.c) ∧ (e 5 = .ptr 0 1 0 0) ∧ (e 6 = dI k) ∧ (H.get 0 = some ⟨98, 4, [t.nodes[i].c], false⟩) ∧ (0 < H.next) ∧ (k ≤ i) ∧ (((t.nodes.take k).any fun m => decide (m.name = t.nodes[i].name)) = false))
    refine loopK I0 (fun k => i - k) (0) ((hI0 _ _ _).2 ⟨?_, ?_, ?_, ?_, ?_, ?_, (by first | assumption | omega | (simp [go_sem, lge hi, hi]; done) | (simp_all; done)), (by simp)⟩) ?_
    iterate 6 (first | omega | (simp [go_sem, lge hi, hi] <;> omega))
    intro k e H hi0
    obtain ⟨q1_0, q2_0, q5_0, q6_0, g0_0, n0_0, hk, hne⟩ := (hI0 _ _ _).1 hi0
    have x0 := frs n0_0
    have F0 := And.intro q1_0 (And.intro q2_0 (And.intro q5_0 (And.intro q6_0 (And.intro g0_0 x0))))
    try simp [go_sem, lge hi, hi, F0]
    refine condQ_mk (fun h5 => ?_) (fun h5 => ?_)
    ·try simp [go_sem] at h5
     have hkl : k < t.nodes.length := by omega
     try simp [go_sem, lge hi, hi, F0, h5, hkl]
     repeat (first | intro _ | (refine ⟨obl, ?_⟩))
     refine condQ_mk (fun h7 => ?_) (fun h7 => ?_)
     ·try simp [go_sem] at h7
      try simp [go_sem, lge hi, hi, F0, h5, hkl]
      exact hQ _ _ (.inl (by have hb := any_take_of (p := fun m : NodeTy => decide (m.name = t.nodes[i].name)) h5 hkl (by simpa using h7); rw [hF, if_neg (by simp [h2]), if_pos hb]; simp [go_sem]))
     ·try simp [go_sem] at h7
      try simp [go_sem, lge hi, hi, F0, h5, hkl]
      repeat (first | intro _ | (refine ⟨obl, ?_⟩))
      refine nextQ_mk (k + 1) (by omega) ((hI0 _ _ _).2 ⟨?_, ?_, ?_, ?_, ?_, ?_, (by first | assumption | omega | (simp [go_sem, lge hi, hi, F0, h5, hkl, h2, h7]; done) | (simp_all <;> omega)), (by rw [any_take_succ _ _ _ hkl, hne]; simpa using h7)⟩) <;> first | omega | (simp [go_sem, lge hi, hi, F0, h5, hkl] <;> omega)
    ·try simp [go_sem] at h5
     have hb := any_take_end hne (show k = i by omega)
     try simp [go_sem, lge hi, hi, F0]
     repeat (first | intro _ | (refine ⟨obl, ?_⟩))
     refine cq0 (ref04_in _ _ _) ?_
     try simp [go_sem, lge hi, hi, F0]
     repeat (first | intro _ | (refine ⟨obl, ?_⟩))
     refine condQ_mk (fun h9 => ?_) (fun h9 => ?_)
     ·try simp [go_sem] at h9
      try simp [go_sem, lge hi, hi, F0]
      exact hQ _ _ (.inl (by rw [hF, if_neg (by simp [h2]), if_neg (by simp [hb]), if_pos (by simp [inF] at h9; simp; omega)]; simp [go_sem]))
     ·try simp [go_sem] at h9
      have hr : ¬ (decide (t.nodes[i].parent < -1) || decide ((i : Int) ≤ t.nodes[i].parent)) = true := by simp [inF] at h9; simp; omega
      have hpo : parentsOK t.nodes i := fun j n hj hn => by
       rcases Nat.lt_or_ge j i with h | h
       ·exact hp j n h hn
       ·have : j = i := by omega
        subst this
        rw [lge hi] at hn
        cases hn; simp at hr; omega
      try simp [go_sem, lge hi, hi, F0]
      refine cq0 (ref04_attrs t ht i hi hpo) ?_
      try simp [go_sem, lge hi, hi, F0]
      repeat (first | intro _ | (refine ⟨obl, ?_⟩))
      refine condQ_mk (fun h12 => ?_) (fun h12 => ?_)
      ·try simp [go_sem] at h12
       try simp [go_sem, lge hi, hi, F0]
       exact hQ _ _ (.inl (by rw [hF, if_neg (by simp [h2]), if_neg (by simp [hb]), if_neg hr]; simp [go_sem]; omega))
      ·try simp [go_sem] at h12
       have hF2 : nodeF t i = firstE (attrE (t.attrs i)) ((t.attrs i).length - t.nodes[i].attrs.length) t.nodes[i].attrs.length := by rw [hF, if_neg (by simp [h2]), if_neg (by simp [hb]), if_neg hr, if_neg (by omega), if_neg (by omega)]
       try simp [go_sem, lge hi, hi, F0]
       repeat (first | intro _ | (refine ⟨obl, ?_⟩))
       obtain ⟨I2, hI2⟩ := mkI fun k e H => ((e 1 = dI i) ∧ (e 2 = .adr t.c) ∧ (e 7 = .list ((t.attrs i).map Attr.c)) ∧ (e 8 = dI k) ∧ (k ≤ (t.attrs i).length) ∧ (firstE (attrE (t.attrs i)) k ((t.attrs i).length - k) = nodeF t i))
       refine loopK I2 (fun k => (t.attrs i).length - k) ((t.attrs i).length - t.nodes[i].attrs.length) ((hI2 _ _ _).2 ⟨?_, ?_, ?_, ?_, (by omega), (by rw [hF2]; congr 1; omega)⟩) ?_
       iterate 4 (first | omega | (simp [go_sem, lge hi, hi, F0] <;> omega))
       intro k e H hi2
       obtain ⟨q1_2, q2_2, q7_2, q8_2, hk, hFk⟩ := (hI2 _ _ _).1 hi2
       have F2 := And.intro q1_2 (And.intro q2_2 (And.intro q7_2 q8_2))
       try simp [go_sem, lge hi, hi, F2]
       repeat (first | intro _ | (refine ⟨obl, ?_⟩))
       refine condQ_mk (fun h15 => ?_) (fun h15 => ?_)
       ·try simp [go_sem] at h15
        have hst := firstE_step (attrE (t.attrs i)) h15
        rw [hFk] at hst
        have hE := attrE_at h15
        try simp [go_sem, lge hi, hi, F2, h15]
        repeat (first | intro _ | (refine ⟨obl, ?_⟩))
        refine cq0 (ref01_IsName _ (hok _ (lgm h15)).name) ?_
        try simp [go_sem, lge hi, hi, F2, h15]
        repeat (first | intro _ | (refine ⟨obl, ?_⟩))
        refine condQ_mk (fun h17 => ?_) (fun h17 => ?_)
        ·try simp [go_sem] at h17
         try simp [go_sem, lge hi, hi, F2, h15]
         have hE2 : attrE (t.attrs i) k = 2 := by rw [hE, if_pos (by simp [h17])]
         exact hQ _ _ (.inl (by rw [hst, hE2]; simp [go_sem]))
        ·try simp [go_sem] at h17
         try simp [go_sem, lge hi, hi, F2, h15]
         obtain ⟨I4, hI4⟩ := mkI fun j e H => ((e 1 = dI i) ∧ (e 2 = .adr t.c) ∧ (e 7 = .list ((t.attrs i).map Attr.c)) ∧ (e 8 = dI k) ∧ (e 9 = dI j) ∧ (j ≤ k) ∧ ((((t.attrs i).take j).any fun y => decide (y.name = (t.attrs i)[k].name)) = false))
         refine loopK I4 (fun j => k - j) (0) ((hI4 _ _ _).2 ⟨?_, ?_, ?_, ?_, ?_, (by first | assumption | omega | (simp [go_sem, lge hi, hi, F2, h15]; done) | (simp_all; done)), (by simp)⟩) ?_
         iterate 5 (first | omega | (simp [go_sem, lge hi, hi, F2, h15] <;> omega))
         intro j e H hi4
         obtain ⟨q1_4, q2_4, q7_4, q8_4, q9_4, hj, hne⟩ := (hI4 _ _ _).1 hi4
         have F4 := And.intro q1_4 (And.intro q2_4 (And.intro q7_4 (And.intro q8_4 q9_4)))
         try simp [go_sem, lge hi, hi, h15, F4]
         refine condQ_mk (fun h20 => ?_) (fun h20 => ?_)
         ·try simp [go_sem] at h20
          have hjl : j < (t.attrs i).length := by omega
          try simp [go_sem, lge hi, hi, h15, F4, h20, hjl]
          repeat (first | intro _ | (refine ⟨obl, ?_⟩))
          refine condQ_mk (fun h22 => ?_) (fun h22 => ?_)
          ·try simp [go_sem] at h22
           try simp [go_sem, lge hi, hi, h15, F4, h20, hjl]
           have hb := any_take_of (p := fun y : Attr => decide (y.name = (t.attrs i)[k].name)) h20 hjl (by simpa using h22)
           have hE2 : attrE (t.attrs i) k = 5 := by rw [hE, if_neg (by simp [h17]), if_pos hb]
           exact hQ _ _ (.inl (by rw [hst, hE2]; simp [go_sem]))
          ·try simp [go_sem] at h22
           try simp [go_sem, lge hi, hi, h15, F4, h20, hjl]
           repeat (first | intro _ | (refine ⟨obl, ?_⟩))
           refine nextQ_mk (j + 1) (by omega) ((hI4 _ _ _).2 ⟨?_, ?_, ?_, ?_, ?_, (by first | assumption | omega | (simp [go_sem, lge hi, hi, h15, F4, h20, hjl, h2, h5, h9, h12, h17, h22]; done) | (simp_all <;> omega)), (by rw [any_take_succ _ _ _ hjl, hne]; simpa using h22)⟩) <;> first | omega | (simp [go_sem, lge hi, hi, h15, F4, h20, hjl] <;> omega)
         ·try simp [go_sem] at h20
          have hb2 := any_take_end hne (show j = k by omega)
          have hE2 : attrE (t.attrs i) k = attr0 (t.attrs i)[k] := by rw [hE, if_neg (by simp [h17]), if_neg (by simp [hb2])]
          rw [hE2] at hst
          try simp [go_sem, lge hi, hi, h15, F4]
          repeat (first | intro _ | (refine ⟨obl, ?_⟩))
          refine cq0 (ref04_attribute _ (hok _ (lgm h15))) ?_
          try simp [go_sem, lge hi, hi, h15, F4]
          repeat (first | intro _ | (refine ⟨obl, ?_⟩))
          refine condQ_mk (fun h25 => ?_) (fun h25 => ?_)
          ·try simp [go_sem] at h25
           try simp [go_sem, lge hi, hi, h15, F4]
           exact hQ _ _ (.inl (by rw [hst, if_pos (by simpa using h25)]; simp [go_sem]))
          ·try simp [go_sem] at h25
           try simp [go_sem, lge hi, hi, h15, F4]
           repeat (first | intro _ | (refine ⟨obl, ?_⟩))
           refine nextQ_mk (k + 1) (by omega) ((hI2 _ _ _).2 ⟨?_, ?_, ?_, ?_, (by first | assumption | omega | (simp [go_sem, lge hi, hi, h15, F4, h2, h5, h9, h12, h17, h20, h25]; done) | (simp_all <;> omega)), (by rw [if_neg (by simp [h25])] at hst; rw [← hst])⟩) <;> first | omega | (simp [go_sem, lge hi, hi, h15, F4] <;> omega)
       ·try simp [go_sem] at h15
        try simp [go_sem, lge hi, hi, F2]
        exact hQ _ _ (.inl (by rw [← hFk, show (t.attrs i).length - k = 0 by omega]; rfl))
end Go.Abs
end
section
set_option maxRecDepth 4000
open Go Go.Proofs
namespace Go.Abs
theorem edgeF_at (t : Types) (i : Nat) (hi : i < t.edges.length) : edgeF t i =
    if isName t.edges[i].name = false then 2
    else if ((t.edges.take i).any fun y => decide (y.name = t.edges[i].name)) = true then 5
    else if (insideF t t.edges[i].from_ && insideF t t.edges[i].to_ && boundedF t.edges[i].outLow t.edges[i].outHigh && boundedF t.edges[i].inLow t.edges[i].inHigh) = true then 0 else 6 := by
  unfold edgeF; rw [lge hi]
theorem inF_inside (t : Types) (a : Int) : inF a 0 ((t.nodes.length : Int) - 1) = insideF t a := by
  simp only [inF, insideF]; rw [bei]; simp; omega
theorem ref04_edge (t : Types) (ht : t.ok) (i : Nat) (hi : i < t.edges.length) : Pure Tryz.prog 108 [t.d, dI i] (dI (edgeF t i)) := by
  have hno := ht.edges _ (lgm hi)
  have hfew := ht.fewN
  have hfewE := ht.fewE
  have hF := edgeF_at t i hi
  refine Tz.pK ⟨fun t => t == 5, fun _ => []⟩ Tryz.func108 rfl (fun Q hQ => ?_)
  try simp [go_sem, lge hi, hi]
  repeat (first | intro _ | (refine ⟨obl, ?_⟩))
  refine cq0 (ref01_IsName _ hno.name) ?_
  try simp [go_sem, lge hi, hi]
  repeat (first | intro _ | (refine ⟨obl, ?_⟩))
  refine condQ_mk (fun h2 => ?_) (fun h2 => ?_)
  · try simp [go_sem] at h2
    try simp [go_sem, lge hi, hi]
    exact hQ _ _ (.inl (by simp [go_sem, hF, h2]))
  · try simp [go_sem] at h2
    try simp [go_sem, lge hi, hi]
    obtain ⟨I0, hI0⟩ := mkI fun k e H => ((e 1 = dI i) ∧ (e 2 = .adr t.c) ∧ (e 5 = .ptr 0 1 0 0) ∧ (e 6 = dI k) ∧ (H.get 0 = some ⟨103, 7, [t.edges[i].c], false⟩) ∧ (0 < H.next) ∧ (k ≤ i) ∧ (((t.edges.take k).any fun m => decide (m.name = t.edges[i].name)) = false))
    refine loopK I0 (fun k => i - k) (0) ((hI0 _ _ _).2 ⟨?_, ?_, ?_, ?_, ?_, ?_, (by first | assumption | omega | (simp [go_sem, lge hi, hi]; done) | (simp_all; done)), (by simp)⟩) ?_
    iterate 6 (first | omega | (simp [go_sem, lge hi, hi] <;> omega))
    intro k e H hi0
    obtain ⟨q1_0, q2_0, q5_0, q6_0, g0_0, n0_0, hk, hne⟩ := (hI0 _ _ _).1 hi0
    have x0 := frs n0_0
    have F0 := And.intro q1_0 (And.intro q2_0 (And.intro q5_0 (And.intro q6_0 (And.intro g0_0 x0))))
    try simp [go_sem, lge hi, hi, F0]
    refine condQ_mk (fun h5 => ?_) (fun h5 => ?_)
    ·try simp [go_sem] at h5
     have hkl : k < t.edges.length := by omega
     try simp [go_sem, lge hi, hi, F0, h5, hkl]
     repeat (first | intro _ | (refine ⟨obl, ?_⟩))
     refine condQ_mk (fun h7 => ?_) (fun h7 => ?_)
     ·try simp [go_sem] at h7
      try simp [go_sem, lge hi, hi, F0, h5, hkl]
      exact hQ _ _ (.inl (by have hb := any_take_of (p := fun m : EdgeTy => decide (m.name = t.edges[i].name)) h5 hkl (by simpa using h7); rw [hF, if_neg (by simp [h2]), if_pos hb]; simp [go_sem]))
     ·try simp [go_sem] at h7
      try simp [go_sem, lge hi, hi, F0, h5, hkl]
      repeat (first | intro _ | (refine ⟨obl, ?_⟩))
      refine nextQ_mk (k + 1) (by omega) ((hI0 _ _ _).2 ⟨?_, ?_, ?_, ?_, ?_, ?_, (by first | assumption | omega | (simp [go_sem, lge hi, hi, F0, h5, hkl, h2, h7]; done) | (simp_all <;> omega)), (by rw [any_take_succ _ _ _ hkl, hne]; simpa using h7)⟩) <;> first | omega | (simp [go_sem, lge hi, hi, F0, h5, hkl] <;> omega)
    ·try simp [go_sem] at h5
     have hb := any_take_end hne (show k = i by omega)
     try simp [go_sem, lge hi, hi, F0]
     repeat (first | intro _ | (refine ⟨obl, ?_⟩))
     refine cq0 (ref04_in _ _ _) ?_
     try simp [go_sem, lge hi, hi, F0]
     repeat (first | intro _ | (refine ⟨obl, ?_⟩))
     refine gcq0 (fun hg => ref04_in _ _ _) ?_
     try simp [go_sem, lge hi, hi, F0]
     repeat (first | intro _ | (refine ⟨obl, ?_⟩))
     refine gcq0 (fun hg => ref04_bound _ _) ?_
     try simp [go_sem, lge hi, hi, F0]
     repeat (first | intro _ | (refine ⟨obl, ?_⟩))
     refine gcq0 (fun hg => ref04_bound _ _) ?_
     try simp [go_sem, lge hi, hi, F0]
     repeat (first | intro _ | (refine ⟨obl, ?_⟩))
     refine condQ_mk (fun h10 => ?_) (fun h10 => ?_)
     ·skip
      simp only [inF_inside] at h10
      try simp [go_sem, lge hi, hi, F0]
      exact hQ _ _ (.inl (by rw [hF, if_neg (by simp [h2]), if_neg (by simp [hb])]; revert h10; cases insideF t t.edges[i].from_ <;> cases insideF t t.edges[i].to_ <;> cases boundedF t.edges[i].outLow t.edges[i].outHigh <;> cases boundedF t.edges[i].inLow t.edges[i].inHigh <;> simp [go_sem]))
     ·skip
      simp only [inF_inside] at h10
      try simp [go_sem, lge hi, hi, F0]
      exact hQ _ _ (.inl (by rw [hF, if_neg (by simp [h2]), if_neg (by simp [hb])]; revert h10; cases insideF t t.edges[i].from_ <;> cases insideF t t.edges[i].to_ <;> cases boundedF t.edges[i].outLow t.edges[i].outHigh <;> cases boundedF t.edges[i].inLow t.edges[i].inHigh <;> simp [go_sem]))
theorem firstNE_step (f : Nat → Int) (nm : Nat → ByteArray) (last : ByteArray × Int) {k n : Nat} (h : k < n) : firstNE f nm last k (n - k) = if f k ≠ 0 then (nm k, f k) else firstNE f nm last (k + 1) (n - (k + 1)) := by
  rw [show n - k = n - (k + 1) + 1 by omega, firstNE]
theorem ref04_Valid (t : Types) (ht : t.ok) : Pure Tryz.prog 68 [t.d] (.tup [.str (validF t).1, dI (validF t).2]) := by
  have hfew := ht.fewN
  have hfewE := ht.fewE
  refine Tz.pK ⟨fun _ => false, fun _ => []⟩ Tryz.func68 rfl (fun Q hQ => ?_)
  try simp [go_sem]
  repeat (first | intro _ | (refine ⟨obl, ?_⟩))
  refine condQ_mk (fun h1 => ?_) (fun h1 => ?_)
  · try simp [go_sem] at h1
    try simp [go_sem]
    exact hQ _ _ (.inl (by simp [go_sem, validF, h1]))
  · try simp [go_sem] at h1
    try simp [go_sem]
    repeat (first | intro _ | (refine ⟨obl, ?_⟩))
    refine condQ_mk (fun h3 => ?_) (fun h3 => ?_)
    ·try simp [go_sem] at h3
     try simp [go_sem]
     exact hQ _ _ (.inl (by simp [go_sem, validF, h1, show 12 < t.nodes.length ∨ 20 < t.edges.length by omega]))
    ·try simp [go_sem] at h3
     have e : validF t = firstNE (nodeF t) t.nodeName (firstNE (edgeF t) t.edgeName (⟨#[]⟩, 0) 0 t.edges.length) 0 t.nodes.length := by simp only [validF]; rw [if_neg (by simpa using h1), if_neg (by omega)]
     try simp [go_sem]
     obtain ⟨I0, hI0⟩ := mkI fun i e H => ((e 1 = .adr t.c) ∧ (e 4 = dI i) ∧ (i ≤ t.nodes.length) ∧ (∀ j, j < i → nodeF t j = 0) ∧ (firstNE (nodeF t) t.nodeName (firstNE (edgeF t) t.edgeName (⟨#[]⟩, 0) 0 t.edges.length) i (t.nodes.length - i) = validF t))
     refine loopK I0 (fun i => t.nodes.length - i) (0) ((hI0 _ _ _).2 ⟨?_, ?_, (by first | assumption | omega | (simp [go_sem]; done) | (simp_all; done)), (by intro j hj; omega), (by rw [e]; rfl)⟩) ?_
     iterate 2 (first | omega | (simp [go_sem] <;> omega))
     intro i e H hi0
     obtain ⟨q1_0, q4_0, hi, hz, hFk⟩ := (hI0 _ _ _).1 hi0
     have F0 := And.intro q1_0 q4_0
     try simp [go_sem, F0]
     repeat (first | intro _ | (refine ⟨obl, ?_⟩))
     refine condQ_mk (fun h6 => ?_) (fun h6 => ?_)
     ·try simp [go_sem] at h6
      have hst := hFk
      rw [firstNE_step _ _ _ h6] at hst
      try simp [go_sem, F0, h6]
      refine cq0 (ref04_node t ht i h6 (fun j n hj hn => nodeF_parent t j n (hz j hj) hn)) ?_
      try simp [go_sem, F0, h6]
      refine condQ_mk (fun h9 => ?_) (fun h9 => ?_)
      ·try simp [go_sem] at h9
       try simp [go_sem, F0, h6]
       repeat (first | intro _ | (refine ⟨obl, ?_⟩))
       exact hQ _ _ (.inl (by rw [if_pos (by simpa using h9)] at hst; simp [go_sem, ← hst, Types.nodeName, lge h6]))
      ·try simp [go_sem] at h9
       try simp [go_sem, F0, h6]
       repeat (first | intro _ | (refine ⟨obl, ?_⟩))
       refine nextQ_mk (i + 1) (by omega) ((hI0 _ _ _).2 ⟨?_, ?_, (by first | assumption | omega | (simp [go_sem, F0, h6, h1, h3, h9]; done) | (simp_all <;> omega)), (by exact all_lt_succ hz (by simpa using h9)), (by rw [if_neg (by simpa using h9)] at hst; exact hst)⟩) <;> first | omega | (simp [go_sem, F0, h6] <;> omega)
     ·try simp [go_sem] at h6
      have hE : firstNE (edgeF t) t.edgeName (⟨#[]⟩, 0) 0 t.edges.length = validF t := by rw [← hFk, show t.nodes.length - i = 0 by omega]; rfl
      try simp [go_sem, F0]
      obtain ⟨I2, hI2⟩ := mkI fun i e H => ((e 1 = .adr t.c) ∧ (e 6 = dI i) ∧ (i ≤ t.edges.length) ∧ (firstNE (edgeF t) t.edgeName (⟨#[]⟩, 0) i (t.edges.length - i) = validF t))
      refine loopK I2 (fun i => t.edges.length - i) (0) ((hI2 _ _ _).2 ⟨?_, ?_, (by first | assumption | omega | (simp [go_sem, F0]; done) | (simp_all; done)), (by exact hE)⟩) ?_
      iterate 2 (first | omega | (simp [go_sem, F0] <;> omega))
      intro i e H hi2
      obtain ⟨q1_2, q6_2, hi, hFk⟩ := (hI2 _ _ _).1 hi2
      have F2 := And.intro q1_2 q6_2
      try simp [go_sem, F2]
      repeat (first | intro _ | (refine ⟨obl, ?_⟩))
      refine condQ_mk (fun h12 => ?_) (fun h12 => ?_)
      ·try simp [go_sem] at h12
       have hst := hFk
       rw [firstNE_step _ _ _ h12] at hst
       try simp [go_sem, F2, h12]
       refine cq0 (ref04_edge t ht i h12) ?_
       try simp [go_sem, F2, h12]
       refine condQ_mk (fun h15 => ?_) (fun h15 => ?_)
       ·try simp [go_sem] at h15
        try simp [go_sem, F2, h12]
        repeat (first | intro _ | (refine ⟨obl, ?_⟩))
        exact hQ _ _ (.inl (by rw [if_pos (by simpa using h15)] at hst; simp [go_sem, ← hst, Types.edgeName, lge h12]))
       ·try simp [go_sem] at h15
        try simp [go_sem, F2, h12]
        repeat (first | intro _ | (refine ⟨obl, ?_⟩))
        refine nextQ_mk (i + 1) (by omega) ((hI2 _ _ _).2 ⟨?_, ?_, (by first | assumption | omega | (simp [go_sem, F2, h12, h1, h3, h6, h15]; done) | (simp_all <;> omega)), (by rw [if_neg (by simpa using h15)] at hst; exact hst)⟩) <;> first | omega | (simp [go_sem, F2, h12] <;> omega)
      ·try simp [go_sem] at h12
       try simp [go_sem, F2]
       exact hQ _ _ (.inl (by rw [← hFk, show t.edges.length - i = 0 by omega]; simp [go_sem, firstNE]))
theorem firstNE_zero {f : Nat → Int} {nm : Nat → ByteArray} {last : ByteArray × Int} : ∀ (n k : Nat), (firstNE f nm last k n).2 = 0 → (∀ j, k ≤ j → j < k + n → f j = 0) ∧ last.2 = 0
  | 0, k, h => ⟨fun j h1 h2 => by omega, h⟩
  | n + 1, k, h => by
    unfold firstNE at h
    split at h
    ·rename_i hne; exact absurd h hne
    ·rename_i hz
     obtain ⟨a, b⟩ := firstNE_zero n (k + 1) h
     refine ⟨fun j h1 h2 => ?_, b⟩
     rcases Nat.eq_or_lt_of_le h1 with h3 | h3
     ·subst h3; exact Classical.byContradiction fun hne => hz hne
     ·exact a j h3 (by omega)
structure Types.valid (t : Types) : Prop where
  ne : 0 < t.nodes.length
  fewN : t.nodes.length ≤ 12
  fewE : t.edges.length ≤ 20
  parent : ∀ (j : Nat) (n : NodeTy), t.nodes[j]? = some n → n.parent < j
  low : ∀ (j : Nat) (n : NodeTy), t.nodes[j]? = some n → -1 ≤ n.parent
  attrs : ∀ j, j < t.nodes.length → (t.attrs j).length ≤ 8
  ends : ∀ x ∈ t.edges, insideF t x.from_ = true ∧ insideF t x.to_ = true
theorem valid_of {t : Types} (h : (validF t).2 = 0) : t.valid := by
  unfold validF at h
  split at h
  · simp at h
  · rename_i h0
    split at h
    ·simp at h
    ·rename_i h1
     obtain ⟨hN, hE⟩ := firstNE_zero _ _ h
     obtain ⟨hE, _⟩ := firstNE_zero _ _ hE
     have hN' : ∀ j (hj : j < t.nodes.length), nodeF t j = 0 := fun j hj => hN j (by omega) (by omega)
     refine ⟨by omega, by omega, by omega, fun j n hn => ?_, fun j n hn => ?_, fun j hj => ?_, fun x hx => ?_⟩
     ·exact nodeF_parent t j n (hN' j (List.getElem?_eq_some_iff.1 hn).1) hn
     ·have hj := (List.getElem?_eq_some_iff.1 hn).1
      have h2 := hN' j hj
      rw [nodeF_at t j hj] at h2
      have he : t.nodes[j] = n := (List.getElem?_eq_some_iff.1 hn).2
      rw [he] at h2
      split at h2 <;> try (cases h2; done)
      split at h2 <;> try (cases h2; done)
      split at h2 <;> try (cases h2; done)
      rename_i hr; simp at hr; omega
     ·have h2 := hN' j hj
      rw [nodeF_at t j hj] at h2
      split at h2 <;> try (cases h2; done)
      split at h2 <;> try (cases h2; done)
      split at h2 <;> try (cases h2; done)
      split at h2 <;> try (cases h2; done)
      split at h2 <;> try (cases h2; done)
      omega
     ·obtain ⟨j, hj, rfl⟩ := List.getElem_of_mem hx
      have h2 := hE j (by omega) (by omega)
      rw [edgeF_at t j hj] at h2
      split at h2 <;> try (cases h2; done)
      split at h2 <;> try (cases h2; done)
      split at h2 <;> try (cases h2; done)
      rename_i hr; simp at hr; exact ⟨hr.1.1.1, hr.1.1.2⟩
theorem Types.valid.parentsOK {t : Types} (h : t.valid) (a : Nat) : parentsOK t.nodes a := fun j n _ hn => h.parent j n hn
def given2F (t : Types) (a b : Int) : Int := if (validF t).2 ≠ 0 then (validF t).2 else if (insideF t a && insideF t b) = true then 0 else 6
theorem ref04_given (t : Types) (ht : t.ok) (a b : Int) : Pure Tryz.prog 129 [t.d, dI a, dI b] (dI (given2F t a b)) := by
  have hfew := ht.fewN
  refine Tz.pK ⟨fun _ => false, fun _ => []⟩ Tryz.func129 rfl (fun Q hQ => ?_)
  try simp [go_sem]
  refine cq0 (ref04_Valid t ht) ?_
  try simp [go_sem]
  refine condQ_mk (fun h2 => ?_) (fun h2 => ?_)
  · try simp [go_sem] at h2
    try simp [go_sem]
    exact hQ _ _ (by simp [go_sem, h2, given2F] <;> first | omega | (rw [bei]; simp <;> omega) | (simp_all <;> omega))
  · try simp [go_sem] at h2
    try simp [go_sem]
    repeat (first | intro _ | (refine ⟨obl, ?_⟩))
    refine cq0 (ref04_in _ _ _) ?_
    try simp [go_sem]
    repeat (first | intro _ | (refine ⟨obl, ?_⟩))
    refine gcq0 (fun hg => ref04_in _ _ _) ?_
    try simp [go_sem]
    repeat (first | intro _ | (refine ⟨obl, ?_⟩))
    refine condQ_mk (fun h4 => ?_) (fun h4 => ?_)
    ·skip
     simp only [inF_inside] at h4
     try simp [go_sem]
     exact hQ _ _ (.inl (by revert h4; cases ha : insideF t a <;> cases hb : insideF t b <;> simp [go_sem, given2F, h2, ha, hb]))
    ·skip
     simp only [inF_inside] at h4
     try simp [go_sem]
     exact hQ _ _ (.inl (by revert h4; cases ha : insideF t a <;> cases hb : insideF t b <;> simp [go_sem, given2F, h2, ha, hb]))
def givenF (t : Types) (l : List Int) : Int := if (validF t).2 ≠ 0 then (validF t).2 else if (l.any fun a => !insideF t a) = true then 6 else 0
theorem types_given1 (t : Types) (a : Int) : Pure Tryz.prog 246 [dI a, .adr t.c] (.bool (!insideF t a)) := by
  refine Tz.pK ⟨fun _ => false, fun _ => []⟩ Tryz.func246 rfl (fun Q hQ => ?_)
  try simp [go_sem]
  repeat (first | intro _ | (refine ⟨obl, ?_⟩))
  exact hQ _ _ (by simp [go_sem, insideF] <;> first | omega | (rw [bei]; simp <;> omega) | (simp_all <;> omega))
theorem types_given (t : Types) (ht : t.ok) (l : List Int) : Pure Tryz.prog 193 [t.d, dLI l] (dI (givenF t l)) := by
  refine Tz.pK ⟨fun _ => false, fun _ => []⟩ Tryz.func193 rfl (fun Q hQ => ?_)
  try simp [go_sem]
  refine cq0 (types_Valid t ht) ?_
  try simp [go_sem]
  refine condQ_mk (fun h2 => ?_) (fun h2 => ?_)
  · try simp [go_sem] at h2
    try simp [go_sem]
    exact hQ _ _ (by simp [go_sem, h2, givenF] <;> first | omega | (rw [bei]; simp <;> omega) | (simp_all <;> omega))
  · try simp [go_sem] at h2
    try simp [go_sem]
    refine cq0 (containsFunc_int l 246 [.adr t.c] (fun a => !insideF t a) (by simp [go_sem]) (by simp [go_sem]) (fun a _ => types_given1 t a)) ?_
    try simp [go_sem]
    refine condQ_mk (fun h4 => ?_) (fun h4 => ?_)
    ·try simp [go_sem] at h4
     try simp [go_sem]
     exact hQ _ _ (by simp [go_sem, h2, h4, givenF] <;> first | omega | (rw [bei]; simp <;> omega) | (simp_all <;> omega))
    ·try simp [go_sem] at h4
     try simp [go_sem]
     exact hQ _ _ (by simp [go_sem, h2, h4, givenF] <;> first | omega | (rw [bei]; simp <;> omega) | (simp_all <;> omega))
theorem given_two (t : Types) (a b : Int) : givenF t [a, b] = given2F t a b := by
  unfold givenF given2F; cases ha : insideF t a <;> cases hb : insideF t b <;> simp [ha, hb]
def lineF (nodes : List NodeTy) : Nat → Nat → List Int
  | 0, _ => []
  | f + 1, a => match nodes[a]? with
    | none => []
    | some n => (if 0 ≤ n.parent then lineF nodes f n.parent.toNat else []) ++ [(a : Int)]
def Types.line (t : Types) (a : Nat) : List Int := lineF t.nodes (a + 1) a
theorem lineF_fuel (nodes : List NodeTy) : ∀ a f g, parentsOK nodes a → a < f → a < g → lineF nodes f a = lineF nodes g a := by
  intro a
  induction a using Nat.strongRecOn with
  | _ a ih =>
    intro f g hp hf hg
    obtain ⟨f, rfl⟩ : ∃ f', f = f' + 1 := ⟨f - 1, by omega⟩
    obtain ⟨g, rfl⟩ : ∃ g', g = g' + 1 := ⟨g - 1, by omega⟩
    unfold lineF
    split
    ·rfl
    ·rename_i n hn
     have := hp a n (Nat.le_refl _) hn
     congr 1
     split
     ·exact ih n.parent.toNat (by omega) f g (fun j m hj hm => hp j m (by omega) hm) (by omega) (by omega)
     ·rfl
theorem line_rec (t : Types) (a : Nat) (ha : a < t.nodes.length) (hp : parentsOK t.nodes a) :
    t.line a = (if 0 ≤ t.nodes[a].parent then t.line t.nodes[a].parent.toNat else []) ++ [(a : Int)] := by
  have hpa := hp a _ (Nat.le_refl _) (lge ha)
  by_cases h' : 0 ≤ t.nodes[a].parent
  · have hlt : t.nodes[a].parent.toNat < a := by omega
    have := lineF_fuel t.nodes t.nodes[a].parent.toNat a (t.nodes[a].parent.toNat + 1) (fun j m hj hm => hp j m (by omega) hm) hlt (by omega)
    simp [Types.line, lineF, lge ha, h', this]
  · simp [Types.line, lineF, lge ha, h']
end Go.Abs
end
section
set_option maxRecDepth 4000
open Go Go.Proofs
namespace Go.Abs
def lineK (t : Types) (k : Nat) : List Int := if k = 0 then [] else t.line (k - 1)
theorem reverse_at {xs ys : List Int} {i : Nat} (hy : ys.length = xs.length) (hi : xs.length ≤ 2 * i + 1) (hr : ∀ j, j < xs.length → ys[j]? = if j < i ∨ xs.length - i ≤ j then xs[xs.length - 1 - j]? else xs[j]?) : ys = xs.reverse := by
  apply List.ext_getElem?
  intro j
  by_cases hj : j < xs.length
  · rw [hr j hj, List.getElem?_reverse hj]
    split
    ·rfl
    ·rename_i hc
     rw [show j = xs.length - 1 - j by omega]
     congr 1; omega
  · rw [List.getElem?_eq_none (by omega), List.getElem?_eq_none (by simp; omega)]
theorem reverse_int (G : AHeap) (id : Nat) (xs : List Int) (hg : G.get id = some ⟨3, 1, xs.map cI, false⟩) (hl : xs.length ≤ 100000) (Q : D → AHeap → Prop)
    (hQ : ∀ H', H'.get id = some ⟨3, 1, xs.reverse.map cI, false⟩ → (∀ j, j ≠ id → H'.get j = G.get j) → G.next ≤ H'.next → Q (.tup []) H') : ACalls Tryz.prog 279 [.own id xs.length] G Q := by
  refine (acalls_of_body (cfg := ⟨fun _ => false, fun _ => []⟩) Tz.mixed Tryz.func279 rfl rfl (nlb rfl) (by kernel_rfl) ?_)
  try simp [go_sem, hg]
  repeat (first | intro _ | (refine ⟨obl, ?_⟩))
  obtain ⟨I0, hI0⟩ := mkI fun i e H => (∃ ys : List Int, (e 0 = .own id xs.length) ∧ (e 2 = dI i) ∧ (e 3 = dI ((xs.length : Int) - 1 - i)) ∧ (H.get id = some ⟨3, 1, ys.map cI, false⟩) ∧ (∀ j, j ≠ id → H.get j = G.get j) ∧ (G.next ≤ H.next) ∧ (ys.length = xs.length) ∧ (∀ j, j < xs.length → ys[j]? = if j < i ∨ xs.length - i ≤ j then xs[xs.length - 1 - j]? else xs[j]?))
  refine loopK I0 (fun i => xs.length - i) (0) ((hI0 _ _ _).2 ⟨(xs), ?_, ?_, ?_, (by exact hg), (by exact fun _ _ => rfl), (by exact Nat.le_refl _), (by first | assumption | omega | (simp [go_sem, hg]; done) | (simp_all; done)), (by intro j hj; simp; omega)⟩) ?_
  iterate 3 (first | omega | (simp [go_sem, hg] <;> omega))
  intro i e H hi0
  obtain ⟨ys, q0_0, q2_0, q3_0, hH, hfr, hnx, hy, hr⟩ := (hI0 _ _ _).1 hi0
  have F0 := And.intro q0_0 (And.intro q2_0 q3_0)
  try simp [go_sem, hg, F0, hH]
  refine condQ_mk (fun h1 => ?_) (fun h1 => ?_)
  · try simp [go_sem] at h1
    have hj : xs.length - 1 - i < ys.length := by omega
    have hi' : i < ys.length := by omega
    have htn : ((xs.length : Int) - 1 - i).toNat = xs.length - 1 - i := by omega
    have hstep : ∀ j, j < xs.length → ((ys.set i (ys[xs.length - 1 - i]?.getD 0)).set (xs.length - 1 - i) (ys[i]?.getD 0))[j]? = if j < i + 1 ∨ xs.length - (i + 1) ≤ j then xs[xs.length - 1 - j]? else xs[j]? := fun j hjl => by
     have h1 := hr j hjl
     have h3 := hr i (by omega)
     have h4 := hr (xs.length - 1 - i) (by omega)
     rw [lge hi'] at h3
     rw [lge hj] at h4
     rw [List.getElem?_set, List.getElem?_set, lge hi', lge hj]
     by_cases ha : xs.length - 1 - i = j
     ·rw [if_pos ha, if_pos (by simp; omega), if_pos (by omega)]
      simp only [Option.getD_some]
      rw [h3, if_neg (by omega)]; congr 1; omega
     ·rw [if_neg ha]
      by_cases hb : i = j
      ·rw [if_pos hb, if_pos (by omega), if_pos (by omega)]
       simp only [Option.getD_some]
       rw [h4, if_neg (by omega)]; congr 1; omega
      ·rw [if_neg hb, h1]
       by_cases hc : j < i ∨ xs.length - i ≤ j
       ·rw [if_pos hc, if_pos (by omega)]
       ·rw [if_neg hc, if_neg (by omega)]
    try simp [go_sem, hg, F0, hH, h1, htn, lge hj, lge hi', hy, List.getElem?_set, show i ≠ xs.length - 1 - i by omega]
    repeat (first | intro _ | (refine ⟨obl, ?_⟩))
    refine nextQ_mk (i + 1) (by omega) ((hI0 _ _ _).2 ⟨((ys.set i (ys[xs.length - 1 - i]?.getD 0)).set (xs.length - 1 - i) (ys[i]?.getD 0)), ?_, ?_, ?_, (by (simp [go_sem, hH, List.map_set, lge hj, lge hi'])), (by (intro j hj'; simp [go_sem, hj', hfr j hj'])), (by (simp [go_sem]; omega)), (by first | assumption | omega | (simp [go_sem, hg, F0, hH, h1, htn, lge hj, lge hi', hy, List.getElem?_set, show i ≠ xs.length - 1 - i by omega]; done) | (simp_all <;> omega)), (by (exact hstep))⟩) <;> first | omega | (simp [go_sem, hg, F0, hH, h1, htn, lge hj, lge hi', hy, List.getElem?_set, show i ≠ xs.length - 1 - i by omega] <;> omega)
  · try simp [go_sem] at h1
    have := reverse_at hy (by omega) hr
    subst this
    try simp [go_sem, hg, F0, hH]
    exact hQ _ hH hfr hnx
theorem types_line (t : Types) (ht : t.ok) (hv : t.valid) (a : Nat) (ha : a < t.nodes.length) : Pure Tryz.prog 247 [t.d, dI a] (.list ((t.line a).map cI)) := by
  have hfew := hv.fewN
  refine Tz.pK ⟨fun t => t == 5, fun _ => []⟩ Tryz.func247 rfl (fun Q hQ => ?_)
  try simp [go_sem]
  obtain ⟨I0, hI0⟩ := mkI fun k e H => (∃ xs : List Int, (e 2 = .adr t.c) ∧ (e 1 = dI ((k : Int) - 1)) ∧ (e 5 = .own 0 xs.length) ∧ (H.get 0 = some ⟨3, 1, xs.map cI, false⟩) ∧ (0 < H.next) ∧ (k ≤ t.nodes.length) ∧ (xs.length + k ≤ 12) ∧ (lineK t k ++ xs.reverse = t.line a))
  refine loopK I0 (fun k => k) (a + 1) ((hI0 _ _ _).2 ⟨([]), ?_, ?_, ?_, ?_, ?_, (by first | assumption | omega | (simp [go_sem]; done) | (simp_all; done)), (by simp; omega), (by simp [lineK])⟩) ?_
  iterate 5 (first | omega | (simp [go_sem] <;> omega))
  intro k e H hi0
  obtain ⟨xs, q2_0, q1_0, q5_0, g0_0, n0_0, hk, hb, hx⟩ := (hI0 _ _ _).1 hi0
  have x0 := frs n0_0
  have F0 := And.intro q2_0 (And.intro q1_0 (And.intro q5_0 x0))
  try simp [go_sem, F0, g0_0]
  refine condQ_mk (fun h2 => ?_) (fun h2 => ?_)
  · try simp [go_sem] at h2
    have hk0 : 0 < k := by omega
    have hkl : k - 1 < t.nodes.length := by omega
    have hpar := hv.parent (k - 1) _ (lge hkl)
    have hlow := hv.low (k - 1) _ (lge hkl)
    have htn : ((k : Int) - 1).toNat = k - 1 := by omega
    have hlr := line_rec t (k - 1) hkl (hv.parentsOK _)
    have hlk : lineK t k = lineK t (t.nodes[k - 1].parent + 1).toNat ++ [(k : Int) - 1] := by
     unfold lineK
     rw [if_neg (show ¬ k = 0 by omega), hlr]
     by_cases h0 : 0 ≤ t.nodes[k - 1].parent
     ·rw [if_pos h0, if_neg (by omega), show (t.nodes[k - 1].parent + 1).toNat - 1 = t.nodes[k - 1].parent.toNat by omega]
      congr 2; omega
     ·rw [if_neg h0, if_pos (by omega)]
      simp; omega
    try simp [go_sem, F0, g0_0, h2, htn, hkl]
    repeat (first | intro _ | (refine ⟨obl, ?_⟩))
    refine nextQ_mk ((t.nodes[k - 1].parent + 1).toNat) (by omega) ((hI0 _ _ _).2 ⟨(xs ++ [(k : Int) - 1]), ?_, ?_, ?_, ?_, ?_, (by first | assumption | omega | (simp [go_sem, F0, g0_0, h2, htn, hkl]; done) | (simp_all <;> omega)), (by simp; omega), (by rw [hlk] at hx; rw [← hx]; simp)⟩) <;> first | omega | (simp [go_sem, F0, g0_0, h2, htn, hkl] <;> omega)
  · try simp [go_sem] at h2
    have hk0 : k = 0 := by omega
    subst hk0
    have hln : (t.line a).length = xs.length := by rw [← hx]; simp [lineK]
    have hx' : (xs.map cI).reverse = (t.line a).map cI := by rw [← List.map_reverse, ← hx]; rfl
    try simp [go_sem, F0, g0_0]
    unfold callQ; refine reverse_int _ _ xs g0_0 (by omega) _ fun H1 gR _ _ => ?_
    try simp [go_sem, F0, g0_0]
    exact hQ _ _ (.inl (by simp [go_sem, gR, hx', hln]))
theorem types_is (t : Types) (ht : t.ok) (hv : t.valid) (a b : Int) (h0 : 0 ≤ a) (h1 : a < t.nodes.length) : Pure Tryz.prog 194 [t.d, dI a, dI b] (.bool (mem (t.line a.toNat) b)) := by
  have hl := types_line t ht hv a.toNat (by omega)
  rw [Int.toNat_of_nonneg h0] at hl
  refine Tz.pK ⟨fun _ => false, fun _ => []⟩ Tryz.func194 rfl (fun Q hQ => ?_)
  try simp [go_sem]
  refine cq0 (hl) ?_
  try simp [go_sem]
  refine cq0 (contains_int _ _) ?_
  try simp [go_sem]
  exact hQ _ _ (by simp [go_sem] <;> first | omega | (rw [bei]; simp <;> omega) | (simp_all <;> omega))
def fitsT (t : Types) (edge a b : Int) : Bool := decide (given2F t a b = 0) && (decide (0 ≤ edge) && decide (edge < t.edges.length)) &&
  (mem (t.line a.toNat) (match t.edges[edge.toNat]? with | some x => x.from_ | none => 0) && mem (t.line b.toNat) (match t.edges[edge.toNat]? with | some x => x.to_ | none => 0))
theorem given2_zero {t : Types} {a b : Int} (h : given2F t a b = 0) : t.valid ∧ (0 ≤ a ∧ a < t.nodes.length) ∧ (0 ≤ b ∧ b < t.nodes.length) := by
  unfold given2F at h
  split at h
  · rename_i h1; exact absurd h h1
  · rename_i h1
    split at h
    ·rename_i h2; simp [insideF] at h2; exact ⟨valid_of (by simpa using h1), h2.1, h2.2⟩
    ·cases h
theorem types_Fits (t : Types) (ht : t.ok) (edge a b : Int) : Pure Tryz.prog 120 [t.d, dI edge, dI a, dI b] (.bool (fitsT t edge a b)) := by
  refine Tz.pK ⟨fun _ => false, fun _ => []⟩ Tryz.func120 rfl (fun Q hQ => ?_)
  try simp [go_sem]
  repeat (first | intro _ | (refine ⟨obl, ?_⟩))
  refine cq0 (types_given t ht [a, b]) ?_
  try simp [go_sem]
  repeat (first | intro _ | (refine ⟨obl, ?_⟩))
  refine condQ_mk (fun h1 => ?_) (fun h1 => ?_)
  · try simp [go_sem] at h1
    rw [given_two] at h1
    try simp [go_sem]
    exact hQ _ _ (.inl (by simp [go_sem, fitsT]; intros; omega))
  · try simp [go_sem] at h1
    rw [given_two] at h1
    obtain ⟨hv, hA, hB⟩ := given2_zero h1.1.1
    have hke : edge.toNat < t.edges.length := by omega
    try simp [go_sem, lge hke]
    repeat (first | intro _ | (refine ⟨obl, ?_⟩))
    refine dcq0 (types_is t ht hv _ _ hA.1 hA.2) ?_
    try simp [go_sem, lge hke]
    repeat (first | intro _ | (refine ⟨obl, ?_⟩))
    refine dgcq0 (fun hg => types_is t ht hv _ _ hB.1 hB.2) ?_
    try simp [go_sem, lge hke]
    repeat (first | intro _ | (refine ⟨obl, ?_⟩))
    exact hQ _ _ (.inl (by simp [go_sem, fitsT, h1, lge hke]))
theorem mem_snoc (l : List Int) (x b : Int) : mem (l ++ [x]) b = (mem l b || decide (b = x)) := by
  rw [bei, Bool.or_eq_true, mem_iff, mem_iff]; simp
theorem mem_nil (b : Int) : mem ([] : List Int) b = false := by rw [Bool.eq_false_iff]; intro h; rw [mem_iff] at h; cases h
theorem below1N (t : Types) (a b : Int) (ha : a < 0) (hb : 0 ≤ b) : Pure Tryz.prog 131 [t.d, dI a, dI b] (.bool false) := by
  refine Tz.pK ⟨fun _ => false, fun _ => []⟩ Tryz.func131 rfl (fun Q hQ => ?_)
  try simp [go_sem, show ¬ 0 ≤ a by omega, show ¬ a = b by omega]
  repeat (first | intro _ | (refine ⟨obl, ?_⟩))
  refine dgcallQ_pure0 (r := .bool false) (fun hg => by simp at hg) (fun hg => by simp at hg) ?_
  try simp [go_sem, show ¬ 0 ≤ a by omega, show ¬ a = b by omega]
  repeat (first | intro _ | (refine ⟨obl, ?_⟩))
  exact hQ _ _ (by simp [go_sem, show ¬ 0 ≤ a by omega, show ¬ a = b by omega] <;> first | omega | (rw [bei]; simp <;> omega) | (simp_all <;> omega))
theorem ref04_Below1 (t : Types) (hv : t.valid) (b : Int) (hb : 0 ≤ b) : ∀ a : Nat, a < t.nodes.length → Pure Tryz.prog 131 [t.d, dI a, dI b] (.bool (mem (t.line a) b)) := by
  intro a
  induction a using Nat.strongRecOn with
  | _ a ih =>
  intro ha
  have hpar := hv.parent a _ (lge ha)
  have hlr := line_rec t a ha (hv.parentsOK a)
  have hc : Pure Tryz.prog 131 [t.d, dI t.nodes[a].parent, dI b] (.bool (mem (if 0 ≤ t.nodes[a].parent then t.line t.nodes[a].parent.toNat else []) b)) := by
    by_cases h' : 0 ≤ t.nodes[a].parent
    ·rw [if_pos h']
     have := ih t.nodes[a].parent.toNat (by omega) (by omega)
     rwa [Int.toNat_of_nonneg h'] at this
    ·rw [if_neg h', mem_nil]
     exact below1N t _ _ (by omega) hb
  rw [hlr, mem_snoc]
  refine Tz.pK ⟨fun _ => false, fun _ => []⟩ Tryz.func131 rfl (fun Q hQ => ?_)
  have hab : decide ((a : Int) = b) = decide (b = (a : Int)) := by rw [bei]; simp; omega
  try simp [go_sem, lge ha, ha]
  repeat (first | intro _ | (refine ⟨obl, ?_⟩))
  refine dgcq0 (fun hg => hc) ?_
  try simp [go_sem, lge ha, ha]
  repeat (first | intro _ | (refine ⟨obl, ?_⟩))
  exact hQ _ _ (.inl (by simp only [go_sem, hab, Bool.or_comm]))
theorem ref04_Fits (t : Types) (ht : t.ok) (edge a b : Int) : Pure Tryz.prog 81 [t.d, dI edge, dI a, dI b] (.bool (fitsT t edge a b)) := by
  have hfe := ht.fewE
  refine Tz.pK ⟨fun _ => false, fun _ => []⟩ Tryz.func81 rfl (fun Q hQ => ?_)
  try simp [go_sem]
  repeat (first | intro _ | (refine ⟨obl, ?_⟩))
  refine cq0 (ref04_given t ht a b) ?_
  try simp [go_sem]
  repeat (first | intro _ | (refine ⟨obl, ?_⟩))
  refine gcq0 (fun hg => ref04_in _ _ _) ?_
  try simp [go_sem]
  repeat (first | intro _ | (refine ⟨obl, ?_⟩))
  refine condQ_mk (fun h1 => ?_) (fun h1 => ?_)
  · skip
    simp [inF] at h1
    try simp [go_sem]
    exact hQ _ _ (.inl (by simp [go_sem, fitsT]; intros; omega))
  · skip
    simp [inF] at h1
    obtain ⟨hv, hA, hB⟩ := given2_zero h1.1
    have hke : edge.toNat < t.edges.length := by omega
    have hends := hv.ends _ (lgm hke)
    simp [insideF] at hends
    have hB1 := ref04_Below1 t hv t.edges[edge.toNat].from_ hends.1.1 a.toNat (by omega)
    have hB2 := ref04_Below1 t hv t.edges[edge.toNat].to_ hends.2.1 b.toNat (by omega)
    rw [Int.toNat_of_nonneg hA.1] at hB1
    rw [Int.toNat_of_nonneg hB.1] at hB2
    try simp [go_sem, lge hke]
    repeat (first | intro _ | (refine ⟨obl, ?_⟩))
    refine dcq0 (hB1) ?_
    try simp [go_sem, lge hke]
    repeat (first | intro _ | (refine ⟨obl, ?_⟩))
    refine dgcq0 (fun hg => hB2) ?_
    try simp [go_sem, lge hke]
    repeat (first | intro _ | (refine ⟨obl, ?_⟩))
    exact hQ _ _ (.inl (by simp [go_sem, fitsT, h1, lge hke]; omega))
end Go.Abs
end
section
namespace Go.Abs
structure Term where
  var : Int
  add : Int
def Term.c (x : Term) : List D := [dI x.var, dI x.add]
structure Slot where
  node : Int
  attr : Int
  term : Term
def Slot.c (x : Slot) : List D := [dI x.node, dI x.attr, dI x.term.var, dI x.term.add]
structure Test where
  kind : Int
  left : Term
  right : Term
def Test.c (x : Test) : List D := [dI x.kind, dI x.left.var, dI x.left.add, dI x.right.var, dI x.right.add]
structure Pattern where
  graph : Graph
  slots : List Slot
  vars : Int
  tests : List Test
def Pattern.c (p : Pattern) : List D := [dLI p.graph.nodes, .list (p.graph.edges.map Edge.c), .list (p.slots.map Slot.c), dI p.vars, .list (p.tests.map Test.c)]
def Pattern.d (p : Pattern) : D := .agg p.c
structure Part where
  nodes : List Int
  edges : List Int
def Part.c (p : Part) : List D := [dLI p.nodes, dLI p.edges]
def Part.d (p : Part) : D := .agg p.c
inductive Cond where
  | mk (kind : Int) (kids : List Cond) (map : Part) (pattern : Pattern)
def Cond.kind : Cond → Int | .mk k _ _ _ => k
def Cond.kids : Cond → List Cond | .mk _ l _ _ => l
def Cond.map : Cond → Part | .mk _ _ m _ => m
def Cond.pattern : Cond → Pattern | .mk _ _ _ p => p
mutual
def Cond.c : Cond → List D
  | .mk k l m p => [dI k, .list (Cond.cs l), dLI m.nodes, dLI m.edges, dLI p.graph.nodes, .list (p.graph.edges.map Edge.c), .list (p.slots.map Slot.c), dI p.vars, .list (p.tests.map Test.c)]
def Cond.cs : List Cond → List (List D)
  | [] => []
  | c :: l => c.c :: Cond.cs l
end
theorem Cond.cs_eq (l : List Cond) : Cond.cs l = l.map Cond.c := by
  induction l with
  | nil => simp [Cond.cs]
  | cons a l ih => simp [Cond.cs, ih]
theorem Cond.c_eq (x : Cond) : x.c = [dI x.kind, .list (x.kids.map Cond.c), dLI x.map.nodes, dLI x.map.edges, dLI x.pattern.graph.nodes, .list (x.pattern.graph.edges.map Edge.c), .list (x.pattern.slots.map Slot.c), dI x.pattern.vars, .list (x.pattern.tests.map Test.c)] := by
  cases x; simp [Cond.c, Cond.kind, Cond.kids, Cond.map, Cond.pattern, Cond.cs_eq]
structure Rule where
  name : ByteArray
  left : Pattern
  right : Pattern
  keep : Part
  into : Part
  inj : Bool
  cond : Cond
def Rule.c (r : Rule) : List D := [.str r.name, dLI r.left.graph.nodes, .list (r.left.graph.edges.map Edge.c), .list (r.left.slots.map Slot.c), dI r.left.vars, .list (r.left.tests.map Test.c),
  dLI r.right.graph.nodes, .list (r.right.graph.edges.map Edge.c), .list (r.right.slots.map Slot.c), dI r.right.vars, .list (r.right.tests.map Test.c),
  dLI r.keep.nodes, dLI r.keep.edges, dLI r.into.nodes, dLI r.into.edges, .bool r.inj,
  dI r.cond.kind, .list (r.cond.kids.map Cond.c), dLI r.cond.map.nodes, dLI r.cond.map.edges, dLI r.cond.pattern.graph.nodes, .list (r.cond.pattern.graph.edges.map Edge.c), .list (r.cond.pattern.slots.map Slot.c), dI r.cond.pattern.vars, .list (r.cond.pattern.tests.map Test.c)]
def Rule.d (r : Rule) : D := .agg r.c
structure Stage where
  weights : List Int
  removed : List Int
def Stage.c (s : Stage) : List D := [dLI s.weights, dLI s.removed]
@[go_sem] theorem Slot.cl (x : Slot) : D.clL x.c = true := rfl
@[go_sem] theorem Test.cl (x : Test) : D.clL x.c = true := rfl
@[go_sem] theorem slots_cl (l : List Slot) : D.clLL (l.map Slot.c) = true := clLL_map _ Slot.cl l
@[go_sem] theorem tests_cl (l : List Test) : D.clLL (l.map Test.c) = true := clLL_map _ Test.cl l
@[go_sem] theorem Stage.cl (x : Stage) : D.clL x.c = true := by simp [Stage.c, D.clL, dLI_cl]
@[go_sem] theorem stages_cl (l : List Stage) : D.clLL (l.map Stage.c) = true := clLL_map _ Stage.cl l
theorem edgesG_cl (l : List Edge) : D.clLL (l.map Edge.c) = true := clLL_map _ Edge.cl l
mutual
theorem Cond.cl : ∀ x : Cond, D.clL x.c = true
  | .mk k l m p => by
    have := Cond.cls l
    simp [Cond.c, D.clL, D.cl, dI, dLI_cl, this, edgesG_cl, slots_cl, tests_cl]
theorem Cond.cls : ∀ l : List Cond, D.clLL (Cond.cs l) = true
  | [] => by simp [Cond.cs, D.clLL]
  | c :: l => by simp [Cond.cs, D.clLL, Cond.cl c, Cond.cls l]
end
attribute [go_sem] Cond.cl
@[go_sem] theorem conds_cl (l : List Cond) : D.clLL (l.map Cond.c) = true := by rw [← Cond.cs_eq]; exact Cond.cls l
@[go_sem] theorem Rule.cl (r : Rule) : D.clL r.c = true := by
  simp [Rule.c, D.clL, D.cl, dI, dLI_cl, edgesG_cl, slots_cl, tests_cl, conds_cl]
@[go_sem] theorem rules_cl (l : List Rule) : D.clLL (l.map Rule.c) = true := clLL_map _ Rule.cl l
end Go.Abs
end
