/- Layer 5: graphs. · Layer 5, the reference: graphs. · Layer 4 -/
import Derived.Test.YthnegcfdjjhfgaaGreatZmG
import Derived.Test.YthnegcfdjjhfgaaGreatZmA
import Derived.Test.YthnegcfdjjhfgaaGreatZmF
set_option linter.unusedVariables false
set_option linter.unusedSimpArgs false
section
set_option maxRecDepth 4000
open Go Go.Proofs
namespace Go.Abs
@[go_sem] theorem ints_cl (l : List Int) : D.clLL (l.map cI) = true := clLL_map cI (fun _ => rfl) l
@[go_sem] theorem gedges_cl (l : List Edge) : D.clLL (l.map Edge.c) = true := clLL_map _ Edge.cl l
theorem indexFunc_int (xs : List Int) (g : FuncId) (caps : List D) (p : Int → Bool) (hc : D.clL caps = true) (hg : ∀ x ∈ xs, Pure Tryz.prog g (.int .i64 x :: caps) (.bool (p x))) :
    Pure Tryz.prog 54 [.list (xs.map cI), .fn g caps] (dI (idxF xs p)) := by
  refine pure_of_calls (acalls_of_body (cfg := ⟨fun _ => false, fun _ => []⟩) Tz.mixed Tryz.func54 rfl rfl (nlb rfl) (by kernel_rfl) ?_)
  simp [go_sem, seval, dI, dLI]
  intro hlen
  refine loop_rule (ι := Nat) (fun i e H => H = .emp ∧ i ≤ xs.length ∧ e 0 = .list (xs.map cI) ∧ e 1 = .fn g caps ∧ e 7 = dI xs.length ∧ e 8 = dI i ∧ (∀ j x, j < i → xs[j]? = some x → p x = false)) (fun i => xs.length - i) 0 (by simp [go_sem, seval, dI, dLI]) ?_
  intro i e H ⟨hH, hi, h0, h1, h7, h8, hn⟩
  subst hH
  simp [go_sem, seval, h0, h1, h7, h8, dI, dLI]
  refine condQ_dec (fun hlt => ?_) (fun hge => ?_)
  · have hgx := hg xs[i] (lgm hlt)
    simp [go_sem, seval, h0, h1, h7, h8, dI, dLI, hlt, cI] at hgx ⊢
    refine callQ_pure0 hgx (by simp [go_sem, hc]) ?_
    simp [go_sem, seval, h0, h1, h7, h8, dI, dLI]
    refine condQ_mk (fun h => ?_) (fun h => ?_)
    ·simp [go_sem, seval, h0, h1, h7, h8, dI, dLI]
     rw [idxF_some hn hlt h]
    ·simp [go_sem, seval, h0, h1, h7, h8, dI, dLI]
     refine ⟨inR_i64 (by omega) (by omega), i + 1, by omega, by omega, by omega, fun j x hj hx => ?_⟩
     rcases Nat.lt_or_ge j i with hj' | hj'
     ·exact hn j x hj' hx
     ·have : j = i := by omega
      subst this
      rw [lge hlt] at hx
      cases hx; exact h
  · simp [go_sem, seval, h0, h1, h7, h8, dI, dLI]
    rw [idxF_none fun j x hj => hn j x (by omega)]
theorem containsFunc_int (xs : List Int) (g : FuncId) (caps : List D) (p : Int → Bool) (hc : D.clL caps = true) (hl : D.cl (.list (xs.map cI)) = true) (hg : ∀ x ∈ xs, Pure Tryz.prog g (.int .i64 x :: caps) (.bool (p x))) :
    Pure Tryz.prog 20 [.list (xs.map cI), .fn g caps] (.bool (xs.any p)) := by
  refine pure_of_calls (acalls_of_body (cfg := ⟨fun _ => false, fun _ => []⟩) Tz.mixed Tryz.func20 rfl rfl (nlb rfl) (by kernel_rfl) ?_)
  simp [go_sem, seval]
  refine callQ_pure0 (indexFunc_int xs g caps p hc hg) (by simp only [D.clL, hl, Bool.true_and]; simp [D.cl, hc]) ?_
  simp [go_sem, seval, dI, idxF_any]
theorem indexFunc_gedge (xs : List Edge) (g : FuncId) (caps : List D) (p : Edge → Bool) (hc : D.clL caps = true) (hg : ∀ x ∈ xs, Pure Tryz.prog g (.agg x.c :: caps) (.bool (p x))) :
    Pure Tryz.prog 162 [.list (xs.map Edge.c), .fn g caps] (dI (idxF xs p)) := by
  refine pure_of_calls (acalls_of_body (cfg := ⟨fun _ => false, fun _ => []⟩) Tz.mixed Tryz.func162 rfl rfl (nlb rfl) (by kernel_rfl) ?_)
  simp [go_sem, seval, dI, dLI]
  intro hlen
  refine loop_rule (ι := Nat) (fun i e H => H = .emp ∧ i ≤ xs.length ∧ e 0 = .list (xs.map Edge.c) ∧ e 1 = .fn g caps ∧ e 7 = dI xs.length ∧ e 8 = dI i ∧ (∀ j x, j < i → xs[j]? = some x → p x = false)) (fun i => xs.length - i) 0 (by simp [go_sem, seval, dI, dLI]) ?_
  intro i e H ⟨hH, hi, h0, h1, h7, h8, hn⟩
  subst hH
  simp [go_sem, seval, h0, h1, h7, h8, dI, dLI]
  refine condQ_dec (fun hlt => ?_) (fun hge => ?_)
  · have hgx := hg xs[i] (lgm hlt)
    simp [go_sem, seval, h0, h1, h7, h8, dI, dLI, hlt, Edge.c] at hgx ⊢
    refine callQ_pure0 hgx (by simp [go_sem, hc]) ?_
    simp [go_sem, seval, h0, h1, h7, h8, dI, dLI]
    refine condQ_mk (fun h => ?_) (fun h => ?_)
    ·simp [go_sem, seval, h0, h1, h7, h8, dI, dLI]
     rw [idxF_some hn hlt h]
    ·simp [go_sem, seval, h0, h1, h7, h8, dI, dLI]
     refine ⟨inR_i64 (by omega) (by omega), i + 1, by omega, by omega, by omega, fun j x hj hx => ?_⟩
     rcases Nat.lt_or_ge j i with hj' | hj'
     ·exact hn j x hj' hx
     ·have : j = i := by omega
      subst this
      rw [lge hlt] at hx
      cases hx; exact h
  · simp [go_sem, seval, h0, h1, h7, h8, dI, dLI]
    rw [idxF_none fun j x hj => hn j x (by omega)]
theorem containsFunc_gedge (xs : List Edge) (g : FuncId) (caps : List D) (p : Edge → Bool) (hc : D.clL caps = true) (hl : D.cl (.list (xs.map Edge.c)) = true) (hg : ∀ x ∈ xs, Pure Tryz.prog g (.agg x.c :: caps) (.bool (p x))) :
    Pure Tryz.prog 81 [.list (xs.map Edge.c), .fn g caps] (.bool (xs.any p)) := by
  refine pure_of_calls (acalls_of_body (cfg := ⟨fun _ => false, fun _ => []⟩) Tz.mixed Tryz.func81 rfl rfl (nlb rfl) (by kernel_rfl) ?_)
  simp [go_sem, seval]
  refine callQ_pure0 (indexFunc_gedge xs g caps p hc hg) (by simp only [D.clL, hl, Bool.true_and]; simp [D.cl, hc]) ?_
  simp [go_sem, seval, dI, idxF_any]
def withinF (n m : Int) : Bool := decide (0 ≤ n) && decide (n ≤ m)
theorem graph_within (n m : Int) : Pure Tryz.prog 159 [dI n, dI m] (.bool (withinF n m)) := by
  refine pure_of_calls (acalls_of_body (cfg := ⟨fun _ => false, fun _ => []⟩) Tz.mixed Tryz.func159 rfl rfl (nlb rfl) (by kernel_rfl) ?_)
  simp [go_sem, seval, dI, withinF]
def fitsF (x : Edge) (n : Int) : Bool := withinF x.type 99 && withinF x.from_ (n - 1) && withinF x.to_ (n - 1)
theorem graph_fits (x : Edge) (n : Int) (h0 : 0 ≤ n) (h1 : n ≤ 1000000) : Pure Tryz.prog 161 [.agg x.c, dI n] (.bool (fitsF x n)) := by
  have hw : ∀ a b : Int, Pure Tryz.prog 159 [.int .i64 a, .int .i64 b] (.bool (withinF a b)) := graph_within
  refine pure_of_calls (acalls_of_body (cfg := ⟨fun _ => false, fun _ => []⟩) Tz.mixed Tryz.func161 rfl rfl (nlb rfl) (by kernel_rfl) ?_)
  simp [go_sem, seval, dI, Edge.c]
  refine callQ_pure0 (hw _ _) rfl ?_
  simp [go_sem, seval, dI, Edge.c]
  refine ⟨fun _ => inR_i64 (by omega) (by omega), gcallQ_pure0 (fun _ => hw _ _) (fun _ => rfl) ?_⟩
  simp [go_sem, seval, dI, Edge.c]
  refine ⟨fun _ _ => inR_i64 (by omega) (by omega), gcallQ_pure0 (fun _ => hw _ _) (fun _ => rfl) ?_⟩
  simp [go_sem, seval, fitsF]
theorem graph_Valid1 (n : Int) : Pure Tryz.prog 158 [.int .i64 n] (.bool (!withinF n 99)) := by
  have hw : ∀ a b : Int, Pure Tryz.prog 159 [.int .i64 a, .int .i64 b] (.bool (withinF a b)) := graph_within
  refine pure_of_calls (acalls_of_body (cfg := ⟨fun _ => false, fun _ => []⟩) Tz.mixed Tryz.func158 rfl rfl (nlb rfl) (by kernel_rfl) ?_)
  simp [go_sem, seval, dI]
  refine callQ_pure0 (hw _ _) rfl ?_
  simp [go_sem, seval]
theorem graph_Valid2 (g : Graph) (hg : g.nodes.length ≤ 1000000) (x : Edge) : Pure Tryz.prog 160 [.agg x.c, .adr g.c] (.bool (!fitsF x g.nodes.length)) := by
  have hf := graph_fits x g.nodes.length (by omega) (by omega)
  simp only [Edge.c, dI] at hf
  refine pure_of_calls (acalls_of_body (cfg := ⟨fun _ => false, fun _ => []⟩) Tz.mixed Tryz.func160 rfl rfl (nlb rfl) (by kernel_rfl) ?_)
  simp [go_sem, seval, dI, Edge.c, Graph.c, dLI]
  intro _
  refine callQ_pure0 hf rfl ?_
  simp [go_sem, seval]
def graphF (g : Graph) : Int :=
  if 40 < g.nodes.length ∨ 80 < g.edges.length then 3
  else if (g.nodes.any fun n => !withinF n 99) = true then 6
  else if (g.edges.any fun x => !fitsF x g.nodes.length) = true then 6
  else 0
theorem graph_Valid (g : Graph) : Pure Tryz.prog 79 [g.d] (dI (graphF g)) := by
  refine pure_of_calls (acalls_of_body (cfg := ⟨fun _ => false, fun _ => []⟩) Tz.mixed Tryz.func79 rfl rfl (nlb rfl) (by kernel_rfl) ?_)
  simp [go_sem, seval, dI, Graph.d, Graph.c, dLI]
  intro _ _
  refine condQ_mk (fun h => ?_) (fun h => ?_)
  · have h' : 40 < g.nodes.length ∨ 80 < g.edges.length := by simp at h; omega
    simp [go_sem, seval, graphF, h']
  · have h' : ¬ (40 < g.nodes.length ∨ 80 < g.edges.length) := by simp at h; omega
    have h1 := containsFunc_int g.nodes 158 [] (fun n => !withinF n 99) rfl (by simp [D.cl, ints_cl]) (fun n _ => graph_Valid1 n)
    have h2 := containsFunc_gedge g.edges 160 [.adr g.c] (fun x => !fitsF x g.nodes.length) (by simp [D.clL, D.cl, Graph.c, ints_cl, gedges_cl, dLI]) (by simp [D.cl, gedges_cl]) (fun x _ => graph_Valid2 g (by omega) x)
    simp only [Graph.c, dLI] at h2
    simp [go_sem, seval]
    refine callQ_pure0 h1 (by simp [D.clL, D.cl, ints_cl]) ?_
    simp [go_sem, seval]
    refine condQ_mk (fun ha => ?_) (fun ha => ?_)
    ·have e : graphF g = 6 := by unfold graphF; rw [if_neg h', if_pos ha]
     simp [go_sem, seval, e]
    ·simp [go_sem, seval]
     refine callQ_pure0 h2 (by simp [D.clL, D.cl, ints_cl, gedges_cl]) ?_
     simp [go_sem, seval]
     refine condQ_mk (fun hb => ?_) (fun hb => ?_)
     ·have e : graphF g = 6 := by unfold graphF; rw [if_neg h', if_neg (by rw [ha]; simp), if_pos hb]
      simp [go_sem, seval, e]
     ·have e : graphF g = 0 := by unfold graphF; rw [if_neg h', if_neg (by rw [ha]; simp), if_neg (by rw [hb]; simp)]
      simp [go_sem, seval, e]
end Go.Abs
end
section
set_option maxRecDepth 4000
open Go Go.Proofs
namespace Go.Abs
theorem ref05_kind (n : Int) : Pure Tryz.prog 111 [.int .i64 n] (.bool (withinF n 99)) := by
  refine pure_of_calls (acalls_of_body (cfg := ⟨fun _ => false, fun _ => []⟩) Tz.mixed Tryz.func111 rfl rfl (nlb rfl) (by kernel_rfl) ?_)
  simp [go_sem, seval, withinF]
theorem ref05_right (x : Edge) (n : Int) : Pure Tryz.prog 112 [.agg x.c, .int .i64 n] (.bool (fitsF x n)) := by
  refine pure_of_calls (acalls_of_body (cfg := ⟨fun _ => false, fun _ => []⟩) Tz.mixed Tryz.func112 rfl rfl (nlb rfl) (by kernel_rfl) ?_)
  simp [go_sem, seval, Edge.c, dI]
  refine callQ_pure0 (ref05_kind _) rfl ?_
  simp [go_sem, seval, Edge.c, dI, fitsF, withinF]
  rw [bei]; simp; omega
theorem any_take_succ {α : Type} (l : List α) (p : α → Bool) (i : Nat) (hi : i < l.length) : (l.take (i + 1)).any p = ((l.take i).any p || p l[i]) := by
  rw [List.take_succ_eq_append_getElem hi, List.any_append]; simp
theorem ref05_Valid (g : Graph) : Pure Tryz.prog 53 [g.d] (dI (graphF g)) := by
  refine pure_of_calls (acalls_of_body (cfg := ⟨fun _ => false, fun _ => []⟩) Tz.mixed Tryz.func53 rfl rfl (nlb rfl) (by kernel_rfl) ?_)
  simp [go_sem, seval, dI, Graph.d, Graph.c, dLI]
  intro _ _
  refine condQ_mk (fun h => ?_) (fun h => ?_)
  · have h' : 40 < g.nodes.length ∨ 80 < g.edges.length := by simp at h; omega
    simp [go_sem, seval, graphF, h']
  · have h' : ¬ (40 < g.nodes.length ∨ 80 < g.edges.length) := by simp at h; omega
    simp [go_sem, seval]
    refine loop_rule (ι := Nat) (fun i e H => i ≤ g.nodes.length ∧ e 1 = .adr g.c ∧ e 3 = dI i ∧ ((g.nodes.take i).any fun n => !withinF n 99) = false) (fun i => g.nodes.length - i) 0 (by simp [go_sem, seval, dI, Graph.c, dLI]) ?_
    intro i e H ⟨hi, h1, h3, ha⟩
    simp [go_sem, seval, h1, h3, dI, Graph.c, dLI]
    intro _
    refine condQ_dec (fun hlt => ?_) (fun hge => ?_)
    ·simp [go_sem, seval, h1, h3, dI, Graph.c, dLI, hlt, cI]
     refine callQ_pure0 (ref05_kind _) rfl ?_
     simp [go_sem, seval]
     refine condQ_mk (fun hc => ?_) (fun hc => ?_)
     ·have hany : (g.nodes.any fun n => !withinF n 99) = true := List.any_eq_true.2 ⟨_, lgm hlt, hc⟩
      have e : graphF g = 6 := by unfold graphF; rw [if_neg h', if_pos hany]
      simp [go_sem, seval, e]
     ·simp [go_sem, seval, h1, h3, dI, Graph.c, dLI]
      refine ⟨inR_i64 (by omega) (by omega), i + 1, by omega, by omega, by omega, ?_⟩
      have := any_take_succ g.nodes (fun n => !withinF n 99) i hlt
      rw [ha, hc] at this
      simpa using this
    ·simp [go_sem, seval, h1, h3, dI, Graph.c, dLI]
     have ha' : (g.nodes.any fun n => !withinF n 99) = false := by rw [show i = g.nodes.length by omega, List.take_length] at ha; exact ha
     refine loop_rule (ι := Nat) (fun k e H => k ≤ g.edges.length ∧ e 1 = .adr g.c ∧ e 4 = dI k ∧ ((g.edges.take k).any fun x => !fitsF x g.nodes.length) = false) (fun k => g.edges.length - k) 0 (by simp [go_sem, seval, h1, dI, Graph.c, dLI]) ?_
     intro k e H ⟨hk, h1, h4, hb⟩
     simp [go_sem, seval, h1, h4, dI, Graph.c, dLI]
     intro _
     refine condQ_dec (fun hlt => ?_) (fun hge => ?_)
     ·have hr := ref05_right g.edges[k] g.nodes.length
      simp only [Edge.c, dI] at hr
      simp [go_sem, seval, h1, h4, dI, Graph.c, dLI, hlt, Edge.c]
      refine dcallQ_pure0 hr rfl ?_
      simp [go_sem, seval]
      refine condQ_mk (fun hc => ?_) (fun hc => ?_)
      ·have hany : (g.edges.any fun x => !fitsF x g.nodes.length) = true := List.any_eq_true.2 ⟨_, lgm hlt, hc⟩
       have e : graphF g = 6 := by unfold graphF; rw [if_neg h', if_neg (by rw [ha']; simp), if_pos hany]
       simp [go_sem, seval, e]
      ·simp [go_sem, seval, h1, h4, dI, Graph.c, dLI]
       refine ⟨inR_i64 (by omega) (by omega), k + 1, by omega, by omega, by omega, ?_⟩
       have := any_take_succ g.edges (fun x => !fitsF x g.nodes.length) k hlt
       rw [hb, hc] at this
       simpa using this
     ·have hb' : (g.edges.any fun x => !fitsF x g.nodes.length) = false := by rw [show k = g.edges.length by omega, List.take_length] at hb; exact hb
      have e : graphF g = 0 := by unfold graphF; rw [if_neg h', if_neg (by rw [ha']; simp), if_neg (by rw [hb']; simp)]
      simp [go_sem, seval, e]
end Go.Abs
end
section
set_option maxRecDepth 4000
open Go Go.Proofs
namespace Go.Abs
attribute [go_sem] dI dLI dLS cI cS Attr.c NodeTy.c EdgeTy.c Types.c Types.d Edge.c Graph.c Graph.d
theorem clL_append (a b : List D) : D.clL (a ++ b) = (D.clL a && D.clL b) := by
  induction a with
  | nil => simp [D.clL]
  | cons x a ih => simp [D.clL, ih, Bool.and_assoc]
@[go_sem] theorem clLL_append (a b : List (List D)) : D.clLL (a ++ b) = (D.clLL a && D.clLL b) := by
  induction a with
  | nil => simp [D.clLL]
  | cons x a ih => simp [D.clLL, ih, Bool.and_assoc]
attribute [go_sem] clL_append
def inF (n low high : Int) : Bool := decide (low ≤ n) && decide (n ≤ high)
theorem ref04_in (n low high : Int) : Pure Tryz.prog 193 [dI n, dI low, dI high] (.bool (inF n low high)) := by
  refine Tz.pK ⟨fun _ => false, fun _ => []⟩ Tryz.func193 rfl (fun Q hQ => ?_)
  try simp [go_sem, seval]
  repeat (first | intro _ | (refine ⟨obl, ?_⟩))
  exact hQ _ _ (by simp [go_sem, inF] <;> first | omega | (rw [bei]; simp <;> omega) | (simp_all <;> omega))
theorem mem_take {l : List ByteArray} {i : Nat} (hi : i < l.length) : mem (l.take i) l[i] = true ↔ ∃ j, j < i ∧ l[j]? = some l[i] := by
  rw [mem_iff, List.mem_take_iff_getElem]
  constructor
  · rintro ⟨j, hj, he⟩
    have hj' : j < l.length := by omega
    exact ⟨j, by omega, by rw [lge hj', he]⟩
  · rintro ⟨j, hj, he⟩
    have hj' : j < l.length := by omega
    rw [lge hj'] at he
    exact ⟨j, by omega, by simpa using he⟩
theorem all_lt_succ {p : Nat → Prop} {k : Nat} (h : ∀ j, j < k → p j) (hk : p k) : ∀ j, j < k + 1 → p j := fun j hj => by
  rcases Nat.lt_or_ge j k with h' | h'
  · exact h j h'
  · have : j = k := by omega
    subst this; exact hk
theorem ref04_names (l : List ByteArray) (hs : ∀ s ∈ l, s.size ≤ 100000) : Pure Tryz.prog 271 [dLS l] (dI (namesF l)) := by
  refine Tz.pK ⟨fun _ => false, fun _ => []⟩ Tryz.func271 rfl (fun Q hQ => ?_)
  try simp [go_sem, seval]
  repeat (first | intro _ | (refine ⟨obl, ?_⟩))
  refine condQ_mk (fun h1 => ?_) (fun h1 => ?_)
  · try simp [go_sem] at h1
    try simp [go_sem, seval]
    exact hQ _ _ (by first | (left; (simp [go_sem, namesF, show 20 < l.length by omega]); done) | (right; (simp [go_sem, namesF, show 20 < l.length by omega]); done))
  · try simp [go_sem] at h1
    try simp [go_sem, seval]
    obtain ⟨I0, hI0⟩ := mkI fun i e H => ((e 0 = dLS l) ∧ (e 3 = dI i) ∧ (i ≤ l.length) ∧ (namesE (l.take i) (l.drop i) = namesF l))
    refine loopK I0 (fun i => l.length - i) (0) ((hI0 _ _ _).2 ⟨?_, ?_, (by first | assumption | omega | (simp [go_sem]; done) | (simp_all; done)), (by simp [namesF, show ¬ 20 < l.length by omega])⟩) ?_
    iterate 2 (first | omega | (simp [go_sem, seval] <;> omega))
    intro i e H hi0
    obtain ⟨q0_0, q3_0, hi, hn⟩ := (hI0 _ _ _).1 hi0
    have F0 := And.intro q0_0 q3_0
    try simp [go_sem, seval, F0]
    repeat (first | intro _ | (refine ⟨obl, ?_⟩))
    refine condQ_mk (fun h4 => ?_) (fun h4 => ?_)
    ·try simp [go_sem] at h4
     rw [List.drop_eq_getElem_cons h4] at hn
     have hsz := hs _ (lgm h4)
     try simp [go_sem, seval, F0, h4]
     repeat (first | intro _ | (refine ⟨obl, ?_⟩))
     refine callQ_pure0 (ref01_IsName _ (by assumption)) ((by first | rfl | (simp [go_sem, ← List.map_take, ← List.map_drop, F0, h4]; done))) ?_
     try simp [go_sem, seval, F0, h4]
     repeat (first | intro _ | (refine ⟨obl, ?_⟩))
     refine condQ_mk (fun h6 => ?_) (fun h6 => ?_)
     ·try simp [go_sem] at h6
      try simp [go_sem, seval, F0, h4]
      exact hQ _ _ (by first | (left; (rw [← hn]; simp [go_sem, namesE, h6]); done) | (right; (rw [← hn]; simp [go_sem, namesE, h6]); done))
     ·try simp [go_sem] at h6
      try simp [go_sem, seval, F0, h4]
      obtain ⟨I2, hI2⟩ := mkI fun k e H => ((e 0 = dLS l) ∧ (e 3 = dI i) ∧ (e 4 = dI k) ∧ (k ≤ i) ∧ (∀ j, j < k → l[j]? ≠ some l[i]))
      refine loopK I2 (fun k => i - k) (0) ((hI2 _ _ _).2 ⟨?_, ?_, ?_, (by first | assumption | omega | (simp [go_sem, F0, h4]; done) | (simp_all; done)), (by intro j hj; omega)⟩) ?_
      iterate 3 (first | omega | (simp [go_sem, seval, F0, h4] <;> omega))
      intro k e H hi2
      obtain ⟨q0_2, q3_2, q4_2, hk, hne⟩ := (hI2 _ _ _).1 hi2
      have F2 := And.intro q0_2 (And.intro q3_2 q4_2)
      try simp [go_sem, seval, h4, F2]
      refine condQ_mk (fun h9 => ?_) (fun h9 => ?_)
      ·try simp [go_sem] at h9
       have hkl : k < l.length := by omega
       try simp [go_sem, seval, h4, F2, h9, hkl]
       repeat (first | intro _ | (refine ⟨obl, ?_⟩))
       refine condQ_mk (fun h11 => ?_) (fun h11 => ?_)
       ·try simp [go_sem] at h11
        try simp [go_sem, seval, h4, F2, h9, hkl]
        exact hQ _ _ (by first | (left; (have hm : mem (l.take i) l[i] = true := (mem_take h4).2 ⟨k, h9, by rw [lge hkl, h11]⟩; rw [← hn]; simp [go_sem, namesE, h6, hm]); done) | (right; (have hm : mem (l.take i) l[i] = true := (mem_take h4).2 ⟨k, h9, by rw [lge hkl, h11]⟩; rw [← hn]; simp [go_sem, namesE, h6, hm]); done))
       ·try simp [go_sem] at h11
        try simp [go_sem, seval, h4, F2, h9, hkl]
        repeat (first | intro _ | (refine ⟨obl, ?_⟩))
        refine nextQ_mk (k + 1) (by omega) ((hI2 _ _ _).2 ⟨?_, ?_, ?_, (by first | assumption | omega | (simp [go_sem, h4, F2, h9, hkl, h1, h6, h11]; done) | (simp_all <;> omega)), (by exact all_lt_succ hne (by rw [lge hkl]; simpa using h11))⟩) <;> first | omega | (simp [go_sem, seval, h4, F2, h9, hkl] <;> omega)
      ·try simp [go_sem] at h9
       have hm : ¬ mem (l.take i) l[i] = true := fun hm => by
        obtain ⟨j, hj, he⟩ := (mem_take h4).1 hm
        exact hne j (by omega) he
       try simp [go_sem, seval, h4, F2]
       repeat (first | intro _ | (refine ⟨obl, ?_⟩))
       refine nextQ_mk (i + 1) (by omega) ((hI0 _ _ _).2 ⟨?_, ?_, (by first | assumption | omega | (simp [go_sem, h4, F2, h1, h6, h9]; done) | (simp_all <;> omega)), (by rw [← hn, namesE, if_neg (by simp [h6]), if_neg hm, List.take_succ_eq_append_getElem h4])⟩) <;> first | omega | (simp [go_sem, seval, h4, F2] <;> omega)
    ·try simp [go_sem] at h4
     try simp [go_sem, seval, F0]
     exact hQ _ _ (by first | (left; (rw [← hn, show i = l.length by omega]; simp [go_sem, namesE]); done) | (right; (rw [← hn, show i = l.length by omega]; simp [go_sem, namesE]); done))
def attr0 (x : Attr) : Int :=
  if namesF x.names ≠ 0 then namesF x.names
  else if (if 0 < x.names.length then decide (x.low = 0) && decide (x.high = x.names.length - 1) else decide (-1000000 ≤ x.low) && decide (x.low ≤ x.high) && decide (x.high ≤ 1000000)) = true then 0 else 6
theorem ref04_attribute (x : Attr) (hx : x.ok) : Pure Tryz.prog 212 [.agg x.c] (dI (attr0 x)) := by
  have hfew := hx.few
  have hz : x.names = [] → namesF x.names = 0 := fun h => by rw [h]; rfl
  refine Tz.pK ⟨fun _ => false, fun _ => []⟩ Tryz.func212 rfl (fun Q hQ => ?_)
  try simp [go_sem, seval]
  repeat (first | intro _ | (refine ⟨obl, ?_⟩))
  refine condQ_mk (fun h1 => ?_) (fun h1 => ?_)
  · try simp [go_sem] at h1
    have hp : ¬ 0 < x.names.length := by simp [h1]
    try simp [go_sem, seval]
    repeat (first | intro _ | (refine ⟨obl, ?_⟩))
    refine callQ_pure0 (ref04_in _ _ _) ((by first | rfl | (simp [go_sem, ← List.map_take, ← List.map_drop]; done))) ?_
    try simp [go_sem, seval]
    repeat (first | intro _ | (refine ⟨obl, ?_⟩))
    refine gcallQ_pure0 (fun hg => ref04_in _ _ _) (fun hg => (by first | rfl | (simp [go_sem, ← List.map_take, ← List.map_drop]; done))) ?_
    try simp [go_sem, seval]
    repeat (first | intro _ | (refine ⟨obl, ?_⟩))
    refine condQ_mk (fun h2 => ?_) (fun h2 => ?_)
    ·try simp [go_sem] at h2
     try simp [go_sem, seval]
     exact hQ _ _ (by first | (left; (simp [go_sem, attr0, hz h1, hp]; simp [inF] at h2; omega); done) | (right; (simp [go_sem, attr0, hz h1, hp]; simp [inF] at h2; omega); done))
    ·try simp [go_sem] at h2
     try simp [go_sem, seval]
     exact hQ _ _ (by first | (left; (simp [go_sem, attr0, hz h1, hp]; simp [inF] at h2; omega); done) | (right; (simp [go_sem, attr0, hz h1, hp]; simp [inF] at h2; omega); done))
  · try simp [go_sem] at h1
    have hp : 0 < x.names.length := by cases hh : x.names <;> simp_all
    try simp [go_sem, seval]
    refine callQ_pure0 (ref04_names x.names hx.names) ((by first | rfl | (simp [go_sem, ← List.map_take, ← List.map_drop]; done))) ?_
    try simp [go_sem, seval]
    refine condQ_mk (fun h6 => ?_) (fun h6 => ?_)
    ·try simp [go_sem] at h6
     try simp [go_sem, seval]
     exact hQ _ _ (by first | (left; (simp [go_sem, attr0, h6]); done) | (right; (simp [go_sem, attr0, h6]); done))
    ·try simp [go_sem] at h6
     try simp [go_sem, seval]
     repeat (first | intro _ | (refine ⟨obl, ?_⟩))
     refine condQ_mk (fun h8 => ?_) (fun h8 => ?_)
     ·try simp [go_sem] at h8
      try simp [go_sem, seval]
      exact hQ _ _ (by first | (left; (simp [go_sem, attr0, h6, hp]; omega); done) | (right; (simp [go_sem, attr0, h6, hp]; omega); done))
     ·try simp [go_sem] at h8
      try simp [go_sem, seval]
      exact hQ _ _ (by first | (left; (simp [go_sem, attr0, h6, hp]; omega); done) | (right; (simp [go_sem, attr0, h6, hp]; omega); done))
theorem attrs_rec (t : Types) (a : Nat) (ha : a < t.nodes.length) (hp : parentsOK t.nodes a) :
    t.attrs a = (if 0 ≤ t.nodes[a].parent then t.attrs t.nodes[a].parent.toNat else []) ++ t.nodes[a].attrs := by
  have hpa := hp a _ (Nat.le_refl _) (lge ha)
  by_cases h' : 0 ≤ t.nodes[a].parent
  · have hlt : t.nodes[a].parent.toNat < a := by omega
    have := attrsF_fuel t.nodes t.nodes[a].parent.toNat a (t.nodes[a].parent.toNat + 1) (fun j m hj hm => hp j m (by omega) hm) hlt (by omega)
    simp [Types.attrs, attrsF, lge ha, h', this]
  · simp [Types.attrs, attrsF, lge ha, h']
theorem ref04_attrsN (t : Types) (a : Int) (ha : a < 0) : Pure Tryz.prog 192 [t.d, dI a] (.list []) := by
  refine Tz.pK ⟨fun t => t == 7, fun r => match r with | 3 => [(0, 1), (0, 2), (0, 3), (0, 5), (0, 6), (0, 7), (0, 8), (0, 10), (9, 10), (0, 11), (9, 11), (0, 13), (9, 13), (0, 14), (9, 14), (0, 15), (9, 15)] | _ => []⟩ Tryz.func192 rfl (fun Q hQ => ?_)
  try simp [go_sem, seval, ha]
  exact hQ _ _ (by simp [go_sem, ha] <;> first | omega | (rw [bei]; simp <;> omega) | (simp_all <;> omega))
theorem ref04_attrs (t : Types) (ht : t.ok) : ∀ a : Nat, a < t.nodes.length → parentsOK t.nodes a → Pure Tryz.prog 192 [t.d, dI a] (.list ((t.attrs a).map Attr.c)) := by
  intro a
  induction a using Nat.strongRecOn with
  | _ a ih =>
  intro ha hp
  have hpa := hp a _ (Nat.le_refl _) (lge ha)
  have hlen := attrsF_len t.nodes (fun n hn => (ht.nodes n hn).few) (a + 1) a
  have hfew := ht.fewN
  have e := attrs_rec t a ha hp
  have hc : Pure Tryz.prog 192 [t.d, dI t.nodes[a].parent] (.list (((if 0 ≤ t.nodes[a].parent then t.attrs t.nodes[a].parent.toNat else [])).map Attr.c)) := by
    by_cases h' : 0 ≤ t.nodes[a].parent
    ·rw [if_pos h']
     have := ih t.nodes[a].parent.toNat (by omega) (by omega) (fun j m hj hm => hp j m (by omega) hm)
     rwa [Int.toNat_of_nonneg h'] at this
    ·rw [if_neg h']
     exact ref04_attrsN t _ (by omega)
  have hl2 : (if 0 ≤ t.nodes[a].parent then t.attrs t.nodes[a].parent.toNat else []).length + t.nodes[a].attrs.length ≤ 2000000 := by
    have h1 : (t.attrs a).length ≤ 1000 * (a + 1) := hlen
    rw [e, List.length_append] at h1
    omega
  rw [e]
  generalize (if 0 ≤ t.nodes[a].parent then t.attrs t.nodes[a].parent.toNat else []) = u at *
  refine Tz.pK ⟨fun t => t == 7, fun r => match r with | 3 => [(0, 1), (0, 2), (0, 3), (0, 5), (0, 6), (0, 7), (0, 8), (0, 10), (9, 10), (0, 11), (9, 11), (0, 13), (9, 13), (0, 14), (9, 14), (0, 15), (9, 15)] | _ => []⟩ Tryz.func192 rfl (fun Q hQ => ?_)
  try simp [go_sem, seval, lge ha, ha, show ¬ ((a : Int) < 0) by omega]
  repeat (first | intro _ | (refine ⟨obl, ?_⟩))
  refine dcallQ_pure0 (hc) ((by first | rfl | (simp [go_sem, ← List.map_take, ← List.map_drop, lge ha, ha, show ¬ ((a : Int) < 0) by omega]; done))) ?_
  try simp [go_sem, seval, lge ha, ha, show ¬ ((a : Int) < 0) by omega]
  repeat (first | intro _ | (refine ⟨obl, ?_⟩))
  exact hQ _ _ (by simp [go_sem, lge ha, ha, show ¬ ((a : Int) < 0) by omega] <;> first | omega | (rw [bei]; simp <;> omega) | (simp_all <;> omega))
theorem ref04_bound (low high : Int) : Pure Tryz.prog 213 [dI low, dI high] (.bool (boundedF low high)) := by
  refine Tz.pK ⟨fun _ => false, fun _ => []⟩ Tryz.func213 rfl (fun Q hQ => ?_)
  try simp [go_sem, seval]
  repeat (first | intro _ | (refine ⟨obl, ?_⟩))
  refine callQ_pure0 (ref04_in _ _ _) ((by first | rfl | (simp [go_sem, ← List.map_take, ← List.map_drop]; done))) ?_
  try simp [go_sem, seval]
  repeat (first | intro _ | (refine ⟨obl, ?_⟩))
  refine gcallQ_pure0 (fun hg => ref04_in _ _ _) (fun hg => (by first | rfl | (simp [go_sem, ← List.map_take, ← List.map_drop]; done))) ?_
  try simp [go_sem, seval]
  repeat (first | intro _ | (refine ⟨obl, ?_⟩))
  exact hQ _ _ (by simp [go_sem, boundedF, inF] <;> first | omega | (rw [bei]; simp <;> omega) | (simp_all <;> omega))
theorem any_take_of {α : Type} {l : List α} {p : α → Bool} {k i : Nat} (hk : k < i) (hl : k < l.length) (h : p l[k] = true) : (l.take i).any p = true :=
  List.any_eq_true.2 ⟨l[k], List.mem_take_iff_getElem.2 ⟨k, by omega, rfl⟩, h⟩
theorem any_take_end {α : Type} {l : List α} {p : α → Bool} {k i : Nat} (h : (l.take k).any p = false) (he : k = i) : (l.take i).any p = false := by rw [← he]; exact h
def attrE (l : List Attr) (k : Nat) : Int := match l[k]? with | some x => attributeF x (l.take k) | none => 0
theorem attrE_at {l : List Attr} {k : Nat} (h : k < l.length) : attrE l k = if isName l[k].name = false then 2 else if ((l.take k).any fun y => decide (y.name = l[k].name)) = true then 5 else attr0 l[k] := by
  unfold attrE; rw [lge h]; rfl
theorem firstE_step (f : Nat → Int) {k n : Nat} (h : k < n) : firstE f k (n - k) = if f k ≠ 0 then f k else firstE f (k + 1) (n - (k + 1)) := by
  rw [show n - k = n - (k + 1) + 1 by omega, firstE]
theorem nodeF_at (t : Types) (i : Nat) (hi : i < t.nodes.length) : nodeF t i =
    if isName t.nodes[i].name = false then 2
    else if ((t.nodes.take i).any fun m => decide (m.name = t.nodes[i].name)) = true then 5
    else if (decide (t.nodes[i].parent < -1) || decide ((i : Int) ≤ t.nodes[i].parent)) = true then 6
    else if 4 < t.nodes[i].attrs.length then 3
    else if 8 < (t.attrs i).length then 3
    else firstE (attrE (t.attrs i)) ((t.attrs i).length - t.nodes[i].attrs.length) t.nodes[i].attrs.length := by
  unfold nodeF; rw [lge hi]; rfl
theorem ref04_node (t : Types) (ht : t.ok) (i : Nat) (hi : i < t.nodes.length) (hp : ∀ j n, j < i → t.nodes[j]? = some n → n.parent < j) : Pure Tryz.prog 138 [t.d, dI i] (dI (nodeF t i)) := by
  have hno := ht.nodes _ (lgm hi)
  have hfew := ht.fewN
  have hF := nodeF_at t i hi
  have hok : ∀ x ∈ t.attrs i, x.ok := attrsF_ok t.nodes ht.nodes _ _
  have hal := attrsF_len t.nodes (fun n hn => (ht.nodes n hn).few) (i + 1) i
  have hle : t.nodes[i].attrs.length ≤ (t.attrs i).length := by simp [Types.attrs, attrsF, lge hi]
  refine Tz.pK ⟨fun t => t == 5, fun _ => []⟩ Tryz.func138 rfl (fun Q hQ => ?_)
  try simp [go_sem, seval, lge hi, hi]
  repeat (first | intro _ | (refine ⟨obl, ?_⟩))
  refine callQ_pure0 (ref01_IsName _ hno.name) ((by first | rfl | (simp [go_sem, ← List.map_take, ← List.map_drop, lge hi, hi]; done))) ?_
  try simp [go_sem, seval, lge hi, hi]
  repeat (first | intro _ | (refine ⟨obl, ?_⟩))
  refine condQ_mk (fun h2 => ?_) (fun h2 => ?_)
  · try simp [go_sem] at h2
    try simp [go_sem, seval, lge hi, hi]
    exact hQ _ _ (by first | (left; (simp [go_sem, hF, h2]); done) | (right; (simp [go_sem, hF, h2]); done))
  · try simp [go_sem] at h2
    try simp [go_sem, seval, lge hi, hi]
    obtain ⟨I0, hI0⟩ := mkI fun k e H => ((e 1 = dI i) ∧ (e 2 = .adr t.c) ∧ (e 5 = .ptr 0 1 0 0) ∧ (e 6 = dI k) ∧ (H.get 0 = some ⟨131, 4, [t.nodes[i].c], false⟩) ∧ (0 < H.next) ∧ (k ≤ i) ∧ (((t.nodes.take k).any fun m => decide (m.name = t.nodes[i].name)) = false))
    refine loopK I0 (fun k => i - k) (0) ((hI0 _ _ _).2 ⟨?_, ?_, ?_, ?_, ?_, ?_, (by first | assumption | omega | (simp [go_sem, lge hi, hi]; done) | (simp_all; done)), (by simp)⟩) ?_
    iterate 6 (first | omega | (simp [go_sem, seval, lge hi, hi] <;> omega))
    intro k e H hi0
    obtain ⟨q1_0, q2_0, q5_0, q6_0, g0_0, n0_0, hk, hne⟩ := (hI0 _ _ _).1 hi0
    have x0 := frs n0_0
    have F0 := And.intro q1_0 (And.intro q2_0 (And.intro q5_0 (And.intro q6_0 (And.intro g0_0 x0))))
    try simp [go_sem, seval, lge hi, hi, F0]
    refine condQ_mk (fun h5 => ?_) (fun h5 => ?_)
    ·try simp [go_sem] at h5
     have hkl : k < t.nodes.length := by omega
     try simp [go_sem, seval, lge hi, hi, F0, h5, hkl]
     repeat (first | intro _ | (refine ⟨obl, ?_⟩))
     refine condQ_mk (fun h7 => ?_) (fun h7 => ?_)
     ·try simp [go_sem] at h7
      try simp [go_sem, seval, lge hi, hi, F0, h5, hkl]
      exact hQ _ _ (by first | (left; (have hb := any_take_of (p := fun m : NodeTy => decide (m.name = t.nodes[i].name)) h5 hkl (by simpa using h7); rw [hF, if_neg (by simp [h2]), if_pos hb]; simp [go_sem]); done) | (right; (have hb := any_take_of (p := fun m : NodeTy => decide (m.name = t.nodes[i].name)) h5 hkl (by simpa using h7); rw [hF, if_neg (by simp [h2]), if_pos hb]; simp [go_sem]); done))
     ·try simp [go_sem] at h7
      try simp [go_sem, seval, lge hi, hi, F0, h5, hkl]
      repeat (first | intro _ | (refine ⟨obl, ?_⟩))
      refine nextQ_mk (k + 1) (by omega) ((hI0 _ _ _).2 ⟨?_, ?_, ?_, ?_, ?_, ?_, (by first | assumption | omega | (simp [go_sem, lge hi, hi, F0, h5, hkl, h2, h7]; done) | (simp_all <;> omega)), (by rw [any_take_succ _ _ _ hkl, hne]; simpa using h7)⟩) <;> first | omega | (simp [go_sem, seval, lge hi, hi, F0, h5, hkl] <;> omega)
    ·try simp [go_sem] at h5
     have hb := any_take_end hne (show k = i by omega)
     try simp [go_sem, seval, lge hi, hi, F0]
     repeat (first | intro _ | (refine ⟨obl, ?_⟩))
     refine callQ_pure0 (ref04_in _ _ _) ((by first | rfl | (simp [go_sem, ← List.map_take, ← List.map_drop, lge hi, hi, F0]; done))) ?_
     try simp [go_sem, seval, lge hi, hi, F0]
     repeat (first | intro _ | (refine ⟨obl, ?_⟩))
     refine condQ_mk (fun h9 => ?_) (fun h9 => ?_)
     ·try simp [go_sem] at h9
      try simp [go_sem, seval, lge hi, hi, F0]
      exact hQ _ _ (by first | (left; (rw [hF, if_neg (by simp [h2]), if_neg (by simp [hb]), if_pos (by simp [inF] at h9; simp; omega)]; simp [go_sem]); done) | (right; (rw [hF, if_neg (by simp [h2]), if_neg (by simp [hb]), if_pos (by simp [inF] at h9; simp; omega)]; simp [go_sem]); done))
     ·try simp [go_sem] at h9
      have hr : ¬ (decide (t.nodes[i].parent < -1) || decide ((i : Int) ≤ t.nodes[i].parent)) = true := by simp [inF] at h9; simp; omega
      have hpo : parentsOK t.nodes i := fun j n hj hn => by
       rcases Nat.lt_or_ge j i with h | h
       ·exact hp j n h hn
       ·have : j = i := by omega
        subst this
        rw [lge hi] at hn
        cases hn; simp at hr; omega
      try simp [go_sem, seval, lge hi, hi, F0]
      refine callQ_pure0 (ref04_attrs t ht i hi hpo) ((by first | rfl | (simp [go_sem, ← List.map_take, ← List.map_drop, lge hi, hi, F0]; done))) ?_
      try simp [go_sem, seval, lge hi, hi, F0]
      repeat (first | intro _ | (refine ⟨obl, ?_⟩))
      refine condQ_mk (fun h12 => ?_) (fun h12 => ?_)
      ·try simp [go_sem] at h12
       try simp [go_sem, seval, lge hi, hi, F0]
       exact hQ _ _ (by first | (left; (rw [hF, if_neg (by simp [h2]), if_neg (by simp [hb]), if_neg hr]; simp [go_sem]; omega); done) | (right; (rw [hF, if_neg (by simp [h2]), if_neg (by simp [hb]), if_neg hr]; simp [go_sem]; omega); done))
      ·try simp [go_sem] at h12
       have hF2 : nodeF t i = firstE (attrE (t.attrs i)) ((t.attrs i).length - t.nodes[i].attrs.length) t.nodes[i].attrs.length := by rw [hF, if_neg (by simp [h2]), if_neg (by simp [hb]), if_neg hr, if_neg (by omega), if_neg (by omega)]
       try simp [go_sem, seval, lge hi, hi, F0]
       repeat (first | intro _ | (refine ⟨obl, ?_⟩))
       obtain ⟨I2, hI2⟩ := mkI fun k e H => ((e 1 = dI i) ∧ (e 2 = .adr t.c) ∧ (e 7 = .list ((t.attrs i).map Attr.c)) ∧ (e 8 = dI k) ∧ (k ≤ (t.attrs i).length) ∧ (firstE (attrE (t.attrs i)) k ((t.attrs i).length - k) = nodeF t i))
       refine loopK I2 (fun k => (t.attrs i).length - k) ((t.attrs i).length - t.nodes[i].attrs.length) ((hI2 _ _ _).2 ⟨?_, ?_, ?_, ?_, (by omega), (by rw [hF2]; congr 1; omega)⟩) ?_
       iterate 4 (first | omega | (simp [go_sem, seval, lge hi, hi, F0] <;> omega))
       intro k e H hi2
       obtain ⟨q1_2, q2_2, q7_2, q8_2, hk, hFk⟩ := (hI2 _ _ _).1 hi2
       have F2 := And.intro q1_2 (And.intro q2_2 (And.intro q7_2 q8_2))
       try simp [go_sem, seval, lge hi, hi, F2]
       repeat (first | intro _ | (refine ⟨obl, ?_⟩))
       refine condQ_mk (fun h15 => ?_) (fun h15 => ?_)
       ·try simp [go_sem] at h15
        have hst := firstE_step (attrE (t.attrs i)) h15
        rw [hFk] at hst
        have hE := attrE_at h15
        try simp [go_sem, seval, lge hi, hi, F2, h15]
        repeat (first | intro _ | (refine ⟨obl, ?_⟩))
        refine callQ_pure0 (ref01_IsName _ (hok _ (lgm h15)).name) ((by first | rfl | (simp [go_sem, ← List.map_take, ← List.map_drop, lge hi, hi, F2, h15]; done))) ?_
        try simp [go_sem, seval, lge hi, hi, F2, h15]
        repeat (first | intro _ | (refine ⟨obl, ?_⟩))
        refine condQ_mk (fun h17 => ?_) (fun h17 => ?_)
        ·try simp [go_sem] at h17
         try simp [go_sem, seval, lge hi, hi, F2, h15]
         have hE2 : attrE (t.attrs i) k = 2 := by rw [hE, if_pos (by simp [h17])]
         exact hQ _ _ (by first | (left; (rw [hst, hE2]; simp [go_sem]); done) | (right; (rw [hst, hE2]; simp [go_sem]); done))
        ·try simp [go_sem] at h17
         try simp [go_sem, seval, lge hi, hi, F2, h15]
         obtain ⟨I4, hI4⟩ := mkI fun j e H => ((e 1 = dI i) ∧ (e 2 = .adr t.c) ∧ (e 7 = .list ((t.attrs i).map Attr.c)) ∧ (e 8 = dI k) ∧ (e 9 = dI j) ∧ (j ≤ k) ∧ ((((t.attrs i).take j).any fun y => decide (y.name = (t.attrs i)[k].name)) = false))
         refine loopK I4 (fun j => k - j) (0) ((hI4 _ _ _).2 ⟨?_, ?_, ?_, ?_, ?_, (by first | assumption | omega | (simp [go_sem, lge hi, hi, F2, h15]; done) | (simp_all; done)), (by simp)⟩) ?_
         iterate 5 (first | omega | (simp [go_sem, seval, lge hi, hi, F2, h15] <;> omega))
         intro j e H hi4
         obtain ⟨q1_4, q2_4, q7_4, q8_4, q9_4, hj, hne⟩ := (hI4 _ _ _).1 hi4
         have F4 := And.intro q1_4 (And.intro q2_4 (And.intro q7_4 (And.intro q8_4 q9_4)))
         try simp [go_sem, seval, lge hi, hi, h15, F4]
         refine condQ_mk (fun h20 => ?_) (fun h20 => ?_)
         ·try simp [go_sem] at h20
          have hjl : j < (t.attrs i).length := by omega
          try simp [go_sem, seval, lge hi, hi, h15, F4, h20, hjl]
          repeat (first | intro _ | (refine ⟨obl, ?_⟩))
          refine condQ_mk (fun h22 => ?_) (fun h22 => ?_)
          ·try simp [go_sem] at h22
           try simp [go_sem, seval, lge hi, hi, h15, F4, h20, hjl]
           have hb := any_take_of (p := fun y : Attr => decide (y.name = (t.attrs i)[k].name)) h20 hjl (by simpa using h22)
           have hE2 : attrE (t.attrs i) k = 5 := by rw [hE, if_neg (by simp [h17]), if_pos hb]
           exact hQ _ _ (by first | (left; (rw [hst, hE2]; simp [go_sem]); done) | (right; (rw [hst, hE2]; simp [go_sem]); done))
          ·try simp [go_sem] at h22
           try simp [go_sem, seval, lge hi, hi, h15, F4, h20, hjl]
           repeat (first | intro _ | (refine ⟨obl, ?_⟩))
           refine nextQ_mk (j + 1) (by omega) ((hI4 _ _ _).2 ⟨?_, ?_, ?_, ?_, ?_, (by first | assumption | omega | (simp [go_sem, lge hi, hi, h15, F4, h20, hjl, h2, h5, h9, h12, h17, h22]; done) | (simp_all <;> omega)), (by rw [any_take_succ _ _ _ hjl, hne]; simpa using h22)⟩) <;> first | omega | (simp [go_sem, seval, lge hi, hi, h15, F4, h20, hjl] <;> omega)
         ·try simp [go_sem] at h20
          have hb2 := any_take_end hne (show j = k by omega)
          have hE2 : attrE (t.attrs i) k = attr0 (t.attrs i)[k] := by rw [hE, if_neg (by simp [h17]), if_neg (by simp [hb2])]
          rw [hE2] at hst
          try simp [go_sem, seval, lge hi, hi, h15, F4]
          repeat (first | intro _ | (refine ⟨obl, ?_⟩))
          refine callQ_pure0 (ref04_attribute _ (hok _ (lgm h15))) ((by first | rfl | (simp [go_sem, ← List.map_take, ← List.map_drop, lge hi, hi, h15, F4]; done))) ?_
          try simp [go_sem, seval, lge hi, hi, h15, F4]
          repeat (first | intro _ | (refine ⟨obl, ?_⟩))
          refine condQ_mk (fun h25 => ?_) (fun h25 => ?_)
          ·try simp [go_sem] at h25
           try simp [go_sem, seval, lge hi, hi, h15, F4]
           exact hQ _ _ (by first | (left; (rw [hst, if_pos (by simpa using h25)]; simp [go_sem]); done) | (right; (rw [hst, if_pos (by simpa using h25)]; simp [go_sem]); done))
          ·try simp [go_sem] at h25
           try simp [go_sem, seval, lge hi, hi, h15, F4]
           repeat (first | intro _ | (refine ⟨obl, ?_⟩))
           refine nextQ_mk (k + 1) (by omega) ((hI2 _ _ _).2 ⟨?_, ?_, ?_, ?_, (by first | assumption | omega | (simp [go_sem, lge hi, hi, h15, F4, h2, h5, h9, h12, h17, h20, h25]; done) | (simp_all <;> omega)), (by rw [if_neg (by simp [h25])] at hst; rw [← hst])⟩) <;> first | omega | (simp [go_sem, seval, lge hi, hi, h15, F4] <;> omega)
       ·try simp [go_sem] at h15
        try simp [go_sem, seval, lge hi, hi, F2]
        exact hQ _ _ (by first | (left; (rw [← hFk, show (t.attrs i).length - k = 0 by omega]; rfl); done) | (right; (rw [← hFk, show (t.attrs i).length - k = 0 by omega]; rfl); done))
end Go.Abs
end
section
set_option maxRecDepth 4000
open Go Go.Proofs
namespace Go.Abs
theorem edgeF_at (t : Types) (i : Nat) (hi : i < t.edges.length) : edgeF t i =
    if isName t.edges[i].name = false then 2
    else if ((t.edges.take i).any fun y => decide (y.name = t.edges[i].name)) = true then 5
    else if (insideF t t.edges[i].from_ && insideF t t.edges[i].to_ && boundedF t.edges[i].outLow t.edges[i].outHigh && boundedF t.edges[i].inLow t.edges[i].inHigh) = true then 0 else 6 := by
  unfold edgeF; rw [lge hi]
theorem inF_inside (t : Types) (a : Int) : inF a 0 ((t.nodes.length : Int) - 1) = insideF t a := by
  simp only [inF, insideF]; rw [bei]; simp; omega
theorem ref04_edge (t : Types) (ht : t.ok) (i : Nat) (hi : i < t.edges.length) : Pure Tryz.prog 139 [t.d, dI i] (dI (edgeF t i)) := by
  have hno := ht.edges _ (lgm hi)
  have hfew := ht.fewN
  have hfewE := ht.fewE
  have hF := edgeF_at t i hi
  refine Tz.pK ⟨fun t => t == 5, fun _ => []⟩ Tryz.func139 rfl (fun Q hQ => ?_)
  try simp [go_sem, seval, lge hi, hi]
  repeat (first | intro _ | (refine ⟨obl, ?_⟩))
  refine callQ_pure0 (ref01_IsName _ hno.name) ((by first | rfl | (simp [go_sem, ← List.map_take, ← List.map_drop, lge hi, hi]; done))) ?_
  try simp [go_sem, seval, lge hi, hi]
  repeat (first | intro _ | (refine ⟨obl, ?_⟩))
  refine condQ_mk (fun h2 => ?_) (fun h2 => ?_)
  · try simp [go_sem] at h2
    try simp [go_sem, seval, lge hi, hi]
    exact hQ _ _ (by first | (left; (simp [go_sem, hF, h2]); done) | (right; (simp [go_sem, hF, h2]); done))
  · try simp [go_sem] at h2
    try simp [go_sem, seval, lge hi, hi]
    obtain ⟨I0, hI0⟩ := mkI fun k e H => ((e 1 = dI i) ∧ (e 2 = .adr t.c) ∧ (e 5 = .ptr 0 1 0 0) ∧ (e 6 = dI k) ∧ (H.get 0 = some ⟨133, 7, [t.edges[i].c], false⟩) ∧ (0 < H.next) ∧ (k ≤ i) ∧ (((t.edges.take k).any fun m => decide (m.name = t.edges[i].name)) = false))
    refine loopK I0 (fun k => i - k) (0) ((hI0 _ _ _).2 ⟨?_, ?_, ?_, ?_, ?_, ?_, (by first | assumption | omega | (simp [go_sem, lge hi, hi]; done) | (simp_all; done)), (by simp)⟩) ?_
    iterate 6 (first | omega | (simp [go_sem, seval, lge hi, hi] <;> omega))
    intro k e H hi0
    obtain ⟨q1_0, q2_0, q5_0, q6_0, g0_0, n0_0, hk, hne⟩ := (hI0 _ _ _).1 hi0
    have x0 := frs n0_0
    have F0 := And.intro q1_0 (And.intro q2_0 (And.intro q5_0 (And.intro q6_0 (And.intro g0_0 x0))))
    try simp [go_sem, seval, lge hi, hi, F0]
    refine condQ_mk (fun h5 => ?_) (fun h5 => ?_)
    ·try simp [go_sem] at h5
     have hkl : k < t.edges.length := by omega
     try simp [go_sem, seval, lge hi, hi, F0, h5, hkl]
     repeat (first | intro _ | (refine ⟨obl, ?_⟩))
     refine condQ_mk (fun h7 => ?_) (fun h7 => ?_)
     ·try simp [go_sem] at h7
      try simp [go_sem, seval, lge hi, hi, F0, h5, hkl]
      exact hQ _ _ (by first | (left; (have hb := any_take_of (p := fun m : EdgeTy => decide (m.name = t.edges[i].name)) h5 hkl (by simpa using h7); rw [hF, if_neg (by simp [h2]), if_pos hb]; simp [go_sem]); done) | (right; (have hb := any_take_of (p := fun m : EdgeTy => decide (m.name = t.edges[i].name)) h5 hkl (by simpa using h7); rw [hF, if_neg (by simp [h2]), if_pos hb]; simp [go_sem]); done))
     ·try simp [go_sem] at h7
      try simp [go_sem, seval, lge hi, hi, F0, h5, hkl]
      repeat (first | intro _ | (refine ⟨obl, ?_⟩))
      refine nextQ_mk (k + 1) (by omega) ((hI0 _ _ _).2 ⟨?_, ?_, ?_, ?_, ?_, ?_, (by first | assumption | omega | (simp [go_sem, lge hi, hi, F0, h5, hkl, h2, h7]; done) | (simp_all <;> omega)), (by rw [any_take_succ _ _ _ hkl, hne]; simpa using h7)⟩) <;> first | omega | (simp [go_sem, seval, lge hi, hi, F0, h5, hkl] <;> omega)
    ·try simp [go_sem] at h5
     have hb := any_take_end hne (show k = i by omega)
     try simp [go_sem, seval, lge hi, hi, F0]
     repeat (first | intro _ | (refine ⟨obl, ?_⟩))
     refine callQ_pure0 (ref04_in _ _ _) ((by first | rfl | (simp [go_sem, ← List.map_take, ← List.map_drop, lge hi, hi, F0]; done))) ?_
     try simp [go_sem, seval, lge hi, hi, F0]
     repeat (first | intro _ | (refine ⟨obl, ?_⟩))
     refine gcallQ_pure0 (fun hg => ref04_in _ _ _) (fun hg => (by first | rfl | (simp [go_sem, ← List.map_take, ← List.map_drop, lge hi, hi, F0]; done))) ?_
     try simp [go_sem, seval, lge hi, hi, F0]
     repeat (first | intro _ | (refine ⟨obl, ?_⟩))
     refine gcallQ_pure0 (fun hg => ref04_bound _ _) (fun hg => (by first | rfl | (simp [go_sem, ← List.map_take, ← List.map_drop, lge hi, hi, F0]; done))) ?_
     try simp [go_sem, seval, lge hi, hi, F0]
     repeat (first | intro _ | (refine ⟨obl, ?_⟩))
     refine gcallQ_pure0 (fun hg => ref04_bound _ _) (fun hg => (by first | rfl | (simp [go_sem, ← List.map_take, ← List.map_drop, lge hi, hi, F0]; done))) ?_
     try simp [go_sem, seval, lge hi, hi, F0]
     repeat (first | intro _ | (refine ⟨obl, ?_⟩))
     refine condQ_mk (fun h10 => ?_) (fun h10 => ?_)
     ·skip
      simp only [inF_inside] at h10
      try simp [go_sem, seval, lge hi, hi, F0]
      exact hQ _ _ (by first | (left; (rw [hF, if_neg (by simp [h2]), if_neg (by simp [hb])]; revert h10; cases insideF t t.edges[i].from_ <;> cases insideF t t.edges[i].to_ <;> cases boundedF t.edges[i].outLow t.edges[i].outHigh <;> cases boundedF t.edges[i].inLow t.edges[i].inHigh <;> simp [go_sem]); done) | (right; (rw [hF, if_neg (by simp [h2]), if_neg (by simp [hb])]; revert h10; cases insideF t t.edges[i].from_ <;> cases insideF t t.edges[i].to_ <;> cases boundedF t.edges[i].outLow t.edges[i].outHigh <;> cases boundedF t.edges[i].inLow t.edges[i].inHigh <;> simp [go_sem]); done))
     ·skip
      simp only [inF_inside] at h10
      try simp [go_sem, seval, lge hi, hi, F0]
      exact hQ _ _ (by first | (left; (rw [hF, if_neg (by simp [h2]), if_neg (by simp [hb])]; revert h10; cases insideF t t.edges[i].from_ <;> cases insideF t t.edges[i].to_ <;> cases boundedF t.edges[i].outLow t.edges[i].outHigh <;> cases boundedF t.edges[i].inLow t.edges[i].inHigh <;> simp [go_sem]); done) | (right; (rw [hF, if_neg (by simp [h2]), if_neg (by simp [hb])]; revert h10; cases insideF t t.edges[i].from_ <;> cases insideF t t.edges[i].to_ <;> cases boundedF t.edges[i].outLow t.edges[i].outHigh <;> cases boundedF t.edges[i].inLow t.edges[i].inHigh <;> simp [go_sem]); done))
theorem firstNE_step (f : Nat → Int) (nm : Nat → ByteArray) (last : ByteArray × Int) {k n : Nat} (h : k < n) : firstNE f nm last k (n - k) = if f k ≠ 0 then (nm k, f k) else firstNE f nm last (k + 1) (n - (k + 1)) := by
  rw [show n - k = n - (k + 1) + 1 by omega, firstNE]
theorem ref04_Valid (t : Types) (ht : t.ok) : Pure Tryz.prog 68 [t.d] (.tup [.str (validF t).1, dI (validF t).2]) := by
  have hfew := ht.fewN
  have hfewE := ht.fewE
  refine Tz.pK ⟨fun _ => false, fun _ => []⟩ Tryz.func68 rfl (fun Q hQ => ?_)
  try simp [go_sem, seval]
  repeat (first | intro _ | (refine ⟨obl, ?_⟩))
  refine condQ_mk (fun h1 => ?_) (fun h1 => ?_)
  · try simp [go_sem] at h1
    try simp [go_sem, seval]
    exact hQ _ _ (by first | (left; (simp [go_sem, validF, h1]); done) | (right; (simp [go_sem, validF, h1]); done))
  · try simp [go_sem] at h1
    try simp [go_sem, seval]
    repeat (first | intro _ | (refine ⟨obl, ?_⟩))
    refine condQ_mk (fun h3 => ?_) (fun h3 => ?_)
    ·try simp [go_sem] at h3
     try simp [go_sem, seval]
     exact hQ _ _ (by first | (left; (simp [go_sem, validF, h1, show 12 < t.nodes.length ∨ 20 < t.edges.length by omega]); done) | (right; (simp [go_sem, validF, h1, show 12 < t.nodes.length ∨ 20 < t.edges.length by omega]); done))
    ·try simp [go_sem] at h3
     have e : validF t = firstNE (nodeF t) t.nodeName (firstNE (edgeF t) t.edgeName (⟨#[]⟩, 0) 0 t.edges.length) 0 t.nodes.length := by simp only [validF]; rw [if_neg (by simpa using h1), if_neg (by omega)]
     try simp [go_sem, seval]
     obtain ⟨I0, hI0⟩ := mkI fun i e H => ((e 1 = .adr t.c) ∧ (e 4 = dI i) ∧ (i ≤ t.nodes.length) ∧ (∀ j, j < i → nodeF t j = 0) ∧ (firstNE (nodeF t) t.nodeName (firstNE (edgeF t) t.edgeName (⟨#[]⟩, 0) 0 t.edges.length) i (t.nodes.length - i) = validF t))
     refine loopK I0 (fun i => t.nodes.length - i) (0) ((hI0 _ _ _).2 ⟨?_, ?_, (by first | assumption | omega | (simp [go_sem]; done) | (simp_all; done)), (by intro j hj; omega), (by rw [e]; rfl)⟩) ?_
     iterate 2 (first | omega | (simp [go_sem, seval] <;> omega))
     intro i e H hi0
     obtain ⟨q1_0, q4_0, hi, hz, hFk⟩ := (hI0 _ _ _).1 hi0
     have F0 := And.intro q1_0 q4_0
     try simp [go_sem, seval, F0]
     repeat (first | intro _ | (refine ⟨obl, ?_⟩))
     refine condQ_mk (fun h6 => ?_) (fun h6 => ?_)
     ·try simp [go_sem] at h6
      have hst := hFk
      rw [firstNE_step _ _ _ h6] at hst
      try simp [go_sem, seval, F0, h6]
      refine callQ_pure0 (ref04_node t ht i h6 (fun j n hj hn => nodeF_parent t j n (hz j hj) hn)) ((by first | rfl | (simp [go_sem, ← List.map_take, ← List.map_drop, F0, h6]; done))) ?_
      try simp [go_sem, seval, F0, h6]
      refine condQ_mk (fun h9 => ?_) (fun h9 => ?_)
      ·try simp [go_sem] at h9
       try simp [go_sem, seval, F0, h6]
       repeat (first | intro _ | (refine ⟨obl, ?_⟩))
       exact hQ _ _ (by first | (left; (rw [if_pos (by simpa using h9)] at hst; simp [go_sem, ← hst, Types.nodeName, lge h6]); done) | (right; (rw [if_pos (by simpa using h9)] at hst; simp [go_sem, ← hst, Types.nodeName, lge h6]); done))
      ·try simp [go_sem] at h9
       try simp [go_sem, seval, F0, h6]
       repeat (first | intro _ | (refine ⟨obl, ?_⟩))
       refine nextQ_mk (i + 1) (by omega) ((hI0 _ _ _).2 ⟨?_, ?_, (by first | assumption | omega | (simp [go_sem, F0, h6, h1, h3, h9]; done) | (simp_all <;> omega)), (by exact all_lt_succ hz (by simpa using h9)), (by rw [if_neg (by simpa using h9)] at hst; exact hst)⟩) <;> first | omega | (simp [go_sem, seval, F0, h6] <;> omega)
     ·try simp [go_sem] at h6
      have hE : firstNE (edgeF t) t.edgeName (⟨#[]⟩, 0) 0 t.edges.length = validF t := by rw [← hFk, show t.nodes.length - i = 0 by omega]; rfl
      try simp [go_sem, seval, F0]
      obtain ⟨I2, hI2⟩ := mkI fun i e H => ((e 1 = .adr t.c) ∧ (e 6 = dI i) ∧ (i ≤ t.edges.length) ∧ (firstNE (edgeF t) t.edgeName (⟨#[]⟩, 0) i (t.edges.length - i) = validF t))
      refine loopK I2 (fun i => t.edges.length - i) (0) ((hI2 _ _ _).2 ⟨?_, ?_, (by first | assumption | omega | (simp [go_sem, F0]; done) | (simp_all; done)), (by exact hE)⟩) ?_
      iterate 2 (first | omega | (simp [go_sem, seval, F0] <;> omega))
      intro i e H hi2
      obtain ⟨q1_2, q6_2, hi, hFk⟩ := (hI2 _ _ _).1 hi2
      have F2 := And.intro q1_2 q6_2
      try simp [go_sem, seval, F2]
      repeat (first | intro _ | (refine ⟨obl, ?_⟩))
      refine condQ_mk (fun h12 => ?_) (fun h12 => ?_)
      ·try simp [go_sem] at h12
       have hst := hFk
       rw [firstNE_step _ _ _ h12] at hst
       try simp [go_sem, seval, F2, h12]
       refine callQ_pure0 (ref04_edge t ht i h12) ((by first | rfl | (simp [go_sem, ← List.map_take, ← List.map_drop, F2, h12]; done))) ?_
       try simp [go_sem, seval, F2, h12]
       refine condQ_mk (fun h15 => ?_) (fun h15 => ?_)
       ·try simp [go_sem] at h15
        try simp [go_sem, seval, F2, h12]
        repeat (first | intro _ | (refine ⟨obl, ?_⟩))
        exact hQ _ _ (by first | (left; (rw [if_pos (by simpa using h15)] at hst; simp [go_sem, ← hst, Types.edgeName, lge h12]); done) | (right; (rw [if_pos (by simpa using h15)] at hst; simp [go_sem, ← hst, Types.edgeName, lge h12]); done))
       ·try simp [go_sem] at h15
        try simp [go_sem, seval, F2, h12]
        repeat (first | intro _ | (refine ⟨obl, ?_⟩))
        refine nextQ_mk (i + 1) (by omega) ((hI2 _ _ _).2 ⟨?_, ?_, (by first | assumption | omega | (simp [go_sem, F2, h12, h1, h3, h6, h15]; done) | (simp_all <;> omega)), (by rw [if_neg (by simpa using h15)] at hst; exact hst)⟩) <;> first | omega | (simp [go_sem, seval, F2, h12] <;> omega)
      ·try simp [go_sem] at h12
       try simp [go_sem, seval, F2]
       exact hQ _ _ (by first | (left; (rw [← hFk, show t.edges.length - i = 0 by omega]; simp [go_sem, firstNE]); done) | (right; (rw [← hFk, show t.edges.length - i = 0 by omega]; simp [go_sem, firstNE]); done))
theorem firstNE_zero {f : Nat → Int} {nm : Nat → ByteArray} {last : ByteArray × Int} : ∀ (n k : Nat), (firstNE f nm last k n).2 = 0 → (∀ j, k ≤ j → j < k + n → f j = 0) ∧ last.2 = 0
  | 0, k, h => ⟨fun j h1 h2 => by omega, h⟩
  | n + 1, k, h => by
    unfold firstNE at h
    split at h
    ·rename_i hne; exact absurd h hne
    ·rename_i hz
     obtain ⟨a, b⟩ := firstNE_zero n (k + 1) h
     refine ⟨fun j h1 h2 => ?_, b⟩
     rcases Nat.eq_or_lt_of_le h1 with h3 | h3
     ·subst h3; exact Classical.byContradiction fun hne => hz hne
     ·exact a j h3 (by omega)
structure Types.valid (t : Types) : Prop where
  ne : 0 < t.nodes.length
  fewN : t.nodes.length ≤ 12
  fewE : t.edges.length ≤ 20
  parent : ∀ (j : Nat) (n : NodeTy), t.nodes[j]? = some n → n.parent < j
  low : ∀ (j : Nat) (n : NodeTy), t.nodes[j]? = some n → -1 ≤ n.parent
  attrs : ∀ j, j < t.nodes.length → (t.attrs j).length ≤ 8
  ends : ∀ x ∈ t.edges, insideF t x.from_ = true ∧ insideF t x.to_ = true
theorem valid_of {t : Types} (h : (validF t).2 = 0) : t.valid := by
  unfold validF at h
  split at h
  · simp at h
  · rename_i h0
    split at h
    ·simp at h
    ·rename_i h1
     obtain ⟨hN, hE⟩ := firstNE_zero _ _ h
     obtain ⟨hE, _⟩ := firstNE_zero _ _ hE
     have hN' : ∀ j (hj : j < t.nodes.length), nodeF t j = 0 := fun j hj => hN j (by omega) (by omega)
     refine ⟨by omega, by omega, by omega, fun j n hn => ?_, fun j n hn => ?_, fun j hj => ?_, fun x hx => ?_⟩
     ·exact nodeF_parent t j n (hN' j (List.getElem?_eq_some_iff.1 hn).1) hn
     ·have hj := (List.getElem?_eq_some_iff.1 hn).1
      have h2 := hN' j hj
      rw [nodeF_at t j hj] at h2
      have he : t.nodes[j] = n := (List.getElem?_eq_some_iff.1 hn).2
      rw [he] at h2
      split at h2 <;> try (cases h2; done)
      split at h2 <;> try (cases h2; done)
      split at h2 <;> try (cases h2; done)
      rename_i hr; simp at hr; omega
     ·have h2 := hN' j hj
      rw [nodeF_at t j hj] at h2
      split at h2 <;> try (cases h2; done)
      split at h2 <;> try (cases h2; done)
      split at h2 <;> try (cases h2; done)
      split at h2 <;> try (cases h2; done)
      split at h2 <;> try (cases h2; done)
      omega
     ·obtain ⟨j, hj, rfl⟩ := List.getElem_of_mem hx
      have h2 := hE j (by omega) (by omega)
      rw [edgeF_at t j hj] at h2
      split at h2 <;> try (cases h2; done)
      split at h2 <;> try (cases h2; done)
      split at h2 <;> try (cases h2; done)
      rename_i hr; simp at hr; exact ⟨hr.1.1.1, hr.1.1.2⟩
theorem Types.valid.parentsOK {t : Types} (h : t.valid) (a : Nat) : parentsOK t.nodes a := fun j n _ hn => h.parent j n hn
def given2F (t : Types) (a b : Int) : Int := if (validF t).2 ≠ 0 then (validF t).2 else if (insideF t a && insideF t b) = true then 0 else 6
theorem ref04_given (t : Types) (ht : t.ok) (a b : Int) : Pure Tryz.prog 191 [t.d, dI a, dI b] (dI (given2F t a b)) := by
  have hfew := ht.fewN
  refine Tz.pK ⟨fun _ => false, fun _ => []⟩ Tryz.func191 rfl (fun Q hQ => ?_)
  try simp [go_sem, seval]
  refine callQ_pure0 (ref04_Valid t ht) ((by first | rfl | (simp [go_sem, ← List.map_take, ← List.map_drop]; done))) ?_
  try simp [go_sem, seval]
  refine condQ_mk (fun h2 => ?_) (fun h2 => ?_)
  · try simp [go_sem] at h2
    try simp [go_sem, seval]
    exact hQ _ _ (by simp [go_sem, h2, given2F] <;> first | omega | (rw [bei]; simp <;> omega) | (simp_all <;> omega))
  · try simp [go_sem] at h2
    try simp [go_sem, seval]
    repeat (first | intro _ | (refine ⟨obl, ?_⟩))
    refine callQ_pure0 (ref04_in _ _ _) ((by first | rfl | (simp [go_sem, ← List.map_take, ← List.map_drop]; done))) ?_
    try simp [go_sem, seval]
    repeat (first | intro _ | (refine ⟨obl, ?_⟩))
    refine gcallQ_pure0 (fun hg => ref04_in _ _ _) (fun hg => (by first | rfl | (simp [go_sem, ← List.map_take, ← List.map_drop]; done))) ?_
    try simp [go_sem, seval]
    repeat (first | intro _ | (refine ⟨obl, ?_⟩))
    refine condQ_mk (fun h4 => ?_) (fun h4 => ?_)
    ·skip
     simp only [inF_inside] at h4
     try simp [go_sem, seval]
     exact hQ _ _ (by first | (left; (revert h4; cases ha : insideF t a <;> cases hb : insideF t b <;> simp [go_sem, given2F, h2, ha, hb]); done) | (right; (revert h4; cases ha : insideF t a <;> cases hb : insideF t b <;> simp [go_sem, given2F, h2, ha, hb]); done))
    ·skip
     simp only [inF_inside] at h4
     try simp [go_sem, seval]
     exact hQ _ _ (by first | (left; (revert h4; cases ha : insideF t a <;> cases hb : insideF t b <;> simp [go_sem, given2F, h2, ha, hb]); done) | (right; (revert h4; cases ha : insideF t a <;> cases hb : insideF t b <;> simp [go_sem, given2F, h2, ha, hb]); done))
def givenF (t : Types) (l : List Int) : Int := if (validF t).2 ≠ 0 then (validF t).2 else if (l.any fun a => !insideF t a) = true then 6 else 0
theorem types_given1 (t : Types) (a : Int) : Pure Tryz.prog 241 [dI a, .adr t.c] (.bool (!insideF t a)) := by
  refine Tz.pK ⟨fun _ => false, fun _ => []⟩ Tryz.func241 rfl (fun Q hQ => ?_)
  try simp [go_sem, seval]
  repeat (first | intro _ | (refine ⟨obl, ?_⟩))
  exact hQ _ _ (by simp [go_sem, insideF] <;> first | omega | (rw [bei]; simp <;> omega) | (simp_all <;> omega))
theorem types_given (t : Types) (ht : t.ok) (l : List Int) : Pure Tryz.prog 173 [t.d, dLI l] (dI (givenF t l)) := by
  refine Tz.pK ⟨fun _ => false, fun _ => []⟩ Tryz.func173 rfl (fun Q hQ => ?_)
  try simp [go_sem, seval]
  refine callQ_pure0 (types_Valid t ht) ((by first | rfl | (simp [go_sem, ← List.map_take, ← List.map_drop]; done))) ?_
  try simp [go_sem, seval]
  refine condQ_mk (fun h2 => ?_) (fun h2 => ?_)
  · try simp [go_sem] at h2
    try simp [go_sem, seval]
    exact hQ _ _ (by simp [go_sem, h2, givenF] <;> first | omega | (rw [bei]; simp <;> omega) | (simp_all <;> omega))
  · try simp [go_sem] at h2
    try simp [go_sem, seval]
    refine callQ_pure0 (containsFunc_int l 241 [.adr t.c] (fun a => !insideF t a) (by simp [go_sem]) (by simp [go_sem]) (fun a _ => types_given1 t a)) ((by first | rfl | (simp [go_sem, ← List.map_take, ← List.map_drop]; done))) ?_
    try simp [go_sem, seval]
    refine condQ_mk (fun h4 => ?_) (fun h4 => ?_)
    ·try simp [go_sem] at h4
     try simp [go_sem, seval]
     exact hQ _ _ (by simp [go_sem, h2, h4, givenF] <;> first | omega | (rw [bei]; simp <;> omega) | (simp_all <;> omega))
    ·try simp [go_sem] at h4
     try simp [go_sem, seval]
     exact hQ _ _ (by simp [go_sem, h2, h4, givenF] <;> first | omega | (rw [bei]; simp <;> omega) | (simp_all <;> omega))
theorem given_two (t : Types) (a b : Int) : givenF t [a, b] = given2F t a b := by
  unfold givenF given2F; cases ha : insideF t a <;> cases hb : insideF t b <;> simp [ha, hb]
def lineF (nodes : List NodeTy) : Nat → Nat → List Int
  | 0, _ => []
  | f + 1, a => match nodes[a]? with
    | none => []
    | some n => (if 0 ≤ n.parent then lineF nodes f n.parent.toNat else []) ++ [(a : Int)]
def Types.line (t : Types) (a : Nat) : List Int := lineF t.nodes (a + 1) a
theorem lineF_fuel (nodes : List NodeTy) : ∀ a f g, parentsOK nodes a → a < f → a < g → lineF nodes f a = lineF nodes g a := by
  intro a
  induction a using Nat.strongRecOn with
  | _ a ih =>
    intro f g hp hf hg
    obtain ⟨f, rfl⟩ : ∃ f', f = f' + 1 := ⟨f - 1, by omega⟩
    obtain ⟨g, rfl⟩ : ∃ g', g = g' + 1 := ⟨g - 1, by omega⟩
    unfold lineF
    split
    ·rfl
    ·rename_i n hn
     have := hp a n (Nat.le_refl _) hn
     congr 1
     split
     ·exact ih n.parent.toNat (by omega) f g (fun j m hj hm => hp j m (by omega) hm) (by omega) (by omega)
     ·rfl
theorem line_rec (t : Types) (a : Nat) (ha : a < t.nodes.length) (hp : parentsOK t.nodes a) :
    t.line a = (if 0 ≤ t.nodes[a].parent then t.line t.nodes[a].parent.toNat else []) ++ [(a : Int)] := by
  have hpa := hp a _ (Nat.le_refl _) (lge ha)
  by_cases h' : 0 ≤ t.nodes[a].parent
  · have hlt : t.nodes[a].parent.toNat < a := by omega
    have := lineF_fuel t.nodes t.nodes[a].parent.toNat a (t.nodes[a].parent.toNat + 1) (fun j m hj hm => hp j m (by omega) hm) hlt (by omega)
    simp [Types.line, lineF, lge ha, h', this]
  · simp [Types.line, lineF, lge ha, h']
end Go.Abs
end
