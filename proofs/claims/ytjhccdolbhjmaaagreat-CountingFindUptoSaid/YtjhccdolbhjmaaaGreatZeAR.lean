/- Layer 41, the reference: Light. · The abstraction layer: nil read as the empty list, at every depth. · Layer 41: copies of stages; small functions of the laws. · Layer 41, the reference: the next weights. · What the best of the finder is. · The weights that the finder tries, in order. · The odometer runs through the weights that the finder tries. · The rest, as a list and under a mask. · One draw of the reference's stage against the finder's. · The standard stages, as plain functions. · ref41.lowered at borrowed weights. -/
import Derived.Test.YtjhccdolbhjmaaaGreatZeAA
import Derived.Test.YtjhccdolbhjmaaaGreatZeAQ
import Derived.Test.YtjhccdolbhjmaaaGreatZeAE
section
set_option linter.unusedVariables false
set_option linter.unusedSimpArgs false
set_option maxRecDepth 8000
open Go Go.Proofs
namespace Go.Abs
theorem fewR_ok {r : Rule} (h : fewR r = true) : r.ok := by
  simp only [fewR, Bool.and_eq_true, decide_eq_true_eq] at h
  obtain ⟨⟨⟨⟨⟨h1, h2⟩, h3⟩, h4⟩, h5⟩, h6⟩ := h
  simp [fewPart] at h4 h5
  simp [fewC] at h6
  have h7 := leftC_ok r.cond 40 (by omega) h6
  exact ⟨by omega, by omega, by omega, by omega, by omega, h7.1, by omega⟩
theorem fewRs_ok {rs : List Rule} (h : fewRs rs = true) : rs.length ≤ 8 ∧ ∀ r ∈ rs, r.ok := by
  simp [fewRs] at h
  exact ⟨by omega, fun r hr => fewR_ok (h.2 r hr)⟩
def stepM (n i : Nat) : List Bool := List.replicate i true ++ List.replicate (n - i) false
theorem stepM_len {n i : Nat} (h : i ≤ n) : (stepM n i).length = n := by simp [stepM]; omega
theorem stepM_set {n i : Nat} (h : i < n) : (stepM n i).set i true = stepM n (i + 1) := by
  unfold stepM
  rw [List.set_append_right _ _ (by simp)]
  simp only [List.length_replicate, Nat.sub_self]
  obtain ⟨m, hm⟩ : ∃ m, n - i = m + 1 := ⟨n - i - 1, by omega⟩
  rw [hm, show n - (i + 1) = m by omega, List.replicate_succ, List.set_cons_zero, List.replicate_succ' , List.append_assoc]; rfl
theorem stepM_end (n : Nat) : stepM n n = List.replicate n true := by simp [stepM]
theorem stepM_zero (n : Nat) : stepM n 0 = List.replicate n false := by simp [stepM]
def lightB (t : Types) (rs : List Rule) : Bool :=
  if (fewT t && fewRs rs) = false then false
  else if effsE t rs ≠ 0 then true
  else decide (((touchM (t.nodes.length + t.edges.length) (effsV t rs) (List.replicate rs.length true)).length : Int) ≤ 4)
theorem ref41_Light (t : Types) (h1 : ∀ n ∈ t.nodes, n.attrs.length ≤ 1000000000000000) (rs : List Rule) (hr0 : ∀ r ∈ rs, r.le) : Pure Tryz.prog 10 [t.d, .list (rs.map Rule.c)] (.bool (lightB t rs)) := by
  refine pureK (by first | rfl | (simp [go_sem]; done)) (fun Q hQ => (acalls_of_body (cfg := ⟨fun _ => false, fun _ => []⟩) Tz.mixed Tryz.func10 rfl rfl (Nat.le_of_ble_eq_true rfl) (by kernel_rfl) ?_))
  try simp [go_sem, seval]
  repeat (first | intro _ | (refine ⟨obl, ?_⟩))
  refine callQ_pure0 (ref04_Few t h1) ((by first | rfl | (simp [go_sem, ← List.map_take, ← List.map_drop]; done))) ?_
  try simp [go_sem, seval]
  repeat (first | intro _ | (refine ⟨obl, ?_⟩))
  refine gcallQ_pure0 (fun hg => ref39_Few rs hr0) (fun hg => (by first | rfl | (simp [go_sem, ← List.map_take, ← List.map_drop]; done))) ?_
  try simp [go_sem, seval]
  repeat (first | intro _ | (refine ⟨obl, ?_⟩))
  refine condQ_mk (fun h1 => ?_) (fun h1 => ?_)
  · try simp [go_sem] at h1
    have hF : (fewT t && fewRs rs) = false := by cases h : fewT t <;> cases h' : fewRs rs <;> simp [h, h'] at h1 <;> rfl
    try simp [go_sem, seval]
    exact hQ _ _ (by first | (left; (simp [go_sem, lightB, hF]); done) | (right; (simp [go_sem, lightB, hF]); done))
  · try simp [go_sem] at h1
    have hF : fewT t = true ∧ fewRs rs = true := by cases h : fewT t <;> cases h' : fewRs rs <;> simp [h, h'] at h1 <;> exact ⟨rfl, rfl⟩
    have ht := fewT_ok hF.1
    have hR := fewRs_ok hF.2
    have hr := hR.2
    try simp [go_sem, seval]
    refine callQ_pure0 (ref39_Effects t ht rs hr) ((by first | rfl | (simp [go_sem, ← List.map_take, ← List.map_drop]; done))) ?_
    try simp [go_sem, seval]
    refine condQ_mk (fun h4 => ?_) (fun h4 => ?_)
    · try simp [go_sem] at h4
      try simp [go_sem, seval]
      exact hQ _ _ (by first | (left; (simp [go_sem, lightB, hF.1, hF.2, h4]); done) | (right; (simp [go_sem, lightB, hF.1, hF.2, h4]); done))
    · try simp [go_sem] at h4
      have hX := FX_of h4
      have hV : effsV t rs = rs.map (effV t) := if_pos h4
      have hv := valid_of (effsE_of h4).1
      have hN := hv.fewN
      have hE := hv.fewE
      try simp [go_sem, seval]
      repeat (first | intro _ | (refine ⟨obl, ?_⟩))
      obtain ⟨I0, hI0⟩ : ∃ I0 : Nat → Env → AHeap → Prop, ∀ (i : Nat) (e : Env) (H : AHeap), I0 i e H ↔ ((e 2 = .adr t.c) ∧ (e 1 = .list (rs.map Rule.c)) ∧ (e 5 = .list ((effsV t rs).map cL)) ∧ (e 7 = .own 0 rs.length) ∧ (e 8 = dI i) ∧ (H.get 0 = some ⟨4, 1, (stepM rs.length i).map cB, false⟩) ∧ (0 < H.next) ∧ (i ≤ rs.length) ∧ ((stepM rs.length i).length = rs.length)) := ⟨fun i e H => _, fun _ _ _ => Iff.rfl⟩
      refine loopK I0 (fun i => rs.length - i) (0) ((hI0 _ _ _).2 ⟨?_, ?_, ?_, ?_, ?_, (by (simp [go_sem, stepM_zero])), ?_, (by first | assumption | omega | (simp [go_sem]; done) | (simp_all; done)), (by (exact stepM_len (Nat.zero_le _)))⟩) ?_
      iterate 6 (first | omega | (simp [go_sem, seval] <;> omega))
      intro i e H hi0
      obtain ⟨q2_0, q1_0, q5_0, q7_0, q8_0, g0_0, n0_0, hi, hsl⟩ := (hI0 _ _ _).1 hi0
      have x0 := frs n0_0
      have F0 := And.intro q2_0 (And.intro q1_0 (And.intro q5_0 (And.intro q7_0 (And.intro q8_0 x0))))
      try simp [go_sem, seval, F0, g0_0, hsl]
      repeat (first | intro _ | (refine ⟨obl, ?_⟩))
      refine condQ_mk (fun h8 => ?_) (fun h8 => ?_)
      · try simp [go_sem] at h8
        have hk : i < (stepM rs.length i).length := by rw [stepM_len (by omega)]; exact h8
        try simp [go_sem, seval, F0, g0_0, hsl, h8, List.getElem?_eq_getElem hk, h8]
        repeat (first | intro _ | (refine ⟨obl, ?_⟩))
        refine nextQ_mk (i + 1) (by omega) ((hI0 _ _ _).2 ⟨?_, ?_, ?_, ?_, ?_, (by (simp [go_sem, F0, g0_0, hsl, h8, List.getElem?_eq_getElem hk, h8, ← stepM_set h8, List.map_set])), ?_, (by first | assumption | omega | (simp [go_sem, F0, g0_0, hsl, h8, List.getElem?_eq_getElem hk, h8, h1, h4]; done) | (simp_all; done) | (simp_all; omega)), (by (exact stepM_len (by omega)))⟩) <;> first | omega | (simp [go_sem, seval, F0, g0_0, hsl, h8, List.getElem?_eq_getElem hk, h8] <;> omega)
      · try simp [go_sem] at h8
        have hie : i = rs.length := by omega
        subst hie
        rw [stepM_end] at g0_0
        have hcl : D.clLL (List.replicate rs.length [D.bool true]) = true := by have := bools_cl (List.replicate rs.length true); simpa [cB] using this
        try simp [go_sem, seval, F0, g0_0, hsl, hcl]
        repeat (first | intro _ | (refine ⟨obl, ?_⟩))
        refine callQ_pure0 (ref41_kinds t (by omega) (by omega)) ((by first | rfl | (simp [go_sem, ← List.map_take, ← List.map_drop, F0, g0_0, hsl, hcl]; done))) ?_
        try simp [go_sem, seval, F0, g0_0, hsl, hcl]
        repeat (first | intro _ | (refine ⟨obl, ?_⟩))
        refine callQ_pureZ (ref41_touched (t.nodes.length + t.edges.length) (by omega) (effsV t rs) (List.replicate rs.length true) (by rw [List.length_replicate, hV, List.length_map]) hX.xl) (by (simp [go_sem, F0, g0_0, hsl, hcl]) <;> rfl) ((by first | rfl | (simp [go_sem, ← List.map_take, ← List.map_drop, F0, g0_0, hsl, hcl]; done))) (by (simp [go_sem, F0, g0_0, hsl, hcl]) <;> rfl) ?_
        try simp [go_sem, seval, F0, g0_0, hsl, hcl]
        repeat (first | intro _ | (refine ⟨obl, ?_⟩))
        exact hQ _ _ (by first | (left; (simp [go_sem, lightB, hF.1, hF.2, h4]); done) | (right; (simp [go_sem, lightB, hF.1, hF.2, h4]); done))
end Go.Abs
end
section
set_option linter.unusedVariables false
namespace Go.Abs
mutual
def nzA : D → D
  | .nil => .list []
  | .agg cs => .agg (nzAs cs)
  | .tup cs => .tup (nzAs cs)
  | .list es => .list (nzAss es)
  | d => d
def nzAs : List D → List D
  | [] => []
  | d :: l => nzA d :: nzAs l
def nzAss : List (List D) → List (List D)
  | [] => []
  | c :: l => nzAs c :: nzAss l
end
theorem nzAs_map (l : List D) : nzAs l = l.map nzA := by
  induction l with
  | nil => rfl
  | cons a l ih => simp [nzAs, ih]
theorem nzAss_map (l : List (List D)) : nzAss l = l.map nzAs := by
  induction l with
  | nil => rfl
  | cons a l ih => simp [nzAss, ih]
theorem nzAss_flat (l : List (List D)) : (nzAss l).flatten = l.flatten.map nzA := by
  induction l with
  | nil => rfl
  | cons a l ih => simp only [nzAss, List.flatten_cons, ih, List.map_append, nzAs_map]
theorem nzA_rep {M : Nat → Prop} {σ : Nat → Option Ow} {N : Nat → Prop} {w : World} {v : Value} {d : D} (h : RepV M σ N w v d) : RepV M σ N w v (nzA d) := by
  have hm : ∀ {vs : List Value} {ds : List D}, (∀ (j : Nat) (u : Value) (d : D), vs[j]? = some u → ds[j]? = some d → RepV M σ N w u (nzA d)) →
      ∀ (j : Nat) (u : Value) (d : D), vs[j]? = some u → (ds.map nzA)[j]? = some d → RepV M σ N w u d := by
    intro vs ds ih j u d hu hd
    rw [List.getElem?_map, Option.map_eq_some_iff] at hd
    obtain ⟨y, hy, rfl⟩ := hd
    exact ih j u y hu hy
  induction h with
  | int => simp only [nzA]; exact .int _ _
  | bool => simp only [nzA]; exact .bool _
  | str => simp only [nzA]; exact .str _
  | agg vs ds hl h1 _ ih =>
    simp only [nzA, nzAs_map]
    exact .agg vs _ (by simp [hl]) h1 (hm ih)
  | tup vs ds hl _ ih =>
    simp only [nzA, nzAs_map]
    exact .tup vs _ (by simp [hl]) (hm ih)
  | nil => simp only [nzA]; exact .listN
  | listN => simp only [nzA, nzAss]; exact .listN
  | list ad cap sz xs es hc hm' hsz hl h1 hcell _ ih =>
    simp only [nzA]
    have hlen : (nzAss es).length = es.length := by rw [nzAss_map, List.length_map]
    have := RepV.list (M := M) (σ := σ) (N := N) (w := w) ad cap sz xs (nzAss es) (by rw [hlen]; exact hc) hm' (fun c hc' => by
      rw [nzAss_map, List.mem_map] at hc'
      obtain ⟨y, hy, rfl⟩ := hc'
      rw [nzAs_map, List.length_map]; exact hsz y hy) (by rw [nzAss_flat, List.length_map]; exact hl) h1 hcell (by rw [nzAss_flat]; exact hm ih)
    rwa [hlen] at this
  | adr ad xs ds hl h1 hcell hr ih => simp only [nzA]; exact .adr ad xs ds hl h1 hcell hr
  | ne ad cap hm => simp only [nzA]; exact .ne ad cap hm
  | nilp => simp only [nzA]; exact .nilp
  | ptr v id ver i off hN h1 h => simp only [nzA]; exact .ptr v id ver i off hN h1 h
  | own v id n hN h1 h => simp only [nzA]; exact .own v id n hN h1 h
  | fn f vs ds hl hr ih => simp only [nzA]; exact .fn f vs ds hl hr
  | nilf => simp only [nzA]; exact .nilf
  | opt v g d hf h ih => simp only [nzA]; exact .opt v g d hf h
  | junk v => simp only [nzA]; exact .junk v
theorem pureKA {P : Program} {f : FuncId} {args : List D} {r : D} (hcl : r.cl = true) (h : ∀ Q : D → AHeap → Prop, (∀ d H', nzA (rsvT H' d) = r → Q d H') → ACalls P f args .emp Q) : Pure P f args r := by
  have h := h (fun d H' => nzA (rsvT H' d) = r) fun _ _ h => h
  refine ⟨h.1, fun M w vals hM ha => (h.2 M noRef w vals (rel_emp M w hM) (by rw [mut_emp]; exact ha)).mono fun e w' ⟨v, d, H', σ', he, hR, hv, hst, hk, hr⟩ => ⟨v, he, ?_, stp_below hst⟩⟩
  have h1 : RepV (Mut M (frzs (ownT d) H') σ') σ' (frzs (ownT d) H').al w' v r := by
    have h0 := nzA_rep (rsvT_frozen hR hv (ownT d) fun i hi => hi)
    rw [hr] at h0; exact h0
  exact h1.closed (fun ad u hm hc => ⟨fun h => hm (.inl h), hc⟩) hcl
attribute [go_sem] nzA nzAs nzAss
end Go.Abs
end
section
set_option linter.unusedVariables false
set_option linter.unusedSimpArgs false
set_option maxRecDepth 8000
open Go Go.Proofs
namespace Go.Abs
theorem clone_stage0 : Own Tryz.prog 14 [.nil] 33 2 [] := by
  refine ownK (by first | rfl | (simp [go_sem]; done)) (fun Q hQ => (acalls_of_body (cfg := ⟨fun t => t == 2 || t == 5, fun _ => []⟩) Tz.mixed Tryz.func14 rfl rfl (Nat.le_of_ble_eq_true rfl) (by kernel_rfl) ?_))
  try simp [go_sem, seval]
  exact hQ _ _ _ (by simp [go_sem] <;> first | omega | (rw [Bool.eq_iff_iff]; simp <;> omega) | (simp_all <;> omega)) (by simp [go_sem] <;> first | omega | (rw [Bool.eq_iff_iff]; simp <;> omega) | (simp_all <;> omega))
theorem clone_stageE : Own Tryz.prog 14 [.ne] 33 2 [] := by
  refine ownK (by first | rfl | (simp [go_sem]; done)) (fun Q hQ => (acalls_of_body (cfg := ⟨fun t => t == 2 || t == 5, fun _ => []⟩) Tz.mixed Tryz.func14 rfl rfl (Nat.le_of_ble_eq_true rfl) (by kernel_rfl) ?_))
  try simp [go_sem, seval]
  repeat (first | intro _ | (refine ⟨obl, ?_⟩))
  exact hQ _ _ _ (by simp [go_sem] <;> first | omega | (rw [Bool.eq_iff_iff]; simp <;> omega) | (simp_all <;> omega)) (by simp [go_sem] <;> first | omega | (rw [Bool.eq_iff_iff]; simp <;> omega) | (simp_all <;> omega))
theorem clone_stageC (l : List Stage) (hl : l.length ≤ 1000000) (hne : l ≠ []) : Own Tryz.prog 14 [.list (l.map Stage.c)] 33 2 (l.map Stage.c) := by
  refine ownK (by first | rfl | (simp [go_sem]; done)) (fun Q hQ => (acalls_of_body (cfg := ⟨fun t => t == 2 || t == 5, fun _ => []⟩) Tz.mixed Tryz.func14 rfl rfl (Nat.le_of_ble_eq_true rfl) (by kernel_rfl) ?_))
  try simp [go_sem, seval, hne]
  repeat (first | intro _ | (refine ⟨obl, ?_⟩))
  exact hQ _ _ _ (by simp [go_sem, hne] <;> first | omega | (rw [Bool.eq_iff_iff]; simp <;> omega) | (simp_all <;> omega)) (by simp [go_sem, hne] <;> first | omega | (rw [Bool.eq_iff_iff]; simp <;> omega) | (simp_all <;> omega))
theorem clone_stage (l : List Stage) (hl : l.length ≤ 1000000) : Own Tryz.prog 14 [.list (l.map Stage.c)] 33 2 (l.map Stage.c) := by
  by_cases hne : l = []
  · subst hne; exact own_split clone_stage0 clone_stageE
  · exact clone_stageC l hl hne
def bigB (s : Stage) : Bool := decide (50 < (s.weights.length : Int)) || decide (50 < (s.removed.length : Int))
theorem law41_Check1 (s : Stage) : Pure Tryz.prog 12 [.agg s.c] (.bool (bigB s)) := by
  refine pureK (by first | rfl | (simp [go_sem]; done)) (fun Q hQ => (acalls_of_body (cfg := ⟨fun _ => false, fun _ => []⟩) Tz.mixed Tryz.func12 rfl rfl (Nat.le_of_ble_eq_true rfl) (by kernel_rfl) ?_))
  try simp [go_sem, seval]
  repeat (first | intro _ | (refine ⟨obl, ?_⟩))
  exact hQ _ _ (by simp [go_sem, bigB] <;> first | omega | (rw [Bool.eq_iff_iff]; simp <;> omega) | (simp_all <;> omega))
def twoT : Types := ⟨[⟨⟨#[65]⟩, -1, false, []⟩, ⟨⟨#[66]⟩, -1, false, []⟩], []⟩
theorem law41_two : Pure Tryz.prog 31 [] twoT.d := by
  refine pureKA (by simp [go_sem, twoT]) (fun Q hQ => (acalls_of_body (cfg := ⟨fun t => t == 0, fun _ => []⟩) Tz.mixed Tryz.func31 rfl rfl (Nat.le_of_ble_eq_true rfl) (by kernel_rfl) ?_))
  simp [go_sem, seval]
  exact hQ _ _ (by simp [go_sem, twoT])
def splitR : Rule := ⟨⟨#[115, 112, 108, 105, 116]⟩, ⟨⟨[0], []⟩, [], 0, []⟩, ⟨⟨[1, 1], []⟩, [], 0, []⟩, ⟨[], []⟩, ⟨[], []⟩, false, .mk 1 [] ⟨[], []⟩ ⟨⟨[], []⟩, [], 0, []⟩⟩
def dropR : Rule := ⟨⟨#[100, 114, 111, 112]⟩, ⟨⟨[1], []⟩, [], 0, []⟩, ⟨⟨[], []⟩, [], 0, []⟩, ⟨[], []⟩, ⟨[], []⟩, false, .mk 1 [] ⟨[], []⟩ ⟨⟨[], []⟩, [], 0, []⟩⟩
theorem law41_rules : Pure Tryz.prog 32 [] (.list ([splitR, dropR].map Rule.c)) := by
  refine pureKA (by simp [go_sem]) (fun Q hQ => (acalls_of_body (cfg := ⟨fun t => t == 1, fun _ => []⟩) Tz.mixed Tryz.func32 rfl rfl (Nat.le_of_ble_eq_true rfl) (by kernel_rfl) ?_))
  simp [go_sem, seval]
  exact hQ _ _ (by simp [go_sem, splitR, dropR, Cond.kind, Cond.kids, Cond.map, Cond.pattern])
end Go.Abs
end
section
set_option linter.unusedVariables false
set_option linter.unusedSimpArgs false
set_option maxRecDepth 8000
open Go Go.Proofs
namespace Go.Abs
def odoF (tch : List Int) : Nat → List Int → List Int × Bool
  | 0, w => (w, false)
  | j + 1, w => if w[(tch[j]?.getD 0).toNat]?.getD 0 < 6 then (w.set (tch[j]?.getD 0).toNat (w[(tch[j]?.getD 0).toNat]?.getD 0 + 1), true) else odoF tch j (w.set (tch[j]?.getD 0).toNat 0)
theorem counting_stages1 (l : List Int) (k : Nat) (hk : k < l.length) : Pure Tryz.prog 90 [dLI l, .adr [dI k]] (.bool (decide (l[k]?.getD 0 ≠ 0))) := by
  refine pureK (by first | rfl | (simp [go_sem]; done)) (fun Q hQ => (acalls_of_body (cfg := ⟨fun _ => false, fun _ => []⟩) Tz.mixed Tryz.func90 rfl rfl (Nat.le_of_ble_eq_true rfl) (by kernel_rfl) ?_))
  try simp [go_sem, seval, List.getElem?_eq_getElem hk, hk]
  repeat (first | intro _ | (refine ⟨obl, ?_⟩))
  exact hQ _ _ (by simp [go_sem, List.getElem?_eq_getElem hk, hk] <;> first | omega | (rw [Bool.eq_iff_iff]; simp <;> omega) | (simp_all <;> omega))
theorem counting_Check1 (a : Int) : Pure Tryz.prog 40 [dI a] (.bool (oddB a)) := by
  refine pureK (by first | rfl | (simp [go_sem]; done)) (fun Q hQ => (acalls_of_body (cfg := ⟨fun _ => false, fun _ => []⟩) Tz.mixed Tryz.func40 rfl rfl (Nat.le_of_ble_eq_true rfl) (by kernel_rfl) ?_))
  try simp [go_sem, seval]
  repeat (first | intro _ | (refine ⟨obl, ?_⟩))
  exact hQ _ _ (by simp [go_sem, oddB] <;> first | omega | (rw [Bool.eq_iff_iff]; simp <;> omega) | (simp_all <;> omega))
theorem ref41_next (tch : List Int) (nn : Nat) (htb : ∀ v ∈ tch, 0 ≤ v ∧ v < nn) (hfew : tch.length ≤ 1000) (q : Nat) (w : List Int) (hw : w.length = nn) (hd : ∀ x ∈ w, 0 ≤ x ∧ x ≤ 6) (G : AHeap) (hg : G.get q = some ⟨3, 1, w.map cI, false⟩) (Q : D → AHeap → Prop)
    (hQ : ∀ H', H'.get q = some ⟨3, 1, (odoF tch tch.length w).1.map cI, false⟩ → (odoF tch tch.length w).1.length = nn → (∀ x ∈ (odoF tch tch.length w).1, 0 ≤ x ∧ x ≤ 6) → (∀ j, j ≠ q → H'.get j = G.get j) → G.next ≤ H'.next → Q (.bool (odoF tch tch.length w).2) H') : ACalls Tryz.prog 150 [.own q nn, dLI tch] G Q := by
  refine (acalls_of_body (cfg := ⟨fun _ => false, fun _ => []⟩) Tz.mixed Tryz.func150 rfl rfl (Nat.le_of_ble_eq_true rfl) (by kernel_rfl) ?_)
  try simp [go_sem, seval, hg, hw]
  repeat (first | intro _ | (refine ⟨obl, ?_⟩))
  obtain ⟨I0, hI0⟩ : ∃ I0 : Nat → Env → AHeap → Prop, ∀ (k : Nat) (e : Env) (H : AHeap), I0 k e H ↔ (∃ w1 : List Int, (e 0 = .own q nn) ∧ (e 1 = dLI tch) ∧ (e 5 = dI ((k : Int) - 1)) ∧ (k ≤ tch.length) ∧ (H.get q = some ⟨3, 1, w1.map cI, false⟩) ∧ (w1.length = nn) ∧ (∀ x ∈ w1, 0 ≤ x ∧ x ≤ 6) ∧ (odoF tch k w1 = odoF tch tch.length w) ∧ (∀ j, j ≠ q → H.get j = G.get j) ∧ (G.next ≤ H.next)) := ⟨fun k e H => _, fun _ _ _ => Iff.rfl⟩
  refine loopK I0 (fun k => k) (tch.length) ((hI0 _ _ _).2 ⟨(w), ?_, ?_, ?_, (by omega), (by exact hg), (by exact hw), (by exact hd), (by rfl), (by exact fun _ _ => rfl), (by exact Nat.le_refl _)⟩) ?_
  iterate 3 (first | omega | (simp [go_sem, seval, hg, hw] <;> omega))
  intro k e H hi0
  obtain ⟨w1, q0_0, q1_0, q5_0, hk, hH, hl1, hd1, hN, hfr, hnx⟩ := (hI0 _ _ _).1 hi0
  have F0 := And.intro q0_0 (And.intro q1_0 q5_0)
  try simp [go_sem, seval, hg, hw, F0, hH, hl1]
  refine condQ_mk (fun h2 => ?_) (fun h2 => ?_)
  · try simp [go_sem] at h2
    have hk0 : 0 < k := by omega
    have hkl : k - 1 < tch.length := by omega
    have htn : ((k : Int) - 1).toNat = k - 1 := by omega
    have htv := htb _ (List.getElem_mem hkl)
    have hv : tch[k - 1].toNat < w1.length := by omega
    have hdv := hd1 _ (List.getElem_mem hv)
    have hstep : odoF tch k w1 = if w1[tch[k - 1].toNat] < 6 then (w1.set tch[k - 1].toNat (w1[tch[k - 1].toNat] + 1), true) else odoF tch (k - 1) (w1.set tch[k - 1].toNat 0) := by
      obtain ⟨m, rfl⟩ : ∃ m, k = m + 1 := ⟨k - 1, by omega⟩
      simp only [Nat.add_sub_cancel] at hkl hv ⊢
      simp only [odoF, List.getElem?_eq_getElem hkl, Option.getD_some, List.getElem?_eq_getElem hv]
    try simp [go_sem, seval, hg, hw, F0, hH, hl1, h2, htn, hkl, List.getElem?_eq_getElem hkl, List.getElem?_eq_getElem hv]
    repeat (first | intro _ | (refine ⟨obl, ?_⟩))
    refine condQ_mk (fun h4 => ?_) (fun h4 => ?_)
    · try simp [go_sem] at h4
      rw [if_pos (by omega)] at hstep
      have hE : odoF tch tch.length w = (w1.set tch[k - 1].toNat (w1[tch[k - 1].toNat] + 1), true) := hN.symm.trans hstep
      have hE2 : (odoF tch tch.length w).2 = true := by rw [hE]
      try simp [go_sem, seval, hg, hw, F0, hH, hl1, h2, htn, hkl, List.getElem?_eq_getElem hkl, List.getElem?_eq_getElem hv]
      repeat (first | intro _ | (refine ⟨obl, ?_⟩))
      rw [← hE2]; exact hQ _ (by rw [hE]; simp [go_sem, hH, hl1, List.map_set]) (by rw [hE]; simp [hl1]) (by rw [hE]; exact mem_set_dig hd1 _ (by omega)) (by intro j hj'; simp [go_sem, hj', hfr j hj']) (by simp [go_sem]; omega)
    · try simp [go_sem] at h4
      try simp [go_sem, seval, hg, hw, F0, hH, hl1, h2, htn, hkl, List.getElem?_eq_getElem hkl, List.getElem?_eq_getElem hv]
      repeat (first | intro _ | (refine ⟨obl, ?_⟩))
      refine nextQ_mk (k - 1) (by omega) ((hI0 _ _ _).2 ⟨(w1.set tch[k - 1].toNat 0), ?_, ?_, ?_, (by omega), (by (simp [go_sem, hH, hl1, List.map_set, List.getElem?_eq_getElem hv])), (by (simp [hl1])), (by (exact mem_set_dig hd1 _ (by omega))), (by (rw [← hN, hstep, if_neg (by omega)])), (by (intro j hj'; simp [go_sem, hj', hfr j hj'])), (by (simp [go_sem]; omega))⟩) <;> first | omega | (simp [go_sem, seval, hg, hw, F0, hH, hl1, h2, htn, hkl, List.getElem?_eq_getElem hkl, List.getElem?_eq_getElem hv] <;> omega)
  · try simp [go_sem] at h2
    have hk0 : k = 0 := by omega
    subst hk0
    have hE : odoF tch tch.length w = (w1, false) := by rw [← hN]; rfl
    have hE2 : (odoF tch tch.length w).2 = false := by rw [hE]
    try simp [go_sem, seval, hg, hw, F0, hH, hl1]
    rw [← hE2]; exact hQ _ (by rw [hE]; exact hH) (by rw [hE]; exact hl1) (by rw [hE]; exact hd1) hfr hnx
end Go.Abs
end
section
set_option linter.unusedVariables false
set_option linter.unusedSimpArgs false
open Go Go.Proofs
namespace Go.Abs
structure BestIn (xs : List (List Int)) (nn : Nat) (B : Bst) : Prop where
  pos : posB xs B.w = false
  cnt : B.d = cntN xs B.w
  len : B.w.length = nn
  dig : ∀ x ∈ B.w, 0 ≤ x ∧ x ≤ 6
def BestOk (xs : List (List Int)) (nn : Nat) (B : Bst) : Prop := (B.w = [] ∧ B.d = 0) ∨ BestIn xs nn B
theorem leafBst_ok {xs : List (List Int)} {nn : Nat} {w : List Int} {s : Int} {B : Bst} (hw : w.length = nn) (hd : ∀ x ∈ w, 0 ≤ x ∧ x ≤ 6) (h : BestOk xs nn B) : BestOk xs nn (leafBst xs w s B) := by
  unfold leafBst
  split
  · exact h
  · rename_i hp
    split
    · exact .inr ⟨by simpa using hp, rfl, hw, hd⟩
    · exact h
theorem foldl_inv {α β : Type} {p : β → Prop} {f : β → α → β} {q : α → Prop} (hf : ∀ b a, p b → q a → p (f b a)) : ∀ (l : List α) (b : β), (∀ a ∈ l, q a) → p b → p (l.foldl f b)
  | [], b, _, h => h
  | a :: l, b, hq, h => foldl_inv hf l _ (fun x hx => hq x (by simp [hx])) (hf b a h (hq a (by simp)))
theorem tryB_ok {xs : List (List Int)} {nn : Nat} : ∀ (ts : List Int) (w : List Int) (s : Int) (B : Bst), w.length = nn → (∀ x ∈ w, 0 ≤ x ∧ x ≤ 6) → BestOk xs nn B → BestOk xs nn (tryB xs ts w s B)
  | [], w, s, B, hw, hd, h => by unfold tryB; exact leafBst_ok hw hd h
  | p :: ts, w, s, B, hw, hd, h => by
    unfold tryB
    refine foldl_inv (q := fun (v : Nat) => v < 7) (fun b v hb hv => ?_) _ _ (fun a ha => List.mem_range.1 ha) h
    exact tryB_ok ts _ _ _ (by rw [List.length_set]; exact hw) (mem_set_dig hd _ (by omega)) hb
end Go.Abs
end
section
set_option linter.unusedVariables false
set_option linter.unusedSimpArgs false
open Go Go.Proofs
namespace Go.Abs
def enumL : List Int → List Int → List (List Int)
  | [], w => [w]
  | p :: ts, w => (List.range 7).flatMap fun (v : Nat) => enumL ts (w.set p.toNat v)
theorem sum_set : ∀ {w : List Int} {p : Nat} (v : Int), p < w.length → w[p]?.getD 0 = 0 → (w.set p v).sum = w.sum + v
  | [], p, v, hp, _ => by simp at hp
  | a :: w, 0, v, _, h => by simp at h; subst h; simp; omega
  | a :: w, p + 1, v, hp, h => by
    simp only [List.set_cons_succ, List.sum_cons]
    rw [sum_set v (by simpa using hp) (by simpa using h)]
    omega
theorem foldl_congr_mem {α β : Type} {f g : β → α → β} : ∀ (l : List α) (b : β), (∀ b, ∀ a ∈ l, f b a = g b a) → l.foldl f b = l.foldl g b
  | [], b, _ => rfl
  | a :: l, b, h => by
    simp only [List.foldl_cons]
    rw [h b a (by simp)]
    exact foldl_congr_mem l _ fun b x hx => h b x (by simp [hx])
theorem tryB_enum {xs : List (List Int)} : ∀ (ts : List Int) (w : List Int) (B : Bst), (∀ p ∈ ts, 0 ≤ p ∧ p < w.length) → ts.Nodup → (∀ p ∈ ts, w[p.toNat]?.getD 0 = 0) →
    tryB xs ts w w.sum B = (enumL ts w).foldl (fun B u => leafBst xs u u.sum B) B
  | [], w, B, _, _, _ => by simp [tryB, enumL]
  | p :: ts, w, B, hp, hnd, hz => by
    unfold tryB enumL
    rw [List.foldl_flatMap]
    have h0 := hp p (by simp)
    have hn := List.nodup_cons.1 hnd
    refine foldl_congr_mem _ _ fun b v _ => ?_
    rw [← sum_set (v : Int) (by omega) (hz p (by simp))]
    refine tryB_enum ts _ b (fun q hq => by rw [List.length_set]; exact hp q (by simp [hq])) hn.2 fun q hq => ?_
    have hq0 := hp q (by simp [hq])
    have hne : p.toNat ≠ q.toNat := by
      intro h
      have : p = q := by omega
      exact hn.1 (this ▸ hq)
    rw [List.getElem?_set_ne hne]
    exact hz q (by simp [hq])
end Go.Abs
end
section
set_option linter.unusedVariables false
set_option linter.unusedSimpArgs false
open Go Go.Proofs
namespace Go.Abs
def chainR {α : Type} (R : α → α → Prop) : List α → Prop
  | [] => True
  | [_] => True
  | x :: y :: l => R x y ∧ chainR R (y :: l)
theorem chainR_append {α : Type} {R : α → α → Prop} : ∀ {l : List α} {z y : α} {m : List α}, l.getLast? = some z → chainR R l → chainR R (y :: m) → R z y → chainR R (l ++ y :: m)
  | [], z, y, m, h, _, _, _ => by simp at h
  | [x], z, y, m, h, _, h2, h3 => by simp at h; subst h; exact ⟨h3, h2⟩
  | x :: x' :: l, z, y, m, h, h1, h2, h3 => ⟨h1.1, chainR_append (l := x' :: l) (by simpa [List.getLast?_cons_cons] using h) h1.2 h2 h3⟩
def odoR (tch : List Int) (u v : List Int) : Prop := odoF tch tch.length u = (v, true)
theorem odo_enum (tch : List Int) (hnd : tch.Nodup) (nn : Nat) (htb : ∀ v ∈ tch, 0 ≤ v ∧ v < nn) : ∀ (k a : Nat), a + k = tch.length → ∀ w : List Int, w.length = nn → (∀ j (h : j < tch.length), a ≤ j → w[tch[j].toNat]?.getD 0 = 0) →
    ∃ l z, enumL (tch.drop a) w = w :: l ∧ chainR (odoR tch) (w :: l) ∧ (w :: l).getLast? = some z ∧ odoF tch tch.length z = odoF tch a w
  | 0, a, hk, w, hw, hz => by
    refine ⟨[], w, ?_, trivial, rfl, by rw [show a = tch.length by omega]⟩
    rw [List.drop_eq_nil_of_le (by omega)]; rfl
  | k + 1, a, hk, w, hw, hz => by
    have ha : a < tch.length := by omega
    have hp := htb _ (List.getElem_mem ha)
    have hpl : tch[a].toNat < w.length := by omega
    have hset0 : w.set tch[a].toNat 0 = w := set_self (hz a ha (Nat.le_refl _))
    have ih : ∀ v : Int, _ := fun v => odo_enum tch hnd nn htb k (a + 1) (by omega) (w.set tch[a].toNat v) (by rw [List.length_set]; exact hw) (set_zero hnd ha (fun x hx => (htb x hx).1) hz v)
    have hend : ∀ v : Int, 0 ≤ v → odoF tch (a + 1) (w.set tch[a].toNat v) = if v < 6 then (w.set tch[a].toNat (v + 1), true) else odoF tch a w := by
      intro v hv
      simp only [odoF, List.getElem?_eq_getElem ha, Option.getD_some, List.getElem?_set_self hpl, List.set_set, hset0]
    have main : ∀ n : Nat, n ≤ 6 → ∃ l z, (List.range (n + 1)).flatMap (fun (v : Nat) => enumL (tch.drop (a + 1)) (w.set tch[a].toNat v)) = w :: l ∧ chainR (odoR tch) (w :: l) ∧ (w :: l).getLast? = some z ∧ odoF tch tch.length z = odoF tch (a + 1) (w.set tch[a].toNat n) := by
      intro n
      induction n with
      | zero =>
        intro _
        obtain ⟨l, z, h1, h2, h3, h4⟩ := ih 0
        rw [hset0] at h1 h2 h3
        exact ⟨l, z, by simp [hset0, h1], h2, h3, by simpa [hset0] using h4⟩
      | succ n ihn =>
        intro hn
        obtain ⟨l, z, h1, h2, h3, h4⟩ := ihn (by omega)
        obtain ⟨l', z', g1, g2, g3, g4⟩ := ih ((n + 1 : Nat) : Int)
        refine ⟨l ++ w.set tch[a].toNat ((n + 1 : Nat) : Int) :: l', z', ?_, ?_, ?_, g4⟩
        · rw [List.range_succ, List.flatMap_append, h1]; simp only [List.flatMap_cons, List.flatMap_nil, List.append_nil]; rw [g1]; rfl
        · rw [← List.cons_append]
          refine chainR_append h3 h2 g2 ?_
          unfold odoR
          rw [h4, hend _ (by omega), if_pos (by omega)]; rfl
        · rw [← List.cons_append, List.getLast?_append, g3]; rfl
    obtain ⟨l, z, h1, h2, h3, h4⟩ := main 6 (by omega)
    refine ⟨l, z, ?_, h2, h3, ?_⟩
    · rw [List.drop_eq_getElem_cons ha]; exact h1
    · rw [h4, hend _ (by omega), if_neg (by omega)]
end Go.Abs
end
section
set_option linter.unusedVariables false
set_option linter.unusedSimpArgs false
open Go Go.Proofs
namespace Go.Abs
theorem posB_rest (ls : List (List Int)) (mask : List Bool) (w : List Int) : posB (restX ls mask) w = !okM ls mask w := by
  unfold posB restX okM
  rw [List.any_map, List.any_filter, Bool.not_not]
  rfl
theorem cntN_rest (ls : List (List Int)) (mask : List Bool) (w : List Int) : cntN (restX ls mask) w = ((lowL ls mask w).length : Int) := by
  unfold cntN restX lowL
  rw [List.length_map]
  generalize List.range ls.length = l
  induction l with
  | nil => rfl
  | cons i l ih =>
    by_cases hm : mask[i]?.getD false = true
    · by_cases hp : prodF w (ls[i]?.getD []) < 0
      · have hl : lowM ls mask w i = true := by simp [lowM, hm, hp]
        rw [List.filter_cons_of_pos (p := fun i => mask[i]?.getD false) hm, List.filter_cons_of_pos hl]
        simp only [List.map_cons, List.sum_cons, List.length_cons]
        rw [ih, if_pos hp]; omega
      · have hl : ¬ lowM ls mask w i = true := by simp [lowM, hm, hp]
        rw [List.filter_cons_of_pos (p := fun i => mask[i]?.getD false) hm, List.filter_cons_of_neg hl]
        simp only [List.map_cons, List.sum_cons]
        rw [ih, if_neg hp]; omega
    · have hl : ¬ lowM ls mask w i = true := by simp [lowM, hm]
      rw [List.filter_cons_of_neg (p := fun i => mask[i]?.getD false) hm, List.filter_cons_of_neg hl, ih]
end Go.Abs
end
section
set_option linter.unusedVariables false
set_option linter.unusedSimpArgs false
open Go Go.Proofs
namespace Go.Abs
def betterS (ls : List (List Int)) (mask : List Bool) (w : List Int) (S : Stage) : Bool :=
  okM ls mask w && (decide ((S.removed.length : Int) < (lowL ls mask w).length) || (decide (0 < ((lowL ls mask w).length : Int)) && decide (((lowL ls mask w).length : Int) = S.removed.length) && decide (w.sum < S.weights.sum)))
def leafS (ls : List (List Int)) (mask : List Bool) (S : Stage) (w : List Int) : Stage := if betterS ls mask w S = true then ⟨w, lowL ls mask w⟩ else S
def SB (ls : List (List Int)) (mask : List Bool) (S : Stage) (B : Bst) : Prop :=
  (S = ⟨[], []⟩ ∧ B.d = 0) ∨ (B.w ≠ [] ∧ S = ⟨B.w, lowL ls mask B.w⟩ ∧ B.d = (lowL ls mask B.w).length ∧ 0 < B.d ∧ B.s = B.w.sum)
theorem leaf_SB {ls : List (List Int)} {mask : List Bool} {S : Stage} {B : Bst} {w : List Int} (hw : w ≠ []) (h : SB ls mask S B) : SB ls mask (leafS ls mask S w) (leafBst (restX ls mask) w w.sum B) := by
  unfold leafS leafBst betterS
  rw [posB_rest, cntN_rest]
  generalize hL : lowL ls mask w = L
  cases hok : okM ls mask w with
  | false => simpa using h
  | true =>
    simp only [Bool.not_true, Bool.false_eq_true, if_false, Bool.true_and]
    rcases h with ⟨h1, h2⟩ | ⟨h0, h1, h2, h3, h4⟩
    · subst h1
      by_cases hz : 0 < (L.length : Int)
      · rw [if_pos (by simp only [Bool.or_eq_true, Bool.and_eq_true, decide_eq_true_eq, List.length_nil]; omega), if_pos (by simp only [Bool.or_eq_true, Bool.and_eq_true, decide_eq_true_eq]; exact .inl (.inr (by omega)))]
        exact .inr ⟨hw, by simp [hL], by simp [hL], hz, rfl⟩
      · rw [if_neg (by simp only [Bool.or_eq_true, Bool.and_eq_true, decide_eq_true_eq, List.length_nil]; omega)]
        split
        · exact .inl ⟨rfl, by show (L.length : Int) = 0; omega⟩
        · exact .inl ⟨rfl, h2⟩
    · subst h1
      by_cases hc : B.d < (L.length : Int) ∨ ((L.length : Int) = B.d ∧ w.sum < B.s)
      · rw [if_pos (by simp only [Bool.or_eq_true, Bool.and_eq_true, decide_eq_true_eq]; rw [← h2, ← h4]; omega), if_pos (by simp only [Bool.or_eq_true, Bool.and_eq_true, decide_eq_true_eq]; omega)]
        exact .inr ⟨hw, by simp [hL], by simp [hL], by simp; omega, rfl⟩
      · rw [if_neg (by simp only [Bool.or_eq_true, Bool.and_eq_true, decide_eq_true_eq]; rw [← h2, ← h4]; omega), if_neg (by simp only [Bool.or_eq_true, Bool.and_eq_true, decide_eq_true_eq]; rintro ((h | h) | h); exact h0 h; omega; omega)]
        exact .inr ⟨h0, rfl, h2, h3, h4⟩
end Go.Abs
end
section
set_option linter.unusedVariables false
set_option linter.unusedSimpArgs false
open Go Go.Proofs
namespace Go.Abs
def bestS (ls : List (List Int)) (n : Nat) (m : List Bool) : Stage := (enumL (touchM n ls m) (List.replicate n 0)).foldl (leafS ls m) ⟨[], []⟩
def offM : List Bool → List Int → List Bool
  | m, [] => m
  | m, r :: l => offM (m.set r.toNat false) l
def cntM (m : List Bool) : Nat := m.count true
def stagesF (ls : List (List Int)) (n : Nat) : Nat → List Bool → List Stage × List Bool
  | 0, m => ([], m)
  | k + 1, m => if cntM m = 0 then ([], m) else if (bestS ls n m).removed = [] then ([], m) else
    (bestS ls n m :: (stagesF ls n k (offM m (bestS ls n m).removed)).1, (stagesF ls n k (offM m (bestS ls n m).removed)).2)
theorem offM_len : ∀ (l : List Int) (m : List Bool), (offM m l).length = m.length
  | [], m => rfl
  | r :: l, m => by unfold offM; rw [offM_len l]; simp
theorem offM_get : ∀ (l : List Int) (m : List Bool) (i : Nat), (offM m l)[i]?.getD false = (m[i]?.getD false && !(l.any fun r => decide (r.toNat = i)))
  | [], m, i => by simp [offM]
  | r :: l, m, i => by
    unfold offM
    rw [offM_get l, List.any_cons]
    have h : (m.set r.toNat false)[i]?.getD false = (m[i]?.getD false && !decide (r.toNat = i)) := by
      rw [List.getElem?_set]
      by_cases h : r.toNat = i
      · simp only [h, if_true, decide_true, Bool.not_true, Bool.and_false]
        split <;> rfl
      · simp [h]
    rw [h]
    cases m[i]?.getD false <;> cases decide (r.toNat = i) <;> simp
theorem offM_append (m : List Bool) : ∀ (l : List Int) (r : Int), offM m (l ++ [r]) = (offM m l).set r.toNat false := by
  intro l
  induction l generalizing m with
  | nil => intro r; rfl
  | cons a l ih => intro r; simp only [List.cons_append, offM]; exact ih _ r
theorem cntM_set : ∀ {m : List Bool} {i : Nat}, m[i]? = some true → cntM (m.set i false) + 1 = cntM m
  | [], i, h => by simp at h
  | b :: m, 0, h => by simp at h; subst h; simp [cntM]
  | b :: m, i + 1, h => by
    have ih := cntM_set (m := m) (i := i) (by simpa using h)
    unfold cntM at ih ⊢
    simp only [List.set_cons_succ, List.count_cons]
    omega
theorem onM_set {m : List Bool} {i j : Nat} (h : m[j]? = some true) (hne : i ≠ j) : (m.set i false)[j]? = some true := by rw [List.getElem?_set_ne hne]; exact h
theorem cntM_off : ∀ (l : List Int) (m : List Bool), l.Nodup → (∀ r ∈ l, 0 ≤ r ∧ m[r.toNat]? = some true) → cntM (offM m l) + l.length = cntM m
  | [], m, _, _ => by simp [offM]
  | r :: l, m, hn, h => by
    have h0 := h r (by simp)
    have hn' := List.nodup_cons.1 hn
    unfold offM
    have hq' : ∀ q ∈ l, 0 ≤ q ∧ (m.set r.toNat false)[q.toNat]? = some true := fun q hq => by
      have hq0 := h q (by simp [hq])
      refine ⟨hq0.1, onM_set hq0.2 fun he => hn'.1 ?_⟩
      have : r = q := by omega
      rw [this]; exact hq
    have ih := cntM_off l (m.set r.toNat false) hn'.2 hq'
    have := cntM_set h0.2
    simp only [List.length_cons]
    omega
theorem rangeMap (m : List Bool) : (List.range m.length).map (fun i => m[i]?.getD false) = m := by
  apply List.ext_getElem
  · simp
  · intro i h1 h2; simp at h1; simp [h1]
theorem restI_len (m : List Bool) : (restI m).length = cntM m := by
  have h : cntM m = ((List.range m.length).map (fun i => m[i]?.getD false)).count true := by rw [rangeMap]; rfl
  rw [h, List.count_eq_countP, List.countP_map, List.countP_eq_length_filter]
  unfold restI
  congr 1
  apply List.filter_congr
  intro x _
  simp
theorem restX_restI {ls : List (List Int)} {m : List Bool} (h : m.length = ls.length) : restX ls m = (restI m).map fun i => ls[i]?.getD [] := by
  unfold restX restI; rw [h]
theorem restI_mem {m : List Bool} {i : Nat} : i ∈ restI m ↔ m[i]? = some true := by
  unfold restI
  rw [List.mem_filter, List.mem_range]
  constructor
  · rintro ⟨h1, h2⟩
    rw [List.getElem?_eq_getElem h1] at h2 ⊢
    simpa using h2
  · intro h
    obtain ⟨h1, h2⟩ := List.getElem?_eq_some_iff.1 h
    exact ⟨h1, by rw [h]; rfl⟩
theorem restI_off {ls : List (List Int)} {m : List Bool} (hm : m.length = ls.length) (w : List Int) : restI (offM m (lowL ls m w)) = (restI m).filter fun i => !decide (prodF w (ls[i]?.getD []) < 0) := by
  unfold restI
  rw [offM_len, List.filter_filter]
  apply List.filter_congr
  intro i hi
  rw [offM_get]
  rw [List.mem_range] at hi
  have hany : ((lowL ls m w).any fun r => decide (r.toNat = i)) = lowM ls m w i := by
    rw [Bool.eq_iff_iff, List.any_eq_true]
    unfold lowL
    constructor
    · rintro ⟨r, hr, he⟩
      rw [List.mem_map] at hr
      obtain ⟨j, hj, rfl⟩ := hr
      simp at he
      subst he
      exact (List.mem_filter.1 hj).2
    · intro h
      exact ⟨(i : Int), List.mem_map.2 ⟨i, List.mem_filter.2 ⟨List.mem_range.2 (by omega), h⟩, rfl⟩, by simp⟩
  rw [hany]
  unfold lowM
  cases m[i]?.getD false <;> simp
theorem lowL_restI {ls : List (List Int)} {m : List Bool} (hm : m.length = ls.length) (w : List Int) : lowL ls m w = ((restI m).filter fun i => decide (prodF w (ls[i]?.getD []) < 0)).map fun (i : Nat) => (i : Int) := by
  unfold lowL restI
  rw [List.filter_filter, hm]
  congr 1
  apply List.filter_congr
  intro i _
  unfold lowM
  cases m[i]?.getD false <;> simp
theorem lowL_on {ls : List (List Int)} {m : List Bool} (hm : m.length = ls.length) (w : List Int) : (lowL ls m w).Nodup ∧ ∀ r ∈ lowL ls m w, 0 ≤ r ∧ m[r.toNat]? = some true := by
  constructor
  · unfold lowL
    refine List.Pairwise.map _ (R := fun a b => a ≠ b) (fun a b h he => h (by omega)) ?_
    exact List.Pairwise.filter _ List.nodup_range
  · intro r hr
    rw [lowL_restI hm, List.mem_map] at hr
    obtain ⟨i, hi, rfl⟩ := hr
    refine ⟨by omega, ?_⟩
    simpa using restI_mem.1 (List.mem_filter.1 hi).1
theorem touchM_in {n : Nat} {ls : List (List Int)} {m : List Bool} : (touchM n ls m).Nodup ∧ ∀ v ∈ touchM n ls m, 0 ≤ v ∧ v < n := by
  constructor
  · unfold touchM
    refine List.Pairwise.map _ (R := fun a b => a ≠ b) (fun a b h he => h (by omega)) ?_
    exact List.Pairwise.filter _ List.nodup_range
  · intro v hv
    unfold touchM at hv
    rw [List.mem_map] at hv
    obtain ⟨i, hi, rfl⟩ := hv
    have := List.mem_range.1 (List.mem_filter.1 hi).1
    omega
theorem touchM_rest {n : Nat} {ls : List (List Int)} {m : List Bool} : touchM n ls m = touchL n (restX ls m) := by
  unfold touchM touchL
  congr 1
  apply List.filter_congr
  intro k _
  unfold restX
  rw [List.any_map, List.any_filter]
  rfl
theorem touchM_few {n : Nat} {ls : List (List Int)} {m : List Bool} : (touchM n ls m).length ≤ (touchL n ls).length := by
  unfold touchM touchL
  rw [List.length_map, List.length_map, ← List.countP_eq_length_filter, ← List.countP_eq_length_filter]
  apply List.countP_mono_left
  intro k _ h
  obtain ⟨i, hi, h1⟩ := List.any_eq_true.1 h
  have hi := List.mem_range.1 hi
  unfold hitB at h1
  rw [Bool.and_eq_true, List.getElem?_eq_getElem hi] at h1
  exact List.any_eq_true.2 ⟨ls[i], List.getElem_mem hi, by simpa using h1.2⟩
theorem enumL_dig : ∀ (ts : List Int) (w : List Int), (∀ x ∈ w, 0 ≤ x ∧ x ≤ 6) → ∀ u ∈ enumL ts w, u.length = w.length ∧ ∀ x ∈ u, 0 ≤ x ∧ x ≤ 6
  | [], w, h, u, hu => by
    have : u = w := by simpa [enumL] using hu
    subst this; exact ⟨rfl, h⟩
  | p :: ts, w, h, u, hu => by
    unfold enumL at hu
    rw [List.mem_flatMap] at hu
    obtain ⟨v, hv, hu⟩ := hu
    have hv := List.mem_range.1 hv
    have := enumL_dig ts (w.set p.toNat v) (mem_set_dig h _ (by omega)) u hu
    rw [List.length_set] at this
    exact this
theorem zeros_dig (n : Nat) : ∀ x ∈ List.replicate n (0 : Int), 0 ≤ x ∧ x ≤ 6 := fun x hx => by rw [(List.mem_replicate.1 hx).2]; decide
theorem zeros_get (n j : Nat) : (List.replicate n (0 : Int))[j]?.getD 0 = 0 := by
  rw [List.getElem?_replicate]; split <;> rfl
theorem zeros_sum (n : Nat) : (List.replicate n (0 : Int)).sum = 0 := by
  induction n with
  | zero => rfl
  | succ n ih => rw [List.replicate_succ, List.sum_cons, ih]; rfl
theorem bestS_in (ls : List (List Int)) (n : Nat) (m : List Bool) : bestS ls n m = ⟨[], []⟩ ∨ ∃ w ∈ enumL (touchM n ls m) (List.replicate n 0), okM ls m w = true ∧ lowL ls m w ≠ [] ∧ bestS ls n m = ⟨w, lowL ls m w⟩ := by
  have main := foldl_inv (p := fun S : Stage => S = ⟨[], []⟩ ∨ ∃ w ∈ enumL (touchM n ls m) (List.replicate n 0), okM ls m w = true ∧ lowL ls m w ≠ [] ∧ S = ⟨w, lowL ls m w⟩) (f := leafS ls m)
    (q := fun w => w ∈ enumL (touchM n ls m) (List.replicate n 0)) (fun S w hS hw => by
      unfold leafS
      split
      · rename_i hb
        unfold betterS at hb
        simp only [Bool.and_eq_true, Bool.or_eq_true, decide_eq_true_eq] at hb
        exact .inr ⟨w, hw, hb.1, fun h0 => by rw [h0] at hb; simp at hb; omega, rfl⟩
      · exact hS) (enumL (touchM n ls m) (List.replicate n 0)) ⟨[], []⟩ (fun a h => h) (.inl rfl)
  exact main
theorem foldl_two {α β γ : Type} {R : β → γ → Prop} {f : β → α → β} {g : γ → α → γ} {q : α → Prop} (h : ∀ b c a, q a → R b c → R (f b a) (g c a)) : ∀ (l : List α) (b : β) (c : γ), (∀ a ∈ l, q a) → R b c → R (l.foldl f b) (l.foldl g c)
  | [], _, _, _, hr => hr
  | a :: l, b, c, hq, hr => foldl_two h l _ _ (fun x hx => hq x (by simp [hx])) (h b c a (hq a (by simp)) hr)
theorem best_SB (ls : List (List Int)) (n : Nat) (hn : 0 < n) (m : List Bool) : SB ls m (bestS ls n m) (tryB (restX ls m) (touchM n ls m) (List.replicate n 0) 0 ⟨[], 0, 0⟩) := by
  have h := tryB_enum (xs := restX ls m) (touchM n ls m) (List.replicate n 0) ⟨[], 0, 0⟩ (fun p hp => by have := touchM_in.2 p hp; rw [List.length_replicate]; exact this) touchM_in.1 fun p _ => zeros_get n _
  rw [zeros_sum] at h
  rw [h]
  unfold bestS
  have key := foldl_two (R := SB ls m) (f := leafS ls m) (g := fun B u => leafBst (restX ls m) u u.sum B) (q := fun w : List Int => w.length = n) (fun S B w hw hr => leaf_SB (fun h0 => by rw [h0] at hw; simp at hw; omega) hr)
    (enumL (touchM n ls m) (List.replicate n 0)) ⟨[], []⟩ ⟨[], 0, 0⟩
  refine key (fun w hw => ?_) (.inl ⟨rfl, rfl⟩)
  have := (enumL_dig _ _ (zeros_dig n) w hw).1
  rw [List.length_replicate] at this; exact this
theorem bestS_on {ls : List (List Int)} {n : Nat} {m : List Bool} (hm : m.length = ls.length) : (bestS ls n m).removed.Nodup ∧ ∀ r ∈ (bestS ls n m).removed, 0 ≤ r ∧ m[r.toNat]? = some true := by
  rcases bestS_in ls n m with h | ⟨w, _, _, _, h⟩ <;> rw [h]
  · exact ⟨List.nodup_nil, fun r hr => by cases hr⟩
  · exact lowL_on hm w
theorem stagesF_stop {ls : List (List Int)} {n k : Nat} {m : List Bool} (h : cntM m = 0 ∨ (bestS ls n m).removed = []) : stagesF ls n k m = ([], m) := by
  cases k with
  | zero => rfl
  | succ k =>
    unfold stagesF
    by_cases h1 : cntM m = 0
    · rw [if_pos h1]
    · rw [if_neg h1, if_pos (h.resolve_left h1)]
theorem stagesF_step {ls : List (List Int)} {n k : Nat} {m : List Bool} (h1 : cntM m ≠ 0) (h2 : (bestS ls n m).removed ≠ []) : stagesF ls n (k + 1) m =
    (bestS ls n m :: (stagesF ls n k (offM m (bestS ls n m).removed)).1, (stagesF ls n k (offM m (bestS ls n m).removed)).2) := by
  conv => lhs; unfold stagesF
  rw [if_neg h1, if_neg h2]
theorem cntM_all (n : Nat) : cntM (List.replicate n true) = n := by simp [cntM]
theorem cntM_le (m : List Bool) : cntM m ≤ m.length := List.count_le_length
end Go.Abs
end
section
set_option linter.unusedVariables false
set_option linter.unusedSimpArgs false
set_option maxRecDepth 8000
open Go Go.Proofs
namespace Go.Abs
end Go.Abs
end
