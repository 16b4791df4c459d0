/- counting.stages. · The abstraction layer: bodies walked by meaning; a slice of an owned slice whose value is not asked for. · statistic.counted and what it calls. · What a proof of termination is: the plain function. -/
import Derived.Test.YtjhccdolbhjmaaaGreatZeAA
import Derived.Test.YtjhccdolbhjmaaaGreatZeAS
import Derived.Test.YtjhccdolbhjmaaaGreatZeAE
section
set_option linter.unusedVariables false
set_option linter.unusedSimpArgs false
set_option maxRecDepth 8000
set_option maxHeartbeats 4000000
open Go Go.Proofs
namespace Go.Abs
theorem restX_mem {ls : List (List Int)} {m : List Bool} {l : List Int} (h : l ∈ restX ls m) : l ∈ ls := by
  unfold restX at h
  rw [List.mem_map] at h
  obtain ⟨i, hi, rfl⟩ := h
  have hi := List.mem_range.1 (List.mem_filter.1 hi).1
  rw [List.getElem?_eq_getElem hi]
  exact List.getElem_mem hi
theorem FX_rest {ls : List (List Int)} {n : Nat} {m : List Bool} (hl : ∀ l ∈ ls, l.length = n) (hb : ∀ l ∈ ls, ∀ x ∈ l, -100000 ≤ x ∧ x ≤ 100000) (ht : (touchL n ls).length ≤ 6) (hn : n ≤ 1000) : FX (restX ls m) (touchM n ls m) n :=
  ⟨fun l h => hl l (restX_mem h), fun l h => hb l (restX_mem h), touchM_in.2, Nat.le_trans touchM_few ht, hn⟩
theorem restI_all (n : Nat) : restI (List.replicate n true) = List.range n := by
  unfold restI
  rw [List.length_replicate, List.filter_eq_self]
  intro i hi
  rw [List.getElem?_replicate, if_pos (List.mem_range.1 hi)]; rfl
def Types.n (t : Types) : Nat := t.nodes.length + t.edges.length
def stgG (t : Types) (rs : List Rule) : List Stage × List Bool := stagesF (effsV t rs) (t.nodes.length + t.edges.length) rs.length (List.replicate rs.length true)
def stV (t : Types) (rs : List Rule) : List Stage := if effsE t rs = 0 ∧ restI (stgG t rs).2 = [] then (stgG t rs).1 else []
def rstV (t : Types) (rs : List Rule) : List Int := if effsE t rs = 0 then (restI (stgG t rs).2).map fun (i : Nat) => (i : Int) else []
theorem restI_lt {m : List Bool} {i : Nat} (h : i ∈ restI m) : i < m.length := (List.getElem?_eq_some_iff.1 (restI_mem.1 h)).1
theorem cntM_restI {m : List Bool} : restI m = [] ↔ cntM m = 0 := by
  rw [← restI_len, List.length_eq_zero_iff]
theorem filter_one {α : Type} (p : α → Bool) (a : α) : [a].filter p = if p a = true then [a] else [] := by simp [List.filter_cons]
theorem counting_stages (t : Types) (ht : t.ok) (rs : List Rule) (hr : ∀ r ∈ rs, r.ok) : Pure Tryz.prog 60 [t.d, .list (rs.map Rule.c)] (.tup [.list ((stV t rs).map Stage.c), dLI (rstV t rs), dI (effsE t rs)]) := by
  refine pureK (by first | rfl | (simp [go_sem]; done)) (fun Q hQ => (acalls_of_body (cfg := ⟨fun t => t == 9 || t == 11 || t == 16 || t == 17 || t == 18 || t == 53, fun r => match r with | 17 => [(2, 9), (3, 9), (4, 9)] | 23 => [(2, 6), (3, 6), (4, 6)] | _ => []⟩) Tz.mixed Tryz.func60 rfl rfl (Nat.le_of_ble_eq_true rfl) (by kernel_rfl) ?_))
  try simp [go_sem, seval, restI_all]
  refine callQ_pure0 (counting_effects t ht rs hr) ((by first | rfl | (simp [go_sem, ← List.map_take, ← List.map_drop, restI_all]; done))) ?_
  try simp [go_sem, seval, restI_all]
  refine condQ_mk (fun h2 => ?_) (fun h2 => ?_)
  · try simp [go_sem] at h2
    try simp [go_sem, seval, restI_all]
    exact hQ _ _ (by first | (left; (simp [go_sem, stV, rstV, h2]); done) | (right; (simp [go_sem, stV, rstV, h2]); done))
  · try simp [go_sem] at h2
    have hv := valid_of (effsE_of h2).1
    have hN := hv.fewN
    have hE := hv.fewE
    have hV : effsV t rs = rs.map (effV t) := if_pos h2
    have hT : effsT t rs = touchL (t.nodes.length + t.edges.length) (effsV t rs) := by rw [hV]; exact if_pos h2
    have hX0 := FX_of h2
    have hVl : (effsV t rs).length = rs.length := by rw [hV, List.length_map]
    have hlen6 := (effsE_of h2).2.1
    have hn0 : 0 < t.nodes.length + t.edges.length := by have := hv.ne; omega
    have hTf : (touchL (t.nodes.length + t.edges.length) (effsV t rs)).length ≤ 6 := by rw [← hT]; exact hX0.few
    have hxl := hX0.xl
    have hxb := hX0.xb
    obtain ⟨ls, hls⟩ : ∃ ls, effsV t rs = ls := ⟨_, rfl⟩
    obtain ⟨N, hNn⟩ : ∃ N, t.nodes.length + t.edges.length = N := ⟨_, rfl⟩
    have hNi : (t.nodes.length : Int) + t.edges.length = (N : Int) := by omega
    have hstg : stgG t rs = stagesF ls N rs.length (List.replicate rs.length true) := by unfold stgG; rw [hls, hNn]
    rw [hls] at hVl hTf hxl hxb
    rw [hNn] at hn0 hTf hxl
    try simp [go_sem, seval, restI_all, hls, hNi]
    repeat (first | intro _ | (refine ⟨obs, ?_⟩))
    obtain ⟨I0, hI0⟩ : ∃ I0 : Nat → Env → AHeap → Prop, ∀ (i : Nat) (e : Env) (H : AHeap), I0 i e H ↔ ((e 2 = .adr t.c) ∧ (e 1 = .list (rs.map Rule.c)) ∧ (e 7 = .list (ls.map cL)) ∧ (e 9 = .own 0 i) ∧ (e 31 = dI rs.length) ∧ (e 32 = dI i) ∧ (H.get 0 = some ⟨3, 1, ((List.range i).map fun (b : Nat) => (b : Int)).map cI, false⟩) ∧ (0 < H.next) ∧ (i ≤ rs.length)) := ⟨fun i e H => _, fun _ _ _ => Iff.rfl⟩
    refine loopK I0 (fun i => rs.length - i) (0) ((hI0 _ _ _).2 ⟨?_, ?_, ?_, ?_, ?_, ?_, (by rfl), ?_, (by first | assumption | omega | (simp [go_sem, restI_all, hls, hNi]; done) | (simp_all; done))⟩) ?_
    iterate 7 (first | omega | (simp [go_sem, seval, restI_all, hls, hNi] <;> omega))
    intro i e H hi0
    obtain ⟨q2_0, q1_0, q7_0, q9_0, q31_0, q32_0, g0_0, n0_0, hi⟩ := (hI0 _ _ _).1 hi0
    have x0 := frs n0_0
    have F0 := And.intro q2_0 (And.intro q1_0 (And.intro q7_0 (And.intro q9_0 (And.intro q31_0 (And.intro q32_0 (And.intro g0_0 x0))))))
    try simp [go_sem, seval, restI_all, hls, hNi, F0]
    refine condQ_mk (fun h6 => ?_) (fun h6 => ?_)
    · try simp [go_sem] at h6
      try simp [go_sem, seval, restI_all, hls, hNi, F0, h6]
      repeat (first | intro _ | (refine ⟨obs, ?_⟩))
      refine nextQ_mk (i + 1) (by omega) ((hI0 _ _ _).2 ⟨?_, ?_, ?_, ?_, ?_, ?_, (by (simp [go_sem, restI_all, hls, hNi, F0, h6, List.range_succ])), ?_, (by first | assumption | omega | (simp [go_sem, restI_all, hls, hNi, F0, h6, h2]; done) | (simp_all; done) | (simp_all; omega))⟩) <;> first | omega | (simp [go_sem, seval, restI_all, hls, hNi, F0, h6] <;> omega)
    · try simp [go_sem] at h6
      have hie : i = rs.length := by omega
      subst hie
      try simp [go_sem, seval, restI_all, hls, hNi, F0]
      obtain ⟨I2, hI2⟩ : ∃ I2 : Nat → Env → AHeap → Prop, ∀ (k : Nat) (e : Env) (H : AHeap), I2 k e H ↔ (∃ m : List Bool, ∃ r : Nat, ∃ o : Nat, ∃ out : List Stage, (e 2 = .adr t.c) ∧ (e 1 = .list (rs.map Rule.c)) ∧ (e 7 = .list (ls.map cL)) ∧ (e 9 = .own r (restI m).length) ∧ (e 11 = .own o out.length) ∧ (H.get r = some ⟨3, 1, ((restI m).map fun (b : Nat) => (b : Int)).map cI, false⟩) ∧ (r < H.next) ∧ (H.get o = some ⟨33, 2, out.map Stage.c, false⟩) ∧ (o < H.next) ∧ (r ≠ o) ∧ (m.length = rs.length) ∧ (cntM m ≤ k) ∧ (out.length + k ≤ rs.length) ∧ (stagesF ls N rs.length (List.replicate rs.length true) = (out ++ (stagesF ls N k m).1, (stagesF ls N k m).2))) := ⟨fun k e H => _, fun _ _ _ => Iff.rfl⟩
      refine loopK I2 (fun k => k) (rs.length) ((hI2 _ _ _).2 ⟨(List.replicate rs.length true), (0), (H.next), ([]), ?_, ?_, ?_, ?_, ?_, ?_, ?_, ?_, ?_, (by omega), (by simp), (by (rw [cntM_all]; exact Nat.le_refl _)), (by simp), (by simp)⟩) ?_
      iterate 9 (first | omega | (simp [go_sem, seval, restI_all, hls, hNi, F0] <;> omega))
      intro k e H hi2
      obtain ⟨m, r, o, out, q2_2, q1_2, q7_2, q9_2, q11_2, gr_2, nr_2, go_2, no_2, hro, hm, hk, hol, hF⟩ := (hI2 _ _ _).1 hi2
      have xr := frs nr_2
      have xo := frs no_2
      have F2 := And.intro q2_2 (And.intro q1_2 (And.intro q7_2 (And.intro q9_2 (And.intro q11_2 (And.intro gr_2 (And.intro go_2 (And.intro xr xo)))))))
      have di1 := nep (show o ≠ r by omega)
      try simp [go_sem, seval, restI_all, hls, hNi, F2, di1]
      repeat (first | intro _ | (refine ⟨obs, ?_⟩))
      refine condQ_mk (fun h11 => ?_) (fun h11 => ?_)
      · try simp [go_sem] at h11
        have hrl := restI_len m
        have hkp : 0 < k := by omega
        have hml : m.length = ls.length := by omega
        have hXm := FX_rest (m := m) hxl hxb hTf (by omega)
        have hXr := restX_restI hml
        have hXl : (restX ls m).length = (restI m).length := by rw [hXr, List.length_map]
        have hrlt : ∀ i, (h : i < (restI m).length) → (restI m)[i] < ls.length := fun i h => by have := restI_lt (List.getElem_mem h); omega
        try simp [go_sem, seval, restI_all, hls, hNi, F2, di1, h11, hXl]
        repeat (first | intro _ | (refine ⟨obs, ?_⟩))
        obtain ⟨I4, hI4⟩ : ∃ I4 : Nat → Env → AHeap → Prop, ∀ (j : Nat) (e : Env) (H : AHeap), I4 j e H ↔ (∃ q : Nat, ∃ f : Nat, ∃ ee : Nat, (e 2 = .adr t.c) ∧ (e 1 = .list (rs.map Rule.c)) ∧ (e 7 = .list (ls.map cL)) ∧ (e 9 = .own r (restI m).length) ∧ (e 11 = .own o out.length) ∧ (e 12 = dI N) ∧ (e 13 = .ptr f 1 0 0) ∧ (e 54 = .own r (restI m).length) ∧ (e 55 = dI (restI m).length) ∧ (e 56 = dI j) ∧ (H.get f = some ⟨169, 7, [[.own ee j, .nil, .own q N, dI 0, .nil, dI 0, dI 0]], false⟩) ∧ (f < H.next) ∧ (H.get ee = some ⟨31, 1, ((restX ls m).take j).map cL, false⟩) ∧ (ee < H.next) ∧ (H.get q = some ⟨3, 1, (List.replicate N (0 : Int)).map cI, false⟩) ∧ (q < H.next) ∧ (H.get r = some ⟨3, 1, ((restI m).map fun (b : Nat) => (b : Int)).map cI, false⟩) ∧ (r < H.next) ∧ (H.get o = some ⟨33, 2, out.map Stage.c, false⟩) ∧ (o < H.next) ∧ (j ≤ (restI m).length) ∧ (r < q ∧ o < q ∧ q < f ∧ f < ee)) := ⟨fun j e H => _, fun _ _ _ => Iff.rfl⟩
        refine loopKG (Ghosts.step (Ghosts.refl _) (H.next+1) 0 0 31 1 _ _ ((by simp [go_sem] : AHeap.get _ _ = some ⟨169, 7, [[.nil, .nil, .own H.next N, dI 0, .nil, dI 0, dI 0]], false⟩)) rfl rfl rfl) I4 (fun j => (restI m).length - j) (0) ((hI4 _ _ _).2 ⟨(H.next), (H.next + 1), (H.next + 2), ?_, ?_, ?_, ?_, ?_, ?_, ?_, ?_, ?_, ?_, ?_, ?_, ?_, ?_, ?_, ?_, ?_, ?_, ?_, ?_, (by first | assumption | omega | (simp [go_sem, restI_all, hls, hNi, F2, di1, h11, hXl]; done) | (simp_all; done)), (by omega)⟩) ?_
        iterate 20 (first | omega | (simp [go_sem, seval, restI_all, hls, hNi, F2, di1, h11, hXl] <;> omega))
        intro j e H hi4
        obtain ⟨q, f, ee, q2_4, q1_4, q7_4, q9_4, q11_4, q12_4, q13_4, q54_4, q55_4, q56_4, gf_4, nf_4, gee_4, nee_4, gq_4, nq_4, gr_4, nr_4, go_4, no_4, hj, ho4⟩ := (hI4 _ _ _).1 hi4
        have xf := frs nf_4
        have xee := frs nee_4
        have xq := frs nq_4
        have xr := frs nr_4
        have xo := frs no_4
        have F4 := And.intro q2_4 (And.intro q1_4 (And.intro q7_4 (And.intro q9_4 (And.intro q11_4 (And.intro q12_4 (And.intro q13_4 (And.intro q54_4 (And.intro q55_4 (And.intro q56_4 (And.intro gf_4 (And.intro gq_4 (And.intro gr_4 (And.intro go_4 (And.intro xf (And.intro xee (And.intro xq (And.intro xr xo)))))))))))))))))
        have di2 := And.intro (nep (show ee ≠ f by omega)) (And.intro (nep (show ee ≠ q by omega)) (And.intro (nep (show ee ≠ o by omega)) (And.intro (nep (show ee ≠ r by omega)) (And.intro (nep (show f ≠ q by omega)) (And.intro (nep (show f ≠ o by omega)) (And.intro (nep (show f ≠ r by omega)) (And.intro (nep (show q ≠ o by omega)) (And.intro (nep (show q ≠ r by omega)) (nep (show o ≠ r by omega))))))))))
        try simp [go_sem, seval, restI_all, hls, hNi, di1, h11, hXl, F4, gee_4, di2]
        refine condQ_mk (fun h15 => ?_) (fun h15 => ?_)
        · try simp [go_sem] at h15
          have hri := hrlt j h15
          have hxj : (restX ls m).take (j + 1) = (restX ls m).take j ++ [ls[(restI m)[j]]] := by rw [List.take_succ_eq_append_getElem (by omega)]; congr 2; simp [hXr, List.getElem?_eq_getElem hri]
          try simp [go_sem, seval, restI_all, hls, hNi, di1, h11, hXl, F4, gee_4, di2, h15, hri, List.getElem?_eq_getElem hri, hxj]
          repeat (first | intro _ | (refine ⟨obs, ?_⟩))
          refine nextQ_mk (j + 1) (by omega) ((hI4 _ _ _).2 ⟨(q), (f), (ee), ?_, ?_, ?_, ?_, ?_, ?_, ?_, ?_, ?_, ?_, ?_, ?_, ?_, ?_, ?_, ?_, ?_, ?_, ?_, ?_, (by first | assumption | omega | (simp [go_sem, restI_all, hls, hNi, di1, h11, hXl, F4, gee_4, di2, h15, hri, List.getElem?_eq_getElem hri, hxj, h2, h6]; done) | (simp_all; done) | (simp_all; omega)), (by omega)⟩) <;> first | omega | (simp [go_sem, seval, restI_all, hls, hNi, di1, h11, hXl, F4, gee_4, di2, h15, hri, List.getElem?_eq_getElem hri, hxj] <;> omega)
        · try simp [go_sem] at h15
          have hje : j = (restI m).length := by omega
          subst hje
          rw [List.take_of_length_le (by omega)] at gee_4
          try simp [go_sem, seval, restI_all, hls, hNi, di1, h11, hXl, F4, gee_4, di2]
          obtain ⟨I6, hI6⟩ : ∃ I6 : Nat → Env → AHeap → Prop, ∀ (x : Nat) (e : Env) (H : AHeap), I6 x e H ↔ (∃ c : Nat, ∃ ys : List Int, (e 2 = .adr t.c) ∧ (e 1 = .list (rs.map Rule.c)) ∧ (e 7 = .list (ls.map cL)) ∧ (e 9 = .own r (restI m).length) ∧ (e 11 = .own o out.length) ∧ (e 12 = dI N) ∧ (e 13 = .ptr f 1 0 0) ∧ (e 74 = dI N) ∧ (e 75 = dI x) ∧ (H.get f = some ⟨169, 7, [[.own ee (restI m).length, .own c ys.length, .own q N, dI 0, .nil, dI 0, dI 0]], false⟩) ∧ (f < H.next) ∧ (H.get ee = some ⟨31, 1, (restX ls m).map cL, false⟩) ∧ (ee < H.next) ∧ (H.get c = some ⟨3, 1, ys.map cI, false⟩) ∧ (c < H.next) ∧ (H.get q = some ⟨3, 1, (List.replicate N (0 : Int)).map cI, false⟩) ∧ (q < H.next) ∧ (H.get r = some ⟨3, 1, ((restI m).map fun (b : Nat) => (b : Int)).map cI, false⟩) ∧ (r < H.next) ∧ (H.get o = some ⟨33, 2, out.map Stage.c, false⟩) ∧ (o < H.next) ∧ (x ≤ N) ∧ (ys.length ≤ x) ∧ (ys = ((List.range x).filter fun (k : Nat) => (restX ls m).any fun l => decide (l[k]?.getD 0 ≠ 0)).map (fun (b : Nat) => (b : Int))) ∧ (r < q ∧ o < q ∧ q < f ∧ f < ee ∧ ee < c)) := ⟨fun x e H => _, fun _ _ _ => Iff.rfl⟩
          refine loopKG (Ghosts.step (Ghosts.refl _) f 0 1 3 1 _ _ (gf_4) rfl rfl rfl) I6 (fun x => N - x) (0) ((hI6 _ _ _).2 ⟨(H.next), ([]), ?_, ?_, ?_, ?_, ?_, ?_, ?_, ?_, ?_, ?_, ?_, ?_, ?_, ?_, ?_, ?_, ?_, ?_, ?_, ?_, ?_, (by first | assumption | omega | (simp [go_sem, restI_all, hls, hNi, di1, h11, hXl, F4, gee_4, di2]; done) | (simp_all; done)), (by simp), (by rfl), (by omega)⟩) ?_
          iterate 21 (first | omega | (simp [go_sem, seval, restI_all, hls, hNi, di1, h11, hXl, F4, gee_4, di2] <;> omega))
          intro x e H hi6
          obtain ⟨c, ys, q2_6, q1_6, q7_6, q9_6, q11_6, q12_6, q13_6, q74_6, q75_6, gf_6, nf_6, gee_6, nee_6, gc_6, nc_6, gq_6, nq_6, gr_6, nr_6, go_6, no_6, hx, hyl, hy, ho6⟩ := (hI6 _ _ _).1 hi6
          have xf := frs nf_6
          have xee := frs nee_6
          have xc := frs nc_6
          have xq := frs nq_6
          have xr := frs nr_6
          have xo := frs no_6
          have F6 := And.intro q2_6 (And.intro q1_6 (And.intro q7_6 (And.intro q9_6 (And.intro q11_6 (And.intro q12_6 (And.intro q13_6 (And.intro q74_6 (And.intro q75_6 (And.intro gf_6 (And.intro gee_6 (And.intro gc_6 (And.intro gq_6 (And.intro gr_6 (And.intro go_6 (And.intro xf (And.intro xee (And.intro xc (And.intro xq (And.intro xr xo)))))))))))))))))))
          have di3 := And.intro (nep (show c ≠ ee by omega)) (And.intro (nep (show c ≠ f by omega)) (And.intro (nep (show c ≠ q by omega)) (And.intro (nep (show c ≠ o by omega)) (And.intro (nep (show c ≠ r by omega)) (And.intro (nep (show ee ≠ f by omega)) (And.intro (nep (show ee ≠ q by omega)) (And.intro (nep (show ee ≠ o by omega)) (And.intro (nep (show ee ≠ r by omega)) (And.intro (nep (show f ≠ q by omega)) (And.intro (nep (show f ≠ o by omega)) (And.intro (nep (show f ≠ r by omega)) (And.intro (nep (show q ≠ o by omega)) (And.intro (nep (show q ≠ r by omega)) (nep (show o ≠ r by omega)))))))))))))))
          try simp [go_sem, seval, restI_all, hls, hNi, di1, h11, hXl, di2, F6, di3]
          refine condQ_mk (fun h20 => ?_) (fun h20 => ?_)
          · try simp [go_sem] at h20
            try simp [go_sem, seval, restI_all, hls, hNi, di1, h11, hXl, di2, F6, di3, h20]
            refine callQ_pureC ((containsFunc_ints (restX ls m) 90 [.adr [dI x]] (fun l => decide (l[x]?.getD 0 ≠ 0)) (by simp [go_sem]) (by simp [go_sem]) (fun l hl => counting_stages1 l x (by have := hXm.xl l hl; omega)))) (by simp [rsvC, rsvP, cellsAt, go_sem, ← List.map_take, ← List.map_drop, restI_all, hls, hNi, di1, h11, hXl, di2, F6, di3, h20]) ((by first | rfl | (simp [go_sem, ← List.map_take, ← List.map_drop, restI_all, hls, hNi, di1, h11, hXl, di2, F6, di3, h20]; done))) ( rfl) ?_
            try simp [go_sem, seval, restI_all, hls, hNi, di1, h11, hXl, di2, F6, di3, h20]
            refine condQ_mk (fun h22 => ?_) (fun h22 => ?_)
            · try simp [go_sem] at h22
              try simp [go_sem, seval, restI_all, hls, hNi, di1, h11, hXl, di2, F6, di3, h20, h22]
              repeat (first | intro _ | (refine ⟨obs, ?_⟩))
              refine nextQ_mk (x + 1) (by omega) ((hI6 _ _ _).2 ⟨(c), (ys ++ (if ((restX ls m).any fun l => decide (l[x]?.getD 0 ≠ 0)) = true then [(x : Int)] else [])), ?_, ?_, ?_, ?_, ?_, ?_, ?_, ?_, ?_, ?_, ?_, ?_, ?_, ?_, ?_, ?_, ?_, ?_, ?_, ?_, ?_, (by first | assumption | omega | (simp [go_sem, restI_all, hls, hNi, di1, h11, hXl, di2, F6, di3, h20, h22, h2, h6, h15]; done) | (simp_all; done) | (simp_all; omega)), (by (rw [List.length_append]; split <;> simp <;> omega)), (by (rw [range_filter_succ, ← hy])), (by omega)⟩) <;> first | omega | (simp [go_sem, seval, restI_all, hls, hNi, di1, h11, hXl, di2, F6, di3, h20, h22] <;> omega)
            · try simp [go_sem] at h22
              try simp [go_sem, seval, restI_all, hls, hNi, di1, h11, hXl, di2, F6, di3, h20, h22]
              repeat (first | intro _ | (refine ⟨obs, ?_⟩))
              refine nextQ_mk (x + 1) (by omega) ((hI6 _ _ _).2 ⟨(c), (ys ++ (if ((restX ls m).any fun l => decide (l[x]?.getD 0 ≠ 0)) = true then [(x : Int)] else [])), ?_, ?_, ?_, ?_, ?_, ?_, ?_, ?_, ?_, ?_, ?_, ?_, ?_, ?_, ?_, ?_, ?_, ?_, ?_, ?_, ?_, (by first | assumption | omega | (simp [go_sem, restI_all, hls, hNi, di1, h11, hXl, di2, F6, di3, h20, h22, h2, h6, h15]; done) | (simp_all; done) | (simp_all; omega)), (by (rw [List.length_append]; split <;> simp <;> omega)), (by (rw [range_filter_succ, ← hy])), (by omega)⟩) <;> first | omega | (simp [go_sem, seval, restI_all, hls, hNi, di1, h11, hXl, di2, F6, di3, h20, h22] <;> omega)
          · try simp [go_sem] at h20
            have hxe : N = x := by omega
            subst hxe
            have hT6 : ys = touchM N ls m := by rw [hy, touchM_rest]; rfl
            subst hT6
            obtain ⟨B, hBe⟩ : ∃ B, tryB (restX ls m) (touchM N ls m) (List.replicate N 0) 0 ⟨[], 0, 0⟩ = B := ⟨_, rfl⟩
            have hSB := best_SB ls N hn0 m
            have hBo := tryB_ok (xs := restX ls m) (nn := N) (touchM N ls m) (List.replicate N 0) 0 ⟨[], 0, 0⟩ (by simp) (zeros_dig N) (.inl ⟨rfl, rfl⟩)
            rw [hBe] at hSB hBo
            try simp [go_sem, seval, restI_all, hls, hNi, di1, h11, hXl, di2, F6, di3]
            unfold callQ; refine finder_try f ee c q ⟨by omega, by omega, by omega, by omega, by omega, by omega⟩ (restX ls m) (touchM N ls m) N hXm (by omega) hn0 touchM_in.1 (touchM N ls m).length 0 (List.replicate N 0) 0 ⟨[], 0, 0⟩ _ _ (by omega) (by omega) (by omega) (fun _ _ _ => zeros_get N _) (by omega) (by omega) (by omega) (by omega) ⟨by simp [go_sem, restI_all, hls, hNi, di1, h11, hXl, di2, F6, di3, hXl, bestD], by simp [restI_all, hls, hNi, di1, h11, hXl, di2, F6, di3], by simp [restI_all, hls, hNi, di1, h11, hXl, di2, F6, di3], by simp [restI_all, hls, hNi, di1, h11, hXl, di2, F6, di3], by simp, zeros_dig N⟩ (fun H2 hF2 hfr2 hn2 => ?_)
            rw [List.drop_zero, hBe] at hF2
            have kf := hF2.bf
            have ke := hF2.be
            have kc := hF2.bc
            have kq := hF2.bq
            have kr := hfr2 r (by omega) (by omega) (by omega)
            have ko := hfr2 o (by omega) (by omega) (by omega)
            simp only [restI_all, hls, hNi, di1, h11, hXl, di2, F6, di3] at kr ko
            have fr4 := And.intro (frs (show r < H2.next by omega)) (And.intro (frs (show o < H2.next by omega)) (And.intro (frs (show f < H2.next by omega)) (And.intro (frs (show ee < H2.next by omega)) (And.intro (frs (show c < H2.next by omega)) (frs (show q < H2.next by omega))))))
            try simp [go_sem, seval, restI_all, hls, hNi, di1, h11, hXl, di2, F6, di3, kf, ke, kc, kq, kr, ko, fr4]
            refine condQ_mk (fun h26 => ?_) (fun h26 => ?_)
            · try simp [go_sem] at h26
              have hr0 : (bestS ls N m).removed = [] := by
                rcases hSB with ⟨h, _⟩ | ⟨_, _, _, h, _⟩
                · rw [h]
                · omega
              rw [stagesF_stop (k := k) (m := m) (.inr hr0)] at hF
              have hne : restI m ≠ [] := by intro h; rw [h] at h11; simp at h11
              try simp [go_sem, seval, restI_all, hls, hNi, di1, h11, hXl, di2, F6, di3, kf, ke, kc, kq, kr, ko, fr4]
              exact hQ _ _ (by first | (left; (simp [go_sem, restI_all, hls, hNi, di1, h11, hXl, di2, F6, di3, kf, ke, kc, kq, kr, ko, fr4, stV, rstV, h2, hstg, hF, hne]); done) | (right; (simp [go_sem, restI_all, hls, hNi, di1, h11, hXl, di2, F6, di3, kf, ke, kc, kq, kr, ko, fr4, stV, rstV, h2, hstg, hF, hne]); done))
            · try simp [go_sem] at h26
              obtain ⟨hBw, hBS, hBd, hBp, hBs⟩ : B.w ≠ [] ∧ bestS ls N m = ⟨B.w, lowL ls m B.w⟩ ∧ B.d = (lowL ls m B.w).length ∧ 0 < B.d ∧ B.s = B.w.sum := by
                rcases hSB with ⟨_, h⟩ | h
                · exact absurd h h26
                · exact h
              have hBi : BestIn (restX ls m) N B := by
                rcases hBo with ⟨h, _⟩ | h
                · exact absurd h hBw
                · exact h
              have hbd : bestD B = .list (B.w.map cI) := if_neg hBw
              rw [hbd] at kf
              have hrem : (bestS ls N m).removed = lowL ls m B.w := by rw [hBS]
              have hr0 : (bestS ls N m).removed ≠ [] := by rw [hrem]; intro h; rw [h] at hBd; simp at hBd; omega
              have hon := lowL_on (ls := ls) (m := m) hml B.w
              have hoff := cntM_off _ _ hon.1 hon.2
              rw [← hrem] at hoff
              have hrp : 0 < (bestS ls N m).removed.length := List.length_pos_iff.2 hr0
              obtain ⟨k2, hk2⟩ : ∃ k2, k = k2 + 1 := ⟨k - 1, by omega⟩
              rw [hk2, stagesF_step (k := k2) (m := m) (by omega) hr0] at hF
              try simp [go_sem, seval, restI_all, hls, hNi, di1, h11, hXl, di2, F6, di3, kf, ke, kc, kq, kr, ko, fr4]
              repeat (first | intro _ | (refine ⟨obs, ?_⟩))
              obtain ⟨I8, hI8⟩ : ∃ I8 : Nat → Env → AHeap → Prop, ∀ (j : Nat) (e : Env) (H : AHeap), I8 j e H ↔ (∃ a : Nat, ∃ b : Nat, ∃ A : List Nat, ∃ E : List Nat, (e 2 = .adr t.c) ∧ (e 1 = .list (rs.map Rule.c)) ∧ (e 7 = .list (ls.map cL)) ∧ (e 9 = .own r (restI m).length) ∧ (e 11 = .own o out.length) ∧ (e 13 = .ptr f 1 0 0) ∧ (e 17 = .own a A.length) ∧ (e 18 = .own b E.length) ∧ (e 103 = .own r (restI m).length) ∧ (e 104 = dI (restI m).length) ∧ (e 105 = dI j) ∧ (H.get f = some ⟨169, 7, [[.own ee (restX ls m).length, .own c (touchM N ls m).length, .own q N, dI 0, .list (B.w.map cI), dI B.s, dI B.d]], false⟩) ∧ (f < H.next) ∧ (H.get a = some ⟨3, 1, (A.map fun (b : Nat) => (b : Int)).map cI, false⟩) ∧ (a < H.next) ∧ (H.get b = some ⟨3, 1, (E.map fun (b : Nat) => (b : Int)).map cI, false⟩) ∧ (b < H.next) ∧ (H.get r = some ⟨3, 1, ((restI m).map fun (b : Nat) => (b : Int)).map cI, false⟩) ∧ (r < H.next) ∧ (H.get o = some ⟨33, 2, out.map Stage.c, false⟩) ∧ (o < H.next) ∧ (j ≤ (restI m).length) ∧ (A.length ≤ j ∧ E.length ≤ j) ∧ (A = ((restI m).take j).filter (fun i => decide (prodF B.w (ls[i]?.getD []) < 0))) ∧ (E = ((restI m).take j).filter (fun i => !decide (prodF B.w (ls[i]?.getD []) < 0))) ∧ (r < f ∧ o < f ∧ f < a ∧ a < b)) := ⟨fun j e H => _, fun _ _ _ => Iff.rfl⟩
              refine loopK I8 (fun j => (restI m).length - j) (0) ((hI8 _ _ _).2 ⟨(H2.next), (H2.next + 1), ([]), ([]), ?_, ?_, ?_, ?_, ?_, ?_, ?_, ?_, ?_, ?_, ?_, ?_, ?_, ?_, ?_, ?_, ?_, ?_, ?_, ?_, ?_, (by first | assumption | omega | (simp [go_sem, restI_all, hls, hNi, di1, h11, hXl, di2, F6, di3, kf, ke, kc, kq, kr, ko, fr4]; done) | (simp_all; done)), (by simp), (by rfl), (by rfl), (by omega)⟩) ?_
              iterate 21 (first | omega | (simp [go_sem, seval, restI_all, hls, hNi, di1, h11, hXl, di2, F6, di3, kf, ke, kc, kq, kr, ko, fr4] <;> omega))
              intro j e H hi8
              obtain ⟨a, b, A, E, q2_8, q1_8, q7_8, q9_8, q11_8, q13_8, q17_8, q18_8, q103_8, q104_8, q105_8, gf_8, nf_8, ga_8, na_8, gb_8, nb_8, gr_8, nr_8, go_8, no_8, hj, hAE, hA, hEE, ho8⟩ := (hI8 _ _ _).1 hi8
              have xf := frs nf_8
              have xa := frs na_8
              have xb := frs nb_8
              have xr := frs nr_8
              have xo := frs no_8
              have F8 := And.intro q2_8 (And.intro q1_8 (And.intro q7_8 (And.intro q9_8 (And.intro q11_8 (And.intro q13_8 (And.intro q17_8 (And.intro q18_8 (And.intro q103_8 (And.intro q104_8 (And.intro q105_8 (And.intro gf_8 (And.intro ga_8 (And.intro gb_8 (And.intro gr_8 (And.intro go_8 (And.intro xf (And.intro xa (And.intro xr xo))))))))))))))))))
              have di5 := And.intro (nep (show b ≠ a by omega)) (And.intro (nep (show b ≠ f by omega)) (And.intro (nep (show b ≠ o by omega)) (And.intro (nep (show b ≠ r by omega)) (And.intro (nep (show a ≠ f by omega)) (And.intro (nep (show a ≠ o by omega)) (And.intro (nep (show a ≠ r by omega)) (And.intro (nep (show f ≠ o by omega)) (And.intro (nep (show f ≠ r by omega)) (nep (show o ≠ r by omega))))))))))
              try simp [go_sem, seval, restI_all, hls, hNi, di1, h11, hXl, di2, di3, kf, ke, kc, kq, kr, ko, fr4, F8, xb, di5]
              refine condQ_mk (fun h30 => ?_) (fun h30 => ?_)
              · try simp [go_sem] at h30
                have hri := hrlt j h30
                try simp [go_sem, seval, restI_all, hls, hNi, di1, h11, hXl, di2, di3, kf, ke, kc, kq, kr, ko, fr4, F8, xb, di5, h30, hri, List.getElem?_eq_getElem hri]
                repeat (first | intro _ | (refine ⟨obs, ?_⟩))
                refine dcallQ_pureF ((counting_product B.w ls[(restI m)[j]] ⟨by rw [hxl _ (List.getElem_mem _), hBi.len]; exact Nat.le_refl _, by rw [hBi.len]; omega, fun y hy => by have := hBi.dig y hy; omega, hxb _ (List.getElem_mem _)⟩)) (by simp [rsvC, rsvP, cellsAt, go_sem, ← List.map_take, ← List.map_drop, restI_all, hls, hNi, di1, h11, hXl, di2, di3, kf, ke, kc, kq, kr, ko, fr4, F8, xb, di5, h30, hri, List.getElem?_eq_getElem hri]) ((by first | rfl | (simp [go_sem, ← List.map_take, ← List.map_drop, restI_all, hls, hNi, di1, h11, hXl, di2, di3, kf, ke, kc, kq, kr, ko, fr4, F8, xb, di5, h30, hri, List.getElem?_eq_getElem hri]; done))) ( rfl) rfl (by simp [go_sem, restI_all, hls, hNi, di1, h11, hXl, di2, di3, kf, ke, kc, kq, kr, ko, fr4, F8, xb, di5, h30, hri, List.getElem?_eq_getElem hri]) ?_
                try simp [go_sem, seval, restI_all, hls, hNi, di1, h11, hXl, di2, di3, kf, ke, kc, kq, kr, ko, fr4, F8, xb, di5, h30, hri, List.getElem?_eq_getElem hri]
                repeat (first | intro _ | (refine ⟨obs, ?_⟩))
                refine condQ_mk (fun h32 => ?_) (fun h32 => ?_)
                · try simp [go_sem] at h32
                  try simp [go_sem, seval, restI_all, hls, hNi, di1, h11, hXl, di2, di3, kf, ke, kc, kq, kr, ko, fr4, F8, xb, di5, h30, hri, List.getElem?_eq_getElem hri, h32]
                  repeat (first | intro _ | (refine ⟨obs, ?_⟩))
                  refine nextQ_mk (j + 1) (by omega) ((hI8 _ _ _).2 ⟨(a), (b), (A ++ (if decide (prodF B.w (ls[(restI m)[j]]?.getD []) < 0) = true then [(restI m)[j]] else [])), (E ++ (if (!decide (prodF B.w (ls[(restI m)[j]]?.getD []) < 0)) = true then [(restI m)[j]] else [])), ?_, ?_, ?_, ?_, ?_, ?_, ?_, ?_, ?_, ?_, ?_, ?_, ?_, ?_, ?_, ?_, ?_, ?_, ?_, ?_, ?_, (by first | assumption | omega | (simp [go_sem, restI_all, hls, hNi, di1, h11, hXl, di2, di3, kf, ke, kc, kq, kr, ko, fr4, F8, xb, di5, h30, hri, List.getElem?_eq_getElem hri, h32, h2, h6, h15, h20, h26]; done) | (simp_all; done) | (simp_all; omega)), (by (constructor <;> (rw [List.length_append]; split <;> simp <;> omega))), (by (rw [List.take_succ_eq_append_getElem h30, List.filter_append, ← hA, filter_one])), (by (rw [List.take_succ_eq_append_getElem h30, List.filter_append, ← hEE, filter_one])), (by omega)⟩) <;> first | omega | (simp [go_sem, seval, restI_all, hls, hNi, di1, h11, hXl, di2, di3, kf, ke, kc, kq, kr, ko, fr4, F8, xb, di5, h30, hri, List.getElem?_eq_getElem hri, h32] <;> omega)
                · try simp [go_sem] at h32
                  try simp [go_sem, seval, restI_all, hls, hNi, di1, h11, hXl, di2, di3, kf, ke, kc, kq, kr, ko, fr4, F8, xb, di5, h30, hri, List.getElem?_eq_getElem hri, h32]
                  repeat (first | intro _ | (refine ⟨obs, ?_⟩))
                  refine nextQ_mk (j + 1) (by omega) ((hI8 _ _ _).2 ⟨(a), (b), (A ++ (if decide (prodF B.w (ls[(restI m)[j]]?.getD []) < 0) = true then [(restI m)[j]] else [])), (E ++ (if (!decide (prodF B.w (ls[(restI m)[j]]?.getD []) < 0)) = true then [(restI m)[j]] else [])), ?_, ?_, ?_, ?_, ?_, ?_, ?_, ?_, ?_, ?_, ?_, ?_, ?_, ?_, ?_, ?_, ?_, ?_, ?_, ?_, ?_, (by first | assumption | omega | (simp [go_sem, restI_all, hls, hNi, di1, h11, hXl, di2, di3, kf, ke, kc, kq, kr, ko, fr4, F8, xb, di5, h30, hri, List.getElem?_eq_getElem hri, h32, h2, h6, h15, h20, h26]; done) | (simp_all; done) | (simp_all; omega)), (by (constructor <;> (rw [List.length_append]; split <;> simp <;> omega))), (by (rw [List.take_succ_eq_append_getElem h30, List.filter_append, ← hA, filter_one])), (by (rw [List.take_succ_eq_append_getElem h30, List.filter_append, ← hEE, filter_one])), (by omega)⟩) <;> first | omega | (simp [go_sem, seval, restI_all, hls, hNi, di1, h11, hXl, di2, di3, kf, ke, kc, kq, kr, ko, fr4, F8, xb, di5, h30, hri, List.getElem?_eq_getElem hri, h32] <;> omega)
              · try simp [go_sem] at h30
                rw [List.take_of_length_le (by omega)] at hA hEE
                have hAl : A.map (fun (b : Nat) => (b : Int)) = lowL ls m B.w := by rw [hA, lowL_restI hml]
                have hEl : restI (offM m (lowL ls m B.w)) = E := by rw [hEE, restI_off hml]
                have hAn : (lowL ls m B.w).length = A.length := by rw [← hAl, List.length_map]
                try simp [go_sem, seval, restI_all, hls, hNi, di1, h11, hXl, di2, di3, kf, ke, kc, kq, kr, ko, fr4, F8, xb, di5, hBS, hAl, hEl, hAn, Stage.c, dLI]
                repeat (first | intro _ | (refine ⟨obs, ?_⟩))
                refine nextQ_mk (k - 1) (by omega) ((hI2 _ _ _).2 ⟨(offM m (bestS ls N m).removed), (b), (o), (out ++ [bestS ls N m]), ?_, ?_, ?_, ?_, ?_, ?_, ?_, ?_, ?_, (by omega), (by (rw [offM_len]; exact hm)), (by omega), (by (simp; omega)), (by (rw [show k - 1 = k2 by omega, hF]; simp))⟩) <;> first | omega | (simp [go_sem, seval, restI_all, hls, hNi, di1, h11, hXl, di2, di3, kf, ke, kc, kq, kr, ko, fr4, F8, xb, di5, hBS, hAl, hEl, hAn, Stage.c, dLI] <;> omega)
      · try simp [go_sem] at h11
        have hr1 : restI m = [] := by simpa using h11
        have hr2 : cntM m = 0 := cntM_restI.1 hr1
        rw [stagesF_stop (k := k) (m := m) (.inl hr2)] at hF
        try simp [go_sem, seval, restI_all, hls, hNi, F2, di1]
        exact hQ _ _ (by first | (left; (simp [go_sem, restI_all, hls, hNi, F2, di1, stV, rstV, h2, hstg, hF, hr1]); done) | (right; (simp [go_sem, restI_all, hls, hNi, F2, di1, stV, rstV, h2, hstg, hF, hr1]); done))
end Go.Abs
end
section
set_option linter.unusedVariables false
namespace Go.Abs
section
variable {P : Program} {c : Cfg} {n : Nat} {M0 : Nat → Prop} {H : AHeap} {σ : Nat → Option Ow} {w : World} {e : Env} {a : Act}
def SemQ (P : Program) (n : Nat) (x : Code) (Q : Exit → Env → AHeap → Prop) (e : Env) (H : AHeap) : Prop :=
  ∀ (M0 : Nat → Prop) (σ : Nat → Option Ow) (w : World) (a : Act), St n M0 H σ w e a → x.wp P (CameX n M0 H σ w Q) a w
theorem sem_awp {x : Code} {Q : Exit → Env → AHeap → Prop} (hm : P.follows .mixedOrders = true) (hok : codeOK c n x = true) (h : AWp P c x Q e H) : SemQ P n x Q e H :=
  fun M0 σ w a hS => awp_sound hm x Q e H h hok σ w a hS
theorem sem_seq {x y : Code} {Q : Exit → Env → AHeap → Prop} (h : SemQ P n x (thenQ (SemQ P n y Q) Q) e H) : SemQ P n (.seq x y) Q e H := fun M0 σ w a hS => by
  refine wp_seq (Code.wp_weak (h M0 σ w a hS) fun ex a' w' hc => ?_)
  cases ex <;> first | exact hc | skip
  obtain ⟨e', H', σ', hq, hS', hst, hk⟩ := hc
  exact Code.wp_weak (hq M0 σ' w' a' hS') fun ex a'' w'' hc' => Came.trans hst hk hc'
theorem aOps_then {md : Nat → Bool} {ops : Array Oper} {Q : Exit → Act → World → Prop} {l2 : List Oper} : ∀ (l : List Oper) (e : Nat → D) (H : AHeap) (K : (Nat → D) → AHeap → Prop), aOps P md ops l e H K → (∀ o ∈ l, dstOK n o.dst = true) →
    ∀ (σ : Nat → Option Ow) (w : World) (a : Act), St n M0 H σ w e a → (∀ a' w', Came n M0 H σ w K a' w' → wpList P ops Q l2 a' w') → wpList P ops Q (l ++ l2) a w
  | [], e, H, K, h, hd, σ, w, a, hS, hQ => hQ a w ⟨e, H, σ, h, hS, .refl _ _, .refl _ _ _ _⟩
  | o :: l, e, H, K, h, hd, σ, w, a, hS, hQ => by
    unfold aOps at h
    have hs := aStep_sound (Q := Q) h hS (fun hn => Nat.lt_irrefl _ (hS.rel.nxt _ hn)) (hd o (by simp))
    have := StepC.mono (K' := wpList P ops Q (l ++ l2)) (fun a' w' ⟨v, H', F, σ', hk, hS', hst, hkp⟩ =>
      aOps_then l _ _ _ hk (fun o' ho' => hd o' (by simp [ho'])) σ' w' a' hS' fun a'' w'' hc => hQ a'' w'' (hc.trans hst hkp)) hs
    unfold StepC at this
    rw [List.cons_append]
    unfold wpList
    exact this
theorem one_sem {ops : Array Oper} {Q : Exit → Act → World → Prop} {o : Oper} {d : D} {H' : AHeap} {K : (Nat → D) → AHeap → Prop} (hg : o.guard = none) (hS : St n M0 H σ w e a) (hop : OpN P (execOp a.eval o) M0 H σ w d H')
    (hd : dstOK n o.dst = true) (hK : K (upd e o.dst d) H') (hQ : ∀ a' w', Came n M0 H σ w K a' w' → Q .normal a' w') : wpList P ops Q [o] a w := by
  obtain ⟨v, w', σ', h2, h3, h4, h5, h6⟩ := hop
  refine wpList_plain hg fun K' hK' => ?_
  have hc : Came n M0 H σ w K (a.put o.dst v) w' := ⟨_, _, σ', hK, hS.put h3 h6 hd h4, h5, h6⟩
  unfold Oper.wp
  rcases h2 with h2 | ⟨h2, rfl⟩
  · rw [h2, Oper.upon_value]; exact hK' _ _ (wpList_nil (hQ _ _ hc))
  · rw [h2, Oper.upon_skip]; exact hK' _ _ (wpList_nil (hQ _ _ hc))
theorem slice_own_sound {t : TypeId} {v vl : Value} {id m : Nat} {k : Blk} {kd : IntKind} {l : Int} {s : SlI} (hR : Rel M0 H σ w) (hx : RepV (Mut M0 H σ) σ H.al w v (.own id m)) (hk : H.get id = some k) (hm : k.es.length = m)
    (hl : RepV (Mut M0 H σ) σ H.al w vl (.int kd l)) (hs : sl P t = some s) (h0 : 0 ≤ l) (h1 : l ≤ m) : OpS P (Instr.sliceAt t v (some vl) none none) M0 H σ w .junk H := by
  cases hl
  obtain ⟨hu, ti, z, hti, hz, hisz, _, hsz, _, _, hszl, _⟩ := sl_some hs
  rcases own_val hR hx hk hm with ⟨rfl, rfl⟩ | ⟨b, cap, rfl, hle, hcm, _⟩
  · have hrun := slice_run (P := P) (w := w) hu hti none 0 0 (Nat.le_refl _) (some (.int kd l)) none l 0 (.inr ⟨kd, rfl⟩) (.inl ⟨rfl, rfl⟩) h0 (by omega) (by simp)
    exact .pure hR hrun (.junk _)
  · have hrun := slice_run (P := P) (w := w) hu hti (some ⟨b, 0, none⟩) m cap hle (some (.int kd l)) none l m (.inr ⟨kd, rfl⟩) (.inl ⟨rfl, rfl⟩) h0 h1 (Int.le_refl _)
    exact .pure hR hrun (.junk _)
theorem sem_slice {rid : Nat} {l : List Oper} {d : Tmp} {t ty : TypeId} {x lo : Tmp} {p : String} {af : Array Go.Edge} {sl0 : Oper} (hsl : sl0 = { dst := some d, op := .slice t (.tmp x) (some (.tmp lo)) none none, type := ty, pos := p, after := af, guard := none }) {Q : Exit → Env → AHeap → Prop} {md : Nat → Bool} (hd : ∀ o ∈ l, dstOK n o.dst = true) (hdd : dstOK n (some d) = true) {s : SlI} (hs : sl P t = some s)
    (h : aOps P md (l ++ [sl0]).toArray l e H fun e' H' => ∃ id m k kd q, e' x = .own id m ∧ H'.get id = some k ∧ k.es.length = m ∧ e' lo = .int kd q ∧ 0 ≤ q ∧ q ≤ m ∧ Q .normal (upd e' (some d) .junk) H') :
    SemQ P n (.region rid (l ++ [sl0]).toArray false) Q e H := fun M0 σ w a hS => by
  subst hsl
  refine wp_region_list ?_
  refine aOps_then l e H _ h hd σ w a hS fun a' w' hc => ?_
  obtain ⟨e', H', σ', ⟨id, m, k, kd, q, h1, h2, h3, h4, h5, h6, hq⟩, hS', hst, hk⟩ := hc
  have hop : OpS P (Instr.sliceAt t (a'.eval (.tmp x)) (some (a'.eval (.tmp lo))) none none) M0 H' σ' w' .junk H' :=
    slice_own_sound hS'.rel (by have := hS'.envR.ev (.tmp x); rw [evD_tmp, h1] at this; exact this) h2 h3 (by have := hS'.envR.ev (.tmp lo); rw [evD_tmp, h4] at this; exact this) hs h5 h6
  exact one_sem (K := fun e H => Q .normal e H) rfl hS' hop.next hdd hq fun a'' w'' hc => Came.trans hst hk hc
theorem acalls_of_sem {f : FuncId} {fn : Func} {x : Code} {args : List D} {Q : D → AHeap → Prop} (hf : P.funcs[f]? = some fn) (hb : fn.body = some x)
    (hnm : (fn.name == "runtime.NumGoroutine") = false) (hlen : args.length ≤ fn.ntmps) (h : SemQ P fn.ntmps x (retQ P fn.results.toList Q) (envP args) H) : ACalls P f args H Q := by
  refine ⟨⟨fn, hf, hnm, by simp [hb]⟩, fun M0 σ w vals hR ha => calls_of_wp hf hb ?_⟩
  have hS : St fn.ntmps M0 H σ w (envP args) { tmps := vals.toArray ++ Array.replicate (fn.ntmps - vals.toArray.size) undef, defers := [] } := by
    refine ⟨hR, fun t => ?_, rfl, by simp [ha.len]; omega⟩
    simp only [envP]
    by_cases ht : t < vals.length
    · have h1 : vals[t]? = some vals[t] := List.getElem?_eq_getElem ht
      have h2 : args[t]? = some (args[t]'(by rw [← ha.len]; exact ht)) := List.getElem?_eq_getElem _
      have := ha.rep t _ _ h1 h2
      rw [List.getD_eq_getElem?_getD, h2]
      simp only [Option.getD_some, Array.getD_eq_getD_getElem?]
      rw [Array.getElem?_append_left (by simpa using ht)]
      simpa [h1] using this
    · rw [List.getD_eq_getElem?_getD, List.getElem?_eq_none (by rw [← ha.len]; omega)]
      exact .junk _
  refine Code.wp_weak (h M0 σ w _ hS) fun ex a' w' hc => ?_
  obtain ⟨e', H', σ', hq, hS', hst, hk⟩ := hc
  have fin : aRes P fn.results.toList e' H' (fun l => Q (tupD l) H') → a'.defers = [] ∧ ∃ v, (results fn a'.tmps).run P w' = .ok v w' ∧
      ∃ v2 d H2 σ2, Ending.returned v = .returned v2 ∧ Rel M0 H2 σ2 w' ∧ RepV (Mut M0 H2 σ2) σ2 H2.al w' v2 d ∧ Stp σ w σ2 w' ∧ Keeps (Mut M0 H σ) σ H.al w (Mut M0 H2 σ2) σ2 H2.al w' ∧ Q d H2 := by
    intro hq
    obtain ⟨vs, l, h1, h2, h3⟩ := aRes_sound hS' _ _ hq
    obtain ⟨v, hv1, hv2⟩ := results_run (fn := fn) h1 h2
    exact ⟨hS'.defers, v, hv1, v, _, H', σ', rfl, hS'.rel, hv2, hst, hk, h3⟩
  cases ex <;> first | exact fin hq | exact hq.elim
end
end Go.Abs
end
section
set_option linter.unusedVariables false
set_option linter.unusedSimpArgs false
set_option maxRecDepth 8000
set_option maxHeartbeats 2000000
open Go Go.Proofs
namespace Go.Abs
structure Cnt where
  type : Int
  from_ : Int
  to_ : Int
  num : Int
def Cnt.c (x : Cnt) : List D := [dI x.type, dI x.from_, dI x.to_, dI x.num]
attribute [go_sem] Cnt.c
theorem Cnt.cl (x : Cnt) : D.clL x.c = true := rfl
@[go_sem] theorem cnts_cl (l : List Cnt) : D.clLL (l.map Cnt.c) = true := clLL_map _ Cnt.cl l
def Cnt.small (x : Cnt) : Prop := (-1000000 ≤ x.type ∧ x.type ≤ 1000000) ∧ (-1000000 ≤ x.from_ ∧ x.from_ ≤ 1000000) ∧ (-1000000 ≤ x.to_ ∧ x.to_ ≤ 1000000) ∧ (1 ≤ x.num ∧ x.num ≤ 1000000)
def orF : List Int → Int
  | [] => 0
  | a :: l => if a ≠ 0 then a else orF l
theorem orF_step {l : List Int} {i : Nat} (h : i < l.length) : orF (l.drop i) = if l[i] ≠ 0 then l[i] else orF (l.drop (i + 1)) := by
  rw [List.drop_eq_getElem_cons h]; rfl
theorem cmp_Or (l : List Int) : Pure Tryz.prog 195 [dLI l] (dI (orF l)) := by
  refine pureK (by first | rfl | (simp [go_sem]; done)) (fun Q hQ => (acalls_of_body (cfg := ⟨fun _ => false, fun _ => []⟩) Tz.mixed Tryz.func195 rfl rfl (Nat.le_of_ble_eq_true rfl) (by kernel_rfl) ?_))
  try simp [go_sem, seval]
  repeat (first | intro _ | (refine ⟨obl, ?_⟩))
  obtain ⟨I0, hI0⟩ : ∃ I0 : Nat → Env → AHeap → Prop, ∀ (i : Nat) (e : Env) (H : AHeap), I0 i e H ↔ ((e 6 = dLI l) ∧ (e 7 = dI l.length) ∧ (e 3 = dI 0) ∧ (e 8 = dI i) ∧ (i ≤ l.length) ∧ (orF (l.drop i) = orF l)) := ⟨fun i e H => _, fun _ _ _ => Iff.rfl⟩
  refine loopK I0 (fun i => l.length - i) (0) ((hI0 _ _ _).2 ⟨?_, ?_, ?_, ?_, (by first | assumption | omega | (simp [go_sem]; done) | (simp_all; done)), (by rfl)⟩) ?_
  iterate 4 (first | omega | (simp [go_sem, seval] <;> omega))
  intro i e H hi0
  obtain ⟨q6_0, q7_0, q3_0, q8_0, hi, hO⟩ := (hI0 _ _ _).1 hi0
  have F0 := And.intro q6_0 (And.intro q7_0 (And.intro q3_0 q8_0))
  try simp [go_sem, seval, F0]
  refine condQ_mk (fun h3 => ?_) (fun h3 => ?_)
  · try simp [go_sem] at h3
    have hst := hO
    rw [orF_step h3] at hst
    try simp [go_sem, seval, F0, h3]
    repeat (first | intro _ | (refine ⟨obl, ?_⟩))
    refine condQ_mk (fun h5 => ?_) (fun h5 => ?_)
    · try simp [go_sem] at h5
      rw [if_pos (by omega)] at hst
      try simp [go_sem, seval, F0, h3]
      exact hQ _ _ (by first | (left; (simp [go_sem, F0, h3, ← hst]); done) | (right; (simp [go_sem, F0, h3, ← hst]); done))
    · try simp [go_sem] at h5
      rw [if_neg (by omega)] at hst
      try simp [go_sem, seval, F0, h3]
      repeat (first | intro _ | (refine ⟨obl, ?_⟩))
      refine nextQ_mk (i + 1) (by omega) ((hI0 _ _ _).2 ⟨?_, ?_, ?_, ?_, (by first | assumption | omega | (simp [go_sem, F0, h3, h5]; done) | (simp_all; done) | (simp_all; omega)), (by exact hst)⟩) <;> first | omega | (simp [go_sem, seval, F0, h3] <;> omega)
  · try simp [go_sem] at h3
    rw [List.drop_eq_nil_of_le (by omega)] at hO
    try simp [go_sem, seval, F0]
    exact hQ _ _ (by first | (left; (simp [go_sem, ← hO, orF]); done) | (right; (simp [go_sem, ← hO, orF]); done))
def cmpC (a b : Cnt) : Int := orF [a.type - b.type, a.from_ - b.from_, a.to_ - b.to_]
theorem statistic_compare (a b : Cnt) (ha : a.small) (hb : b.small) : Pure Tryz.prog 123 [.agg a.c, .agg b.c] (dI (cmpC a b)) := by
  obtain ⟨a1, a2, a3, a4⟩ := ha
  obtain ⟨b1, b2, b3, b4⟩ := hb
  refine pureK (by first | rfl | (simp [go_sem]; done)) (fun Q hQ => (acalls_of_body (cfg := ⟨fun _ => false, fun _ => []⟩) Tz.mixed Tryz.func123 rfl rfl (Nat.le_of_ble_eq_true rfl) (by kernel_rfl) ?_))
  try simp [go_sem, seval]
  repeat (first | intro _ | (refine ⟨obl, ?_⟩))
  refine callQ_pure0 (cmp_Or [a.type - b.type, a.from_ - b.from_, a.to_ - b.to_]) ((by first | rfl | (simp [go_sem, ← List.map_take, ← List.map_drop]; done))) ?_
  try simp [go_sem, seval]
  repeat (first | intro _ | (refine ⟨obl, ?_⟩))
  exact hQ _ _ (by simp [go_sem, cmpC] <;> first | omega | (rw [Bool.eq_iff_iff]; simp <;> omega) | (simp_all <;> omega))
def bsG (p : Nat → Bool) : Nat → Nat → Nat → Nat
  | 0, i, _ => i
  | m + 1, i, j => if i < j then (if p ((i + j) / 2) = true then bsG p m ((i + j) / 2 + 1) j else bsG p m i ((i + j) / 2)) else i
theorem bsG_stop {p : Nat → Bool} {m i j : Nat} (h : ¬ i < j) : bsG p m i j = i := by
  cases m with
  | zero => rfl
  | succ m => unfold bsG; rw [if_neg h]
def cntK (l : List Cnt) (x : Cnt) : Nat := bsG (fun h => match l[h]? with | some y => decide (cmpC y x < 0) | none => false) l.length 0 l.length
def cntB (l : List Cnt) (x : Cnt) : Bool := match l[cntK l x]? with | some y => decide (cmpC y x = 0) | none => false
theorem bsearch_cnt (a : D) (l : List Cnt) (ha : a = .list (l.map Cnt.c)) (x : Cnt) (hl : l.length ≤ 1000000) (hs : ∀ y ∈ l, y.small) (hx : x.small) : Pure Tryz.prog 122 [a, .agg x.c, .fn 123 []] (.tup [dI (cntK l x), .bool (cntB l x)]) := by
  subst ha
  refine pureK (by first | rfl | (simp [go_sem]; done)) (fun Q hQ => (acalls_of_body (cfg := ⟨fun _ => false, fun _ => []⟩) Tz.mixed Tryz.func122 rfl rfl (Nat.le_of_ble_eq_true rfl) (by kernel_rfl) ?_))
  try simp [go_sem, seval, fdiv2]
  repeat (first | intro _ | (refine ⟨obs, ?_⟩))
  obtain ⟨I0, hI0⟩ : ∃ I0 : Nat → Env → AHeap → Prop, ∀ (m : Nat) (e : Env) (H : AHeap), I0 m e H ↔ (∃ i : Nat, ∃ j : Nat, (e 0 = .list (l.map Cnt.c)) ∧ (e 4 = .adr x.c) ∧ (e 2 = .fn 123 []) ∧ (e 8 = dI l.length) ∧ (e 9 = dI i) ∧ (e 10 = dI j) ∧ (i ≤ j) ∧ (j ≤ l.length) ∧ (j - i ≤ m) ∧ (bsG (fun h => match l[h]? with | some y => decide (cmpC y x < 0) | none => false) m i j = cntK l x)) := ⟨fun m e H => _, fun _ _ _ => Iff.rfl⟩
  refine loopK I0 (fun m => m) (l.length) ((hI0 _ _ _).2 ⟨(0), (l.length), ?_, ?_, ?_, ?_, ?_, ?_, (by omega), (by omega), (by omega), (by rfl)⟩) ?_
  iterate 6 (first | omega | (simp [go_sem, seval, fdiv2] <;> omega))
  intro m e H hi0
  obtain ⟨i, j, q0_0, q4_0, q2_0, q8_0, q9_0, q10_0, hj, hjl, hjm, hB⟩ := (hI0 _ _ _).1 hi0
  have F0 := And.intro q0_0 (And.intro q4_0 (And.intro q2_0 (And.intro q8_0 (And.intro q9_0 q10_0))))
  try simp [go_sem, seval, fdiv2, F0]
  refine condQ_mk (fun h3 => ?_) (fun h3 => ?_)
  · try simp [go_sem] at h3
    have hk : (i + j) / 2 < l.length := by omega
    have htn : (((i : Int) + (j : Int)) / 2).toNat = (i + j) / 2 := by omega
    have hu := inR_u64 (show 0 ≤ (i : Int) + (j : Int) by omega) (show (i : Int) + (j : Int) ≤ 18446744073709551615 by omega)
    obtain ⟨m', hm'⟩ : ∃ m', m = m' + 1 := ⟨m - 1, by omega⟩
    rw [hm'] at hB
    unfold bsG at hB
    rw [if_pos (by omega), List.getElem?_eq_getElem hk] at hB
    simp only [decide_eq_true_eq] at hB
    try simp [go_sem, seval, fdiv2, F0, h3, htn, List.getElem?_eq_getElem hk]
    repeat (first | intro _ | (refine ⟨obs, ?_⟩))
    refine dcallQ_pure0 ((statistic_compare l[(i + j) / 2] x (hs _ (List.getElem_mem hk)) hx)) ((by first | rfl | (simp [go_sem, ← List.map_take, ← List.map_drop, fdiv2, F0, h3, htn, List.getElem?_eq_getElem hk]; done))) ?_
    try simp [go_sem, seval, fdiv2, F0, h3, htn, List.getElem?_eq_getElem hk]
    repeat (first | intro _ | (refine ⟨obs, ?_⟩))
    refine condQ_mk (fun h5 => ?_) (fun h5 => ?_)
    · try simp [go_sem] at h5
      rw [if_pos h5] at hB
      obtain ⟨i', hi'⟩ : ∃ i' : Nat, i' = (i + j) / 2 + 1 := ⟨_, rfl⟩
      obtain ⟨j', hj'⟩ : ∃ j' : Nat, j' = j := ⟨_, rfl⟩
      have hB' : bsG (fun h => match l[h]? with | some y => decide (cmpC y x < 0) | none => false) (m - 1) i' j' = cntK l x := by rw [hi', hj', show m - 1 = m' by omega]; exact hB
      try simp [go_sem, seval, fdiv2, F0, h3, htn, List.getElem?_eq_getElem hk]
      repeat (first | intro _ | (refine ⟨obs, ?_⟩))
      refine nextQ_mk (m - 1) (by omega) ((hI0 _ _ _).2 ⟨(i'), (j'), ?_, ?_, ?_, ?_, ?_, ?_, (by omega), (by omega), (by omega), (by exact hB')⟩) <;> first | omega | (simp [go_sem, seval, fdiv2, F0, h3, htn, List.getElem?_eq_getElem hk] <;> omega)
    · try simp [go_sem] at h5
      rw [if_neg (by omega)] at hB
      obtain ⟨i', hi'⟩ : ∃ i' : Nat, i' = i := ⟨_, rfl⟩
      obtain ⟨j', hj'⟩ : ∃ j' : Nat, j' = (i + j) / 2 := ⟨_, rfl⟩
      have hB' : bsG (fun h => match l[h]? with | some y => decide (cmpC y x < 0) | none => false) (m - 1) i' j' = cntK l x := by rw [hi', hj', show m - 1 = m' by omega]; exact hB
      try simp [go_sem, seval, fdiv2, F0, h3, htn, List.getElem?_eq_getElem hk]
      refine nextQ_mk (m - 1) (by omega) ((hI0 _ _ _).2 ⟨(i'), (j'), ?_, ?_, ?_, ?_, ?_, ?_, (by omega), (by omega), (by omega), (by exact hB')⟩) <;> first | omega | (simp [go_sem, seval, fdiv2, F0, h3, htn, List.getElem?_eq_getElem hk] <;> omega)
  · try simp [go_sem] at h3
    rw [bsG_stop (by omega)] at hB
    have hcB : ∀ h : i < l.length, cntB l x = decide (cmpC l[i] x = 0) := fun h => by unfold cntB; rw [← hB, List.getElem?_eq_getElem h]
    have hcN : ¬ i < l.length → cntB l x = false := fun h => by unfold cntB; rw [← hB, List.getElem?_eq_none (by omega)]
    by_cases hlt : i < l.length
    · skip
      try simp [go_sem, seval, fdiv2, F0, hlt, List.getElem?_eq_getElem hlt, hcB hlt, ← hB]
      repeat (first | intro _ | (refine ⟨obs, ?_⟩))
      first | (refine dgcallQ_pure0 (fun hg => (by exact statistic_compare (l[i]'hlt) x (hs _ (List.getElem_mem _)) hx)) (fun hg => by simp [go_sem]) ?_) | (refine dgcallQ_pure0 (r := .int .i64 0) (fun hg => absurd hg (by simp)) (fun hg => absurd hg (by simp)) ?_)
      try simp [go_sem, seval, fdiv2, F0, hlt, List.getElem?_eq_getElem hlt, hcB hlt, ← hB]
      repeat (first | intro _ | (refine ⟨obs, ?_⟩))
      exact hQ _ _ (by first | (left; (simp [go_sem, fdiv2, F0, hlt, List.getElem?_eq_getElem hlt, hcB hlt, ← hB]; rfl); done) | (right; (simp [go_sem, fdiv2, F0, hlt, List.getElem?_eq_getElem hlt, hcB hlt, ← hB]; rfl); done))
    · skip
      try simp [go_sem, seval, fdiv2, F0, hlt, List.getElem?_eq_none (Nat.le_of_not_lt hlt), hcN hlt, ← hB]
      repeat (first | intro _ | (refine ⟨obs, ?_⟩))
      first | (refine dgcallQ_pure0 (fun hg => (by exact statistic_compare (l[i]'hlt) x (hs _ (List.getElem_mem _)) hx)) (fun hg => by simp [go_sem]) ?_) | (refine dgcallQ_pure0 (r := .int .i64 0) (fun hg => absurd hg (by simp)) (fun hg => absurd hg (by simp)) ?_)
      try simp [go_sem, seval, fdiv2, F0, hlt, List.getElem?_eq_none (Nat.le_of_not_lt hlt), hcN hlt, ← hB]
      repeat (first | intro _ | (refine ⟨obs, ?_⟩))
      exact hQ _ _ (by first | (left; (simp [go_sem, fdiv2, F0, hlt, List.getElem?_eq_none (Nat.le_of_not_lt hlt), hcN hlt, ← hB]); done) | (right; (simp [go_sem, fdiv2, F0, hlt, List.getElem?_eq_none (Nat.le_of_not_lt hlt), hcN hlt, ← hB]); done))
def insC (l : List Cnt) (k : Nat) (x : Cnt) : List Cnt := l.take k ++ x :: l.drop k
def cntF (l : List Cnt) (x : Cnt) : List Cnt := match cntB l x, l[cntK l x]? with
  | true, some y => l.set (cntK l x) { y with num := y.num + x.num }
  | _, _ => insC l (cntK l x) x
def InsOk (l : List Cnt) (k : Nat) (x : Cnt) : Prop := ∀ (G : AHeap) (id : Nat) (Q : D → AHeap → Prop), G.get id = some ⟨144, 4, l.map Cnt.c, false⟩ → id < G.next →
  (∀ id' H', id' < H'.next → H'.get id' = some ⟨144, 4, (insC l k x).map Cnt.c, false⟩ → Q (.own id' (l.length + 1)) H') → ACalls Tryz.prog 124 [.own id l.length, dI k, .list [x.c]] G Q
theorem insert_end (l : List Cnt) (hl : l.length ≤ 1000000) (x : Cnt) : InsOk l l.length x := by
  intro G id Q hg hid hQ
  refine acalls_of_sem Tryz.func124 rfl rfl (Nat.le_of_ble_eq_true rfl) ?_
  refine sem_seq (sem_awp (c := ⟨fun _ => false, fun _ => []⟩) Tz.mixed (by kernel_rfl) ?_)
  simp [go_sem, seval]
  refine sem_seq (sem_slice (rid := 1) (l := [_, _]) (md := fun _ => false) rfl (fun o ho => ?_) rfl Tz.sl104 ?_)
  · simp at ho; rcases ho with rfl | rfl <;> rfl
  simp [go_sem, seval]
  refine ⟨id, l.length, ⟨rfl, rfl⟩, _, hg, by simp, .i64, l.length, ⟨rfl, rfl⟩, by omega, by omega, ?_⟩
  refine sem_awp (c := ⟨fun _ => false, fun _ => []⟩) Tz.mixed (by kernel_rfl) ?_
  simp [go_sem, seval, hg]
  intro _
  exact ⟨by omega, hQ id _ (by simpa [go_sem] using hid) (by simp [go_sem, insC, dI])⟩
theorem clone_cnt0 : Own Tryz.prog 121 [.nil] 144 4 [] := by
  refine ownK (by first | rfl | (simp [go_sem]; done)) (fun Q hQ => (acalls_of_body (cfg := ⟨fun t => t == 2 || t == 5, fun _ => []⟩) Tz.mixed Tryz.func121 rfl rfl (Nat.le_of_ble_eq_true rfl) (by kernel_rfl) ?_))
  try simp [go_sem, seval]
  exact hQ _ _ _ (by simp [go_sem] <;> first | omega | (rw [Bool.eq_iff_iff]; simp <;> omega) | (simp_all <;> omega)) (by simp [go_sem] <;> first | omega | (rw [Bool.eq_iff_iff]; simp <;> omega) | (simp_all <;> omega))
theorem clone_cntE : Own Tryz.prog 121 [.ne] 144 4 [] := by
  refine ownK (by first | rfl | (simp [go_sem]; done)) (fun Q hQ => (acalls_of_body (cfg := ⟨fun t => t == 2 || t == 5, fun _ => []⟩) Tz.mixed Tryz.func121 rfl rfl (Nat.le_of_ble_eq_true rfl) (by kernel_rfl) ?_))
  try simp [go_sem, seval]
  repeat (first | intro _ | (refine ⟨obl, ?_⟩))
  exact hQ _ _ _ (by simp [go_sem] <;> first | omega | (rw [Bool.eq_iff_iff]; simp <;> omega) | (simp_all <;> omega)) (by simp [go_sem] <;> first | omega | (rw [Bool.eq_iff_iff]; simp <;> omega) | (simp_all <;> omega))
theorem clone_cntC (l : List Cnt) (hl : l.length ≤ 1000000) (hne : l ≠ []) : Own Tryz.prog 121 [.list (l.map Cnt.c)] 144 4 (l.map Cnt.c) := by
  refine ownK (by first | rfl | (simp [go_sem]; done)) (fun Q hQ => (acalls_of_body (cfg := ⟨fun t => t == 2 || t == 5, fun _ => []⟩) Tz.mixed Tryz.func121 rfl rfl (Nat.le_of_ble_eq_true rfl) (by kernel_rfl) ?_))
  try simp [go_sem, seval, hne]
  repeat (first | intro _ | (refine ⟨obl, ?_⟩))
  exact hQ _ _ _ (by simp [go_sem, hne] <;> first | omega | (rw [Bool.eq_iff_iff]; simp <;> omega) | (simp_all <;> omega)) (by simp [go_sem, hne] <;> first | omega | (rw [Bool.eq_iff_iff]; simp <;> omega) | (simp_all <;> omega))
theorem clone_cnt (l : List Cnt) (hl : l.length ≤ 1000000) : Own Tryz.prog 121 [.list (l.map Cnt.c)] 144 4 (l.map Cnt.c) := by
  by_cases hne : l = []
  · subst hne; exact own_split clone_cnt0 clone_cntE
  · exact clone_cntC l hl hne
theorem cntB_some {l : List Cnt} {x : Cnt} (h : cntB l x = true) : ∃ hk : cntK l x < l.length, cmpC l[cntK l x] x = 0 := by
  unfold cntB at h
  by_cases hk : cntK l x < l.length
  · rw [List.getElem?_eq_getElem hk] at h
    exact ⟨hk, by simpa using h⟩
  · rw [List.getElem?_eq_none (by omega)] at h; cases h
theorem statistic_counted (a : D) (l : List Cnt) (hl : l.length ≤ 1000) (ha : Own Tryz.prog 121 [a] 144 4 (l.map Cnt.c)) (hacl : a.cl = true) (hs : ∀ y ∈ l, y.small) (x : Cnt) (hx : x.small) (hi : cntB l x = false → InsOk l (cntK l x) x) :
    Own Tryz.prog 77 [a, .agg x.c] 144 4 ((cntF l x).map Cnt.c) := by
  refine ownK (by first | rfl | (simp [go_sem]; done)) (fun Q hQ => (acalls_of_body (cfg := ⟨fun t => t == 5, fun _ => []⟩) Tz.mixed Tryz.func77 rfl rfl (Nat.le_of_ble_eq_true rfl) (by kernel_rfl) ?_))
  try simp [go_sem, seval, hacl]
  refine callQ_own0 (ha) ((by first | rfl | (simp [go_sem, ← List.map_take, ← List.map_drop, hacl]; done))) ?_
  try simp [go_sem, seval, hacl]
  refine callQ_pureF ((bsearch_cnt _ l rfl x (by omega) hs hx)) (by simp [rsvC, rsvP, cellsAt, go_sem, ← List.map_take, ← List.map_drop, hacl]) ((by first | rfl | (simp [go_sem, ← List.map_take, ← List.map_drop, hacl]; done))) ( rfl) ?_
  try simp [go_sem, seval, hacl]
  repeat (first | intro _ | (refine ⟨obs, ?_⟩))
  refine condQ_mk (fun h3 => ?_) (fun h3 => ?_)
  · try simp [go_sem] at h3
    try simp [go_sem, seval, hacl]
    unfold callQ; refine hi h3 _ 0 _ (by simp [go_sem]) (by simp [go_sem]) (fun id' H' h1 h2 => ?_)
    have hF : cntF l x = insC l (cntK l x) x := by unfold cntF; rw [h3]
    try simp [go_sem, seval, hacl]
    exact hQ _ _ _ (by rw [hF]; simp [insC]; omega) (by rw [hF]; exact h2)
  · try simp [go_sem] at h3
    obtain ⟨hk, hk0⟩ := cntB_some (show cntB l x = true by simpa using h3)
    have q1 := (hs _ (List.getElem_mem hk)).2.2.2
    have q2 := hx.2.2.2
    have hF : cntF l x = l.set (cntK l x) { l[cntK l x] with num := l[cntK l x].num + x.num } := by unfold cntF; rw [List.getElem?_eq_getElem hk, show cntB l x = true by simpa using h3]
    try simp [go_sem, seval, hacl, List.getElem?_eq_getElem hk, hk]
    repeat (first | intro _ | (refine ⟨obs, ?_⟩))
    refine condQ_mk (fun h5 => ?_) (fun h5 => ?_)
    · simp at h5; omega
    · try simp [go_sem] at h5
      try simp [go_sem, seval, hacl, List.getElem?_eq_getElem hk, hk]
      repeat (first | intro _ | (refine ⟨obs, ?_⟩))
      exact hQ _ _ _ (by rw [hF]; simp) (by rw [hF]; simp [go_sem, List.map_set, List.getElem?_eq_getElem hk, dI])
end Go.Abs
end
section
set_option linter.unusedVariables false
set_option linter.unusedSimpArgs false
open Go Go.Proofs
namespace Go.Abs
def remB (ls : List (List Int)) (m : List Bool) (w l : List Int) (i : Nat) : Bool := decide (0 ≤ l[i]?.getD 0) && lowM ls m w (l[i]?.getD 0).toNat && (decide (i = 0) || decide (l[i - 1]?.getD 0 < l[i]?.getD 0))
def rightB (ls : List (List Int)) (n : Nat) (m : List Bool) (s : Stage) : Bool :=
  decide (s.weights.length = n) && !decide (s.removed = []) && !(s.weights.any oddB) && (List.range s.removed.length).all (remB ls m s.weights s.removed) && okM ls m s.weights
def chkL (ls : List (List Int)) (n : Nat) : List Stage → List Bool → Bool
  | [], m => decide (cntM m = 0)
  | s :: l, m => rightB ls n m s && chkL ls n l (offM m s.removed)
def chkF (t : Types) (rs : List Rule) (st : List Stage) : Bool :=
  decide (effsE t rs = 0) && chkL (effsV t rs) (t.nodes.length + t.edges.length) st (List.replicate rs.length true)
theorem lowM_on {ls : List (List Int)} {m : List Bool} {w : List Int} {i : Nat} (h : lowM ls m w i = true) : m[i]? = some true := by
  unfold lowM at h
  rw [Bool.and_eq_true] at h
  have h1 := h.1
  cases hm : m[i]? with
  | none => rw [hm] at h1; simp at h1
  | some b => rw [hm] at h1; simp at h1; rw [h1]
theorem rightB_on {ls : List (List Int)} {n : Nat} {m : List Bool} {s : Stage} (h : rightB ls n m s = true) : s.weights.length = n ∧ s.removed ≠ [] ∧ (∀ x ∈ s.weights, 0 ≤ x ∧ x ≤ 1000) ∧ s.removed.Nodup ∧ (∀ r ∈ s.removed, 0 ≤ r ∧ m[r.toNat]? = some true) := by
  unfold rightB at h
  simp only [Bool.and_eq_true, decide_eq_true_eq, Bool.not_eq_true', decide_eq_false_iff_not] at h
  obtain ⟨⟨⟨⟨h1, h2⟩, h3⟩, h4⟩, h5⟩ := h
  rw [List.all_eq_true] at h4
  have hrem : ∀ i, (hi : i < s.removed.length) → 0 ≤ s.removed[i] ∧ lowM ls m s.weights s.removed[i].toNat = true ∧ (i = 0 ∨ s.removed[i - 1]?.getD 0 < s.removed[i]) := fun i hi => by
    have := h4 i (List.mem_range.2 hi)
    unfold remB at this
    rw [List.getElem?_eq_getElem hi] at this
    simp only [Option.getD_some, Bool.and_eq_true, Bool.or_eq_true, decide_eq_true_eq] at this
    exact ⟨this.1.1, this.1.2, this.2⟩
  refine ⟨h1, h2, fun x hx => ?_, ?_, fun r hr => ?_⟩
  · have : oddB x = false := by
      cases ho : oddB x
      · rfl
      · rw [List.any_eq_true.2 ⟨x, hx, ho⟩] at h3; cases h3
    unfold oddB at this
    simp at this
    omega
  · have hlt : ∀ d i, (hd : i + d < s.removed.length) → 0 < d → s.removed[i]'(by omega) < s.removed[i + d] := by
      intro d
      induction d with
      | zero => intro i _ h; omega
      | succ d ih =>
        intro i hd _
        have h0 := (hrem (i + (d + 1)) hd).2.2
        rw [show i + (d + 1) - 1 = i + d by omega, List.getElem?_eq_getElem (by omega)] at h0
        simp only [Option.getD_some] at h0
        have h1 := h0.resolve_left (by omega)
        rcases Nat.eq_zero_or_pos d with h | h
        · subst h; exact h1
        · have := ih i (by omega) h
          omega
    refine List.pairwise_iff_getElem.2 fun i j hi hj hij he => ?_
    have := hlt (j - i) i (by omega) (by omega)
    simp only [show i + (j - i) = j by omega] at this
    omega
  · obtain ⟨i, hi, rfl⟩ := List.getElem_of_mem hr
    exact ⟨(hrem i hi).1, lowM_on (hrem i hi).2.1⟩
theorem lowL_asc (ls : List (List Int)) (m : List Bool) (w : List Int) : (lowL ls m w).Pairwise (· < ·) := by
  unfold lowL
  refine List.Pairwise.map _ (R := fun a b => a < b) (fun a b h => by show (a : Int) < (b : Int); omega) ?_
  exact List.Pairwise.filter _ List.pairwise_lt_range
theorem lowL_mem {ls : List (List Int)} {m : List Bool} {w : List Int} {r : Int} (h : r ∈ lowL ls m w) : 0 ≤ r ∧ lowM ls m w r.toNat = true := by
  unfold lowL at h
  rw [List.mem_map] at h
  obtain ⟨i, hi, rfl⟩ := h
  exact ⟨by omega, by simpa using (List.mem_filter.1 hi).2⟩
theorem rem_low (ls : List (List Int)) (m : List Bool) (w : List Int) : (List.range (lowL ls m w).length).all (remB ls m w (lowL ls m w)) = true := by
  rw [List.all_eq_true]
  intro i hi
  have hi := List.mem_range.1 hi
  have h := lowL_mem (List.getElem_mem hi)
  unfold remB
  rw [List.getElem?_eq_getElem hi]
  simp only [Option.getD_some, Bool.and_eq_true, Bool.or_eq_true, decide_eq_true_eq]
  refine ⟨h, ?_⟩
  rcases Nat.eq_zero_or_pos i with h0 | h0
  · exact .inl h0
  · right
    rw [List.getElem?_eq_getElem (by omega)]
    exact List.pairwise_iff_getElem.1 (lowL_asc ls m w) (i - 1) i (by omega) hi (by omega)
theorem any_odd {w : List Int} (h : ∀ x ∈ w, 0 ≤ x ∧ x ≤ 1000) : w.any oddB = false := by
  rw [Bool.eq_false_iff]
  intro ha
  obtain ⟨x, hx, ho⟩ := List.any_eq_true.1 ha
  have := h x hx
  unfold oddB at ho
  simp at ho
  omega
theorem rightB_best {ls : List (List Int)} {n : Nat} {m : List Bool} (h : (bestS ls n m).removed ≠ []) : rightB ls n m (bestS ls n m) = true := by
  rcases bestS_in ls n m with h0 | ⟨w, hw, hok, hl, h0⟩
  · rw [h0] at h; exact absurd rfl h
  · rw [h0]
    have hd := enumL_dig _ _ (zeros_dig n) w hw
    rw [List.length_replicate] at hd
    unfold rightB
    simp only [hd.1, decide_true, Bool.true_and, decide_eq_false hl, Bool.not_false, rem_low, hok, Bool.and_true, any_odd (fun x hx => by have := hd.2 x hx; omega)]
theorem chkL_stages {ls : List (List Int)} {n : Nat} : ∀ (k : Nat) (m : List Bool), cntM (stagesF ls n k m).2 = 0 → chkL ls n (stagesF ls n k m).1 m = true
  | 0, m, h => by simpa [stagesF, chkL] using h
  | k + 1, m, h => by
    by_cases h1 : cntM m = 0
    · rw [stagesF_stop (.inl h1)]; simpa [chkL] using h1
    · by_cases h2 : (bestS ls n m).removed = []
      · rw [stagesF_stop (.inr h2)] at h; exact absurd h h1
      · rw [stagesF_step h1 h2] at h ⊢
        simp only [chkL, rightB_best h2, Bool.true_and]
        exact chkL_stages k _ h
theorem chkF_stV {t : Types} {rs : List Rule} (h : effsE t rs = 0) (h2 : rstV t rs = []) : chkF t rs (stV t rs) = true := by
  have hr : restI (stgG t rs).2 = [] := by unfold rstV at h2; rw [if_pos h] at h2; simpa using h2
  unfold chkF stV
  rw [if_pos ⟨h, hr⟩, decide_eq_true h, Bool.true_and]
  exact chkL_stages _ _ (cntM_restI.1 hr)
end Go.Abs
end
