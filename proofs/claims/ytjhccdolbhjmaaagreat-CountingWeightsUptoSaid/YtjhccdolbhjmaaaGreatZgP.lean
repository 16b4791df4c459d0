/- counting.stages. · counting.Find, Rest; ref41.Find, Rest. ·  -/
import Derived.Test.YtjhccdolbhjmaaaGreatZgE
import Derived.Test.YtjhccdolbhjmaaaGreatZgO
set_option linter.unusedVariables false
set_option linter.unusedSimpArgs false
section
set_option maxRecDepth 8000
set_option maxHeartbeats 4000000
open Go Go.Proofs
namespace Go.Abs
theorem restX_mem {ls : List (List Int)} {m : List Bool} {l : List Int} (h : l ∈ restX ls m) : l ∈ ls := by
  unfold restX at h
  rw [List.mem_map] at h
  obtain ⟨i, hi, rfl⟩ := h
  have hi := List.mem_range.1 (List.mem_filter.1 hi).1
  rw [lge hi]
  exact lgm hi
theorem FX_rest {ls : List (List Int)} {n : Nat} {m : List Bool} (hl : ∀ l ∈ ls, l.length = n) (hb : ∀ l ∈ ls, ∀ x ∈ l, -100000 ≤ x ∧ x ≤ 100000) (ht : (touchL n ls).length ≤ 6) (hn : n ≤ 1000) : FX (restX ls m) (touchM n ls m) n :=
  ⟨fun l h => hl l (restX_mem h), fun l h => hb l (restX_mem h), touchM_in.2, Nat.le_trans touchM_few ht, hn⟩
theorem restI_all (n : Nat) : restI (List.replicate n true) = List.range n := by
  unfold restI
  rw [List.length_replicate, List.filter_eq_self]
  intro i hi
  rw [List.getElem?_replicate, if_pos (List.mem_range.1 hi)]; rfl
def Types.n (t : Types) : Nat := t.nodes.length + t.edges.length
def stgG (t : Types) (rs : List Rule) : List Stage × List Bool := stagesF (effsV t rs) (t.nodes.length + t.edges.length) rs.length (List.replicate rs.length true)
def stV (t : Types) (rs : List Rule) : List Stage := if effsE t rs = 0 ∧ restI (stgG t rs).2 = [] then (stgG t rs).1 else []
def rstV (t : Types) (rs : List Rule) : List Int := if effsE t rs = 0 then (restI (stgG t rs).2).map fun (i : Nat) => (i : Int) else []
theorem restI_lt {m : List Bool} {i : Nat} (h : i ∈ restI m) : i < m.length := (List.getElem?_eq_some_iff.1 (restI_mem.1 h)).1
theorem cntM_restI {m : List Bool} : restI m = [] ↔ cntM m = 0 := by
  rw [← restI_len, List.length_eq_zero_iff]
theorem filter_one {α : Type} (p : α → Bool) (a : α) : [a].filter p = if p a = true then [a] else [] := by simp [List.filter_cons]
theorem counting_stages (t : Types) (ht : t.ok) (rs : List Rule) (hr : ∀ r ∈ rs, r.ok) : Pure Tryz.prog 60 [t.d, .list (rs.map Rule.c)] (.tup [.list ((stV t rs).map Stage.c), dLI (rstV t rs), dI (effsE t rs)]) := by
  refine Tz.pK ⟨fun t => t == 9 || t == 11 || t == 16 || t == 17 || t == 18 || t == 53, fun r => match r with | 17 => [(2, 9), (3, 9), (4, 9)] | 23 => [(2, 6), (3, 6), (4, 6)] | _ => []⟩ Tryz.func60 rfl (fun Q hQ => ?_)
  try simp [go_sem, restI_all]
  refine cq0 (counting_effects t ht rs hr) ?_
  try simp [go_sem, restI_all]
  refine condQ_mk (fun h2 => ?_) (fun h2 => ?_)
  · try simp [go_sem] at h2
    try simp [go_sem, restI_all]
    exact hQ _ _ (by first | (left; (simp [go_sem, stV, rstV, h2]); done) | (right; (simp [go_sem, stV, rstV, h2]); done))
  · try simp [go_sem] at h2
    have hv := valid_of (effsE_of h2).1
    have hN := hv.fewN
    have hE := hv.fewE
    have hV : effsV t rs = rs.map (effV t) := if_pos h2
    have hT : effsT t rs = touchL (t.nodes.length + t.edges.length) (effsV t rs) := by rw [hV]; exact if_pos h2
    have hX0 := FX_of h2
    have hVl : (effsV t rs).length = rs.length := by rw [hV, List.length_map]
    have hlen6 := (effsE_of h2).2.1
    have hn0 : 0 < t.nodes.length + t.edges.length := by have := hv.ne; omega
    have hTf : (touchL (t.nodes.length + t.edges.length) (effsV t rs)).length ≤ 6 := by rw [← hT]; exact hX0.few
    have hxl := hX0.xl
    have hxb := hX0.xb
    obtain ⟨ls, hls⟩ : ∃ ls, effsV t rs = ls := ⟨_, rfl⟩
    obtain ⟨N, hNn⟩ : ∃ N, t.nodes.length + t.edges.length = N := ⟨_, rfl⟩
    have hNi : (t.nodes.length : Int) + t.edges.length = (N : Int) := by omega
    have hstg : stgG t rs = stagesF ls N rs.length (List.replicate rs.length true) := by unfold stgG; rw [hls, hNn]
    rw [hls] at hVl hTf hxl hxb
    rw [hNn] at hn0 hTf hxl
    try simp [go_sem, restI_all, hls, hNi]
    repeat first | intro _ | refine ⟨obs, ?_⟩
    obtain ⟨I0, hI0⟩ := mkI fun i e H => ((e 2 = .adr t.c) ∧ (e 1 = .list (rs.map Rule.c)) ∧ (e 7 = .list (ls.map cL)) ∧ (e 9 = .own 0 i) ∧ (e 31 = dI rs.length) ∧ (e 32 = dI i) ∧ (H.get 0 = some ⟨3, 1, ((List.range i).map fun (b : Nat) => (b : Int)).map cI, false⟩) ∧ (0 < H.next) ∧ (i ≤ rs.length))
    refine loopK I0 (fun i => rs.length - i) (0) ((hI0 _ _ _).2 ⟨?_, ?_, ?_, ?_, ?_, ?_, (by rfl), ?_, (by first | assumption | omega | (simp [go_sem, restI_all, hls, hNi]; done) | (simp_all; done))⟩) ?_
    iterate 7 (first | omega | (simp [go_sem, restI_all, hls, hNi] <;> omega))
    intro i e H hi0
    obtain ⟨q2_0, q1_0, q7_0, q9_0, q31_0, q32_0, g0_0, n0_0, hi⟩ := (hI0 _ _ _).1 hi0
    have x0 := frs n0_0
    have F0 := And.intro q2_0 (And.intro q1_0 (And.intro q7_0 (And.intro q9_0 (And.intro q31_0 (And.intro q32_0 (And.intro g0_0 x0))))))
    try simp [go_sem, restI_all, hls, hNi, F0]
    refine condQ_mk (fun h6 => ?_) (fun h6 => ?_)
    ·try simp [go_sem] at h6
     try simp [go_sem, restI_all, hls, hNi, F0, h6]
     repeat first | intro _ | refine ⟨obs, ?_⟩
     refine nextQ_mk (i + 1) (by omega) ((hI0 _ _ _).2 ⟨?_, ?_, ?_, ?_, ?_, ?_, (by (simp [go_sem, restI_all, hls, hNi, F0, h6, List.range_succ])), ?_, (by first | assumption | omega | (simp [go_sem, restI_all, hls, hNi, F0, h6, h2]; done) | (simp_all <;> omega))⟩) <;> first | omega | (simp [go_sem, restI_all, hls, hNi, F0, h6] <;> omega)
    ·try simp [go_sem] at h6
     have hie : i = rs.length := by omega
     subst hie
     try simp [go_sem, restI_all, hls, hNi, F0]
     obtain ⟨I2, hI2⟩ := mkI fun k e H => (∃ m : List Bool, ∃ r : Nat, ∃ o : Nat, ∃ out : List Stage, (e 2 = .adr t.c) ∧ (e 1 = .list (rs.map Rule.c)) ∧ (e 7 = .list (ls.map cL)) ∧ (e 9 = .own r (restI m).length) ∧ (e 11 = .own o out.length) ∧ (H.get r = some ⟨3, 1, ((restI m).map fun (b : Nat) => (b : Int)).map cI, false⟩) ∧ (r < H.next) ∧ (H.get o = some ⟨33, 2, out.map Stage.c, false⟩) ∧ (o < H.next) ∧ (r ≠ o) ∧ (m.length = rs.length) ∧ (cntM m ≤ k) ∧ (out.length + k ≤ rs.length) ∧ (stagesF ls N rs.length (List.replicate rs.length true) = (out ++ (stagesF ls N k m).1, (stagesF ls N k m).2)))
     refine loopK I2 (fun k => k) (rs.length) ((hI2 _ _ _).2 ⟨(List.replicate rs.length true), (0), (H.next), ([]), ?_, ?_, ?_, ?_, ?_, ?_, ?_, ?_, ?_, (by omega), (by simp), (by (rw [cntM_all]; exact Nat.le_refl _)), (by simp), (by simp)⟩) ?_
     iterate 9 (first | omega | (simp [go_sem, restI_all, hls, hNi, F0] <;> omega))
     intro k e H hi2
     obtain ⟨m, r, o, out, q2_2, q1_2, q7_2, q9_2, q11_2, gr_2, nr_2, go_2, no_2, hro, hm, hk, hol, hF⟩ := (hI2 _ _ _).1 hi2
     have xr := frs nr_2
     have xo := frs no_2
     have F2 := And.intro q2_2 (And.intro q1_2 (And.intro q7_2 (And.intro q9_2 (And.intro q11_2 (And.intro gr_2 (And.intro go_2 (And.intro xr xo)))))))
     have di1 := nep (show o ≠ r by omega)
     try simp [go_sem, restI_all, hls, hNi, F2, di1]
     repeat first | intro _ | refine ⟨obs, ?_⟩
     refine condQ_mk (fun h11 => ?_) (fun h11 => ?_)
     ·try simp [go_sem] at h11
      have hrl := restI_len m
      have hkp : 0 < k := by omega
      have hml : m.length = ls.length := by omega
      have hXm := FX_rest (m := m) hxl hxb hTf (by omega)
      have hXr := restX_restI hml
      have hXl : (restX ls m).length = (restI m).length := by rw [hXr, List.length_map]
      have hrlt : ∀ i, (h : i < (restI m).length) → (restI m)[i] < ls.length := fun i h => by have := restI_lt (lgm h); omega
      try simp [go_sem, restI_all, hls, hNi, F2, di1, h11, hXl]
      repeat first | intro _ | refine ⟨obs, ?_⟩
      obtain ⟨I4, hI4⟩ := mkI fun j e H => (∃ q : Nat, ∃ f : Nat, ∃ ee : Nat, (e 2 = .adr t.c) ∧ (e 1 = .list (rs.map Rule.c)) ∧ (e 7 = .list (ls.map cL)) ∧ (e 9 = .own r (restI m).length) ∧ (e 11 = .own o out.length) ∧ (e 12 = dI N) ∧ (e 13 = .ptr f 1 0 0) ∧ (e 54 = .own r (restI m).length) ∧ (e 55 = dI (restI m).length) ∧ (e 56 = dI j) ∧ (H.get f = some ⟨169, 7, [[.own ee j, .nil, .own q N, dI 0, .nil, dI 0, dI 0]], false⟩) ∧ (f < H.next) ∧ (H.get ee = some ⟨31, 1, ((restX ls m).take j).map cL, false⟩) ∧ (ee < H.next) ∧ (H.get q = some ⟨3, 1, (List.replicate N (0 : Int)).map cI, false⟩) ∧ (q < H.next) ∧ (H.get r = some ⟨3, 1, ((restI m).map fun (b : Nat) => (b : Int)).map cI, false⟩) ∧ (r < H.next) ∧ (H.get o = some ⟨33, 2, out.map Stage.c, false⟩) ∧ (o < H.next) ∧ (j ≤ (restI m).length) ∧ (r < q ∧ o < q ∧ q < f ∧ f < ee))
      refine loopKG (Ghosts.step (Ghosts.refl _) (H.next+1) 0 0 31 1 _ _ ((by simp [go_sem] : AHeap.get _ _ = some ⟨169, 7, [[.nil, .nil, .own H.next N, dI 0, .nil, dI 0, dI 0]], false⟩)) rfl rfl rfl) I4 (fun j => (restI m).length - j) (0) ((hI4 _ _ _).2 ⟨(H.next), (H.next + 1), (H.next + 2), ?_, ?_, ?_, ?_, ?_, ?_, ?_, ?_, ?_, ?_, ?_, ?_, ?_, ?_, ?_, ?_, ?_, ?_, ?_, ?_, (by first | assumption | omega | (simp [go_sem, restI_all, hls, hNi, F2, di1, h11, hXl]; done) | (simp_all; done)), (by omega)⟩) ?_
      iterate 20 (first | omega | (simp [go_sem, restI_all, hls, hNi, F2, di1, h11, hXl] <;> omega))
      intro j e H hi4
      obtain ⟨q, f, ee, q2_4, q1_4, q7_4, q9_4, q11_4, q12_4, q13_4, q54_4, q55_4, q56_4, gf_4, nf_4, gee_4, nee_4, gq_4, nq_4, gr_4, nr_4, go_4, no_4, hj, ho4⟩ := (hI4 _ _ _).1 hi4
      have xf := frs nf_4
      have xee := frs nee_4
      have xq := frs nq_4
      have xr := frs nr_4
      have xo := frs no_4
      have F4 := And.intro q2_4 (And.intro q1_4 (And.intro q7_4 (And.intro q9_4 (And.intro q11_4 (And.intro q12_4 (And.intro q13_4 (And.intro q54_4 (And.intro q55_4 (And.intro q56_4 (And.intro gf_4 (And.intro gq_4 (And.intro gr_4 (And.intro go_4 (And.intro xf (And.intro xee (And.intro xq (And.intro xr xo)))))))))))))))))
      have di2 := And.intro (nep (show ee ≠ f by omega)) (And.intro (nep (show ee ≠ q by omega)) (And.intro (nep (show ee ≠ o by omega)) (And.intro (nep (show ee ≠ r by omega)) (And.intro (nep (show f ≠ q by omega)) (And.intro (nep (show f ≠ o by omega)) (And.intro (nep (show f ≠ r by omega)) (And.intro (nep (show q ≠ o by omega)) (And.intro (nep (show q ≠ r by omega)) (nep (show o ≠ r by omega))))))))))
      try simp [go_sem, restI_all, hls, hNi, di1, h11, hXl, F4, gee_4, di2]
      refine condQ_mk (fun h15 => ?_) (fun h15 => ?_)
      ·try simp [go_sem] at h15
       have hri := hrlt j h15
       have hxj : (restX ls m).take (j + 1) = (restX ls m).take j ++ [ls[(restI m)[j]]] := by rw [List.take_succ_eq_append_getElem (by omega)]; congr 2; simp [hXr, lge hri]
       try simp [go_sem, restI_all, hls, hNi, di1, h11, hXl, F4, gee_4, di2, h15, hri, lge hri, hxj]
       repeat first | intro _ | refine ⟨obs, ?_⟩
       refine nextQ_mk (j + 1) (by omega) ((hI4 _ _ _).2 ⟨(q), (f), (ee), ?_, ?_, ?_, ?_, ?_, ?_, ?_, ?_, ?_, ?_, ?_, ?_, ?_, ?_, ?_, ?_, ?_, ?_, ?_, ?_, (by first | assumption | omega | (simp [go_sem, restI_all, hls, hNi, di1, h11, hXl, F4, gee_4, di2, h15, hri, lge hri, hxj, h2, h6]; done) | (simp_all <;> omega)), (by omega)⟩) <;> first | omega | (simp [go_sem, restI_all, hls, hNi, di1, h11, hXl, F4, gee_4, di2, h15, hri, lge hri, hxj] <;> omega)
      ·try simp [go_sem] at h15
       have hje : j = (restI m).length := by omega
       subst hje
       rw [List.take_of_length_le (by omega)] at gee_4
       try simp [go_sem, restI_all, hls, hNi, di1, h11, hXl, F4, gee_4, di2]
       obtain ⟨I6, hI6⟩ := mkI fun x e H => (∃ c : Nat, ∃ ys : List Int, (e 2 = .adr t.c) ∧ (e 1 = .list (rs.map Rule.c)) ∧ (e 7 = .list (ls.map cL)) ∧ (e 9 = .own r (restI m).length) ∧ (e 11 = .own o out.length) ∧ (e 12 = dI N) ∧ (e 13 = .ptr f 1 0 0) ∧ (e 74 = dI N) ∧ (e 75 = dI x) ∧ (H.get f = some ⟨169, 7, [[.own ee (restI m).length, .own c ys.length, .own q N, dI 0, .nil, dI 0, dI 0]], false⟩) ∧ (f < H.next) ∧ (H.get ee = some ⟨31, 1, (restX ls m).map cL, false⟩) ∧ (ee < H.next) ∧ (H.get c = some ⟨3, 1, ys.map cI, false⟩) ∧ (c < H.next) ∧ (H.get q = some ⟨3, 1, (List.replicate N (0 : Int)).map cI, false⟩) ∧ (q < H.next) ∧ (H.get r = some ⟨3, 1, ((restI m).map fun (b : Nat) => (b : Int)).map cI, false⟩) ∧ (r < H.next) ∧ (H.get o = some ⟨33, 2, out.map Stage.c, false⟩) ∧ (o < H.next) ∧ (x ≤ N) ∧ (ys.length ≤ x) ∧ (ys = ((List.range x).filter fun (k : Nat) => (restX ls m).any fun l => decide (l[k]?.getD 0 ≠ 0)).map (fun (b : Nat) => (b : Int))) ∧ (r < q ∧ o < q ∧ q < f ∧ f < ee ∧ ee < c))
       refine loopKG (Ghosts.step (Ghosts.refl _) f 0 1 3 1 _ _ (gf_4) rfl rfl rfl) I6 (fun x => N - x) (0) ((hI6 _ _ _).2 ⟨(H.next), ([]), ?_, ?_, ?_, ?_, ?_, ?_, ?_, ?_, ?_, ?_, ?_, ?_, ?_, ?_, ?_, ?_, ?_, ?_, ?_, ?_, ?_, (by first | assumption | omega | (simp [go_sem, restI_all, hls, hNi, di1, h11, hXl, F4, gee_4, di2]; done) | (simp_all; done)), (by simp), (by rfl), (by omega)⟩) ?_
       iterate 21 (first | omega | (simp [go_sem, restI_all, hls, hNi, di1, h11, hXl, F4, gee_4, di2] <;> omega))
       intro x e H hi6
       obtain ⟨c, ys, q2_6, q1_6, q7_6, q9_6, q11_6, q12_6, q13_6, q74_6, q75_6, gf_6, nf_6, gee_6, nee_6, gc_6, nc_6, gq_6, nq_6, gr_6, nr_6, go_6, no_6, hx, hyl, hy, ho6⟩ := (hI6 _ _ _).1 hi6
       have xf := frs nf_6
       have xee := frs nee_6
       have xc := frs nc_6
       have xq := frs nq_6
       have xr := frs nr_6
       have xo := frs no_6
       have F6 := And.intro q2_6 (And.intro q1_6 (And.intro q7_6 (And.intro q9_6 (And.intro q11_6 (And.intro q12_6 (And.intro q13_6 (And.intro q74_6 (And.intro q75_6 (And.intro gf_6 (And.intro gee_6 (And.intro gc_6 (And.intro gq_6 (And.intro gr_6 (And.intro go_6 (And.intro xf (And.intro xee (And.intro xc (And.intro xq (And.intro xr xo)))))))))))))))))))
       have di3 := And.intro (nep (show c ≠ ee by omega)) (And.intro (nep (show c ≠ f by omega)) (And.intro (nep (show c ≠ q by omega)) (And.intro (nep (show c ≠ o by omega)) (And.intro (nep (show c ≠ r by omega)) (And.intro (nep (show ee ≠ f by omega)) (And.intro (nep (show ee ≠ q by omega)) (And.intro (nep (show ee ≠ o by omega)) (And.intro (nep (show ee ≠ r by omega)) (And.intro (nep (show f ≠ q by omega)) (And.intro (nep (show f ≠ o by omega)) (And.intro (nep (show f ≠ r by omega)) (And.intro (nep (show q ≠ o by omega)) (And.intro (nep (show q ≠ r by omega)) (nep (show o ≠ r by omega)))))))))))))))
       try simp [go_sem, restI_all, hls, hNi, di1, h11, hXl, di2, F6, di3]
       refine condQ_mk (fun h20 => ?_) (fun h20 => ?_)
       ·try simp [go_sem] at h20
        try simp [go_sem, restI_all, hls, hNi, di1, h11, hXl, di2, F6, di3, h20]
        refine callQ_pureC ((containsFunc_ints (restX ls m) 90 [.adr [dI x]] (fun l => decide (l[x]?.getD 0 ≠ 0)) (by simp [go_sem]) (by simp [go_sem]) (fun l hl => counting_stages1 l x (by have := hXm.xl l hl; omega)))) (by simp [rsvC, rsvP, cellsAt, go_sem, ← List.map_take, ← List.map_drop, restI_all, hls, hNi, di1, h11, hXl, di2, F6, di3, h20]) ((by first | rfl | (simp [go_sem, ← List.map_take, ← List.map_drop, restI_all, hls, hNi, di1, h11, hXl, di2, F6, di3, h20]; done))) ( rfl) ?_
        try simp [go_sem, restI_all, hls, hNi, di1, h11, hXl, di2, F6, di3, h20]
        refine condQ_mk (fun h22 => ?_) (fun h22 => ?_)
        ·try simp [go_sem] at h22
         try simp [go_sem, restI_all, hls, hNi, di1, h11, hXl, di2, F6, di3, h20, h22]
         repeat first | intro _ | refine ⟨obs, ?_⟩
         refine nextQ_mk (x + 1) (by omega) ((hI6 _ _ _).2 ⟨(c), (ys ++ (if ((restX ls m).any fun l => decide (l[x]?.getD 0 ≠ 0)) = true then [(x : Int)] else [])), ?_, ?_, ?_, ?_, ?_, ?_, ?_, ?_, ?_, ?_, ?_, ?_, ?_, ?_, ?_, ?_, ?_, ?_, ?_, ?_, ?_, (by first | assumption | omega | (simp [go_sem, restI_all, hls, hNi, di1, h11, hXl, di2, F6, di3, h20, h22, h2, h6, h15]; done) | (simp_all <;> omega)), (by (rw [List.length_append]; split <;> simp <;> omega)), (by (rw [range_filter_succ, ← hy])), (by omega)⟩) <;> first | omega | (simp [go_sem, restI_all, hls, hNi, di1, h11, hXl, di2, F6, di3, h20, h22] <;> omega)
        ·try simp [go_sem] at h22
         try simp [go_sem, restI_all, hls, hNi, di1, h11, hXl, di2, F6, di3, h20, h22]
         repeat first | intro _ | refine ⟨obs, ?_⟩
         refine nextQ_mk (x + 1) (by omega) ((hI6 _ _ _).2 ⟨(c), (ys ++ (if ((restX ls m).any fun l => decide (l[x]?.getD 0 ≠ 0)) = true then [(x : Int)] else [])), ?_, ?_, ?_, ?_, ?_, ?_, ?_, ?_, ?_, ?_, ?_, ?_, ?_, ?_, ?_, ?_, ?_, ?_, ?_, ?_, ?_, (by first | assumption | omega | (simp [go_sem, restI_all, hls, hNi, di1, h11, hXl, di2, F6, di3, h20, h22, h2, h6, h15]; done) | (simp_all <;> omega)), (by (rw [List.length_append]; split <;> simp <;> omega)), (by (rw [range_filter_succ, ← hy])), (by omega)⟩) <;> first | omega | (simp [go_sem, restI_all, hls, hNi, di1, h11, hXl, di2, F6, di3, h20, h22] <;> omega)
       ·try simp [go_sem] at h20
        have hxe : N = x := by omega
        subst hxe
        have hT6 : ys = touchM N ls m := by rw [hy, touchM_rest]; rfl
        subst hT6
        obtain ⟨B, hBe⟩ : ∃ B, tryB (restX ls m) (touchM N ls m) (List.replicate N 0) 0 ⟨[], 0, 0⟩ = B := ⟨_, rfl⟩
        have hSB := best_SB ls N hn0 m
        have hBo := tryB_ok (xs := restX ls m) (nn := N) (touchM N ls m) (List.replicate N 0) 0 ⟨[], 0, 0⟩ (by simp) (zeros_dig N) (.inl ⟨rfl, rfl⟩)
        rw [hBe] at hSB hBo
        try simp [go_sem, restI_all, hls, hNi, di1, h11, hXl, di2, F6, di3]
        unfold callQ; refine finder_try f ee c q ⟨by omega, by omega, by omega, by omega, by omega, by omega⟩ (restX ls m) (touchM N ls m) N hXm (by omega) hn0 touchM_in.1 (touchM N ls m).length 0 (List.replicate N 0) 0 ⟨[], 0, 0⟩ _ _ (by omega) (by omega) (by omega) (fun _ _ _ => zeros_get N _) (by omega) (by omega) (by omega) (by omega) ⟨by simp [go_sem, restI_all, hls, hNi, di1, h11, hXl, di2, F6, di3, hXl, bestD], by simp [restI_all, hls, hNi, di1, h11, hXl, di2, F6, di3], by simp [restI_all, hls, hNi, di1, h11, hXl, di2, F6, di3], by simp [restI_all, hls, hNi, di1, h11, hXl, di2, F6, di3], by simp, zeros_dig N⟩ (fun H2 hF2 hfr2 hn2 => ?_)
        rw [List.drop_zero, hBe] at hF2
        have kf := hF2.bf
        have ke := hF2.be
        have kc := hF2.bc
        have kq := hF2.bq
        have kr := hfr2 r (by omega) (by omega) (by omega)
        have ko := hfr2 o (by omega) (by omega) (by omega)
        simp only [restI_all, hls, hNi, di1, h11, hXl, di2, F6, di3] at kr ko
        have fr4 := And.intro (frs (show r < H2.next by omega)) (And.intro (frs (show o < H2.next by omega)) (And.intro (frs (show f < H2.next by omega)) (And.intro (frs (show ee < H2.next by omega)) (And.intro (frs (show c < H2.next by omega)) (frs (show q < H2.next by omega))))))
        try simp [go_sem, restI_all, hls, hNi, di1, h11, hXl, di2, F6, di3, kf, ke, kc, kq, kr, ko, fr4]
        refine condQ_mk (fun h26 => ?_) (fun h26 => ?_)
        ·try simp [go_sem] at h26
         have hr0 : (bestS ls N m).removed = [] := by
          rcases hSB with ⟨h, _⟩ | ⟨_, _, _, h, _⟩
          ·rw [h]
          ·omega
         rw [stagesF_stop (k := k) (m := m) (.inr hr0)] at hF
         have hne : restI m ≠ [] := by intro h; rw [h] at h11; simp at h11
         try simp [go_sem, restI_all, hls, hNi, di1, h11, hXl, di2, F6, di3, kf, ke, kc, kq, kr, ko, fr4]
         exact hQ _ _ (by first | (left; (simp [go_sem, restI_all, hls, hNi, di1, h11, hXl, di2, F6, di3, kf, ke, kc, kq, kr, ko, fr4, stV, rstV, h2, hstg, hF, hne]); done) | (right; (simp [go_sem, restI_all, hls, hNi, di1, h11, hXl, di2, F6, di3, kf, ke, kc, kq, kr, ko, fr4, stV, rstV, h2, hstg, hF, hne]); done))
        ·try simp [go_sem] at h26
         obtain ⟨hBw, hBS, hBd, hBp, hBs⟩ : B.w ≠ [] ∧ bestS ls N m = ⟨B.w, lowL ls m B.w⟩ ∧ B.d = (lowL ls m B.w).length ∧ 0 < B.d ∧ B.s = B.w.sum := by
          rcases hSB with ⟨_, h⟩ | h
          ·exact absurd h h26
          ·exact h
         have hBi : BestIn (restX ls m) N B := by
          rcases hBo with ⟨h, _⟩ | h
          ·exact absurd h hBw
          ·exact h
         have hbd : bestD B = .list (B.w.map cI) := if_neg hBw
         rw [hbd] at kf
         have hrem : (bestS ls N m).removed = lowL ls m B.w := by rw [hBS]
         have hr0 : (bestS ls N m).removed ≠ [] := by rw [hrem]; intro h; rw [h] at hBd; simp at hBd; omega
         have hon := lowL_on (ls := ls) (m := m) hml B.w
         have hoff := cntM_off _ _ hon.1 hon.2
         rw [← hrem] at hoff
         have hrp : 0 < (bestS ls N m).removed.length := List.length_pos_iff.2 hr0
         obtain ⟨k2, hk2⟩ : ∃ k2, k = k2 + 1 := ⟨k - 1, by omega⟩
         rw [hk2, stagesF_step (k := k2) (m := m) (by omega) hr0] at hF
         try simp [go_sem, restI_all, hls, hNi, di1, h11, hXl, di2, F6, di3, kf, ke, kc, kq, kr, ko, fr4]
         repeat first | intro _ | refine ⟨obs, ?_⟩
         obtain ⟨I8, hI8⟩ := mkI fun j e H => (∃ a : Nat, ∃ b : Nat, ∃ A : List Nat, ∃ E : List Nat, (e 2 = .adr t.c) ∧ (e 1 = .list (rs.map Rule.c)) ∧ (e 7 = .list (ls.map cL)) ∧ (e 9 = .own r (restI m).length) ∧ (e 11 = .own o out.length) ∧ (e 13 = .ptr f 1 0 0) ∧ (e 17 = .own a A.length) ∧ (e 18 = .own b E.length) ∧ (e 103 = .own r (restI m).length) ∧ (e 104 = dI (restI m).length) ∧ (e 105 = dI j) ∧ (H.get f = some ⟨169, 7, [[.own ee (restX ls m).length, .own c (touchM N ls m).length, .own q N, dI 0, .list (B.w.map cI), dI B.s, dI B.d]], false⟩) ∧ (f < H.next) ∧ (H.get a = some ⟨3, 1, (A.map fun (b : Nat) => (b : Int)).map cI, false⟩) ∧ (a < H.next) ∧ (H.get b = some ⟨3, 1, (E.map fun (b : Nat) => (b : Int)).map cI, false⟩) ∧ (b < H.next) ∧ (H.get r = some ⟨3, 1, ((restI m).map fun (b : Nat) => (b : Int)).map cI, false⟩) ∧ (r < H.next) ∧ (H.get o = some ⟨33, 2, out.map Stage.c, false⟩) ∧ (o < H.next) ∧ (j ≤ (restI m).length) ∧ (A.length ≤ j ∧ E.length ≤ j) ∧ (A = ((restI m).take j).filter (fun i => decide (prodF B.w (ls[i]?.getD []) < 0))) ∧ (E = ((restI m).take j).filter (fun i => !decide (prodF B.w (ls[i]?.getD []) < 0))) ∧ (r < f ∧ o < f ∧ f < a ∧ a < b))
         refine loopK I8 (fun j => (restI m).length - j) (0) ((hI8 _ _ _).2 ⟨(H2.next), (H2.next + 1), ([]), ([]), ?_, ?_, ?_, ?_, ?_, ?_, ?_, ?_, ?_, ?_, ?_, ?_, ?_, ?_, ?_, ?_, ?_, ?_, ?_, ?_, ?_, (by first | assumption | omega | (simp [go_sem, restI_all, hls, hNi, di1, h11, hXl, di2, F6, di3, kf, ke, kc, kq, kr, ko, fr4]; done) | (simp_all; done)), (by simp), (by rfl), (by rfl), (by omega)⟩) ?_
         iterate 21 (first | omega | (simp [go_sem, restI_all, hls, hNi, di1, h11, hXl, di2, F6, di3, kf, ke, kc, kq, kr, ko, fr4] <;> omega))
         intro j e H hi8
         obtain ⟨a, b, A, E, q2_8, q1_8, q7_8, q9_8, q11_8, q13_8, q17_8, q18_8, q103_8, q104_8, q105_8, gf_8, nf_8, ga_8, na_8, gb_8, nb_8, gr_8, nr_8, go_8, no_8, hj, hAE, hA, hEE, ho8⟩ := (hI8 _ _ _).1 hi8
         have xf := frs nf_8
         have xa := frs na_8
         have xb := frs nb_8
         have xr := frs nr_8
         have xo := frs no_8
         have F8 := And.intro q2_8 (And.intro q1_8 (And.intro q7_8 (And.intro q9_8 (And.intro q11_8 (And.intro q13_8 (And.intro q17_8 (And.intro q18_8 (And.intro q103_8 (And.intro q104_8 (And.intro q105_8 (And.intro gf_8 (And.intro ga_8 (And.intro gb_8 (And.intro gr_8 (And.intro go_8 (And.intro xf (And.intro xa (And.intro xr xo))))))))))))))))))
         have di5 := And.intro (nep (show b ≠ a by omega)) (And.intro (nep (show b ≠ f by omega)) (And.intro (nep (show b ≠ o by omega)) (And.intro (nep (show b ≠ r by omega)) (And.intro (nep (show a ≠ f by omega)) (And.intro (nep (show a ≠ o by omega)) (And.intro (nep (show a ≠ r by omega)) (And.intro (nep (show f ≠ o by omega)) (And.intro (nep (show f ≠ r by omega)) (nep (show o ≠ r by omega))))))))))
         try simp [go_sem, restI_all, hls, hNi, di1, h11, hXl, di2, di3, kf, ke, kc, kq, kr, ko, fr4, F8, xb, di5]
         refine condQ_mk (fun h30 => ?_) (fun h30 => ?_)
         ·try simp [go_sem] at h30
          have hri := hrlt j h30
          try simp [go_sem, restI_all, hls, hNi, di1, h11, hXl, di2, di3, kf, ke, kc, kq, kr, ko, fr4, F8, xb, di5, h30, hri, lge hri]
          repeat first | intro _ | refine ⟨obs, ?_⟩
          refine dcallQ_pureF ((counting_product B.w ls[(restI m)[j]] ⟨by rw [hxl _ (lgm _), hBi.len]; exact Nat.le_refl _, by rw [hBi.len]; omega, fun y hy => by have := hBi.dig y hy; omega, hxb _ (lgm _)⟩)) (by simp [rsvC, rsvP, cellsAt, go_sem, ← List.map_take, ← List.map_drop, restI_all, hls, hNi, di1, h11, hXl, di2, di3, kf, ke, kc, kq, kr, ko, fr4, F8, xb, di5, h30, hri, lge hri]) ((by first | rfl | (simp [go_sem, ← List.map_take, ← List.map_drop, restI_all, hls, hNi, di1, h11, hXl, di2, di3, kf, ke, kc, kq, kr, ko, fr4, F8, xb, di5, h30, hri, lge hri]; done))) ( rfl) rfl (by simp [go_sem, restI_all, hls, hNi, di1, h11, hXl, di2, di3, kf, ke, kc, kq, kr, ko, fr4, F8, xb, di5, h30, hri, lge hri]) ?_
          try simp [go_sem, restI_all, hls, hNi, di1, h11, hXl, di2, di3, kf, ke, kc, kq, kr, ko, fr4, F8, xb, di5, h30, hri, lge hri]
          repeat first | intro _ | refine ⟨obs, ?_⟩
          refine condQ_mk (fun h32 => ?_) (fun h32 => ?_)
          ·try simp [go_sem] at h32
           try simp [go_sem, restI_all, hls, hNi, di1, h11, hXl, di2, di3, kf, ke, kc, kq, kr, ko, fr4, F8, xb, di5, h30, hri, lge hri, h32]
           repeat first | intro _ | refine ⟨obs, ?_⟩
           refine nextQ_mk (j + 1) (by omega) ((hI8 _ _ _).2 ⟨(a), (b), (A ++ (if decide (prodF B.w (ls[(restI m)[j]]?.getD []) < 0) = true then [(restI m)[j]] else [])), (E ++ (if (!decide (prodF B.w (ls[(restI m)[j]]?.getD []) < 0)) = true then [(restI m)[j]] else [])), ?_, ?_, ?_, ?_, ?_, ?_, ?_, ?_, ?_, ?_, ?_, ?_, ?_, ?_, ?_, ?_, ?_, ?_, ?_, ?_, ?_, (by first | assumption | omega | (simp [go_sem, restI_all, hls, hNi, di1, h11, hXl, di2, di3, kf, ke, kc, kq, kr, ko, fr4, F8, xb, di5, h30, hri, lge hri, h32, h2, h6, h15, h20, h26]; done) | (simp_all <;> omega)), (by (constructor <;> (rw [List.length_append]; split <;> simp <;> omega))), (by (rw [List.take_succ_eq_append_getElem h30, List.filter_append, ← hA, filter_one])), (by (rw [List.take_succ_eq_append_getElem h30, List.filter_append, ← hEE, filter_one])), (by omega)⟩) <;> first | omega | (simp [go_sem, restI_all, hls, hNi, di1, h11, hXl, di2, di3, kf, ke, kc, kq, kr, ko, fr4, F8, xb, di5, h30, hri, lge hri, h32] <;> omega)
          ·try simp [go_sem] at h32
           try simp [go_sem, restI_all, hls, hNi, di1, h11, hXl, di2, di3, kf, ke, kc, kq, kr, ko, fr4, F8, xb, di5, h30, hri, lge hri, h32]
           repeat first | intro _ | refine ⟨obs, ?_⟩
           refine nextQ_mk (j + 1) (by omega) ((hI8 _ _ _).2 ⟨(a), (b), (A ++ (if decide (prodF B.w (ls[(restI m)[j]]?.getD []) < 0) = true then [(restI m)[j]] else [])), (E ++ (if (!decide (prodF B.w (ls[(restI m)[j]]?.getD []) < 0)) = true then [(restI m)[j]] else [])), ?_, ?_, ?_, ?_, ?_, ?_, ?_, ?_, ?_, ?_, ?_, ?_, ?_, ?_, ?_, ?_, ?_, ?_, ?_, ?_, ?_, (by first | assumption | omega | (simp [go_sem, restI_all, hls, hNi, di1, h11, hXl, di2, di3, kf, ke, kc, kq, kr, ko, fr4, F8, xb, di5, h30, hri, lge hri, h32, h2, h6, h15, h20, h26]; done) | (simp_all <;> omega)), (by (constructor <;> (rw [List.length_append]; split <;> simp <;> omega))), (by (rw [List.take_succ_eq_append_getElem h30, List.filter_append, ← hA, filter_one])), (by (rw [List.take_succ_eq_append_getElem h30, List.filter_append, ← hEE, filter_one])), (by omega)⟩) <;> first | omega | (simp [go_sem, restI_all, hls, hNi, di1, h11, hXl, di2, di3, kf, ke, kc, kq, kr, ko, fr4, F8, xb, di5, h30, hri, lge hri, h32] <;> omega)
         ·try simp [go_sem] at h30
          rw [List.take_of_length_le (by omega)] at hA hEE
          have hAl : A.map (fun (b : Nat) => (b : Int)) = lowL ls m B.w := by rw [hA, lowL_restI hml]
          have hEl : restI (offM m (lowL ls m B.w)) = E := by rw [hEE, restI_off hml]
          have hAn : (lowL ls m B.w).length = A.length := by rw [← hAl, List.length_map]
          try simp [go_sem, restI_all, hls, hNi, di1, h11, hXl, di2, di3, kf, ke, kc, kq, kr, ko, fr4, F8, xb, di5, hBS, hAl, hEl, hAn, Stage.c, dLI]
          repeat first | intro _ | refine ⟨obs, ?_⟩
          refine nextQ_mk (k - 1) (by omega) ((hI2 _ _ _).2 ⟨(offM m (bestS ls N m).removed), (b), (o), (out ++ [bestS ls N m]), ?_, ?_, ?_, ?_, ?_, ?_, ?_, ?_, ?_, (by omega), (by (rw [offM_len]; exact hm)), (by omega), (by (simp; omega)), (by (rw [show k - 1 = k2 by omega, hF]; simp))⟩) <;> first | omega | (simp [go_sem, restI_all, hls, hNi, di1, h11, hXl, di2, di3, kf, ke, kc, kq, kr, ko, fr4, F8, xb, di5, hBS, hAl, hEl, hAn, Stage.c, dLI] <;> omega)
     ·try simp [go_sem] at h11
      have hr1 : restI m = [] := by simpa using h11
      have hr2 : cntM m = 0 := cntM_restI.1 hr1
      rw [stagesF_stop (k := k) (m := m) (.inl hr2)] at hF
      try simp [go_sem, restI_all, hls, hNi, F2, di1]
      exact hQ _ _ (by first | (left; (simp [go_sem, restI_all, hls, hNi, F2, di1, stV, rstV, h2, hstg, hF, hr1]); done) | (right; (simp [go_sem, restI_all, hls, hNi, F2, di1, stV, rstV, h2, hstg, hF, hr1]); done))
end Go.Abs
end
section
set_option maxRecDepth 8000
set_option maxHeartbeats 2000000
open Go Go.Proofs
namespace Go.Abs
def findE (t : Types) (rs : List Rule) : Int := if effsE t rs = 0 ∧ rstV t rs ≠ [] then 10 else effsE t rs
theorem counting_Find (t : Types) (ht : t.ok) (rs : List Rule) (hr : ∀ r ∈ rs, r.ok) : Pure Tryz.prog 23 [t.d, .list (rs.map Rule.c)] (.tup [.list ((stV t rs).map Stage.c), dI (findE t rs)]) := by
  refine Tz.pK ⟨fun _ => false, fun _ => []⟩ Tryz.func23 rfl (fun Q hQ => ?_)
  try simp [go_sem]
  refine cq0 (counting_stages t ht rs hr) ?_
  try simp [go_sem]
  repeat (first | intro _ | (refine ⟨obl, ?_⟩))
  refine condQ_mk (fun h2 => ?_) (fun h2 => ?_)
  · try simp [go_sem] at h2
    have hE : findE t rs = 10 := if_pos ⟨h2.1, fun h => by rw [h] at h2; simp at h2⟩
    try simp [go_sem]
    exact hQ _ _ (.inl (by simp [go_sem, hE]))
  · try simp [go_sem] at h2
    have hE : findE t rs = effsE t rs := if_neg (fun h => h.2 (h2 h.1))
    try simp [go_sem]
    exact hQ _ _ (.inl (by simp [go_sem, hE]))
end Go.Abs
end
section
set_option maxRecDepth 8000
set_option maxHeartbeats 1000000
open Go Go.Proofs
namespace Go.Abs
def numL (n : Nat) : List Int := (List.range n).map fun (k : Nat) => (k : Int)
theorem numL_succ (i : Nat) : numL (i + 1) = numL i ++ [(i : Int)] := by simp [numL, List.range_succ]
theorem numL_len (n : Nat) : (numL n).length = n := by simp [numL]
theorem numL_mem {n : Nat} {x : Int} (h : x ∈ numL n) : 0 ≤ x ∧ x < n := by
  simp only [numL, List.mem_map, List.mem_range] at h
  obtain ⟨k, hk, rfl⟩ := h; omega
theorem ref05_Numbers (n : Nat) (hn : n ≤ 100000) : Own Tryz.prog 204 [dI 0, dI n] 3 1 ((numL n).map cI) := by
  refine Tz.oK ⟨fun t => t == 5, fun _ => []⟩ Tryz.func204 rfl (fun Q hQ => ?_)
  try simp [go_sem]
  obtain ⟨I0, hI0⟩ := mkI fun i e H => ((e 0 = dI 0) ∧ (e 1 = dI n) ∧ (e 5 = .own 0 i) ∧ (e 6 = dI i) ∧ (H.get 0 = some ⟨3, 1, (numL i).map cI, false⟩) ∧ (0 < H.next) ∧ (i ≤ n) ∧ ((numL i).length = i))
  refine loopK I0 (fun i => n - i) (0) ((hI0 _ _ _).2 ⟨?_, ?_, ?_, ?_, (by rfl), ?_, (by first | assumption | omega | (simp [go_sem]; done) | (simp_all; done)), (by (exact numL_len _))⟩) ?_
  iterate 5 (first | omega | (simp [go_sem] <;> omega))
  intro i e H hi0
  obtain ⟨q0_0, q1_0, q5_0, q6_0, g0_0, n0_0, hi, hl⟩ := (hI0 _ _ _).1 hi0
  have x0 := frs n0_0
  have F0 := And.intro q0_0 (And.intro q1_0 (And.intro q5_0 (And.intro q6_0 (And.intro g0_0 x0))))
  try simp [go_sem, F0, hl]
  refine condQ_mk (fun h3 => ?_) (fun h3 => ?_)
  · try simp [go_sem] at h3
    try simp [go_sem, F0, hl, h3]
    repeat (first | intro _ | (refine ⟨obl, ?_⟩))
    refine nextQ_mk (i + 1) (by omega) ((hI0 _ _ _).2 ⟨?_, ?_, ?_, ?_, (by (simp [go_sem, F0, hl, h3, numL_succ])), ?_, (by first | assumption | omega | (simp [go_sem, F0, hl, h3]; done) | (simp_all <;> omega)), (by (exact numL_len _))⟩) <;> first | omega | (simp [go_sem, F0, hl, h3] <;> omega)
  · try simp [go_sem] at h3
    have hie : i = n := by omega
    subst hie
    try simp [go_sem, F0, hl]
    exact hQ _ _ _ (by simp [go_sem, F0, hl, numL_len]) (by simp [go_sem, F0, hl, numL_len])
theorem ref02_Finest (n : Nat) (hn : n ≤ 100000) : Pure Tryz.prog 253 [dI n] (dLI (numL n)) := by
  refine Tz.pK ⟨fun t => t == 3, fun _ => []⟩ Tryz.func253 rfl (fun Q hQ => ?_)
  try simp [go_sem]
  obtain ⟨I0, hI0⟩ := mkI fun i e H => ((e 0 = dI n) ∧ (e 3 = .own 0 i) ∧ (e 4 = dI i) ∧ (H.get 0 = some ⟨3, 1, (numL i).map cI, false⟩) ∧ (0 < H.next) ∧ (i ≤ n) ∧ ((numL i).length = i))
  refine loopK I0 (fun i => n - i) (0) ((hI0 _ _ _).2 ⟨?_, ?_, ?_, (by rfl), ?_, (by first | assumption | omega | (simp [go_sem]; done) | (simp_all; done)), (by (exact numL_len _))⟩) ?_
  iterate 4 (first | omega | (simp [go_sem] <;> omega))
  intro i e H hi0
  obtain ⟨q0_0, q3_0, q4_0, g0_0, n0_0, hi, hl⟩ := (hI0 _ _ _).1 hi0
  have x0 := frs n0_0
  have F0 := And.intro q0_0 (And.intro q3_0 (And.intro q4_0 (And.intro g0_0 x0)))
  try simp [go_sem, F0, hl]
  refine condQ_mk (fun h3 => ?_) (fun h3 => ?_)
  · try simp [go_sem] at h3
    try simp [go_sem, F0, hl, h3]
    repeat (first | intro _ | (refine ⟨obl, ?_⟩))
    refine nextQ_mk (i + 1) (by omega) ((hI0 _ _ _).2 ⟨?_, ?_, ?_, (by (simp [go_sem, F0, hl, h3, numL_succ])), ?_, (by first | assumption | omega | (simp [go_sem, F0, hl, h3]; done) | (simp_all <;> omega)), (by (exact numL_len _))⟩) <;> first | omega | (simp [go_sem, F0, hl, h3] <;> omega)
  · try simp [go_sem] at h3
    have hie : i = n := by omega
    subst hie
    try simp [go_sem, F0, hl]
    exact hQ _ _ (by simp [go_sem, F0, hl, h3] <;> first | omega | (rw [bei]; simp <;> omega) | (simp_all <;> omega))
def abstB (t : Types) (i : Nat) : Bool := match t.nodes[i]? with | some n => n.abs | none => false
def concL (t : Types) : List Int := ((List.range t.nodes.length).filter fun i => !abstB t i).map fun (i : Nat) => (i : Int)
theorem ref24_concrete (t : Types) (hn : t.nodes.length ≤ 100000) : Pure Tryz.prog 203 [t.d] (dLI (concL t)) := by
  refine Tz.pK ⟨fun t => t == 3, fun _ => []⟩ Tryz.func203 rfl (fun Q hQ => ?_)
  try simp [go_sem]
  obtain ⟨I0, hI0⟩ := mkI fun i e H => (∃ ys : List Int, (e 1 = .adr t.c) ∧ (e 3 = .own 0 ys.length) ∧ (e 4 = dI i) ∧ (H.get 0 = some ⟨3, 1, ys.map cI, false⟩) ∧ (0 < H.next) ∧ (i ≤ t.nodes.length) ∧ (ys.length ≤ i) ∧ (ys = ((List.range i).filter fun i => !abstB t i).map (fun (b : Nat) => (b : Int))))
  refine loopK I0 (fun i => t.nodes.length - i) (0) ((hI0 _ _ _).2 ⟨([]), ?_, ?_, ?_, ?_, ?_, (by first | assumption | omega | (simp [go_sem]; done) | (simp_all; done)), (by simp), (by rfl)⟩) ?_
  iterate 5 (first | omega | (simp [go_sem] <;> omega))
  intro i e H hi0
  obtain ⟨ys, q1_0, q3_0, q4_0, g0_0, n0_0, hi, hyl, hy⟩ := (hI0 _ _ _).1 hi0
  have x0 := frs n0_0
  have F0 := And.intro q1_0 (And.intro q3_0 (And.intro q4_0 (And.intro g0_0 x0)))
  try simp [go_sem, F0]
  repeat (first | intro _ | (refine ⟨obl, ?_⟩))
  refine condQ_mk (fun h3 => ?_) (fun h3 => ?_)
  · try simp [go_sem] at h3
    have hab : abstB t i = t.nodes[i].abs := by simp [abstB, lge h3]
    try simp [go_sem, F0, h3, lge h3, hab]
    repeat (first | intro _ | (refine ⟨obl, ?_⟩))
    refine condQ_mk (fun h5 => ?_) (fun h5 => ?_)
    ·try simp [go_sem] at h5
     try simp [go_sem, F0, h3, lge h3, hab, h5]
     repeat (first | intro _ | (refine ⟨obl, ?_⟩))
     refine nextQ_mk (i + 1) (by omega) ((hI0 _ _ _).2 ⟨(ys ++ (if (!abstB t i) = true then [(i : Int)] else [])), ?_, ?_, ?_, ?_, ?_, (by first | assumption | omega | (simp [go_sem, F0, h3, lge h3, hab, h5]; done) | (simp_all <;> omega)), (by (rw [List.length_append]; split <;> simp <;> omega)), (by (rw [range_filter_succ, ← hy]))⟩) <;> first | omega | (simp [go_sem, F0, h3, lge h3, hab, h5] <;> omega)
    ·try simp [go_sem] at h5
     try simp [go_sem, F0, h3, lge h3, hab, h5]
     repeat (first | intro _ | (refine ⟨obl, ?_⟩))
     refine nextQ_mk (i + 1) (by omega) ((hI0 _ _ _).2 ⟨(ys ++ (if (!abstB t i) = true then [(i : Int)] else [])), ?_, ?_, ?_, ?_, ?_, (by first | assumption | omega | (simp [go_sem, F0, h3, lge h3, hab, h5]; done) | (simp_all <;> omega)), (by (rw [List.length_append]; split <;> simp <;> omega)), (by (rw [range_filter_succ, ← hy]))⟩) <;> first | omega | (simp [go_sem, F0, h3, lge h3, hab, h5] <;> omega)
  · try simp [go_sem] at h3
    have hY : concL t = ys := by rw [hy, show i = t.nodes.length by omega]; rfl
    try simp [go_sem, F0]
    exact hQ _ _ (.inl (by simp [go_sem, F0, hY]))
theorem ref15_concrete (t : Types) (hn : t.nodes.length ≤ 100000) : Pure Tryz.prog 84 [t.d] (dLI (concL t)) := by
  refine Tz.pK ⟨fun t => t == 3, fun _ => []⟩ Tryz.func84 rfl (fun Q hQ => ?_)
  try simp [go_sem]
  obtain ⟨I0, hI0⟩ := mkI fun i e H => (∃ ys : List Int, (e 1 = .adr t.c) ∧ (e 3 = .own 0 ys.length) ∧ (e 4 = dI i) ∧ (H.get 0 = some ⟨3, 1, ys.map cI, false⟩) ∧ (0 < H.next) ∧ (i ≤ t.nodes.length) ∧ (ys.length ≤ i) ∧ (ys = ((List.range i).filter fun i => !abstB t i).map (fun (b : Nat) => (b : Int))))
  refine loopK I0 (fun i => t.nodes.length - i) (0) ((hI0 _ _ _).2 ⟨([]), ?_, ?_, ?_, ?_, ?_, (by first | assumption | omega | (simp [go_sem]; done) | (simp_all; done)), (by simp), (by rfl)⟩) ?_
  iterate 5 (first | omega | (simp [go_sem] <;> omega))
  intro i e H hi0
  obtain ⟨ys, q1_0, q3_0, q4_0, g0_0, n0_0, hi, hyl, hy⟩ := (hI0 _ _ _).1 hi0
  have x0 := frs n0_0
  have F0 := And.intro q1_0 (And.intro q3_0 (And.intro q4_0 (And.intro g0_0 x0)))
  try simp [go_sem, F0]
  repeat (first | intro _ | (refine ⟨obl, ?_⟩))
  refine condQ_mk (fun h3 => ?_) (fun h3 => ?_)
  · try simp [go_sem] at h3
    have hab : abstB t i = t.nodes[i].abs := by simp [abstB, lge h3]
    try simp [go_sem, F0, h3, lge h3, hab]
    repeat (first | intro _ | (refine ⟨obl, ?_⟩))
    refine condQ_mk (fun h5 => ?_) (fun h5 => ?_)
    ·try simp [go_sem] at h5
     try simp [go_sem, F0, h3, lge h3, hab, h5]
     repeat (first | intro _ | (refine ⟨obl, ?_⟩))
     refine nextQ_mk (i + 1) (by omega) ((hI0 _ _ _).2 ⟨(ys ++ (if (!abstB t i) = true then [(i : Int)] else [])), ?_, ?_, ?_, ?_, ?_, (by first | assumption | omega | (simp [go_sem, F0, h3, lge h3, hab, h5]; done) | (simp_all <;> omega)), (by (rw [List.length_append]; split <;> simp <;> omega)), (by (rw [range_filter_succ, ← hy]))⟩) <;> first | omega | (simp [go_sem, F0, h3, lge h3, hab, h5] <;> omega)
    ·try simp [go_sem] at h5
     try simp [go_sem, F0, h3, lge h3, hab, h5]
     repeat (first | intro _ | (refine ⟨obl, ?_⟩))
     refine nextQ_mk (i + 1) (by omega) ((hI0 _ _ _).2 ⟨(ys ++ (if (!abstB t i) = true then [(i : Int)] else [])), ?_, ?_, ?_, ?_, ?_, (by first | assumption | omega | (simp [go_sem, F0, h3, lge h3, hab, h5]; done) | (simp_all <;> omega)), (by (rw [List.length_append]; split <;> simp <;> omega)), (by (rw [range_filter_succ, ← hy]))⟩) <;> first | omega | (simp [go_sem, F0, h3, lge h3, hab, h5] <;> omega)
  · try simp [go_sem] at h3
    have hY : concL t = ys := by rw [hy, show i = t.nodes.length by omega]; rfl
    try simp [go_sem, F0]
    exact hQ _ _ (.inl (by simp [go_sem, F0, hY]))
def markL (b : List Bool) : List Int := (restI b).map fun (i : Nat) => (i : Int)
theorem ref07_marked (b : List Bool) (hn : b.length ≤ 100000) : Pure Tryz.prog 251 [.list (b.map cB)] (dLI (markL b)) := by
  refine Tz.pK ⟨fun t => t == 3, fun _ => []⟩ Tryz.func251 rfl (fun Q hQ => ?_)
  try simp [go_sem]
  obtain ⟨I0, hI0⟩ := mkI fun i e H => (∃ ys : List Int, (e 0 = .list (b.map cB)) ∧ (e 3 = .own 0 ys.length) ∧ (e 4 = dI i) ∧ (H.get 0 = some ⟨3, 1, ys.map cI, false⟩) ∧ (0 < H.next) ∧ (i ≤ b.length) ∧ (ys.length ≤ i) ∧ (ys = ((List.range i).filter fun i => b[i]?.getD false).map (fun (b : Nat) => (b : Int))))
  refine loopK I0 (fun i => b.length - i) (0) ((hI0 _ _ _).2 ⟨([]), ?_, ?_, ?_, ?_, ?_, (by first | assumption | omega | (simp [go_sem]; done) | (simp_all; done)), (by simp), (by rfl)⟩) ?_
  iterate 5 (first | omega | (simp [go_sem] <;> omega))
  intro i e H hi0
  obtain ⟨ys, q0_0, q3_0, q4_0, g0_0, n0_0, hi, hyl, hy⟩ := (hI0 _ _ _).1 hi0
  have x0 := frs n0_0
  have F0 := And.intro q0_0 (And.intro q3_0 (And.intro q4_0 (And.intro g0_0 x0)))
  try simp [go_sem, F0]
  repeat (first | intro _ | (refine ⟨obl, ?_⟩))
  refine condQ_mk (fun h3 => ?_) (fun h3 => ?_)
  · try simp [go_sem] at h3
    have hgd : b[i]?.getD false = b[i] := by rw [lge h3]; rfl
    try simp [go_sem, F0, h3, lge h3, hgd]
    repeat (first | intro _ | (refine ⟨obl, ?_⟩))
    refine condQ_mk (fun h5 => ?_) (fun h5 => ?_)
    ·try simp [go_sem] at h5
     try simp [go_sem, F0, h3, lge h3, hgd, h5]
     repeat (first | intro _ | (refine ⟨obl, ?_⟩))
     refine nextQ_mk (i + 1) (by omega) ((hI0 _ _ _).2 ⟨(ys ++ (if b[i]?.getD false = true then [(i : Int)] else [])), ?_, ?_, ?_, ?_, ?_, (by first | assumption | omega | (simp [go_sem, F0, h3, lge h3, hgd, h5]; done) | (simp_all <;> omega)), (by (rw [List.length_append]; split <;> simp <;> omega)), (by (rw [range_filter_succ, ← hy]))⟩) <;> first | omega | (simp [go_sem, F0, h3, lge h3, hgd, h5] <;> omega)
    ·try simp [go_sem] at h5
     try simp [go_sem, F0, h3, lge h3, hgd, h5]
     repeat (first | intro _ | (refine ⟨obl, ?_⟩))
     refine nextQ_mk (i + 1) (by omega) ((hI0 _ _ _).2 ⟨(ys ++ (if b[i]?.getD false = true then [(i : Int)] else [])), ?_, ?_, ?_, ?_, ?_, (by first | assumption | omega | (simp [go_sem, F0, h3, lge h3, hgd, h5]; done) | (simp_all <;> omega)), (by (rw [List.length_append]; split <;> simp <;> omega)), (by (rw [range_filter_succ, ← hy]))⟩) <;> first | omega | (simp [go_sem, F0, h3, lge h3, hgd, h5] <;> omega)
  · try simp [go_sem] at h3
    have hY : markL b = ys := by rw [hy, show i = b.length by omega]; rfl
    try simp [go_sem, F0]
    exact hQ _ _ (.inl (by simp [go_sem, F0, hY]))
theorem ref05_Copied (g : Graph) (hn : g.nodes.length ≤ 100000) (he : g.edges.length ≤ 100000) : Pure Tryz.prog 165 [g.d] g.d := by
  refine Tz.pK ⟨fun t => t == 2 || t == 3 || t == 7, fun r => match r with | 1 => [(0, 1), (0, 2), (0, 4), (1, 4), (2, 4), (3, 4), (0, 5), (3, 5), (4, 5), (0, 6), (3, 6), (4, 6)] | _ => []⟩ Tryz.func165 rfl (fun Q hQ => ?_)
  try simp [go_sem]
  repeat (first | intro _ | (refine ⟨obl, ?_⟩))
  exact hQ _ _ (by simp [go_sem] <;> first | omega | (rw [bei]; simp <;> omega) | (simp_all <;> omega))
theorem ref06_Of (g : Graph) (hn : g.nodes.length ≤ 100000) (he : g.edges.length ≤ 100000) : Pure Tryz.prog 206 [g.d] (Part.d ⟨numL g.nodes.length, numL g.edges.length⟩) := by
  refine Tz.pK ⟨fun t => t == 2, fun _ => []⟩ Tryz.func206 rfl (fun Q hQ => ?_)
  try simp [go_sem]
  repeat (first | intro _ | (refine ⟨obl, ?_⟩))
  refine dcq0 (ref02_Finest g.nodes.length hn) ?_
  try simp [go_sem]
  repeat (first | intro _ | (refine ⟨obl, ?_⟩))
  refine dcq0 (ref02_Finest g.edges.length he) ?_
  try simp [go_sem]
  repeat (first | intro _ | (refine ⟨obl, ?_⟩))
  exact hQ _ _ (by simp [go_sem] <;> first | omega | (rw [bei]; simp <;> omega) | (simp_all <;> omega))
theorem ref05_permutation (l : List Int) (hb : ∀ x ∈ l, 0 ≤ x ∧ x < l.length) (hd : ∀ a b, a < b → b < l.length → l[a]? ≠ l[b]?) : Pure Tryz.prog 205 [dLI l] (dI 0) := by
  refine Tz.pK ⟨fun _ => false, fun _ => []⟩ Tryz.func205 rfl (fun Q hQ => ?_)
  try simp [go_sem]
  obtain ⟨I0, hI0⟩ := mkI fun i e H => ((e 0 = dLI l) ∧ (e 3 = dI i) ∧ (i ≤ l.length))
  refine loopK I0 (fun i => l.length - i) (0) ((hI0 _ _ _).2 ⟨?_, ?_, (by first | assumption | omega | (simp [go_sem]; done) | (simp_all; done))⟩) ?_
  iterate 2 (first | omega | (simp [go_sem] <;> omega))
  intro i e H hi0
  obtain ⟨q0_0, q3_0, hi⟩ := (hI0 _ _ _).1 hi0
  have F0 := And.intro q0_0 q3_0
  try simp [go_sem, F0]
  repeat (first | intro _ | (refine ⟨obl, ?_⟩))
  refine condQ_mk (fun h2 => ?_) (fun h2 => ?_)
  · try simp [go_sem] at h2
    have hx := hb _ (lgm h2)
    try simp [go_sem, F0, h2, lge h2]
    repeat (first | intro _ | (refine ⟨obl, ?_⟩))
    refine condQ_mk (fun h4 => ?_) (fun h4 => ?_)
    ·simp [lge h2] at h4; omega
    ·try simp [go_sem] at h4
     try simp [go_sem, F0, h2, lge h2]
     repeat (first | intro _ | (refine ⟨obl, ?_⟩))
     refine nextQ_mk (i + 1) (by omega) ((hI0 _ _ _).2 ⟨?_, ?_, (by first | assumption | omega | (simp [go_sem, F0, h2, lge h2, h4]; done) | (simp_all <;> omega))⟩) <;> first | omega | (simp [go_sem, F0, h2, lge h2] <;> omega)
  · try simp [go_sem] at h2
    try simp [go_sem, F0]
    obtain ⟨I2, hI2⟩ := mkI fun k e H => ((e 0 = dLI l) ∧ (e 4 = dI k) ∧ (k ≤ l.length))
    refine loopK I2 (fun k => l.length - k) (0) ((hI2 _ _ _).2 ⟨?_, ?_, (by first | assumption | omega | (simp [go_sem, F0]; done) | (simp_all; done))⟩) ?_
    iterate 2 (first | omega | (simp [go_sem, F0] <;> omega))
    intro k e H hi2
    obtain ⟨q0_2, q4_2, hk⟩ := (hI2 _ _ _).1 hi2
    have F2 := And.intro q0_2 q4_2
    try simp [go_sem, F2]
    repeat (first | intro _ | (refine ⟨obl, ?_⟩))
    refine condQ_mk (fun h7 => ?_) (fun h7 => ?_)
    ·try simp [go_sem] at h7
     try simp [go_sem, F2, h7, lge h7, h7]
     obtain ⟨I4, hI4⟩ := mkI fun m e H => ((e 0 = dLI l) ∧ (e 4 = dI k) ∧ (e 5 = dI m) ∧ (m ≤ k))
     refine loopK I4 (fun m => k - m) (0) ((hI4 _ _ _).2 ⟨?_, ?_, ?_, (by first | assumption | omega | (simp [go_sem, F2, h7, lge h7, h7]; done) | (simp_all; done))⟩) ?_
     iterate 3 (first | omega | (simp [go_sem, F2, h7, lge h7, h7] <;> omega))
     intro m e H hi4
     obtain ⟨q0_4, q4_4, q5_4, hm⟩ := (hI4 _ _ _).1 hi4
     have F4 := And.intro q0_4 (And.intro q4_4 q5_4)
     try simp [go_sem, h7, lge h7, h7, F4]
     refine condQ_mk (fun h10 => ?_) (fun h10 => ?_)
     ·try simp [go_sem] at h10
      have hml : m < l.length := by omega
      try simp [go_sem, h7, lge h7, h7, F4, h10, lge hml, hml]
      repeat (first | intro _ | (refine ⟨obl, ?_⟩))
      refine condQ_mk (fun h12 => ?_) (fun h12 => ?_)
      ·exact absurd (show l[k] = l[m] by simpa [lge h7, lge hml] using h12) (fun he => hd m k h10 h7 (by rw [lge hml, lge h7, he]))
      ·try simp [go_sem] at h12
       try simp [go_sem, h7, lge h7, h7, F4, h10, lge hml, hml]
       repeat (first | intro _ | (refine ⟨obl, ?_⟩))
       refine nextQ_mk (m + 1) (by omega) ((hI4 _ _ _).2 ⟨?_, ?_, ?_, (by first | assumption | omega | (simp [go_sem, h7, lge h7, h7, F4, h10, lge hml, hml, h2, h12]; done) | (simp_all <;> omega))⟩) <;> first | omega | (simp [go_sem, h7, lge h7, h7, F4, h10, lge hml, hml] <;> omega)
     ·try simp [go_sem] at h10
      try simp [go_sem, h7, lge h7, h7, F4]
      repeat (first | intro _ | (refine ⟨obl, ?_⟩))
      refine nextQ_mk (k + 1) (by omega) ((hI2 _ _ _).2 ⟨?_, ?_, (by first | assumption | omega | (simp [go_sem, h7, lge h7, h7, F4, h2, h10]; done) | (simp_all <;> omega))⟩) <;> first | omega | (simp [go_sem, h7, lge h7, h7, F4] <;> omega)
    ·try simp [go_sem] at h7
     try simp [go_sem, F2]
     exact hQ _ _ (by simp [go_sem, F2, h2, h7] <;> first | omega | (rw [bei]; simp <;> omega) | (simp_all <;> omega))
def swpL (xs : List Int) (i j : Nat) : List Int := (xs.set i (xs[j]?.getD 0)).set j (xs[i]?.getD 0)
theorem swpL_len (xs : List Int) (i j : Nat) : (swpL xs i j).length = xs.length := by simp [swpL]
end Go.Abs
end
section
set_option maxRecDepth 8000
set_option maxHeartbeats 2000000
open Go Go.Proofs
namespace Go.Abs
abbrev B2 := UInt8 × UInt8
def cP (x : B2) : List D := [.int .u8 (x.1.toNat : Int), .int .u8 (x.2.toNat : Int)]
theorem u8_lt (x : UInt8) : (x.toNat : Int) < 256 := by have := x.toNat_lt; omega
@[go_sem] theorem cPs_cl (l : List B2) : D.clLL (l.map cP) = true := clLL_map _ (fun _ => rfl) l
def tyA : ByteArray := ⟨#[65, 66, 67, 68, 69, 70]⟩
def tyU : ByteArray := ⟨#[117, 118, 119, 120, 121, 122]⟩
def tyE : ByteArray := ⟨#[101, 102, 103, 104, 105]⟩
def madeN (i : Nat) (x : B2) : NodeTy :=
  ⟨tyA.extract i (i + 1), (x.1.toNat : Int).tmod ((i : Int) + 1) - 1, ((x.1.toNat : Int) / 16).tmod 4 == 3,
    if (x.2.toNat : Int).tmod 4 = 1 then [⟨tyU.extract i (i + 1), -3, 3 + ((x.2.toNat : Int) / 4).tmod 9, []⟩]
    else if (x.2.toNat : Int).tmod 4 = 2 then [⟨tyU.extract i (i + 1), 0, 1, [⟨#[111, 102, 102]⟩, ⟨#[111, 110]⟩]⟩] else []⟩
def madeR (i : Nat) (x : B2) : List D :=
  [.str (tyA.extract i (i + 1)), dI ((x.1.toNat : Int).tmod ((i : Int) + 1) - 1), .bool (((x.1.toNat : Int) / 16).tmod 4 == 3),
    if (x.2.toNat : Int).tmod 4 = 1 then .list [[.str (tyU.extract i (i + 1)), dI (-3), dI (3 + ((x.2.toNat : Int) / 4).tmod 9), .nil]]
    else if (x.2.toNat : Int).tmod 4 = 2 then .list [[.str (tyU.extract i (i + 1)), dI 0, dI 1, .list [[.str ⟨#[111, 102, 102]⟩], [.str ⟨#[111, 110]⟩]]]] else .nil]
theorem madeR_nz (i : Nat) (x : B2) : nzAs (madeR i x) = (madeN i x).c := by
  unfold madeR madeN NodeTy.c
  by_cases h1 : (x.2.toNat : Int).tmod 4 = 1
  · simp [h1, nzA, nzAs, nzAss, Attr.c, dI, dLS, cS]
  · by_cases h2 : (x.2.toNat : Int).tmod 4 = 2
    ·simp [h2, nzA, nzAs, nzAss, Attr.c, dI, dLS, cS]
    ·simp [h1, h2, nzA, nzAs, nzAss, Attr.c, dI, dLS, cS]
def nth2 (ns : List B2) (i : Nat) : B2 := ns[i]?.getD (0, 0)
def madeNs (ns : List B2) (n : Nat) : List NodeTy := (List.range n).map fun i => madeN i (nth2 ns i)
def madeE (n : Int) (i : Nat) (x : B2) : EdgeTy := ⟨tyE.extract i (i + 1), (x.1.toNat : Int).tmod n, (x.2.toNat : Int).tmod n, 0, -1, 0, -1⟩
def madeEs (n : Int) (es : List B2) (k : Nat) : List EdgeTy := (List.range k).map fun i => madeE n i (nth2 es i)
def madeK (ns : List B2) : Nat := max 1 (min ns.length 6)
def madeT (ns es : List B2) : Types := ⟨madeNs ns (madeK ns), madeEs (madeK ns) es (min es.length 5)⟩
def madeRs (ns : List B2) (n : Nat) : List (List D) := (List.range n).map fun i => madeR i (nth2 ns i)
theorem madeRs_succ (ns : List B2) (i : Nat) : madeRs ns (i + 1) = madeRs ns i ++ [madeR i (nth2 ns i)] := by simp [madeRs, List.range_succ]
theorem madeRs_len (ns : List B2) (i : Nat) : (madeRs ns i).length = i := by simp [madeRs]
theorem madeRs_nz (ns : List B2) (i : Nat) : nzAss (madeRs ns i) = (madeNs ns i).map NodeTy.c := by
  rw [nzAss_map]; simp only [madeRs, madeNs, List.map_map]
  exact List.map_congr_left fun j _ => madeR_nz j _
theorem nzAss_id {l : List (List D)} (h : ∀ c ∈ l, nzAs c = c) : nzAss l = l := by
  rw [nzAss_map]; conv => rhs; rw [← List.map_id l]
  exact List.map_congr_left h
theorem nz_edgeTys (l : List EdgeTy) : nzAss (l.map EdgeTy.c) = l.map EdgeTy.c := nzAss_id fun c hc => by
  rw [List.mem_map] at hc; obtain ⟨x, _, rfl⟩ := hc; rfl
theorem madeNs_len (ns : List B2) (i : Nat) : (madeNs ns i).length = i := by simp [madeNs]
theorem madeEs_succ (n : Int) (es : List B2) (i : Nat) : madeEs n es (i + 1) = madeEs n es i ++ [madeE n i (nth2 es i)] := by simp [madeEs, List.range_succ]
theorem madeEs_len (n : Int) (es : List B2) (i : Nat) : (madeEs n es i).length = i := by simp [madeEs]
theorem tmod_in {a n : Int} (h : 0 ≤ a) (hn : 0 < n) : 0 ≤ a.tmod n ∧ a.tmod n < n := ⟨Int.tmod_nonneg _ h, Int.tmod_lt_of_pos _ hn⟩
theorem tdiv_in {a n : Int} (h : 0 ≤ a) (hn : 0 < n) : 0 ≤ a.tdiv n ∧ a.tdiv n ≤ a := ⟨Int.tdiv_nonneg h (by omega), by rw [Int.tdiv_eq_ediv_of_nonneg h]; exact Int.ediv_le_self _ h⟩
theorem inR_u8 {n : Int} (h1 : 0 ≤ n) (h2 : n ≤ 255) : InR .u8 n := by
  unfold InR; simp [IntKind.min, IntKind.max, IntKind.signed, IntKind.bits]; omega
theorem ref04_Made (ns es : List B2) : Pure Tryz.prog 48 [.list (ns.map cP), .list (es.map cP)] (madeT ns es).d := by
  refine pureKA (by first | rfl | (simp [go_sem]; done)) (fun Q hQ => (acalls_of_body (cfg := ⟨fun t => t == 4 || t == 5 || t == 7 || t == 8, fun r => match r with | 8 => [(4, 17), (5, 17), (11, 17), (12, 17)] | 20 => [(0, 23), (1, 23)] | _ => []⟩) Tz.mixed Tryz.func48 rfl rfl (nlb rfl) (by kernel_rfl) ?_))
  try simp [go_sem]
  obtain ⟨I0, hI0⟩ := mkI fun i e H => ((e 0 = .list (ns.map cP)) ∧ (e 1 = .list (es.map cP)) ∧ (e 4 = .ptr 0 1 0 0) ∧ (e 5 = .ptr 1 1 0 0) ∧ (e 6 = dI i) ∧ (H.get 0 = some ⟨25, 2, [[.nil, .nil]], false⟩) ∧ (0 < H.next) ∧ (H.get 1 = some ⟨25, 2, [[.own 2 i, .nil]], false⟩) ∧ (1 < H.next) ∧ (H.get 2 = some ⟨98, 4, madeRs ns i, false⟩) ∧ (2 < H.next) ∧ (i ≤ 6) ∧ (i ≤ 1 ∨ i ≤ ns.length) ∧ ((madeRs ns i).length = i))
  refine loopKG (Ghosts.step (Ghosts.refl _) 1 0 0 98 4 _ _ (rfl) rfl rfl rfl) I0 (fun i => 6 - i) (0) ((hI0 _ _ _).2 ⟨?_, ?_, ?_, ?_, ?_, ?_, ?_, ?_, ?_, (by rfl), ?_, (by first | assumption | omega | (simp [go_sem]; done) | (simp_all; done)), (by omega), (by (exact madeRs_len _ _))⟩) ?_
  iterate 10 (first | omega | (simp [go_sem] <;> omega))
  intro i e H hi0
  obtain ⟨q0_0, q1_0, q4_0, q5_0, q6_0, g0_0, n0_0, g1_0, n1_0, g2_0, n2_0, hi, hi2, hl⟩ := (hI0 _ _ _).1 hi0
  have x0 := frs n0_0
  have x1 := frs n1_0
  have x2 := frs n2_0
  have F0 := And.intro q0_0 (And.intro q1_0 (And.intro q4_0 (And.intro q5_0 (And.intro q6_0 (And.intro g0_0 (And.intro g1_0 (And.intro g2_0 (And.intro x0 (And.intro x1 x2)))))))))
  try simp [go_sem, F0, hl]
  repeat first | intro _ | refine ⟨obs, ?_⟩
  refine condQ_mk (fun h3 => ?_) (fun h3 => ?_)
  · try simp [go_sem] at h3
    obtain ⟨x, hx⟩ : ∃ x, nth2 ns i = x := ⟨_, rfl⟩
    have hx1 := u8_lt x.1
    have hx2 := u8_lt x.2
    have hi5 : i < 6 := by omega
    have hm1 := tmod_in (show 0 ≤ (x.1.toNat : Int) by omega) (show 0 < (i : Int) + 1 by omega)
    have hm2 := tmod_in (show 0 ≤ (x.2.toNat : Int) / 4 by omega) (show (0 : Int) < 9 by omega)
    have hu1 := inR_u8 (show 0 ≤ (x.1.toNat : Int) / 16 by omega) (by omega)
    have hu2 := inR_u8 (show 0 ≤ (x.2.toNat : Int) / 4 by omega) (by omega)
    have hsz : (⟨#[65, 66, 67, 68, 69, 70]⟩ : ByteArray).size = 6 := rfl
    have hsz2 : (⟨#[117, 118, 119, 120, 121, 122]⟩ : ByteArray).size = 6 := rfl
    have nx := nxs H.next
    try simp [go_sem, F0, hl, h3, hsz, hsz2, nx]
    repeat first | intro _ | refine ⟨obs, ?_⟩
    refine condQ_mk (fun h6 => ?_) (fun h6 => ?_)
    ·try simp [go_sem] at h6
     have hx0 : ns[i] = x := by rw [← hx]; simp [nth2, lge h6]
     try simp [go_sem, F0, hl, h3, hsz, hsz2, nx, lge h6, hx0, cP]
     repeat first | intro _ | refine ⟨obs, ?_⟩
     refine condQ_mk (fun h11 => ?_) (fun h11 => ?_)
     ·try simp [go_sem] at h11
      have hmn : madeR i (nth2 ns i) = [.str (tyA.extract i (i + 1)), dI ((x.1.toNat : Int).tmod ((i : Int) + 1) - 1), .bool (((x.1.toNat : Int) / 16).tmod 4 == 3), .list [[.str (tyU.extract i (i + 1)), dI (-3), dI (3 + ((x.2.toNat : Int) / 4).tmod 9), .nil]]] := by rw [hx]; simp [madeR, h11]
      try simp [go_sem, F0, hl, h3, hsz, hsz2, nx, lge h6, hx0, cP]
      repeat first | intro _ | refine ⟨obs, ?_⟩
      refine nextQ_mk (i + 1) (by omega) ((hI0 _ _ _).2 ⟨?_, ?_, ?_, ?_, ?_, ?_, ?_, ?_, ?_, (by (simp [go_sem, F0, hl, h3, hsz, hsz2, nx, lge h6, hx0, cP, madeRs_succ, hmn, tyA, tyU, NodeTy.c, Attr.c, dLS, cS, dI])), ?_, (by first | assumption | omega | (simp [go_sem, F0, hl, h3, hsz, hsz2, nx, lge h6, hx0, cP, h6, h11]; done) | (simp_all <;> omega)), (by omega), (by (exact madeRs_len _ _))⟩) <;> first | omega | (simp [go_sem, F0, hl, h3, hsz, hsz2, nx, lge h6, hx0, cP] <;> omega)
     ·try simp [go_sem] at h11
      try simp [go_sem, F0, hl, h3, hsz, hsz2, nx, lge h6, hx0, cP]
      refine condQ_mk (fun h13 => ?_) (fun h13 => ?_)
      ·try simp [go_sem] at h13
       have hmn : madeR i (nth2 ns i) = [.str (tyA.extract i (i + 1)), dI ((x.1.toNat : Int).tmod ((i : Int) + 1) - 1), .bool (((x.1.toNat : Int) / 16).tmod 4 == 3), .list [[.str (tyU.extract i (i + 1)), dI 0, dI 1, .list [[.str ⟨#[111, 102, 102]⟩], [.str ⟨#[111, 110]⟩]]]]] := by rw [hx]; simp [madeR, h13]
       try simp [go_sem, F0, hl, h3, hsz, hsz2, nx, lge h6, hx0, cP]
       repeat first | intro _ | refine ⟨obs, ?_⟩
       refine nextQ_mk (i + 1) (by omega) ((hI0 _ _ _).2 ⟨?_, ?_, ?_, ?_, ?_, ?_, ?_, ?_, ?_, (by (simp [go_sem, F0, hl, h3, hsz, hsz2, nx, lge h6, hx0, cP, madeRs_succ, hmn, tyA, tyU, NodeTy.c, Attr.c, dLS, cS, dI])), ?_, (by first | assumption | omega | (simp [go_sem, F0, hl, h3, hsz, hsz2, nx, lge h6, hx0, cP, h6, h11, h13]; done) | (simp_all <;> omega)), (by omega), (by (exact madeRs_len _ _))⟩) <;> first | omega | (simp [go_sem, F0, hl, h3, hsz, hsz2, nx, lge h6, hx0, cP] <;> omega)
      ·try simp [go_sem] at h13
       have hmn : madeR i (nth2 ns i) = [.str (tyA.extract i (i + 1)), dI ((x.1.toNat : Int).tmod ((i : Int) + 1) - 1), .bool (((x.1.toNat : Int) / 16).tmod 4 == 3), .nil] := by rw [hx]; simp [madeR, h11, h13]
       try simp [go_sem, F0, hl, h3, hsz, hsz2, nx, lge h6, hx0, cP]
       repeat first | intro _ | refine ⟨obs, ?_⟩
       refine nextQ_mk (i + 1) (by omega) ((hI0 _ _ _).2 ⟨?_, ?_, ?_, ?_, ?_, ?_, ?_, ?_, ?_, (by (simp [go_sem, F0, hl, h3, hsz, hsz2, nx, lge h6, hx0, cP, madeRs_succ, hmn, tyA, tyU, NodeTy.c, Attr.c, dLS, cS, dI])), ?_, (by first | assumption | omega | (simp [go_sem, F0, hl, h3, hsz, hsz2, nx, lge h6, hx0, cP, h6, h11, h13]; done) | (simp_all <;> omega)), (by omega), (by (exact madeRs_len _ _))⟩) <;> first | omega | (simp [go_sem, F0, hl, h3, hsz, hsz2, nx, lge h6, hx0, cP] <;> omega)
    ·try simp [go_sem] at h6
     have hx0 : x = (0, 0) := by rw [← hx]; simp [nth2, List.getElem?_eq_none h6]
     subst hx0
     have hmn : madeR i (nth2 ns i) = [.str (tyA.extract i (i + 1)), dI (-1), .bool false, .nil] := by rw [hx]; simp [madeR]
     try simp [go_sem, F0, hl, h3, hsz, hsz2, nx]
     repeat first | intro _ | refine ⟨obs, ?_⟩
     refine nextQ_mk (i + 1) (by omega) ((hI0 _ _ _).2 ⟨?_, ?_, ?_, ?_, ?_, ?_, ?_, ?_, ?_, (by (simp [go_sem, F0, hl, h3, hsz, hsz2, nx, madeRs_succ, hmn, tyA, tyU, NodeTy.c, Attr.c, dLS, cS, dI])), ?_, (by first | assumption | omega | (simp [go_sem, F0, hl, h3, hsz, hsz2, nx, h6]; done) | (simp_all <;> omega)), (by omega), (by (exact madeRs_len _ _))⟩) <;> first | omega | (simp [go_sem, F0, hl, h3, hsz, hsz2, nx] <;> omega)
  · try simp [go_sem] at h3
    have hN : i = madeK ns := by unfold madeK; omega
    try simp [go_sem, F0, hl]
    obtain ⟨I3, hI3⟩ := mkI fun k e H => (∃ j : Nat, (e 0 = .list (ns.map cP)) ∧ (e 1 = .list (es.map cP)) ∧ (e 4 = .ptr 0 1 0 0) ∧ (e 5 = .ptr 1 1 0 0) ∧ (e 10 = dI k) ∧ (H.get 0 = some ⟨25, 2, [[.nil, .nil]], false⟩) ∧ (0 < H.next) ∧ (H.get 1 = some ⟨25, 2, [[.own 2 i, .own j k]], false⟩) ∧ (1 < H.next) ∧ (H.get 2 = some ⟨98, 4, madeRs ns i, false⟩) ∧ (2 < H.next) ∧ (H.get j = some ⟨103, 7, (madeEs i es k).map EdgeTy.c, false⟩) ∧ (j < H.next) ∧ (k ≤ 5) ∧ (k ≤ es.length) ∧ (j ≠ 0) ∧ (j ≠ 1) ∧ (j ≠ 2) ∧ ((madeEs i es k).length = k))
    refine loopKG (Ghosts.step (Ghosts.refl _) 1 0 1 103 7 _ _ (g1_0) rfl rfl rfl) I3 (fun k => 5 - k) (0) ((hI3 _ _ _).2 ⟨(H.next), ?_, ?_, ?_, ?_, ?_, ?_, ?_, ?_, ?_, ?_, ?_, (by (simp [go_sem, madeEs, F0, hl])), ?_, (by first | assumption | omega | (simp [go_sem, F0, hl]; done) | (simp_all; done)), (by first | assumption | omega | (simp [go_sem, F0, hl]; done) | (simp_all; done)), (by omega), (by omega), (by omega), (by (exact madeEs_len _ _ _))⟩) ?_
    iterate 12 (first | omega | (simp [go_sem, F0, hl] <;> omega))
    intro k e H hi3
    obtain ⟨j, q0_3, q1_3, q4_3, q5_3, q10_3, g0_3, n0_3, g1_3, n1_3, g2_3, n2_3, gj_3, nj_3, hk, hk2, j0, j1, j2, hle⟩ := (hI3 _ _ _).1 hi3
    have x0 := frs n0_3
    have x1 := frs n1_3
    have x2 := frs n2_3
    have xj := frs nj_3
    have F3 := And.intro q0_3 (And.intro q1_3 (And.intro q4_3 (And.intro q5_3 (And.intro q10_3 (And.intro g0_3 (And.intro g1_3 (And.intro g2_3 (And.intro gj_3 (And.intro x0 (And.intro x1 (And.intro x2 xj)))))))))))
    try simp [go_sem, hl, F3, hle, j0, j1, j2, j0.symm, j1.symm, j2.symm]
    repeat first | intro _ | refine ⟨obs, ?_⟩
    refine condQ_mk (fun h17 => ?_) (fun h17 => ?_)
    ·try simp [go_sem] at h17
     obtain ⟨x, hx⟩ : ∃ x, nth2 es k = x := ⟨_, rfl⟩
     have hk5 : k < es.length ∧ k < 5 := by omega
     have hx0 : es[k]'hk5.1 = x := by rw [← hx]; simp [nth2, lge hk5.1]
     have hi0 : 0 < i := by rw [hN]; unfold madeK; omega
     have hx1 := u8_lt x.1
     have hx2 := u8_lt x.2
     have hszE : (⟨#[101, 102, 103, 104, 105]⟩ : ByteArray).size = 5 := rfl
     have nx := nxs H.next
     try simp [go_sem, hl, F3, hle, j0, j1, j2, j0.symm, j1.symm, j2.symm, h17, lge hk5.1, hx0, cP, hszE, nx]
     repeat first | intro _ | refine ⟨obs, ?_⟩
     refine nextQ_mk (k + 1) (by omega) ((hI3 _ _ _).2 ⟨(j), ?_, ?_, ?_, ?_, ?_, ?_, ?_, ?_, ?_, ?_, ?_, (by (simp [go_sem, hl, F3, hle, j0, j1, j2, j0.symm, j1.symm, j2.symm, h17, lge hk5.1, hx0, cP, hszE, nx, madeEs_succ, madeE, hx, tyE, EdgeTy.c, dI])), ?_, (by first | assumption | omega | (simp [go_sem, hl, F3, hle, j0, j1, j2, j0.symm, j1.symm, j2.symm, h17, lge hk5.1, hx0, cP, hszE, nx, h3]; done) | (simp_all <;> omega)), (by first | assumption | omega | (simp [go_sem, hl, F3, hle, j0, j1, j2, j0.symm, j1.symm, j2.symm, h17, lge hk5.1, hx0, cP, hszE, nx, h3]; done) | (simp_all <;> omega)), (by first | assumption | omega | (simp [go_sem, hl, F3, hle, j0, j1, j2, j0.symm, j1.symm, j2.symm, h17, lge hk5.1, hx0, cP, hszE, nx, h3]; done) | (simp_all <;> omega)), (by first | assumption | omega | (simp [go_sem, hl, F3, hle, j0, j1, j2, j0.symm, j1.symm, j2.symm, h17, lge hk5.1, hx0, cP, hszE, nx, h3]; done) | (simp_all <;> omega)), (by first | assumption | omega | (simp [go_sem, hl, F3, hle, j0, j1, j2, j0.symm, j1.symm, j2.symm, h17, lge hk5.1, hx0, cP, hszE, nx, h3]; done) | (simp_all <;> omega)), (by (exact madeEs_len _ _ _))⟩) <;> first | omega | (simp [go_sem, hl, F3, hle, j0, j1, j2, j0.symm, j1.symm, j2.symm, h17, lge hk5.1, hx0, cP, hszE, nx] <;> omega)
    ·try simp [go_sem] at h17
     have hK : k = min es.length 5 := by omega
     try simp [go_sem, hl, F3, hle, j0, j1, j2, j0.symm, j1.symm, j2.symm]
     exact hQ _ _ (by simp [go_sem, hl, F3, hle, j0, j1, j2, j0.symm, j1.symm, j2.symm, madeT, ← hN, ← hK, madeRs_nz, nz_edgeTys, Types.d, Types.c])
end Go.Abs
end
section
set_option maxRecDepth 8000
set_option maxHeartbeats 2000000
open Go Go.Proofs
namespace Go.Abs
def cU (x : UInt8) : List D := [.int .u8 (x.toNat : Int)]
@[go_sem] theorem cUs_cl (l : List UInt8) : D.clLL (l.map cU) = true := clLL_map _ (fun _ => rfl) l
def shufJ (n : Nat) (l : List UInt8) (i : Nat) : Nat := ((i : Int) + ((l[i]?.getD 0).toNat : Int).tmod ((n : Int) - i)).toNat
def shufS (n : Nat) (l : List UInt8) (xs : List Int) (i : Nat) : List Int := swpL xs i (shufJ n l i)
def shufF (n : Nat) (l : List UInt8) : List Int := (List.range (min n l.length)).foldl (shufS n l) (numL n)
def PermL (n : Nat) (xs : List Int) : Prop := xs.length = n ∧ (∀ x ∈ xs, 0 ≤ x ∧ x < n) ∧ ∀ a b, a < b → b < xs.length → xs[a]? ≠ xs[b]?
theorem swpL_get {xs : List Int} {i j : Nat} (hi : i < xs.length) (hj : j < xs.length) (k : Nat) : (swpL xs i j)[k]? = if k = j then xs[i]? else if k = i then xs[j]? else xs[k]? := by
  unfold swpL
  rw [List.getElem?_set, List.getElem?_set]
  by_cases h1 : j = k
  · subst h1; simp [hj, lge hi]
  · rw [if_neg h1, if_neg (Ne.symm h1)]
    by_cases h2 : i = k
    ·subst h2; simp [hi, lge hj]
    ·rw [if_neg h2, if_neg (Ne.symm h2)]
theorem permL_swp {n : Nat} {xs : List Int} {i j : Nat} (h : PermL n xs) (hi : i < n) (hj : j < n) : PermL n (swpL xs i j) := by
  obtain ⟨h1, h2, h3⟩ := h
  have hi' : i < xs.length := by omega
  have hj' : j < xs.length := by omega
  have hne : ∀ a b, a ≠ b → a < xs.length → b < xs.length → xs[a]? ≠ xs[b]? := fun a b hab ha hb => by
    rcases Nat.lt_or_ge a b with h | h
    ·exact h3 a b h hb
    ·exact Ne.symm (h3 b a (by omega) ha)
  refine ⟨by rw [swpL_len, h1], fun x hx => ?_, fun a b hab hb => ?_⟩
  · obtain ⟨k, hk⟩ := List.getElem?_of_mem hx
    rw [swpL_get hi' hj'] at hk
    split at hk
    ·exact h2 x (List.mem_of_getElem? hk)
    ·split at hk
     ·exact h2 x (List.mem_of_getElem? hk)
     ·exact h2 x (List.mem_of_getElem? hk)
  · rw [swpL_len] at hb
    rw [swpL_get hi' hj', swpL_get hi' hj']
    split
    ·split
     ·omega
     ·split
      ·exact hne i j (by omega) hi' hj'
      ·exact hne i b (by omega) hi' hb
    ·split
     ·split
      ·exact hne j i (by omega) hj' hi'
      ·split
       ·omega
       ·exact hne j b (by omega) hj' hb
     ·split
      ·exact hne a i (by omega) (by omega) hi'
      ·split
       ·exact hne a j (by omega) (by omega) hj'
       ·exact hne a b (by omega) (by omega) hb
theorem numL_get {n a : Nat} (h : a < n) : (numL n)[a]? = some (a : Int) := by
  simp [numL, List.getElem?_map, List.getElem?_range h]
theorem numL_perm (n : Nat) : PermL n (numL n) := ⟨numL_len n, fun x hx => numL_mem hx, fun a b hab hb => by
  rw [numL_len] at hb
  rw [numL_get (by omega), numL_get hb]
  simp; omega⟩
theorem shufJ_lt {n : Nat} {l : List UInt8} {i : Nat} (hi : i < n) : shufJ n l i < n := by
  have := tmod_in (show 0 ≤ ((l[i]?.getD 0).toNat : Int) by omega) (show 0 < (n : Int) - i by omega)
  unfold shufJ; omega
theorem shuf_perm (n : Nat) (l : List UInt8) : ∀ k, k ≤ n → PermL n ((List.range k).foldl (shufS n l) (numL n))
  | 0, _ => numL_perm n
  | k + 1, h => by
    rw [List.range_succ, List.foldl_append]
    exact permL_swp (shuf_perm n l k (by omega)) (by omega) (shufJ_lt (by omega))
theorem shufF_perm (n : Nat) (l : List UInt8) : PermL n (shufF n l) := shuf_perm n l _ (by omega)
theorem ref05_Shuffle (n : Nat) (hn : n ≤ 100000) (l : List UInt8) : Pure Tryz.prog 136 [dI n, .list (l.map cU)] (dLI (shufF n l)) := by
  refine Tz.pK ⟨fun t => t == 5, fun _ => []⟩ Tryz.func136 rfl (fun Q hQ => ?_)
  try simp [go_sem, numL_len]
  refine callQ_own0 (ref05_Numbers n hn) ((by first | rfl | (simp [go_sem, ← List.map_take, ← List.map_drop, numL_len]; done))) ?_
  try simp [go_sem, numL_len]
  obtain ⟨I0, hI0⟩ := mkI fun i e H => (∃ xs : List Int, (e 0 = dI n) ∧ (e 1 = .list (l.map cU)) ∧ (e 5 = .own 0 n) ∧ (e 6 = dI i) ∧ (H.get 0 = some ⟨3, 1, xs.map cI, false⟩) ∧ (0 < H.next) ∧ (i ≤ n) ∧ (i ≤ l.length) ∧ (PermL n xs) ∧ (xs = (List.range i).foldl (shufS n l) (numL n)))
  refine loopK I0 (fun i => n - i) (0) ((hI0 _ _ _).2 ⟨(numL n), ?_, ?_, ?_, ?_, (by (simp [go_sem])), ?_, (by first | assumption | omega | (simp [go_sem, numL_len]; done) | (simp_all; done)), (by first | assumption | omega | (simp [go_sem, numL_len]; done) | (simp_all; done)), (by exact numL_perm n), (by rfl)⟩) ?_
  iterate 5 (first | omega | (simp [go_sem, numL_len] <;> omega))
  intro i e H hi0
  obtain ⟨xs, q0_0, q1_0, q5_0, q6_0, g0_0, n0_0, hi, hil, hp, hx⟩ := (hI0 _ _ _).1 hi0
  have x0 := frs n0_0
  have F0 := And.intro q0_0 (And.intro q1_0 (And.intro q5_0 (And.intro q6_0 (And.intro g0_0 x0))))
  try simp [go_sem, numL_len, F0]
  repeat first | intro _ | refine ⟨obs, ?_⟩
  refine condQ_mk (fun h3 => ?_) (fun h3 => ?_)
  · try simp [go_sem] at h3
    have hx1 := u8_lt l[i]
    have hxl := hp.1
    have htm := tmod_in (show 0 ≤ (l[i].toNat : Int) by omega) (show 0 < (n : Int) - i by omega)
    obtain ⟨j, hj⟩ : ∃ j : Nat, (i : Int) + (l[i].toNat : Int).tmod ((n : Int) - i) = (j : Int) := ⟨((i : Int) + (l[i].toNat : Int).tmod ((n : Int) - i)).toNat, (Int.toNat_of_nonneg (by omega)).symm⟩
    have hjn : j < n := by omega
    have hJ : shufJ n l i = j := by unfold shufJ; rw [lge h3.2, Option.getD_some, hj]; rfl
    have hxi : i < xs.length := by omega
    have hxj : j < xs.length := by omega
    have hsi : xs[i]?.getD 0 = xs[i] := by rw [lge hxi]; rfl
    have hsj : xs[j]?.getD 0 = xs[j] := by rw [lge hxj]; rfl
    have hne0 : (n : Int) - i ≠ 0 := by omega
    have hss : ((xs.map cI).set i [.int .i64 xs[j]])[j]? = some [.int .i64 xs[j]] := by
     rw [List.getElem?_set]
     by_cases hij : i = j
     ·subst hij; simp [hxi]
     ·rw [if_neg hij, List.getElem?_map, lge hxj]; rfl
    try simp [go_sem, numL_len, F0, h3, hss, hj, hxl, lge h3.2, lge hxi, lge hxj, hne0, cU]
    repeat first | intro _ | refine ⟨obs, ?_⟩
    refine nextQ_mk (i + 1) (by omega) ((hI0 _ _ _).2 ⟨(swpL xs i j), ?_, ?_, ?_, ?_, (by (simp [go_sem, numL_len, F0, h3, hss, hj, hxl, lge h3.2, lge hxi, lge hxj, hne0, cU, swpL, List.map_set, hsi, hsj])), ?_, (by first | assumption | omega | (simp [go_sem, numL_len, F0, h3, hss, hj, hxl, lge h3.2, lge hxi, lge hxj, hne0, cU]; done) | (simp_all <;> omega)), (by first | assumption | omega | (simp [go_sem, numL_len, F0, h3, hss, hj, hxl, lge h3.2, lge hxi, lge hxj, hne0, cU]; done) | (simp_all <;> omega)), (by exact permL_swp hp h3.1 hjn), (by (rw [List.range_succ, List.foldl_append, ← hx]; simp [shufS, hJ]))⟩) <;> first | omega | (simp [go_sem, numL_len, F0, h3, hss, hj, hxl, lge h3.2, lge hxi, lge hxj, hne0, cU] <;> omega)
  · try simp [go_sem] at h3
    have hI : i = min n l.length := by omega
    have hxl := hp.1
    have hF : shufF n l = xs := by rw [hx, hI]; rfl
    try simp [go_sem, numL_len, F0]
    exact hQ _ _ (.inl (by simp [go_sem, numL_len, F0, hF, hxl]))
def reoN (p xs : List Int) (k : Nat) : List Int := (List.range k).foldl (fun acc i => acc.set (p[i]?.getD 0).toNat (xs[i]?.getD 0)) xs
def reoX (p : List Int) (x : Edge) : Edge := ⟨x.type, p[x.from_.toNat]?.getD 0, p[x.to_.toNat]?.getD 0⟩
def reoE (p q : List Int) (es : List Edge) (k : Nat) : List Edge := (List.range k).foldl (fun acc i => acc.set (q[i]?.getD 0).toNat (reoX p (es[i]?.getD ⟨0, 0, 0⟩))) es
def reoF (g : Graph) (p q : List Int) : Graph := if graphF g = 0 then ⟨reoN p g.nodes g.nodes.length, reoE p q g.edges g.edges.length⟩ else ⟨[], []⟩
theorem reoN_succ (p xs : List Int) (k : Nat) : reoN p xs (k + 1) = (reoN p xs k).set (p[k]?.getD 0).toNat (xs[k]?.getD 0) := by simp [reoN, List.range_succ]
theorem reoN_len (p xs : List Int) : ∀ k, (reoN p xs k).length = xs.length
  | 0 => rfl
  | k + 1 => by rw [reoN_succ, List.length_set, reoN_len p xs k]
theorem reoE_succ (p q : List Int) (es : List Edge) (k : Nat) : reoE p q es (k + 1) = (reoE p q es k).set (q[k]?.getD 0).toNat (reoX p (es[k]?.getD ⟨0, 0, 0⟩)) := by simp [reoE, List.range_succ]
theorem reoE_len (p q : List Int) (es : List Edge) : ∀ k, (reoE p q es k).length = es.length
  | 0 => rfl
  | k + 1 => by rw [reoE_succ, List.length_set, reoE_len p q es k]
end Go.Abs
end
