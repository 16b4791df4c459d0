/- Layer 13: the overlaps of two graphs: the search over the no -/
import Derived.Test.YthnegcfdjjhfgaaGreatZlA
import Derived.Test.YthnegcfdjjhfgaaGreatZlQ
import Derived.Shelf.Spec.SlicesGrow
set_option linter.unusedVariables false
set_option linter.unusedSimpArgs false
section
set_option maxRecDepth 60000
set_option maxHeartbeats 1000000
open Go Go.Proofs
namespace Go.Abs
def ndS (a b : Graph) (ns : List Int) (k c : Nat) (ou : List Ovl) : List Ovl :=
  if c = 0 then ovN a b k (ns ++ [-1]) ou else if ndB a b ns (c - 1) = true then ovN a b k (ns ++ [((c - 1 : Nat) : Int)]) ou else ou
theorem ndS_le (a b : Graph) (ns : List Int) (k c : Nat) {ou : List Ovl} (h : ou.length ≤ 2001) : (ndS a b ns k c ou).length ≤ 2001 := by
  unfold ndS; split
  · exact ovN_le _ _ _ _ _ h
  · split
    ·exact ovN_le _ _ _ _ _ h
    ·exact h
theorem ndS_all (a b : Graph) (ns : List Int) (k : Nat) {out : List Ovl} (h : ¬ 2000 < out.length) : (List.range (a.nodes.length + 1)).foldl (fun o c => ndS a b ns k c o) out = ovN a b (k + 1) ns out := by
  rw [range_fold_first]; simp only [ovN]; rw [if_neg h]; rfl
theorem ref13_nodes (a b : Graph) (ha : graphF a = 0) (hb : graphF b = 0) (f o : Nat) (hd : f ≠ o) :
    ∀ (k : Nat) (ns : List Int) (out : List Ovl) (G : AHeap) (Q : D → AHeap → Prop), ns.length + k = b.nodes.length → f < G.next → o < G.next → OvS 182 f o a b out G →
    (∀ H', OvS 182 f o a b (ovN a b k ns out) H' → (∀ j, j ≠ f → j ≠ o → j < G.next → H'.get j = G.get j) → G.next ≤ H'.next → Q (.tup []) H') → ACalls Tryz.prog 98 [.ptr f 1 0 0, dLI ns] G Q := by
  have hla := graphF_le ha
  have hlb := graphF_le hb
  intro k
  induction k using Nat.strongRecOn with
  | _ k ih =>
  intro ns out G Q hk hfN hoN hF hQ
  obtain ⟨gf, go, hle⟩ := hF
  have hds := hd.symm
  have ff := frs hfN
  have fo := frs hoN
  refine (acalls_of_body (cfg := ⟨fun t => t == 63, fun _ => []⟩) Tz.mixed Tryz.func98 rfl rfl (nlb rfl) (by kernel_rfl) ?_)
  try simp [go_sem, seval, gf, go, hd, hds, ff, fo, Ovl.d, Ovl.c]
  repeat first | intro _ | refine ⟨obs, ?_⟩
  refine condQ_mk (fun h0 => ?_) (fun h0 => ?_)
  · try simp [go_sem] at h0
    have hfull : 2000 < out.length := by omega
    try simp [go_sem, seval, gf, go, hd, hds, ff, fo, Ovl.d, Ovl.c]
    exact hQ _ (by rw [ovN_full _ _ _ _ hfull]; exact ⟨gf, go, hle⟩) (by intro j _ _ _; rfl) (Nat.le_refl _)
  · try simp [go_sem] at h0
    have hnf : ¬ 2000 < out.length := by omega
    try simp [go_sem, seval, gf, go, hd, hds, ff, fo, Ovl.d, Ovl.c]
    repeat first | intro _ | refine ⟨obs, ?_⟩
    refine condQ_mk (fun h2 => ?_) (fun h2 => ?_)
    ·try simp [go_sem] at h2
     have hk0 : k = 0 := by omega
     subst hk0
     try simp [go_sem, seval, gf, go, hd, hds, ff, fo, Ovl.d, Ovl.c]
     refine callQ_nz (args' := [.ptr f 1 0 0, dLI ns, dLI []]) (by simp [go_sem, gf, go, hd, hds, ff, fo, Ovl.d, Ovl.c, dLI, nz1]) ?_
     unfold callQ
     refine ref13_edges a b ha hb ns (by omega) f o hd b.edges.length [] out _ _ (by simp) hfN hoN ⟨gf, go, hle⟩ (fun H3 hF3 hf3 hn3 => ?_)
     try simp [go_sem, seval, gf, go, hd, hds, ff, fo, Ovl.d, Ovl.c]
     exact hQ _ (by simp only [ovN]; rw [if_neg hnf]; exact hF3) hf3 hn3
    ·try simp [go_sem] at h2
     obtain ⟨k', rfl⟩ : ∃ k', k = k' + 1 := ⟨k - 1, by omega⟩
     have hel : ns.length < b.nodes.length := by omega
     try simp [go_sem, seval, gf, go, hd, hds, ff, fo, Ovl.d, Ovl.c, lge hel]
     obtain ⟨I0, hI0⟩ := mkI fun c e H => (∃ ou : List Ovl, (e 0 = .ptr f 1 0 0) ∧ (e 1 = dLI ns) ∧ (e 4 = dI ns.length) ∧ (e 5 = .int .i64 ((c : Int) - 1)) ∧ (H.get f = some ⟨182, 5, [[dLI a.nodes, .list (a.edges.map Edge.c), dLI b.nodes, .list (b.edges.map Edge.c), .own o ou.length]], false⟩) ∧ (f < H.next) ∧ (H.get o = some ⟨45, 6, ou.map Ovl.c, false⟩) ∧ (o < H.next) ∧ (c ≤ a.nodes.length + 1) ∧ (ou.length ≤ 2001) ∧ (ou = (List.range c).foldl (fun o c => ndS a b ns k' c o) out) ∧ (∀ q, q ≠ f → q ≠ o → q < G.next → H.get q = G.get q) ∧ (G.next ≤ H.next))
     refine loopK I0 (fun c => a.nodes.length + 1 - c) (0) ((hI0 _ _ _).2 ⟨(out), ?_, ?_, ?_, ?_, ?_, ?_, ?_, ?_, (by first | assumption | omega | (simp [go_sem, gf, go, hd, hds, ff, fo, Ovl.d, Ovl.c, lge hel]; done) | (simp_all; done)), (by (exact hle)), (by rfl), (by (intro q h1 h2 h3; rfl)), (by (simp [go_sem]))⟩) ?_
     iterate 8 (first | omega | (simp [go_sem, seval, gf, go, hd, hds, ff, fo, Ovl.d, Ovl.c, lge hel] <;> omega))
     intro c e H hi0
     obtain ⟨ou, q0_0, q1_0, q4_0, q5_0, gf_0, nf_0, go_0, no_0, hj, hou, hst, hfr, hnx⟩ := (hI0 _ _ _).1 hi0
     have xf := frs nf_0
     have xo := frs no_0
     have F0 := And.intro q0_0 (And.intro q1_0 (And.intro q4_0 (And.intro q5_0 (And.intro gf_0 (And.intro go_0 (And.intro xf xo))))))
     have di1 := nep (show o ≠ f by omega)
     try simp [go_sem, seval, gf, go, hd, hds, ff, fo, Ovl.d, Ovl.c, lge hel, F0, di1]
     repeat first | intro _ | refine ⟨obs, ?_⟩
     refine condQ_mk (fun h5 => ?_) (fun h5 => ?_)
     ·try simp [go_sem] at h5
      obtain ⟨x, hx⟩ : ∃ x : Int, x = (c : Int) - 1 := ⟨_, rfl⟩
      obtain ⟨j, hj0⟩ : ∃ j, j = c - 1 := ⟨_, rfl⟩
      obtain ⟨ou2, hou2⟩ : ∃ x, x = ndS a b ns k' c ou := ⟨_, rfl⟩
      have hS1 : c = 0 → ou2 = ovN a b k' (ns ++ [x]) ou := fun hz => by rw [hou2, hx]; unfold ndS; rw [if_pos hz, hz]; rfl
      have hcj : ¬ c = 0 → c = j + 1 := fun hz => by omega
      have hxj : ¬ c = 0 → x = (j : Int) := fun hz => by omega
      have hlj : ¬ c = 0 → j < a.nodes.length := fun hz => by omega
      have hjp : ¬ (j : Int) < 0 := by omega
      have hEj : ∀ h : ¬ c = 0, ndB a b ns j = (decide (a.nodes[j]'(hlj h) = b.nodes[ns.length]) && !mem ns j) := fun h => by unfold ndB; rw [lge (hlj h), lge hel]; rfl
      have hS3 : ¬ c = 0 → ou2 = if ndB a b ns j = true then ovN a b k' (ns ++ [x]) ou else ou := fun hz => by rw [hou2, hxj hz]; unfold ndS; rw [if_neg hz, ← hj0]
      by_cases hz : c = 0
      ·skip
       try simp [go_sem, seval, gf, go, hd, hds, ff, fo, Ovl.d, Ovl.c, lge hel, F0, di1, h5, hjp, hz, hx, int_getD, cI]
       repeat first | intro _ | refine ⟨obs, ?_⟩
       refine dgcallQ_pure0 (fun hg => ref13_in ns _) (fun hg => (by first | rfl | (simp [go_sem, ← List.map_take, ← List.map_drop, gf, go, hd, hds, ff, fo, Ovl.d, Ovl.c, lge hel, F0, di1, h5, hjp, hz, hx, int_getD, cI]; done))) ?_
       try simp [go_sem, seval, gf, go, hd, hds, ff, fo, Ovl.d, Ovl.c, lge hel, F0, di1, h5, hjp, hz, hx, int_getD, cI]
       repeat first | intro _ | refine ⟨obs, ?_⟩
       refine callQ_frz (args' := [.ptr f 1 0 0, dLI (ns ++ [x])]) (by simp [go_sem, gf, go, hd, hds, ff, fo, Ovl.d, Ovl.c, lge hel, F0, di1, h5, hjp, hz, hx, int_getD, cI, dLI]) rfl ?_
       unfold callQ
       refine ih k' (by omega) (ns ++ [x]) ou _ _ (by simp; omega) (by simp [go_sem]; omega) (by simp [go_sem]; omega) ⟨by simp [go_sem, gf, go, hd, hds, ff, fo, Ovl.d, Ovl.c, lge hel, F0, di1, h5, hjp, hz, hx, int_getD, cI], by simp [go_sem, gf, go, hd, hds, ff, fo, Ovl.d, Ovl.c, lge hel, F0, di1, h5, hjp, hz, hx, int_getD, cI], hou⟩ (fun H3 hF3 hf3 hn3 => ?_)
       have hS : ou2 = ovN a b k' (ns ++ [x]) ou := by first | exact hS1 hz | exact hS2
       rw [← hS] at hF3
       obtain ⟨gf3, go3, hle3⟩ := hF3
       simp [go_sem] at hn3
       have hfr3 : ∀ j, j ≠ f → j ≠ o → j < G.next → H3.get j = G.get j := fun j h1 h2 h3 => by
        have e1 := frs (show j < H.next by omega)
        rw [hf3 j h1 h2 (by simp [go_sem]; omega)]
        simp [go_sem, h1, h2, e1]
        exact hfr j h1 h2 h3
       have fr2 := And.intro (frs (show f < H3.next by omega)) (frs (show o < H3.next by omega))
       try simp [go_sem, seval, gf, go, hd, hds, ff, fo, Ovl.d, Ovl.c, lge hel, F0, di1, h5, hjp, hz, hx, int_getD, cI, gf3, go3, fr2]
       repeat first | intro _ | refine ⟨obs, ?_⟩
       refine nextQ_mk (c + 1) (by omega) ((hI0 _ _ _).2 ⟨(ou2), ?_, ?_, ?_, ?_, ?_, ?_, ?_, ?_, (by first | assumption | omega | (simp [go_sem, gf, go, hd, hds, ff, fo, Ovl.d, Ovl.c, lge hel, F0, di1, h5, hjp, hz, hx, int_getD, cI, gf3, go3, fr2, h0, h2]; done) | (simp_all <;> omega)), (by (rw [hou2]; exact ndS_le _ _ _ _ _ hou)), (by (rw [range_fold_succ, ← hst]; exact hou2)), (by (first | exact hfr3 | exact hfr | (intro q h1 h2 h3; simp [go_sem, h1, h2, frs (show q < H.next by omega)]; exact hfr q h1 h2 h3))), (by (first | omega | (simp [go_sem]; omega)))⟩) <;> first | omega | (simp [go_sem, seval, gf, go, hd, hds, ff, fo, Ovl.d, Ovl.c, lge hel, F0, di1, h5, hjp, hz, hx, int_getD, cI, gf3, go3, fr2] <;> omega)
      ·skip
       try simp [go_sem, seval, gf, go, hd, hds, ff, fo, Ovl.d, Ovl.c, lge hel, F0, di1, h5, hjp, hcj hz, hx, lge (hlj hz)]
       repeat first | intro _ | refine ⟨obs, ?_⟩
       refine dgcallQ_pure0 (fun hg => ref13_in ns _) (fun hg => (by first | rfl | (simp [go_sem, ← List.map_take, ← List.map_drop, gf, go, hd, hds, ff, fo, Ovl.d, Ovl.c, lge hel, F0, di1, h5, hjp, hcj hz, hx, lge (hlj hz)]; done))) ?_
       try simp [go_sem, seval, gf, go, hd, hds, ff, fo, Ovl.d, Ovl.c, lge hel, F0, di1, h5, hjp, hcj hz, hx, lge (hlj hz)]
       repeat first | intro _ | refine ⟨obs, ?_⟩
       refine condQ_mk (fun h7 => ?_) (fun h7 => ?_)
       ·try simp [go_sem] at h7
        have hE : ndB a b ns j = true := by rw [hEj hz]; simpa [and_comm] using h7
        have hS2 : ou2 = ovN a b k' (ns ++ [x]) ou := by rw [hS3 hz, if_pos hE]
        try simp [go_sem, seval, gf, go, hd, hds, ff, fo, Ovl.d, Ovl.c, lge hel, F0, di1, h5, hjp, hcj hz, hx, lge (hlj hz)]
        repeat first | intro _ | refine ⟨obs, ?_⟩
        refine callQ_frz (args' := [.ptr f 1 0 0, dLI (ns ++ [x])]) (by simp [go_sem, gf, go, hd, hds, ff, fo, Ovl.d, Ovl.c, lge hel, F0, di1, h5, hjp, hcj hz, hx, lge (hlj hz), dLI]) rfl ?_
        unfold callQ
        refine ih k' (by omega) (ns ++ [x]) ou _ _ (by simp; omega) (by simp [go_sem]; omega) (by simp [go_sem]; omega) ⟨by simp [go_sem, gf, go, hd, hds, ff, fo, Ovl.d, Ovl.c, lge hel, F0, di1, h5, hjp, hcj hz, hx, lge (hlj hz)], by simp [go_sem, gf, go, hd, hds, ff, fo, Ovl.d, Ovl.c, lge hel, F0, di1, h5, hjp, hcj hz, hx, lge (hlj hz)], hou⟩ (fun H3 hF3 hf3 hn3 => ?_)
        have hS : ou2 = ovN a b k' (ns ++ [x]) ou := by first | exact hS1 hz | exact hS2
        rw [← hS] at hF3
        obtain ⟨gf3, go3, hle3⟩ := hF3
        simp [go_sem] at hn3
        have hfr3 : ∀ j, j ≠ f → j ≠ o → j < G.next → H3.get j = G.get j := fun j h1 h2 h3 => by
         have e1 := frs (show j < H.next by omega)
         rw [hf3 j h1 h2 (by simp [go_sem]; omega)]
         simp [go_sem, h1, h2, e1]
         exact hfr j h1 h2 h3
        have fr3 := And.intro (frs (show f < H3.next by omega)) (frs (show o < H3.next by omega))
        try simp [go_sem, seval, gf, go, hd, hds, ff, fo, Ovl.d, Ovl.c, lge hel, F0, di1, h5, hjp, hcj hz, hx, lge (hlj hz), gf3, go3, fr3]
        repeat first | intro _ | refine ⟨obs, ?_⟩
        refine nextQ_mk (c + 1) (by omega) ((hI0 _ _ _).2 ⟨(ou2), ?_, ?_, ?_, ?_, ?_, ?_, ?_, ?_, (by first | assumption | omega | (simp [go_sem, gf, go, hd, hds, ff, fo, Ovl.d, Ovl.c, lge hel, F0, di1, h5, hjp, hcj hz, hx, lge (hlj hz), gf3, go3, fr3, h0, h2, h7]; done) | (simp_all <;> omega)), (by (rw [hou2]; exact ndS_le _ _ _ _ _ hou)), (by (rw [range_fold_succ, ← hst]; exact hou2)), (by (first | exact hfr3 | exact hfr | (intro q h1 h2 h3; simp [go_sem, h1, h2, frs (show q < H.next by omega)]; exact hfr q h1 h2 h3))), (by (first | omega | (simp [go_sem]; omega)))⟩) <;> first | omega | (simp [go_sem, seval, gf, go, hd, hds, ff, fo, Ovl.d, Ovl.c, lge hel, F0, di1, h5, hjp, hcj hz, hx, lge (hlj hz), gf3, go3, fr3] <;> omega)
       ·try simp [go_sem] at h7
        have hE : ndB a b ns j = false := by
         rw [hEj hz, Bool.eq_false_iff]; intro hb'; simp at hb' h7
         exact h7 hb'.2 hb'.1
        have hN : ou2 = ou := by rw [hS3 hz, if_neg (by rw [hE]; simp)]
        try simp [go_sem, seval, gf, go, hd, hds, ff, fo, Ovl.d, Ovl.c, lge hel, F0, di1, h5, hjp, hcj hz, hx, lge (hlj hz), hN]
        repeat first | intro _ | refine ⟨obs, ?_⟩
        refine nextQ_mk (c + 1) (by omega) ((hI0 _ _ _).2 ⟨(ou2), ?_, ?_, ?_, ?_, ?_, ?_, ?_, ?_, (by first | assumption | omega | (simp [go_sem, gf, go, hd, hds, ff, fo, Ovl.d, Ovl.c, lge hel, F0, di1, h5, hjp, hcj hz, hx, lge (hlj hz), hN, h0, h2, h7]; done) | (simp_all <;> omega)), (by (rw [hou2]; exact ndS_le _ _ _ _ _ hou)), (by (rw [range_fold_succ, ← hst]; exact hou2)), (by (first | exact hfr3 | exact hfr | (intro q h1 h2 h3; simp [go_sem, h1, h2, frs (show q < H.next by omega)]; exact hfr q h1 h2 h3))), (by (first | omega | (simp [go_sem]; omega)))⟩) <;> first | omega | (simp [go_sem, seval, gf, go, hd, hds, ff, fo, Ovl.d, Ovl.c, lge hel, F0, di1, h5, hjp, hcj hz, hx, lge (hlj hz), hN] <;> omega)
     ·try simp [go_sem] at h5
      have hJ : c = a.nodes.length + 1 := by omega
      have hOV : ovN a b (k' + 1) ns out = ou := by rw [← ndS_all a b ns k' hnf, hst, hJ]
      try simp [go_sem, seval, gf, go, hd, hds, ff, fo, Ovl.d, Ovl.c, lge hel, F0, di1]
      exact hQ _ (by rw [hOV]; exact ⟨by assumption, by assumption, hou⟩) hfr hnx
theorem factor_nodes (a b : Graph) (ha : graphF a = 0) (hb : graphF b = 0) (f o : Nat) (hd : f ≠ o) :
    ∀ (k : Nat) (ns : List Int) (out : List Ovl) (G : AHeap) (Q : D → AHeap → Prop), ns.length + k = b.nodes.length → f < G.next → o < G.next → OvS 177 f o a b out G →
    (∀ H', OvS 177 f o a b (ovN a b k ns out) H' → (∀ j, j ≠ f → j ≠ o → j < G.next → H'.get j = G.get j) → G.next ≤ H'.next → Q (.tup []) H') → ACalls Tryz.prog 96 [.ptr f 1 0 0, dLI ns] G Q := by
  have hla := graphF_le ha
  have hlb := graphF_le hb
  intro k
  induction k using Nat.strongRecOn with
  | _ k ih =>
  intro ns out G Q hk hfN hoN hF hQ
  obtain ⟨gf, go, hle⟩ := hF
  have hds := hd.symm
  have ff := frs hfN
  have fo := frs hoN
  refine (acalls_of_body (cfg := ⟨fun _ => false, fun _ => []⟩) Tz.mixed Tryz.func96 rfl rfl (nlb rfl) (by kernel_rfl) ?_)
  try simp [go_sem, seval, gf, go, hd, hds, ff, fo, Ovl.d, Ovl.c]
  repeat first | intro _ | refine ⟨obs, ?_⟩
  refine condQ_mk (fun h0 => ?_) (fun h0 => ?_)
  · try simp [go_sem] at h0
    have hfull : 2000 < out.length := by omega
    try simp [go_sem, seval, gf, go, hd, hds, ff, fo, Ovl.d, Ovl.c]
    exact hQ _ (by rw [ovN_full _ _ _ _ hfull]; exact ⟨gf, go, hle⟩) (by intro j _ _ _; rfl) (Nat.le_refl _)
  · try simp [go_sem] at h0
    have hnf : ¬ 2000 < out.length := by omega
    try simp [go_sem, seval, gf, go, hd, hds, ff, fo, Ovl.d, Ovl.c]
    repeat first | intro _ | refine ⟨obs, ?_⟩
    refine condQ_mk (fun h1 => ?_) (fun h1 => ?_)
    ·try simp [go_sem] at h1
     have hk0 : k = 0 := by omega
     subst hk0
     try simp [go_sem, seval, gf, go, hd, hds, ff, fo, Ovl.d, Ovl.c]
     refine callQ_nz (args' := [.ptr f 1 0 0, dLI ns, dLI []]) (by simp [go_sem, gf, go, hd, hds, ff, fo, Ovl.d, Ovl.c, dLI, nz1]) ?_
     unfold callQ
     refine factor_edges a b ha hb ns (by omega) f o hd b.edges.length [] out _ _ (by simp) hfN hoN ⟨gf, go, hle⟩ (fun H3 hF3 hf3 hn3 => ?_)
     try simp [go_sem, seval, gf, go, hd, hds, ff, fo, Ovl.d, Ovl.c]
     exact hQ _ (by simp only [ovN]; rw [if_neg hnf]; exact hF3) hf3 hn3
    ·try simp [go_sem] at h1
     obtain ⟨k', rfl⟩ : ∃ k', k = k' + 1 := ⟨k - 1, by omega⟩
     have hel : ns.length < b.nodes.length := by omega
     try simp [go_sem, seval, gf, go, hd, hds, ff, fo, Ovl.d, Ovl.c, lge hel]
     repeat first | intro _ | refine ⟨obs, ?_⟩
     refine callQ_own0 (clone_int ns (by omega)) ((by first | rfl | (simp [go_sem, ← List.map_take, ← List.map_drop, gf, go, hd, hds, ff, fo, Ovl.d, Ovl.c, lge hel]; done))) ?_
     try simp [go_sem, seval, gf, go, hd, hds, ff, fo, Ovl.d, Ovl.c, lge hel]
     repeat first | intro _ | refine ⟨obs, ?_⟩
     refine callQ_frz (args' := [.ptr f 1 0 0, dLI (ns ++ [-1])]) (by simp [go_sem, gf, go, hd, hds, ff, fo, Ovl.d, Ovl.c, lge hel, dLI]) rfl ?_
     unfold callQ
     refine ih k' (by omega) (ns ++ [-1]) out _ _ (by simp; omega) (by simp [go_sem]; omega) (by simp [go_sem]; omega) ⟨by simp [go_sem, gf, go, hd, hds, ff, fo, Ovl.d, Ovl.c, lge hel], by simp [go_sem, gf, go, hd, hds, ff, fo, Ovl.d, Ovl.c, lge hel], hle⟩ (fun H2 hF2 hf2 hn2 => ?_)
     obtain ⟨gf2, go2, hle2⟩ := hF2
     simp [go_sem] at hn2
     have hfr2 : ∀ j, j ≠ f → j ≠ o → j < G.next → H2.get j = G.get j := fun j h1 h2 h3 => by
      have e1 := frs h3
      rw [hf2 j h1 h2 (by simp [go_sem]; omega)]
      simp [go_sem, h1, h2, e1]
     obtain ⟨o1, ho1⟩ : ∃ x, x = ovN a b k' (ns ++ [-1]) out := ⟨_, rfl⟩
     rw [← ho1] at gf2 go2 hle2
     try simp [go_sem, seval, gf, go, hd, hds, ff, fo, Ovl.d, Ovl.c, lge hel, gf2, go2]
     repeat first | intro _ | refine ⟨obs, ?_⟩
     obtain ⟨I0, hI0⟩ := mkI fun j e H => (∃ ou : List Ovl, (e 0 = .ptr f 1 0 0) ∧ (e 1 = dLI ns) ∧ (e 34 = dLI a.nodes) ∧ (e 35 = dI a.nodes.length) ∧ (e 36 = dI j) ∧ (H.get f = some ⟨177, 5, [[dLI a.nodes, .list (a.edges.map Edge.c), dLI b.nodes, .list (b.edges.map Edge.c), .own o ou.length]], false⟩) ∧ (f < H.next) ∧ (H.get o = some ⟨45, 6, ou.map Ovl.c, false⟩) ∧ (o < H.next) ∧ (j ≤ a.nodes.length) ∧ (ou.length ≤ 2001) ∧ (ou = (List.range j).foldl (fun out j => if ndB a b ns j = true then ovN a b k' (ns ++ [(j : Int)]) out else out) o1) ∧ (∀ q, q ≠ f → q ≠ o → q < G.next → H.get q = G.get q) ∧ (G.next ≤ H.next))
     refine loopK I0 (fun j => a.nodes.length - j) (0) ((hI0 _ _ _).2 ⟨(o1), ?_, ?_, ?_, ?_, ?_, ?_, ?_, ?_, ?_, (by first | assumption | omega | (simp [go_sem, gf, go, hd, hds, ff, fo, Ovl.d, Ovl.c, lge hel, gf2, go2]; done) | (simp_all; done)), (by (exact hle2)), (by rfl), (by (exact hfr2)), (by omega)⟩) ?_
     iterate 9 (first | omega | (simp [go_sem, seval, gf, go, hd, hds, ff, fo, Ovl.d, Ovl.c, lge hel, gf2, go2] <;> omega))
     intro j e H hi0
     obtain ⟨ou, q0_0, q1_0, q34_0, q35_0, q36_0, gf_0, nf_0, go_0, no_0, hj, hou, hst, hfr, hnx⟩ := (hI0 _ _ _).1 hi0
     have xf := frs nf_0
     have xo := frs no_0
     have F0 := And.intro q0_0 (And.intro q1_0 (And.intro q34_0 (And.intro q35_0 (And.intro q36_0 (And.intro gf_0 (And.intro go_0 (And.intro xf xo)))))))
     have di1 := nep (show o ≠ f by omega)
     try simp [go_sem, seval, gf, go, hd, hds, ff, fo, Ovl.d, Ovl.c, lge hel, gf2, go2, F0, di1]
     refine condQ_mk (fun h5 => ?_) (fun h5 => ?_)
     ·try simp [go_sem] at h5
      have hEj : ndB a b ns j = (decide (a.nodes[j] = b.nodes[ns.length]) && !mem ns j) := by unfold ndB; rw [lge h5, lge hel]; rfl
      try simp [go_sem, seval, gf, go, hd, hds, ff, fo, Ovl.d, Ovl.c, lge hel, gf2, go2, F0, di1, h5, lge h5]
      repeat first | intro _ | refine ⟨obs, ?_⟩
      refine gcallQ_pure0 (fun hg => contains_int ns j) (fun hg => (by first | rfl | (simp [go_sem, ← List.map_take, ← List.map_drop, gf, go, hd, hds, ff, fo, Ovl.d, Ovl.c, lge hel, gf2, go2, F0, di1, h5, lge h5]; done))) ?_
      try simp [go_sem, seval, gf, go, hd, hds, ff, fo, Ovl.d, Ovl.c, lge hel, gf2, go2, F0, di1, h5, lge h5]
      repeat first | intro _ | refine ⟨obs, ?_⟩
      refine condQ_mk (fun h7 => ?_) (fun h7 => ?_)
      ·try simp [go_sem] at h7
       have hE : ndB a b ns j = true := by rw [hEj]; simpa using h7
       obtain ⟨ou2, hou2⟩ : ∃ x, x = ovN a b k' (ns ++ [(j : Int)]) ou := ⟨_, rfl⟩
       try simp [go_sem, seval, gf, go, hd, hds, ff, fo, Ovl.d, Ovl.c, lge hel, gf2, go2, F0, di1, h5, lge h5]
       repeat first | intro _ | refine ⟨obs, ?_⟩
       refine callQ_own0 (clone_int ns (by omega)) ((by first | rfl | (simp [go_sem, ← List.map_take, ← List.map_drop, gf, go, hd, hds, ff, fo, Ovl.d, Ovl.c, lge hel, gf2, go2, F0, di1, h5, lge h5]; done))) ?_
       try simp [go_sem, seval, gf, go, hd, hds, ff, fo, Ovl.d, Ovl.c, lge hel, gf2, go2, F0, di1, h5, lge h5]
       repeat first | intro _ | refine ⟨obs, ?_⟩
       refine callQ_frz (args' := [.ptr f 1 0 0, dLI (ns ++ [(j : Int)])]) (by simp [go_sem, gf, go, hd, hds, ff, fo, Ovl.d, Ovl.c, lge hel, gf2, go2, F0, di1, h5, lge h5, dLI]) rfl ?_
       unfold callQ
       refine ih k' (by omega) (ns ++ [(j : Int)]) ou _ _ (by simp; omega) (by simp [go_sem]; omega) (by simp [go_sem]; omega) ⟨by simp [go_sem, gf, go, hd, hds, ff, fo, Ovl.d, Ovl.c, lge hel, gf2, go2, F0, di1, h5, lge h5], by simp [go_sem, gf, go, hd, hds, ff, fo, Ovl.d, Ovl.c, lge hel, gf2, go2, F0, di1, h5, lge h5], hou⟩ (fun H3 hF3 hf3 hn3 => ?_)
       rw [← hou2] at hF3
       obtain ⟨gf3, go3, hle3⟩ := hF3
       simp [go_sem] at hn3
       have hfr3 : ∀ j, j ≠ f → j ≠ o → j < G.next → H3.get j = G.get j := fun j h1 h2 h3 => by
        have e1 := frs (show j < H.next by omega)
        rw [hf3 j h1 h2 (by simp [go_sem]; omega)]
        simp [go_sem, h1, h2, e1]
        exact hfr j h1 h2 h3
       have fr2 := And.intro (frs (show f < H3.next by omega)) (frs (show o < H3.next by omega))
       try simp [go_sem, seval, gf, go, hd, hds, ff, fo, Ovl.d, Ovl.c, lge hel, gf2, go2, F0, di1, h5, lge h5, gf3, go3, hou2, fr2]
       repeat first | intro _ | refine ⟨obs, ?_⟩
       refine nextQ_mk (j + 1) (by omega) ((hI0 _ _ _).2 ⟨(ou2), ?_, ?_, ?_, ?_, ?_, ?_, ?_, ?_, ?_, (by first | assumption | omega | (simp [go_sem, gf, go, hd, hds, ff, fo, Ovl.d, Ovl.c, lge hel, gf2, go2, F0, di1, h5, lge h5, gf3, go3, hou2, fr2, h0, h1, h7]; done) | (simp_all <;> omega)), (by (rw [hou2]; first | exact hou | exact ovN_le _ _ _ _ _ hou)), (by (rw [range_fold_succ, ← hst, hou2]; first | rw [if_pos hE] | rw [if_neg (by rw [hE]; simp)])), (by (first | exact hfr3 | exact hfr | (intro q h1 h2 h3; simp [go_sem, h1, h2, frs (show q < H.next by omega)]; exact hfr q h1 h2 h3))), (by (first | omega | (simp [go_sem]; omega)))⟩) <;> first | omega | (simp [go_sem, seval, gf, go, hd, hds, ff, fo, Ovl.d, Ovl.c, lge hel, gf2, go2, F0, di1, h5, lge h5, gf3, go3, hou2, fr2] <;> omega)
      ·try simp [go_sem] at h7
       have hE : ndB a b ns j = false := by
        rw [hEj, Bool.eq_false_iff]; intro hb'; simp at hb' h7
        have := h7 hb'.1; rw [hb'.2] at this; cases this
       obtain ⟨ou2, hou2⟩ : ∃ x, x = ou := ⟨_, rfl⟩
       try simp [go_sem, seval, gf, go, hd, hds, ff, fo, Ovl.d, Ovl.c, lge hel, gf2, go2, F0, di1, h5, lge h5, hou2]
       repeat first | intro _ | refine ⟨obs, ?_⟩
       refine nextQ_mk (j + 1) (by omega) ((hI0 _ _ _).2 ⟨(ou2), ?_, ?_, ?_, ?_, ?_, ?_, ?_, ?_, ?_, (by first | assumption | omega | (simp [go_sem, gf, go, hd, hds, ff, fo, Ovl.d, Ovl.c, lge hel, gf2, go2, F0, di1, h5, lge h5, hou2, h0, h1, h7]; done) | (simp_all <;> omega)), (by (rw [hou2]; first | exact hou | exact ovN_le _ _ _ _ _ hou)), (by (rw [range_fold_succ, ← hst, hou2]; first | rw [if_pos hE] | rw [if_neg (by rw [hE]; simp)])), (by (first | exact hfr3 | exact hfr | (intro q h1 h2 h3; simp [go_sem, h1, h2, frs (show q < H.next by omega)]; exact hfr q h1 h2 h3))), (by (first | omega | (simp [go_sem]; omega)))⟩) <;> first | omega | (simp [go_sem, seval, gf, go, hd, hds, ff, fo, Ovl.d, Ovl.c, lge hel, gf2, go2, F0, di1, h5, lge h5, hou2] <;> omega)
     ·try simp [go_sem] at h5
      have hJ : j = a.nodes.length := by omega
      have hOV : ovN a b (k' + 1) ns out = ou := by simp only [ovN]; rw [if_neg hnf, ← ho1, hst, hJ]
      try simp [go_sem, seval, gf, go, hd, hds, ff, fo, Ovl.d, Ovl.c, lge hel, gf2, go2, F0, di1]
      exact hQ _ (by rw [hOV]; exact ⟨by assumption, by assumption, hou⟩) hfr hnx
theorem nzAss_id {l : List (List D)} (h : ∀ c ∈ l, nzAs c = c) : nzAss l = l := by
  rw [nzAss_map]; conv => rhs; rw [← List.map_id l]
  exact List.map_congr_left h
theorem nz_ints (l : List Int) : nzAss (l.map cI) = l.map cI := nzAss_id fun c hc => by
  rw [List.mem_map] at hc; obtain ⟨x, _, rfl⟩ := hc; rfl
theorem nz_edges (l : List Edge) : nzAss (l.map Edge.c) = l.map Edge.c := nzAss_id fun c hc => by
  rw [List.mem_map] at hc; obtain ⟨x, _, rfl⟩ := hc; rfl
theorem nz_ovls (l : List Ovl) : nzAss (l.map Ovl.c) = l.map Ovl.c := nzAss_id fun c hc => by
  rw [List.mem_map] at hc; obtain ⟨x, _, rfl⟩ := hc
  simp [Ovl.c, nzAs, nzA, dLI, nz_ints, nz_edges]
def ovErr (a b : Graph) : Int :=
  if graphF a ≠ 0 then graphF a else if graphF b ≠ 0 then graphF b
  else if 40 < a.nodes.length + b.nodes.length ∨ 80 < a.edges.length + b.edges.length then 3
  else if 2000 < (ovN a b b.nodes.length [] []).length then 3 else 0
def ovL (a b : Graph) : List Ovl := if ovErr a b = 0 then ovN a b b.nodes.length [] [] else []
theorem ref13_Overlaps (a b : Graph) : Pure Tryz.prog 46 [a.d, b.d] (.tup [.list ((ovL a b).map Ovl.c), dI (ovErr a b)]) := by
  refine pureKA (by first | rfl | (simp [go_sem]; done)) (fun Q hQ => (acalls_of_body (cfg := ⟨fun t => t == 40, fun _ => []⟩) Tz.mixed Tryz.func46 rfl rfl (nlb rfl) (by kernel_rfl) ?_))
  try simp [go_sem, seval]
  refine callQ_pure0 (ref05_Valid a) ((by first | rfl | (simp [go_sem, ← List.map_take, ← List.map_drop]; done))) ?_
  try simp [go_sem, seval]
  refine condQ_mk (fun h2 => ?_) (fun h2 => ?_)
  · try simp [go_sem] at h2
    have hE : ovErr a b = graphF a := if_pos h2
    try simp [go_sem, seval]
    exact hQ _ _ (by simp [go_sem, ovL, hE, h2])
  · try simp [go_sem] at h2
    have hE2 : ¬ graphF a ≠ 0 := by rw [h2]; simp
    have hla := graphF_le h2
    try simp [go_sem, seval]
    refine callQ_pure0 (ref05_Valid b) ((by first | rfl | (simp [go_sem, ← List.map_take, ← List.map_drop]; done))) ?_
    try simp [go_sem, seval]
    refine condQ_mk (fun h5 => ?_) (fun h5 => ?_)
    ·try simp [go_sem] at h5
     have hE : ovErr a b = graphF b := by unfold ovErr; rw [if_neg hE2, if_pos h5]
     try simp [go_sem, seval]
     exact hQ _ _ (by simp [go_sem, ovL, hE, h5])
    ·try simp [go_sem] at h5
     have hE5 : ¬ graphF b ≠ 0 := by rw [h5]; simp
     have hlb := graphF_le h5
     try simp [go_sem, seval]
     repeat (first | intro _ | (refine ⟨obl, ?_⟩))
     refine condQ_mk (fun h7 => ?_) (fun h7 => ?_)
     ·try simp [go_sem] at h7
      have hE : ovErr a b = 3 := by unfold ovErr; rw [if_neg hE2, if_neg hE5, if_pos (by omega)]
      try simp [go_sem, seval]
      exact hQ _ _ (by simp [go_sem, ovL, hE])
     ·try simp [go_sem] at h7
      have hE7 : ¬ (40 < a.nodes.length + b.nodes.length ∨ 80 < a.edges.length + b.edges.length) := by omega
      try simp [go_sem, seval]
      refine callQ_ghosts (.step (.refl _) 0 0 4 45 6 _ _ (by simp [go_sem]; rfl) rfl rfl rfl) ?_
      simp [go_sem]
      refine callQ_nz (args' := [.ptr 0 1 0 0, dLI []]) (by simp [go_sem, dLI, nz1]) ?_
      unfold callQ
      refine ref13_nodes a b h2 h5 0 1 (by omega) b.nodes.length [] [] _ _ (by simp) (by simp [go_sem]) (by simp [go_sem]) ⟨by simp [go_sem], by simp [go_sem], by simp⟩ (fun H3 hF3 hf3 hn3 => ?_)
      obtain ⟨gf3, go3, hle3⟩ := hF3
      obtain ⟨out, hout⟩ : ∃ x, x = ovN a b b.nodes.length [] [] := ⟨_, rfl⟩
      rw [← hout] at gf3 go3 hle3
      try simp [go_sem, seval, gf3, go3]
      repeat (first | intro _ | (refine ⟨obl, ?_⟩))
      refine condQ_mk (fun h11 => ?_) (fun h11 => ?_)
      ·try simp [go_sem] at h11
       have hE : ovErr a b = 3 := by unfold ovErr; rw [if_neg hE2, if_neg hE5, if_neg hE7, ← hout, if_pos (by omega)]
       try simp [go_sem, seval, gf3, go3]
       exact hQ _ _ (by simp [go_sem, ovL, hE])
      ·try simp [go_sem] at h11
       have hE : ovErr a b = 0 := by unfold ovErr; rw [if_neg hE2, if_neg hE5, if_neg hE7, ← hout, if_neg (by omega)]
       have hL : ovL a b = out := by unfold ovL; rw [if_pos hE, hout]
       try simp [go_sem, seval, gf3, go3]
       exact hQ _ _ (by simp [go_sem, hE, hL, gf3, go3, nz_ovls])
end Go.Abs
end
section
set_option maxRecDepth 60000
set_option maxHeartbeats 1000000
open Go Go.Proofs
namespace Go.Abs
theorem factor_Overlaps (a b : Graph) (Q : D → AHeap → Prop) (hq1 : ∀ H', ovErr a b ≠ 0 → Q (.tup [.nil, dI (ovErr a b)]) H')
    (hq2 : ∀ o n H', ovErr a b = 0 → n = (ovL a b).length → H'.get o = some ⟨45, 6, (ovL a b).map Ovl.c, false⟩ → o < H'.next → Q (.tup [.own o n, dI 0]) H') : ACalls Tryz.prog 43 [a.d, b.d] .emp Q := by
  obtain ⟨gs, hgs⟩ : ∃ gs, gs = [a, b] := ⟨_, rfl⟩
  refine (acalls_of_body (cfg := ⟨fun t => t == 7 || t == 45, fun _ => []⟩) Tz.mixed Tryz.func43 rfl rfl (nlb rfl) (by kernel_rfl) ?_)
  try simp [go_sem, seval]
  repeat (first | intro _ | (refine ⟨obl, ?_⟩))
  obtain ⟨I0, hI0⟩ := mkI fun i e H => (∃ l : List (List D), (e 2 = .adr a.c) ∧ (e 3 = .adr b.c) ∧ (e 12 = .list l) ∧ (e 13 = dI 2) ∧ (e 14 = dI i) ∧ (i ≤ 2) ∧ (l = gs.map Graph.c) ∧ (∀ j x, j < i → gs[j]? = some x → graphF x = 0))
  refine loopK I0 (fun i => 2 - i) (0) ((hI0 _ _ _).2 ⟨([a.c, b.c]), ?_, ?_, ?_, ?_, ?_, (by first | assumption | omega | (simp [go_sem]; done) | (simp_all; done)), (by (rw [hgs]; rfl)), (by (intro j x hj; omega))⟩) ?_
  iterate 5 (first | omega | (simp [go_sem, seval] <;> omega))
  intro i e H hi0
  obtain ⟨l, q2_0, q3_0, q12_0, q13_0, q14_0, hi, hl, hz⟩ := (hI0 _ _ _).1 hi0
  have F0 := And.intro q2_0 (And.intro q3_0 (And.intro q12_0 (And.intro q13_0 q14_0)))
  try simp [go_sem, seval, F0]
  refine condQ_mk (fun h2 => ?_) (fun h2 => ?_)
  · try simp [go_sem] at h2
    have hgl : i < gs.length := by rw [hgs]; simp; omega
    try simp [go_sem, seval, F0, h2, hl, lge hgl, Graph.c]
    repeat (first | intro _ | (refine ⟨obl, ?_⟩))
    refine callQ_pure0 (graph_Valid gs[i]) ((by first | rfl | (simp [go_sem, ← List.map_take, ← List.map_drop, F0, h2, hl, lge hgl, Graph.c]; done))) ?_
    try simp [go_sem, seval, F0, h2, hl, lge hgl, Graph.c]
    repeat (first | intro _ | (refine ⟨obl, ?_⟩))
    refine condQ_mk (fun h5 => ?_) (fun h5 => ?_)
    ·try simp [go_sem] at h5
     have hE : ovErr a b = graphF gs[i] := by
      subst hgs
      rcases (show i = 0 ∨ i = 1 by omega) with rfl | rfl
      ·exact if_pos (by simpa using h5)
      ·unfold ovErr; rw [if_neg (by have := hz 0 a (by omega) rfl; omega), if_pos (by simpa using h5)]; rfl
     try simp [go_sem, seval, F0, h2, hl, lge hgl, Graph.c]
     (have := hq1; rw [hE] at this; exact this _ (by simpa using h5))
    ·try simp [go_sem] at h5
     try simp [go_sem, seval, F0, h2, hl, lge hgl, Graph.c]
     repeat (first | intro _ | (refine ⟨obl, ?_⟩))
     refine nextQ_mk (i + 1) (by omega) ((hI0 _ _ _).2 ⟨(l), ?_, ?_, ?_, ?_, ?_, (by first | assumption | omega | (simp [go_sem, F0, h2, hl, lge hgl, Graph.c, h5]; done) | (simp_all <;> omega)), (by (exact hl)), (by (intro j x hj hx; rcases Nat.lt_or_ge j i with h | h; exact hz j x h hx; obtain rfl : j = i := (by omega); rw [lge hgl] at hx; cases hx; exact h5))⟩) <;> first | omega | (simp [go_sem, seval, F0, h2, hl, lge hgl, Graph.c] <;> omega)
  · try simp [go_sem] at h2
    have hA : graphF a = 0 := hz 0 a (by omega) (by rw [hgs]; rfl)
    have hB : graphF b = 0 := hz 1 b (by omega) (by rw [hgs]; rfl)
    have hla := graphF_le hA
    have hlb := graphF_le hB
    have hEA : ¬ graphF a ≠ 0 := by rw [hA]; simp
    have hEB : ¬ graphF b ≠ 0 := by rw [hB]; simp
    try simp [go_sem, seval, F0]
    repeat (first | intro _ | (refine ⟨obl, ?_⟩))
    refine condQ_mk (fun h8 => ?_) (fun h8 => ?_)
    ·try simp [go_sem] at h8
     have hE : ovErr a b = 3 := by unfold ovErr; rw [if_neg hEA, if_neg hEB, if_pos (by omega)]
     try simp [go_sem, seval, F0]
     (have := hq1; rw [hE] at this; exact this _ (by simp))
    ·try simp [go_sem] at h8
     have hE8 : ¬ (40 < a.nodes.length + b.nodes.length ∨ 80 < a.edges.length + b.edges.length) := by omega
     try simp [go_sem, seval, F0]
     refine callQ_ghosts (.step (.refl _) H.next 0 4 45 6 _ _ (by simp [go_sem]; rfl) rfl rfl rfl) ?_
     simp [go_sem]
     refine callQ_nz (args' := [.ptr H.next 1 0 0, dLI []]) (by simp [go_sem, dLI, nz1]) ?_
     unfold callQ
     refine factor_nodes a b hA hB H.next (H.next + 1) (by omega) b.nodes.length [] [] _ _ (by simp) (by simp [go_sem]) (by simp [go_sem]) ⟨by simp [go_sem], by simp [go_sem], by simp⟩ (fun H3 hF3 hf3 hn3 => ?_)
     obtain ⟨gf3, go3, hle3⟩ := hF3
     have hn4 : H.next + 1 < H3.next := by have h := hn3; simp [go_sem] at h; omega
     obtain ⟨out, hout⟩ : ∃ x, x = ovN a b b.nodes.length [] [] := ⟨_, rfl⟩
     rw [← hout] at gf3 go3 hle3
     try simp [go_sem, seval, F0, gf3, go3]
     repeat (first | intro _ | (refine ⟨obl, ?_⟩))
     refine condQ_mk (fun h12 => ?_) (fun h12 => ?_)
     ·try simp [go_sem] at h12
      have hE : ovErr a b = 3 := by unfold ovErr; rw [if_neg hEA, if_neg hEB, if_neg hE8, ← hout, if_pos (by omega)]
      try simp [go_sem, seval, F0, gf3, go3]
      (have := hq1; rw [hE] at this; exact this _ (by simp))
     ·try simp [go_sem] at h12
      have hE : ovErr a b = 0 := by unfold ovErr; rw [if_neg hEA, if_neg hEB, if_neg hE8, ← hout, if_neg (by omega)]
      have hL : ovL a b = out := by unfold ovL; rw [if_pos hE, hout]
      try simp [go_sem, seval, F0, gf3, go3]
      exact hq2 _ _ _ hE (by rw [hL]) (by rw [hL]; assumption) (by omega)
end Go.Abs
end
section
set_option maxRecDepth 60000
set_option maxHeartbeats 1000000
open Go Go.Proofs
namespace Go.Abs
def rule0 : Rule := ⟨⟨#[]⟩, ⟨⟨[], []⟩, [], 0, []⟩, ⟨⟨[], []⟩, [], 0, []⟩, ⟨[], []⟩, ⟨[], []⟩, false, .mk 0 [] ⟨[], []⟩ ⟨⟨[], []⟩, [], 0, []⟩⟩
def ovl0 : Ovl := ⟨⟨[], []⟩, ⟨[], []⟩, ⟨[], []⟩⟩
def glued0 : Glued := ⟨rule0, rule0, ovl0, ⟨[], []⟩, ⟨[], []⟩⟩
def concName : ByteArray := ⟨#[99, 111, 110, 99, 117, 114, 114, 101, 110, 116]⟩
def trueC : Cond := .mk 1 [] ⟨[], []⟩ ⟨⟨[], []⟩, [], 0, []⟩
def concOf (l r : Graph) (d f : Part) : Rule := ⟨concName, ⟨l, [], 0, []⟩, ⟨r, [], 0, []⟩, ⟨comA d.nodes f.nodes d.nodes.length, comA d.edges f.edges d.edges.length⟩, ⟨comB d.nodes f.nodes d.nodes.length, comB d.edges f.edges d.edges.length⟩, true, trueC⟩
def bigB (g : Graph) : Bool := decide (40 < g.nodes.length) || decide (80 < g.edges.length)
def Glued.l (x : Glued) : Graph := halfG x.o.graph x.d x.a.left.graph x.a.keep x.a.into.nodes x.o.left.nodes
def Glued.r (x : Glued) : Graph := halfG x.o.graph x.f x.b.right.graph x.b.into x.b.keep.nodes x.o.right.nodes
def ruleErr (x : Glued) : Int := if (bigB x.l || bigB x.r) = true then 3 else 0
def ruleOf (x : Glued) : Rule := if ruleErr x = 0 then concOf x.l x.r x.d x.f else rule0
theorem glued_rule (x : Glued) (h1 : HOk x.o.graph x.d x.a.left.graph x.a.keep x.a.into.nodes x.o.left.nodes) (h2 : HOk x.o.graph x.f x.b.right.graph x.b.into x.b.keep.nodes x.o.right.nodes) : Pure Tryz.prog 28 [x.dd] (.tup [(ruleOf x).d, dI (ruleErr x)]) := by
  have hL := glued_left x h1
  have hR := glued_right x h2
  have hn := h1.lp
  have he := h1.lpe
  obtain ⟨l, hl⟩ : ∃ l, x.l = l := ⟨_, rfl⟩
  obtain ⟨r, hr⟩ : ∃ r, x.r = r := ⟨_, rfl⟩
  rw [show halfG x.o.graph x.d x.a.left.graph x.a.keep x.a.into.nodes x.o.left.nodes = l from hl] at hL
  rw [show halfG x.o.graph x.f x.b.right.graph x.b.into x.b.keep.nodes x.o.right.nodes = r from hr] at hR
  refine pureKA (by first | rfl | (simp [go_sem]; done)) (fun Q hQ => (acalls_of_body (cfg := ⟨fun t => t == 2 || t == 4 || t == 5 || t == 6, fun r => match r with | 1 => [(0, 4), (1, 4), (2, 4), (3, 4), (0, 5), (1, 5), (2, 5), (3, 5), (4, 5)] | _ => []⟩) Tz.mixed Tryz.func28 rfl rfl (nlb rfl) (by kernel_rfl) ?_))
  try simp -implicitDefEqProofs [go_sem, seval, Glued.dd, Glued.c, Rule.c, Ovl.c, Part.c]
  refine dcallQ_pure0 (hL) ((by first | rfl | (simp [go_sem, ← List.map_take, ← List.map_drop, Glued.dd, Glued.c, Rule.c, Ovl.c, Part.c]; done))) ?_
  try simp -implicitDefEqProofs [go_sem, seval, Glued.dd, Glued.c, Rule.c, Ovl.c, Part.c]
  refine dcallQ_pure0 (hR) ((by first | rfl | (simp [go_sem, ← List.map_take, ← List.map_drop, Glued.dd, Glued.c, Rule.c, Ovl.c, Part.c]; done))) ?_
  try simp -implicitDefEqProofs [go_sem, seval, Glued.dd, Glued.c, Rule.c, Ovl.c, Part.c]
  repeat first | intro _ | refine ⟨obs, ?_⟩
  refine condQ_mk (fun h2 => ?_) (fun h2 => ?_)
  · try simp [go_sem] at h2
    have hE : ruleErr x = 3 := by unfold ruleErr; rw [hl, hr, if_pos (by simp [bigB]; omega)]
    have hZ : ruleOf x = rule0 := by unfold ruleOf; rw [if_neg (by rw [hE]; simp)]
    try simp -implicitDefEqProofs [go_sem, seval, Glued.dd, Glued.c, Rule.c, Ovl.c, Part.c]
    exact hQ _ _ (by simp [go_sem, Glued.dd, Glued.c, Rule.c, Ovl.c, Part.c, hE, hZ, rule0, Rule.d, nz_ints, nz_edges, Cond.kind, Cond.kids, Cond.map, Cond.pattern])
  · try simp [go_sem] at h2
    have hE : ruleErr x = 0 := by unfold ruleErr; rw [hl, hr, if_neg (by simp [bigB]; omega)]
    have hZ : ruleOf x = concOf l r x.d x.f := by unfold ruleOf; rw [if_pos hE, hl, hr]
    try simp -implicitDefEqProofs [go_sem, seval, Glued.dd, Glued.c, Rule.c, Ovl.c, Part.c]
    refine callQ_pure0 (concurrent_common x.d.nodes x.f.nodes hn) ((by first | rfl | (simp [go_sem, ← List.map_take, ← List.map_drop, Glued.dd, Glued.c, Rule.c, Ovl.c, Part.c]; done))) ?_
    try simp -implicitDefEqProofs [go_sem, seval, Glued.dd, Glued.c, Rule.c, Ovl.c, Part.c]
    refine callQ_pure0 (concurrent_common x.d.edges x.f.edges he) ((by first | rfl | (simp [go_sem, ← List.map_take, ← List.map_drop, Glued.dd, Glued.c, Rule.c, Ovl.c, Part.c]; done))) ?_
    try simp -implicitDefEqProofs [go_sem, seval, Glued.dd, Glued.c, Rule.c, Ovl.c, Part.c]
    exact hQ _ _ (by simp [go_sem, Glued.dd, Glued.c, Rule.c, Ovl.c, Part.c, hE, hZ, concOf, concName, trueC, Rule.d, nz_ints, nz_edges, Cond.kind, Cond.kids, Cond.map, Cond.pattern])
end Go.Abs
end
section
set_option maxRecDepth 60000
set_option maxHeartbeats 1000000
open Go Go.Proofs
namespace Go.Abs
def growRen : Go.Shelf.Ren := ⟨fun | 4 => 206 | n => n, fun | 22 => 26 | 25 => 3 | n => n, fun n => n⟩
theorem laysGrow : Lays8.n4 Tryz.prog growRen := {
  mixed := by kernel_rfl
  f4 := ⟨Tryz.f206.name, rfl, Tryz.func206.trans (congrArg some (by kernel_rfl))⟩
  t0 := Tryz.underlying0
  a0 := Tryz.isAgg0
  z0 := Tryz.sizeOf0
  v0 := Tryz.zeroValue0
  t3 := Tryz.underlying3
  a3 := Tryz.isAgg3
  z3 := Tryz.sizeOf3
  v3 := Tryz.zeroValue3
  t4 := Tryz.underlying4
  a4 := Tryz.isAgg4
  z4 := Tryz.sizeOf4
  v4 := Tryz.zeroValue4
  t9 := Tryz.underlying9
  a9 := Tryz.isAgg9
  z9 := Tryz.sizeOf9
  v9 := Tryz.zeroValue9
  t20 := Tryz.underlying20
  a20 := Tryz.isAgg20
  z20 := Tryz.sizeOf20
  v20 := Tryz.zeroValue20
  t22 := Tryz.underlying26
  a22 := Tryz.isAgg26
  z22 := Tryz.sizeOf26
  v22 := Tryz.zeroValue26 }
theorem grow_int (n : Nat) (hn : n ≤ 1000000) : Own Tryz.prog 206 [.nil, dI n] 3 1 [] := by
  refine ⟨⟨_, Tryz.func206, rfl, rfl⟩, fun M w vals hM ha => ?_⟩
  obtain ⟨hlen, hr⟩ := ha
  match vals, hlen with
  | [v0, v1], _ =>
    have e0 := hr 0 v0 .nil rfl rfl
    have e1 := hr 1 v1 (dI n) rfl rfl
    cases e0
    unfold dI at e1
    cases e1
    rcases Nat.eq_zero_or_pos n with h0 | h0
    ·subst h0
     refine (Any8.slices_Grow_room laysGrow none 0 0 0 w (by omega) (by omega) (by omega) (by omega)).mono fun e w' ⟨he, hw⟩ => ?_
     subst hw
     exact ⟨_, [], he, ⟨rfl, .inl ⟨rfl, rfl⟩⟩, by simp, ⟨rfl, fun j u d hu => by simp at hu⟩, rfl, by simp, RowKit.Below.refl _ _⟩
    ·obtain ⟨i0, hi0, hz, hs, hb⟩ : ∃ i0, Tryz.prog.info? 3 = some i0 ∧ i0.zero = some (.int .i64 0) ∧ i0.size = 1 ∧ i0.bytes = 8 := ⟨_, rfl, rfl, rfl, rfl⟩
     refine (Any8.slices_Grow_grow laysGrow i0 (.int .i64 0) hi0 hz (by omega) none 0 0 n [] w (by omega) (by omega) (by rw [hb]; omega) (by omega) (by simp) (fun _ => rfl) (fun a ha => by cases ha)).mono fun e w' ⟨he, hw⟩ => ?_
     rw [show growRen.t 25 = 3 from rfl, Nat.zero_add] at he hw
     have hG := grownCap_ge w n 0 3
     have hM' := grownCap_le_maxLen w n 0 3 (by unfold maxLen; omega)
     obtain ⟨G, hGe⟩ : ∃ G, grownCap w n 0 3 = G := ⟨_, rfl⟩
     rw [hGe] at hG hM' he hw
     obtain ⟨C, hC⟩ : ∃ C, ([].toArray ++ Builtin.zeroCells (Value.int IntKind.i64 0).cells (n - 0) ++ Builtin.zeroCells (Value.int IntKind.i64 0).cells (G - n) : Array Value) = C := ⟨_, rfl⟩
     have hCs : C.size = G := by rw [← hC]; simp [Builtin.zeroCells, Value.cells]; omega
     rw [hC] at hw
     have hbl : RowKit.Below w.heap.size w (w.drew.alloc (.cells C 3)) := ((RowKit.Below.refl _ _).drew).alloc (Nat.le_refl _) _
     subst hw
     refine ⟨_, [], he, ⟨rfl, .inr ⟨w.heap.size, G, C, rfl, Nat.le_refl _, ?_, Nat.zero_le _, hM', by rw [hCs]; omega, by simp⟩⟩, by simp, ⟨rfl, fun j u d hu => by simp at hu⟩, rfl, by simp, hbl⟩
     show (w.heap.push _)[w.heap.size]? = _
     simp
theorem flat_take_len (ls : List (List Int)) (i : Nat) : (ls.take i).flatten.length ≤ ls.flatten.length := by
  have h := congrArg (fun l => (List.flatten l).length) (List.take_append_drop i ls)
  simp only [List.flatten_append, List.length_append] at h
  omega
def exactP (t : Types) (l : List Int) : Bool := !(l.any fun k => decide (given2F t k k ≠ 0) || decide (1 < (belowT t k).length))
def flen (ls : List (List Int)) (i : Nat) : Nat := (ls.take i).flatten.length
theorem flen_succ {ls : List (List Int)} {i : Nat} (h : i < ls.length) : flen ls (i + 1) = flen ls i + ls[i].length := by
  unfold flen; rw [List.take_succ_eq_append_getElem h, List.flatten_append, List.length_append]; simp only [List.flatten_cons, List.flatten_nil, List.append_nil]
@[go_sem] theorem flen_zero (ls : List (List Int)) : flen ls 0 = 0 := rfl
theorem flen_le (ls : List (List Int)) (i : Nat) : flen ls i ≤ ls.flatten.length := flat_take_len ls i
theorem flen_end {ls : List (List Int)} {i : Nat} (h : ls.length ≤ i) : flen ls i = ls.flatten.length := by
  unfold flen; rw [List.take_of_length_le h]
theorem concat_ints (ls : List (List Int)) (fs : List Int) (hfs : fs = ls.flatten) (hk : ls.length ≤ 1000) (h : fs.length ≤ 100000) : Own Tryz.prog 124 [.list (ls.map fun l => [dLI l])] 3 1 (fs.map cI) := by
  refine Tz.oK ⟨fun _ => false, fun _ => []⟩ Tryz.func124 rfl (fun Q hQ => ?_)
  try simp [go_sem, seval]
  repeat (first | intro _ | (refine ⟨obl, ?_⟩))
  obtain ⟨I0, hI0⟩ := mkI fun i e H => ((e 9 = .list (ls.map fun l => [dLI l])) ∧ (e 10 = dI ls.length) ∧ (e 11 = dI i) ∧ (e 0 = .list (ls.map fun l => [dLI l])) ∧ (e 3 = dI (flen ls i)) ∧ (i ≤ ls.length))
  refine loopK I0 (fun i => ls.length - i) (0) ((hI0 _ _ _).2 ⟨?_, ?_, ?_, ?_, ?_, (by first | assumption | omega | (simp [go_sem]; done) | (simp_all; done))⟩) ?_
  iterate 5 (first | omega | (simp [go_sem, seval] <;> omega))
  intro i e H hi0
  obtain ⟨q9_0, q10_0, q11_0, q0_0, q3_0, hi⟩ := (hI0 _ _ _).1 hi0
  have F0 := And.intro q9_0 (And.intro q10_0 (And.intro q11_0 (And.intro q0_0 q3_0)))
  try simp [go_sem, seval, F0]
  refine condQ_mk (fun h3 => ?_) (fun h3 => ?_)
  · try simp [go_sem] at h3
    have hst := flen_succ h3
    have hle := flen_le ls (i + 1)
    rw [← hfs] at hle
    try simp [go_sem, seval, F0, h3, lge h3, hst]
    repeat (first | intro _ | (refine ⟨obl, ?_⟩))
    refine condQ_mk (fun h6 => ?_) (fun h6 => ?_)
    ·(try simp [go_sem] at h6); omega
    ·try simp [go_sem] at h6
     try simp [go_sem, seval, F0, h3, lge h3, hst]
     repeat (first | intro _ | (refine ⟨obl, ?_⟩))
     refine nextQ_mk (i + 1) (by omega) ((hI0 _ _ _).2 ⟨?_, ?_, ?_, ?_, ?_, (by first | assumption | omega | (simp [go_sem, F0, h3, lge h3, hst, h6]; done) | (simp_all <;> omega))⟩) <;> first | omega | (simp [go_sem, seval, F0, h3, lge h3, hst] <;> omega)
  · try simp [go_sem] at h3
    have hI : flen ls i = fs.length := by rw [flen_end (by omega), hfs]
    try simp [go_sem, seval, F0, hI]
    refine callQ_own0 (grow_int fs.length (by omega)) ((by first | rfl | (simp [go_sem, ← List.map_take, ← List.map_drop, F0, hI]; done))) ?_
    try simp [go_sem, seval, F0, hI]
    repeat (first | intro _ | (refine ⟨obl, ?_⟩))
    obtain ⟨I2, hI2⟩ := mkI fun k e H => (∃ q : Nat, ∃ xs : List Int, (e 25 = .list (ls.map fun l => [dLI l])) ∧ (e 26 = dI ls.length) ∧ (e 27 = dI k) ∧ (e 6 = .own q xs.length) ∧ (H.get q = some ⟨3, 1, xs.map cI, false⟩) ∧ (q < H.next) ∧ (k ≤ ls.length) ∧ (xs = (ls.take k).flatten))
    refine loopK I2 (fun k => ls.length - k) (0) ((hI2 _ _ _).2 ⟨(H.next), ([]), ?_, ?_, ?_, ?_, ?_, ?_, (by first | assumption | omega | (simp [go_sem, F0, hI]; done) | (simp_all; done)), (by (simp))⟩) ?_
    iterate 6 (first | omega | (simp [go_sem, seval, F0, hI] <;> omega))
    intro k e H hi2
    obtain ⟨q, xs, q25_2, q26_2, q27_2, q6_2, gq_2, nq_2, hk, hx⟩ := (hI2 _ _ _).1 hi2
    have xq := frs nq_2
    have F2 := And.intro q25_2 (And.intro q26_2 (And.intro q27_2 (And.intro q6_2 (And.intro gq_2 xq))))
    try simp [go_sem, seval, hI, F2]
    refine condQ_mk (fun h11 => ?_) (fun h11 => ?_)
    ·try simp [go_sem] at h11
     have hle : xs.length + ls[k].length ≤ fs.length := by
      have := flen_le ls (k + 1); rw [flen_succ h11, ← hfs] at this; rw [hx]; exact this
     try simp [go_sem, seval, hI, F2, h11, lge h11]
     repeat (first | intro _ | (refine ⟨obl, ?_⟩))
     refine nextQ_mk (k + 1) (by omega) ((hI2 _ _ _).2 ⟨(q), (xs ++ ls[k]), ?_, ?_, ?_, ?_, ?_, ?_, (by first | assumption | omega | (simp [go_sem, hI, F2, h11, lge h11, h3]; done) | (simp_all <;> omega)), (by (rw [List.take_succ_eq_append_getElem h11, List.flatten_append, ← hx]; simp))⟩) <;> first | omega | (simp [go_sem, seval, hI, F2, h11, lge h11] <;> omega)
    ·try simp [go_sem] at h11
     have hX : xs = fs := by rw [hx, List.take_of_length_le (by omega), hfs]
     try simp [go_sem, seval, hI, F2]
     exact hQ _ _ _ (by simp [go_sem, hI, F2, hX]) (by simp [go_sem, hI, F2, hX])
theorem concurrent_exact1 (t : Types) (ht : t.ok) (k : Int) : Pure Tryz.prog 125 [dI k, .adr t.c] (.bool (decide (given2F t k k ≠ 0) || decide (1 < (belowT t k).length))) := by
  refine Tz.pK ⟨fun _ => false, fun _ => []⟩ Tryz.func125 rfl (fun Q hQ => ?_)
  try simp [go_sem, seval]
  refine callQ_pure0 (types_Below t ht k) ((by first | rfl | (simp [go_sem, ← List.map_take, ← List.map_drop]; done))) ?_
  try simp [go_sem, seval]
  repeat (first | intro _ | (refine ⟨obl, ?_⟩))
  exact hQ _ _ (by simp [go_sem] <;> first | omega | (rw [bei]; simp <;> omega) | (simp_all <;> omega))
theorem concurrent_exact (t : Types) (ht : t.ok) (r : Rule) (h1 : r.left.graph.nodes.length ≤ 1000) (h2 : r.right.graph.nodes.length ≤ 1000) : Pure Tryz.prog 59 [t.d, r.d] (.bool (exactP t (r.left.graph.nodes ++ r.right.graph.nodes))) := by
  obtain ⟨fs, hfs⟩ : ∃ fs, fs = r.left.graph.nodes ++ r.right.graph.nodes := ⟨_, rfl⟩
  have hc := (concat_ints [r.left.graph.nodes, r.right.graph.nodes] fs (by rw [hfs]; simp) (by simp) (by rw [hfs]; simp; omega)).pure
  have hf := containsFunc_int fs 125 [.adr t.c] (fun k => decide (given2F t k k ≠ 0) || decide (1 < (belowT t k).length)) (by simp [go_sem]) (by simp [go_sem]) (fun k _ => concurrent_exact1 t ht k)
  have hX : exactP t fs = !(fs.any fun k => decide (given2F t k k ≠ 0) || decide (1 < (belowT t k).length)) := rfl
  obtain ⟨u, hu⟩ : ∃ u, (fs.any fun k => decide (given2F t k k ≠ 0) || decide (1 < (belowT t k).length)) = u := ⟨_, rfl⟩
  rw [hu] at hf hX
  rw [← hfs, hX]
  simp only [List.map_cons, List.map_nil] at hc
  refine Tz.pK ⟨fun _ => false, fun _ => []⟩ Tryz.func59 rfl (fun Q hQ => ?_)
  try simp [go_sem, seval]
  repeat (first | intro _ | (refine ⟨obl, ?_⟩))
  refine callQ_pure0 (hc) ((by first | rfl | (simp [go_sem, ← List.map_take, ← List.map_drop]; done))) ?_
  try simp [go_sem, seval]
  repeat (first | intro _ | (refine ⟨obl, ?_⟩))
  refine callQ_pure0 (hf) ((by first | rfl | (simp [go_sem, ← List.map_take, ← List.map_drop]; done))) ?_
  try simp [go_sem, seval]
  repeat (first | intro _ | (refine ⟨obl, ?_⟩))
  exact hQ _ _ (by simp [go_sem] <;> first | omega | (rw [bei]; simp <;> omega) | (simp_all <;> omega))
theorem given2F_zero {t : Types} (hv : (validF t).2 = 0) {k : Int} (h : 0 ≤ k ∧ k < t.nodes.length) : given2F t k k = 0 := by
  unfold given2F; rw [if_neg (by rw [hv]; simp), if_pos (by simp [insideF]; omega)]
theorem exactP_eq {t : Types} {l : List Int} (h : ∀ k ∈ l, given2F t k k = 0) : exactP t l = leafB t l := by
  unfold exactP leafB
  induction l with
  | nil => rfl
  | cons a l ih =>
    have ih' := ih fun k hk => h k (List.mem_cons_of_mem _ hk)
    have ha := h a (List.mem_cons_self ..)
    rw [List.any_cons, List.all_cons, Bool.not_or, ih', ha]
    congr 1
    rw [bei]; simp
theorem leafB_append (t : Types) (l m : List Int) : leafB t (l ++ m) = (leafB t l && leafB t m) := by unfold leafB; rw [List.all_append]
structure Rule.parts (t : Types) (r : Rule) : Prop where
  v : (validF t).2 = 0
  pat : patternF t r.left = 0
  gl : graphF r.left.graph = 0
  gr : graphF r.right.graph = 0
  tl : typedB t r.left.graph = true
  tr : typedB t r.right.graph = true
  sub : subF r.left.graph r.keep = 0
  mor : morphF (extractG r.left.graph r.keep) r.right.graph r.into = 0
  inj : injB (extractG r.left.graph r.keep) r.right.graph r.into = true
  mkb : makeB t r.right.graph r.freshN r.freshE = true
theorem ruleF_parts {t : Types} {r : Rule} (h : ruleF t r = 0) : Rule.parts t r := by
  unfold ruleF at h
  split at h
  · rename_i h1; exact absurd h h1
  · rename_i h1
    split at h
    ·cases h
    ·split at h
     ·rename_i h3; exact absurd h h3
     ·rename_i h3
      split at h
      ·rename_i h4; exact absurd h h4
      ·rename_i h4
       split at h
       ·rename_i h5; exact absurd h h5
       ·rename_i h5
        split at h
        ·cases h
        ·rename_i h6
         have hr := rightF_of (t := t) (r := r) (by omega)
         have hp : graphF r.left.graph = 0 ∧ typedB t r.left.graph = true := by
          have h3' : patternF t r.left = 0 := by omega
          unfold patternF at h3'
          split at h3'
          ·rename_i q; exact absurd h3' q
          ·split at h3'
           ·rename_i q; exact absurd h3' q
           ·rename_i q
            split at h3'
            ·cases h3'
            ·rename_i q2; exact ⟨by omega, by simpa using q2⟩
         have hk : subF r.left.graph r.keep = 0 ∧ morphF (extractG r.left.graph r.keep) r.right.graph r.into = 0 ∧ injB (extractG r.left.graph r.keep) r.right.graph r.into = true := by
          have h5' : keptF r = 0 := by omega
          unfold keptF at h5'
          split at h5'
          ·rename_i q; exact absurd h5' q
          ·rename_i q
           split at h5'
           ·rename_i q2; exact absurd h5' q2
           ·rename_i q2
            split at h5'
            ·cases h5'
            ·rename_i q3; exact ⟨by omega, by omega, by simpa using q3⟩
         exact ⟨by omega, by omega, hp.1, hr.1, hp.2, hr.2, hk.1, hk.2.1, hk.2.2, by simpa using h6⟩
theorem exactP_of {t : Types} {r : Rule} (h : ruleF t r = 0) : exactP t (r.left.graph.nodes ++ r.right.graph.nodes) = (leafB t r.left.graph.nodes && leafB t r.right.graph.nodes) := by
  have hp := ruleF_parts h
  rw [exactP_eq, leafB_append]
  intro k hk
  rcases List.mem_append.1 hk with hk | hk
  · exact given2F_zero hp.v ((typedB_in hp.gl hp.tl).1 k hk)
  · exact given2F_zero hp.v ((typedB_in hp.gr hp.tr).1 k hk)
theorem givenR_at {t : Types} {a b : Rule} (hv : (validF t).2 = 0) {rs : List Rule} (hrs : rs = [a, b]) {i : Nat} (hi : i < rs.length) (hz : ∀ j x, j < i → rs[j]? = some x → oneR t x = 0) (hne : oneR t rs[i] ≠ 0) : givenR t a b = oneR t rs[i] := by
  subst hrs
  unfold givenR
  rw [if_neg (by rw [hv]; simp)]
  simp only [List.length_cons, List.length_nil] at hi
  rcases (show i = 0 ∨ i = 1 by omega) with rfl | rfl
  · exact if_pos hne
  · rw [if_neg (by rw [hz 0 a (by omega) rfl]; simp)]; rfl
theorem concurrent_given (t : Types) (ht : t.ok) (a b : Rule) (ha : a.ok) (hb : b.ok) (hat : a.thin) (hbt : b.thin) : Pure Tryz.prog 26 [t.d, .list [a.c, b.c]] (dI (givenR t a b)) := by
  obtain ⟨rs, hrs⟩ : ∃ rs, rs = [a, b] := ⟨_, rfl⟩
  have hok : ∀ r ∈ rs, r.ok ∧ r.thin := by rw [hrs]; intro r hr; simp at hr; rcases hr with rfl | rfl; exact ⟨ha, hat⟩; exact ⟨hb, hbt⟩
  refine Tz.pK ⟨fun t => t == 8, fun _ => []⟩ Tryz.func26 rfl (fun Q hQ => ?_)
  try simp [go_sem, seval]
  refine callQ_pure0 (types_Valid t ht) ((by first | rfl | (simp [go_sem, ← List.map_take, ← List.map_drop]; done))) ?_
  try simp [go_sem, seval]
  refine condQ_mk (fun h2 => ?_) (fun h2 => ?_)
  · try simp [go_sem] at h2
    have hE : givenR t a b = (validF t).2 := if_pos h2
    try simp [go_sem, seval]
    exact hQ _ _ (by first | (left; (simp [go_sem, hE]); done) | (right; (simp [go_sem, hE]); done))
  · try simp [go_sem] at h2
    try simp [go_sem, seval]
    repeat (first | intro _ | (refine ⟨obl, ?_⟩))
    obtain ⟨I0, hI0⟩ := mkI fun i e H => (∃ l : List (List D), (e 2 = .adr t.c) ∧ (e 18 = .list l) ∧ (e 19 = dI 2) ∧ (e 20 = dI i) ∧ (i ≤ 2) ∧ (l = rs.map Rule.c) ∧ (∀ j x, j < i → rs[j]? = some x → oneR t x = 0))
    refine loopK I0 (fun i => 2 - i) (0) ((hI0 _ _ _).2 ⟨([a.c, b.c]), ?_, ?_, ?_, ?_, (by first | assumption | omega | (simp [go_sem]; done) | (simp_all; done)), (by (rw [hrs]; rfl)), (by (intro j x hj; omega))⟩) ?_
    iterate 4 (first | omega | (simp [go_sem, seval] <;> omega))
    intro i e H hi0
    obtain ⟨l, q2_0, q18_0, q19_0, q20_0, hi, hl, hz⟩ := (hI0 _ _ _).1 hi0
    have F0 := And.intro q2_0 (And.intro q18_0 (And.intro q19_0 q20_0))
    try simp [go_sem, seval, F0]
    refine condQ_mk (fun h5 => ?_) (fun h5 => ?_)
    ·try simp [go_sem] at h5
     have hgl : i < rs.length := by rw [hrs]; simp; omega
     have hoi := hok _ (lgm hgl)
     try simp [go_sem, seval, F0, h5, hl, lge hgl, Rule.c]
     repeat (first | intro _ | (refine ⟨obl, ?_⟩))
     refine callQ_pure0 (rule_Valid t ht rs[i] hoi.1) ((by first | rfl | (simp [go_sem, ← List.map_take, ← List.map_drop, F0, h5, hl, lge hgl, Rule.c]; done))) ?_
     try simp [go_sem, seval, F0, h5, hl, lge hgl, Rule.c]
     repeat (first | intro _ | (refine ⟨obl, ?_⟩))
     refine condQ_mk (fun h8 => ?_) (fun h8 => ?_)
     ·try simp [go_sem] at h8
      have hO : oneR t rs[i] = ruleF t rs[i] := if_pos h8
      have hE := givenR_at h2 hrs hgl hz (by rw [hO]; exact h8)
      try simp [go_sem, seval, F0, h5, hl, lge hgl, Rule.c]
      exact hQ _ _ (by first | (left; (simp [go_sem, hE, hO]); done) | (right; (simp [go_sem, hE, hO]); done))
     ·try simp [go_sem] at h8
      have h8' : ¬ ruleF t rs[i] ≠ 0 := by rw [h8]; simp
      have hP := ruleF_parts h8
      have hg1 := graphF_le hP.gl
      have hg2 := graphF_le hP.gr
      have hX := exactP_of h8
      try simp [go_sem, seval, F0, h5, hl, lge hgl, Rule.c]
      repeat (first | intro _ | (refine ⟨obl, ?_⟩))
      refine callQ_pure0 (concurrent_structural rs[i] hoi.2) ((by first | rfl | (simp [go_sem, ← List.map_take, ← List.map_drop, F0, h5, hl, lge hgl, Rule.c]; done))) ?_
      try simp [go_sem, seval, F0, h5, hl, lge hgl, Rule.c]
      repeat (first | intro _ | (refine ⟨obl, ?_⟩))
      refine condQ_mk (fun h10 => ?_) (fun h10 => ?_)
      ·try simp [go_sem] at h10
       have hO : oneR t rs[i] = 8 := by unfold oneR; rw [if_neg h8', if_pos h10]
       have hE := givenR_at h2 hrs hgl hz (by rw [hO]; simp)
       try simp [go_sem, seval, F0, h5, hl, lge hgl, Rule.c]
       exact hQ _ _ (by first | (left; (simp [go_sem, hE, hO]); done) | (right; (simp [go_sem, hE, hO]); done))
      ·try simp [go_sem] at h10
       have h10' : ¬ structB rs[i] = false := by rw [h10]; simp
       try simp [go_sem, seval, F0, h5, hl, lge hgl, Rule.c]
       repeat (first | intro _ | (refine ⟨obl, ?_⟩))
       refine callQ_pure0 (concurrent_exact t ht rs[i] (by omega) (by omega)) ((by first | rfl | (simp [go_sem, ← List.map_take, ← List.map_drop, F0, h5, hl, lge hgl, Rule.c]; done))) ?_
       try simp [go_sem, seval, F0, h5, hl, lge hgl, Rule.c]
       repeat (first | intro _ | (refine ⟨obl, ?_⟩))
       refine condQ_mk (fun h12 => ?_) (fun h12 => ?_)
       ·try simp [go_sem] at h12
        have hO : oneR t rs[i] = 13 := by unfold oneR; rw [if_neg h8', if_neg h10', if_pos (by rw [← hX]; exact h12)]
        have hE := givenR_at h2 hrs hgl hz (by rw [hO]; simp)
        try simp [go_sem, seval, F0, h5, hl, lge hgl, Rule.c]
        exact hQ _ _ (by first | (left; (simp [go_sem, hE, hO]); done) | (right; (simp [go_sem, hE, hO]); done))
       ·try simp [go_sem] at h12
        have hO : oneR t rs[i] = 0 := by unfold oneR; rw [if_neg h8', if_neg h10', if_neg (by rw [← hX, h12]; simp)]
        try simp [go_sem, seval, F0, h5, hl, lge hgl, Rule.c]
        repeat (first | intro _ | (refine ⟨obl, ?_⟩))
        refine nextQ_mk (i + 1) (by omega) ((hI0 _ _ _).2 ⟨(l), ?_, ?_, ?_, ?_, (by first | assumption | omega | (simp [go_sem, F0, h5, hl, lge hgl, Rule.c, h2, h8, h10, h12]; done) | (simp_all <;> omega)), (by (exact hl)), (by (intro j x hj hx; rcases Nat.lt_or_ge j i with h | h; exact hz j x h hx; obtain rfl : j = i := (by omega); rw [lge hgl] at hx; cases hx; exact hO))⟩) <;> first | omega | (simp [go_sem, seval, F0, h5, hl, lge hgl, Rule.c] <;> omega)
    ·try simp [go_sem] at h5
     have hE : givenR t a b = 0 := by
      unfold givenR; rw [if_neg (by rw [h2]; simp), if_neg (by rw [hz 0 a (by omega) (by rw [hrs]; rfl)]; simp)]
      exact hz 1 b (by omega) (by rw [hrs]; rfl)
     try simp [go_sem, seval, F0]
     exact hQ _ _ (by first | (left; (simp [go_sem, hE]); done) | (right; (simp [go_sem, hE]); done))
end Go.Abs
end
section
set_option maxRecDepth 60000
set_option maxHeartbeats 2000000
open Go Go.Proofs
namespace Go.Abs
theorem nz_slots (l : List Slot) : nzAss (l.map Slot.c) = l.map Slot.c := nzAss_id fun c hc => by
  rw [List.mem_map] at hc; obtain ⟨x, _, rfl⟩ := hc; rfl
theorem nz_tests (l : List Test) : nzAss (l.map Test.c) = l.map Test.c := nzAss_id fun c hc => by
  rw [List.mem_map] at hc; obtain ⟨x, _, rfl⟩ := hc; rfl
theorem nz_cond (c : Cond) : nzAs c.c = c.c := by
  refine Cond.ind (p := fun c => nzAs c.c = c.c) (fun c ih => ?_) c
  rw [Cond.c_eq]
  have hk : nzAss (c.kids.map Cond.c) = c.kids.map Cond.c := nzAss_id fun d hd => by
    rw [List.mem_map] at hd; obtain ⟨x, hx, rfl⟩ := hd; exact ih x hx
  simp [nzAs, nzA, dLI, dI, nz_ints, nz_edges, nz_slots, nz_tests, hk]
theorem nz_conds (l : List Cond) : nzAss (l.map Cond.c) = l.map Cond.c := nzAss_id fun c hc => by
  rw [List.mem_map] at hc; obtain ⟨x, _, rfl⟩ := hc; exact nz_cond x
@[go_sem] theorem Glued.cl (x : Glued) : x.dd.cl = true := by simp [go_sem, Glued.dd, Glued.c, Rule.c, Ovl.c, Part.c]
def intoS (r : Rule) : Part := ⟨sorted r.into.nodes, sorted r.into.edges⟩
def cGlueE (a b : Rule) (o : Ovl) : Int :=
  if morphF a.right.graph o.graph o.left ≠ 0 then morphF a.right.graph o.graph o.left
  else if morphF b.left.graph o.graph o.right ≠ 0 then morphF b.left.graph o.graph o.right
  else if (injB a.right.graph o.graph o.left && (injB b.left.graph o.graph o.right && jointB a.right.graph b.left.graph o.graph o.left o.right)) = false then 1
  else if compE a.right.graph o.graph (intoS a) o.left ≠ 0 ∨ compE b.left.graph o.graph b.keep o.right ≠ 0 then 14 else 0
def cGlueG (a b : Rule) (o : Ovl) : Glued := if cGlueE a b o = 0 then ⟨a, b, o, compP a.right.graph o.graph (intoS a) o.left, compP b.left.graph o.graph b.keep o.right⟩ else glued0
theorem sorted_len' (xs : List Int) : (sorted xs).length = xs.length := sorted_len xs
theorem concurrent_glue (a b : Rule) (o : Ovl) (ha : a.ok) (hb : b.ok) : Pure Tryz.prog 27 [a.d, b.d, o.d] (.tup [(cGlueG a b o).dd, dI (cGlueE a b o)]) := by
  have hi1 := ha.i1
  have hi2 := ha.i2
  have hk1 := hb.k1
  have hs1 := sorted_len' a.into.nodes
  refine pureKA (by first | rfl | (simp [go_sem]; done)) (fun Q hQ => (acalls_of_body (cfg := ⟨fun t => t == 6 || t == 10 || t == 12, fun r => match r with | 9 => [(0, 20), (1, 20), (2, 20), (3, 20), (4, 20), (5, 20), (6, 20), (7, 20), (8, 20), (9, 20), (10, 20), (11, 20), (12, 20), (14, 20), (15, 20), (16, 20)] | _ => []⟩) Tz.mixed Tryz.func27 rfl rfl (nlb rfl) (by kernel_rfl) ?_))
  try simp [go_sem, seval, Ovl.d, Ovl.c, Part.c, Part.d, Glued.dd, Glued.c, Rule.c]
  refine callQ_pure0 (morphism_Valid a.right.graph o.graph o.left) ((by first | rfl | (simp [go_sem, ← List.map_take, ← List.map_drop, Ovl.d, Ovl.c, Part.c, Part.d, Glued.dd, Glued.c, Rule.c]; done))) ?_
  try simp [go_sem, seval, Ovl.d, Ovl.c, Part.c, Part.d, Glued.dd, Glued.c, Rule.c]
  refine condQ_mk (fun h2 => ?_) (fun h2 => ?_)
  · try simp [go_sem] at h2
    have hE : cGlueE a b o = morphF a.right.graph o.graph o.left := if_pos h2
    have hZ : cGlueG a b o = glued0 := if_neg (by rw [hE]; exact h2)
    try simp [go_sem, seval, Ovl.d, Ovl.c, Part.c, Part.d, Glued.dd, Glued.c, Rule.c]
    exact hQ _ _ (by simp [go_sem, hE, hZ, glued0, rule0, ovl0, Glued.dd, Glued.c, Rule.c, Ovl.c, Part.c, nz_ints, nz_edges, Cond.kind, Cond.kids, Cond.map, Cond.pattern])
  · try simp [go_sem] at h2
    have hE2 : ¬ morphF a.right.graph o.graph o.left ≠ 0 := by rw [h2]; simp
    obtain ⟨hg1, hgo, hl1, hl2⟩ := morphF_len h2
    have hle1 := graphF_le hg1
    have hleo := graphF_le hgo
    try simp [go_sem, seval, Ovl.d, Ovl.c, Part.c, Part.d, Glued.dd, Glued.c, Rule.c]
    refine callQ_pure0 (morphism_Valid b.left.graph o.graph o.right) ((by first | rfl | (simp [go_sem, ← List.map_take, ← List.map_drop, Ovl.d, Ovl.c, Part.c, Part.d, Glued.dd, Glued.c, Rule.c]; done))) ?_
    try simp [go_sem, seval, Ovl.d, Ovl.c, Part.c, Part.d, Glued.dd, Glued.c, Rule.c]
    refine condQ_mk (fun h5 => ?_) (fun h5 => ?_)
    ·try simp [go_sem] at h5
     have hE : cGlueE a b o = morphF b.left.graph o.graph o.right := by unfold cGlueE; rw [if_neg hE2, if_pos h5]
     have hZ : cGlueG a b o = glued0 := if_neg (by rw [hE]; exact h5)
     try simp [go_sem, seval, Ovl.d, Ovl.c, Part.c, Part.d, Glued.dd, Glued.c, Rule.c]
     exact hQ _ _ (by simp [go_sem, hE, hZ, glued0, rule0, ovl0, Glued.dd, Glued.c, Rule.c, Ovl.c, Part.c, nz_ints, nz_edges, Cond.kind, Cond.kids, Cond.map, Cond.pattern])
    ·try simp [go_sem] at h5
     have hE5 : ¬ morphF b.left.graph o.graph o.right ≠ 0 := by rw [h5]; simp
     obtain ⟨hg2, _, hl3, hl4⟩ := morphF_len h5
     have hle2 := graphF_le hg2
     try simp [go_sem, seval, Ovl.d, Ovl.c, Part.c, Part.d, Glued.dd, Glued.c, Rule.c]
     repeat first | intro _ | refine ⟨obs, ?_⟩
     refine callQ_pure0 (morphism_Injective a.right.graph o.graph o.left (by omega) (by omega)) ((by first | rfl | (simp [go_sem, ← List.map_take, ← List.map_drop, Ovl.d, Ovl.c, Part.c, Part.d, Glued.dd, Glued.c, Rule.c]; done))) ?_
     try simp [go_sem, seval, Ovl.d, Ovl.c, Part.c, Part.d, Glued.dd, Glued.c, Rule.c]
     repeat first | intro _ | refine ⟨obs, ?_⟩
     refine gcallQ_pure0 (fun hg => morphism_Injective b.left.graph o.graph o.right (by omega) (by omega)) (fun hg => (by first | rfl | (simp [go_sem, ← List.map_take, ← List.map_drop, Ovl.d, Ovl.c, Part.c, Part.d, Glued.dd, Glued.c, Rule.c]; done))) ?_
     try simp [go_sem, seval, Ovl.d, Ovl.c, Part.c, Part.d, Glued.dd, Glued.c, Rule.c]
     repeat first | intro _ | refine ⟨obs, ?_⟩
     refine gcallQ_pure0 (fun hg => factor_Jointly a.right.graph b.left.graph o.graph o.left o.right (by omega) (by omega)) (fun hg => (by first | rfl | (simp [go_sem, ← List.map_take, ← List.map_drop, Ovl.d, Ovl.c, Part.c, Part.d, Glued.dd, Glued.c, Rule.c]; done))) ?_
     try simp [go_sem, seval, Ovl.d, Ovl.c, Part.c, Part.d, Glued.dd, Glued.c, Rule.c]
     repeat first | intro _ | refine ⟨obs, ?_⟩
     refine condQ_mk (fun h7 => ?_) (fun h7 => ?_)
     ·try simp [go_sem] at h7
      have hJ : (injB a.right.graph o.graph o.left && (injB b.left.graph o.graph o.right && jointB a.right.graph b.left.graph o.graph o.left o.right)) = false := by
       rw [Bool.eq_false_iff]; intro hh; simp only [Bool.and_eq_true] at hh; simp [hh.1, hh.2.1, hh.2.2] at h7
      have hE : cGlueE a b o = 1 := by unfold cGlueE; rw [if_neg hE2, if_neg hE5, if_pos hJ]
      have hZ : cGlueG a b o = glued0 := if_neg (by rw [hE]; simp)
      try simp [go_sem, seval, Ovl.d, Ovl.c, Part.c, Part.d, Glued.dd, Glued.c, Rule.c]
      exact hQ _ _ (by simp [go_sem, hE, hZ, glued0, rule0, ovl0, Glued.dd, Glued.c, Rule.c, Ovl.c, Part.c, nz_ints, nz_edges, Cond.kind, Cond.kids, Cond.map, Cond.pattern])
     ·try simp [go_sem] at h7
      have hJ : ¬ (injB a.right.graph o.graph o.left && (injB b.left.graph o.graph o.right && jointB a.right.graph b.left.graph o.graph o.left o.right)) = false := by
       intro hh; revert h7 hh; cases injB a.right.graph o.graph o.left <;> cases injB b.left.graph o.graph o.right <;> cases jointB a.right.graph b.left.graph o.graph o.left o.right <;> simp
      obtain ⟨P1, hP1⟩ : ∃ x, x = compP a.right.graph o.graph (intoS a) o.left := ⟨_, rfl⟩
      obtain ⟨E1, hE1⟩ : ∃ x, x = compE a.right.graph o.graph (intoS a) o.left := ⟨_, rfl⟩
      obtain ⟨P2, hP2⟩ : ∃ x, x = compP b.left.graph o.graph b.keep o.right := ⟨_, rfl⟩
      obtain ⟨E2, hE2'⟩ : ∃ x, x = compE b.left.graph o.graph b.keep o.right := ⟨_, rfl⟩
      try simp [go_sem, seval, Ovl.d, Ovl.c, Part.c, Part.d, Glued.dd, Glued.c, Rule.c]
      refine dcallQ_pure0 (concurrent_sorted a.into.nodes hi1) ((by first | rfl | (simp [go_sem, ← List.map_take, ← List.map_drop, Ovl.d, Ovl.c, Part.c, Part.d, Glued.dd, Glued.c, Rule.c]; done))) ?_
      try simp [go_sem, seval, Ovl.d, Ovl.c, Part.c, Part.d, Glued.dd, Glued.c, Rule.c]
      refine dcallQ_pure0 (concurrent_sorted a.into.edges hi2) ((by first | rfl | (simp [go_sem, ← List.map_take, ← List.map_drop, Ovl.d, Ovl.c, Part.c, Part.d, Glued.dd, Glued.c, Rule.c]; done))) ?_
      try simp [go_sem, seval, Ovl.d, Ovl.c, Part.c, Part.d, Glued.dd, Glued.c, Rule.c]
      refine dcallQ_pure0 (complement_Of a.right.graph o.graph (intoS a) o.left (by show (sorted a.into.nodes).length ≤ 1000000; omega) (by omega) (by omega) (by omega) (by omega)) ((by first | rfl | (simp [go_sem, ← List.map_take, ← List.map_drop, Ovl.d, Ovl.c, Part.c, Part.d, Glued.dd, Glued.c, Rule.c]; done))) ?_
      try simp [go_sem, seval, Ovl.d, Ovl.c, Part.c, Part.d, Glued.dd, Glued.c, Rule.c]
      refine callQ_pure0 (complement_Of b.left.graph o.graph b.keep o.right hk1 (by omega) (by omega) (by omega) (by omega)) ((by first | rfl | (simp [go_sem, ← List.map_take, ← List.map_drop, Ovl.d, Ovl.c, Part.c, Part.d, Glued.dd, Glued.c, Rule.c]; done))) ?_
      try simp [go_sem, seval, Ovl.d, Ovl.c, Part.c, Part.d, Glued.dd, Glued.c, Rule.c]
      repeat first | intro _ | refine ⟨obs, ?_⟩
      refine condQ_mk (fun h11 => ?_) (fun h11 => ?_)
      ·try simp [go_sem] at h11
       have hE : cGlueE a b o = 14 := by unfold cGlueE; rw [if_neg hE2, if_neg hE5, if_neg hJ, if_pos (by rw [← hE1, ← hE2']; omega)]
       have hZ : cGlueG a b o = glued0 := if_neg (by rw [hE]; simp)
       try simp [go_sem, seval, Ovl.d, Ovl.c, Part.c, Part.d, Glued.dd, Glued.c, Rule.c]
       exact hQ _ _ (by simp [go_sem, hE, hZ, glued0, rule0, ovl0, Glued.dd, Glued.c, Rule.c, Ovl.c, Part.c, nz_ints, nz_edges, Cond.kind, Cond.kids, Cond.map, Cond.pattern])
      ·try simp [go_sem] at h11
       have hE : cGlueE a b o = 0 := by unfold cGlueE; rw [if_neg hE2, if_neg hE5, if_neg hJ, if_neg (by rw [← hE1, ← hE2']; omega)]
       have hZ : cGlueG a b o = ⟨a, b, o, P1, P2⟩ := by unfold cGlueG; rw [if_pos hE, hP1, hP2]
       try simp [go_sem, seval, Ovl.d, Ovl.c, Part.c, Part.d, Glued.dd, Glued.c, Rule.c]
       exact hQ _ _ (by simp [go_sem, Ovl.d, Ovl.c, Part.c, Part.d, Glued.dd, Glued.c, Rule.c, hE, hZ, hP1, hP2, Glued.dd, Glued.c, Rule.c, Ovl.c, Part.c, nz_ints, nz_edges, nz_slots, nz_tests, nz_conds])
end Go.Abs
end
