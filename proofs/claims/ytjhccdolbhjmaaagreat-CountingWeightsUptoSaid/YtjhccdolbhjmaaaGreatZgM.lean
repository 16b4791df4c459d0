/- Layer 39: effects of rules, continued. · Layer 39, the refer -/
import Derived.Test.YtjhccdolbhjmaaaGreatZgE
import Derived.Test.YtjhccdolbhjmaaaGreatZgL
set_option linter.unusedVariables false
set_option linter.unusedSimpArgs false
section
set_option maxRecDepth 8000
open Go Go.Proofs
namespace Go.Abs
structure RuleIn (t : Types) (r : Rule) : Prop where
  v : t.valid
  gl : graphF r.left.graph = 0
  gr : graphF r.right.graph = 0
  nl : ∀ a ∈ r.left.graph.nodes, 0 ≤ a ∧ a < t.nodes.length
  nr : ∀ a ∈ r.right.graph.nodes, 0 ≤ a ∧ a < t.nodes.length
  el : ∀ x ∈ r.left.graph.edges, 0 ≤ x.type ∧ x.type < t.edges.length
  er : ∀ x ∈ r.right.graph.edges, 0 ≤ x.type ∧ x.type < t.edges.length
theorem ruleIn {t : Types} {r : Rule} (h : ruleF t r = 0) : RuleIn t r := by
  obtain ⟨hv, ⟨h1, h2⟩, h3, h4⟩ := ruleF_of h
  have hl := typedB_in h1 h2
  have hr := typedB_in h3 h4
  exact ⟨valid_of hv, h1, h3, hl.1, hr.1, fun x hx => (hl.2 x hx).1, fun x hx => (hr.2 x hx).1⟩
theorem weight_effect (t : Types) (ht : t.ok) (r : Rule) (hr : r.ok) : Pure Tryz.prog 118 [t.d, r.d] (.tup [dLI (effV t r), dI (effE t r)]) := by
  have V := vecs t r
  refine Tz.pK ⟨fun _ => false, fun _ => []⟩ Tryz.func118 rfl (fun Q hQ => ?_)
  try simp [go_sem]
  refine cq0 (rule_Deleted t ht r hr) ?_
  try simp [go_sem]
  refine condQ_mk (fun h2 => ?_) (fun h2 => ?_)
  · try simp [go_sem] at h2
    try simp [go_sem]
    exact hQ _ _ (by first | (left; (simp [go_sem, effE, effV, h2]); done) | (right; (simp [go_sem, effE, effV, h2]); done))
  · try simp [go_sem] at h2
    have I := ruleIn h2
    have hgl := graphF_le I.gl
    have hgr := graphF_le I.gr
    have hN := I.v.fewN
    have hE := I.v.fewE
    have lN := othersL_len r.keep.nodes r.left.graph.nodes.length
    have lE := othersL_len r.keep.edges r.left.graph.edges.length
    have lF := othersL_len r.into.nodes r.right.graph.nodes.length
    have lG := othersL_len r.into.edges r.right.graph.edges.length
    have k1 : r.kGN.length = r.goneN.length := by simp [Rule.kGN]
    have k2 : (r.kGE t.nodes.length).length = r.goneE.length := by simp [Rule.kGE]
    have k3 : r.kFN.length = r.freshN.length := by simp [Rule.kFN]
    have k4 : (r.kFE t.nodes.length).length = r.freshE.length := by simp [Rule.kFE]
    have lN' : r.goneN.length ≤ r.left.graph.nodes.length := lN
    have lE' : r.goneE.length ≤ r.left.graph.edges.length := lE
    have lF' : r.freshN.length ≤ r.right.graph.nodes.length := lF
    have lG' : r.freshE.length ≤ r.right.graph.edges.length := lG
    have dN : delN t r = r.goneN := by simp [delN, h2]
    have dE : delE t r = r.goneE := by simp [delE, h2]
    have dF : creN t r = r.freshN := by simp [creN, h2]
    have dG : creE t r = r.freshE := by simp [creE, h2]
    have htn : ((t.nodes.length : Int) + (t.edges.length : Int)).toNat = t.nodes.length + t.edges.length := by omega
    try simp [go_sem, dN, dE, dF, dG, htn]
    refine cq0 (rule_Created t ht r hr) ?_
    try simp [go_sem, dN, dE, dF, dG, htn]
    refine condQ_mk (fun h5 => ?_) (fun h5 => ?_)
    ·exact absurd h2 (by simpa using h5)
    ·try simp [go_sem] at h5
     try simp [go_sem, dN, dE, dF, dG, htn]
     repeat (first | intro _ | (refine ⟨obl, ?_⟩))
     obtain ⟨I0, hI0⟩ := mkI fun i e H => ((e 2 = .adr t.c) ∧ (e 3 = .adr r.c) ∧ (e 6 = dLI r.goneN) ∧ (e 7 = dLI r.goneE) ∧ (e 9 = dLI r.freshN) ∧ (e 10 = dLI r.freshE) ∧ (e 11 = .own 0 (t.nodes.length + t.edges.length)) ∧ (e 51 = dLI r.goneN) ∧ (e 52 = dI r.goneN.length) ∧ (e 53 = dI i) ∧ (H.get 0 = some ⟨3, 1, (bumps (zeros t) (r.kGN.take i) (-1)).map cI, false⟩) ∧ (0 < H.next) ∧ (i ≤ r.goneN.length) ∧ ((r.goneN.take i).any (badB t r) = false))
     refine loopK I0 (fun i => r.goneN.length - i) (0) ((hI0 _ _ _).2 ⟨?_, ?_, ?_, ?_, ?_, ?_, ?_, ?_, ?_, ?_, (by (simp [go_sem, dN, dE, dF, dG, htn, zeros])), ?_, (by first | assumption | omega | (simp [go_sem, dN, dE, dF, dG, htn]; done) | (simp_all; done)), (by rfl)⟩) ?_
     iterate 11 (first | omega | (simp [go_sem, dN, dE, dF, dG, htn] <;> omega))
     intro i e H hi0
     obtain ⟨q2_0, q3_0, q6_0, q7_0, q9_0, q10_0, q11_0, q51_0, q52_0, q53_0, g0_0, n0_0, hi, ha⟩ := (hI0 _ _ _).1 hi0
     have x0 := frs n0_0
     have F0 := And.intro q2_0 (And.intro q3_0 (And.intro q6_0 (And.intro q7_0 (And.intro q9_0 (And.intro q10_0 (And.intro q11_0 (And.intro q51_0 (And.intro q52_0 (And.intro q53_0 x0)))))))))
     try simp [go_sem, dN, dE, dF, dG, htn, F0, g0_0, htn]
     refine condQ_mk (fun h9 => ?_) (fun h9 => ?_)
     ·try simp [go_sem] at h9
      have hin := othersL_mem (lgm h9)
      have hk : r.goneN[i].toNat < r.left.graph.nodes.length := by omega
      have hkt := I.nl _ (lgm hk)
      have hke : r.kGN[i]'(by omega) = r.left.graph.nodes[r.goneN[i].toNat].toNat := by simp [Rule.kGN, gN, lge hk]
      obtain ⟨hkl, hst, hbd⟩ := bump_round (d := -1) V.l0 V.b0 (by omega) (by omega) (show i < r.kGN.length by omega) (by rw [hke]; omega)
      have hbl := bumps_len (zeros t) (-1) (r.kGN.take i)
      rw [V.l0] at hbl
      simp only [hke] at hkl hst hbd
      have hA : badB t r r.goneN[i] = decide ((1 : Int) < (belowT t r.left.graph.nodes[r.goneN[i].toNat]).length) := by simp [badB, gN, lge hk]
      try simp [go_sem, dN, dE, dF, dG, htn, F0, g0_0, htn, h9, lge hk, lge hkl, hbl]
      repeat (first | intro _ | (refine ⟨obl, ?_⟩))
      refine cq0 (types_Below t ht _) ?_
      try simp [go_sem, dN, dE, dF, dG, htn, F0, g0_0, htn, h9, lge hk, lge hkl, hbl]
      repeat (first | intro _ | (refine ⟨obl, ?_⟩))
      refine condQ_mk (fun h13 => ?_) (fun h13 => ?_)
      ·try simp [go_sem] at h13
       try simp [go_sem, dN, dE, dF, dG, htn, F0, g0_0, htn, h9, lge hk, lge hkl, hbl]
       have hb : r.goneN.any (badB t r) = true := List.any_eq_true.2 ⟨_, lgm h9, by rw [hA]; simpa using h13⟩
       exact hQ _ _ (by first | (left; (simp [go_sem, effE, effV, h2, hb]); done) | (right; (simp [go_sem, effE, effV, h2, hb]); done))
      ·try simp [go_sem] at h13
       try simp [go_sem, dN, dE, dF, dG, htn, F0, g0_0, htn, h9, lge hk, lge hkl, hbl]
       repeat (first | intro _ | (refine ⟨obl, ?_⟩))
       refine nextQ_mk (i + 1) (by omega) ((hI0 _ _ _).2 ⟨?_, ?_, ?_, ?_, ?_, ?_, ?_, ?_, ?_, ?_, (by (simp [go_sem, dN, dE, dF, dG, htn, F0, g0_0, htn, h9, lge hk, lge hkl, hbl, hst, List.map_set, Int.sub_eq_add_neg])), ?_, (by first | assumption | omega | (simp [go_sem, dN, dE, dF, dG, htn, F0, g0_0, htn, h9, lge hk, lge hkl, hbl, h2, h5, h13]; done) | (simp_all <;> omega)), (by (rw [any_take_succ _ _ _ h9, ha, hA]; simpa using h13))⟩) <;> first | omega | (simp [go_sem, dN, dE, dF, dG, htn, F0, g0_0, htn, h9, lge hk, lge hkl, hbl] <;> omega)
     ·try simp [go_sem] at h9
      have hNo := any_end ha h9
      have hV1 : bumps (zeros t) (r.kGN.take i) (-1) = vec1 t r := by rw [List.take_of_length_le (by omega)]; rfl
      rw [hV1] at g0_0
      try simp [go_sem, dN, dE, dF, dG, htn, F0, g0_0, htn]
      repeat (first | intro _ | (refine ⟨obl, ?_⟩))
      obtain ⟨I2, hI2⟩ := mkI fun i e H => ((e 2 = .adr t.c) ∧ (e 3 = .adr r.c) ∧ (e 9 = dLI r.freshN) ∧ (e 10 = dLI r.freshE) ∧ (e 11 = .own 0 (t.nodes.length + t.edges.length)) ∧ (e 80 = dLI r.goneE) ∧ (e 81 = dI r.goneE.length) ∧ (e 82 = dI i) ∧ (H.get 0 = some ⟨3, 1, (bumps (vec1 t r) ((r.kGE t.nodes.length).take i) (-1)).map cI, false⟩) ∧ (0 < H.next) ∧ (i ≤ r.goneE.length))
      refine loopK I2 (fun i => r.goneE.length - i) (0) ((hI2 _ _ _).2 ⟨?_, ?_, ?_, ?_, ?_, ?_, ?_, ?_, (by (simp [go_sem, dN, dE, dF, dG, htn, F0, g0_0, htn])), ?_, (by first | assumption | omega | (simp [go_sem, dN, dE, dF, dG, htn, F0, g0_0, htn]; done) | (simp_all; done))⟩) ?_
      iterate 9 (first | omega | (simp [go_sem, dN, dE, dF, dG, htn, F0, g0_0, htn] <;> omega))
      intro i e H hi2
      obtain ⟨q2_2, q3_2, q9_2, q10_2, q11_2, q80_2, q81_2, q82_2, g0_2, n0_2, hi⟩ := (hI2 _ _ _).1 hi2
      have x0 := frs n0_2
      have F2 := And.intro q2_2 (And.intro q3_2 (And.intro q9_2 (And.intro q10_2 (And.intro q11_2 (And.intro q80_2 (And.intro q81_2 (And.intro q82_2 x0)))))))
      try simp [go_sem, dN, dE, dF, dG, htn, htn, F2, g0_2]
      refine condQ_mk (fun h18 => ?_) (fun h18 => ?_)
      ·try simp [go_sem] at h18
       have hin := othersL_mem (lgm h18)
       have hk : r.goneE[i].toNat < r.left.graph.edges.length := by omega
       have hkt := I.el _ (lgm hk)
       have hke : (r.kGE t.nodes.length)[i]'(by omega) = t.nodes.length + r.left.graph.edges[r.goneE[i].toNat].type.toNat := by simp [Rule.kGE, lge hk]
       obtain ⟨hkl, hst, hbd⟩ := bump_round (d := -1) V.l1 V.b1 (by omega) (by omega) (show i < (r.kGE t.nodes.length).length by omega) (by rw [hke]; omega)
       have hbl := bumps_len (vec1 t r) (-1) ((r.kGE t.nodes.length).take i)
       rw [V.l1] at hbl
       simp only [hke] at hkl hst hbd
       have htk : ((t.nodes.length : Int) + r.left.graph.edges[r.goneE[i].toNat].type).toNat = t.nodes.length + r.left.graph.edges[r.goneE[i].toNat].type.toNat := by omega
       try simp [go_sem, dN, dE, dF, dG, htn, htn, F2, g0_2, h18, lge hk, lge hkl, hbl, htk]
       repeat (first | intro _ | (refine ⟨obl, ?_⟩))
       refine nextQ_mk (i + 1) (by omega) ((hI2 _ _ _).2 ⟨?_, ?_, ?_, ?_, ?_, ?_, ?_, ?_, (by (simp [go_sem, dN, dE, dF, dG, htn, htn, F2, g0_2, h18, lge hk, lge hkl, hbl, htk, hst, List.map_set, Int.sub_eq_add_neg])), ?_, (by first | assumption | omega | (simp [go_sem, dN, dE, dF, dG, htn, htn, F2, g0_2, h18, lge hk, lge hkl, hbl, htk, h2, h5, h9]; done) | (simp_all <;> omega))⟩) <;> first | omega | (simp [go_sem, dN, dE, dF, dG, htn, htn, F2, g0_2, h18, lge hk, lge hkl, hbl, htk] <;> omega)
      ·try simp [go_sem] at h18
       have hV2 : bumps (vec1 t r) ((r.kGE t.nodes.length).take i) (-1) = vec2 t r := by rw [List.take_of_length_le (by omega)]; rfl
       rw [hV2] at g0_2
       try simp [go_sem, dN, dE, dF, dG, htn, htn, F2, g0_2]
       repeat (first | intro _ | (refine ⟨obl, ?_⟩))
       obtain ⟨I4, hI4⟩ := mkI fun i e H => ((e 2 = .adr t.c) ∧ (e 3 = .adr r.c) ∧ (e 10 = dLI r.freshE) ∧ (e 11 = .own 0 (t.nodes.length + t.edges.length)) ∧ (e 104 = dLI r.freshN) ∧ (e 105 = dI r.freshN.length) ∧ (e 106 = dI i) ∧ (H.get 0 = some ⟨3, 1, (bumps (vec2 t r) (r.kFN.take i) 1).map cI, false⟩) ∧ (0 < H.next) ∧ (i ≤ r.freshN.length))
       refine loopK I4 (fun i => r.freshN.length - i) (0) ((hI4 _ _ _).2 ⟨?_, ?_, ?_, ?_, ?_, ?_, ?_, (by (simp [go_sem, dN, dE, dF, dG, htn, htn, F2, g0_2])), ?_, (by first | assumption | omega | (simp [go_sem, dN, dE, dF, dG, htn, htn, F2, g0_2]; done) | (simp_all; done))⟩) ?_
       iterate 8 (first | omega | (simp [go_sem, dN, dE, dF, dG, htn, htn, F2, g0_2] <;> omega))
       intro i e H hi4
       obtain ⟨q2_4, q3_4, q10_4, q11_4, q104_4, q105_4, q106_4, g0_4, n0_4, hi⟩ := (hI4 _ _ _).1 hi4
       have x0 := frs n0_4
       have F4 := And.intro q2_4 (And.intro q3_4 (And.intro q10_4 (And.intro q11_4 (And.intro q104_4 (And.intro q105_4 (And.intro q106_4 x0))))))
       try simp [go_sem, dN, dE, dF, dG, htn, htn, F4, g0_4]
       refine condQ_mk (fun h23 => ?_) (fun h23 => ?_)
       ·try simp [go_sem] at h23
        have hin := othersL_mem (lgm h23)
        have hk : r.freshN[i].toNat < r.right.graph.nodes.length := by omega
        have hkt := I.nr _ (lgm hk)
        have hke : r.kFN[i]'(by omega) = r.right.graph.nodes[r.freshN[i].toNat].toNat := by simp [Rule.kFN, gN, lge hk]
        obtain ⟨hkl, hst, hbd⟩ := bump_round (d := 1) V.l2 V.b2 (by omega) (by omega) (show i < r.kFN.length by omega) (by rw [hke]; omega)
        have hbl := bumps_len (vec2 t r) 1 (r.kFN.take i)
        rw [V.l2] at hbl
        simp only [hke] at hkl hst hbd
        try simp [go_sem, dN, dE, dF, dG, htn, htn, F4, g0_4, h23, lge hk, lge hkl, hbl]
        repeat (first | intro _ | (refine ⟨obl, ?_⟩))
        refine nextQ_mk (i + 1) (by omega) ((hI4 _ _ _).2 ⟨?_, ?_, ?_, ?_, ?_, ?_, ?_, (by (simp [go_sem, dN, dE, dF, dG, htn, htn, F4, g0_4, h23, lge hk, lge hkl, hbl, hst, List.map_set, Int.sub_eq_add_neg])), ?_, (by first | assumption | omega | (simp [go_sem, dN, dE, dF, dG, htn, htn, F4, g0_4, h23, lge hk, lge hkl, hbl, h2, h5, h9, h18]; done) | (simp_all <;> omega))⟩) <;> first | omega | (simp [go_sem, dN, dE, dF, dG, htn, htn, F4, g0_4, h23, lge hk, lge hkl, hbl] <;> omega)
       ·try simp [go_sem] at h23
        have hV3 : bumps (vec2 t r) (r.kFN.take i) 1 = vec3 t r := by rw [List.take_of_length_le (by omega)]; rfl
        rw [hV3] at g0_4
        try simp [go_sem, dN, dE, dF, dG, htn, htn, F4, g0_4]
        repeat (first | intro _ | (refine ⟨obl, ?_⟩))
        obtain ⟨I6, hI6⟩ := mkI fun i e H => ((e 2 = .adr t.c) ∧ (e 3 = .adr r.c) ∧ (e 11 = .own 0 (t.nodes.length + t.edges.length)) ∧ (e 123 = dLI r.freshE) ∧ (e 124 = dI r.freshE.length) ∧ (e 125 = dI i) ∧ (H.get 0 = some ⟨3, 1, (bumps (vec3 t r) ((r.kFE t.nodes.length).take i) 1).map cI, false⟩) ∧ (0 < H.next) ∧ (i ≤ r.freshE.length))
        refine loopK I6 (fun i => r.freshE.length - i) (0) ((hI6 _ _ _).2 ⟨?_, ?_, ?_, ?_, ?_, ?_, (by (simp [go_sem, dN, dE, dF, dG, htn, htn, F4, g0_4])), ?_, (by first | assumption | omega | (simp [go_sem, dN, dE, dF, dG, htn, htn, F4, g0_4]; done) | (simp_all; done))⟩) ?_
        iterate 7 (first | omega | (simp [go_sem, dN, dE, dF, dG, htn, htn, F4, g0_4] <;> omega))
        intro i e H hi6
        obtain ⟨q2_6, q3_6, q11_6, q123_6, q124_6, q125_6, g0_6, n0_6, hi⟩ := (hI6 _ _ _).1 hi6
        have x0 := frs n0_6
        have F6 := And.intro q2_6 (And.intro q3_6 (And.intro q11_6 (And.intro q123_6 (And.intro q124_6 (And.intro q125_6 x0)))))
        try simp [go_sem, dN, dE, dF, dG, htn, htn, F6, g0_6]
        refine condQ_mk (fun h28 => ?_) (fun h28 => ?_)
        ·try simp [go_sem] at h28
         have hin := othersL_mem (lgm h28)
         have hk : r.freshE[i].toNat < r.right.graph.edges.length := by omega
         have hkt := I.er _ (lgm hk)
         have hke : (r.kFE t.nodes.length)[i]'(by omega) = t.nodes.length + r.right.graph.edges[r.freshE[i].toNat].type.toNat := by simp [Rule.kFE, lge hk]
         obtain ⟨hkl, hst, hbd⟩ := bump_round (d := 1) V.l3 V.b3 (by omega) (by omega) (show i < (r.kFE t.nodes.length).length by omega) (by rw [hke]; omega)
         have hbl := bumps_len (vec3 t r) 1 ((r.kFE t.nodes.length).take i)
         rw [V.l3] at hbl
         simp only [hke] at hkl hst hbd
         have htk : ((t.nodes.length : Int) + r.right.graph.edges[r.freshE[i].toNat].type).toNat = t.nodes.length + r.right.graph.edges[r.freshE[i].toNat].type.toNat := by omega
         try simp [go_sem, dN, dE, dF, dG, htn, htn, F6, g0_6, h28, lge hk, lge hkl, hbl, htk]
         repeat (first | intro _ | (refine ⟨obl, ?_⟩))
         refine nextQ_mk (i + 1) (by omega) ((hI6 _ _ _).2 ⟨?_, ?_, ?_, ?_, ?_, ?_, (by (simp [go_sem, dN, dE, dF, dG, htn, htn, F6, g0_6, h28, lge hk, lge hkl, hbl, htk, hst, List.map_set, Int.sub_eq_add_neg])), ?_, (by first | assumption | omega | (simp [go_sem, dN, dE, dF, dG, htn, htn, F6, g0_6, h28, lge hk, lge hkl, hbl, htk, h2, h5, h9, h18, h23]; done) | (simp_all <;> omega))⟩) <;> first | omega | (simp [go_sem, dN, dE, dF, dG, htn, htn, F6, g0_6, h28, lge hk, lge hkl, hbl, htk] <;> omega)
        ·try simp [go_sem] at h28
         have hV4 : bumps (vec3 t r) ((r.kFE t.nodes.length).take i) 1 = vec4 t r := by rw [List.take_of_length_le (by omega)]; rfl
         rw [hV4] at g0_6
         have hl4 := V.l4
         try simp [go_sem, dN, dE, dF, dG, htn, htn, F6, g0_6]
         exact hQ _ _ (.inl (by simp [go_sem, dN, dE, dF, dG, htn, htn, F6, g0_6, effE, effV, h2, hNo, hl4]))
end Go.Abs
end
section
set_option maxRecDepth 8000
open Go Go.Proofs
namespace Go.Abs
theorem line_self {t : Types} (hv : t.valid) {a : Nat} (ha : a < t.nodes.length) : mem (t.line a) a = true := by
  rw [line_rec t a ha (hv.parentsOK a), mem_snoc]; simp
theorem line_child {t : Types} (hv : t.valid) (a : Int) : ∀ b : Nat, b < t.nodes.length → mem (t.line b) a = true → (b : Int) ≠ a → ∃ n ∈ t.nodes, n.parent = a := by
  intro b
  induction b using Nat.strongRecOn with
  | _ b ih =>
  intro hb hm hne
  have hpar := hv.parent b _ (lge hb)
  rw [line_rec t b hb (hv.parentsOK b), mem_snoc, Bool.or_eq_true] at hm
  rcases hm with hm | hm
  · by_cases h0 : 0 ≤ t.nodes[b].parent
    · rw [if_pos h0] at hm
      by_cases he : t.nodes[b].parent = a
      · exact ⟨_, lgm hb, he⟩
      · exact ih t.nodes[b].parent.toNat (by omega) (by omega) hm (by omega)
    · rw [if_neg h0, mem_nil] at hm; cases hm
  · simp at hm; omega
def leafB (t : Types) (a : Int) : Bool := !(t.nodes.any fun n => decide (n.parent = a))
theorem below_leaf {t : Types} (hv : t.valid) {a : Int} (h0 : 0 ≤ a) (h1 : a < t.nodes.length) (hg : given2F t a a = 0) : decide ((1 : Int) < (belowT t a).length) = !leafB t a := by
  have hin : a.toNat ∈ (List.range t.nodes.length).filter fun (b : Nat) => mem (t.line b) a := by
    rw [List.mem_filter]
    refine ⟨by simp; omega, ?_⟩
    have := line_self hv (a := a.toNat) (by omega)
    rw [Int.toNat_of_nonneg h0] at this
    exact this
  have hlen : (belowT t a).length = ((List.range t.nodes.length).filter fun (b : Nat) => mem (t.line b) a).length := by simp [belowT, hg]
  have hnd : ((List.range t.nodes.length).filter fun (b : Nat) => mem (t.line b) a).Nodup := List.nodup_range.filter _
  rw [bei, decide_eq_true_eq, leafB, Bool.not_not, List.any_eq_true, hlen]
  constructor
  · intro h
    have : ∃ b ∈ ((List.range t.nodes.length).filter fun (b : Nat) => mem (t.line b) a), b ≠ a.toNat := by
      generalize ((List.range t.nodes.length).filter fun (b : Nat) => mem (t.line b) a) = l at *
      match l, hnd, h with
      | x :: y :: l, hnd, _ =>
        by_cases hx : x = a.toNat
        · refine ⟨y, by simp, fun hy => ?_⟩
          rw [List.nodup_cons] at hnd
          exact hnd.1 (by rw [hx, ← hy]; simp)
        · exact ⟨x, by simp, hx⟩
      | [x], _, h => simp at h
      | [], _, h => simp at h
    obtain ⟨b, hb, hne⟩ := this
    rw [List.mem_filter] at hb
    obtain ⟨n, hn, he⟩ := line_child hv a b (by simpa using hb.1) hb.2 (by omega)
    exact ⟨n, hn, by simpa using he⟩
  · rintro ⟨n, hn, he⟩
    obtain ⟨b, hb, rfl⟩ := List.getElem_of_mem hn
    have he' : t.nodes[b].parent = a := by simpa using he
    have hpar := hv.parent b _ (lge hb)
    have hbin : b ∈ ((List.range t.nodes.length).filter fun (b : Nat) => mem (t.line b) a) := by
      rw [List.mem_filter]
      refine ⟨by simpa using hb, ?_⟩
      rw [line_rec t b hb (hv.parentsOK b), mem_snoc, if_pos (by omega), Bool.or_eq_true]
      left
      have := line_self hv (a := a.toNat) (by omega)
      rw [Int.toNat_of_nonneg h0] at this
      rw [he']; exact this
    have hne : b ≠ a.toNat := by omega
    generalize ((List.range t.nodes.length).filter fun (b : Nat) => mem (t.line b) a) = l at *
    match l, hin, hbin with
    | [], hin, _ => cases hin
    | [x], hin, hbin => simp at hin hbin; omega
    | x :: y :: l, _, _ => simp; omega
theorem ref39_leaf (t : Types) (a : Int) : Pure Tryz.prog 111 [t.d, dI a] (.bool (leafB t a)) := by
  refine Tz.pK ⟨fun _ => false, fun _ => []⟩ Tryz.func111 rfl (fun Q hQ => ?_)
  try simp [go_sem]
  obtain ⟨I0, hI0⟩ := mkI fun i e H => ((e 2 = .adr t.c) ∧ (e 1 = dI a) ∧ (e 5 = dI i) ∧ (i ≤ t.nodes.length) ∧ (((t.nodes.take i).any fun n => decide (n.parent = a)) = false))
  refine loopK I0 (fun i => t.nodes.length - i) (0) ((hI0 _ _ _).2 ⟨?_, ?_, ?_, (by first | assumption | omega | (simp [go_sem]; done) | (simp_all; done)), (by rfl)⟩) ?_
  iterate 3 (first | omega | (simp [go_sem] <;> omega))
  intro i e H hi0
  obtain ⟨q2_0, q1_0, q5_0, hi, ha⟩ := (hI0 _ _ _).1 hi0
  have F0 := And.intro q2_0 (And.intro q1_0 q5_0)
  try simp [go_sem, F0]
  repeat (first | intro _ | (refine ⟨obl, ?_⟩))
  refine condQ_mk (fun h2 => ?_) (fun h2 => ?_)
  · try simp [go_sem] at h2
    try simp [go_sem, F0, h2]
    repeat (first | intro _ | (refine ⟨obl, ?_⟩))
    refine condQ_mk (fun h4 => ?_) (fun h4 => ?_)
    · try simp [go_sem] at h4
      try simp [go_sem, F0, h2]
      have hb : (t.nodes.any fun n => decide (n.parent = a)) = true := List.any_eq_true.2 ⟨_, lgm h2, by simpa using h4⟩
      exact hQ _ _ (.inl (by simp only [go_sem, leafB, hb, Bool.not_true]))
    · try simp [go_sem] at h4
      try simp [go_sem, F0, h2]
      repeat (first | intro _ | (refine ⟨obl, ?_⟩))
      refine nextQ_mk (i + 1) (by omega) ((hI0 _ _ _).2 ⟨?_, ?_, ?_, (by first | assumption | omega | (simp [go_sem, F0, h2, h4]; done) | (simp_all <;> omega)), (by (rw [any_take_succ _ _ _ h2, ha]; simpa using h4))⟩) <;> first | omega | (simp [go_sem, F0, h2] <;> omega)
  · try simp [go_sem] at h2
    try simp [go_sem, F0]
    have hb := any_end ha h2
    exact hQ _ _ (.inl (by simp only [go_sem, leafB, hb, Bool.not_false]))
theorem ref39_Effect (t : Types) (ht : t.ok) (r : Rule) (hr : r.ok) : Pure Tryz.prog 69 [t.d, r.d] (.tup [dLI (effV t r), dI (effE t r)]) := by
  have V := vecs t r
  have hv0 : ¬ (validF t).2 = 0 → ruleF t r = (validF t).2 := fun h => by unfold ruleF; rw [if_pos h]
  refine Tz.pK ⟨fun _ => false, fun _ => []⟩ Tryz.func69 rfl (fun Q hQ => ?_)
  try simp [go_sem]
  refine cq0 (ref04_Valid t ht) ?_
  try simp [go_sem]
  refine condQ_mk (fun h2 => ?_) (fun h2 => ?_)
  · try simp [go_sem] at h2
    try simp [go_sem]
    exact hQ _ _ (by first | (left; (simp [go_sem, effE, effV, hv0 h2, h2]); done) | (right; (simp [go_sem, effE, effV, hv0 h2, h2]); done))
  · try simp [go_sem] at h2
    try simp [go_sem]
    refine cq0 (ref24_Valid t ht r hr) ?_
    try simp [go_sem]
    refine condQ_mk (fun h5 => ?_) (fun h5 => ?_)
    · try simp [go_sem] at h5
      try simp [go_sem]
      exact hQ _ _ (by first | (left; (simp [go_sem, effE, effV, h5]); done) | (right; (simp [go_sem, effE, effV, h5]); done))
    · try simp [go_sem] at h5
      have I := ruleIn h5
      have hgl := graphF_le I.gl
      have hgr := graphF_le I.gr
      have hN := I.v.fewN
      have hE := I.v.fewE
      have lN := othersL_len r.keep.nodes r.left.graph.nodes.length
      have lE := othersL_len r.keep.edges r.left.graph.edges.length
      have lF := othersL_len r.into.nodes r.right.graph.nodes.length
      have lG := othersL_len r.into.edges r.right.graph.edges.length
      have k1 : r.kGN.length = r.goneN.length := by simp [Rule.kGN]
      have k2 : (r.kGE t.nodes.length).length = r.goneE.length := by simp [Rule.kGE]
      have k3 : r.kFN.length = r.freshN.length := by simp [Rule.kFN]
      have k4 : (r.kFE t.nodes.length).length = r.freshE.length := by simp [Rule.kFE]
      have lN' : r.goneN.length ≤ r.left.graph.nodes.length := lN
      have lE' : r.goneE.length ≤ r.left.graph.edges.length := lE
      have lF' : r.freshN.length ≤ r.right.graph.nodes.length := lF
      have lG' : r.freshE.length ≤ r.right.graph.edges.length := lG
      have dN : delN t r = r.goneN := by simp [delN, h5]
      have dE : delE t r = r.goneE := by simp [delE, h5]
      have dF : creN t r = r.freshN := by simp [creN, h5]
      have dG : creE t r = r.freshE := by simp [creE, h5]
      have htn : ((t.nodes.length : Int) + (t.edges.length : Int)).toNat = t.nodes.length + t.edges.length := by omega
      try simp [go_sem, dN, dE, dF, dG, htn]
      repeat (first | intro _ | (refine ⟨obl, ?_⟩))
      refine cq0 (ref24_Deleted t ht r hr) ?_
      try simp [go_sem, dN, dE, dF, dG, htn]
      repeat (first | intro _ | (refine ⟨obl, ?_⟩))
      obtain ⟨I0, hI0⟩ := mkI fun i e H => ((e 2 = .adr t.c) ∧ (e 3 = .adr r.c) ∧ (e 10 = dLI r.goneN) ∧ (e 11 = dLI r.goneE) ∧ (e 9 = .own 0 (t.nodes.length + t.edges.length)) ∧ (e 13 = dI i) ∧ (H.get 0 = some ⟨3, 1, (bumps (zeros t) (r.kGN.take i) (-1)).map cI, false⟩) ∧ (0 < H.next) ∧ (i ≤ r.goneN.length) ∧ ((r.goneN.take i).any (badB t r) = false))
      refine loopK I0 (fun i => r.goneN.length - i) (0) ((hI0 _ _ _).2 ⟨?_, ?_, ?_, ?_, ?_, ?_, (by (simp [go_sem, dN, dE, dF, dG, htn, zeros])), ?_, (by first | assumption | omega | (simp [go_sem, dN, dE, dF, dG, htn]; done) | (simp_all; done)), (by rfl)⟩) ?_
      iterate 7 (first | omega | (simp [go_sem, dN, dE, dF, dG, htn] <;> omega))
      intro i e H hi0
      obtain ⟨q2_0, q3_0, q10_0, q11_0, q9_0, q13_0, g0_0, n0_0, hi, ha⟩ := (hI0 _ _ _).1 hi0
      have x0 := frs n0_0
      have F0 := And.intro q2_0 (And.intro q3_0 (And.intro q10_0 (And.intro q11_0 (And.intro q9_0 (And.intro q13_0 x0)))))
      try simp [go_sem, dN, dE, dF, dG, htn, F0, g0_0, htn, dF, dG]
      repeat (first | intro _ | (refine ⟨obl, ?_⟩))
      refine condQ_mk (fun h10 => ?_) (fun h10 => ?_)
      · try simp [go_sem] at h10
        have hin := othersL_mem (lgm h10)
        have hk : r.goneN[i].toNat < r.left.graph.nodes.length := by omega
        have hkt := I.nl _ (lgm hk)
        have hke : r.kGN[i]'(by omega) = r.left.graph.nodes[r.goneN[i].toNat].toNat := by simp [Rule.kGN, gN, lge hk]
        obtain ⟨hkl, hst, hbd⟩ := bump_round (d := -1) V.l0 V.b0 (by omega) (by omega) (show i < r.kGN.length by omega) (by rw [hke]; omega)
        have hbl := bumps_len (zeros t) (-1) (r.kGN.take i)
        rw [V.l0] at hbl
        simp only [hke] at hkl hst hbd
        have hgi : given2F t r.left.graph.nodes[r.goneN[i].toNat] r.left.graph.nodes[r.goneN[i].toNat] = 0 := by
          unfold given2F; rw [if_neg (by have := (ruleF_of h5).1; omega), if_pos]; simp [insideF]; omega
        have hA : badB t r r.goneN[i] = !leafB t r.left.graph.nodes[r.goneN[i].toNat] := by
          rw [← below_leaf I.v hkt.1 hkt.2 hgi]; simp [badB, gN, lge hk]
        try simp [go_sem, dN, dE, dF, dG, htn, F0, g0_0, htn, dF, dG, h10, lge hk, lge hkl, hbl]
        repeat (first | intro _ | (refine ⟨obl, ?_⟩))
        refine cq0 (ref39_leaf t _) ?_
        try simp [go_sem, dN, dE, dF, dG, htn, F0, g0_0, htn, dF, dG, h10, lge hk, lge hkl, hbl]
        repeat (first | intro _ | (refine ⟨obl, ?_⟩))
        refine condQ_mk (fun h13 => ?_) (fun h13 => ?_)
        · try simp [go_sem] at h13
          try simp [go_sem, dN, dE, dF, dG, htn, F0, g0_0, htn, dF, dG, h10, lge hk, lge hkl, hbl]
          have hb : r.goneN.any (badB t r) = true := List.any_eq_true.2 ⟨_, lgm h10, by rw [hA, h13]; rfl⟩
          exact hQ _ _ (by first | (left; (simp [go_sem, effE, effV, h5, hb]); done) | (right; (simp [go_sem, effE, effV, h5, hb]); done))
        · try simp [go_sem] at h13
          try simp [go_sem, dN, dE, dF, dG, htn, F0, g0_0, htn, dF, dG, h10, lge hk, lge hkl, hbl]
          repeat (first | intro _ | (refine ⟨obl, ?_⟩))
          refine nextQ_mk (i + 1) (by omega) ((hI0 _ _ _).2 ⟨?_, ?_, ?_, ?_, ?_, ?_, (by (simp [go_sem, dN, dE, dF, dG, htn, F0, g0_0, htn, dF, dG, h10, lge hk, lge hkl, hbl, hst, List.map_set, Int.sub_eq_add_neg])), ?_, (by first | assumption | omega | (simp [go_sem, dN, dE, dF, dG, htn, F0, g0_0, htn, dF, dG, h10, lge hk, lge hkl, hbl, h2, h5, h13]; done) | (simp_all <;> omega)), (by (rw [any_take_succ _ _ _ h10, ha, hA, h13]; rfl))⟩) <;> first | omega | (simp [go_sem, dN, dE, dF, dG, htn, F0, g0_0, htn, dF, dG, h10, lge hk, lge hkl, hbl] <;> omega)
      · try simp [go_sem] at h10
        have hNo := any_end ha h10
        have hV1 : bumps (zeros t) (r.kGN.take i) (-1) = vec1 t r := by rw [List.take_of_length_le (by omega)]; rfl
        rw [hV1] at g0_0
        try simp [go_sem, dN, dE, dF, dG, htn, F0, g0_0, htn, dF, dG]
        obtain ⟨I2, hI2⟩ := mkI fun i e H => ((e 2 = .adr t.c) ∧ (e 3 = .adr r.c) ∧ (e 11 = dLI r.goneE) ∧ (e 9 = .own 0 (t.nodes.length + t.edges.length)) ∧ (e 15 = dI i) ∧ (H.get 0 = some ⟨3, 1, (bumps (vec1 t r) ((r.kGE t.nodes.length).take i) (-1)).map cI, false⟩) ∧ (0 < H.next) ∧ (i ≤ r.goneE.length))
        refine loopK I2 (fun i => r.goneE.length - i) (0) ((hI2 _ _ _).2 ⟨?_, ?_, ?_, ?_, ?_, (by (simp [go_sem, dN, dE, dF, dG, htn, F0, g0_0, htn, dF, dG])), ?_, (by first | assumption | omega | (simp [go_sem, dN, dE, dF, dG, htn, F0, g0_0, htn, dF, dG]; done) | (simp_all; done))⟩) ?_
        iterate 6 (first | omega | (simp [go_sem, dN, dE, dF, dG, htn, F0, g0_0, htn, dF, dG] <;> omega))
        intro i e H hi2
        obtain ⟨q2_2, q3_2, q11_2, q9_2, q15_2, g0_2, n0_2, hi⟩ := (hI2 _ _ _).1 hi2
        have x0 := frs n0_2
        have F2 := And.intro q2_2 (And.intro q3_2 (And.intro q11_2 (And.intro q9_2 (And.intro q15_2 x0))))
        try simp [go_sem, dN, dE, dF, dG, htn, htn, dF, dG, F2, g0_2, dF, dG]
        repeat (first | intro _ | (refine ⟨obl, ?_⟩))
        refine condQ_mk (fun h17 => ?_) (fun h17 => ?_)
        · try simp [go_sem] at h17
          have hin := othersL_mem (lgm h17)
          have hk : r.goneE[i].toNat < r.left.graph.edges.length := by omega
          have hkt := I.el _ (lgm hk)
          have hke : (r.kGE t.nodes.length)[i]'(by omega) = t.nodes.length + r.left.graph.edges[r.goneE[i].toNat].type.toNat := by simp [Rule.kGE, lge hk]
          obtain ⟨hkl, hst, hbd⟩ := bump_round (d := -1) V.l1 V.b1 (by omega) (by omega) (show i < (r.kGE t.nodes.length).length by omega) (by rw [hke]; omega)
          have hbl := bumps_len (vec1 t r) (-1) ((r.kGE t.nodes.length).take i)
          rw [V.l1] at hbl
          simp only [hke] at hkl hst hbd
          have htk : ((t.nodes.length : Int) + r.left.graph.edges[r.goneE[i].toNat].type).toNat = t.nodes.length + r.left.graph.edges[r.goneE[i].toNat].type.toNat := by omega
          try simp [go_sem, dN, dE, dF, dG, htn, htn, dF, dG, F2, g0_2, dF, dG, h17, lge hk, lge hkl, hbl, htk]
          repeat (first | intro _ | (refine ⟨obl, ?_⟩))
          refine nextQ_mk (i + 1) (by omega) ((hI2 _ _ _).2 ⟨?_, ?_, ?_, ?_, ?_, (by (simp [go_sem, dN, dE, dF, dG, htn, htn, dF, dG, F2, g0_2, dF, dG, h17, lge hk, lge hkl, hbl, htk, hst, List.map_set, Int.sub_eq_add_neg])), ?_, (by first | assumption | omega | (simp [go_sem, dN, dE, dF, dG, htn, htn, dF, dG, F2, g0_2, dF, dG, h17, lge hk, lge hkl, hbl, htk, h2, h5, h10]; done) | (simp_all <;> omega))⟩) <;> first | omega | (simp [go_sem, dN, dE, dF, dG, htn, htn, dF, dG, F2, g0_2, dF, dG, h17, lge hk, lge hkl, hbl, htk] <;> omega)
        · try simp [go_sem] at h17
          have hV2 : bumps (vec1 t r) ((r.kGE t.nodes.length).take i) (-1) = vec2 t r := by rw [List.take_of_length_le (by omega)]; rfl
          rw [hV2] at g0_2
          try simp [go_sem, dN, dE, dF, dG, htn, htn, dF, dG, F2, g0_2, dF, dG]
          refine cq0 (ref24_Created t ht r hr) ?_
          try simp [go_sem, dN, dE, dF, dG, htn, htn, dF, dG, F2, g0_2, dF, dG]
          obtain ⟨I4, hI4⟩ := mkI fun i e H => ((e 2 = .adr t.c) ∧ (e 3 = .adr r.c) ∧ (e 10 = dLI r.freshN) ∧ (e 11 = dLI r.freshE) ∧ (e 9 = .own 0 (t.nodes.length + t.edges.length)) ∧ (e 16 = dI i) ∧ (H.get 0 = some ⟨3, 1, (bumps (vec2 t r) (r.kFN.take i) 1).map cI, false⟩) ∧ (0 < H.next) ∧ (i ≤ r.freshN.length))
          refine loopK I4 (fun i => r.freshN.length - i) (0) ((hI4 _ _ _).2 ⟨?_, ?_, ?_, ?_, ?_, ?_, (by (simp [go_sem, dN, dE, dF, dG, htn, htn, dF, dG, F2, g0_2, dF, dG])), ?_, (by first | assumption | omega | (simp [go_sem, dN, dE, dF, dG, htn, htn, dF, dG, F2, g0_2, dF, dG]; done) | (simp_all; done))⟩) ?_
          iterate 7 (first | omega | (simp [go_sem, dN, dE, dF, dG, htn, htn, dF, dG, F2, g0_2, dF, dG] <;> omega))
          intro i e H hi4
          obtain ⟨q2_4, q3_4, q10_4, q11_4, q9_4, q16_4, g0_4, n0_4, hi⟩ := (hI4 _ _ _).1 hi4
          have x0 := frs n0_4
          have F4 := And.intro q2_4 (And.intro q3_4 (And.intro q10_4 (And.intro q11_4 (And.intro q9_4 (And.intro q16_4 x0)))))
          try simp [go_sem, dN, dE, dF, dG, htn, htn, dF, dG, dF, dG, F4, g0_4]
          repeat (first | intro _ | (refine ⟨obl, ?_⟩))
          refine condQ_mk (fun h22 => ?_) (fun h22 => ?_)
          · try simp [go_sem] at h22
            have hin := othersL_mem (lgm h22)
            have hk : r.freshN[i].toNat < r.right.graph.nodes.length := by omega
            have hkt := I.nr _ (lgm hk)
            have hke : r.kFN[i]'(by omega) = r.right.graph.nodes[r.freshN[i].toNat].toNat := by simp [Rule.kFN, gN, lge hk]
            obtain ⟨hkl, hst, hbd⟩ := bump_round (d := 1) V.l2 V.b2 (by omega) (by omega) (show i < r.kFN.length by omega) (by rw [hke]; omega)
            have hbl := bumps_len (vec2 t r) 1 (r.kFN.take i)
            rw [V.l2] at hbl
            simp only [hke] at hkl hst hbd
            try simp [go_sem, dN, dE, dF, dG, htn, htn, dF, dG, dF, dG, F4, g0_4, h22, lge hk, lge hkl, hbl]
            repeat (first | intro _ | (refine ⟨obl, ?_⟩))
            refine nextQ_mk (i + 1) (by omega) ((hI4 _ _ _).2 ⟨?_, ?_, ?_, ?_, ?_, ?_, (by (simp [go_sem, dN, dE, dF, dG, htn, htn, dF, dG, dF, dG, F4, g0_4, h22, lge hk, lge hkl, hbl, hst, List.map_set])), ?_, (by first | assumption | omega | (simp [go_sem, dN, dE, dF, dG, htn, htn, dF, dG, dF, dG, F4, g0_4, h22, lge hk, lge hkl, hbl, h2, h5, h10, h17]; done) | (simp_all <;> omega))⟩) <;> first | omega | (simp [go_sem, dN, dE, dF, dG, htn, htn, dF, dG, dF, dG, F4, g0_4, h22, lge hk, lge hkl, hbl] <;> omega)
          · try simp [go_sem] at h22
            have hV3 : bumps (vec2 t r) (r.kFN.take i) 1 = vec3 t r := by rw [List.take_of_length_le (by omega)]; rfl
            rw [hV3] at g0_4
            try simp [go_sem, dN, dE, dF, dG, htn, htn, dF, dG, dF, dG, F4, g0_4]
            obtain ⟨I6, hI6⟩ := mkI fun i e H => ((e 2 = .adr t.c) ∧ (e 3 = .adr r.c) ∧ (e 11 = dLI r.freshE) ∧ (e 9 = .own 0 (t.nodes.length + t.edges.length)) ∧ (e 17 = dI i) ∧ (H.get 0 = some ⟨3, 1, (bumps (vec3 t r) ((r.kFE t.nodes.length).take i) 1).map cI, false⟩) ∧ (0 < H.next) ∧ (i ≤ r.freshE.length))
            refine loopK I6 (fun i => r.freshE.length - i) (0) ((hI6 _ _ _).2 ⟨?_, ?_, ?_, ?_, ?_, (by (simp [go_sem, dN, dE, dF, dG, htn, htn, dF, dG, dF, dG, F4, g0_4])), ?_, (by first | assumption | omega | (simp [go_sem, dN, dE, dF, dG, htn, htn, dF, dG, dF, dG, F4, g0_4]; done) | (simp_all; done))⟩) ?_
            iterate 6 (first | omega | (simp [go_sem, dN, dE, dF, dG, htn, htn, dF, dG, dF, dG, F4, g0_4] <;> omega))
            intro i e H hi6
            obtain ⟨q2_6, q3_6, q11_6, q9_6, q17_6, g0_6, n0_6, hi⟩ := (hI6 _ _ _).1 hi6
            have x0 := frs n0_6
            have F6 := And.intro q2_6 (And.intro q3_6 (And.intro q11_6 (And.intro q9_6 (And.intro q17_6 x0))))
            try simp [go_sem, dN, dE, dF, dG, htn, htn, dF, dG, dF, dG, F6, g0_6]
            repeat (first | intro _ | (refine ⟨obl, ?_⟩))
            refine condQ_mk (fun h26 => ?_) (fun h26 => ?_)
            · try simp [go_sem] at h26
              have hin := othersL_mem (lgm h26)
              have hk : r.freshE[i].toNat < r.right.graph.edges.length := by omega
              have hkt := I.er _ (lgm hk)
              have hke : (r.kFE t.nodes.length)[i]'(by omega) = t.nodes.length + r.right.graph.edges[r.freshE[i].toNat].type.toNat := by simp [Rule.kFE, lge hk]
              obtain ⟨hkl, hst, hbd⟩ := bump_round (d := 1) V.l3 V.b3 (by omega) (by omega) (show i < (r.kFE t.nodes.length).length by omega) (by rw [hke]; omega)
              have hbl := bumps_len (vec3 t r) 1 ((r.kFE t.nodes.length).take i)
              rw [V.l3] at hbl
              simp only [hke] at hkl hst hbd
              have htk : ((t.nodes.length : Int) + r.right.graph.edges[r.freshE[i].toNat].type).toNat = t.nodes.length + r.right.graph.edges[r.freshE[i].toNat].type.toNat := by omega
              try simp [go_sem, dN, dE, dF, dG, htn, htn, dF, dG, dF, dG, F6, g0_6, h26, lge hk, lge hkl, hbl, htk]
              repeat (first | intro _ | (refine ⟨obl, ?_⟩))
              refine nextQ_mk (i + 1) (by omega) ((hI6 _ _ _).2 ⟨?_, ?_, ?_, ?_, ?_, (by (simp [go_sem, dN, dE, dF, dG, htn, htn, dF, dG, dF, dG, F6, g0_6, h26, lge hk, lge hkl, hbl, htk, hst, List.map_set])), ?_, (by first | assumption | omega | (simp [go_sem, dN, dE, dF, dG, htn, htn, dF, dG, dF, dG, F6, g0_6, h26, lge hk, lge hkl, hbl, htk, h2, h5, h10, h17, h22]; done) | (simp_all <;> omega))⟩) <;> first | omega | (simp [go_sem, dN, dE, dF, dG, htn, htn, dF, dG, dF, dG, F6, g0_6, h26, lge hk, lge hkl, hbl, htk] <;> omega)
            · try simp [go_sem] at h26
              have hV4 : bumps (vec3 t r) ((r.kFE t.nodes.length).take i) 1 = vec4 t r := by rw [List.take_of_length_le (by omega)]; rfl
              rw [hV4] at g0_6
              have hl4 := V.l4
              try simp [go_sem, dN, dE, dF, dG, htn, htn, dF, dG, dF, dG, F6, g0_6]
              exact hQ _ _ (.inl (by simp [go_sem, dN, dE, dF, dG, htn, htn, dF, dG, dF, dG, F6, g0_6, effE, effV, h5, hNo, hl4]))
end Go.Abs
end
section
set_option maxRecDepth 8000
open Go Go.Proofs
namespace Go.Abs
def cL (l : List Int) : List D := [dLI l]
@[go_sem] theorem lists_cl (l : List (List Int)) : D.clLL (l.map cL) = true := clLL_map cL (fun x => by simp [cL, go_sem]) l
attribute [go_sem] cL
@[go_sem] theorem hd_rule (o : Option Rule) (a1 a2 a3 a4 a5 a6 a7 a8 a9 a10 a11 a12 a13 a14 a15 a16 a17 a18 a19 a20 a21 a22 a23 a24 a25 : D) : ((Option.map Rule.c o).getD [a1, a2, a3, a4, a5, a6, a7, a8, a9, a10, a11, a12, a13, a14, a15, a16, a17, a18, a19, a20, a21, a22, a23, a24, a25]).length = 25 := by cases o <;> rfl
theorem effE_valid {t : Types} {r : Rule} (h : ¬ (validF t).2 = 0) : effE t r = (validF t).2 := by
  have : ruleF t r = (validF t).2 := by unfold ruleF; rw [if_pos h]
  unfold effE; rw [this, if_pos h]
theorem weight_Effect (t : Types) (ht : t.ok) (r : Rule) (hr : r.ok) : Pure Tryz.prog 71 [t.d, r.d] (.tup [dLI (effV t r), dI (effE t r)]) := by
  refine Tz.pK ⟨fun _ => false, fun _ => []⟩ Tryz.func71 rfl (fun Q hQ => ?_)
  try simp [go_sem]
  refine cq0 (types_Valid t ht) ?_
  try simp [go_sem]
  refine condQ_mk (fun h2 => ?_) (fun h2 => ?_)
  · try simp [go_sem] at h2
    try simp [go_sem]
    exact hQ _ _ (by first | (left; (simp [go_sem, effV, effE_valid h2, h2]); done) | (right; (simp [go_sem, effV, effE_valid h2, h2]); done))
  · try simp [go_sem] at h2
    try simp [go_sem]
    refine cq0 (weight_effect t ht r hr) ?_
    try simp [go_sem]
    exact hQ _ _ (by simp [go_sem, h2] <;> first | omega | (rw [bei]; simp <;> omega) | (simp_all <;> omega))
theorem mul_bound {A B x y : Int} (hA : 0 ≤ A) (hB : 0 ≤ B) (hx : -A ≤ x ∧ x ≤ A) (hy : -B ≤ y ∧ y ≤ B) : -(A * B) ≤ x * y ∧ x * y ≤ A * B := by
  have h1 : x.natAbs ≤ A.natAbs := by omega
  have h2 : y.natAbs ≤ B.natAbs := by omega
  have h3 := Nat.mul_le_mul h1 h2
  rw [← Int.natAbs_mul, ← Int.natAbs_mul] at h3
  have h4 : 0 ≤ A * B := Int.mul_nonneg hA hB
  omega
def prodN (a b : List Int) : Nat → Int
  | 0 => 0
  | n + 1 => prodN a b n + a[n]?.getD 0 * b[n]?.getD 0
@[go_sem] theorem prodN_zero (a b : List Int) : prodN a b 0 = 0 := rfl
def prodF (a b : List Int) : Int := prodN a b a.length
theorem prodN_bound {a b : List Int} {A B : Int} (hA : 0 ≤ A) (hB : 0 ≤ B) (ha : ∀ x ∈ a, -A ≤ x ∧ x ≤ A) (hb : ∀ x ∈ b, -B ≤ x ∧ x ≤ B) : ∀ n, -(n * (A * B)) ≤ prodN a b n ∧ prodN a b n ≤ n * (A * B)
  | 0 => by simp [prodN]
  | n + 1 => by
    have ih := prodN_bound hA hB ha hb n
    have h1 : -A ≤ a[n]?.getD 0 ∧ a[n]?.getD 0 ≤ A := by
     cases h : a[n]? with
     | none => simp; omega
     | some y => simpa using ha y (List.mem_of_getElem? h)
    have h2 : -B ≤ b[n]?.getD 0 ∧ b[n]?.getD 0 ≤ B := by
     cases h : b[n]? with
     | none => simp; omega
     | some y => simpa using hb y (List.mem_of_getElem? h)
    have h3 := mul_bound hA hB h1 h2
    simp only [prodN]
    have h4 : ((n + 1 : Nat) : Int) * (A * B) = n * (A * B) + A * B := by rw [Int.natCast_succ, Int.add_mul]; simp
    rw [h4]
    generalize (n : Int) * (A * B) = u at *
    generalize A * B = v at *
    generalize a[n]?.getD 0 * b[n]?.getD 0 = z at *
    omega
structure ProdOk (a b : List Int) : Prop where
  len : a.length ≤ b.length
  few : a.length ≤ 1000
  ba : ∀ x ∈ a, -100000 ≤ x ∧ x ≤ 100000
  bb : ∀ x ∈ b, -100000 ≤ x ∧ x ≤ 100000
theorem prod_round {a b : List Int} (h : ProdOk a b) {i : Nat} (hi : i < a.length) : ∃ hb : i < b.length, prodN a b (i + 1) = prodN a b i + a[i] * b[i] ∧ (-10000000000 ≤ a[i] * b[i] ∧ a[i] * b[i] ≤ 10000000000) ∧ (-10000000000000 ≤ prodN a b i ∧ prodN a b i ≤ 10000000000000) := by
  have hb : i < b.length := Nat.lt_of_lt_of_le hi h.len
  have h1 := mul_bound (by decide) (by decide) (h.ba _ (lgm hi)) (h.bb _ (lgm hb))
  have h2 := prodN_bound (by decide) (by decide) h.ba h.bb i
  have hf := h.few
  refine ⟨hb, ?_, by omega, by omega⟩
  simp only [prodN, lge hi, lge hb, Option.getD_some]
theorem weight_product (a b : List Int) (h : ProdOk a b) : Pure Tryz.prog 182 [dLI a, dLI b] (dI (prodF a b)) := by
  refine Tz.pK ⟨fun _ => false, fun _ => []⟩ Tryz.func182 rfl (fun Q hQ => ?_)
  try simp [go_sem]
  repeat (first | intro _ | (refine ⟨obl, ?_⟩))
  obtain ⟨I0, hI0⟩ := mkI fun i e H => ((e 0 = dLI a) ∧ (e 1 = dLI b) ∧ (e 8 = dI a.length) ∧ (e 5 = dI (prodN a b i)) ∧ (e 9 = dI i) ∧ (i ≤ a.length))
  refine loopK I0 (fun i => a.length - i) (0) ((hI0 _ _ _).2 ⟨?_, ?_, ?_, ?_, ?_, (by first | assumption | omega | (simp [go_sem]; done) | (simp_all; done))⟩) ?_
  iterate 5 (first | omega | (simp [go_sem] <;> omega))
  intro i e H hi0
  obtain ⟨q0_0, q1_0, q8_0, q5_0, q9_0, hi⟩ := (hI0 _ _ _).1 hi0
  have F0 := And.intro q0_0 (And.intro q1_0 (And.intro q8_0 (And.intro q5_0 q9_0)))
  try simp [go_sem, F0]
  refine condQ_mk (fun h3 => ?_) (fun h3 => ?_)
  · try simp [go_sem] at h3
    obtain ⟨hib, hst, hm, hp⟩ := prod_round h h3
    try simp [go_sem, F0, h3, hib, hst]
    repeat (first | intro _ | (refine ⟨obl, ?_⟩))
    refine nextQ_mk (i + 1) (by omega) ((hI0 _ _ _).2 ⟨?_, ?_, ?_, ?_, ?_, (by first | assumption | omega | (simp [go_sem, F0, h3, hib, hst]; done) | (simp_all <;> omega))⟩) <;> first | omega | (simp [go_sem, F0, h3, hib, hst] <;> omega)
  · try simp [go_sem] at h3
    try simp [go_sem, F0]
    exact hQ _ _ (.inl (by simp [go_sem, F0, prodF, show a.length = i by omega]))
theorem ref39_Product (a b : List Int) (h : ProdOk a b) : Pure Tryz.prog 88 [dLI a, dLI b] (dI (prodF a b)) := by
  refine Tz.pK ⟨fun _ => false, fun _ => []⟩ Tryz.func88 rfl (fun Q hQ => ?_)
  try simp [go_sem]
  obtain ⟨I0, hI0⟩ := mkI fun i e H => ((e 0 = dLI a) ∧ (e 1 = dLI b) ∧ (e 5 = dI (prodN a b i)) ∧ (e 6 = dI i) ∧ (i ≤ a.length))
  refine loopK I0 (fun i => a.length - i) (0) ((hI0 _ _ _).2 ⟨?_, ?_, ?_, ?_, (by first | assumption | omega | (simp [go_sem]; done) | (simp_all; done))⟩) ?_
  iterate 4 (first | omega | (simp [go_sem] <;> omega))
  intro i e H hi0
  obtain ⟨q0_0, q1_0, q5_0, q6_0, hi⟩ := (hI0 _ _ _).1 hi0
  have F0 := And.intro q0_0 (And.intro q1_0 (And.intro q5_0 q6_0))
  try simp [go_sem, F0]
  repeat (first | intro _ | (refine ⟨obl, ?_⟩))
  refine condQ_mk (fun h3 => ?_) (fun h3 => ?_)
  · try simp [go_sem] at h3
    obtain ⟨hib, hst, hm, hp⟩ := prod_round h h3
    try simp [go_sem, F0, h3, hib, hst]
    repeat (first | intro _ | (refine ⟨obl, ?_⟩))
    refine nextQ_mk (i + 1) (by omega) ((hI0 _ _ _).2 ⟨?_, ?_, ?_, ?_, (by first | assumption | omega | (simp [go_sem, F0, h3, hib, hst]; done) | (simp_all <;> omega))⟩) <;> first | omega | (simp [go_sem, F0, h3, hib, hst] <;> omega)
  · try simp [go_sem] at h3
    try simp [go_sem, F0]
    exact hQ _ _ (.inl (by simp [go_sem, F0, prodF, show a.length = i by omega]))
theorem counting_product (a b : List Int) (h : ProdOk a b) : Pure Tryz.prog 41 [dLI a, dLI b] (dI (prodF a b)) := by
  refine Tz.pK ⟨fun _ => false, fun _ => []⟩ Tryz.func41 rfl (fun Q hQ => ?_)
  try simp [go_sem]
  repeat (first | intro _ | (refine ⟨obl, ?_⟩))
  obtain ⟨I0, hI0⟩ := mkI fun i e H => ((e 0 = dLI a) ∧ (e 1 = dLI b) ∧ (e 8 = dLI a) ∧ (e 9 = dI a.length) ∧ (e 5 = dI (prodN a b i)) ∧ (e 10 = dI i) ∧ (i ≤ a.length))
  refine loopK I0 (fun i => a.length - i) (0) ((hI0 _ _ _).2 ⟨?_, ?_, ?_, ?_, ?_, ?_, (by first | assumption | omega | (simp [go_sem]; done) | (simp_all; done))⟩) ?_
  iterate 6 (first | omega | (simp [go_sem] <;> omega))
  intro i e H hi0
  obtain ⟨q0_0, q1_0, q8_0, q9_0, q5_0, q10_0, hi⟩ := (hI0 _ _ _).1 hi0
  have F0 := And.intro q0_0 (And.intro q1_0 (And.intro q8_0 (And.intro q9_0 (And.intro q5_0 q10_0))))
  try simp [go_sem, F0]
  refine condQ_mk (fun h3 => ?_) (fun h3 => ?_)
  · try simp [go_sem] at h3
    obtain ⟨hib, hst, hm, hp⟩ := prod_round h h3
    try simp [go_sem, F0, h3, hib, hst]
    repeat (first | intro _ | (refine ⟨obl, ?_⟩))
    refine nextQ_mk (i + 1) (by omega) ((hI0 _ _ _).2 ⟨?_, ?_, ?_, ?_, ?_, ?_, (by first | assumption | omega | (simp [go_sem, F0, h3, hib, hst]; done) | (simp_all <;> omega))⟩) <;> first | omega | (simp [go_sem, F0, h3, hib, hst] <;> omega)
  · try simp [go_sem] at h3
    try simp [go_sem, F0]
    exact hQ _ _ (.inl (by simp [go_sem, F0, prodF, show a.length = i by omega]))
end Go.Abs
end
section
set_option maxRecDepth 8000
open Go Go.Proofs
namespace Go.Abs
theorem indexFunc_ints (xs : List (List Int)) (g : FuncId) (caps : List D) (p : (List Int) → Bool) (hc : D.clL caps = true) (hg : ∀ x ∈ xs, Pure Tryz.prog g (dLI x :: caps) (.bool (p x))) :
    Pure Tryz.prog 147 [.list (xs.map cL), .fn g caps] (dI (idxF xs p)) := by
  refine pure_of_calls (acalls_of_body (cfg := ⟨fun _ => false, fun _ => []⟩) Tz.mixed Tryz.func147 rfl rfl (nlb rfl) (by kernel_rfl) ?_)
  simp [go_sem, dI, dLI]
  intro hlen
  refine loop_rule (ι := Nat) (fun i e H => H = .emp ∧ i ≤ xs.length ∧ e 0 = .list (xs.map cL) ∧ e 1 = .fn g caps ∧ e 7 = dI xs.length ∧ e 8 = dI i ∧ (∀ j x, j < i → xs[j]? = some x → p x = false)) (fun i => xs.length - i) 0 (by simp [go_sem, dI, dLI]) ?_
  intro i e H ⟨hH, hi, h0, h1, h7, h8, hn⟩
  subst hH
  simp [go_sem, h0, h1, h7, h8, dI, dLI]
  refine condQ_dec (fun hlt => ?_) (fun hge => ?_)
  · have hgx := hg xs[i] (lgm hlt)
    simp [go_sem, h0, h1, h7, h8, dI, dLI, hlt, cL] at hgx ⊢
    refine callQ_pure0 hgx (by simp [go_sem, hc]) ?_
    simp [go_sem, h0, h1, h7, h8, dI, dLI]
    refine condQ_mk (fun h => ?_) (fun h => ?_)
    ·simp [go_sem, h0, h1, h7, h8, dI, dLI]
     rw [idxF_some hn hlt h]
    ·simp [go_sem, h0, h1, h7, h8, dI, dLI]
     refine ⟨inR_i64 (by omega) (by omega), i + 1, by omega, by omega, by omega, fun j x hj hx => ?_⟩
     rcases Nat.lt_or_ge j i with hj' | hj'
     ·exact hn j x hj' hx
     ·have : j = i := by omega
      subst this
      rw [lge hlt] at hx
      cases hx; exact h
  · simp [go_sem, h0, h1, h7, h8, dI, dLI]
    rw [idxF_none fun j x hj => hn j x (by omega)]
theorem containsFunc_ints (xs : List (List Int)) (g : FuncId) (caps : List D) (p : (List Int) → Bool) (hc : D.clL caps = true) (hl : D.cl (.list (xs.map cL)) = true) (hg : ∀ x ∈ xs, Pure Tryz.prog g (dLI x :: caps) (.bool (p x))) :
    Pure Tryz.prog 89 [.list (xs.map cL), .fn g caps] (.bool (xs.any p)) := by
  refine pure_of_calls (acalls_of_body (cfg := ⟨fun _ => false, fun _ => []⟩) Tz.mixed Tryz.func89 rfl rfl (nlb rfl) (by kernel_rfl) ?_)
  simp [go_sem]
  refine callQ_pure0 (indexFunc_ints xs g caps p hc hg) (by simp only [D.clL, hl, Bool.true_and]; simp [D.cl, hc]) ?_
  simp [go_sem, dI, idxF_any]
def touchL (n : Nat) (ls : List (List Int)) : List Int := ((List.range n).filter fun (k : Nat) => ls.any fun l => decide (l[k]?.getD 0 ≠ 0)).map fun (k : Nat) => (k : Int)
def effsE (t : Types) (rs : List Rule) : Int :=
  if (validF t).2 ≠ 0 then (validF t).2
  else if 6 < rs.length then 3
  else if listE (effE t) rs ≠ 0 then listE (effE t) rs
  else if 6 < (touchL (t.nodes.length + t.edges.length) (rs.map (effV t))).length then 3 else 0
def effsV (t : Types) (rs : List Rule) : List (List Int) := if effsE t rs = 0 then rs.map (effV t) else []
def effsT (t : Types) (rs : List Rule) : List Int := if effsE t rs = 0 then touchL (t.nodes.length + t.edges.length) (rs.map (effV t)) else []
theorem effV_len {t : Types} {r : Rule} (h : effE t r = 0) : (effV t r).length = t.nodes.length + t.edges.length := by
  unfold effV; rw [if_pos h]; exact (vecs t r).l4
theorem effV_bound {t : Types} {r : Rule} : ∀ x ∈ effV t r, -100000 ≤ x ∧ x ≤ 100000 := by
  unfold effV
  split
  · rename_i h
    have hr : ruleF t r = 0 := by
     unfold effE at h
     split at h
     ·rename_i h1; exact absurd h h1
     ·rename_i h1; omega
    have I := ruleIn hr
    have hgl := graphF_le I.gl
    have hgr := graphF_le I.gr
    have lN : r.goneN.length ≤ r.left.graph.nodes.length := othersL_len r.keep.nodes r.left.graph.nodes.length
    have lE : r.goneE.length ≤ r.left.graph.edges.length := othersL_len r.keep.edges r.left.graph.edges.length
    have lF : r.freshN.length ≤ r.right.graph.nodes.length := othersL_len r.into.nodes r.right.graph.nodes.length
    have lG : r.freshE.length ≤ r.right.graph.edges.length := othersL_len r.into.edges r.right.graph.edges.length
    have k1 : r.kGN.length = r.goneN.length := by simp [Rule.kGN]
    have k2 : (r.kGE t.nodes.length).length = r.goneE.length := by simp [Rule.kGE]
    have k3 : r.kFN.length = r.freshN.length := by simp [Rule.kFN]
    have k4 : (r.kFE t.nodes.length).length = r.freshE.length := by simp [Rule.kFE]
    intro x hx
    have := (vecs t r).b4 x hx
    omega
  · intro x hx; cases hx
theorem weight_effects1 (l : List Int) (k : Nat) (hk : k < l.length) : Pure Tryz.prog 179 [dLI l, .adr [dI k]] (.bool (decide (l[k]?.getD 0 ≠ 0))) := by
  refine Tz.pK ⟨fun _ => false, fun _ => []⟩ Tryz.func179 rfl (fun Q hQ => ?_)
  try simp [go_sem, lge hk, hk]
  repeat (first | intro _ | (refine ⟨obl, ?_⟩))
  exact hQ _ _ (by simp [go_sem, lge hk, hk] <;> first | omega | (rw [bei]; simp <;> omega) | (simp_all <;> omega))
theorem weight_effects (t : Types) (ht : t.ok) (rs : List Rule) (hr : ∀ r ∈ rs, r.ok) : Pure Tryz.prog 113 [t.d, .list (rs.map Rule.c)] (.tup [.list ((effsV t rs).map cL), dLI (effsT t rs), dI (effsE t rs)]) := by
  refine Tz.pK ⟨fun t => t == 9 || t == 11 || t == 14 || t == 15, fun _ => []⟩ Tryz.func113 rfl (fun Q hQ => ?_)
  try simp [go_sem]
  refine cq0 (types_Valid t ht) ?_
  try simp [go_sem]
  refine condQ_mk (fun h2 => ?_) (fun h2 => ?_)
  · try simp [go_sem] at h2
    try simp [go_sem]
    exact hQ _ _ (by first | (left; (simp [go_sem, effsE, effsV, effsT, h2]); done) | (right; (simp [go_sem, effsE, effsV, effsT, h2]); done))
  · try simp [go_sem] at h2
    try simp [go_sem]
    repeat (first | intro _ | (refine ⟨obl, ?_⟩))
    refine condQ_mk (fun h4 => ?_) (fun h4 => ?_)
    ·try simp [go_sem] at h4
     try simp [go_sem]
     exact hQ _ _ (by first | (left; (simp [go_sem, effsE, effsV, effsT, h2]; omega); done) | (right; (simp [go_sem, effsE, effsV, effsT, h2]; omega); done))
    ·try simp [go_sem] at h4
     have hv := valid_of h2
     have hN := hv.fewN
     have hE := hv.fewE
     try simp [go_sem]
     repeat (first | intro _ | (refine ⟨obl, ?_⟩))
     obtain ⟨I0, hI0⟩ := mkI fun i e H => (∃ xs : List (List Int), (e 2 = .adr t.c) ∧ (e 1 = .list (rs.map Rule.c)) ∧ (e 9 = .own 0 xs.length) ∧ (e 27 = .list (rs.map Rule.c)) ∧ (e 28 = dI rs.length) ∧ (e 29 = dI i) ∧ (H.get 0 = some ⟨31, 1, xs.map cL, false⟩) ∧ (0 < H.next) ∧ (i ≤ rs.length) ∧ (xs = (rs.take i).map (effV t)) ∧ (∀ r ∈ rs.take i, effE t r = 0) ∧ (listE (effE t) (rs.drop i) = listE (effE t) rs))
     refine loopK I0 (fun i => rs.length - i) (0) ((hI0 _ _ _).2 ⟨([]), ?_, ?_, ?_, ?_, ?_, ?_, ?_, ?_, (by first | assumption | omega | (simp [go_sem]; done) | (simp_all; done)), (by rfl), (by (intro r hr'; simp at hr')), (by rfl)⟩) ?_
     iterate 8 (first | omega | (simp [go_sem] <;> omega))
     intro i e H hi0
     obtain ⟨xs, q2_0, q1_0, q9_0, q27_0, q28_0, q29_0, g0_0, n0_0, hi, hx, hz, hL⟩ := (hI0 _ _ _).1 hi0
     have x0 := frs n0_0
     have F0 := And.intro q2_0 (And.intro q1_0 (And.intro q9_0 (And.intro q27_0 (And.intro q28_0 (And.intro q29_0 (And.intro g0_0 x0))))))
     try simp [go_sem, F0]
     refine condQ_mk (fun h8 => ?_) (fun h8 => ?_)
     ·try simp [go_sem] at h8
      have hst := hL
      rw [listE_step _ h8] at hst
      have hxl : xs.length = i := by rw [hx]; simp; omega
      try simp [go_sem, F0, h8]
      repeat (first | intro _ | (refine ⟨obl, ?_⟩))
      refine cq0 (weight_effect t ht rs[i] (hr _ (lgm h8))) ?_
      try simp [go_sem, F0, h8]
      repeat (first | intro _ | (refine ⟨obl, ?_⟩))
      refine condQ_mk (fun h11 => ?_) (fun h11 => ?_)
      ·try simp [go_sem] at h11
       rw [if_pos (by omega)] at hst
       try simp [go_sem, F0, h8]
       exact hQ _ _ (by first | (left; (simp [go_sem, effsE, effsV, effsT, h2, ← hst, h11, show ¬ 6 < rs.length by omega]); done) | (right; (simp [go_sem, effsE, effsV, effsT, h2, ← hst, h11, show ¬ 6 < rs.length by omega]); done))
      ·try simp [go_sem] at h11
       rw [if_neg (by omega)] at hst
       have hz' : ∀ r ∈ rs.take (i + 1), effE t r = 0 := fun r hr' => by
        rw [List.take_succ_eq_append_getElem h8, List.mem_append] at hr'
        rcases hr' with h | h
        ·exact hz r h
        ·simp at h; subst h; omega
       try simp [go_sem, F0, h8]
       repeat (first | intro _ | (refine ⟨obl, ?_⟩))
       refine nextQ_mk (i + 1) (by omega) ((hI0 _ _ _).2 ⟨(xs ++ [effV t rs[i]]), ?_, ?_, ?_, ?_, ?_, ?_, ?_, ?_, (by first | assumption | omega | (simp [go_sem, F0, h8, h2, h4, h11]; done) | (simp_all <;> omega)), (by (rw [map_take_succ _ h8, ← hx])), (by (exact hz')), (by exact hst)⟩) <;> first | omega | (simp [go_sem, F0, h8] <;> omega)
     ·try simp [go_sem] at h8
      have hX : xs = rs.map (effV t) := by rw [hx, map_take_end _ (by omega)]
      have hL0 : listE (effE t) rs = 0 := by rw [← hL, listE_end _ (by omega)]
      rw [List.take_of_length_le (by omega)] at hz
      have hlen : ∀ l ∈ xs, l.length = t.nodes.length + t.edges.length := fun l hl => by
       rw [hX, List.mem_map] at hl
       obtain ⟨r, h1, rfl⟩ := hl
       exact effV_len (hz r h1)
      try simp [go_sem, F0]
      repeat (first | intro _ | (refine ⟨obl, ?_⟩))
      obtain ⟨I2, hI2⟩ := mkI fun k e H => (∃ j : Nat, ∃ ys : List Int, (e 2 = .adr t.c) ∧ (e 1 = .list (rs.map Rule.c)) ∧ (e 9 = .own 0 xs.length) ∧ (e 14 = .own j ys.length) ∧ (e 53 = dI ((t.nodes.length + t.edges.length : Nat) : Int)) ∧ (e 54 = dI k) ∧ (H.get 0 = some ⟨31, 1, xs.map cL, false⟩) ∧ (0 < H.next) ∧ (H.get j = some ⟨3, 1, ys.map cI, false⟩) ∧ (j < H.next) ∧ (k ≤ t.nodes.length + t.edges.length) ∧ (ys.length ≤ k) ∧ (ys = ((List.range k).filter fun (k : Nat) => xs.any fun l => decide (l[k]?.getD 0 ≠ 0)).map (fun (b : Nat) => (b : Int))) ∧ (j ≠ 0))
      refine loopK I2 (fun k => t.nodes.length + t.edges.length - k) (0) ((hI2 _ _ _).2 ⟨(H.next), ([]), ?_, ?_, ?_, ?_, ?_, ?_, ?_, ?_, ?_, ?_, (by first | assumption | omega | (simp [go_sem, F0]; done) | (simp_all; done)), (by simp), (by rfl), (by omega)⟩) ?_
      iterate 10 (first | omega | (simp [go_sem, F0] <;> omega))
      intro k e H hi2
      obtain ⟨j, ys, q2_2, q1_2, q9_2, q14_2, q53_2, q54_2, g0_2, n0_2, gj_2, nj_2, hk, hyl, hy, j0⟩ := (hI2 _ _ _).1 hi2
      have x0 := frs n0_2
      have xj := frs nj_2
      have F2 := And.intro q2_2 (And.intro q1_2 (And.intro q9_2 (And.intro q14_2 (And.intro q53_2 (And.intro q54_2 (And.intro g0_2 (And.intro gj_2 (And.intro x0 xj))))))))
      try simp [go_sem, F2, j0, j0.symm]
      refine condQ_mk (fun h17 => ?_) (fun h17 => ?_)
      ·try simp [go_sem] at h17
       try simp [go_sem, F2, j0, j0.symm, h17]
       refine callQ_pureC ((containsFunc_ints xs 179 [.adr [dI k]] (fun l => decide (l[k]?.getD 0 ≠ 0)) (by simp [go_sem]) (by simp [go_sem]) (fun l hl => weight_effects1 l k (by have := hlen l hl; omega)))) (by simp [rsvC, rsvP, cellsAt, go_sem, ← List.map_take, ← List.map_drop, F2, j0, j0.symm, h17]) ((by first | rfl | (simp [go_sem, ← List.map_take, ← List.map_drop, F2, j0, j0.symm, h17]; done))) ( rfl) ?_
       try simp [go_sem, F2, j0, j0.symm, h17]
       refine condQ_mk (fun h19 => ?_) (fun h19 => ?_)
       ·try simp [go_sem] at h19
        try simp [go_sem, F2, j0, j0.symm, h17, h19]
        repeat (first | intro _ | (refine ⟨obl, ?_⟩))
        refine nextQ_mk (k + 1) (by omega) ((hI2 _ _ _).2 ⟨(j), (ys ++ (if (xs.any fun l => decide (l[k]?.getD 0 ≠ 0)) = true then [(k : Int)] else [])), ?_, ?_, ?_, ?_, ?_, ?_, ?_, ?_, ?_, ?_, (by first | assumption | omega | (simp [go_sem, F2, j0, j0.symm, h17, h19, h2, h4, h8]; done) | (simp_all <;> omega)), (by (rw [List.length_append]; split <;> simp <;> omega)), (by (rw [range_filter_succ, ← hy])), (by first | assumption | omega | (simp [go_sem, F2, j0, j0.symm, h17, h19, h2, h4, h8]; done) | (simp_all <;> omega))⟩) <;> first | omega | (simp [go_sem, F2, j0, j0.symm, h17, h19] <;> omega)
       ·try simp [go_sem] at h19
        try simp [go_sem, F2, j0, j0.symm, h17, h19]
        repeat (first | intro _ | (refine ⟨obl, ?_⟩))
        refine nextQ_mk (k + 1) (by omega) ((hI2 _ _ _).2 ⟨(j), (ys ++ (if (xs.any fun l => decide (l[k]?.getD 0 ≠ 0)) = true then [(k : Int)] else [])), ?_, ?_, ?_, ?_, ?_, ?_, ?_, ?_, ?_, ?_, (by first | assumption | omega | (simp [go_sem, F2, j0, j0.symm, h17, h19, h2, h4, h8]; done) | (simp_all <;> omega)), (by (rw [List.length_append]; split <;> simp <;> omega)), (by (rw [range_filter_succ, ← hy])), (by first | assumption | omega | (simp [go_sem, F2, j0, j0.symm, h17, h19, h2, h4, h8]; done) | (simp_all <;> omega))⟩) <;> first | omega | (simp [go_sem, F2, j0, j0.symm, h17, h19] <;> omega)
      ·try simp [go_sem] at h17
       have hY : ys = touchL (t.nodes.length + t.edges.length) (rs.map (effV t)) := by rw [hy, hX, show k = t.nodes.length + t.edges.length by omega]; rfl
       have hY' : touchL (t.nodes.length + t.edges.length) xs = ys := by rw [hY, hX]
       try simp [go_sem, F2, j0, j0.symm]
       repeat (first | intro _ | (refine ⟨obl, ?_⟩))
       refine condQ_mk (fun h22 => ?_) (fun h22 => ?_)
       ·try simp [go_sem] at h22
        try simp [go_sem, F2, j0, j0.symm]
        exact hQ _ _ (by first | (left; (simp [go_sem, effsE, effsV, effsT, h2, hL0, ← hY]; omega); done) | (right; (simp [go_sem, effsE, effsV, effsT, h2, hL0, ← hY]; omega); done))
       ·try simp [go_sem] at h22
        try simp [go_sem, F2, j0, j0.symm]
        exact hQ _ _ (.inl (by simp [go_sem, F2, j0, j0.symm, effsE, effsV, effsT, h2, hL0, ← hX, hY', show (6 < rs.length) = False from eq_false (by omega), show (6 < ys.length) = False from eq_false (by omega)]))
end Go.Abs
end
section
set_option maxRecDepth 8000
open Go Go.Proofs
namespace Go.Abs
theorem ref39_touched (n : Nat) (hn : n ≤ 100000) (ls : List (List Int)) (hl : ∀ l ∈ ls, l.length = n) : Pure Tryz.prog 54 [dI n, .list (ls.map cL)] (dLI (touchL n ls)) := by
  refine Tz.pK ⟨fun t => t == 5, fun _ => []⟩ Tryz.func54 rfl (fun Q hQ => ?_)
  try simp [go_sem]
  obtain ⟨I0, hI0⟩ := mkI fun k e H => (∃ ys : List Int, (e 0 = dI n) ∧ (e 1 = .list (ls.map cL)) ∧ (e 5 = .own 0 ys.length) ∧ (e 6 = dI k) ∧ (H.get 0 = some ⟨3, 1, ys.map cI, false⟩) ∧ (0 < H.next) ∧ (k ≤ n) ∧ (ys.length ≤ k) ∧ (ys = ((List.range k).filter fun (k : Nat) => ls.any fun l => decide (l[k]?.getD 0 ≠ 0)).map (fun (b : Nat) => (b : Int))))
  refine loopK I0 (fun k => n - k) (0) ((hI0 _ _ _).2 ⟨([]), ?_, ?_, ?_, ?_, ?_, ?_, (by first | assumption | omega | (simp [go_sem]; done) | (simp_all; done)), (by simp), (by rfl)⟩) ?_
  iterate 6 (first | omega | (simp [go_sem] <;> omega))
  intro k e H hi0
  obtain ⟨ys, q0_0, q1_0, q5_0, q6_0, g0_0, n0_0, hk, hyl, hy⟩ := (hI0 _ _ _).1 hi0
  have x0 := frs n0_0
  have F0 := And.intro q0_0 (And.intro q1_0 (And.intro q5_0 (And.intro q6_0 (And.intro g0_0 x0))))
  try simp [go_sem, F0]
  refine condQ_mk (fun h3 => ?_) (fun h3 => ?_)
  · try simp [go_sem] at h3
    try simp [go_sem, F0, h3]
    obtain ⟨I2, hI2⟩ := mkI fun i e H => ((e 0 = dI n) ∧ (e 1 = .list (ls.map cL)) ∧ (e 5 = .own 0 ys.length) ∧ (e 6 = dI k) ∧ (e 7 = .bool ((ls.take i).any fun l => decide (l[k]?.getD 0 ≠ 0))) ∧ (e 8 = dI i) ∧ (H.get 0 = some ⟨3, 1, ys.map cI, false⟩) ∧ (0 < H.next) ∧ (i ≤ ls.length))
    refine loopK I2 (fun i => ls.length - i) (0) ((hI2 _ _ _).2 ⟨?_, ?_, ?_, ?_, ?_, ?_, ?_, ?_, (by first | assumption | omega | (simp [go_sem, F0, h3]; done) | (simp_all; done))⟩) ?_
    iterate 8 (first | omega | (simp [go_sem, F0, h3] <;> omega))
    intro i e H hi2
    obtain ⟨q0_2, q1_2, q5_2, q6_2, q7_2, q8_2, g0_2, n0_2, hi⟩ := (hI2 _ _ _).1 hi2
    have x0 := frs n0_2
    have F2 := And.intro q0_2 (And.intro q1_2 (And.intro q5_2 (And.intro q6_2 (And.intro q8_2 (And.intro g0_2 x0)))))
    try simp [go_sem, h3, F2, q7_2]
    repeat (first | intro _ | (refine ⟨obl, ?_⟩))
    refine condQ_mk (fun h7 => ?_) (fun h7 => ?_)
    ·try simp [go_sem] at h7
     have hlk : k < (ls[i]'(by omega)).length := by rw [hl _ (lgm h7)]; omega
     have hts := any_take_succ ls (fun l => decide (l[k]?.getD 0 ≠ 0)) i h7
     simp only [ne_eq, decide_not, lge hlk, Option.getD_some] at hts
     have hts2 : (ls[i][k] != 0) = !decide (ls[i][k] = 0) := rfl
     try simp [go_sem, h3, F2, q7_2, h7, lge hlk, hts, hts2, -List.any_eq_true]
     repeat (first | intro _ | (refine ⟨obl, ?_⟩))
     refine nextQ_mk (i + 1) (by omega) ((hI2 _ _ _).2 ⟨?_, ?_, ?_, ?_, ?_, ?_, ?_, ?_, (by first | assumption | omega | (simp [go_sem, h3, F2, q7_2, h7, lge hlk, hts, hts2, -List.any_eq_true]; done) | (simp_all <;> omega))⟩) <;> first | omega | (simp [go_sem, h3, F2, q7_2, h7, lge hlk, hts, hts2, -List.any_eq_true] <;> omega)
    ·try simp [go_sem] at h7
     have hU : ls.take i = ls := List.take_of_length_le h7
     rw [hU] at q7_2
     try simp [go_sem, h3, F2, q7_2]
     refine condQ_mk (fun h10 => ?_) (fun h10 => ?_)
     ·try simp [go_sem] at h10
      try simp [go_sem, h3, F2, q7_2, h10]
      repeat (first | intro _ | (refine ⟨obl, ?_⟩))
      refine nextQ_mk (k + 1) (by omega) ((hI0 _ _ _).2 ⟨(ys ++ (if (ls.any fun l => decide (l[k]?.getD 0 ≠ 0)) = true then [(k : Int)] else [])), ?_, ?_, ?_, ?_, ?_, ?_, (by first | assumption | omega | (simp [go_sem, h3, F2, q7_2, h10, h7]; done) | (simp_all <;> omega)), (by (rw [List.length_append]; split <;> simp <;> omega)), (by (rw [range_filter_succ, ← hy]))⟩) <;> first | omega | (simp [go_sem, h3, F2, q7_2, h10] <;> omega)
     ·try simp [go_sem] at h10
      try simp [go_sem, h3, F2, q7_2, h10]
      repeat (first | intro _ | (refine ⟨obl, ?_⟩))
      refine nextQ_mk (k + 1) (by omega) ((hI0 _ _ _).2 ⟨(ys ++ (if (ls.any fun l => decide (l[k]?.getD 0 ≠ 0)) = true then [(k : Int)] else [])), ?_, ?_, ?_, ?_, ?_, ?_, (by first | assumption | omega | (simp [go_sem, h3, F2, q7_2, h10, h7]; done) | (simp_all <;> omega)), (by (rw [List.length_append]; split <;> simp <;> omega)), (by (rw [range_filter_succ, ← hy]))⟩) <;> first | omega | (simp [go_sem, h3, F2, q7_2, h10] <;> omega)
  · try simp [go_sem] at h3
    try simp [go_sem, F0]
    exact hQ _ _ (.inl (by simp [go_sem, F0, touchL]; rw [hy, show k = n by omega]; simp))
theorem ref39_Effects (t : Types) (ht : t.ok) (rs : List Rule) (hr : ∀ r ∈ rs, r.ok) : Pure Tryz.prog 34 [t.d, .list (rs.map Rule.c)] (.tup [.list ((effsV t rs).map cL), dI (effsE t rs)]) := by
  refine Tz.pK ⟨fun t => t == 8, fun _ => []⟩ Tryz.func34 rfl (fun Q hQ => ?_)
  try simp [go_sem]
  refine cq0 (ref04_Valid t ht) ?_
  try simp [go_sem]
  refine condQ_mk (fun h2 => ?_) (fun h2 => ?_)
  · try simp [go_sem] at h2
    try simp [go_sem]
    exact hQ _ _ (by first | (left; (simp [go_sem, effsE, effsV, h2]); done) | (right; (simp [go_sem, effsE, effsV, h2]); done))
  · try simp [go_sem] at h2
    try simp [go_sem]
    repeat (first | intro _ | (refine ⟨obl, ?_⟩))
    refine condQ_mk (fun h4 => ?_) (fun h4 => ?_)
    ·try simp [go_sem] at h4
     try simp [go_sem]
     exact hQ _ _ (by first | (left; (simp [go_sem, effsE, effsV, h2]; omega); done) | (right; (simp [go_sem, effsE, effsV, h2]; omega); done))
    ·try simp [go_sem] at h4
     have hv := valid_of h2
     have hN := hv.fewN
     have hE := hv.fewE
     try simp [go_sem]
     obtain ⟨I0, hI0⟩ := mkI fun i e H => (∃ xs : List (List Int), (e 2 = .adr t.c) ∧ (e 1 = .list (rs.map Rule.c)) ∧ (e 8 = .own 0 xs.length) ∧ (e 9 = dI i) ∧ (H.get 0 = some ⟨31, 1, xs.map cL, false⟩) ∧ (0 < H.next) ∧ (i ≤ rs.length) ∧ (xs = (rs.take i).map (effV t)) ∧ (∀ r ∈ rs.take i, effE t r = 0) ∧ (listE (effE t) (rs.drop i) = listE (effE t) rs))
     refine loopK I0 (fun i => rs.length - i) (0) ((hI0 _ _ _).2 ⟨([]), ?_, ?_, ?_, ?_, ?_, ?_, (by first | assumption | omega | (simp [go_sem]; done) | (simp_all; done)), (by rfl), (by (intro r hr'; simp at hr')), (by rfl)⟩) ?_
     iterate 6 (first | omega | (simp [go_sem] <;> omega))
     intro i e H hi0
     obtain ⟨xs, q2_0, q1_0, q8_0, q9_0, g0_0, n0_0, hi, hx, hz, hL⟩ := (hI0 _ _ _).1 hi0
     have x0 := frs n0_0
     have F0 := And.intro q2_0 (And.intro q1_0 (And.intro q8_0 (And.intro q9_0 (And.intro g0_0 x0))))
     try simp [go_sem, F0]
     repeat (first | intro _ | (refine ⟨obl, ?_⟩))
     refine condQ_mk (fun h8 => ?_) (fun h8 => ?_)
     ·try simp [go_sem] at h8
      have hst := hL
      rw [listE_step _ h8] at hst
      have hxl : xs.length = i := by rw [hx]; simp; omega
      try simp [go_sem, F0, h8]
      repeat (first | intro _ | (refine ⟨obl, ?_⟩))
      refine dcq0 (ref39_Effect t ht rs[i] (hr _ (lgm h8))) ?_
      try simp [go_sem, F0, h8]
      repeat (first | intro _ | (refine ⟨obl, ?_⟩))
      refine condQ_mk (fun h11 => ?_) (fun h11 => ?_)
      ·try simp [go_sem] at h11
       rw [if_pos (by omega)] at hst
       try simp [go_sem, F0, h8]
       exact hQ _ _ (by first | (left; (simp [go_sem, effsE, effsV, h2, ← hst, h11, show ¬ 6 < rs.length by omega]); done) | (right; (simp [go_sem, effsE, effsV, h2, ← hst, h11, show ¬ 6 < rs.length by omega]); done))
      ·try simp [go_sem] at h11
       rw [if_neg (by omega)] at hst
       have hz' : ∀ r ∈ rs.take (i + 1), effE t r = 0 := fun r hr' => by
        rw [List.take_succ_eq_append_getElem h8, List.mem_append] at hr'
        rcases hr' with h | h
        ·exact hz r h
        ·simp at h; subst h; omega
       try simp [go_sem, F0, h8]
       repeat (first | intro _ | (refine ⟨obl, ?_⟩))
       refine nextQ_mk (i + 1) (by omega) ((hI0 _ _ _).2 ⟨(xs ++ [effV t rs[i]]), ?_, ?_, ?_, ?_, ?_, ?_, (by first | assumption | omega | (simp [go_sem, F0, h8, h2, h4, h11]; done) | (simp_all <;> omega)), (by (rw [map_take_succ _ h8, ← hx])), (by (exact hz')), (by exact hst)⟩) <;> first | omega | (simp [go_sem, F0, h8] <;> omega)
     ·try simp [go_sem] at h8
      have hX : xs = rs.map (effV t) := by rw [hx, map_take_end _ (by omega)]
      have hL0 : listE (effE t) rs = 0 := by rw [← hL, listE_end _ (by omega)]
      rw [List.take_of_length_le (by omega)] at hz
      have hlen : ∀ l ∈ xs, l.length = t.nodes.length + t.edges.length := fun l hl => by
       rw [hX, List.mem_map] at hl
       obtain ⟨r, h1, rfl⟩ := hl
       exact effV_len (hz r h1)
      try simp [go_sem, F0]
      repeat (first | intro _ | (refine ⟨obl, ?_⟩))
      refine callQ_pureZ (ref39_touched (t.nodes.length + t.edges.length) (by omega) xs hlen) (by (simp [go_sem, F0]) <;> rfl) ((by first | rfl | (simp [go_sem, ← List.map_take, ← List.map_drop, F0]; done))) (by (simp [go_sem, F0]) <;> rfl) ?_
      try simp [go_sem, F0]
      repeat (first | intro _ | (refine ⟨obl, ?_⟩))
      refine condQ_mk (fun h14 => ?_) (fun h14 => ?_)
      ·try simp [go_sem] at h14
       try simp [go_sem, F0]
       exact hQ _ _ (by first | (left; (simp [go_sem, effsE, effsV, h2, hL0, ← hX]; omega); done) | (right; (simp [go_sem, effsE, effsV, h2, hL0, ← hX]; omega); done))
      ·try simp [go_sem] at h14
       try simp [go_sem, F0]
       exact hQ _ _ (.inl (by simp [go_sem, F0, effsE, effsV, h2, hL0, ← hX, show (6 < rs.length) = False from eq_false (by omega), show (6 < (touchL (t.nodes.length + t.edges.length) xs).length) = False from eq_false (by omega)]))
end Go.Abs
end
