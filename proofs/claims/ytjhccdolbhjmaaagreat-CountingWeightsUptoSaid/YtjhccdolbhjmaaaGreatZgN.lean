/- Layer 18: graphs that fit their types. · Layer 39: the weigh -/
import Derived.Test.YtjhccdolbhjmaaaGreatZgE
import Derived.Test.YtjhccdolbhjmaaaGreatZgM
set_option linter.unusedVariables false
set_option linter.unusedSimpArgs false
section
set_option maxRecDepth 8000
open Go Go.Proofs
namespace Go.Abs
def edge18 (t : Types) (g : Graph) (x : Edge) : Int := if (t.edges.length : Int) ≤ x.type then 6 else if fitsT t x.type (gN g x.from_) (gN g x.to_) = true then 0 else 13
def typed18 (t : Types) (g : Graph) : Int :=
  if (validF t).2 ≠ 0 then (validF t).2
  else if graphF g ≠ 0 then graphF g
  else if (g.nodes.any fun a => decide ((t.nodes.length : Int) ≤ a)) = true then 6
  else listE (edge18 t g) g.edges
theorem typed18_of {t : Types} {g : Graph} (h : typed18 t g = 0) : (validF t).2 = 0 ∧ graphF g = 0 ∧ (∀ a ∈ g.nodes, 0 ≤ a ∧ a < t.nodes.length) ∧ ∀ x ∈ g.edges, edge18 t g x = 0 := by
  unfold typed18 at h
  split at h
  · rename_i h1; exact absurd h h1
  · split at h
    · rename_i h1; exact absurd h h1
    · split at h
      · cases h
      · rename_i h1 h2 h3
        have hg := graphF_in (show graphF g = 0 by omega)
        refine ⟨by omega, by omega, fun a ha => ⟨(hg.1 a ha).1, ?_⟩, ?_⟩
        · simp at h3; exact h3 a ha
        · have : ∀ l : List Edge, listE (edge18 t g) l = 0 → ∀ x ∈ l, edge18 t g x = 0 := by
            intro l
            induction l with
            | nil => intro _ x hx; cases hx
            | cons a l ih =>
              intro h x hx
              simp only [listE] at h
              split at h
              · rename_i h4; exact absurd h h4
              · rename_i h4
                rcases List.mem_cons.1 hx with rfl | hx
                · omega
                · exact ih h x hx
          exact this _ h
theorem statistic_typed (t : Types) (ht : t.ok) (g : Graph) : Pure Tryz.prog 76 [t.d, g.d] (dI (typed18 t g)) := by
  refine Tz.pK ⟨fun t => t == 11, fun _ => []⟩ Tryz.func76 rfl (fun Q hQ => ?_)
  try simp [go_sem]
  refine cq0 (types_Valid t ht) ?_
  try simp [go_sem]
  refine condQ_mk (fun h2 => ?_) (fun h2 => ?_)
  · try simp [go_sem] at h2
    try simp [go_sem]
    exact hQ _ _ (.inl (by simp [go_sem, typed18, h2]))
  · try simp [go_sem] at h2
    try simp [go_sem]
    refine cq0 (graph_Valid g) ?_
    try simp [go_sem]
    refine condQ_mk (fun h5 => ?_) (fun h5 => ?_)
    · try simp [go_sem] at h5
      try simp [go_sem]
      exact hQ _ _ (.inl (by simp [go_sem, typed18, h2, h5]))
    · try simp [go_sem] at h5
      have hg := graphF_in h5
      have hle := graphF_le h5
      try simp [go_sem]
      repeat (first | intro _ | (refine ⟨obl, ?_⟩))
      obtain ⟨I0, hI0⟩ := mkI fun i e H => ((e 2 = .adr t.c) ∧ (e 3 = .adr g.c) ∧ (e 26 = dLI g.nodes) ∧ (e 27 = dI g.nodes.length) ∧ (e 28 = dI i) ∧ (i ≤ g.nodes.length) ∧ (((g.nodes.take i).any fun a => decide ((t.nodes.length : Int) ≤ a)) = false))
      refine loopK I0 (fun i => g.nodes.length - i) (0) ((hI0 _ _ _).2 ⟨?_, ?_, ?_, ?_, ?_, (by first | assumption | omega | (simp [go_sem]; done) | (simp_all; done)), (by rfl)⟩) ?_
      iterate 5 (first | omega | (simp [go_sem] <;> omega))
      intro i e H hi0
      obtain ⟨q2_0, q3_0, q26_0, q27_0, q28_0, hi, ha⟩ := (hI0 _ _ _).1 hi0
      have F0 := And.intro q2_0 (And.intro q3_0 (And.intro q26_0 (And.intro q27_0 q28_0)))
      try simp [go_sem, F0]
      refine condQ_mk (fun h8 => ?_) (fun h8 => ?_)
      · try simp [go_sem] at h8
        try simp [go_sem, F0, h8]
        repeat (first | intro _ | (refine ⟨obl, ?_⟩))
        refine condQ_mk (fun h10 => ?_) (fun h10 => ?_)
        · try simp [go_sem] at h10
          try simp [go_sem, F0, h8]
          have hb : (g.nodes.any fun a => decide ((t.nodes.length : Int) ≤ a)) = true := List.any_eq_true.2 ⟨_, lgm h8, by simp; omega⟩
          have hT : typed18 t g = 6 := by unfold typed18; rw [if_neg (by omega), if_neg (by omega), if_pos hb]
          exact hQ _ _ (.inl (by simp [go_sem, hT]))
        · try simp [go_sem] at h10
          try simp [go_sem, F0, h8]
          repeat (first | intro _ | (refine ⟨obl, ?_⟩))
          refine nextQ_mk (i + 1) (by omega) ((hI0 _ _ _).2 ⟨?_, ?_, ?_, ?_, ?_, (by first | assumption | omega | (simp [go_sem, F0, h8, h2, h5, h10]; done) | (simp_all <;> omega)), (by (rw [any_take_succ _ _ _ h8, ha]; simp; omega))⟩) <;> first | omega | (simp [go_sem, F0, h8] <;> omega)
      · try simp [go_sem] at h8
        have hN := any_end ha h8
        have hT : typed18 t g = listE (edge18 t g) g.edges := by unfold typed18; rw [if_neg (by omega), if_neg (by omega), if_neg (by rw [hN]; simp)]
        try simp [go_sem, F0]
        repeat (first | intro _ | (refine ⟨obl, ?_⟩))
        obtain ⟨I2, hI2⟩ := mkI fun k e H => ((e 2 = .adr t.c) ∧ (e 3 = .adr g.c) ∧ (e 39 = .list (g.edges.map Edge.c)) ∧ (e 40 = dI g.edges.length) ∧ (e 41 = dI k) ∧ (k ≤ g.edges.length) ∧ (listE (edge18 t g) (g.edges.drop k) = typed18 t g))
        refine loopK I2 (fun k => g.edges.length - k) (0) ((hI2 _ _ _).2 ⟨?_, ?_, ?_, ?_, ?_, (by first | assumption | omega | (simp [go_sem, F0]; done) | (simp_all; done)), (by (exact hT.symm))⟩) ?_
        iterate 5 (first | omega | (simp [go_sem, F0] <;> omega))
        intro k e H hi2
        obtain ⟨q2_2, q3_2, q39_2, q40_2, q41_2, hk, hL⟩ := (hI2 _ _ _).1 hi2
        have F2 := And.intro q2_2 (And.intro q3_2 (And.intro q39_2 (And.intro q40_2 q41_2)))
        try simp [go_sem, F2]
        refine condQ_mk (fun h14 => ?_) (fun h14 => ?_)
        · try simp [go_sem] at h14
          have hst := hL
          rw [listE_step _ h14] at hst
          have he := hg.2 _ (lgm h14)
          have hf : g.edges[k].from_.toNat < g.nodes.length := by omega
          have hto : g.edges[k].to_.toNat < g.nodes.length := by omega
          have hgf : gN g g.edges[k].from_ = g.nodes[g.edges[k].from_.toNat] := by simp [gN, lge hf]
          have hgt : gN g g.edges[k].to_ = g.nodes[g.edges[k].to_.toNat] := by simp [gN, lge hto]
          try simp [go_sem, F2, h14, lge hf, lge hto]
          repeat (first | intro _ | (refine ⟨obl, ?_⟩))
          refine condQ_mk (fun h16 => ?_) (fun h16 => ?_)
          · try simp [go_sem] at h16
            have hE : edge18 t g g.edges[k] = 6 := if_pos (by omega)
            rw [hE, if_pos (by omega)] at hst
            try simp [go_sem, F2, h14, lge hf, lge hto]
            exact hQ _ _ (.inl (by simp [go_sem, ← hst]))
          · try simp [go_sem] at h16
            try simp [go_sem, F2, h14, lge hf, lge hto]
            repeat (first | intro _ | (refine ⟨obl, ?_⟩))
            refine dcq0 (types_Fits t ht _ _ _) ?_
            try simp [go_sem, F2, h14, lge hf, lge hto]
            repeat (first | intro _ | (refine ⟨obl, ?_⟩))
            refine condQ_mk (fun h18 => ?_) (fun h18 => ?_)
            · try simp [go_sem] at h18
              have hE : edge18 t g g.edges[k] = 13 := by unfold edge18; rw [if_neg (by omega), if_neg (by rw [hgf, hgt, h18]; simp)]
              rw [hE, if_pos (by omega)] at hst
              try simp [go_sem, F2, h14, lge hf, lge hto]
              exact hQ _ _ (.inl (by simp [go_sem, ← hst]))
            · try simp [go_sem] at h18
              have hE : edge18 t g g.edges[k] = 0 := by unfold edge18; rw [if_neg (by omega), if_pos (by rw [hgf, hgt, h18])]
              rw [hE, if_neg (by omega)] at hst
              try simp [go_sem, F2, h14, lge hf, lge hto]
              repeat (first | intro _ | (refine ⟨obl, ?_⟩))
              refine nextQ_mk (k + 1) (by omega) ((hI2 _ _ _).2 ⟨?_, ?_, ?_, ?_, ?_, (by first | assumption | omega | (simp [go_sem, F2, h14, lge hf, lge hto, h2, h5, h8, h16, h18]; done) | (simp_all <;> omega)), (by exact hst)⟩) <;> first | omega | (simp [go_sem, F2, h14, lge hf, lge hto] <;> omega)
        · try simp [go_sem] at h14
          try simp [go_sem, F2]
          have hT0 : typed18 t g = 0 := by rw [← hL, listE_end _ (by omega)]
          exact hQ _ _ (.inl (by simp [go_sem, hT0]))
theorem weight_typed (t : Types) (ht : t.ok) (g : Graph) : Pure Tryz.prog 78 [t.d, g.d] (dI (typed18 t g)) := by
  refine Tz.pK ⟨fun t => t == 11, fun _ => []⟩ Tryz.func78 rfl (fun Q hQ => ?_)
  try simp [go_sem]
  refine cq0 (types_Valid t ht) ?_
  try simp [go_sem]
  refine condQ_mk (fun h2 => ?_) (fun h2 => ?_)
  · try simp [go_sem] at h2
    try simp [go_sem]
    exact hQ _ _ (.inl (by simp [go_sem, typed18, h2]))
  · try simp [go_sem] at h2
    try simp [go_sem]
    refine cq0 (graph_Valid g) ?_
    try simp [go_sem]
    refine condQ_mk (fun h5 => ?_) (fun h5 => ?_)
    · try simp [go_sem] at h5
      try simp [go_sem]
      exact hQ _ _ (.inl (by simp [go_sem, typed18, h2, h5]))
    · try simp [go_sem] at h5
      have hg := graphF_in h5
      have hle := graphF_le h5
      try simp [go_sem]
      repeat (first | intro _ | (refine ⟨obl, ?_⟩))
      obtain ⟨I0, hI0⟩ := mkI fun i e H => ((e 2 = .adr t.c) ∧ (e 3 = .adr g.c) ∧ (e 26 = dLI g.nodes) ∧ (e 27 = dI g.nodes.length) ∧ (e 28 = dI i) ∧ (i ≤ g.nodes.length) ∧ (((g.nodes.take i).any fun a => decide ((t.nodes.length : Int) ≤ a)) = false))
      refine loopK I0 (fun i => g.nodes.length - i) (0) ((hI0 _ _ _).2 ⟨?_, ?_, ?_, ?_, ?_, (by first | assumption | omega | (simp [go_sem]; done) | (simp_all; done)), (by rfl)⟩) ?_
      iterate 5 (first | omega | (simp [go_sem] <;> omega))
      intro i e H hi0
      obtain ⟨q2_0, q3_0, q26_0, q27_0, q28_0, hi, ha⟩ := (hI0 _ _ _).1 hi0
      have F0 := And.intro q2_0 (And.intro q3_0 (And.intro q26_0 (And.intro q27_0 q28_0)))
      try simp [go_sem, F0]
      refine condQ_mk (fun h8 => ?_) (fun h8 => ?_)
      · try simp [go_sem] at h8
        try simp [go_sem, F0, h8]
        repeat (first | intro _ | (refine ⟨obl, ?_⟩))
        refine condQ_mk (fun h10 => ?_) (fun h10 => ?_)
        · try simp [go_sem] at h10
          try simp [go_sem, F0, h8]
          have hb : (g.nodes.any fun a => decide ((t.nodes.length : Int) ≤ a)) = true := List.any_eq_true.2 ⟨_, lgm h8, by simp; omega⟩
          have hT : typed18 t g = 6 := by unfold typed18; rw [if_neg (by omega), if_neg (by omega), if_pos hb]
          exact hQ _ _ (.inl (by simp [go_sem, hT]))
        · try simp [go_sem] at h10
          try simp [go_sem, F0, h8]
          repeat (first | intro _ | (refine ⟨obl, ?_⟩))
          refine nextQ_mk (i + 1) (by omega) ((hI0 _ _ _).2 ⟨?_, ?_, ?_, ?_, ?_, (by first | assumption | omega | (simp [go_sem, F0, h8, h2, h5, h10]; done) | (simp_all <;> omega)), (by (rw [any_take_succ _ _ _ h8, ha]; simp; omega))⟩) <;> first | omega | (simp [go_sem, F0, h8] <;> omega)
      · try simp [go_sem] at h8
        have hN := any_end ha h8
        have hT : typed18 t g = listE (edge18 t g) g.edges := by unfold typed18; rw [if_neg (by omega), if_neg (by omega), if_neg (by rw [hN]; simp)]
        try simp [go_sem, F0]
        repeat (first | intro _ | (refine ⟨obl, ?_⟩))
        obtain ⟨I2, hI2⟩ := mkI fun k e H => ((e 2 = .adr t.c) ∧ (e 3 = .adr g.c) ∧ (e 39 = .list (g.edges.map Edge.c)) ∧ (e 40 = dI g.edges.length) ∧ (e 41 = dI k) ∧ (k ≤ g.edges.length) ∧ (listE (edge18 t g) (g.edges.drop k) = typed18 t g))
        refine loopK I2 (fun k => g.edges.length - k) (0) ((hI2 _ _ _).2 ⟨?_, ?_, ?_, ?_, ?_, (by first | assumption | omega | (simp [go_sem, F0]; done) | (simp_all; done)), (by (exact hT.symm))⟩) ?_
        iterate 5 (first | omega | (simp [go_sem, F0] <;> omega))
        intro k e H hi2
        obtain ⟨q2_2, q3_2, q39_2, q40_2, q41_2, hk, hL⟩ := (hI2 _ _ _).1 hi2
        have F2 := And.intro q2_2 (And.intro q3_2 (And.intro q39_2 (And.intro q40_2 q41_2)))
        try simp [go_sem, F2]
        refine condQ_mk (fun h14 => ?_) (fun h14 => ?_)
        · try simp [go_sem] at h14
          have hst := hL
          rw [listE_step _ h14] at hst
          have he := hg.2 _ (lgm h14)
          have hf : g.edges[k].from_.toNat < g.nodes.length := by omega
          have hto : g.edges[k].to_.toNat < g.nodes.length := by omega
          have hgf : gN g g.edges[k].from_ = g.nodes[g.edges[k].from_.toNat] := by simp [gN, lge hf]
          have hgt : gN g g.edges[k].to_ = g.nodes[g.edges[k].to_.toNat] := by simp [gN, lge hto]
          try simp [go_sem, F2, h14, lge hf, lge hto]
          repeat (first | intro _ | (refine ⟨obl, ?_⟩))
          refine condQ_mk (fun h16 => ?_) (fun h16 => ?_)
          · try simp [go_sem] at h16
            have hE : edge18 t g g.edges[k] = 6 := if_pos (by omega)
            rw [hE, if_pos (by omega)] at hst
            try simp [go_sem, F2, h14, lge hf, lge hto]
            exact hQ _ _ (.inl (by simp [go_sem, ← hst]))
          · try simp [go_sem] at h16
            try simp [go_sem, F2, h14, lge hf, lge hto]
            repeat (first | intro _ | (refine ⟨obl, ?_⟩))
            refine dcq0 (types_Fits t ht _ _ _) ?_
            try simp [go_sem, F2, h14, lge hf, lge hto]
            repeat (first | intro _ | (refine ⟨obl, ?_⟩))
            refine condQ_mk (fun h18 => ?_) (fun h18 => ?_)
            · try simp [go_sem] at h18
              have hE : edge18 t g g.edges[k] = 13 := by unfold edge18; rw [if_neg (by omega), if_neg (by rw [hgf, hgt, h18]; simp)]
              rw [hE, if_pos (by omega)] at hst
              try simp [go_sem, F2, h14, lge hf, lge hto]
              exact hQ _ _ (.inl (by simp [go_sem, ← hst]))
            · try simp [go_sem] at h18
              have hE : edge18 t g g.edges[k] = 0 := by unfold edge18; rw [if_neg (by omega), if_pos (by rw [hgf, hgt, h18])]
              rw [hE, if_neg (by omega)] at hst
              try simp [go_sem, F2, h14, lge hf, lge hto]
              repeat (first | intro _ | (refine ⟨obl, ?_⟩))
              refine nextQ_mk (k + 1) (by omega) ((hI2 _ _ _).2 ⟨?_, ?_, ?_, ?_, ?_, (by first | assumption | omega | (simp [go_sem, F2, h14, lge hf, lge hto, h2, h5, h8, h16, h18]; done) | (simp_all <;> omega)), (by exact hst)⟩) <;> first | omega | (simp [go_sem, F2, h14, lge hf, lge hto] <;> omega)
        · try simp [go_sem] at h14
          try simp [go_sem, F2]
          have hT0 : typed18 t g = 0 := by rw [← hL, listE_end _ (by omega)]
          exact hQ _ _ (.inl (by simp [go_sem, hT0]))
end Go.Abs
end
section
set_option maxRecDepth 8000
open Go Go.Proofs
namespace Go.Abs
def oddB (a : Int) : Bool := decide (a < 0) || decide (1000 < a)
def natB (l : List Int) (n : Int) : Bool := decide ((l.length : Int) = n) && !l.any oddB
theorem natB_of {l : List Int} {n : Int} (h : natB l n = true) : l.length = n ∧ ∀ a ∈ l, 0 ≤ a ∧ a ≤ 1000 := by
  simp [natB, oddB] at h
  exact ⟨h.1, fun a ha => by have := h.2 a ha; omega⟩
theorem weight_natural1 (a : Int) : Pure Tryz.prog 126 [dI a] (.bool (oddB a)) := by
  refine Tz.pK ⟨fun _ => false, fun _ => []⟩ Tryz.func126 rfl (fun Q hQ => ?_)
  try simp [go_sem]
  repeat (first | intro _ | (refine ⟨obl, ?_⟩))
  exact hQ _ _ (by simp [go_sem, oddB] <;> first | omega | (rw [bei]; simp <;> omega) | (simp_all <;> omega))
theorem weight_natural (l : List Int) (n : Int) : Pure Tryz.prog 79 [dLI l, dI n] (.bool (natB l n)) := by
  refine Tz.pK ⟨fun _ => false, fun _ => []⟩ Tryz.func79 rfl (fun Q hQ => ?_)
  try simp [go_sem]
  repeat (first | intro _ | (refine ⟨obl, ?_⟩))
  refine gcq0 (fun hg => containsFunc_int l 126 [] oddB (by simp [go_sem]) (by simp [go_sem]) (fun a _ => weight_natural1 a)) ?_
  try simp [go_sem]
  repeat (first | intro _ | (refine ⟨obl, ?_⟩))
  exact hQ _ _ (by simp [go_sem, natB] <;> first | omega | (rw [bei]; simp <;> omega) | (simp_all <;> omega))
def wN (ws : List Int) (a : Int) : Int := ws[a.toNat]?.getD 0
def wE (ws : List Int) (n : Nat) (x : Edge) : Int := ws[((n : Int) + x.type).toNat]?.getD 0
def weighF (t : Types) (ws : List Int) (g : Graph) : Int := (g.nodes.map (wN ws)).sum + (g.edges.map (wE ws t.nodes.length)).sum
def weightE (t : Types) (ws : List Int) (g : Graph) : Int :=
  if typed18 t g ≠ 0 then typed18 t g
  else if (ws.length : Int) ≠ t.nodes.length + t.edges.length then 20
  else if natB ws (t.nodes.length + t.edges.length) = false then 6
  else 0
def weightF (t : Types) (ws : List Int) (g : Graph) : Int := if weightE t ws g = 0 then weighF t ws g else 0
theorem sum_take_succ {α : Type} (l : List α) (f : α → Int) {i : Nat} (h : i < l.length) : ((l.take (i + 1)).map f).sum = ((l.take i).map f).sum + f l[i] := by
  rw [List.take_succ_eq_append_getElem h, List.map_append, List.sum_append]; simp
theorem edge18_in {t : Types} {g : Graph} {x : Edge} (h : edge18 t g x = 0) : x.type < t.edges.length := by
  unfold edge18 at h
  split at h
  · cases h
  · omega
theorem weight_Of (t : Types) (ht : t.ok) (ws : List Int) (g : Graph) : Pure Tryz.prog 45 [t.d, dLI ws, g.d] (.tup [dI (weightF t ws g), dI (weightE t ws g)]) := by
  refine Tz.pK ⟨fun t => t == 14, fun _ => []⟩ Tryz.func45 rfl (fun Q hQ => ?_)
  try simp [go_sem]
  refine cq0 (weight_typed t ht g) ?_
  try simp [go_sem]
  refine condQ_mk (fun h2 => ?_) (fun h2 => ?_)
  · try simp [go_sem] at h2
    try simp [go_sem]
    have hw : weightE t ws g = typed18 t g := if_pos h2
    exact hQ _ _ (.inl (by simp [go_sem, weightF, hw, h2]))
  · try simp [go_sem] at h2
    have hT := typed18_of h2
    have hle := graphF_le hT.2.1
    have hv := valid_of hT.1
    have hN := hv.fewN
    have hE := hv.fewE
    try simp [go_sem]
    repeat (first | intro _ | (refine ⟨obl, ?_⟩))
    refine condQ_mk (fun h5 => ?_) (fun h5 => ?_)
    ·try simp [go_sem] at h5
     have hw : weightE t ws g = 20 := by unfold weightE; rw [if_neg (by omega), if_pos (by omega)]
     try simp [go_sem]
     exact hQ _ _ (.inl (by simp [go_sem, weightF, hw]))
    ·try simp [go_sem] at h5
     try simp [go_sem]
     repeat (first | intro _ | (refine ⟨obl, ?_⟩))
     refine cq0 (weight_natural ws _) ?_
     try simp [go_sem]
     repeat (first | intro _ | (refine ⟨obl, ?_⟩))
     refine condQ_mk (fun h7 => ?_) (fun h7 => ?_)
     ·try simp [go_sem] at h7
      have hw : weightE t ws g = 6 := by unfold weightE; rw [if_neg (by omega), if_neg (by omega), if_pos (by simpa [h5] using h7)]
      try simp [go_sem]
      exact hQ _ _ (.inl (by simp [go_sem, weightF, hw]))
     ·try simp [go_sem] at h7
      have hnat : natB ws (t.nodes.length + t.edges.length) = true := by simpa [h5] using h7
      have hno := natB_of hnat
      have hw : weightE t ws g = 0 := by unfold weightE; rw [if_neg (by omega), if_neg (by omega), if_neg (by rw [hnat]; simp)]
      try simp [go_sem]
      repeat (first | intro _ | (refine ⟨obl, ?_⟩))
      obtain ⟨I0, hI0⟩ := mkI fun i e H => (∃ s : Int, (e 3 = .adr t.c) ∧ (e 1 = dLI ws) ∧ (e 5 = .adr g.c) ∧ (e 10 = dI s) ∧ (e 37 = dLI g.nodes) ∧ (e 38 = dI g.nodes.length) ∧ (e 39 = dI i) ∧ (i ≤ g.nodes.length) ∧ (s = ((g.nodes.take i).map (wN ws)).sum) ∧ (0 ≤ s ∧ s ≤ 1000 * i))
      refine loopK I0 (fun i => g.nodes.length - i) (0) ((hI0 _ _ _).2 ⟨(0), ?_, ?_, ?_, ?_, ?_, ?_, ?_, (by first | assumption | omega | (simp [go_sem]; done) | (simp_all; done)), (by rfl), (by simp)⟩) ?_
      iterate 7 (first | omega | (simp [go_sem] <;> omega))
      intro i e H hi0
      obtain ⟨s, q3_0, q1_0, q5_0, q10_0, q37_0, q38_0, q39_0, hi, hs, hb⟩ := (hI0 _ _ _).1 hi0
      have F0 := And.intro q3_0 (And.intro q1_0 (And.intro q5_0 (And.intro q10_0 (And.intro q37_0 (And.intro q38_0 q39_0)))))
      try simp [go_sem, F0]
      refine condQ_mk (fun h11 => ?_) (fun h11 => ?_)
      ·try simp [go_sem] at h11
       have ha := hT.2.2.1 _ (lgm h11)
       have hk : g.nodes[i].toNat < ws.length := by omega
       have hwn : wN ws g.nodes[i] = ws[g.nodes[i].toNat] := by simp [wN, lge hk]
       have hbn := hno.2 _ (lgm hk)
       try simp [go_sem, F0, h11, lge hk, hwn]
       repeat (first | intro _ | (refine ⟨obl, ?_⟩))
       refine nextQ_mk (i + 1) (by omega) ((hI0 _ _ _).2 ⟨(s + wN ws g.nodes[i]), ?_, ?_, ?_, ?_, ?_, ?_, ?_, (by first | assumption | omega | (simp [go_sem, F0, h11, lge hk, hwn, h2, h5, h7]; done) | (simp_all <;> omega)), (by (rw [sum_take_succ _ _ h11, ← hs])), (by omega)⟩) <;> first | omega | (simp [go_sem, F0, h11, lge hk, hwn] <;> omega)
      ·try simp [go_sem] at h11
       rw [List.take_of_length_le (by omega)] at hs
       try simp [go_sem, F0]
       repeat (first | intro _ | (refine ⟨obl, ?_⟩))
       obtain ⟨I2, hI2⟩ := mkI fun k e H => (∃ u : Int, (e 3 = .adr t.c) ∧ (e 1 = dLI ws) ∧ (e 5 = .adr g.c) ∧ (e 10 = dI u) ∧ (e 51 = .list (g.edges.map Edge.c)) ∧ (e 52 = dI g.edges.length) ∧ (e 53 = dI k) ∧ (k ≤ g.edges.length) ∧ (u = (g.nodes.map (wN ws)).sum + ((g.edges.take k).map (wE ws t.nodes.length)).sum) ∧ (0 ≤ u ∧ u ≤ 1000 * (g.nodes.length + k)))
       refine loopK I2 (fun k => g.edges.length - k) (0) ((hI2 _ _ _).2 ⟨(s), ?_, ?_, ?_, ?_, ?_, ?_, ?_, (by first | assumption | omega | (simp [go_sem, F0]; done) | (simp_all; done)), (by (simp [hs])), (by omega)⟩) ?_
       iterate 7 (first | omega | (simp [go_sem, F0] <;> omega))
       intro k e H hi2
       obtain ⟨u, q3_2, q1_2, q5_2, q10_2, q51_2, q52_2, q53_2, hk, hu, hc⟩ := (hI2 _ _ _).1 hi2
       have F2 := And.intro q3_2 (And.intro q1_2 (And.intro q5_2 (And.intro q10_2 (And.intro q51_2 (And.intro q52_2 q53_2)))))
       try simp [go_sem, F2]
       refine condQ_mk (fun h16 => ?_) (fun h16 => ?_)
       ·try simp [go_sem] at h16
        have he := edge18_in (hT.2.2.2 _ (lgm h16))
        have he0 := ((graphF_in hT.2.1).2 _ (lgm h16)).1
        have hk2 : ((t.nodes.length : Int) + g.edges[k].type).toNat < ws.length := by omega
        have hwe : wE ws t.nodes.length g.edges[k] = ws[((t.nodes.length : Int) + g.edges[k].type).toNat] := by simp [wE, lge hk2]
        have hbe := hno.2 _ (lgm hk2)
        try simp [go_sem, F2, h16, lge hk2, hwe]
        repeat (first | intro _ | (refine ⟨obl, ?_⟩))
        refine nextQ_mk (k + 1) (by omega) ((hI2 _ _ _).2 ⟨(u + wE ws t.nodes.length g.edges[k]), ?_, ?_, ?_, ?_, ?_, ?_, ?_, (by first | assumption | omega | (simp [go_sem, F2, h16, lge hk2, hwe, h2, h5, h7, h11]; done) | (simp_all <;> omega)), (by (rw [sum_take_succ _ _ h16, ← Int.add_assoc, ← hu])), (by omega)⟩) <;> first | omega | (simp [go_sem, F2, h16, lge hk2, hwe] <;> omega)
       ·try simp [go_sem] at h16
        rw [List.take_of_length_le (by omega)] at hu
        try simp [go_sem, F2]
        exact hQ _ _ (.inl (by simp [go_sem, weightF, weighF, hw, hu]))
end Go.Abs
end
section
set_option maxRecDepth 8000
open Go Go.Proofs
namespace Go.Abs
def fewG (g : Graph) : Bool := decide ((g.nodes.length : Int) ≤ 45) && decide ((g.edges.length : Int) ≤ 90)
def fewP (p : Pattern) : Bool := fewG p.graph && decide ((p.slots.length : Int) ≤ 15) && decide ((p.tests.length : Int) ≤ 15)
def fewPart (p : Part) (n : Int) : Bool := decide ((p.nodes.length : Int) + p.edges.length ≤ n)
structure Part.le (p : Part) : Prop where
  n : p.nodes.length ≤ 1000000000000000
  e : p.edges.length ≤ 1000000000000000
theorem ref05_Few (g : Graph) : Pure Tryz.prog 167 [g.d] (.bool (fewG g)) := by
  refine Tz.pK ⟨fun _ => false, fun _ => []⟩ Tryz.func167 rfl (fun Q hQ => ?_)
  try simp [go_sem]
  repeat (first | intro _ | (refine ⟨obl, ?_⟩))
  exact hQ _ _ (by simp [go_sem, fewG] <;> first | omega | (rw [bei]; simp <;> omega) | (simp_all <;> omega))
theorem ref21_Few (p : Pattern) : Pure Tryz.prog 103 [p.d] (.bool (fewP p)) := by
  refine Tz.pK ⟨fun _ => false, fun _ => []⟩ Tryz.func103 rfl (fun Q hQ => ?_)
  try simp [go_sem]
  repeat (first | intro _ | (refine ⟨obl, ?_⟩))
  refine cq0 (ref05_Few p.graph) ?_
  try simp [go_sem]
  repeat (first | intro _ | (refine ⟨obl, ?_⟩))
  exact hQ _ _ (by simp [go_sem, fewP] <;> first | omega | (rw [bei]; simp <;> omega) | (simp_all <;> omega))
theorem ref06_Few (p : Part) (hp : p.le) (n : Int) : Pure Tryz.prog 105 [p.d, dI n] (.bool (fewPart p n)) := by
  obtain ⟨h1, h2⟩ := hp
  refine Tz.pK ⟨fun _ => false, fun _ => []⟩ Tryz.func105 rfl (fun Q hQ => ?_)
  try simp [go_sem]
  repeat (first | intro _ | (refine ⟨obl, ?_⟩))
  exact hQ _ _ (by simp [go_sem, fewPart] <;> first | omega | (rw [bei]; simp <;> omega) | (simp_all <;> omega))
theorem ref07_Few (p : Part) (hp : p.le) (n : Int) : Pure Tryz.prog 104 [p.d, dI n] (.bool (fewPart p n)) := by
  obtain ⟨h1, h2⟩ := hp
  refine Tz.pK ⟨fun _ => false, fun _ => []⟩ Tryz.func104 rfl (fun Q hQ => ?_)
  try simp [go_sem]
  repeat (first | intro _ | (refine ⟨obl, ?_⟩))
  exact hQ _ _ (by simp [go_sem, fewPart] <;> first | omega | (rw [bei]; simp <;> omega) | (simp_all <;> omega))
mutual
def leftC : Cond → Int → Int
  | .mk k l m p, b => if (!fewP p || !fewPart m 140) = true then -1 else leftL l (b - 1)
def leftL : List Cond → Int → Int
  | [], b => b
  | c :: l, b => if 0 ≤ b then leftL l (leftC c b) else b
end
theorem leftC_eq (c : Cond) (b : Int) : leftC c b = if (!fewP c.pattern || !fewPart c.map 140) = true then -1 else leftL c.kids (b - 1) := by cases c; rw [leftC]; rfl
mutual
theorem leftC_le : ∀ (c : Cond) (b : Int), 0 ≤ b → -1 ≤ leftC c b ∧ leftC c b ≤ b - 1
  | .mk k l m p, b, h => by
    rw [leftC]; split
    ·omega
    ·exact leftL_le l (b - 1) (by omega)
theorem leftL_le : ∀ (l : List Cond) (b : Int), -1 ≤ b → -1 ≤ leftL l b ∧ leftL l b ≤ b
  | [], b, h => by rw [leftL]; omega
  | c :: l, b, h => by
    rw [leftL]; split
    ·rename_i h0
     have h1 := leftC_le c b h0
     have h2 := leftL_le l (leftC c b) h1.1
     omega
    ·omega
end
mutual
def Cond.le : Cond → Prop
  | .mk k l m p => m.le ∧ Cond.les l
def Cond.les : List Cond → Prop
  | [] => True
  | c :: l => c.le ∧ Cond.les l
end
theorem Cond.les_iff (l : List Cond) : Cond.les l ↔ ∀ c ∈ l, c.le := by
  induction l with
  | nil => simp [Cond.les]
  | cons a l ih => simp [Cond.les, ih]
theorem Cond.le_iff (c : Cond) : c.le ↔ c.map.le ∧ ∀ k ∈ c.kids, k.le := by cases c; simp [Cond.le, Cond.les_iff, Cond.kids, Cond.map]
mutual
theorem leftC_ok : ∀ (c : Cond) (b : Int), 0 ≤ b → 0 ≤ leftC c b → c.ok ∧ (c.size : Int) ≤ b - leftC c b
  | .mk k l m p, b, h, h0 => by
    rw [leftC] at h0 ⊢
    split at h0
    ·omega
    ·rename_i h1
     rw [if_neg h1]
     have h2 := leftL_ok l (b - 1) (by omega) h0
     simp [fewP, fewG, fewPart] at h1
     refine ⟨⟨⟨?_, ?_, ?_, ?_, ?_, ?_⟩, h2.1⟩, ?_⟩ <;> simp only [Cond.map, Cond.pattern, Cond.size] <;> omega
theorem leftL_ok : ∀ (l : List Cond) (b : Int), -1 ≤ b → 0 ≤ leftL l b → Cond.oks l ∧ (Cond.sizes l : Int) ≤ b - leftL l b
  | [], b, h, h0 => by simp [Cond.oks, Cond.sizes, leftL]
  | c :: l, b, h, h0 => by
    rw [leftL] at h0 ⊢
    split at h0
    ·rename_i hb
     rw [if_pos hb]
     have h1 := leftC_le c b hb
     have h2 := leftL_le l (leftC c b) h1.1
     have h3 := leftC_ok c b hb (by omega)
     have h4 := leftL_ok l (leftC c b) h1.1 h0
     refine ⟨⟨h3.1, h4.1⟩, ?_⟩
     simp only [Cond.sizes]; omega
    ·omega
end
theorem leftL_step {l : List Cond} {i : Nat} (h : i < l.length) {b : Int} (hb : 0 ≤ b) : leftL (l.drop i) b = leftL (l.drop (i + 1)) (leftC l[i] b) := by
  rw [List.drop_eq_getElem_cons h, leftL, if_pos hb]
theorem leftL_end {l : List Cond} {i : Nat} {b : Int} (h : ¬ (i < l.length ∧ 0 ≤ b)) : leftL (l.drop i) b = b := by
  by_cases hi : i < l.length
  · rw [List.drop_eq_getElem_cons hi, leftL, if_neg (by omega)]
  · rw [List.drop_eq_nil_of_le (by omega), leftL]
theorem ref22_left : ∀ c : Cond, c.le → ∀ b : Int, 0 ≤ b → b ≤ 1000 → Pure Tryz.prog 168 [.agg c.c, dI b] (dI (leftC c b)) := by
  refine Cond.ind fun c ih hc b0 hb0 hb1 => ?_
  obtain ⟨hs, hk⟩ := (Cond.le_iff c).1 hc
  have hL0 := leftC_eq c b0
  refine Tz.pK ⟨fun _ => false, fun _ => []⟩ Tryz.func168 rfl (fun Q hQ => ?_)
  try simp [go_sem, Cond.c_eq]
  repeat (first | intro _ | (refine ⟨obl, ?_⟩))
  refine cq0 (ref21_Few c.pattern) ?_
  try simp [go_sem, Cond.c_eq]
  repeat (first | intro _ | (refine ⟨obl, ?_⟩))
  refine gcq0 (fun hg => ref06_Few c.map hs 140) ?_
  try simp [go_sem, Cond.c_eq]
  repeat (first | intro _ | (refine ⟨obl, ?_⟩))
  refine condQ_mk (fun h2 => ?_) (fun h2 => ?_)
  · try simp [go_sem] at h2
    rw [if_pos (by simpa using h2)] at hL0
    try simp [go_sem, Cond.c_eq]
    exact hQ _ _ (.inl (by simp [go_sem, hL0]))
  · try simp [go_sem] at h2
    rw [if_neg (by simpa using h2)] at hL0
    try simp [go_sem, Cond.c_eq]
    obtain ⟨I0, hI0⟩ := mkI fun i e H => (∃ b : Int, (e 2 = .adr c.c) ∧ (e 1 = dI b) ∧ (e 5 = dI i) ∧ (i ≤ c.kids.length) ∧ (-1 ≤ b ∧ b < b0) ∧ (leftL (c.kids.drop i) b = leftC c b0))
    refine loopK I0 (fun i => c.kids.length - i) (0) ((hI0 _ _ _).2 ⟨((b0 - 1)), ?_, ?_, ?_, (by first | assumption | omega | (simp [go_sem, Cond.c_eq]; done) | (simp_all; done)), (by omega), (by (exact hL0.symm))⟩) ?_
    iterate 3 (first | omega | (simp [go_sem, Cond.c_eq] <;> omega))
    intro i e H hi0
    obtain ⟨b, q2_0, q1_0, q5_0, hi, hb, hL⟩ := (hI0 _ _ _).1 hi0
    have F0 := And.intro q2_0 (And.intro q1_0 q5_0)
    try simp [go_sem, Cond.c_eq, F0]
    repeat (first | intro _ | (refine ⟨obl, ?_⟩))
    refine condQ_mk (fun h5 => ?_) (fun h5 => ?_)
    ·try simp [go_sem] at h5
     have h5' : i < c.kids.length ∧ 0 ≤ b := by omega
     try simp [go_sem, Cond.c_eq, F0, h5, h5'.1]
     repeat (first | intro _ | (refine ⟨obl, ?_⟩))
     refine cq0 ((by have := ih _ (lgm h5'.1) (hk _ (lgm h5'.1)) b h5'.2 (by omega); rwa [Cond.c_eq] at this)) ?_
     try simp [go_sem, Cond.c_eq, F0, h5, h5'.1]
     repeat (first | intro _ | (refine ⟨obl, ?_⟩))
     refine nextQ_mk (i + 1) (by omega) ((hI0 _ _ _).2 ⟨(leftC c.kids[i] b), ?_, ?_, ?_, (by first | assumption | omega | (simp [go_sem, Cond.c_eq, F0, h5, h5'.1, h2]; done) | (simp_all <;> omega)), (by (have := leftC_le c.kids[i] b h5'.2; omega)), (by (rw [← hL, leftL_step h5'.1 h5'.2]))⟩) <;> first | omega | (simp [go_sem, Cond.c_eq, F0, h5, h5'.1] <;> omega)
    ·try simp [go_sem] at h5
     have h5' : ¬ (i < c.kids.length ∧ 0 ≤ b) := by omega
     try simp [go_sem, Cond.c_eq, F0]
     have hE : leftC c b0 = b := by rw [← hL, leftL_end h5']
     exact hQ _ _ (.inl (by simp [go_sem, hE]))
def fewC (c : Cond) : Bool := decide (0 ≤ leftC c 40)
theorem ref22_Few (c : Cond) (hc : c.le) : Pure Tryz.prog 106 [.agg c.c] (.bool (fewC c)) := by
  refine Tz.pK ⟨fun _ => false, fun _ => []⟩ Tryz.func106 rfl (fun Q hQ => ?_)
  try simp [go_sem, Cond.c_eq]
  refine cq0 ((by have := ref22_left c hc 40 (by omega) (by omega); rwa [Cond.c_eq] at this)) ?_
  try simp [go_sem, Cond.c_eq]
  exact hQ _ _ (by simp [go_sem, Cond.c_eq, fewC] <;> first | omega | (rw [bei]; simp <;> omega) | (simp_all <;> omega))
def fewR (r : Rule) : Bool := decide ((r.name.size : Int) ≤ 60) && fewP r.left && fewP r.right && fewPart r.keep 140 && fewPart r.into 140 && fewC r.cond
structure Rule.le (r : Rule) : Prop where
  keep : r.keep.le
  into : r.into.le
  cond : r.cond.le
theorem ref24_Few (r : Rule) (hr : r.le) : Pure Tryz.prog 67 [r.d] (.bool (fewR r)) := by
  refine Tz.pK ⟨fun _ => false, fun _ => []⟩ Tryz.func67 rfl (fun Q hQ => ?_)
  try simp [go_sem]
  repeat (first | intro _ | (refine ⟨obl, ?_⟩))
  refine gcq0 (fun hg => ref21_Few r.left) ?_
  try simp [go_sem]
  repeat (first | intro _ | (refine ⟨obl, ?_⟩))
  refine gcq0 (fun hg => ref21_Few r.right) ?_
  try simp [go_sem]
  repeat (first | intro _ | (refine ⟨obl, ?_⟩))
  refine gcq0 (fun hg => ref07_Few r.keep hr.keep 140) ?_
  try simp [go_sem]
  repeat (first | intro _ | (refine ⟨obl, ?_⟩))
  refine gcq0 (fun hg => ref06_Few r.into hr.into 140) ?_
  try simp [go_sem]
  repeat (first | intro _ | (refine ⟨obl, ?_⟩))
  refine gcq0 (fun hg => (by have := ref22_Few r.cond hr.cond; rwa [Cond.c_eq] at this)) ?_
  try simp [go_sem]
  repeat (first | intro _ | (refine ⟨obl, ?_⟩))
  exact hQ _ _ (by simp [go_sem, fewR] <;> first | omega | (rw [bei]; simp <;> omega) | (simp_all <;> omega))
def fewRs (rs : List Rule) : Bool := decide ((rs.length : Int) ≤ 8) && !(rs.any fun r => !fewR r)
theorem ref39_Few (rs : List Rule) (hr : ∀ r ∈ rs, r.le) : Pure Tryz.prog 33 [.list (rs.map Rule.c)] (.bool (fewRs rs)) := by
  refine Tz.pK ⟨fun _ => false, fun _ => []⟩ Tryz.func33 rfl (fun Q hQ => ?_)
  try simp [go_sem]
  repeat (first | intro _ | (refine ⟨obl, ?_⟩))
  refine condQ_mk (fun h1 => ?_) (fun h1 => ?_)
  · try simp [go_sem] at h1
    try simp [go_sem]
    have hb : fewRs rs = false := by simp [fewRs]; omega
    exact hQ _ _ (.inl (by simp [go_sem, hb]))
  · try simp [go_sem] at h1
    try simp [go_sem]
    obtain ⟨I0, hI0⟩ := mkI fun i e H => ((e 0 = .list (rs.map Rule.c)) ∧ (e 3 = dI i) ∧ (i ≤ rs.length) ∧ (((rs.take i).any fun r => !fewR r) = false))
    refine loopK I0 (fun i => rs.length - i) (0) ((hI0 _ _ _).2 ⟨?_, ?_, (by first | assumption | omega | (simp [go_sem]; done) | (simp_all; done)), (by rfl)⟩) ?_
    iterate 2 (first | omega | (simp [go_sem] <;> omega))
    intro i e H hi0
    obtain ⟨q0_0, q3_0, hi, ha⟩ := (hI0 _ _ _).1 hi0
    have F0 := And.intro q0_0 q3_0
    try simp [go_sem, F0]
    repeat (first | intro _ | (refine ⟨obl, ?_⟩))
    refine condQ_mk (fun h4 => ?_) (fun h4 => ?_)
    ·try simp [go_sem] at h4
     try simp [go_sem, F0, h4]
     repeat (first | intro _ | (refine ⟨obl, ?_⟩))
     refine cq0 (ref24_Few rs[i] (hr _ (lgm h4))) ?_
     try simp [go_sem, F0, h4]
     repeat (first | intro _ | (refine ⟨obl, ?_⟩))
     refine condQ_mk (fun h6 => ?_) (fun h6 => ?_)
     ·try simp [go_sem] at h6
      try simp [go_sem, F0, h4]
      have hb : (rs.any fun r => !fewR r) = true := List.any_eq_true.2 ⟨_, lgm h4, by simp [h6]⟩
      exact hQ _ _ (.inl (by simp only [go_sem, fewRs, hb, Bool.not_true, Bool.and_false]))
     ·try simp [go_sem] at h6
      try simp [go_sem, F0, h4]
      repeat (first | intro _ | (refine ⟨obl, ?_⟩))
      refine nextQ_mk (i + 1) (by omega) ((hI0 _ _ _).2 ⟨?_, ?_, (by first | assumption | omega | (simp [go_sem, F0, h4, h1, h6]; done) | (simp_all <;> omega)), (by (rw [any_take_succ _ _ _ h4, ha]; simp [h6]))⟩) <;> first | omega | (simp [go_sem, F0, h4] <;> omega)
    ·try simp [go_sem] at h4
     have hN := any_end ha h4
     try simp [go_sem, F0]
     have h8 : decide ((rs.length : Int) ≤ 8) = true := by simp; omega
     exact hQ _ _ (.inl (by simp only [go_sem, fewRs, hN, h8, Bool.not_false, Bool.and_true]))
end Go.Abs
end
section
set_option maxRecDepth 8000
open Go Go.Proofs
namespace Go.Abs
def badName (s : ByteArray) : Bool := decide (40 < (s.size : Int))
def badAttr (x : Attr) : Bool := badName x.name || decide (25 < (x.names.length : Int)) || x.names.any badName
def badNode (n : NodeTy) : Bool := badName n.name || n.attrs.any badAttr
def badEdge (x : EdgeTy) : Bool := badName x.name
def attrSum (l : List NodeTy) : Nat := (l.map fun n => n.attrs.length).sum
def fewT (t : Types) : Bool := decide ((t.nodes.length : Int) ≤ 20) && decide ((t.edges.length : Int) ≤ 30) && decide (attrSum t.nodes ≤ 30) && !(t.nodes.any badNode) && !(t.edges.any badEdge)
@[go_sem, simp] theorem attrSum_nil : attrSum [] = 0 := rfl
theorem attrSum_succ (l : List NodeTy) {i : Nat} (h : i < l.length) : attrSum (l.take (i + 1)) = attrSum (l.take i) + l[i].attrs.length := by
  unfold attrSum
  rw [List.take_succ_eq_append_getElem h, List.map_append, List.sum_append]; simp
theorem attrSum_le (l : List NodeTy) (i : Nat) : attrSum (l.take i) ≤ attrSum l := by
  have : attrSum l = attrSum (l.take i) + attrSum (l.drop i) := by
    unfold attrSum
    rw [← List.sum_append, ← List.map_append, List.take_append_drop]
  omega
theorem attrs_mem {l : List NodeTy} {n : NodeTy} (h : n ∈ l) : n.attrs.length ≤ attrSum l := by
  induction l with
  | nil => cases h
  | cons a l ih =>
    have e : attrSum (a :: l) = a.attrs.length + attrSum l := by simp [attrSum]
    rcases List.mem_cons.1 h with rfl | h
    ·omega
    ·have := ih h; omega
theorem fewT_ok {t : Types} (h : fewT t = true) : t.ok := by
  simp [fewT] at h
  obtain ⟨⟨⟨⟨h1, h2⟩, h3⟩, h4⟩, h5⟩ := h
  refine ⟨fun n hn => ?_, fun x hx => ⟨?_⟩, by omega, by omega⟩
  · have hl := attrs_mem hn
    have := h4 n hn
    simp [badNode, badName] at this
    refine ⟨by omega, fun x hx => ?_, by omega⟩
    have hb := this.2 x hx
    simp [badAttr, badName] at hb
    refine ⟨by omega, fun s hs => ?_, by omega⟩
    have := hb.2 s hs
    omega
  · have := h5 x hx
    simp [badEdge, badName] at this
    omega
theorem ref04_Few (t : Types) (ht : ∀ n ∈ t.nodes, n.attrs.length ≤ 1000000000000000) : Pure Tryz.prog 16 [t.d] (.bool (fewT t)) := by
  refine Tz.pK ⟨fun t => t == 6, fun _ => []⟩ Tryz.func16 rfl (fun Q hQ => ?_)
  try simp [go_sem]
  repeat (first | intro _ | (refine ⟨obl, ?_⟩))
  refine condQ_mk (fun h1 => ?_) (fun h1 => ?_)
  · try simp [go_sem] at h1
    try simp [go_sem]
    have hb : fewT t = false := by simp [fewT]; omega
    exact hQ _ _ (.inl (by simp [go_sem, hb]))
  · try simp [go_sem] at h1
    try simp [go_sem]
    obtain ⟨I0, hI0⟩ := mkI fun i e H => ((e 1 = .adr t.c) ∧ (e 3 = dI (attrSum (t.nodes.take i))) ∧ (e 4 = dI i) ∧ (i ≤ t.nodes.length) ∧ (attrSum (t.nodes.take i) ≤ 30) ∧ ((t.nodes.take i).any badNode = false))
    refine loopK I0 (fun i => t.nodes.length - i) (0) ((hI0 _ _ _).2 ⟨?_, ?_, ?_, (by first | assumption | omega | (simp [go_sem]; done) | (simp_all; done)), (by (simp [attrSum])), (by rfl)⟩) ?_
    iterate 3 (first | omega | (simp [go_sem] <;> omega))
    intro i e H hi0
    obtain ⟨q1_0, q3_0, q4_0, hi, hs, ha⟩ := (hI0 _ _ _).1 hi0
    have F0 := And.intro q1_0 (And.intro q3_0 q4_0)
    try simp [go_sem, F0]
    repeat (first | intro _ | (refine ⟨obl, ?_⟩))
    refine condQ_mk (fun h5 => ?_) (fun h5 => ?_)
    ·try simp [go_sem] at h5
     have hst := attrSum_succ t.nodes h5
     have hle := attrSum_le t.nodes (i + 1)
     have hn := ht _ (lgm h5)
     try simp [go_sem, F0, h5, hst]
     repeat (first | intro _ | (refine ⟨obl, ?_⟩))
     refine condQ_mk (fun h8 => ?_) (fun h8 => ?_)
     ·try simp [go_sem] at h8
      try simp [go_sem, F0, h5, hst]
      have hb : fewT t = false := by
       rcases h8 with h8 | h8
       ·simp [fewT]; omega
       ·have : t.nodes.any badNode = true := List.any_eq_true.2 ⟨_, lgm h5, by simp [badNode, badName]; omega⟩
        simp [fewT, this]
      exact hQ _ _ (.inl (by simp [go_sem, hb]))
     ·try simp [go_sem] at h8
      have hN : badName t.nodes[i].name = false := by simp [badName]; omega
      try simp [go_sem, F0, h5, hst]
      obtain ⟨I2, hI2⟩ := mkI fun k e H => ((e 1 = .adr t.c) ∧ (e 3 = dI (attrSum (t.nodes.take (i + 1)))) ∧ (e 4 = dI i) ∧ (e 5 = dI k) ∧ (k ≤ t.nodes[i].attrs.length) ∧ ((t.nodes[i].attrs.take k).any badAttr = false))
      refine loopK I2 (fun k => t.nodes[i].attrs.length - k) (0) ((hI2 _ _ _).2 ⟨?_, ?_, ?_, ?_, (by first | assumption | omega | (simp [go_sem, F0, h5, hst]; done) | (simp_all; done)), (by rfl)⟩) ?_
      iterate 4 (first | omega | (simp [go_sem, F0, h5, hst] <;> omega))
      intro k e H hi2
      obtain ⟨q1_2, q3_2, q4_2, q5_2, hk, hb⟩ := (hI2 _ _ _).1 hi2
      have F2 := And.intro q1_2 (And.intro q3_2 (And.intro q4_2 q5_2))
      try simp [go_sem, h5, hst, F2]
      repeat (first | intro _ | (refine ⟨obl, ?_⟩))
      refine condQ_mk (fun h11 => ?_) (fun h11 => ?_)
      ·try simp [go_sem] at h11
       try simp [go_sem, h5, hst, F2, h11]
       repeat (first | intro _ | (refine ⟨obl, ?_⟩))
       refine condQ_mk (fun h14 => ?_) (fun h14 => ?_)
       ·try simp [go_sem] at h14
        try simp [go_sem, h5, hst, F2, h11]
        have hbad : badAttr t.nodes[i].attrs[k] = true := by simp [badAttr, badName]; omega
        have hb2 : t.nodes.any badNode = true := List.any_eq_true.2 ⟨_, lgm h5, by unfold badNode; rw [Bool.or_eq_true]; right; exact List.any_eq_true.2 ⟨_, lgm h11, hbad⟩⟩
        have hb3 : fewT t = false := by simp [fewT, hb2]
        exact hQ _ _ (.inl (by simp [go_sem, hb3]))
       ·try simp [go_sem] at h14
        have hM : badName t.nodes[i].attrs[k].name = false := by simp [badName]; omega
        try simp [go_sem, h5, hst, F2, h11]
        obtain ⟨I4, hI4⟩ := mkI fun m e H => (∃ j : Nat, (e 1 = .adr t.c) ∧ (e 3 = dI (attrSum (t.nodes.take (i + 1)))) ∧ (e 4 = dI i) ∧ (e 5 = dI k) ∧ (e 6 = .ptr j 1 0 0) ∧ (e 7 = dI m) ∧ (H.get j = some ⟨101, 4, [t.nodes[i].attrs[k].c], false⟩) ∧ (j < H.next) ∧ (m ≤ t.nodes[i].attrs[k].names.length) ∧ ((t.nodes[i].attrs[k].names.take m).any badName = false))
        refine loopK I4 (fun m => t.nodes[i].attrs[k].names.length - m) (0) ((hI4 _ _ _).2 ⟨(H.next), ?_, ?_, ?_, ?_, ?_, ?_, ?_, ?_, (by first | assumption | omega | (simp [go_sem, h5, hst, F2, h11]; done) | (simp_all; done)), (by rfl)⟩) ?_
        iterate 8 (first | omega | (simp [go_sem, h5, hst, F2, h11] <;> omega))
        intro m e H hi4
        obtain ⟨j, q1_4, q3_4, q4_4, q5_4, q6_4, q7_4, gj_4, nj_4, hm, hc⟩ := (hI4 _ _ _).1 hi4
        have xj := frs nj_4
        have F4 := And.intro q1_4 (And.intro q3_4 (And.intro q4_4 (And.intro q5_4 (And.intro q6_4 (And.intro q7_4 (And.intro gj_4 xj))))))
        try simp [go_sem, h5, hst, h11, F4]
        repeat (first | intro _ | (refine ⟨obl, ?_⟩))
        refine condQ_mk (fun h17 => ?_) (fun h17 => ?_)
        ·try simp [go_sem] at h17
         try simp [go_sem, h5, hst, h11, F4, h17]
         repeat (first | intro _ | (refine ⟨obl, ?_⟩))
         refine condQ_mk (fun h19 => ?_) (fun h19 => ?_)
         ·try simp [go_sem] at h19
          try simp [go_sem, h5, hst, h11, F4, h17]
          have hbad : badAttr t.nodes[i].attrs[k] = true := by unfold badAttr; rw [Bool.or_eq_true]; right; exact List.any_eq_true.2 ⟨_, lgm h17, by simp [badName]; omega⟩
          have hb2 : t.nodes.any badNode = true := List.any_eq_true.2 ⟨_, lgm h5, by unfold badNode; rw [Bool.or_eq_true]; right; exact List.any_eq_true.2 ⟨_, lgm h11, hbad⟩⟩
          have hb3 : fewT t = false := by simp [fewT, hb2]
          exact hQ _ _ (.inl (by simp [go_sem, hb3]))
         ·try simp [go_sem] at h19
          try simp [go_sem, h5, hst, h11, F4, h17]
          repeat (first | intro _ | (refine ⟨obl, ?_⟩))
          refine nextQ_mk (m + 1) (by omega) ((hI4 _ _ _).2 ⟨(j), ?_, ?_, ?_, ?_, ?_, ?_, ?_, ?_, (by first | assumption | omega | (simp [go_sem, h5, hst, h11, F4, h17, h1, h8, h14, h19]; done) | (simp_all <;> omega)), (by (rw [any_take_succ _ _ _ h17, hc]; simp [badName]; omega))⟩) <;> first | omega | (simp [go_sem, h5, hst, h11, F4, h17] <;> omega)
        ·try simp [go_sem] at h17
         have hZ := any_end hc h17
         try simp [go_sem, h5, hst, h11, F4]
         repeat (first | intro _ | (refine ⟨obl, ?_⟩))
         refine nextQ_mk (k + 1) (by omega) ((hI2 _ _ _).2 ⟨?_, ?_, ?_, ?_, (by first | assumption | omega | (simp [go_sem, h5, hst, h11, F4, h1, h8, h14, h17]; done) | (simp_all <;> omega)), (by (rw [any_take_succ _ _ _ h11, hb]; simp [badAttr, hM, hZ]; omega))⟩) <;> first | omega | (simp [go_sem, h5, hst, h11, F4] <;> omega)
      ·try simp [go_sem] at h11
       have hA := any_end hb h11
       try simp [go_sem, h5, hst, F2]
       repeat (first | intro _ | (refine ⟨obl, ?_⟩))
       refine nextQ_mk (i + 1) (by omega) ((hI0 _ _ _).2 ⟨?_, ?_, ?_, (by first | assumption | omega | (simp [go_sem, h5, hst, F2, h1, h8, h11]; done) | (simp_all <;> omega)), (by omega), (by (rw [any_take_succ _ _ _ h5, ha]; simp [badNode, hN, hA]))⟩) <;> first | omega | (simp [go_sem, h5, hst, F2] <;> omega)
    ·try simp [go_sem] at h5
     have hNn := any_end ha h5
     rw [List.take_of_length_le (by omega)] at hs
     try simp [go_sem, F0]
     obtain ⟨I6, hI6⟩ := mkI fun q e H => ((e 1 = .adr t.c) ∧ (e 8 = dI q) ∧ (q ≤ t.edges.length) ∧ ((t.edges.take q).any badEdge = false))
     refine loopK I6 (fun q => t.edges.length - q) (0) ((hI6 _ _ _).2 ⟨?_, ?_, (by first | assumption | omega | (simp [go_sem, F0]; done) | (simp_all; done)), (by rfl)⟩) ?_
     iterate 2 (first | omega | (simp [go_sem, F0] <;> omega))
     intro q e H hi6
     obtain ⟨q1_6, q8_6, hj, hd⟩ := (hI6 _ _ _).1 hi6
     have F6 := And.intro q1_6 q8_6
     try simp [go_sem, F6]
     repeat (first | intro _ | (refine ⟨obl, ?_⟩))
     refine condQ_mk (fun h22 => ?_) (fun h22 => ?_)
     ·try simp [go_sem] at h22
      try simp [go_sem, F6, h22]
      repeat (first | intro _ | (refine ⟨obl, ?_⟩))
      refine condQ_mk (fun h24 => ?_) (fun h24 => ?_)
      ·try simp [go_sem] at h24
       try simp [go_sem, F6, h22]
       have hb2 : t.edges.any badEdge = true := List.any_eq_true.2 ⟨_, lgm h22, by simp [badEdge, badName]; omega⟩
       have hb3 : fewT t = false := by simp [fewT, hb2]
       exact hQ _ _ (.inl (by simp [go_sem, hb3]))
      ·try simp [go_sem] at h24
       try simp [go_sem, F6, h22]
       repeat (first | intro _ | (refine ⟨obl, ?_⟩))
       refine nextQ_mk (q + 1) (by omega) ((hI6 _ _ _).2 ⟨?_, ?_, (by first | assumption | omega | (simp [go_sem, F6, h22, h1, h5, h24]; done) | (simp_all <;> omega)), (by (rw [any_take_succ _ _ _ h22, hd]; simp [badEdge, badName]; omega))⟩) <;> first | omega | (simp [go_sem, F6, h22] <;> omega)
     ·try simp [go_sem] at h22
      have hEe := any_end hd h22
      try simp [go_sem, F6]
      have hb3 : fewT t = true := by simp only [fewT, hNn, hEe]; simp; omega
      exact hQ _ _ (.inl (by simp [go_sem, hb3]))
end Go.Abs
end
section
set_option maxRecDepth 8000
open Go Go.Proofs
namespace Go.Abs
def PureE (P : Program) (f : FuncId) (args : List D) (R : D → Prop) : Prop :=
  Ent P f ∧ ∀ (M : Nat → Prop) (w : World) (vals : List Value), (∀ b, M b → b < w.heap.size) → RepL M noRef noId w vals args →
    Calls P f vals.toArray w fun e w' => ∃ v r, R r ∧ r.cl = true ∧ e = .returned v ∧ RepV M noRef noId w' v r ∧ RowKit.Below w.heap.size w w'
theorem pureE_of_calls {P : Program} {f : FuncId} {args : List D} {R : D → Prop} (h : ACalls P f args .emp fun d H' => R (rsvT H' d) ∧ (rsvT H' d).cl = true) : PureE P f args R := by
  refine ⟨h.1, fun M w vals hM ha => (h.2 M noRef w vals (rel_emp M w hM) (by rw [mut_emp]; exact ha)).mono fun e w' ⟨v, d, H', σ', he, hR, hv, hst, hk, hr, hcl⟩ => ⟨v, rsvT H' d, hr, hcl, he, ?_, stp_below hst⟩⟩
  have h1 := rsvT_frozen hR hv (ownT d) fun i hi => hi
  exact h1.closed (fun ad u hm hc => ⟨fun h => hm (.inl h), hc⟩) hcl
theorem ACalls.pureE {P : Program} {f : FuncId} {args : List D} {H : AHeap} {R : D → Prop} {Q : D → AHeap → Prop} (hp : PureE P f args R) (hcl : D.clL args = true) (hQ : ∀ r, R r → r.cl = true → Q r H) : ACalls P f args H Q := by
  refine ⟨hp.1, fun M0 σ w vals hR ha => (hp.2 (Mut M0 H σ) w vals (mut_lt hR) (repL_closed (fun _ h => h) ha hcl)).mono fun e w' ⟨v, r, hr, hrc, he, hv, hb⟩ => ?_⟩
  obtain ⟨h1, h2, h3⟩ := hR.grow hb.os hb.tape hb.output hb.size hb.block
  exact ⟨v, r, H, σ, he, h1, hv.keep keeps_noRef, h2, h3, hQ r hr hrc⟩
theorem weight_proves1 (l o : List Int) (h : ProdOk l o) : Pure Tryz.prog 181 [dLI l, .adr [dLI o]] (.bool (decide (-1 < prodF l o))) := by
  refine Tz.pK ⟨fun _ => false, fun _ => []⟩ Tryz.func181 rfl (fun Q hQ => ?_)
  try simp [go_sem]
  refine cq0 (weight_product l o h) ?_
  try simp [go_sem]
  exact hQ _ _ (by simp [go_sem] <;> first | omega | (rw [bei]; simp <;> omega) | (simp_all <;> omega))
def provesB (xs : List (List Int)) (o : List Int) : Bool := !(xs.any fun l => decide (-1 < prodF l o))
theorem weight_proves (xs : List (List Int)) (o : List Int) (h : ∀ l ∈ xs, ProdOk l o) : Pure Tryz.prog 116 [.list (xs.map cL), dLI o] (.bool (provesB xs o)) := by
  refine Tz.pK ⟨fun _ => false, fun _ => []⟩ Tryz.func116 rfl (fun Q hQ => ?_)
  try simp [go_sem]
  repeat (first | intro _ | (refine ⟨obl, ?_⟩))
  refine cq0 (containsFunc_ints xs 181 [.adr [dLI o]] (fun l => decide (-1 < prodF l o)) (by simp [go_sem]) (by simp [go_sem]) (fun l hl => weight_proves1 l o (h l hl))) ?_
  try simp [go_sem]
  repeat (first | intro _ | (refine ⟨obl, ?_⟩))
  exact hQ _ _ (by simp [go_sem, provesB] <;> first | omega | (rw [bei]; simp <;> omega) | (simp_all <;> omega))
structure FI (xs : List (List Int)) (tch : List Int) (nn : Nat) (H : AHeap) (o : List Int) : Prop where
  b0 : H.get 0 = some ⟨53, 1, [[.list (xs.map cL)]], false⟩
  b1 : H.get 1 = some ⟨31, 1, [[dLI tch]], false⟩
  b2 : H.get 2 = some ⟨3, 1, o.map cI, false⟩
  b3 : H.get 3 = some ⟨31, 1, [[.own 2 nn]], false⟩
  len : o.length = nn
  dig : ∀ x ∈ o, 0 ≤ x ∧ x ≤ 6
structure FX (xs : List (List Int)) (tch : List Int) (nn : Nat) : Prop where
  xl : ∀ l ∈ xs, l.length = nn
  xb : ∀ l ∈ xs, ∀ x ∈ l, -100000 ≤ x ∧ x ≤ 100000
  tb : ∀ v ∈ tch, 0 ≤ v ∧ v < nn
  few : tch.length ≤ 6
  nf : nn ≤ 1000
theorem mem_set_dig {l : List Int} (h : ∀ x ∈ l, 0 ≤ x ∧ x ≤ 6) (k : Nat) {v : Int} (hv : 0 ≤ v ∧ v ≤ 6) : ∀ x ∈ l.set k v, 0 ≤ x ∧ x ≤ 6 := fun x hx => by
  rcases List.mem_or_eq_of_mem_set hx with h1 | h1
  · exact h x h1
  · subst h1; exact hv
theorem weight_Find1 {xs : List (List Int)} {tch : List Int} {nn : Nat} (hX : FX xs tch nn) (w : List Int) (hw : w.length = tch.length) (hwd : ∀ x ∈ w, 0 ≤ x ∧ x ≤ 6) (G : AHeap) (o0 : List Int) (hG : FI xs tch nn G o0) (hg4 : G.get 4 = some ⟨3, 1, w.map cI, false⟩) (Q : D → AHeap → Prop)
    (hQ : ∀ b o H', FI xs tch nn H' o → (∀ j, j ≠ 2 → H'.get j = G.get j) → G.next ≤ H'.next → Q (.bool b) H') : ACalls Tryz.prog 115 [.own 4 tch.length, .ptr 1 1 0 0, .ptr 3 1 0 0, .ptr 0 1 0 0] G Q := by
  obtain ⟨hb0, hb1, hb2, hb3, hln, hdg⟩ := hG
  obtain ⟨hxl, hxb, htb, hfw, hnf⟩ := hX
  refine (acalls_of_body (cfg := ⟨fun _ => false, fun _ => []⟩) Tz.mixed Tryz.func115 rfl rfl (nlb rfl) (by kernel_rfl) ?_)
  try simp [go_sem, hb0, hb1, hb2, hb3, hg4, hw]
  repeat (first | intro _ | (refine ⟨obl, ?_⟩))
  obtain ⟨I0, hI0⟩ := mkI fun i e H => (∃ o : List Int, (e 0 = .own 4 tch.length) ∧ (e 1 = .ptr 1 1 0 0) ∧ (e 2 = .ptr 3 1 0 0) ∧ (e 3 = .ptr 0 1 0 0) ∧ (e 8 = dLI tch) ∧ (e 9 = dI tch.length) ∧ (e 10 = dI i) ∧ (i ≤ tch.length) ∧ (H.get 2 = some ⟨3, 1, o.map cI, false⟩) ∧ (∀ j, j ≠ 2 → H.get j = G.get j) ∧ (G.next ≤ H.next) ∧ (o.length = nn) ∧ (∀ x ∈ o, 0 ≤ x ∧ x ≤ 6))
  refine loopK I0 (fun i => tch.length - i) (0) ((hI0 _ _ _).2 ⟨(o0), ?_, ?_, ?_, ?_, ?_, ?_, ?_, (by first | assumption | omega | (simp [go_sem, hb0, hb1, hb2, hb3, hg4, hw]; done) | (simp_all; done)), (by exact hb2), (by exact fun _ _ => rfl), (by exact Nat.le_refl _), (by exact hln), (by exact hdg)⟩) ?_
  iterate 7 (first | omega | (simp [go_sem, hb0, hb1, hb2, hb3, hg4, hw] <;> omega))
  intro i e H hi0
  obtain ⟨o, q0_0, q1_0, q2_0, q3_0, q8_0, q9_0, q10_0, hi, c2, hfr, hnx, hol, hod⟩ := (hI0 _ _ _).1 hi0
  have F0 := And.intro q0_0 (And.intro q1_0 (And.intro q2_0 (And.intro q3_0 (And.intro q8_0 (And.intro q9_0 q10_0)))))
  try simp [go_sem, hb0, hb1, hb2, hb3, hg4, hw, F0, c2, hol, hfr 0 (by decide), hfr 1 (by decide), hfr 3 (by decide), hfr 4 (by decide)]
  refine condQ_mk (fun h2 => ?_) (fun h2 => ?_)
  · try simp [go_sem] at h2
    have hk : i < w.length := by omega
    have hdig := hwd _ (lgm hk)
    have htv := htb _ (lgm h2)
    have hv : tch[i].toNat < o.length := by omega
    try simp [go_sem, hb0, hb1, hb2, hb3, hg4, hw, F0, c2, hol, hfr 0 (by decide), hfr 1 (by decide), hfr 3 (by decide), hfr 4 (by decide), h2, lge hk, lge hv]
    repeat (first | intro _ | (refine ⟨obl, ?_⟩))
    refine nextQ_mk (i + 1) (by omega) ((hI0 _ _ _).2 ⟨(o.set tch[i].toNat w[i]), ?_, ?_, ?_, ?_, ?_, ?_, ?_, (by first | assumption | omega | (simp [go_sem, hb0, hb1, hb2, hb3, hg4, hw, F0, c2, hol, hfr 0 (by decide), hfr 1 (by decide), hfr 3 (by decide), hfr 4 (by decide), h2, lge hk, lge hv]; done) | (simp_all <;> omega)), (by (simp [go_sem, c2, List.map_set, lge hk, lge hv])), (by (intro j hj'; simp [go_sem, hj', hfr j hj'])), (by (simp [go_sem]; omega)), (by (simp [hol])), (by (exact mem_set_dig hod _ hdig))⟩) <;> first | omega | (simp [go_sem, hb0, hb1, hb2, hb3, hg4, hw, F0, c2, hol, hfr 0 (by decide), hfr 1 (by decide), hfr 3 (by decide), hfr 4 (by decide), h2, lge hk, lge hv] <;> omega)
  · try simp [go_sem] at h2
    try simp [go_sem, hb0, hb1, hb2, hb3, hg4, hw, F0, c2, hol, hfr 0 (by decide), hfr 1 (by decide), hfr 3 (by decide), hfr 4 (by decide)]
    refine callQ_pureF ((weight_proves xs o (fun l hl => ⟨by rw [hxl l hl]; omega, by rw [hxl l hl]; omega, hxb l hl, fun x hx => by have := hod x hx; omega⟩))) (by simp [rsvC, rsvP, cellsAt, go_sem, ← List.map_take, ← List.map_drop, hb0, hb1, hb2, hb3, hg4, hw, F0, c2, hol, hfr 0 (by decide), hfr 1 (by decide), hfr 3 (by decide), hfr 4 (by decide)]) ((by first | rfl | (simp [go_sem, ← List.map_take, ← List.map_drop, hb0, hb1, hb2, hb3, hg4, hw, F0, c2, hol, hfr 0 (by decide), hfr 1 (by decide), hfr 3 (by decide), hfr 4 (by decide)]; done))) ( rfl) ?_
    try simp [go_sem, hb0, hb1, hb2, hb3, hg4, hw, F0, c2, hol, hfr 0 (by decide), hfr 1 (by decide), hfr 3 (by decide), hfr 4 (by decide)]
    exact hQ _ o _ ⟨by rw [hfr 0 (by decide)]; exact hb0, by rw [hfr 1 (by decide)]; exact hb1, c2, by rw [hfr 3 (by decide)]; exact hb3, hol, hod⟩ hfr hnx
end Go.Abs
end
section
set_option maxRecDepth 8000
open Go Go.Proofs
namespace Go.Abs
def testV : D := .fn 115 [.ptr 1 1 0 0, .ptr 3 1 0 0, .ptr 0 1 0 0]
def fillV (n : Nat) : D := .fn 180 [.adr [dI n], .adr [testV], .ptr 5 1 0 0, .ptr 6 1 0 0]
structure LI (xs : List (List Int)) (tch : List Int) (nn : Nat) (H : AHeap) (w o : List Int) : Prop where
  fi : FI xs tch nn H o
  b4 : H.get 4 = some ⟨3, 1, w.map cI, false⟩
  b5 : H.get 5 = some ⟨31, 1, [[.own 4 tch.length]], false⟩
  b6 : H.get 6 = some ⟨250, 1, [[fillV tch.length]], false⟩
  wl : w.length = tch.length
  wd : ∀ x ∈ w, 0 ≤ x ∧ x ≤ 6
theorem FI.of {xs : List (List Int)} {tch : List Int} {nn : Nat} {H H' : AHeap} {o : List Int} (h : FI xs tch nn H o) (hf : ∀ j, j < 4 → H'.get j = H.get j) : FI xs tch nn H' o :=
  ⟨(hf 0 (by decide)).trans h.b0, (hf 1 (by decide)).trans h.b1, (hf 2 (by decide)).trans h.b2, (hf 3 (by decide)).trans h.b3, h.len, h.dig⟩
theorem LI.put {xs : List (List Int)} {tch : List Int} {nn : Nat} {H H' : AHeap} {w o : List Int} (h : LI xs tch nn H w o) (k : Nat) {v : Int} (hv : 0 ≤ v ∧ v ≤ 6) (h4 : H'.get 4 = some ⟨3, 1, (w.set k v).map cI, false⟩) (hf : ∀ j, j ≠ 4 → H'.get j = H.get j) : LI xs tch nn H' (w.set k v) o :=
  ⟨h.fi.of fun j hj => hf j (by omega), h4, (hf 5 (by decide)).trans h.b5, (hf 6 (by decide)).trans h.b6, by rw [List.length_set]; exact h.wl, mem_set_dig h.wd k hv⟩
theorem LI.test {xs : List (List Int)} {tch : List Int} {nn : Nat} {H H' : AHeap} {w o o' : List Int} (h : LI xs tch nn H w o) (h1 : FI xs tch nn H' o') (hf : ∀ j, j ≠ 2 → H'.get j = H.get j) : LI xs tch nn H' w o' :=
  ⟨h1, (hf 4 (by decide)).trans h.b4, (hf 5 (by decide)).trans h.b5, (hf 6 (by decide)).trans h.b6, h.wl, h.wd⟩
theorem weight_least1 {xs : List (List Int)} {tch : List Int} {nn : Nat} (hX : FX xs tch nn) : ∀ (k : Nat) (a left : Int) (w o : List Int) (G : AHeap) (Q : D → AHeap → Prop), 0 ≤ a → a + k = tch.length → 0 ≤ left → left ≤ 36 → LI xs tch nn G w o →
    (∀ b w' o' H', LI xs tch nn H' w' o' → G.next ≤ H'.next → Q (.bool b) H') → ACalls Tryz.prog 180 [dI a, dI left, .adr [dI tch.length], .adr [testV], .ptr 5 1 0 0, .ptr 6 1 0 0] G Q := by
  have hfew := hX.few
  intro k
  induction k using Nat.strongRecOn with
  | _ k ih =>
  intro a left w o G Q ha hk hl0 hl1 hI hQ
  have hb4 := hI.b4
  have hb5 := hI.b5
  have hb6 := hI.b6
  have hw := hI.wl
  refine (acalls_of_body (cfg := ⟨fun _ => false, fun _ => []⟩) Tz.mixed Tryz.func180 rfl rfl (nlb rfl) (by kernel_rfl) ?_)
  try simp [go_sem, hb4, hb5, hb6, hw, testV, fillV]
  refine condQ_mk (fun h1 => ?_) (fun h1 => ?_)
  · try simp [go_sem] at h1
    try simp [go_sem, hb4, hb5, hb6, hw, testV, fillV]
    repeat (first | intro _ | (refine ⟨obl, ?_⟩))
    refine gcallQ_split (fun ht => weight_Find1 hX w hw hI.wd _ o hI.fi hb4 _ (fun b o2 H2 hF2 hf2 hn2 => ?_)) (fun hf => ?_); rotate_left; refine ⟨.bool false, ?_⟩; (simp [go_sem, hf]); exact hQ false w o G hI (Nat.le_refl _)
    try simp [go_sem, hb4, hb5, hb6, hw, testV, fillV]
    repeat (first | intro _ | (refine ⟨obl, ?_⟩))
    exact hQ _ w o2 H2 (hI.test hF2 hf2) hn2
  · try simp [go_sem] at h1
    try simp [go_sem, hb4, hb5, hb6, hw, testV, fillV]
    repeat (first | intro _ | (refine ⟨obl, ?_⟩))
    obtain ⟨I0, hI0⟩ := mkI fun v e H => (∃ w1 : List Int, ∃ o1 : List Int, (e 0 = dI a) ∧ (e 1 = dI left) ∧ (e 2 = .adr [dI tch.length]) ∧ (e 3 = .adr [testV]) ∧ (e 4 = .ptr 5 1 0 0) ∧ (e 5 = .ptr 6 1 0 0) ∧ (e 9 = dI v) ∧ (v ≤ 40) ∧ (LI xs tch nn H w1 o1) ∧ (G.next ≤ H.next))
    refine loopK I0 (fun v => 41 - v) ((left - 6 * ((tch.length : Int) - a - 1)).toNat) ((hI0 _ _ _).2 ⟨(w), (o), ?_, ?_, ?_, ?_, ?_, ?_, ?_, (by omega), (by exact hI), (by exact Nat.le_refl _)⟩) ?_
    iterate 7 (first | omega | (simp [go_sem, hb4, hb5, hb6, hw, testV, fillV] <;> omega))
    intro v e H hi0
    obtain ⟨w1, o1, q0_0, q1_0, q2_0, q3_0, q4_0, q5_0, q9_0, hv7, hI1, hnx⟩ := (hI0 _ _ _).1 hi0
    have F0 := And.intro q0_0 (And.intro q1_0 (And.intro q2_0 (And.intro q3_0 (And.intro q4_0 (And.intro q5_0 q9_0)))))
    try simp [go_sem, hb4, hb5, hb6, hw, testV, fillV, F0, hI1.b4, hI1.b5, hI1.b6, hI1.wl]
    repeat (first | intro _ | (refine ⟨obl, ?_⟩))
    refine condQ_mk (fun h4 => ?_) (fun h4 => ?_)
    ·try simp [go_sem] at h4
     have hv6 : (v : Int) ≤ 6 ∧ (v : Int) ≤ left := by omega
     have hwl := hI1.wl
     have hk4 : a.toNat < w1.length := by omega
     try simp [go_sem, hb4, hb5, hb6, hw, testV, fillV, F0, hI1.b4, hI1.b5, hI1.b6, hI1.wl, h4, lge hk4]
     repeat (first | intro _ | (refine ⟨obl, ?_⟩))
     unfold callQ; refine ih (k - 1) (by omega) (a + 1) (left - v) (w1.set a.toNat v) o1 _ _ (by omega) (by omega) (by omega) (by omega) (hI1.put a.toNat (by omega) (by simp [go_sem, hb4, hb5, hb6, hw, testV, fillV, F0, hI1.b4, hI1.b5, hI1.b6, hI1.wl, h4, lge hk4]) (fun j hj => by simp [go_sem, hj])) (fun b w2 o2 H2 hI2 hn2 => ?_)
     try simp [go_sem, hb4, hb5, hb6, hw, testV, fillV, F0, hI1.b4, hI1.b5, hI1.b6, hI1.wl, h4, lge hk4]
     repeat (first | intro _ | (refine ⟨obl, ?_⟩))
     refine condQ_mk (fun h7 => ?_) (fun h7 => ?_)
     ·try simp [go_sem] at h7
      try simp [go_sem, hb4, hb5, hb6, hw, testV, fillV, F0, hI1.b4, hI1.b5, hI1.b6, hI1.wl, h4, lge hk4]
      exact hQ _ w2 o2 H2 hI2 (Nat.le_trans hnx (Nat.le_trans (by simp [go_sem]) hn2))
     ·try simp [go_sem] at h7
      try simp [go_sem, hb4, hb5, hb6, hw, testV, fillV, F0, hI1.b4, hI1.b5, hI1.b6, hI1.wl, h4, lge hk4]
      repeat (first | intro _ | (refine ⟨obl, ?_⟩))
      refine nextQ_mk (v + 1) (by omega) ((hI0 _ _ _).2 ⟨(w2), (o2), ?_, ?_, ?_, ?_, ?_, ?_, ?_, (by omega), (by exact hI2), (by (exact Nat.le_trans hnx (Nat.le_trans (by simp [go_sem]) hn2)))⟩) <;> first | omega | (simp [go_sem, hb4, hb5, hb6, hw, testV, fillV, F0, hI1.b4, hI1.b5, hI1.b6, hI1.wl, h4, lge hk4] <;> omega)
    ·try simp [go_sem] at h4
     try simp [go_sem, hb4, hb5, hb6, hw, testV, fillV, F0, hI1.b4, hI1.b5, hI1.b6, hI1.wl]
     exact hQ _ w1 o1 H hI1 hnx
end Go.Abs
end
section
set_option maxRecDepth 8000
open Go Go.Proofs
namespace Go.Abs
theorem weight_least {xs : List (List Int)} {tch : List Int} {nn : Nat} (hX : FX xs tch nn) (G : AHeap) (o : List Int) (hG : FI xs tch nn G o) (hn : G.next = 4) (Q : D → AHeap → Prop)
    (hQ : ∀ d b w' o' H', LI xs tch nn H' w' o' → Q (.tup [d, .bool b]) H') : ACalls Tryz.prog 114 [dI tch.length, testV] G Q := by
  have hfew := hX.few
  refine (acalls_of_body (cfg := ⟨fun t => t == 6 || t == 7, fun _ => []⟩) Tz.mixed Tryz.func114 rfl rfl (nlb rfl) (by kernel_rfl) ?_)
  try simp [go_sem, hn, testV]
  repeat (first | intro _ | (refine ⟨obl, ?_⟩))
  obtain ⟨I0, hI0⟩ := mkI fun s e H => (∃ w1 : List Int, ∃ o1 : List Int, (e 2 = .adr [dI tch.length]) ∧ (e 6 = .ptr 5 1 0 0) ∧ (e 7 = .ptr 6 1 0 0) ∧ (e 14 = dI (6 * (tch.length : Int) + 1)) ∧ (e 15 = dI s) ∧ (s ≤ 37) ∧ (LI xs tch nn H w1 o1))
  refine loopK I0 (fun s => 100 - s) (0) ((hI0 _ _ _).2 ⟨(List.replicate tch.length 0), (o), ?_, ?_, ?_, ?_, ?_, (by omega), (by exact ⟨hG.of (fun j hj => by simp [go_sem, hn, testV, show j ≠ 4 by omega, show j ≠ 5 by omega, show j ≠ 6 by omega]), by simp [go_sem, hn, testV], by simp [go_sem, hn, testV], by simp [go_sem, hn, testV, fillV, testV], by simp, by simp⟩)⟩) ?_
  iterate 5 (first | omega | (simp [go_sem, hn, testV] <;> omega))
  intro s e H hi0
  obtain ⟨w1, o1, q2_0, q6_0, q7_0, q14_0, q15_0, hs, hI1⟩ := (hI0 _ _ _).1 hi0
  have F0 := And.intro q2_0 (And.intro q6_0 (And.intro q7_0 (And.intro q14_0 q15_0)))
  try simp [go_sem, hn, testV, F0, hI1.b5, hI1.b6, fillV, testV]
  refine condQ_mk (fun h5 => ?_) (fun h5 => ?_)
  · try simp [go_sem] at h5
    try simp [go_sem, hn, testV, F0, hI1.b5, hI1.b6, fillV, testV, h5]
    unfold callQ; refine weight_least1 hX tch.length 0 s w1 o1 _ _ (by omega) (by omega) (by omega) (by omega) hI1 (fun b w2 o2 H2 hI2 hn2 => ?_)
    try simp [go_sem, hn, testV, F0, hI1.b5, hI1.b6, fillV, testV, h5]
    refine condQ_mk (fun h7 => ?_) (fun h7 => ?_)
    ·try simp [go_sem] at h7
     have hb5 := hI2.b5
     try simp [go_sem, hn, testV, F0, hI1.b5, hI1.b6, fillV, testV, h5, hb5]
     exact hQ _ _ w2 o2 H2 hI2
    ·try simp [go_sem] at h7
     try simp [go_sem, hn, testV, F0, hI1.b5, hI1.b6, fillV, testV, h5]
     repeat (first | intro _ | (refine ⟨obl, ?_⟩))
     refine nextQ_mk (s + 1) (by omega) ((hI0 _ _ _).2 ⟨(w2), (o2), ?_, ?_, ?_, ?_, ?_, (by omega), (by exact hI2)⟩) <;> first | omega | (simp [go_sem, hn, testV, F0, hI1.b5, hI1.b6, fillV, testV, h5] <;> omega)
  · try simp [go_sem] at h5
    try simp [go_sem, hn, testV, F0, hI1.b5, hI1.b6, fillV, testV]
    exact hQ _ _ w1 o1 H hI1
theorem listE_all {α : Type} {f : α → Int} : ∀ {l : List α}, listE f l = 0 → ∀ x ∈ l, f x = 0 := by
  intro l
  induction l with
  | nil => intro _ x hx; cases hx
  | cons a l ih =>
    intro h x hx
    simp only [listE] at h
    split at h
    ·rename_i h4; exact absurd h h4
    ·rename_i h4
     rcases List.mem_cons.1 hx with rfl | hx
     ·omega
     ·exact ih h x hx
theorem effsE_of {t : Types} {rs : List Rule} (h : effsE t rs = 0) : (validF t).2 = 0 ∧ rs.length ≤ 6 ∧ listE (effE t) rs = 0 ∧ (∀ r ∈ rs, effE t r = 0) ∧ (touchL (t.nodes.length + t.edges.length) (rs.map (effV t))).length ≤ 6 := by
  unfold effsE at h
  split at h
  · rename_i h1; exact absurd h h1
  · split at h
    ·cases h
    ·split at h
     ·rename_i h1; exact absurd h h1
     ·split at h
      ·cases h
      ·rename_i h1 h2 h3 h4
       exact ⟨by omega, by omega, by omega, listE_all (by omega), by omega⟩
theorem touchL_mem {n : Nat} {ls : List (List Int)} : ∀ v ∈ touchL n ls, 0 ≤ v ∧ v < n := fun v hv => by
  unfold touchL at hv
  rw [List.mem_map] at hv
  obtain ⟨k, hk, rfl⟩ := hv
  have := List.mem_range.1 (List.mem_filter.1 hk).1
  omega
theorem FX_of {t : Types} {rs : List Rule} (h : effsE t rs = 0) : FX (effsV t rs) (effsT t rs) (t.nodes.length + t.edges.length) := by
  obtain ⟨h1, h2, h3, h4, h5⟩ := effsE_of h
  have hv := valid_of h1
  have hN := hv.fewN
  have hE := hv.fewE
  have e1 : effsV t rs = rs.map (effV t) := if_pos h
  have e2 : effsT t rs = touchL (t.nodes.length + t.edges.length) (rs.map (effV t)) := if_pos h
  refine ⟨fun l hl => ?_, fun l hl => ?_, fun v hv => ?_, by rw [e2]; exact h5, by omega⟩
  · rw [e1, List.mem_map] at hl
    obtain ⟨r, hr, rfl⟩ := hl
    exact effV_len (h4 r hr)
  · rw [e1, List.mem_map] at hl
    obtain ⟨r, hr, rfl⟩ := hl
    exact effV_bound
  · rw [e2] at hv; exact touchL_mem v hv
theorem weight_FindC (t : Types) (ht : t.ok) (rs : List Rule) (hr : ∀ r ∈ rs, r.ok) (Q : D → AHeap → Prop)
    (hQ : ∀ d e H', (e = effsE t rs ∨ effsE t rs = 0 ∧ e = 10) → (rsvT H' (.tup [d, dI e])).cl = true → Q (.tup [d, dI e]) H') : ACalls Tryz.prog 70 [t.d, .list (rs.map Rule.c)] .emp Q := by
  refine (acalls_of_body (cfg := ⟨fun t => t == 6 || t == 7 || t == 9, fun _ => []⟩) Tz.mixed Tryz.func70 rfl rfl (nlb rfl) (by kernel_rfl) ?_)
  try simp [go_sem]
  refine cq0 (weight_effects t ht rs hr) ?_
  try simp [go_sem]
  refine condQ_mk (fun h2 => ?_) (fun h2 => ?_)
  · try simp [go_sem] at h2
    try simp [go_sem]
    exact hQ _ _ _ (.inl rfl) (by simp [go_sem])
  · try simp [go_sem] at h2
    have hX := FX_of h2
    have hv := valid_of (effsE_of h2).1
    have hN := hv.fewN
    have hE := hv.fewE
    have hz : ((t.nodes.length : Int) + t.edges.length).toNat = t.nodes.length + t.edges.length := by omega
    try simp [go_sem, hz]
    repeat (first | intro _ | (refine ⟨obl, ?_⟩))
    unfold callQ; refine weight_least hX _ (List.replicate (t.nodes.length + t.edges.length) 0) ⟨by simp [go_sem, hz], by simp [go_sem, hz], by simp [go_sem, hz], by simp [go_sem, hz], by simp, by simp⟩ (by simp [go_sem]) _ (fun d b w2 o2 H2 hI2 => ?_)
    try simp [go_sem, hz]
    repeat (first | intro _ | (refine ⟨obl, ?_⟩))
    refine condQ_mk (fun h6 => ?_) (fun h6 => ?_)
    ·try simp [go_sem] at h6
     try simp [go_sem, hz]
     exact hQ _ _ _ (.inr ⟨h2, rfl⟩) (by simp [go_sem])
    ·try simp [go_sem] at h6
     have hb2 := hI2.fi.b2
     have hb3 := hI2.fi.b3
     have hln := hI2.fi.len
     try simp [go_sem, hz, hb2, hb3, hln]
     exact hQ _ _ _ (.inl h2.symm) (by simp [go_sem, hz, hb2, hb3, hln])
theorem weight_Find (t : Types) (ht : t.ok) (rs : List Rule) (hr : ∀ r ∈ rs, r.ok) : PureE Tryz.prog 70 [t.d, .list (rs.map Rule.c)] (fun r => ∃ v e, r = .tup [v, dI e] ∧ (e = effsE t rs ∨ effsE t rs = 0 ∧ e = 10)) :=
  pureE_of_calls (weight_FindC t ht rs hr _ fun d e H' h hc => ⟨⟨rsvD H' d, e, rfl, h⟩, hc⟩)
end Go.Abs
end
section
set_option maxRecDepth 8000
open Go Go.Proofs
namespace Go.Abs
theorem firstE_le {f : Nat → Int} (h : ∀ k, f k ≤ 7) : ∀ n k, firstE f k n ≤ 7
  | 0, k => by simp [firstE]
  | n + 1, k => by simp only [firstE]; split; exact h k; exact firstE_le h n _
theorem namesE_le : ∀ (r l : List ByteArray), namesE l r ≤ 7
  | [], l => by simp [namesE]
  | s :: r, l => by
    simp only [namesE]; split
    ·omega
    ·split
     ·omega
     ·exact namesE_le r _
theorem attributeF_le (x : Attr) (b : List Attr) : attributeF x b ≤ 7 := by
  have h : namesF x.names ≤ 7 := by
    unfold namesF; split
    ·omega
    ·exact namesE_le _ _
  unfold attributeF
  split
  · omega
  · split
    ·omega
    ·split
     ·exact h
     ·split <;> omega
theorem nodeF_le (t : Types) (i : Nat) : nodeF t i ≤ 7 := by
  unfold nodeF
  split
  · omega
  · split
    ·omega
    ·split
     ·omega
     ·split
      ·omega
      ·split
       ·omega
       ·split
        ·omega
        ·refine firstE_le (fun k => ?_) _ _
         split
         ·exact attributeF_le _ _
         ·omega
theorem edgeF_le (t : Types) (i : Nat) : edgeF t i ≤ 7 := by
  unfold edgeF
  split
  · omega
  · split
    ·omega
    ·split
     ·omega
     ·split <;> omega
theorem firstNE_le {f : Nat → Int} (h : ∀ k, f k ≤ 7) {nm : Nat → ByteArray} {last : ByteArray × Int} (hl : last.2 ≤ 7) : ∀ n k, (firstNE f nm last k n).2 ≤ 7
  | 0, k => by simpa [firstNE] using hl
  | n + 1, k => by simp only [firstNE]; split; exact h k; exact firstNE_le h hl n _
theorem validF_le (t : Types) : (validF t).2 ≤ 7 := by
  unfold validF
  split
  · decide
  · split
    ·decide
    ·exact firstNE_le (nodeF_le t) (firstNE_le (edgeF_le t) (by decide) _ _) _ _
theorem counting_effects (t : Types) (ht : t.ok) (rs : List Rule) (hr : ∀ r ∈ rs, r.ok) : Pure Tryz.prog 38 [t.d, .list (rs.map Rule.c)] (.tup [.list ((effsV t rs).map cL), dI (effsE t rs)]) := by
  have hvl := validF_le t
  have hE0 : effsE t rs = 10 → listE (effE t) rs = 10 ∧ rs.length ≤ 6 := by
    intro h
    unfold effsE at h
    split at h
    ·omega
    ·split at h
     ·omega
     ·split at h
      ·exact ⟨h, by omega⟩
      ·split at h <;> omega
  refine Tz.pK ⟨fun t => t == 8 || t == 10, fun _ => []⟩ Tryz.func38 rfl (fun Q hQ => ?_)
  try simp [go_sem]
  unfold callQ; refine ACalls.pureE (weight_Find t ht rs hr) (by simp [go_sem]) (fun r hR hrc => ?_); obtain ⟨v, e0, rfl, he0⟩ := hR
  try simp [go_sem]
  repeat (first | intro _ | (refine ⟨obl, ?_⟩))
  refine condQ_mk (fun h2 => ?_) (fun h2 => ?_)
  · try simp [go_sem] at h2
    have hE : effsE t rs = e0 := by omega
    have hV : effsV t rs = [] := if_neg (by omega)
    try simp [go_sem]
    exact hQ _ _ (by first | (left; (simp [go_sem, hE, hV]); done) | (right; (simp [go_sem, hE, hV]); done))
  · try simp [go_sem] at h2
    have hE1 : effsE t rs = 0 ∨ effsE t rs = 10 := by omega
    have hEq : effsE t rs = listE (effE t) rs := by
     rcases hE1 with h | h
     ·rw [h, (effsE_of h).2.2.1]
     ·rw [h, (hE0 h).1]
    have hlen : rs.length ≤ 6 := by
     rcases hE1 with h | h
     ·exact (effsE_of h).2.1
     ·exact (hE0 h).2
    try simp [go_sem]
    repeat (first | intro _ | (refine ⟨obl, ?_⟩))
    obtain ⟨I0, hI0⟩ := mkI fun i e H => (∃ xs : List (List Int), (e 2 = .adr t.c) ∧ (e 1 = .list (rs.map Rule.c)) ∧ (e 8 = .own 0 xs.length) ∧ (e 26 = .list (rs.map Rule.c)) ∧ (e 27 = dI rs.length) ∧ (e 28 = dI i) ∧ (H.get 0 = some ⟨31, 1, xs.map cL, false⟩) ∧ (0 < H.next) ∧ (i ≤ rs.length) ∧ (xs = (rs.take i).map (effV t)) ∧ (listE (effE t) (rs.drop i) = listE (effE t) rs))
    refine loopK I0 (fun i => rs.length - i) (0) ((hI0 _ _ _).2 ⟨([]), ?_, ?_, ?_, ?_, ?_, ?_, ?_, ?_, (by first | assumption | omega | (simp [go_sem]; done) | (simp_all; done)), (by rfl), (by rfl)⟩) ?_
    iterate 8 (first | omega | (simp [go_sem] <;> omega))
    intro i e H hi0
    obtain ⟨xs, q2_0, q1_0, q8_0, q26_0, q27_0, q28_0, g0_0, n0_0, hi, hx, hL⟩ := (hI0 _ _ _).1 hi0
    have x0 := frs n0_0
    have F0 := And.intro q2_0 (And.intro q1_0 (And.intro q8_0 (And.intro q26_0 (And.intro q27_0 (And.intro q28_0 (And.intro g0_0 x0))))))
    try simp [go_sem, F0]
    refine condQ_mk (fun h6 => ?_) (fun h6 => ?_)
    ·try simp [go_sem] at h6
     have hst := hL
     rw [listE_step _ h6] at hst
     have hxl : xs.length = i := by rw [hx]; simp; omega
     try simp [go_sem, F0, h6]
     repeat (first | intro _ | (refine ⟨obl, ?_⟩))
     refine cq0 (weight_Effect t ht rs[i] (hr _ (lgm h6))) ?_
     try simp [go_sem, F0, h6]
     repeat (first | intro _ | (refine ⟨obl, ?_⟩))
     refine condQ_mk (fun h9 => ?_) (fun h9 => ?_)
     ·try simp [go_sem] at h9
      rw [if_pos (by omega)] at hst
      have hV : effsV t rs = [] := if_neg (by omega)
      try simp [go_sem, F0, h6]
      exact hQ _ _ (by first | (left; (simp [go_sem, hEq, hV, ← hst]); done) | (right; (simp [go_sem, hEq, hV, ← hst]); done))
     ·try simp [go_sem] at h9
      rw [if_neg (by omega)] at hst
      try simp [go_sem, F0, h6]
      repeat (first | intro _ | (refine ⟨obl, ?_⟩))
      refine nextQ_mk (i + 1) (by omega) ((hI0 _ _ _).2 ⟨(xs ++ [effV t rs[i]]), ?_, ?_, ?_, ?_, ?_, ?_, ?_, ?_, (by first | assumption | omega | (simp [go_sem, F0, h6, h2, h9]; done) | (simp_all <;> omega)), (by (rw [map_take_succ _ h6, ← hx])), (by exact hst)⟩) <;> first | omega | (simp [go_sem, F0, h6] <;> omega)
    ·try simp [go_sem] at h6
     have hX : xs = rs.map (effV t) := by rw [hx, map_take_end _ (by omega)]
     have hL0 : listE (effE t) rs = 0 := by rw [← hL, listE_end _ (by omega)]
     have hV : effsV t rs = rs.map (effV t) := if_pos (by omega)
     try simp [go_sem, F0]
     exact hQ _ _ (.inl (by simp [go_sem, F0, hEq, hL0, hV, ← hX]))
end Go.Abs
end
