/- The slots and the condition of a drafted rule; a plain rule. -/
import Derived.Test.YthnegcfdjjhfgaaGreatZmA
import Derived.Test.YthnegcfdjjhfgaaGreatZmR
set_option linter.unusedVariables false
set_option linter.unusedSimpArgs false
section
set_option maxRecDepth 8000
set_option maxHeartbeats 4000000
open Go Go.Proofs
namespace Go.Abs
def tightS (vars : Int) (ns : List Int) (la : Nat) (x : B3) : Slot := ⟨(x.1.toNat : Int).tmod ns.length, (x.2.1.toNat : Int).tmod la, ⟨((x.2.1.toNat : Int) / 16).tmod (vars + 1) - 1, (x.2.2.toNat : Int).tmod 3⟩⟩
def twinB (s y : Slot) : Bool := y.node == s.node && y.attr == s.attr
def s24S (t : Types) (vars : Int) (ns : List Int) (out : List Slot) (x : B3) : List Slot :=
  if (attrsT t (nN ns ((x.1.toNat : Int).tmod ns.length))).length = 0 then out
  else if out.any (twinB (tightS vars ns (attrsT t (nN ns ((x.1.toNat : Int).tmod ns.length))).length x)) = true then out
  else out ++ [tightS vars ns (attrsT t (nN ns ((x.1.toNat : Int).tmod ns.length))).length x]
def s24F (t : Types) (vars : Int) (ns : List Int) (l : List B3) (k : Nat) : List Slot := (List.range k).foldl (fun out i => s24S t vars ns out (l[i]?.getD (0, 0, 0))) []
def slots24 (t : Types) (ns : List Int) (vars : Int) (l : List B3) : List Slot := s24F t vars ns l (if ns.length = 0 then 0 else min l.length 3)
theorem s24F_succ (t : Types) (vars : Int) (ns : List Int) (l : List B3) (k : Nat) : s24F t vars ns l (k + 1) = s24S t vars ns (s24F t vars ns l k) (l[k]?.getD (0, 0, 0)) := by simp [s24F, List.range_succ]
theorem s24S_len (t : Types) (vars : Int) (ns : List Int) (out : List Slot) (x : B3) : (s24S t vars ns out x).length ≤ out.length + 1 := by
  unfold s24S; split
  · omega
  · split
    ·omega
    ·simp
theorem s24F_len (t : Types) (vars : Int) (ns : List Int) (l : List B3) : ∀ k, (s24F t vars ns l k).length ≤ k
  | 0 => by simp [s24F]
  | k + 1 => by rw [s24F_succ]; have := s24S_len t vars ns (s24F t vars ns l k) (l[k]?.getD (0, 0, 0)); have := s24F_len t vars ns l k; omega
theorem ref24_slots (t : Types) (ht : t.fine) (g : Graph) (vars : Int) (hv : 0 ≤ vars ∧ vars ≤ 1000) (l : List B3) : Pure Tryz.prog 105 [t.d, g.d, dI vars, .list (l.map cT3)] (.list ((slots24 t g.nodes vars l).map Slot.c)) := by
  refine Tz.pK ⟨fun t => t == 9 || t == 14, fun r => match r with | 8 => [(3, 30), (4, 30), (5, 30), (8, 30), (12, 30), (13, 30), (14, 30), (23, 30), (24, 30), (25, 30)] | _ => []⟩ Tryz.func105 rfl (fun Q hQ => ?_)
  try simp [go_sem, seval]
  obtain ⟨I0, hI0⟩ := mkI fun i e H => (∃ out : List Slot, (e 4 = .adr t.c) ∧ (e 5 = .adr g.c) ∧ (e 2 = dI vars) ∧ (e 3 = .list (l.map cT3)) ∧ (e 9 = .own 0 out.length) ∧ (e 10 = dI i) ∧ (H.get 0 = some ⟨150, 4, out.map Slot.c, false⟩) ∧ (0 < H.next) ∧ (i ≤ 3) ∧ (i ≤ l.length) ∧ (g.nodes.length = 0 → i = 0) ∧ (out = s24F t vars g.nodes l i))
  refine loopK I0 (fun i => 3 - i) (0) ((hI0 _ _ _).2 ⟨([]), ?_, ?_, ?_, ?_, ?_, ?_, ?_, ?_, (by first | assumption | omega | (simp [go_sem]; done) | (simp_all; done)), (by first | assumption | omega | (simp [go_sem]; done) | (simp_all; done)), (by (intro _; rfl)), (by rfl)⟩) ?_
  iterate 8 (first | omega | (simp [go_sem, seval] <;> omega))
  intro i e H hi0
  obtain ⟨out, q4_0, q5_0, q2_0, q3_0, q9_0, q10_0, g0_0, n0_0, hi, hil, hz, ho⟩ := (hI0 _ _ _).1 hi0
  have x0 := frs n0_0
  have F0 := And.intro q4_0 (And.intro q5_0 (And.intro q2_0 (And.intro q3_0 (And.intro q9_0 (And.intro q10_0 (And.intro g0_0 x0))))))
  try simp [go_sem, seval, F0]
  repeat first | intro _ | refine ⟨obs, ?_⟩
  refine condQ_mk (fun h3 => ?_) (fun h3 => ?_)
  · try simp [go_sem] at h3
    have hkl : i < l.length := by omega
    have hn0 : 0 < g.nodes.length := by omega
    have hnn0 : ¬g.nodes = [] := by intro h; rw [h] at hn0; simp at hn0
    obtain ⟨x, hx⟩ : ∃ x, l[i] = x := ⟨_, rfl⟩
    have hgx : l[i]?.getD (0, 0, 0) = x := by rw [lge hkl, ← hx]; rfl
    have hx1 := u8_lt x.1
    have hx2 := u8_lt x.2.1
    have hx3 := u8_lt x.2.2
    have t1 := tmod_in (show 0 ≤ (x.1.toNat : Int) by omega) (show (0 : Int) < g.nodes.length by omega)
    have hf : ((x.1.toNat : Int).tmod g.nodes.length).toNat < g.nodes.length := by omega
    have hnn : nN g.nodes ((x.1.toNat : Int).tmod g.nodes.length) = g.nodes[((x.1.toNat : Int).tmod g.nodes.length).toNat] := by unfold nN; rw [lge hf]; rfl
    have hne0 : (g.nodes.length : Int) ≠ 0 := by omega
    have hlen := s24F_len t vars g.nodes l i
    rw [← ho] at hlen
    have hS : s24F t vars g.nodes l (i + 1) = s24S t vars g.nodes out x := by rw [s24F_succ, hgx, ← ho]
    unfold s24S at hS
    rw [hnn] at hS
    have nx := nxs H.next
    try simp [go_sem, seval, F0, h3, lge hkl, hx, cT3, lge hf, hne0, nx]
    repeat first | intro _ | refine ⟨obs, ?_⟩
    refine dcallQ_pure0 (ref04_Attrs t ht.ok _) ((by first | rfl | (simp [go_sem, ← List.map_take, ← List.map_drop, F0, h3, lge hkl, hx, cT3, lge hf, hne0, nx]; done))) ?_
    try simp [go_sem, seval, F0, h3, lge hkl, hx, cT3, lge hf, hne0, nx]
    repeat first | intro _ | refine ⟨obs, ?_⟩
    refine condQ_mk (fun h7 => ?_) (fun h7 => ?_)
    ·try simp [go_sem] at h7
     rw [if_pos (by rw [h7]; rfl)] at hS
     obtain ⟨out', hout⟩ : ∃ y : List Slot, y = out := ⟨_, rfl⟩
     have ho' : out' = s24F t vars g.nodes l (i + 1) := by rw [hS, hout]
     try simp [go_sem, seval, F0, h3, lge hkl, hx, cT3, lge hf, hne0, nx, hout]
     repeat first | intro _ | refine ⟨obs, ?_⟩
     refine nextQ_mk (i + 1) (by omega) ((hI0 _ _ _).2 ⟨(out'), ?_, ?_, ?_, ?_, ?_, ?_, ?_, ?_, (by first | assumption | omega | (simp [go_sem, F0, h3, lge hkl, hx, cT3, lge hf, hne0, nx, hout, h7]; done) | (simp_all <;> omega)), (by first | assumption | omega | (simp [go_sem, F0, h3, lge hkl, hx, cT3, lge hf, hne0, nx, hout, h7]; done) | (simp_all <;> omega)), (by omega), (by exact ho')⟩) <;> first | omega | (simp [go_sem, seval, F0, h3, lge hkl, hx, cT3, lge hf, hne0, nx, hout] <;> omega)
    ·try simp [go_sem] at h7
     rw [if_neg (fun h => h7 (List.length_eq_zero_iff.1 h))] at hS
     obtain ⟨la, hla⟩ : ∃ la, (attrsT t g.nodes[((x.1.toNat : Int).tmod g.nodes.length).toNat]).length = la := ⟨_, rfl⟩
     rw [hla] at hS
     have hla0 : 0 < la := by rw [← hla]; exact List.length_pos_iff.2 h7
     have t2 := tmod_in (show 0 ≤ (x.2.1.toNat : Int) by omega) (show (0 : Int) < la by omega)
     have t3 := tmod_in (show 0 ≤ (x.2.1.toNat : Int) / 16 by omega) (show 0 < vars + 1 by omega)
     have t4 := tmod_in (show 0 ≤ (x.2.2.toNat : Int) by omega) (show (0 : Int) < 3 by omega)
     have hu := inR_u8 (show 0 ≤ (x.2.1.toNat : Int) / 16 by omega) (by omega)
     have hne1 : (la : Int) ≠ 0 := by omega
     have hne2 : vars + 1 ≠ 0 := by omega
     obtain ⟨s, hs⟩ : ∃ s, tightS vars g.nodes la x = s := ⟨_, rfl⟩
     have hsn : s.node = (x.1.toNat : Int).tmod g.nodes.length := by rw [← hs]; rfl
     have hsa : s.attr = (x.2.1.toNat : Int).tmod la := by rw [← hs]; rfl
     have hsv : s.term.var = ((x.2.1.toNat : Int) / 16).tmod (vars + 1) - 1 := by rw [← hs]; rfl
     have hsd : s.term.add = (x.2.2.toNat : Int).tmod 3 := by rw [← hs]; rfl
     rw [hs] at hS
     try simp [go_sem, seval, F0, h3, lge hkl, hx, cT3, lge hf, hne0, nx, h7, hla, hne1, hne2, hsn, hsa, hsv, hsd]
     repeat first | intro _ | refine ⟨obs, ?_⟩
     obtain ⟨I2, hI2⟩ := mkI fun k e H => (∃ b14 : Nat, (e 4 = .adr t.c) ∧ (e 5 = .adr g.c) ∧ (e 2 = dI vars) ∧ (e 3 = .list (l.map cT3)) ∧ (e 9 = .own 0 out.length) ∧ (e 10 = dI i) ∧ (e 14 = .ptr b14 1 0 0) ∧ (e 15 = .bool ((out.take k).any (twinB s))) ∧ (e 16 = dI k) ∧ (H.get 0 = some ⟨150, 4, out.map Slot.c, false⟩) ∧ (0 < H.next) ∧ (H.get b14 = some ⟨150, 4, [[dI s.node, dI s.attr, dI s.term.var, dI s.term.add]], false⟩) ∧ (b14 < H.next) ∧ (k ≤ out.length) ∧ (0 < b14))
     refine loopK I2 (fun k => out.length - k) (0) ((hI2 _ _ _).2 ⟨(H.next + 11 + 12 + 30), ?_, ?_, ?_, ?_, ?_, ?_, ?_, ?_, ?_, ?_, ?_, (by (simp [go_sem, F0, h3, lge hkl, hx, cT3, lge hf, hne0, nx, h7, hla, hne1, hne2, hsn, hsa, hsv, hsd, dI])), ?_, (by first | assumption | omega | (simp [go_sem, F0, h3, lge hkl, hx, cT3, lge hf, hne0, nx, h7, hla, hne1, hne2, hsn, hsa, hsv, hsd]; done) | (simp_all; done)), (by omega)⟩) ?_
     iterate 12 (first | omega | (simp [go_sem, seval, F0, h3, lge hkl, hx, cT3, lge hf, hne0, nx, h7, hla, hne1, hne2, hsn, hsa, hsv, hsd] <;> omega))
     intro k e H hi2
     obtain ⟨b14, q4_2, q5_2, q2_2, q3_2, q9_2, q10_2, q14_2, q15_2, q16_2, g0_2, n0_2, gb14_2, nb14_2, hk, hb14⟩ := (hI2 _ _ _).1 hi2
     have x0 := frs n0_2
     have xb14 := frs nb14_2
     have F2 := And.intro q4_2 (And.intro q5_2 (And.intro q2_2 (And.intro q3_2 (And.intro q9_2 (And.intro q10_2 (And.intro q14_2 (And.intro q16_2 (And.intro g0_2 (And.intro gb14_2 (And.intro x0 xb14))))))))))
     have di1 := nep (show b14 ≠ 0 by omega)
     try simp [go_sem, seval, h3, lge hkl, hx, cT3, lge hf, hne0, nx, h7, hla, hne1, hne2, hsn, hsa, hsv, hsd, F2, q15_2, di1]
     repeat first | intro _ | refine ⟨obs, ?_⟩
     refine condQ_mk (fun h11 => ?_) (fun h11 => ?_)
     ·try simp [go_sem] at h11
      have hts : (out.take (k + 1)).any (twinB s) = ((out.take k).any (twinB s) || (decide (out[k].node = (x.1.toNat : Int).tmod g.nodes.length) && out[k].attr == (x.2.1.toNat : Int).tmod la)) := by
       rw [List.take_succ_eq_append_getElem h11, List.any_append, List.any_cons, List.any_nil, Bool.or_false, ← hsn, ← hsa]; rfl
      obtain ⟨bb, hbb⟩ : ∃ bb, (out.take k).any (twinB s) = bb := ⟨_, rfl⟩
      rw [hbb] at q15_2 hts
      try simp [go_sem, seval, h3, lge hkl, hx, cT3, lge hf, hne0, nx, h7, hla, hne1, hne2, hsn, hsa, hsv, hsd, F2, q15_2, di1, h11, lge h11, hts]
      repeat first | intro _ | refine ⟨obs, ?_⟩
      refine nextQ_mk (k + 1) (by omega) ((hI2 _ _ _).2 ⟨(b14), ?_, ?_, ?_, ?_, ?_, ?_, ?_, ?_, ?_, ?_, ?_, (by (simp [go_sem, h3, lge hkl, hx, cT3, lge hf, hne0, nx, h7, hla, hne1, hne2, hsn, hsa, hsv, hsd, F2, q15_2, di1, h11, lge h11, hts])), ?_, (by first | assumption | omega | (simp [go_sem, h3, lge hkl, hx, cT3, lge hf, hne0, nx, h7, hla, hne1, hne2, hsn, hsa, hsv, hsd, F2, q15_2, di1, h11, lge h11, hts]; done) | (simp_all <;> omega)), (by omega)⟩) <;> first | omega | (simp [go_sem, seval, h3, lge hkl, hx, cT3, lge hf, hne0, nx, h7, hla, hne1, hne2, hsn, hsa, hsv, hsd, F2, q15_2, di1, h11, lge h11, hts] <;> omega)
     ·try simp [go_sem] at h11
      have hK : out.take k = out := List.take_of_length_le (by omega)
      rw [hK] at q15_2
      try simp [go_sem, seval, h3, lge hkl, hx, cT3, lge hf, hne0, nx, h7, hla, hne1, hne2, hsn, hsa, hsv, hsd, F2, q15_2, di1, hK]
      repeat first | intro _ | refine ⟨obs, ?_⟩
      refine condQ_mk (fun h14 => ?_) (fun h14 => ?_)
      ·try simp [go_sem] at h14
       rw [if_neg (by simpa using h14)] at hS
       obtain ⟨out', hout⟩ : ∃ y : List Slot, y = out ++ [s] := ⟨_, rfl⟩
       have ho' : out' = s24F t vars g.nodes l (i + 1) := by rw [hS, hout]
       try simp [go_sem, seval, h3, lge hkl, hx, cT3, lge hf, hne0, nx, h7, hla, hne1, hne2, hsn, hsa, hsv, hsd, F2, q15_2, di1, hK, hout]
       repeat first | intro _ | refine ⟨obs, ?_⟩
       refine nextQ_mk (i + 1) (by omega) ((hI0 _ _ _).2 ⟨(out'), ?_, ?_, ?_, ?_, ?_, ?_, ?_, ?_, (by first | assumption | omega | (simp [go_sem, h3, lge hkl, hx, cT3, lge hf, hne0, nx, h7, hla, hne1, hne2, hsn, hsa, hsv, hsd, F2, q15_2, di1, hK, hout, h11, h14]; done) | (simp_all <;> omega)), (by first | assumption | omega | (simp [go_sem, h3, lge hkl, hx, cT3, lge hf, hne0, nx, h7, hla, hne1, hne2, hsn, hsa, hsv, hsd, F2, q15_2, di1, hK, hout, h11, h14]; done) | (simp_all <;> omega)), (by omega), (by exact ho')⟩) <;> first | omega | (simp [go_sem, seval, h3, lge hkl, hx, cT3, lge hf, hne0, nx, h7, hla, hne1, hne2, hsn, hsa, hsv, hsd, F2, q15_2, di1, hK, hout] <;> omega)
      ·try simp [go_sem] at h14
       rw [if_pos (by simpa using h14)] at hS
       obtain ⟨out', hout⟩ : ∃ y : List Slot, y = out := ⟨_, rfl⟩
       have ho' : out' = s24F t vars g.nodes l (i + 1) := by rw [hS, hout]
       try simp [go_sem, seval, h3, lge hkl, hx, cT3, lge hf, hne0, nx, h7, hla, hne1, hne2, hsn, hsa, hsv, hsd, F2, q15_2, di1, hK, hout]
       repeat first | intro _ | refine ⟨obs, ?_⟩
       refine nextQ_mk (i + 1) (by omega) ((hI0 _ _ _).2 ⟨(out'), ?_, ?_, ?_, ?_, ?_, ?_, ?_, ?_, (by first | assumption | omega | (simp [go_sem, h3, lge hkl, hx, cT3, lge hf, hne0, nx, h7, hla, hne1, hne2, hsn, hsa, hsv, hsd, F2, q15_2, di1, hK, hout, h11, h14]; done) | (simp_all <;> omega)), (by first | assumption | omega | (simp [go_sem, h3, lge hkl, hx, cT3, lge hf, hne0, nx, h7, hla, hne1, hne2, hsn, hsa, hsv, hsd, F2, q15_2, di1, hK, hout, h11, h14]; done) | (simp_all <;> omega)), (by omega), (by exact ho')⟩) <;> first | omega | (simp [go_sem, seval, h3, lge hkl, hx, cT3, lge hf, hne0, nx, h7, hla, hne1, hne2, hsn, hsa, hsv, hsd, F2, q15_2, di1, hK, hout] <;> omega)
  · try simp [go_sem] at h3
    have hI : i = (if g.nodes.length = 0 then 0 else min l.length 3) := by
     split
     ·rename_i h; exact hz h
     ·rename_i h
      have hq : ¬ (i < l.length ∧ i < 3) := fun hh => h (by rw [h3 hh.1 (by omega)]; rfl)
      omega
    have hfin : slots24 t g.nodes vars l = out := by unfold slots24; rw [← hI, ho]
    try simp [go_sem, seval, F0]
    exact hQ _ _ (by first | (left; (simp [go_sem, F0, hfin]); done) | (right; (simp [go_sem, F0, hfin]); done))
def plain24 (r : Rule) : Rule := ⟨r.name, ⟨r.left.graph, [], 0, []⟩, ⟨r.right.graph, [], 0, []⟩, r.keep, r.into, r.inj, trueC⟩
theorem ref24_plain (r : Rule) (h1 : r.left.graph.nodes.length ≤ 1000 ∧ r.left.graph.edges.length ≤ 1000) (h2 : r.right.graph.nodes.length ≤ 1000 ∧ r.right.graph.edges.length ≤ 1000) (h3 : r.keep.nodes.length ≤ 1000 ∧ r.keep.edges.length ≤ 1000) (h4 : r.into.nodes.length ≤ 1000 ∧ r.into.edges.length ≤ 1000) : Pure Tryz.prog 107 [r.d] (plain24 r).d := by
  refine pureKA (by first | rfl | (simp [go_sem]; done)) (fun Q hQ => (acalls_of_body (cfg := ⟨fun t => t == 2 || t == 15 || t == 20 || t == 26 || t == 31, fun r => match r with | 1 => [(0, 12), (1, 12), (2, 12), (3, 12), (4, 12), (5, 12), (7, 12), (8, 12), (9, 12), (10, 12), (12, 13), (12, 14), (12, 15), (0, 16), (1, 16), (0, 17), (1, 17), (2, 17), (3, 17), (4, 17), (5, 17), (7, 17), (8, 17), (9, 17), (10, 17), (12, 17), (13, 17), (14, 17), (15, 17), (16, 17), (12, 18), (16, 18), (17, 18), (12, 19), (16, 19), (17, 19), (12, 20), (16, 20), (17, 20), (0, 21), (1, 21), (0, 23), (1, 23), (2, 23), (3, 23), (4, 23), (5, 23), (7, 23), (8, 23), (9, 23), (10, 23), (12, 23), (13, 23), (14, 23), (15, 23), (16, 23), (17, 23), (18, 23), (19, 23), (20, 23), (21, 23), (12, 24), (16, 24), (17, 24), (21, 24), (23, 24), (12, 25), (16, 25), (17, 25), (21, 25), (23, 25), (12, 26), (16, 26), (17, 26), (21, 26), (23, 26), (0, 27), (1, 27), (0, 28), (1, 28), (2, 28), (3, 28), (4, 28), (5, 28), (7, 28), (8, 28), (9, 28), (10, 28), (12, 28), (13, 28), (14, 28), (15, 28), (16, 28), (17, 28), (18, 28), (19, 28), (20, 28), (21, 28), (23, 28), (24, 28), (25, 28), (26, 28), (27, 28), (12, 29), (16, 29), (17, 29), (21, 29), (23, 29), (27, 29), (28, 29), (12, 30), (16, 30), (17, 30), (21, 30), (23, 30), (27, 30), (28, 30), (12, 31), (16, 31), (17, 31), (21, 31), (23, 31), (27, 31), (28, 31), (0, 32), (1, 32), (12, 34), (16, 34), (17, 34), (21, 34), (23, 34), (27, 34), (28, 34), (32, 34), (12, 35), (16, 35), (17, 35), (21, 35), (23, 35), (27, 35), (28, 35), (32, 35)] | _ => []⟩) Tz.mixed Tryz.func107 rfl rfl (nlb rfl) (by kernel_rfl) ?_))
  try simp [go_sem, seval]
  repeat (first | intro _ | (refine ⟨obl, ?_⟩))
  refine dcallQ_pure0 (ref05_CopiedP r.left.graph (by omega) (by omega)) ((by first | rfl | (simp [go_sem, ← List.map_take, ← List.map_drop]; done))) ?_
  try simp [go_sem, seval]
  repeat (first | intro _ | (refine ⟨obl, ?_⟩))
  refine dcallQ_pure0 (ref05_CopiedP r.right.graph (by omega) (by omega)) ((by first | rfl | (simp [go_sem, ← List.map_take, ← List.map_drop]; done))) ?_
  try simp [go_sem, seval]
  repeat (first | intro _ | (refine ⟨obl, ?_⟩))
  exact hQ _ _ (by simp [go_sem, nz_ints, nz_edges, plain24, trueC, Rule.d, Rule.c, Cond.kind, Cond.kids, Cond.map, Cond.pattern])
end Go.Abs
end
section
set_option maxRecDepth 8000
set_option maxHeartbeats 4000000
open Go Go.Proofs
namespace Go.Abs
theorem nzAss_append (a b : List (List D)) : nzAss (a ++ b) = nzAss a ++ nzAss b := by simp [nzAss_map]
def forbC (p : Pattern) (g : Graph) : Cond := .mk 2 [.mk 5 [trueC] ⟨numL p.graph.nodes.length, numL p.graph.edges.length⟩ ⟨g, [], p.vars, []⟩] ⟨[], []⟩ ⟨⟨[], []⟩, [], 0, []⟩
def forb (t : Types) (p : Pattern) (x : B4) : Cond :=
  if (x.1.toNat : Int).tmod 4 = 1 then forbC p ⟨p.graph.nodes ++ [(x.2.1.toNat : Int).tmod t.nodes.length], p.graph.edges⟩
  else if (x.1.toNat : Int).tmod 4 = 2 then
    if p.graph.nodes.length = 0 ∨ t.edges.length = 0 then trueC
    else forbC p ⟨p.graph.nodes, p.graph.edges ++ [⟨(x.2.1.toNat : Int).tmod t.edges.length, (x.2.2.1.toNat : Int).tmod p.graph.nodes.length, (x.2.2.2.toNat : Int).tmod p.graph.nodes.length⟩]⟩
  else trueC
theorem ref24_forbid (t : Types) (ht : t.fine) (p : Pattern) (h1 : p.graph.nodes.length ≤ 1000) (h2 : p.graph.edges.length ≤ 1000) (x : B4) : Pure Tryz.prog 106 [t.d, p.d, .agg (cU4 x)] (.agg (forb t p x).c) := by
  have hfN := ht.ok.fewN
  have hfE := ht.ok.fewE
  have hne := ht.valid.ne
  have hx1 := u8_lt x.1
  have hx2 := u8_lt x.2.1
  have hx3 := u8_lt x.2.2.1
  have hx4 := u8_lt x.2.2.2
  refine pureKA (by first | rfl | (simp [go_sem]; done)) (fun Q hQ => (acalls_of_body (cfg := ⟨fun t => t == 6 || t == 7 || t == 9 || t == 10, fun r => match r with | 6 => [(0, 9), (1, 9)] | 10 => [(0, 20), (1, 20)] | _ => []⟩) Tz.mixed Tryz.func106 rfl rfl (nlb rfl) (by kernel_rfl) ?_))
  try simp [go_sem, seval, cU4]
  unfold callQ; refine ref05_CopiedO p.graph (by omega) (by omega) _ _ (fun a b H1 ha hb hab han hbn hga hgb hfr hnn => ?_)
  have h0n : (0 : Nat) < H1.next := by omega
  have ha0 : a ≠ 0 := by simp [go_sem] at ha; omega
  have hb0 : b ≠ 0 := by simp [go_sem] at hb; omega
  have hg0 := hfr 0 (by simp [go_sem])
  simp [go_sem] at hg0
  have nx := nxs H1.next
  have fr1 := And.intro (frs (show a < H1.next by omega)) (And.intro (frs (show b < H1.next by omega)) (frs (show 0 < H1.next by omega)))
  have di2 := And.intro (nep (show 0 ≠ b by omega)) (And.intro (nep (show 0 ≠ a by omega)) (nep (show b ≠ a by omega)))
  try simp [go_sem, seval, cU4, fr1, di2, hga, hgb, hg0, nx]
  repeat first | intro _ | refine ⟨obs, ?_⟩
  refine condQ_mk (fun h5 => ?_) (fun h5 => ?_)
  · try simp [go_sem] at h5
    have t1 := tmod_in (show 0 ≤ (x.2.1.toNat : Int) by omega) (show (0 : Int) < t.nodes.length by omega)
    have hnn0 : ¬t.nodes = [] := by intro h; rw [h] at hne; simp at hne
    have hne0 : (t.nodes.length : Int) ≠ 0 := by omega
    have hF : forb t p x = forbC p ⟨p.graph.nodes ++ [(x.2.1.toNat : Int).tmod t.nodes.length], p.graph.edges⟩ := by unfold forb; rw [if_pos h5]
    try simp [go_sem, seval, cU4, fr1, di2, hga, hgb, hg0, nx, hne0, hF, forbC, trueC, Cond.c_eq, Cond.kind, Cond.kids, Cond.map, Cond.pattern]
    repeat first | intro _ | refine ⟨obs, ?_⟩
    refine callQ_pure0 (ref06_Of p.graph (by omega) (by omega)) ((by first | rfl | (simp [go_sem, ← List.map_take, ← List.map_drop, cU4, fr1, di2, hga, hgb, hg0, nx, hne0, hF, forbC, trueC, Cond.c_eq, Cond.kind, Cond.kids, Cond.map, Cond.pattern]; done))) ?_
    try simp [go_sem, seval, cU4, fr1, di2, hga, hgb, hg0, nx, hne0, hF, forbC, trueC, Cond.c_eq, Cond.kind, Cond.kids, Cond.map, Cond.pattern]
    repeat first | intro _ | refine ⟨obs, ?_⟩
    exact hQ _ _ (by simp [go_sem, cU4, fr1, di2, hga, hgb, hg0, nx, hne0, hF, forbC, trueC, Cond.c_eq, Cond.kind, Cond.kids, Cond.map, Cond.pattern, nz_ints, nz_edges, nzAss_append])
  · try simp [go_sem] at h5
    try simp [go_sem, seval, cU4, fr1, di2, hga, hgb, hg0, nx]
    refine condQ_mk (fun h7 => ?_) (fun h7 => ?_)
    ·try simp [go_sem] at h7
     try simp [go_sem, seval, cU4, fr1, di2, hga, hgb, hg0, nx]
     repeat first | intro _ | refine ⟨obs, ?_⟩
     refine condQ_mk (fun h8 => ?_) (fun h8 => ?_)
     ·try simp [go_sem] at h8
      have hF : forb t p x = trueC := by unfold forb; rw [if_neg h5, if_pos h7, if_pos (h8.imp (fun h => by rw [h]; rfl) (fun h => by rw [h]; rfl))]
      try simp [go_sem, seval, cU4, fr1, di2, hga, hgb, hg0, nx, hF, trueC, Cond.c_eq, Cond.kind, Cond.kids, Cond.map, Cond.pattern]
      exact hQ _ _ (by simp [go_sem, cU4, fr1, di2, hga, hgb, hg0, nx, hF, trueC, Cond.c_eq, Cond.kind, Cond.kids, Cond.map, Cond.pattern, h5, h7, h8] <;> first | omega | (rw [bei]; simp <;> omega) | (simp_all <;> omega))
     ·try simp [go_sem] at h8
      have hn0 : 0 < p.graph.nodes.length ∧ 0 < t.edges.length := by constructor <;> (apply List.length_pos_iff.2; intro h; simp [h] at h8)
      have hnn0 : ¬p.graph.nodes = [] := List.length_pos_iff.1 hn0.1
      have hee0 : ¬t.edges = [] := List.length_pos_iff.1 hn0.2
      have t1 := tmod_in (show 0 ≤ (x.2.1.toNat : Int) by omega) (show (0 : Int) < t.edges.length by omega)
      have t2 := tmod_in (show 0 ≤ (x.2.2.1.toNat : Int) by omega) (show (0 : Int) < p.graph.nodes.length by omega)
      have t3 := tmod_in (show 0 ≤ (x.2.2.2.toNat : Int) by omega) (show (0 : Int) < p.graph.nodes.length by omega)
      have hne0 : (t.edges.length : Int) ≠ 0 := by omega
      have hne1 : (p.graph.nodes.length : Int) ≠ 0 := by omega
      have hF : forb t p x = forbC p ⟨p.graph.nodes, p.graph.edges ++ [⟨(x.2.1.toNat : Int).tmod t.edges.length, (x.2.2.1.toNat : Int).tmod p.graph.nodes.length, (x.2.2.2.toNat : Int).tmod p.graph.nodes.length⟩]⟩ := by unfold forb; rw [if_neg h5, if_pos h7, if_neg (by omega)]
      try simp [go_sem, seval, cU4, fr1, di2, hga, hgb, hg0, nx, hne0, hne1, hF, forbC, trueC, Cond.c_eq, Cond.kind, Cond.kids, Cond.map, Cond.pattern]
      repeat first | intro _ | refine ⟨obs, ?_⟩
      refine callQ_pure0 (ref06_Of p.graph (by omega) (by omega)) ((by first | rfl | (simp [go_sem, ← List.map_take, ← List.map_drop, cU4, fr1, di2, hga, hgb, hg0, nx, hne0, hne1, hF, forbC, trueC, Cond.c_eq, Cond.kind, Cond.kids, Cond.map, Cond.pattern]; done))) ?_
      try simp [go_sem, seval, cU4, fr1, di2, hga, hgb, hg0, nx, hne0, hne1, hF, forbC, trueC, Cond.c_eq, Cond.kind, Cond.kids, Cond.map, Cond.pattern]
      repeat first | intro _ | refine ⟨obs, ?_⟩
      exact hQ _ _ (by simp [go_sem, cU4, fr1, di2, hga, hgb, hg0, nx, hne0, hne1, hF, forbC, trueC, Cond.c_eq, Cond.kind, Cond.kids, Cond.map, Cond.pattern, nz_ints, nz_edges, nzAss_append, Edge.c])
    ·try simp [go_sem] at h7
     have hF : forb t p x = trueC := by unfold forb; rw [if_neg h5, if_neg h7]
     try simp [go_sem, seval, cU4, fr1, di2, hga, hgb, hg0, nx, hF, trueC, Cond.c_eq, Cond.kind, Cond.kids, Cond.map, Cond.pattern]
     exact hQ _ _ (by simp [go_sem, cU4, fr1, di2, hga, hgb, hg0, nx, hF, trueC, Cond.c_eq, Cond.kind, Cond.kids, Cond.map, Cond.pattern, h5, h7] <;> first | omega | (rw [bei]; simp <;> omega) | (simp_all <;> omega))
theorem markL_len (b : List Bool) : (markL b).length ≤ b.length := by
  unfold markL restI; rw [List.length_map]; exact Nat.le_trans (List.length_filter_le _ _) (by simp)
theorem bitL_len (k : UInt64) (off n : Nat) : (bitL k off n).length = n := by simp [bitL]
theorem made7_len (g : Graph) (k : UInt64) : (made7 g k).nodes.length ≤ g.nodes.length ∧ (made7 g k).edges.length ≤ g.edges.length := by
  refine ⟨Nat.le_trans (markL_len _) (by rw [leaN_len, bitL_len]; exact Nat.le_refl _), Nat.le_trans (markL_len _) (by rw [bitL_len]; exact Nat.le_refl _)⟩
theorem extractG_len (g : Graph) (p : Part) : (extractG g p).nodes.length ≤ p.nodes.length ∧ (extractG g p).edges.length ≤ p.edges.length := by
  unfold extractG; split <;> simp
def kept24 (t : Types) (d : Dr24) : Part := made7 (made21 t d.left).graph d.keep
def kg24 (t : Types) (d : Dr24) : Graph := extractG (made21 t d.left).graph (kept24 t d)
def gr24 (t : Types) (d : Dr24) : Graph := grown t (kg24 t d) d
def rg24 (t : Types) (d : Dr24) : Graph := reoF (gr24 t d) (shufF (gr24 t d).nodes.length d.order) (shufF (gr24 t d).edges.length d.order)
def rule24 (t : Types) (d : Dr24) : Rule :=
  ⟨⟨#[114]⟩, made21 t d.left, ⟨rg24 t d, slots24 t (rg24 t d).nodes (made21 t d.left).vars d.slots, (made21 t d.left).vars, []⟩, kept24 t d,
    ⟨(shufF (gr24 t d).nodes.length d.order).take (kg24 t d).nodes.length, (shufF (gr24 t d).edges.length d.order).take (kg24 t d).edges.length⟩, d.inj, forb t (made21 t d.left) d.forbid⟩
def made24 (t : Types) (d : Dr24) : Rule := if d.plain = true then plain24 (rule24 t d) else rule24 t d
end Go.Abs
end
section
set_option maxRecDepth 8000
set_option maxHeartbeats 4000000
open Go Go.Proofs
namespace Go.Abs
theorem made21_in (t : Types) (d : Dr21) : (made21 t d).graph.ends ∧ (made21 t d).graph.nodes.length ≤ 8 ∧ (made21 t d).graph.edges.length ≤ 10 ∧ (0 ≤ (made21 t d).vars ∧ (made21 t d).vars ≤ 3) := by
  have h1 := made17_ends t d.graph
  have h2 := made17_len t d.graph
  refine ⟨h1, h2.1, h2.2, ?_⟩
  show 0 ≤ (slots21 t d).2 ∧ (slots21 t d).2 ≤ 3
  unfold slots21
  split
  · exact ⟨by simp, by simp⟩
  · have := m21F_in (all21 t d) d.slots (min d.slots.length 4); omega
theorem reoF_len (g : Graph) (p q : List Int) : (reoF g p q).nodes.length ≤ g.nodes.length ∧ (reoF g p q).edges.length ≤ g.edges.length := by
  unfold reoF; split
  · simp only [reoN_len, reoE_len]; exact ⟨Nat.le_refl _, Nat.le_refl _⟩
  · simp
theorem headI (l : List Int) (z : List D) (hz : z.length = 1) : ((l.map cI).head?.getD z).length = 1 := by cases l <;> simp [cI, hz]
theorem grown_ge (t : Types) (g : Graph) (d : Dr24) : g.nodes.length ≤ (grown t g d).nodes.length ∧ g.edges.length ≤ (grown t g d).edges.length := by
  refine ⟨by simp only [grown, grN_len]; omega, by simp only [grown, grE, List.length_append]; omega⟩
theorem grown_len (t : Types) (g : Graph) (d : Dr24) : (grown t g d).nodes.length ≤ g.nodes.length + 2 ∧ (grown t g d).edges.length ≤ g.edges.length + 2 := by
  refine ⟨?_, ?_⟩
  · simp only [grown, grN_len]; have := ite_le2 ((concL t).length = 0) d.nodes.length; omega
  · exact Nat.le_trans (grE_len _ _ _ _ _) (Nat.add_le_add_left (ite_le2 _ _) _)
theorem Pure.nzM {P : Program} {f : FuncId} {args args' : List D} {r : D} (ha : args.map nzD = args') (h : Pure P f args' r) : Pure P f args r := by
  subst ha
  refine ⟨h.1, fun M w vals hM hv => h.2 M w vals hM ⟨by simpa using hv.len, fun j u d hu hd => ?_⟩⟩
  rw [List.getElem?_map, Option.map_eq_some_iff] at hd
  obtain ⟨y, hy, rfl⟩ := hd
  exact nzD_rep (hv.rep j u y hu hy)
theorem ref24_Made (t : Types) (ht : t.fine) (d : Dr24) : Pure Tryz.prog 50 [t.d, .agg d.c] (made24 t d).d := by
  have hL4 := made21_in t d.left
  have hKl := made7_len (made21 t d.left).graph d.keep
  have hGl := extractG_len (made21 t d.left).graph (made7 (made21 t d.left).graph d.keep)
  have hRr : made24 t d = if d.plain = true then plain24 (rule24 t d) else rule24 t d := rfl
  unfold rule24 rg24 gr24 kg24 kept24 at hRr
  obtain ⟨L, hL⟩ : ∃ L, made21 t d.left = L := ⟨_, rfl⟩
  rw [hL] at hL4 hKl hGl hRr
  obtain ⟨K, hK⟩ : ∃ K, made7 L.graph d.keep = K := ⟨_, rfl⟩
  rw [hK] at hKl hGl hRr
  obtain ⟨kg, hkg⟩ : ∃ g, extractG L.graph K = g := ⟨_, rfl⟩
  rw [hkg] at hGl hRr
  have hgr := grown_len t kg d
  have hge := grown_ge t kg d
  obtain ⟨gr, hg⟩ : ∃ g, grown t kg d = g := ⟨_, rfl⟩
  rw [hg] at hgr hge hRr
  have hpp := shufF_perm gr.nodes.length d.order
  have hqq := shufF_perm gr.edges.length d.order
  obtain ⟨p, hp⟩ : ∃ p, shufF gr.nodes.length d.order = p := ⟨_, rfl⟩
  obtain ⟨q, hq⟩ : ∃ q, shufF gr.edges.length d.order = q := ⟨_, rfl⟩
  rw [hp] at hpp hRr
  rw [hq] at hqq hRr
  have hrl := reoF_len gr p q
  obtain ⟨rg, hrg⟩ : ∃ g, reoF gr p q = g := ⟨_, rfl⟩
  rw [hrg] at hrl hRr
  obtain ⟨sl, hsl⟩ : ∃ s, slots24 t rg.nodes L.vars d.slots = s := ⟨_, rfl⟩
  obtain ⟨fc, hfc⟩ : ∃ c, forb t L d.forbid = c := ⟨_, rfl⟩
  rw [hsl, hfc] at hRr
  have hpl := hpp.1
  have hql := hqq.1
  have hd1 := headI p
  have hd2 := headI q
  have hce := Cond.c_eq fc
  refine Tz.pK ⟨fun t => t == 4 || t == 5 || t == 6 || t == 7 || t == 8 || t == 10, fun r => match r with | 2 => [(0, 9), (1, 9), (2, 9), (3, 9), (4, 9), (5, 9), (6, 9), (7, 9)] | _ => []⟩ Tryz.func50 rfl (fun Q hQ => ?_)
  try simp [go_sem, seval, Dr24.c, hd1, hd2, hpl, hql, hce]
  refine callQ_pure0 ((by have hz := ref21_Made t ht d.left; rw [hL] at hz; exact hz)) ((by first | rfl | (simp [go_sem, ← List.map_take, ← List.map_drop, Dr24.c, hd1, hd2, hpl, hql, hce]; done))) ?_
  try simp [go_sem, seval, Dr24.c, hd1, hd2, hpl, hql, hce]
  refine dcallQ_pure0 ((by have hz := ref07_Made L.graph (by omega) (by omega) hL4.1 d.keep; rw [hK] at hz; exact hz)) ((by first | rfl | (simp [go_sem, ← List.map_take, ← List.map_drop, Dr24.c, hd1, hd2, hpl, hql, hce]; done))) ?_
  try simp [go_sem, seval, Dr24.c, hd1, hd2, hpl, hql, hce]
  refine callQ_pure0 ((by have hz := ref07_Extract L.graph K (by omega) (by omega); rw [hkg] at hz; exact hz)) ((by first | rfl | (simp [go_sem, ← List.map_take, ← List.map_drop, Dr24.c, hd1, hd2, hpl, hql, hce]; done))) ?_
  try simp [go_sem, seval, Dr24.c, hd1, hd2, hpl, hql, hce]
  refine callQ_pure0 ((by have hz := ref24_grown t ht kg (by omega) (by omega) d; rw [hg] at hz; exact hz)) ((by first | rfl | (simp [go_sem, ← List.map_take, ← List.map_drop, Dr24.c, hd1, hd2, hpl, hql, hce]; done))) ?_
  try simp [go_sem, seval, Dr24.c, hd1, hd2, hpl, hql, hce]
  repeat first | intro _ | refine ⟨obs, ?_⟩
  refine dcallQ_pure0 ((by have hz := ref05_Shuffle gr.nodes.length (by omega) d.order; rw [hp] at hz; exact hz)) ((by first | rfl | (simp [go_sem, ← List.map_take, ← List.map_drop, Dr24.c, hd1, hd2, hpl, hql, hce]; done))) ?_
  try simp [go_sem, seval, Dr24.c, hd1, hd2, hpl, hql, hce]
  repeat first | intro _ | refine ⟨obs, ?_⟩
  refine dcallQ_pure0 ((by have hz := ref05_Shuffle gr.edges.length (by omega) d.order; rw [hq] at hz; exact hz)) ((by first | rfl | (simp [go_sem, ← List.map_take, ← List.map_drop, Dr24.c, hd1, hd2, hpl, hql, hce]; done))) ?_
  try simp [go_sem, seval, Dr24.c, hd1, hd2, hpl, hql, hce]
  repeat first | intro _ | refine ⟨obs, ?_⟩
  refine callQ_pure0 ((by have hz := ref05_Reorder gr (by omega) (by omega) p q hpp hqq; rw [hrg] at hz; exact hz)) ((by first | rfl | (simp [go_sem, ← List.map_take, ← List.map_drop, Dr24.c, hd1, hd2, hpl, hql, hce]; done))) ?_
  try simp [go_sem, seval, Dr24.c, hd1, hd2, hpl, hql, hce]
  repeat first | intro _ | refine ⟨obs, ?_⟩
  refine callQ_pure0 ((by have hz := ref24_slots t ht rg L.vars (by omega) d.slots; rw [hsl] at hz; exact hz)) ((by first | rfl | (simp [go_sem, ← List.map_take, ← List.map_drop, Dr24.c, hd1, hd2, hpl, hql, hce]; done))) ?_
  try simp [go_sem, seval, Dr24.c, hd1, hd2, hpl, hql, hce]
  repeat first | intro _ | refine ⟨obs, ?_⟩
  refine callQ_pure0 ((by have hz := ref24_forbid t ht L (by omega) (by omega) d.forbid; rw [hfc] at hz; exact hz)) ((by first | rfl | (simp [go_sem, ← List.map_take, ← List.map_drop, Dr24.c, hd1, hd2, hpl, hql, hce]; done))) ?_
  try simp [go_sem, seval, Dr24.c, hd1, hd2, hpl, hql, hce]
  repeat first | intro _ | refine ⟨obs, ?_⟩
  refine condQ_mk (fun h11 => ?_) (fun h11 => ?_)
  · try simp [go_sem] at h11
    try simp [go_sem, seval, Dr24.c, hd1, hd2, hpl, hql, hce]
    refine callQ_pure0 (Pure.nzM (by simp [go_sem, Rule.d, Rule.c, dLI]) (ref24_plain ⟨⟨#[114]⟩, L, ⟨rg, sl, L.vars, []⟩, K, ⟨p.take kg.nodes.length, q.take kg.edges.length⟩, d.inj, fc⟩ (by simp only; omega) (by simp only; omega) (by simp only; omega) (by simp only [List.length_take]; omega))) ((by first | rfl | (simp [go_sem, ← List.map_take, ← List.map_drop, Dr24.c, hd1, hd2, hpl, hql, hce]; done))) ?_
    try simp [go_sem, seval, Dr24.c, hd1, hd2, hpl, hql, hce]
    exact hQ _ _ (by simp [go_sem, Dr24.c, hd1, hd2, hpl, hql, hce, h11] <;> first | omega | (rw [bei]; simp <;> omega) | (simp_all <;> omega))
  · try simp [go_sem] at h11
    try simp [go_sem, seval, Dr24.c, hd1, hd2, hpl, hql, hce]
    exact hQ _ _ (by simp [go_sem, Dr24.c, hd1, hd2, hpl, hql, hce, h11] <;> first | omega | (rw [bei]; simp <;> omega) | (simp_all <;> omega))
end Go.Abs
end
section
set_option maxRecDepth 8000
open Go Go.Proofs
namespace Go.Abs
theorem firstNE_mk {f : Nat → Int} {nm : Nat → ByteArray} {last : ByteArray × Int} : ∀ (n k : Nat), (∀ j, k ≤ j → j < k + n → f j = 0) → firstNE f nm last k n = last
  | 0, k, _ => rfl
  | n + 1, k, h => by
    unfold firstNE
    rw [if_neg (by rw [h k (Nat.le_refl _) (by omega)]; simp)]
    exact firstNE_mk n (k + 1) fun j h1 h2 => h j (by omega) (by omega)
def flat2 (ns : List B2) : List B2 := ns.map fun x => (0, x.2)
theorem flat_nth (ns : List B2) (i : Nat) : (nth2 (flat2 ns) i).1 = 0 := by
  unfold nth2 flat2
  rw [List.getElem?_map]
  cases ns[i]? <;> rfl
theorem madeN_flat (i : Nat) (x : B2) (h : x.1 = 0) : (madeN i x).parent = -1 ∧ (madeN i x).abs = false := by
  unfold madeN
  rw [h]
  refine ⟨?_, by show ((((0 : UInt8).toNat : Int) / 16).tmod 4 == 3) = false; decide⟩
  show ((0 : UInt8).toNat : Int).tmod _ - 1 = -1
  simp
theorem tyA_name : ∀ i, i < 6 → isName (tyA.extract i (i + 1)) = true := by decide +kernel
theorem tyU_name : ∀ i, i < 6 → isName (tyU.extract i (i + 1)) = true := by decide +kernel
theorem tyE_name : ∀ i, i < 5 → isName (tyE.extract i (i + 1)) = true := by decide +kernel
theorem tyA_ne : ∀ i, i < 6 → ∀ j, j < i → tyA.extract j (j + 1) ≠ tyA.extract i (i + 1) := by decide +kernel
theorem tyE_ne : ∀ i, i < 5 → ∀ j, j < i → tyE.extract j (j + 1) ≠ tyE.extract i (i + 1) := by decide +kernel
theorem onoff_names : namesF [⟨#[111, 102, 102]⟩, ⟨#[111, 110]⟩] = 0 := by decide +kernel
theorem madeT_at {ns es : List B2} {i : Nat} (hi : i < (madeT ns es).nodes.length) : (madeT ns es).nodes[i] = madeN i (nth2 ns i) :=
  (madeT_node (lge hi)).2
theorem madeT_eat {ns es : List B2} {i : Nat} (hi : i < (madeT ns es).edges.length) : (madeT ns es).edges[i] = madeE (madeK ns) i (nth2 es i) := by
  simp [madeT, madeEs]
theorem one_attr (x : Attr) (h1 : isName x.name = true) (h2 : attr0 x = 0) : firstE (attrE [x]) 0 1 = 0 := by
  have h0 : attrE [x] 0 = 0 := by
    rw [attrE_at (by simp)]
    simp [h1, h2]
  unfold firstE
  rw [if_neg (by rw [h0]; simp)]; rfl
theorem madeN_attrE (i : Nat) (hi : i < 6) (x : B2) : firstE (attrE (madeN i x).attrs) 0 (madeN i x).attrs.length = 0 := by
  have hm := tmod_in (show 0 ≤ (x.2.toNat : Int) / 4 by omega) (show (0 : Int) < 9 by omega)
  unfold madeN
  by_cases h1 : (x.2.toNat : Int).tmod 4 = 1
  · simp only [h1, if_true]
    refine one_attr _ (tyU_name i hi) ?_
    unfold attr0
    rw [if_neg (by show ¬ namesF [] ≠ 0; decide), if_pos]
    simp; omega
  · by_cases h2 : (x.2.toNat : Int).tmod 4 = 2
    ·rw [if_neg h1, if_pos h2]
     refine one_attr _ (tyU_name i hi) ?_
     unfold attr0
     rw [if_neg (by rw [onoff_names]; simp), if_pos]
     simp
    ·rw [if_neg h1, if_neg h2]; rfl
theorem madeT_flat_valid (ns es : List B2) : (validF (madeT (flat2 ns) es)).2 = 0 := by
  obtain ⟨l1, l2, l3, l4⟩ := madeT_len (flat2 ns) es
  unfold validF
  rw [if_neg (by omega), if_neg (by omega), firstNE_mk, firstNE_mk]
  · intro j _ hj
    have hj' : j < (madeT (flat2 ns) es).edges.length := by omega
    have hx := madeT_eat hj'
    have hxm := madeT_edge (lgm hj')
    unfold edgeF
    rw [lge hj']
    simp only
    rw [if_neg (by rw [hx]; show ¬ isName (tyE.extract j (j + 1)) = false; rw [tyE_name j (by omega)]; simp), if_neg, if_pos]
    ·rw [hx] at hxm ⊢
     have hb : boundedF (madeE (madeK (flat2 ns)) j (nth2 es j)).outLow (madeE (madeK (flat2 ns)) j (nth2 es j)).outHigh = true := by show boundedF 0 (-1) = true; decide
     have hb2 : boundedF (madeE (madeK (flat2 ns)) j (nth2 es j)).inLow (madeE (madeK (flat2 ns)) j (nth2 es j)).inHigh = true := by show boundedF 0 (-1) = true; decide
     rw [hb, hb2]
     simp [insideF]; omega
    ·rw [List.any_eq_true]
     rintro ⟨y, hy, he⟩
     obtain ⟨q, hq, rfl⟩ := List.getElem_of_mem hy
     rw [List.length_take] at hq
     rw [List.getElem_take, madeT_eat (by omega), hx] at he
     exact tyE_ne j (by omega) q (by omega) (of_decide_eq_true he)
  · intro j _ hj
    have hj' : j < (madeT (flat2 ns) es).nodes.length := by omega
    have hx := madeT_at hj'
    have hfl := madeN_flat j (nth2 (flat2 ns) j) (flat_nth ns j)
    have hat : (madeT (flat2 ns) es).attrs j = (madeN j (nth2 (flat2 ns) j)).attrs := by
     unfold Types.attrs attrsF
     rw [lge hj', hx]
     simp only
     rw [if_neg (by rw [hfl.1]; omega)]; rfl
    have hal := (madeN_attrs j (nth2 (flat2 ns) j)).1
    rw [nodeF_at _ _ hj', hx, hat, if_neg (by show ¬ isName (tyA.extract j (j + 1)) = false; rw [tyA_name j (by omega)]; simp), if_neg, if_neg (by rw [hfl.1]; simp; omega), if_neg (by omega), if_neg (by omega), Nat.sub_self]
    ·exact madeN_attrE j (by omega) _
    ·rw [List.any_eq_true]
     rintro ⟨y, hy, he⟩
     obtain ⟨q, hq, rfl⟩ := List.getElem_of_mem hy
     rw [List.length_take] at hq
     rw [List.getElem_take, madeT_at (by omega)] at he
     exact tyA_ne j (by omega) q (by omega) (of_decide_eq_true he)
structure FlatT (t : Types) : Prop where
  v : (validF t).2 = 0
  fine : t.fine
  par : ∀ n ∈ t.nodes, n.parent = -1
  con : ∀ n ∈ t.nodes, n.abs = false
  ne : t.edges.length ≤ 5
  nn : t.nodes.length ≤ 6
theorem flat_made (ns es : List B2) : FlatT (madeT (flat2 ns) es) := by
  obtain ⟨l1, l2, l3, l4⟩ := madeT_len (flat2 ns) es
  refine ⟨madeT_flat_valid ns es, madeT_fine _ _, fun n hn => ?_, fun n hn => ?_, l4, by omega⟩
  · obtain ⟨j, hj⟩ := List.getElem?_of_mem hn
    rw [(madeT_node hj).2]; exact (madeN_flat j _ (flat_nth ns j)).1
  · obtain ⟨j, hj⟩ := List.getElem?_of_mem hn
    rw [(madeT_node hj).2]; exact (madeN_flat j _ (flat_nth ns j)).2
theorem flat_line {t : Types} (h : FlatT t) {k : Nat} (hk : k < t.nodes.length) : t.line k = [(k : Int)] := by
  unfold Types.line lineF
  rw [lge hk]
  simp only
  rw [if_neg (by rw [h.par _ (lgm hk)]; omega)]; rfl
theorem len_one {l : List Int} {a : Int} (hs : l.Pairwise (· < ·)) (h : ∀ x ∈ l, x = a) : l.length ≤ 1 := by
  match l, hs, h with
  | [], _, _ => simp
  | [_], _, _ => simp
  | x :: y :: r, hs, h =>
    have h1 := h x (by simp)
    have h2 := h y (by simp)
    have h3 := (List.pairwise_cons.1 hs).1 y (by simp)
    omega
theorem flat_below {t : Types} (h : FlatT t) (a : Int) : (belowT t a).length ≤ 1 := by
  unfold belowT
  split
  · refine len_one (a := a) (rangeF_asc _ _) fun x hx => ?_
    rw [rangeF_iff] at hx
    obtain ⟨hr, hm⟩ := hx
    rw [flat_line h (by omega), mem_iff] at hm
    simp at hm; omega
  · simp
theorem flat_leaf {t : Types} (h : FlatT t) (l : List Int) : leafB t l = true := by
  unfold leafB
  rw [List.all_eq_true]
  exact fun k _ => by simpa using flat_below h k
end Go.Abs
end
section
set_option maxRecDepth 8000
open Go Go.Proofs
namespace Go.Abs
/-! ### permutations -/
theorem swp_mem {xs : List Int} {i j : Nat} (hi : i < xs.length) (hj : j < xs.length) {v : Int} (hv : v ∈ xs) : v ∈ swpL xs i j := by
  obtain ⟨k, hk⟩ := List.getElem?_of_mem hv
  by_cases h1 : k = i
  · subst h1; exact List.mem_of_getElem? (i := j) (by rw [swpL_get hi hj, if_pos rfl, hk])
  · by_cases h2 : k = j
    ·subst h2
     by_cases h3 : i = k
     ·exact absurd h3.symm h1
     ·exact List.mem_of_getElem? (i := i) (by rw [swpL_get hi hj, if_neg h3, if_pos rfl, hk])
    ·exact List.mem_of_getElem? (i := k) (by rw [swpL_get hi hj, if_neg h2, if_neg h1, hk])
theorem shuf_mem (n : Nat) (l : List UInt8) {v : Int} (hv : 0 ≤ v ∧ v < n) : ∀ k, k ≤ n → v ∈ (List.range k).foldl (shufS n l) (numL n)
  | 0, _ => by
    have := numL_get (n := n) (a := v.toNat) (by omega)
    exact List.mem_of_getElem? (i := v.toNat) (by show (numL n)[v.toNat]? = some v; rw [this]; congr 1; omega)
  | k + 1, h => by
    have ih := shuf_mem n l hv k (by omega)
    have hp := shuf_perm n l k (by omega)
    rw [List.range_succ, List.foldl_append]
    exact swp_mem (by rw [hp.1]; omega) (by rw [hp.1]; exact shufJ_lt (by omega)) ih
theorem shufF_mem (n : Nat) (l : List UInt8) {v : Int} (hv : 0 ≤ v ∧ v < n) : v ∈ shufF n l := shuf_mem n l hv _ (by omega)
theorem perm_ne {n : Nat} {p : List Int} (h : PermL n p) {i j : Nat} (hi : i < p.length) (hj : j < p.length) (hne : i ≠ j) : p[i] ≠ p[j] := by
  intro he
  rcases Nat.lt_or_gt_of_ne hne with hlt | hlt
  · exact h.2.2 i j hlt hj (by rw [lge hi, lge hj, he])
  · exact h.2.2 j i hlt hi (by rw [lge hi, lge hj, he])
theorem perm_nodup {n : Nat} {p : List Int} (h : PermL n p) : p.Nodup := by
  rw [List.nodup_iff_pairwise_ne, List.pairwise_iff_getElem]
  exact fun a b ha hb hab => perm_ne h ha hb (by omega)
theorem reoN_at {n : Nat} {p xs : List Int} (hp : PermL n p) (hx : xs.length = n) {i : Nat} (hi : i < p.length) : ∀ k, k ≤ n → i < k → (reoN p xs k)[p[i].toNat]? = xs[i]?
  | 0, _, h => by omega
  | k + 1, hk, h => by
    rw [reoN_succ]
    have hkp : k < p.length := by rw [hp.1]; omega
    have r1 := hp.2.1 _ (lgm hi)
    have r2 := hp.2.1 _ (lgm hkp)
    rw [lge hkp, Option.getD_some]
    rcases Nat.lt_or_ge i k with hlt | hge
    ·have := perm_ne hp hi hkp (by omega)
     rw [List.getElem?_set_ne (by omega)]
     exact reoN_at hp hx hi k (by omega) hlt
    ·obtain rfl : i = k := by omega
     rw [List.getElem?_set_self (by rw [reoN_len]; omega), lge (show i < xs.length by omega)]; rfl
theorem reoE_at {n : Nat} {p q : List Int} {es : List Edge} (hq : PermL n q) (hx : es.length = n) {i : Nat} (hi : i < q.length) : ∀ k, k ≤ n → i < k → (reoE p q es k)[q[i].toNat]? = some (reoX p (es[i]?.getD zeroEdge))
  | 0, _, h => by omega
  | k + 1, hk, h => by
    rw [reoE_succ]
    have hkp : k < q.length := by rw [hq.1]; omega
    have r1 := hq.2.1 _ (lgm hi)
    have r2 := hq.2.1 _ (lgm hkp)
    rw [lge hkp, Option.getD_some]
    rcases Nat.lt_or_ge i k with hlt | hge
    ·have := perm_ne hq hi hkp (by omega)
     rw [List.getElem?_set_ne (by omega)]
     exact reoE_at hq hx hi k (by omega) hlt
    ·obtain rfl : i = k := by omega
     rw [List.getElem?_set_self (by rw [reoE_len]; omega)]; rfl
/-! ### a graph in another order -/
section
variable {g : Graph} {p q : List Int}
theorem reo_eq (hg : graphF g = 0) : reoF g p q = ⟨reoN p g.nodes g.nodes.length, reoE p q g.edges g.edges.length⟩ := if_pos hg
theorem reo_len (hg : graphF g = 0) : (reoF g p q).nodes.length = g.nodes.length ∧ (reoF g p q).edges.length = g.edges.length := by
  rw [reo_eq hg]; exact ⟨reoN_len _ _ _, reoE_len _ _ _ _⟩
theorem perm_at {n : Nat} (hp : PermL n p) {i : Int} (h0 : 0 ≤ i) (hi : i < n) : 0 ≤ iA p i ∧ iA p i < n := hp.2.1 _ (iA_mem h0 (by rw [hp.1]; exact hi))
theorem reo_node (hg : graphF g = 0) (hp : PermL g.nodes.length p) {i : Int} (h0 : 0 ≤ i) (hi : i < g.nodes.length) : gN (reoF g p q) (iA p i) = gN g i := by
  rw [reo_eq hg]
  have hip : i.toNat < p.length := by rw [hp.1]; omega
  have := reoN_at hp rfl hip g.nodes.length (Nat.le_refl _) (by omega)
  show ((reoN p g.nodes g.nodes.length)[(iA p i).toNat]?).getD 0 = (g.nodes[i.toNat]?).getD 0
  rw [show iA p i = p[i.toNat] by unfold iA; rw [lge hip]; rfl, this]
theorem reo_edge (hg : graphF g = 0) (hq : PermL g.edges.length q) {i : Int} (h0 : 0 ≤ i) (hi : i < g.edges.length) : eA (reoF g p q) (iA q i) = reoX p (eA g i) := by
  rw [reo_eq hg]
  have hip : i.toNat < q.length := by rw [hq.1]; omega
  have := reoE_at (p := p) hq rfl hip g.edges.length (Nat.le_refl _) (by omega)
  show ((reoE p q g.edges g.edges.length)[(iA q i).toNat]?).getD zeroEdge = reoX p ((g.edges[i.toNat]?).getD zeroEdge)
  rw [show iA q i = q[i.toNat] by unfold iA; rw [lge hip]; rfl, this]; rfl
theorem reoX_eq (x : Edge) : reoX p x = ⟨x.type, iA p x.from_, iA p x.to_⟩ := rfl
def OntoL (n : Nat) (p : List Int) : Prop := ∀ v : Int, 0 ≤ v → v < n → ∃ i : Int, (0 ≤ i ∧ i < n) ∧ iA p i = v
theorem onto_of {n : Nat} (hp : PermL n p) (h : ∀ v : Int, 0 ≤ v ∧ v < n → v ∈ p) : OntoL n p := fun v h0 h1 => by
  obtain ⟨j, hj, he⟩ := mem_img (h v ⟨h0, h1⟩)
  exact ⟨j, by rw [← hp.1]; exact hj, he⟩
theorem reo_ok (hg : graphF g = 0) (hp : PermL g.nodes.length p) (hq : PermL g.edges.length q) (op : OntoL g.nodes.length p) (oq : OntoL g.edges.length q) : graphF (reoF g p q) = 0 := by
  have hle := graphF_le hg
  have hin := graphF_in hg
  have hl := reo_len (p := p) (q := q) hg
  refine graphF_mk (by omega) (by omega) (fun a ha => ?_) (fun x hx => ?_)
  · obtain ⟨j, hj, rfl⟩ := List.getElem_of_mem ha
    rw [← gN_at hj]
    obtain ⟨i, hi, he⟩ := op (j : Int) (by omega) (by omega)
    rw [← he, reo_node hg hp hi.1 hi.2]
    exact hin.1 _ (gN_mem hi.1 hi.2)
  · obtain ⟨j, hj, rfl⟩ := List.getElem_of_mem hx
    rw [← eA_at hj]
    obtain ⟨i, hi, he⟩ := oq (j : Int) (by omega) (by omega)
    rw [← he, reo_edge hg hq hi.1 hi.2, reoX_eq]
    have h1 := hin.2 _ (eA_mem hi.1 hi.2)
    exact ⟨h1.1, by rw [hl.1]; exact perm_at hp h1.2.1.1 h1.2.1.2, by rw [hl.1]; exact perm_at hp h1.2.2.1 h1.2.2.2⟩
theorem reo_typed {t : Types} (hg : graphF g = 0) (ht : typedB t g = true) (hp : PermL g.nodes.length p) (hq : PermL g.edges.length q) (op : OntoL g.nodes.length p) (oq : OntoL g.edges.length q) : typedB t (reoF g p q) = true := by
  have hin := typedB_in hg ht
  have hl := reo_len (p := p) (q := q) hg
  refine typedB_mk (fun a ha => ?_) (fun x hx => ?_)
  · obtain ⟨j, hj, rfl⟩ := List.getElem_of_mem ha
    rw [← gN_at hj]
    obtain ⟨i, hi, he⟩ := op (j : Int) (by omega) (by omega)
    rw [← he, reo_node hg hp hi.1 hi.2]
    exact (hin.1 _ (gN_mem hi.1 hi.2)).2
  · obtain ⟨j, hj, rfl⟩ := List.getElem_of_mem hx
    rw [← eA_at hj]
    obtain ⟨i, hi, he⟩ := oq (j : Int) (by omega) (by omega)
    rw [← he, reo_edge hg hq hi.1 hi.2, reoX_eq]
    exact (hin.2 _ (eA_mem hi.1 hi.2)).1.2
end
/-! ### the kept part -/
theorem markL_asc (b : List Bool) : (markL b).Pairwise (· < ·) := by
  have h := rangeF_asc (fun i => b[i]?.getD false) b.length
  exact h
theorem markL_iff {b : List Bool} {x : Int} : x ∈ markL b ↔ (0 ≤ x ∧ x < b.length) ∧ b[x.toNat]?.getD false = true := by
  have h := rangeF_iff (fun i => b[i]?.getD false) b.length x
  exact h
theorem setT_mono {l : List Bool} {i j : Nat} (h : l[j]?.getD false = true) : (l.set i true)[j]?.getD false = true := by
  rw [List.getElem?_set]
  split
  · rename_i he
    subst he
    split
    ·rfl
    ·rename_i hlt
     rw [List.getElem?_eq_none (by omega)] at h; cases h
  · exact h
theorem setT_self {l : List Bool} {i : Nat} (h : i < l.length) : (l.set i true)[i]?.getD false = true := by
  rw [List.getElem?_set_self h]; rfl
theorem leaN_len' (g : Graph) (nb eb : List Bool) : ∀ k, (leaN g nb eb k).length = nb.length
  | 0 => rfl
  | k + 1 => by
    rw [leaN_succ]; split
    ·rw [List.length_set, List.length_set]; exact leaN_len' g nb eb k
    ·exact leaN_len' g nb eb k
theorem leaN_mono (g : Graph) (nb eb : List Bool) {j k : Nat} (h : (leaN g nb eb k)[j]?.getD false = true) : (leaN g nb eb (k + 1))[j]?.getD false = true := by
  rw [leaN_succ]; split
  · exact setT_mono (setT_mono h)
  · exact h
theorem leaN_ends {g : Graph} (he : g.ends) {nb eb : List Bool} (hn : nb.length = g.nodes.length) {i : Nat} (hi : i < g.edges.length) (hb : eb[i]?.getD false = true) : ∀ k, i < k → (leaN g nb eb k)[g.edges[i].from_.toNat]?.getD false = true ∧ (leaN g nb eb k)[g.edges[i].to_.toNat]?.getD false = true
  | 0, h => by omega
  | k + 1, h => by
    rcases Nat.lt_or_ge i k with hlt | hge
    ·have ih := leaN_ends he hn hi hb k hlt
     exact ⟨leaN_mono g nb eb ih.1, leaN_mono g nb eb ih.2⟩
    ·obtain rfl : i = k := by omega
     have hx := he _ (lgm hi)
     rw [leaN_succ, if_pos hb, lge hi, Option.getD_some]
     have hl := leaN_len' g nb eb i
     exact ⟨setT_mono (setT_self (by omega)), setT_self (by rw [List.length_set]; omega)⟩
theorem made7_sub {g : Graph} (hg : graphF g = 0) (he : g.ends) (k : UInt64) : subF g (made7 g k) = 0 := by
  have l1 : (leaN g (bitL k 0 g.nodes.length) (bitL k g.nodes.length g.edges.length) g.edges.length).length = g.nodes.length := by rw [leaN_len']; simp [bitL]
  have l2 : (bitL k g.nodes.length g.edges.length).length = g.edges.length := by simp [bitL]
  refine subF_mk hg (fun x hx => ?_) (markL_asc _) (fun x hx => ?_) (markL_asc _) fun x hx => ?_
  · have := (markL_iff.1 hx).1; omega
  · have := (markL_iff.1 hx).1; omega
  · obtain ⟨h1, h2⟩ := markL_iff.1 hx
    have hi : x.toNat < g.edges.length := by omega
    have hen := he _ (lgm hi)
    have hh := leaN_ends he (nb := bitL k 0 g.nodes.length) (by simp [bitL]) hi h2 g.edges.length hi
    have hE : eA g x = g.edges[x.toNat] := by unfold eA; rw [lge hi]; rfl
    rw [hE]
    exact ⟨markL_iff.2 ⟨by omega, hh.1⟩, markL_iff.2 ⟨by omega, hh.2⟩⟩
end Go.Abs
end
section
set_option maxRecDepth 8000
open Go Go.Proofs
namespace Go.Abs
theorem made17_edge {t : Types} {d : Dr5} {x : Edge} (h : x ∈ (made17 t d).edges) : 0 ≤ x.type ∧ x.type < t.edges.length := by
  unfold made17 at h
  split at h
  · cases h
  · rename_i h0
    simp only [m17E, List.mem_flatMap] at h
    obtain ⟨i, _, hx⟩ := h
    unfold m17e at hx
    split at hx
    ·rw [List.mem_singleton] at hx
     subst hx
     exact tmod_in (show 0 ≤ ((d.edges[i]?.getD (0, 0, 0)).1.toNat : Int) by omega) (show (0 : Int) < t.edges.length by omega)
    ·cases hx
theorem made17_ok {t : Types} (h : FlatT t) (d : Dr5) : graphF (made17 t d) = 0 ∧ typedB t (made17 t d) = true := by
  have hl := made17_len t d
  have he := made17_ends t d
  have h0 := h.fine.valid.ne
  have hn : ∀ a ∈ (made17 t d).nodes, 0 ≤ a ∧ a < t.nodes.length := fun a ha => m17N_mem h0 (ds := d.nodes) (k := min d.nodes.length 8) ha
  have h5 := h.ne
  have h6 := h.nn
  refine ⟨graphF_mk (by omega) (by omega) (fun a ha => by have := hn a ha; omega) (fun x hx => ?_), typedB_mk (fun a ha => (hn a ha).2) (fun x hx => (made17_edge hx).2)⟩
  have h1 := made17_edge hx
  have h2 := he x hx
  exact ⟨by omega, h2.1, h2.2⟩
theorem concL_pick {t : Types} (h : 0 < (concL t).length) (b : UInt8) : 0 ≤ pickL (concL t) b ∧ pickL (concL t) b < t.nodes.length := concL_mem (pickL_mem h b)
section
variable {t : Types} {g : Graph} {d : Dr24}
theorem gr_node (h : ∀ a ∈ g.nodes, 0 ≤ a ∧ a < t.nodes.length) : ∀ a ∈ (grown t g d).nodes, 0 ≤ a ∧ a < t.nodes.length := fun a ha => by
  unfold grown grN at ha
  rcases List.mem_append.1 ha with ha | ha
  · exact h a ha
  · obtain ⟨i, hi, rfl⟩ := List.mem_map.1 ha
    rw [List.mem_range] at hi
    by_cases h0 : (concL t).length = 0
    ·rw [if_pos h0] at hi; omega
    ·exact concL_pick (by omega) _
theorem grE1_mem {ns : List Int} {y : B3} {x : Edge} (h : x ∈ grE1 t ns y) : fitsT t x.type (nN ns x.from_) (nN ns x.to_) = true := by
  unfold grE1 at h
  split at h
  · rename_i hf
    rw [List.mem_singleton] at h
    subst h
    exact hf
  · cases h
theorem gr_edge : ∃ l : List Edge, (grown t g d).edges = g.edges ++ l ∧ ∀ x ∈ l, fitsT t x.type (nN (grown t g d).nodes x.from_) (nN (grown t g d).nodes x.to_) = true := by
  refine ⟨_, rfl, fun x hx => ?_⟩
  obtain ⟨i, _, hx⟩ := List.mem_flatMap.1 hx
  exact grE1_mem hx
theorem fits_type {a b e : Int} (h : fitsT t e a b = true) : 0 ≤ e ∧ e < t.edges.length := by
  unfold fitsT at h
  simp only [Bool.and_eq_true, decide_eq_true_eq] at h
  exact h.1.2
structure GrOk (t : Types) (g G : Graph) : Prop where
  ok : graphF G = 0
  ty : typedB t G = true
  no : ∀ i : Int, 0 ≤ i → i < g.nodes.length → gN G i = gN g i
  ed : ∀ k : Int, 0 ≤ k → k < g.edges.length → eA G k = eA g k
  fi : ∀ k : Int, g.edges.length ≤ k → k < G.edges.length → fitsT t (eA G k).type (gN G (eA G k).from_) (gN G (eA G k).to_) = true
  ln : g.nodes.length ≤ G.nodes.length
  le : g.edges.length ≤ G.edges.length
theorem gr_ok (hf : FlatT t) (hg : graphF g = 0) (ht : typedB t g = true) (l1 : g.nodes.length ≤ 20) (l2 : g.edges.length ≤ 20) : GrOk t g (grown t g d) := by
  have hin := typedB_in hg ht
  have hge : g.ends := fun x hx => (hin.2 x hx).2
  obtain ⟨he, hn, hm⟩ := grownM_ok (t := t) (d := d) hge
  have hnn := gr_node (t := t) (g := g) (d := d) hin.1
  obtain ⟨l, hl, hfit⟩ := gr_edge (t := t) (g := g) (d := d)
  have h5 := hf.ne
  have h6 := hf.nn
  have hty : ∀ x ∈ (grown t g d).edges, 0 ≤ x.type ∧ x.type < t.edges.length := fun x hx => by
    rw [hl] at hx
    rcases List.mem_append.1 hx with hx | hx
    ·exact (hin.2 x hx).1
    ·exact fits_type (hfit x hx)
  have hlen := grown_ge t g d
  refine ⟨graphF_mk (by omega) (by omega) (fun a ha => by have := hnn a ha; omega) (fun x hx => ?_), typedB_mk (fun a ha => (hnn a ha).2) (fun x hx => (hty x hx).2), fun i h0 hi => ?_, fun k h0 hk => ?_, fun k h0 hk => ?_, hlen.1, hlen.2⟩
  · have h1 := hty x hx
    have h2 := he x hx
    exact ⟨by omega, h2.1, h2.2⟩
  · unfold gN
    show ((g.nodes ++ _)[i.toNat]?).getD 0 = _
    rw [app_lo _ _ (by omega)]
  · unfold eA
    rw [hl, app_lo _ _ (by omega)]
  · have hk2 : k.toNat - g.edges.length < l.length := by rw [hl, List.length_append] at hk; omega
    have hE : eA (grown t g d) k = l[k.toNat - g.edges.length] := by
     unfold eA
     rw [hl, app_hi _ _ (by omega), lge hk2]; rfl
    rw [hE]
    exact hfit _ (lgm hk2)
end
section
variable {t : Types} {d : Dr24}
theorem made24_plain (hp : d.plain = true) : made24 t d = ⟨⟨#[114]⟩, ⟨made17 t d.left.graph, [], 0, []⟩, ⟨rg24 t d, [], 0, []⟩, kept24 t d, ⟨(shufF (gr24 t d).nodes.length d.order).take (kg24 t d).nodes.length, (shufF (gr24 t d).edges.length d.order).take (kg24 t d).edges.length⟩, d.inj, trueC⟩ := by
  unfold made24; rw [if_pos hp]; rfl
theorem made24_rule (h : FlatT t) (hp : d.plain = true) : ruleF t (made24 t d) = 0 := by
  obtain ⟨g0, t0⟩ := made17_ok h d.left.graph
  have e0 := made17_ends t d.left.graph
  have hl0 := made17_len t d.left.graph
  have hS : subF (made17 t d.left.graph) (kept24 t d) = 0 := made7_sub g0 e0 _
  have hkg : kg24 t d = extractG (made17 t d.left.graph) (kept24 t d) := rfl
  have hk := extract_ok hS
  obtain ⟨x1, x2⟩ := extract_len hS
  obtain ⟨s1, s2⟩ := sub_le hS
  obtain ⟨_, hs, hsn, hse⟩ := subF_of hS
  have tin := typedB_in g0 t0
  have tk : typedB t (kg24 t d) = true := by
    rw [hkg]
    unfold extractG; rw [if_pos hS]
    refine typedB_mk (fun a ha => ?_) (fun x hx => ?_)
    ·obtain ⟨n, hn, rfl⟩ := List.mem_map.1 ha
     exact (tin.1 _ (gN_mem (hsn n hn).1 (hsn n hn).2)).2
    ·obtain ⟨k, hk', rfl⟩ := List.mem_map.1 hx
     exact (tin.2 _ (eA_mem (hse k hk').1 (hse k hk').2)).1.2
  rw [← hkg] at hk x1 x2
  have hG : GrOk t (kg24 t d) (gr24 t d) := gr_ok h hk tk (by omega) (by omega)
  have pN := shufF_perm (gr24 t d).nodes.length d.order
  have pE := shufF_perm (gr24 t d).edges.length d.order
  have oN : OntoL (gr24 t d).nodes.length (shufF (gr24 t d).nodes.length d.order) := onto_of pN fun v hv => shufF_mem _ _ hv
  have oE : OntoL (gr24 t d).edges.length (shufF (gr24 t d).edges.length d.order) := onto_of pE fun v hv => shufF_mem _ _ hv
  have gR : graphF (rg24 t d) = 0 := reo_ok hG.ok pN pE oN oE
  have tR : typedB t (rg24 t d) = true := reo_typed hG.ok hG.ty pN pE oN oE
  have hP := patternF_plain h.v g0 t0
  have lR := reo_len (p := shufF (gr24 t d).nodes.length d.order) (q := shufF (gr24 t d).edges.length d.order) hG.ok
  have hln := hG.ln
  have hle := hG.le
  have nd := fun (i : Int) (h0 : 0 ≤ i) (hi : i < (gr24 t d).nodes.length) => reo_node (q := shufF (gr24 t d).edges.length d.order) hG.ok pN h0 hi
  have ed := fun (i : Int) (h0 : 0 ≤ i) (hi : i < (gr24 t d).edges.length) => reo_edge (p := shufF (gr24 t d).nodes.length d.order) hG.ok pE h0 hi
  have gin := fun (k : Int) (h0 : 0 ≤ k) (hk : k < (gr24 t d).edges.length) => edge_in hG.ok h0 hk
  have hrg : reoF (gr24 t d) (shufF (gr24 t d).nodes.length d.order) (shufF (gr24 t d).edges.length d.order) = rg24 t d := rfl
  rw [hrg] at lR
  simp only [hrg] at nd ed
  have fitG := hG.fi
  have nG := hG.no
  have eG := hG.ed
  have oN1 := pN.1
  have oE1 := pE.1
  rw [made24_plain hp]
  generalize shufF (gr24 t d).nodes.length d.order = p at *
  generalize shufF (gr24 t d).edges.length d.order = q at *
  have tk1 : ∀ {l : List Int} {m : Nat} {i : Int}, 0 ≤ i → i < m → m ≤ l.length → iA (l.take m) i = iA l i := fun {l m i} h0 hi hm => by
    unfold iA; rw [List.getElem?_take, if_pos (by omega)]
  have hM : morphF (extractG (made17 t d.left.graph) (kept24 t d)) (rg24 t d) ⟨p.take (kg24 t d).nodes.length, q.take (kg24 t d).edges.length⟩ = 0 := by
    rw [← hkg]
    refine morphF_mk hk gR (by simp only [List.length_take]; omega) (by simp only [List.length_take]; omega) (fun i h0 hi => ?_) (fun k h0 hk' => ?_)
    ·show (0 ≤ iA (p.take (kg24 t d).nodes.length) i ∧ iA (p.take (kg24 t d).nodes.length) i < _) ∧ gN _ (iA (p.take (kg24 t d).nodes.length) i) = _
     rw [tk1 h0 hi (by omega), nd i h0 (by omega), nG i h0 hi]
     have := perm_at pN h0 (show i < (gr24 t d).nodes.length by omega)
     exact ⟨by omega, rfl⟩
    ·show (0 ≤ iA (q.take (kg24 t d).edges.length) k ∧ iA (q.take (kg24 t d).edges.length) k < _) ∧ _ = (eA _ (iA (q.take (kg24 t d).edges.length) k)).type ∧ iA (p.take (kg24 t d).nodes.length) _ = (eA _ (iA (q.take (kg24 t d).edges.length) k)).from_ ∧ iA (p.take (kg24 t d).nodes.length) _ = (eA _ (iA (q.take (kg24 t d).edges.length) k)).to_
     rw [tk1 h0 hk' (by omega), ed k h0 (by omega), eG k h0 hk', reoX_eq]
     have := perm_at pE h0 (show k < (gr24 t d).edges.length by omega)
     have hen := edge_in hk h0 hk'
     exact ⟨by omega, rfl, tk1 hen.1.1 hen.1.2 (by omega), tk1 hen.2.1.1 hen.2.1.2 (by omega)⟩
  have hI : injB (extractG (made17 t d.left.graph) (kept24 t d)) (rg24 t d) ⟨p.take (kg24 t d).nodes.length, q.take (kg24 t d).edges.length⟩ = true := by
    simp only [injB, Bool.and_eq_true, decide_eq_true_eq]
    exact ⟨hM, (List.take_sublist _ _).nodup (perm_nodup pN), (List.take_sublist _ _).nodup (perm_nodup pE)⟩
  have hK : makeB t (rg24 t d) (othersL (p.take (kg24 t d).nodes.length) (rg24 t d).nodes.length) (othersL (q.take (kg24 t d).edges.length) (rg24 t d).edges.length) = true := by
    refine makeB_mk (fun i hi => ?_) (fun i hi => ?_)
    ·have hr := othersL_mem hi
     have hn := (typedB_in gR tR).1 _ (gN_mem hr.1 hr.2)
     unfold absB
     rw [lge (show (gN (rg24 t d) i).toNat < t.nodes.length by omega)]
     exact h.con _ (lgm _)
    ·obtain ⟨hr, hni⟩ := othersL_iff.1 hi
     obtain ⟨k, hk', he⟩ := oE i hr.1 (by omega)
     have hge : (kg24 t d).edges.length ≤ k := by
      refine Classical.byContradiction fun hc => hni ?_
      rw [← he, ← tk1 (m := (kg24 t d).edges.length) hk'.1 (by omega) (by omega)]
      exact iA_mem hk'.1 (by rw [List.length_take]; omega)
     have hf := fitG k hge hk'.2
     have hen := gin k hk'.1 hk'.2
     have hE := ed k hk'.1 hk'.2
     rw [he, reoX_eq] at hE
     show (!fitsT t (eA (rg24 t d) i).type (gN (rg24 t d) (eA (rg24 t d) i).from_) (gN (rg24 t d) (eA (rg24 t d) i).to_)) = false
     rw [hE]
     show (!fitsT t (eA (gr24 t d) k).type (gN (rg24 t d) (iA p (eA (gr24 t d) k).from_)) (gN (rg24 t d) (iA p (eA (gr24 t d) k).to_))) = false
     rw [nd _ hen.1.1 hen.1.2, nd _ hen.2.1.1 hen.2.1.2, hf]; rfl
  have hR : rightF t (⟨⟨#[114]⟩, ⟨made17 t d.left.graph, [], 0, []⟩, ⟨rg24 t d, [], 0, []⟩, kept24 t d, ⟨p.take (kg24 t d).nodes.length, q.take (kg24 t d).edges.length⟩, d.inj, trueC⟩ : Rule) = 0 := by
    unfold rightF
    rw [if_neg (by show ¬ graphF (rg24 t d) ≠ 0; rw [gR]; simp), if_neg (by show ¬ typedB t (rg24 t d) = false; rw [tR]; simp), if_neg (by simp), if_neg (by simp)]
    rfl
  have hKe : keptF (⟨⟨#[114]⟩, ⟨made17 t d.left.graph, [], 0, []⟩, ⟨rg24 t d, [], 0, []⟩, kept24 t d, ⟨p.take (kg24 t d).nodes.length, q.take (kg24 t d).edges.length⟩, d.inj, trueC⟩ : Rule) = 0 := by
    unfold keptF
    rw [if_neg (fun hc => hc hS), if_neg (fun hc => hc hM)]
    refine if_neg fun hc => ?_
    have hc' := hI.symm.trans hc
    cases hc'
  unfold ruleF
  rw [if_neg (by rw [h.v]; simp), if_neg (by show ¬ isName ⟨#[114]⟩ = false; decide), if_neg (by show ¬ patternF t ⟨made17 t d.left.graph, [], 0, []⟩ ≠ 0; rw [hP]; simp), if_neg (by rw [hR]; simp), if_neg (by rw [hKe]; simp), if_neg]
  · show condF t ⟨made17 t d.left.graph, [], 0, []⟩ trueC = 0
    unfold condF
    rw [if_neg (by rw [hP]; simp), if_neg (by decide)]
    rfl
  · intro hh
    have hh' := hK.symm.trans hh
    cases hh'
theorem made24_one (h : FlatT t) (hp : d.plain = true) (hi : d.inj = true) : oneR t (made24 t d) = 0 := by
  unfold oneR
  rw [if_neg (by rw [made24_rule h hp]; simp), if_neg, if_neg]
  · rw [flat_leaf h, flat_leaf h]; simp
  · rw [made24_plain hp]
    unfold structB plainB
    rw [hi]
    simp; rfl
theorem made_given (h : FlatT t) {e : Dr24} (hp : d.plain = true) (hi : d.inj = true) (hp' : e.plain = true) (hi' : e.inj = true) : givenR t (made24 t d) (made24 t e) = 0 := by
  unfold givenR
  rw [if_neg (by rw [h.v]; simp), if_neg (by rw [made24_one h hp hi]; simp), made24_one h hp' hi']
end
end Go.Abs
end
section
set_option maxRecDepth 8000
open Go Go.Proofs
namespace Go.Abs
def cntR (p : Nat → Bool) (n : Nat) : Nat := ((List.range n).filter p).length
theorem cntR_succ (p : Nat → Bool) (n : Nat) : cntR p (n + 1) = cntR p n + (if p n = true then 1 else 0) := by
  unfold cntR
  rw [List.range_succ, List.filter_append, List.length_append]
  by_cases h : p n = true <;> simp [h]
theorem cntR_split (p q : Nat → Bool) : ∀ n, cntR p n = cntR (fun i => p i && q i) n + cntR (fun i => p i && !q i) n
  | 0 => rfl
  | n + 1 => by
    rw [cntR_succ, cntR_succ, cntR_succ, cntR_split p q n]
    cases p n <;> cases q n <;> simp <;> omega
theorem cntR_congr {p q : Nat → Bool} {n : Nat} (h : ∀ i, i < n → p i = q i) : cntR p n = cntR q n := by
  unfold cntR
  rw [List.filter_congr fun i hi => h i (List.mem_range.1 hi)]
theorem cntR_all (p : Nat → Bool) (n : Nat) : cntR p n + cntR (fun i => !p i) n = n := by
  have h := cntR_split (fun _ => true) p n
  have h0 : cntR (fun _ => true) n = n := by unfold cntR; rw [List.filter_eq_self.2 (fun _ _ => rfl), List.length_range]
  simp only [Bool.true_and] at h
  have e : cntR (fun i => p i) n = cntR p n := rfl
  omega
theorem othersL_cnt (l : List Int) (n : Nat) : (othersL l n).length = cntR (fun i => !mem l i) n := by unfold othersL cntR; rw [List.length_map]
theorem inL_cnt (l : List Int) (n : Nat) : (inL l n).length = cntR (fun i => mem l i) n := by unfold inL cntR; rw [List.length_map]
theorem nodup_cnt {l : List Int} {n : Nat} (hr : ∀ x ∈ l, 0 ≤ x ∧ x < n) (hd : l.Nodup) : l.length = cntR (fun i => mem l i) n := by
  rw [← inL_cnt, ← sorted_eq hr hd, sorted_len]
theorem others_len {l : List Int} {n : Nat} (hr : ∀ x ∈ l, 0 ≤ x ∧ x < n) (hd : l.Nodup) : (othersL l n).length + l.length = n := by
  rw [othersL_cnt, nodup_cnt hr hd]
  have := cntR_all (fun i => mem l i) n
  omega
theorem range_getD (d : List Int) : d = (List.range d.length).map fun i => d[i]?.getD 0 := by
  refine List.ext_getElem (by simp) fun i h1 h2 => ?_
  simp [h1]
theorem comA_count (d f : List Int) : (comA d f d.length).length = (d.filter fun x => mem f x).length := by
  unfold comA
  rw [List.length_map]
  conv => rhs; rw [range_getD d, List.filter_map, List.length_map]
  rfl
theorem others_filter (u f : List Int) (n : Nat) (q : Nat → Bool) (h : ∀ i, i < n → mem f (i : Int) = q i) : ((othersL u n).filter fun x => mem f x).length = cntR (fun i => q i && !mem u i) n := by
  unfold othersL cntR
  rw [List.filter_map, List.length_map, List.filter_filter]
  refine congrArg List.length (List.filter_congr fun i hi => ?_)
  rw [List.mem_range] at hi
  show (mem f (i : Int) && !mem u i) = _
  rw [h i hi]
theorem gone_map {im keep : List Int} : goneL im keep = (othersL keep im.length).map fun i => iA im i := by
  unfold goneL othersL
  rw [List.map_map]
  refine List.map_congr_left fun i _ => ?_
  show im[i]?.getD 0 = im[(i : Int).toNat]?.getD 0
  rw [Int.toNat_natCast]
theorem others_inL (l : List Int) (n : Nat) : othersL (inL l n) n = othersL l n := by
  refine asc_ext (othersL_asc _ _) (othersL_asc _ _) fun x => ?_
  rw [othersL_iff, othersL_iff, inL_iff]
  constructor
  · rintro ⟨h1, h2⟩; exact ⟨h1, fun hc => h2 ⟨h1, hc⟩⟩
  · rintro ⟨h1, h2⟩; exact ⟨h1, fun hc => h2 hc.2⟩
theorem iA_nodup {l : List Int} (h : l.Nodup) {x y : Int} (hx : 0 ≤ x ∧ x < l.length) (hy : 0 ≤ y ∧ y < l.length) (he : iA l x = iA l y) : x = y := by
  unfold iA at he
  rw [lge (show x.toNat < l.length by omega), lge (show y.toNat < l.length by omega), Option.getD_some, Option.getD_some] at he
  have := (List.getElem_inj h).1 he
  omega
theorem gone_nodup {im keep : List Int} (h : im.Nodup) : (goneL im keep).Nodup := by
  rw [gone_map]
  show List.Pairwise _ _
  rw [List.pairwise_map]
  refine (othersL_asc keep im.length).imp_of_mem fun {x y} hx hy hlt he => ?_
  have := iA_nodup h (othersL_mem hx) (othersL_mem hy) he
  omega
theorem gone_len {im keep : List Int} : (goneL im keep).length = (othersL keep im.length).length := by rw [gone_map, List.length_map]
section
variable {t : Types} {a b : Rule} {o : Ovl}
def bothN (a b : Rule) (o : Ovl) : Nat := (a.freshN.filter fun n => b.goneN.any fun y => decide (iA o.left.nodes n = iA o.right.nodes y)).length
theorem both_count (ha : Rule.parts t a) (hb : Rule.parts t b) (h : partsE a b o = 0) :
    bothN a b o = cntR (fun i => mem (goneL o.left.nodes (inP a).nodes) i && mem (goneL o.right.nodes b.keep.nodes) i) o.graph.nodes.length := by
  have g := parts_ok h
  obtain ⟨_, _, l1, _⟩ := morphF_len g.m1
  obtain ⟨_, _, l2, _⟩ := morphF_len g.m2
  obtain ⟨_, i1, _⟩ := injB_of g.i1
  have hin := (morphF_in g.m1).1
  have hA : othersL (inP a).nodes o.left.nodes.length = a.freshN := by rw [l1]; exact others_inL _ _
  have hB : othersL b.keep.nodes o.right.nodes.length = b.goneN := by rw [l2]; rfl
  have hW : ((goneL o.left.nodes (inP a).nodes).filter fun x => mem (goneL o.right.nodes b.keep.nodes) x).length = bothN a b o := by
    unfold bothN
    rw [show goneL o.left.nodes (inP a).nodes = a.freshN.map (fun i => iA o.left.nodes i) by rw [gone_map, hA], List.filter_map, List.length_map]
    refine congrArg List.length (List.filter_congr fun n hn => ?_)
    show mem (goneL o.right.nodes b.keep.nodes) (iA o.left.nodes n) = _
    rw [bei, mem_iff, gone_map, hB, List.mem_map, List.any_eq_true]
    constructor
    ·rintro ⟨y, hy, he⟩; exact ⟨y, hy, by simpa using he.symm⟩
    ·rintro ⟨y, hy, he⟩; exact ⟨y, hy, by simpa using (of_decide_eq_true he).symm⟩
  have hr : ∀ x ∈ (goneL o.left.nodes (inP a).nodes).filter fun x => mem (goneL o.right.nodes b.keep.nodes) x, 0 ≤ x ∧ x < o.graph.nodes.length := fun x hx => by
    have hx1 := (List.mem_filter.1 hx).1
    rw [gone_map, List.mem_map] at hx1
    obtain ⟨n, hn, rfl⟩ := hx1
    exact hin _ (iA_mem (othersL_mem hn).1 (othersL_mem hn).2)
  rw [← hW, nodup_cnt hr ((gone_nodup i1).filter _)]
  refine cntR_congr fun i hi => ?_
  rw [bei, Bool.and_eq_true, mem_iff, mem_iff, mem_iff, List.mem_filter, mem_iff]
theorem conc_counts (ha : Rule.parts t a) (hb : Rule.parts t b) (h : partsE a b o = 0) :
    ((othersL (comA (partsD a b o).nodes (partsF a b o).nodes (partsD a b o).nodes.length) (refL a b o (partsD a b o) (partsF a b o)).nodes.length).length : Int) = a.goneN.length + b.goneN.length - bothN a b o ∧
    ((othersL (comB (partsD a b o).nodes (partsF a b o).nodes (partsD a b o).nodes.length) (refR a b o (partsD a b o) (partsF a b o)).nodes.length).length : Int) = a.freshN.length + b.freshN.length - bothN a b o := by
  have g := parts_ok h
  have r := rok ha hb h
  obtain ⟨_, _, l1, _⟩ := morphF_len g.m1
  obtain ⟨_, _, l2, _⟩ := morphF_len g.m2
  obtain ⟨_, i1, _⟩ := injB_of g.i1
  obtain ⟨_, i2, _⟩ := injB_of g.i2
  have hin1 := (morphF_in g.m1).1
  have hin2 := (morphF_in g.m2).1
  have hA : othersL (inP a).nodes o.left.nodes.length = a.freshN := by rw [l1]; exact others_inL _ _
  have hB : othersL b.keep.nodes o.right.nodes.length = b.goneN := by rw [l2]; rfl
  have kL := (grown_lens (gokL ha hb h)).1
  have kR := (grown_lens (gokR ha hb h)).1
  have hsd := subF_of r.sd
  have hsf := subF_of r.sf
  have q1 := others_len (l := comA (partsD a b o).nodes (partsF a b o).nodes (partsD a b o).nodes.length) (n := (refL a b o (partsD a b o) (partsF a b o)).nodes.length) (fun x hx => by
    have := (comA_iff.1 hx).1
    have kL' : (refL a b o (partsD a b o) (partsF a b o)).nodes.length = _ := kL
    omega) (asc_nodup (comA_asc _ _))
  have q2 := others_len (l := comB (partsD a b o).nodes (partsF a b o).nodes (partsD a b o).nodes.length) (n := (refR a b o (partsD a b o) (partsF a b o)).nodes.length) (fun x hx => by
    have kR' : (refR a b o (partsD a b o) (partsF a b o)).nodes.length = _ := kR
    rw [comB_eq, List.mem_map] at hx
    obtain ⟨y, hy, rfl⟩ := hx
    have p := pos_ok hsf.2.1 (comA_iff.1 hy).2
    rw [p.2.2]; omega) (comB_nodup hsd.2.1 hsf.2.1)
  have kL' : (refL a b o (partsD a b o) (partsF a b o)).nodes.length = (partsD a b o).nodes.length + a.goneN.length := kL
  have kR' : (refR a b o (partsD a b o) (partsF a b o)).nodes.length = (partsF a b o).nodes.length + b.freshN.length := kR
  have hbc := both_count ha hb h
  have hcl := comB_len2 (partsD a b o).nodes (partsF a b o).nodes
  have eD : (partsD a b o).nodes = othersL (goneL o.left.nodes (inP a).nodes) o.graph.nodes.length := by rw [partsD_eq h]
  have eF : (partsF a b o).nodes = othersL (goneL o.right.nodes b.keep.nodes) o.graph.nodes.length := by rw [partsF_eq h]
  have hmF : ∀ i, i < o.graph.nodes.length → mem (partsF a b o).nodes (i : Int) = !mem (goneL o.right.nodes b.keep.nodes) (i : Int) := fun i hi => by
    rw [eF, bei, mem_iff, othersL_iff, Bool.not_eq_true', Bool.eq_false_iff]
    constructor
    ·rintro ⟨_, h2⟩ hc; exact h2 ((mem_iff _ _).1 hc)
    ·intro hc; exact ⟨⟨by omega, by omega⟩, fun h2 => hc ((mem_iff _ _).2 h2)⟩
  have hco : (comA (partsD a b o).nodes (partsF a b o).nodes (partsD a b o).nodes.length).length = cntR (fun i => (!mem (goneL o.right.nodes b.keep.nodes) i) && !mem (goneL o.left.nodes (inP a).nodes) i) o.graph.nodes.length := by
    rw [comA_count]
    conv => lhs; rw [eD]
    exact others_filter _ _ _ _ hmF
  have hU := nodup_cnt (l := goneL o.left.nodes (inP a).nodes) (n := o.graph.nodes.length) (fun x hx => by
    rw [gone_map, List.mem_map] at hx
    obtain ⟨n, hn, rfl⟩ := hx
    exact hin1 _ (iA_mem (othersL_mem hn).1 (othersL_mem hn).2)) (gone_nodup i1)
  have hV := nodup_cnt (l := goneL o.right.nodes b.keep.nodes) (n := o.graph.nodes.length) (fun x hx => by
    rw [gone_map, List.mem_map] at hx
    obtain ⟨n, hn, rfl⟩ := hx
    exact hin2 _ (iA_mem (othersL_mem hn).1 (othersL_mem hn).2)) (gone_nodup i2)
  rw [gone_len, hA] at hU
  rw [gone_len, hB] at hV
  have hdl : (partsD a b o).nodes.length = _ := (congrArg List.length eD).trans (othersL_cnt _ _)
  have hfl : (partsF a b o).nodes.length = _ := (congrArg List.length eF).trans (othersL_cnt _ _)
  generalize hu : (fun i : Nat => mem (goneL o.left.nodes (inP a).nodes) (i : Int)) = u at *
  generalize hv : (fun i : Nat => mem (goneL o.right.nodes b.keep.nodes) (i : Int)) = v at *
  have hu' : ∀ i : Nat, mem (goneL o.left.nodes (inP a).nodes) (i : Int) = u i := fun i => congrFun hu i
  have hv' : ∀ i : Nat, mem (goneL o.right.nodes b.keep.nodes) (i : Int) = v i := fun i => congrFun hv i
  simp only [hu', hv'] at hbc hco hdl hfl
  have c1 := cntR_split u v o.graph.nodes.length
  have c2 := cntR_split v u o.graph.nodes.length
  have c3 := cntR_split (fun i => !u i) v o.graph.nodes.length
  have c4 := cntR_split (fun i => !v i) u o.graph.nodes.length
  have w1 : cntR (fun i => v i && u i) o.graph.nodes.length = cntR (fun i => u i && v i) o.graph.nodes.length := cntR_congr fun i _ => Bool.and_comm _ _
  have w2 : cntR (fun i => v i && !u i) o.graph.nodes.length = cntR (fun i => (!u i) && v i) o.graph.nodes.length := cntR_congr fun i _ => Bool.and_comm _ _
  have w3 : cntR (fun i => u i && !v i) o.graph.nodes.length = cntR (fun i => (!v i) && u i) o.graph.nodes.length := cntR_congr fun i _ => Bool.and_comm _ _
  have w4 : cntR (fun i => (!u i) && !v i) o.graph.nodes.length = cntR (fun i => (!v i) && !u i) o.graph.nodes.length := cntR_congr fun i _ => Bool.and_comm _ _
  omega
end
end Go.Abs
end
