/- Reorder, and the parts of drafts. · The graph and the tests  -/
import Derived.Test.YtjhccdolbhjmaaaGreatZgE
import Derived.Test.YtjhccdolbhjmaaaGreatZgP
set_option linter.unusedVariables false
set_option linter.unusedSimpArgs false
section
set_option maxRecDepth 8000
set_option maxHeartbeats 2000000
open Go Go.Proofs
namespace Go.Abs
theorem ref05_CopiedO (g : Graph) (hn : g.nodes.length ≤ 100000) (he : g.edges.length ≤ 100000) (G : AHeap) (Q : D → AHeap → Prop)
    (hQ : ∀ a b H', G.next ≤ a → G.next ≤ b → a ≠ b → a < H'.next → b < H'.next → H'.get a = some ⟨3, 1, g.nodes.map cI, false⟩ → H'.get b = some ⟨146, 3, g.edges.map Edge.c, false⟩ → (∀ j, j < G.next → H'.get j = G.get j) → G.next ≤ H'.next → Q (.agg [.own a g.nodes.length, .own b g.edges.length]) H') : ACalls Tryz.prog 165 [g.d] G Q := by
  refine (acalls_of_body (cfg := ⟨fun t => t == 2 || t == 3 || t == 7, fun r => match r with | 1 => [(0, 1), (0, 2), (0, 4), (1, 4), (2, 4), (3, 4), (0, 5), (3, 5), (4, 5), (0, 6), (3, 6), (4, 6)] | _ => []⟩) Tz.mixed Tryz.func165 rfl rfl (nlb rfl) (by kernel_rfl) ?_)
  have nx := nxs G.next
  try simp [go_sem, nx]
  repeat (first | intro _ | (refine ⟨obl, ?_⟩))
  exact hQ _ _ _ (by first | omega | (simp [go_sem] <;> omega) | (simp [go_sem, nx] <;> omega)) (by first | omega | (simp [go_sem] <;> omega) | (simp [go_sem, nx] <;> omega)) (by first | omega | (simp [go_sem] <;> omega) | (simp [go_sem, nx] <;> omega)) (by first | omega | (simp [go_sem] <;> omega) | (simp [go_sem, nx] <;> omega)) (by first | omega | (simp [go_sem] <;> omega) | (simp [go_sem, nx] <;> omega)) (by simp [go_sem, nx] <;> omega) (by simp [go_sem, nx] <;> omega) (fun j hj => by simp [go_sem, frs hj]) (by first | omega | (simp [go_sem] <;> omega) | (simp [go_sem, nx] <;> omega))
theorem ref05_Reorder (g : Graph) (hn : g.nodes.length ≤ 100000) (he : g.edges.length ≤ 100000) (p q : List Int) (hp : PermL g.nodes.length p) (hq : PermL g.edges.length q) : Pure Tryz.prog 137 [g.d, Part.d ⟨p, q⟩] (.tup [(reoF g p q).d, dI (graphF g)]) := by
  obtain ⟨hp1, hp2, hp3⟩ := hp
  obtain ⟨hq1, hq2, hq3⟩ := hq
  refine Tz.pK ⟨fun t => t == 4 || t == 9 || t == 12, fun _ => []⟩ Tryz.func137 rfl (fun Q hQ => ?_)
  try simp [go_sem, hp1, hq1]
  refine cq0 (ref05_Valid g) ?_
  try simp [go_sem, hp1, hq1]
  refine condQ_mk (fun h2 => ?_) (fun h2 => ?_)
  · try simp [go_sem] at h2
    try simp [go_sem, hp1, hq1]
    exact hQ _ _ (by first | (left; (simp [go_sem, reoF, h2]); done) | (right; (simp [go_sem, reoF, h2]); done))
  · try simp [go_sem] at h2
    try simp [go_sem, hp1, hq1]
    repeat first | intro _ | refine ⟨obs, ?_⟩
    refine cq0 (ref05_permutation p (by rw [hp1]; exact hp2) hp3) ?_
    try simp [go_sem, hp1, hq1]
    repeat first | intro _ | refine ⟨obs, ?_⟩
    refine cq0 (ref05_permutation q (by rw [hq1]; exact hq2) hq3) ?_
    try simp [go_sem, hp1, hq1]
    repeat first | intro _ | refine ⟨obs, ?_⟩
    unfold callQ; refine ref05_CopiedO g hn he _ _ (fun a b H1 ha hb hab han hbn hga hgb hfr hnn => ?_)
    have h0n : (0 : Nat) < H1.next := by omega
    have ha0 : a ≠ 0 := by simp [go_sem] at ha; omega
    have hb0 : b ≠ 0 := by simp [go_sem] at hb; omega
    have hg0 := hfr 0 (by simp [go_sem])
    simp [go_sem] at hg0
    have nx := nxs H1.next
    have fr1 := And.intro (frs (show a < H1.next by omega)) (And.intro (frs (show b < H1.next by omega)) (frs (show 0 < H1.next by omega)))
    have di2 := And.intro (nep (show 0 ≠ b by omega)) (And.intro (nep (show 0 ≠ a by omega)) (nep (show b ≠ a by omega)))
    try simp [go_sem, hp1, hq1, fr1, di2, hga, hgb, hg0, nx]
    repeat first | intro _ | refine ⟨obs, ?_⟩
    obtain ⟨I0, hI0⟩ := mkI fun i e H => (∃ c : Nat, (e 2 = .adr g.c) ∧ (e 3 = .adr [dLI p, dLI q]) ∧ (e 4 = .ptr 0 1 0 0) ∧ (e 9 = .ptr c 1 0 0) ∧ (e 10 = dI i) ∧ (H.get 0 = some ⟨39, 2, [[.nil, .nil]], false⟩) ∧ (0 < H.next) ∧ (H.get c = some ⟨39, 2, [[.own a g.nodes.length, .own b g.edges.length]], false⟩) ∧ (c < H.next) ∧ (H.get a = some ⟨3, 1, (reoN p g.nodes i).map cI, false⟩) ∧ (a < H.next) ∧ (H.get b = some ⟨146, 3, g.edges.map Edge.c, false⟩) ∧ (b < H.next) ∧ (i ≤ g.nodes.length) ∧ (a < c ∧ b < c) ∧ ((reoN p g.nodes i).length = g.nodes.length))
    refine loopK I0 (fun i => g.nodes.length - i) (0) ((hI0 _ _ _).2 ⟨(H1.next), ?_, ?_, ?_, ?_, ?_, ?_, ?_, ?_, ?_, (by (simp [go_sem, hp1, hq1, fr1, di2, hga, hgb, hg0, nx, reoN])), ?_, ?_, ?_, (by first | assumption | omega | (simp [go_sem, hp1, hq1, fr1, di2, hga, hgb, hg0, nx]; done) | (simp_all; done)), (by omega), (by (exact reoN_len _ _ _))⟩) ?_
    iterate 12 (first | omega | (simp [go_sem, hp1, hq1, fr1, di2, hga, hgb, hg0, nx] <;> omega))
    intro i e H hi0
    obtain ⟨c, q2_0, q3_0, q4_0, q9_0, q10_0, g0_0, n0_0, gc_0, nc_0, ga_0, na_0, gb_0, nb_0, hi, hc, hrl⟩ := (hI0 _ _ _).1 hi0
    have x0 := frs n0_0
    have xc := frs nc_0
    have xa := frs na_0
    have xb := frs nb_0
    have F0 := And.intro q2_0 (And.intro q3_0 (And.intro q4_0 (And.intro q9_0 (And.intro q10_0 (And.intro g0_0 (And.intro gc_0 (And.intro ga_0 (And.intro gb_0 (And.intro x0 (And.intro xc (And.intro xa xb)))))))))))
    have di3 := And.intro (nep (show 0 ≠ c by omega)) (And.intro (nep (show 0 ≠ b by omega)) (And.intro (nep (show 0 ≠ a by omega)) (And.intro (nep (show c ≠ b by omega)) (And.intro (nep (show c ≠ a by omega)) (nep (show b ≠ a by omega))))))
    try simp [go_sem, hp1, hq1, fr1, di2, hga, hgb, hg0, nx, F0, hrl, di3]
    repeat first | intro _ | refine ⟨obs, ?_⟩
    refine condQ_mk (fun h14 => ?_) (fun h14 => ?_)
    ·try simp [go_sem] at h14
     have hip : i < p.length := by omega
     have hpi := hp2 _ (lgm hip)
     have hpd : p[i]?.getD 0 = p[i] := by rw [lge hip]; rfl
     have hxd : g.nodes[i]?.getD 0 = g.nodes[i] := by rw [lge h14]; rfl
     have hpl : p[i].toNat < (reoN p g.nodes i).length := by rw [hrl]; omega
     try simp [go_sem, hp1, hq1, fr1, di2, hga, hgb, hg0, nx, F0, hrl, di3, h14, lge h14, lge hip, lge hpl, hrl]
     repeat first | intro _ | refine ⟨obs, ?_⟩
     refine nextQ_mk (i + 1) (by omega) ((hI0 _ _ _).2 ⟨(c), ?_, ?_, ?_, ?_, ?_, ?_, ?_, ?_, ?_, (by (simp [go_sem, hp1, hq1, fr1, di2, hga, hgb, hg0, nx, F0, hrl, di3, h14, lge h14, lge hip, lge hpl, hrl, reoN_succ, List.map_set, hpd, hxd])), ?_, ?_, ?_, (by first | assumption | omega | (simp [go_sem, hp1, hq1, fr1, di2, hga, hgb, hg0, nx, F0, hrl, di3, h14, lge h14, lge hip, lge hpl, hrl, h2]; done) | (simp_all <;> omega)), (by omega), (by (exact reoN_len _ _ _))⟩) <;> first | omega | (simp [go_sem, hp1, hq1, fr1, di2, hga, hgb, hg0, nx, F0, hrl, di3, h14, lge h14, lge hip, lge hpl, hrl] <;> omega)
    ·try simp [go_sem] at h14
     have hI : i = g.nodes.length := by omega
     rw [hI] at hrl
     try simp [go_sem, hp1, hq1, fr1, di2, hga, hgb, hg0, nx, F0, hrl, di3]
     obtain ⟨I2, hI2⟩ := mkI fun k e H => ((e 2 = .adr g.c) ∧ (e 3 = .adr [dLI p, dLI q]) ∧ (e 4 = .ptr 0 1 0 0) ∧ (e 9 = .ptr c 1 0 0) ∧ (e 11 = dI k) ∧ (H.get 0 = some ⟨39, 2, [[.nil, .nil]], false⟩) ∧ (0 < H.next) ∧ (H.get c = some ⟨39, 2, [[.own a g.nodes.length, .own b g.edges.length]], false⟩) ∧ (c < H.next) ∧ (H.get a = some ⟨3, 1, (reoN p g.nodes g.nodes.length).map cI, false⟩) ∧ (a < H.next) ∧ (H.get b = some ⟨146, 3, (reoE p q g.edges k).map Edge.c, false⟩) ∧ (b < H.next) ∧ (k ≤ g.edges.length) ∧ ((reoE p q g.edges k).length = g.edges.length))
     refine loopK I2 (fun k => g.edges.length - k) (0) ((hI2 _ _ _).2 ⟨?_, ?_, ?_, ?_, ?_, ?_, ?_, ?_, ?_, (by (simp [go_sem, hp1, hq1, fr1, di2, hga, hgb, hg0, nx, F0, hrl, di3, ← hI])), ?_, (by (simp [go_sem, hp1, hq1, fr1, di2, hga, hgb, hg0, nx, F0, hrl, di3, reoE])), ?_, (by first | assumption | omega | (simp [go_sem, hp1, hq1, fr1, di2, hga, hgb, hg0, nx, F0, hrl, di3]; done) | (simp_all; done)), (by (exact reoE_len _ _ _ _))⟩) ?_
     iterate 11 (first | omega | (simp [go_sem, hp1, hq1, fr1, di2, hga, hgb, hg0, nx, F0, hrl, di3] <;> omega))
     intro k e H hi2
     obtain ⟨q2_2, q3_2, q4_2, q9_2, q11_2, g0_2, n0_2, gc_2, nc_2, ga_2, na_2, gb_2, nb_2, hk, hel⟩ := (hI2 _ _ _).1 hi2
     have x0 := frs n0_2
     have xc := frs nc_2
     have xa := frs na_2
     have xb := frs nb_2
     have F2 := And.intro q2_2 (And.intro q3_2 (And.intro q4_2 (And.intro q9_2 (And.intro q11_2 (And.intro g0_2 (And.intro gc_2 (And.intro ga_2 (And.intro gb_2 (And.intro x0 (And.intro xc (And.intro xa xb)))))))))))
     have di4 := And.intro (nep (show 0 ≠ c by omega)) (And.intro (nep (show 0 ≠ b by omega)) (And.intro (nep (show 0 ≠ a by omega)) (And.intro (nep (show c ≠ b by omega)) (And.intro (nep (show c ≠ a by omega)) (nep (show b ≠ a by omega))))))
     try simp [go_sem, hp1, hq1, fr1, di2, hga, hgb, hg0, nx, hrl, di3, F2, hel, di4]
     repeat first | intro _ | refine ⟨obs, ?_⟩
     refine condQ_mk (fun h18 => ?_) (fun h18 => ?_)
     ·try simp [go_sem] at h18
      have hkq : k < q.length := by omega
      have hqk := hq2 _ (lgm hkq)
      have hg := graphF_in h2
      have hE := hg.2 _ (lgm h18)
      have hfp : g.edges[k].from_.toNat < p.length := by omega
      have htp : g.edges[k].to_.toNat < p.length := by omega
      have hqd : q[k]?.getD 0 = q[k] := by rw [lge hkq]; rfl
      have hxd : g.edges[k]?.getD ⟨0, 0, 0⟩ = g.edges[k] := by rw [lge h18]; rfl
      have hXX : reoX p g.edges[k] = ⟨g.edges[k].type, p[g.edges[k].from_.toNat], p[g.edges[k].to_.toNat]⟩ := by unfold reoX; rw [lge hfp, lge htp]; rfl
      have hql : q[k].toNat < (reoE p q g.edges k).length := by rw [hel]; omega
      have nx := nxs H.next
      try simp [go_sem, hp1, hq1, fr1, di2, hga, hgb, hg0, nx, hrl, di3, F2, hel, di4, h18, lge h18, lge hkq, lge hql, lge hfp, lge htp, nx, hel]
      repeat first | intro _ | refine ⟨obs, ?_⟩
      refine nextQ_mk (k + 1) (by omega) ((hI2 _ _ _).2 ⟨?_, ?_, ?_, ?_, ?_, ?_, ?_, ?_, ?_, (by (simp [go_sem, hp1, hq1, fr1, di2, hga, hgb, hg0, nx, hrl, di3, F2, hel, di4, h18, lge h18, lge hkq, lge hql, lge hfp, lge htp, nx, hel])), ?_, (by (simp [go_sem, hp1, hq1, fr1, di2, hga, hgb, hg0, nx, hrl, di3, F2, hel, di4, h18, lge h18, lge hkq, lge hql, lge hfp, lge htp, nx, hel, reoE_succ, List.map_set, hqd, hxd, hXX, Edge.c])), ?_, (by first | assumption | omega | (simp [go_sem, hp1, hq1, fr1, di2, hga, hgb, hg0, nx, hrl, di3, F2, hel, di4, h18, lge h18, lge hkq, lge hql, lge hfp, lge htp, nx, hel, h2, h14]; done) | (simp_all <;> omega)), (by (exact reoE_len _ _ _ _))⟩) <;> first | omega | (simp [go_sem, hp1, hq1, fr1, di2, hga, hgb, hg0, nx, hrl, di3, F2, hel, di4, h18, lge h18, lge hkq, lge hql, lge hfp, lge htp, nx, hel] <;> omega)
     ·try simp [go_sem] at h18
      have hK : k = g.edges.length := by omega
      rw [hK] at hel
      try simp [go_sem, hp1, hq1, fr1, di2, hga, hgb, hg0, nx, hrl, di3, F2, hel, di4]
      exact hQ _ _ (.inl (by simp [go_sem, hp1, hq1, fr1, di2, hga, hgb, hg0, nx, hrl, di3, F2, hel, di4, reoF, h2, hK]))
end Go.Abs
end
section
set_option maxRecDepth 8000
set_option maxHeartbeats 2000000
open Go Go.Proofs
namespace Go.Abs
def remF (a b : Int) : Int := (a.tmod b + b).tmod b
theorem tmod_abs (a : Int) {b : Int} (hb : 0 < b) : -b < a.tmod b ∧ a.tmod b < b := by
  refine ⟨?_, Int.tmod_lt_of_pos _ hb⟩
  rcases Int.le_total 0 a with h | h
  · have := Int.tmod_nonneg b h; omega
  · have h1 : (-a).tmod b = -(a.tmod b) := Int.neg_tmod _ _
    have := Int.tmod_lt_of_pos (-a) hb
    omega
theorem remF_in (a : Int) {b : Int} (hb : 0 < b) : 0 ≤ remF a b ∧ remF a b < b := by
  have := tmod_abs a hb
  exact tmod_in (by omega) hb
theorem ref03_remainder (a b : Int) (hb : 0 < b ∧ b ≤ 1000000) : Pure Tryz.prog 250 [dI a, dI b] (dI (remF a b)) := by
  have hb1 := tmod_abs a hb.1
  have hb0 : b ≠ 0 := by omega
  refine Tz.pK ⟨fun _ => false, fun _ => []⟩ Tryz.func250 rfl (fun Q hQ => ?_)
  try simp [go_sem, hb0]
  repeat (first | intro _ | (refine ⟨obl, ?_⟩))
  exact hQ _ _ (by simp [go_sem, hb0, remF] <;> first | omega | (rw [bei]; simp <;> omega) | (simp_all <;> omega))
abbrev T4 := Int8 × Int8 × Int8 × Int8
def cT4 (x : T4) : List D := [.int .i8 x.1.toInt, .int .i8 x.2.1.toInt, .int .i8 x.2.2.1.toInt, .int .i8 x.2.2.2.toInt]
@[go_sem] theorem cT4s_cl (l : List T4) : D.clLL (l.map cT4) = true := clLL_map _ (fun _ => rfl) l
theorem i8_in (x : Int8) : -128 ≤ x.toInt ∧ x.toInt ≤ 127 := by
  have h1 := x.le_toInt
  have h2 := x.toInt_lt
  omega
def made3 (v : Int) (x : T4) : Test := ⟨1 + (remF x.1.toInt 4).tdiv 3, ⟨remF x.2.1.toInt (v + 1) - 1, 0⟩, ⟨remF x.2.2.1.toInt (v + 1) - 1, x.2.2.2.toInt.tmod 12⟩⟩
theorem ref03_Made (v : Int) (hv : 0 ≤ v ∧ v ≤ 1000) (x : T4) : Pure Tryz.prog 199 [dI v, .agg (cT4 x)] (.agg (made3 v x).c) := by
  have h0 := i8_in x.1
  have h1 := i8_in x.2.1
  have h2 := i8_in x.2.2.1
  have h3 := i8_in x.2.2.2
  have r1 := remF_in x.1.toInt (show (0 : Int) < 4 by omega)
  have r2 := remF_in x.2.1.toInt (show 0 < v + 1 by omega)
  have r3 := remF_in x.2.2.1.toInt (show 0 < v + 1 by omega)
  have r4 := tmod_abs x.2.2.2.toInt (show (0 : Int) < 12 by omega)
  have r5 := tdiv_in r1.1 (show (0 : Int) < 3 by omega)
  refine Tz.pK ⟨fun t => t == 4, fun _ => []⟩ Tryz.func199 rfl (fun Q hQ => ?_)
  try simp [go_sem, cT4]
  repeat (first | intro _ | (refine ⟨obl, ?_⟩))
  refine cq0 (ref03_remainder x.1.toInt 4 (by omega)) ?_
  try simp [go_sem, cT4]
  repeat (first | intro _ | (refine ⟨obl, ?_⟩))
  refine dcq0 (ref03_remainder x.2.1.toInt (v + 1) (by omega)) ?_
  try simp [go_sem, cT4]
  repeat (first | intro _ | (refine ⟨obl, ?_⟩))
  refine dcq0 (ref03_remainder x.2.2.1.toInt (v + 1) (by omega)) ?_
  try simp [go_sem, cT4]
  repeat (first | intro _ | (refine ⟨obl, ?_⟩))
  exact hQ _ _ (by simp [go_sem, cT4, made3, Test.c] <;> first | omega | (rw [bei]; simp <;> omega) | (simp_all <;> omega))
def leaN (g : Graph) (nb eb : List Bool) (k : Nat) : List Bool := (List.range k).foldl (fun acc i => if eb[i]?.getD false = true then (acc.set (g.edges[i]?.getD ⟨0, 0, 0⟩).from_.toNat true).set (g.edges[i]?.getD ⟨0, 0, 0⟩).to_.toNat true else acc) nb
theorem leaN_succ (g : Graph) (nb eb : List Bool) (k : Nat) : leaN g nb eb (k + 1) = if eb[k]?.getD false = true then ((leaN g nb eb k).set (g.edges[k]?.getD ⟨0, 0, 0⟩).from_.toNat true).set (g.edges[k]?.getD ⟨0, 0, 0⟩).to_.toNat true else leaN g nb eb k := by
  simp only [leaN, List.range_succ, List.foldl_append, List.foldl_cons, List.foldl_nil]
theorem leaN_len (g : Graph) (nb eb : List Bool) : ∀ k, (leaN g nb eb k).length = nb.length
  | 0 => rfl
  | k + 1 => by
    rw [leaN_succ]; split
    ·rw [List.length_set, List.length_set, leaN_len g nb eb k]
    ·exact leaN_len g nb eb k
def Graph.ends (g : Graph) : Prop := ∀ x ∈ g.edges, (0 ≤ x.from_ ∧ x.from_ < g.nodes.length) ∧ 0 ≤ x.to_ ∧ x.to_ < g.nodes.length
theorem ref07_Least (g : Graph) (hn : g.nodes.length ≤ 100000) (he : g.edges.length ≤ 100000) (hin : g.ends) (nb eb : List Bool) (hnb : nb.length = g.nodes.length) (heb : eb.length = g.edges.length) :
    Pure Tryz.prog 200 [g.d, .list (nb.map cB), .list (eb.map cB)] (Part.d ⟨markL (leaN g nb eb g.edges.length), markL eb⟩) := by
  refine Tz.pK ⟨fun t => t == 6 || t == 9, fun _ => []⟩ Tryz.func200 rfl (fun Q hQ => ?_)
  have hcb : (∀ c ∈ nb.map cB, c.length = 1) = True := eq_true (by intro c hc; rw [List.mem_map] at hc; obtain ⟨b, _, rfl⟩ := hc; rfl)
  try simp [go_sem, hnb, heb, ↓hcb]
  repeat first | intro _ | refine ⟨obs, ?_⟩
  obtain ⟨I0, hI0⟩ := mkI fun i e H => ((e 3 = .adr g.c) ∧ (e 2 = .list (eb.map cB)) ∧ (e 6 = .ptr 0 1 0 0) ∧ (e 7 = .own 1 g.nodes.length) ∧ (e 8 = dI i) ∧ (H.get 0 = some ⟨68, 2, [[.nil, .nil]], false⟩) ∧ (0 < H.next) ∧ (H.get 1 = some ⟨4, 1, (leaN g nb eb i).map cB, false⟩) ∧ (1 < H.next) ∧ (i ≤ g.edges.length) ∧ ((leaN g nb eb i).length = g.nodes.length))
  refine loopK I0 (fun i => g.edges.length - i) (0) ((hI0 _ _ _).2 ⟨?_, ?_, ?_, ?_, ?_, ?_, ?_, (by (simp [go_sem, leaN])), ?_, (by first | assumption | omega | (simp [go_sem, hnb, heb, ↓hcb]; done) | (simp_all; done)), (by (rw [leaN_len]; exact hnb))⟩) ?_
  iterate 8 (first | omega | (simp [go_sem, hnb, heb, ↓hcb] <;> omega))
  intro i e H hi0
  obtain ⟨q3_0, q2_0, q6_0, q7_0, q8_0, g0_0, n0_0, g1_0, n1_0, hi, hl⟩ := (hI0 _ _ _).1 hi0
  have x0 := frs n0_0
  have x1 := frs n1_0
  have F0 := And.intro q3_0 (And.intro q2_0 (And.intro q6_0 (And.intro q7_0 (And.intro q8_0 (And.intro g0_0 (And.intro g1_0 (And.intro x0 x1)))))))
  try simp [go_sem, hnb, heb, ↓hcb, F0, hl]
  repeat first | intro _ | refine ⟨obs, ?_⟩
  refine condQ_mk (fun h3 => ?_) (fun h3 => ?_)
  · try simp [go_sem] at h3
    have hib : i < eb.length := by omega
    have hbd : eb[i]?.getD false = eb[i] := by rw [lge hib]; rfl
    have hx := hin _ (lgm h3)
    have hxd : g.edges[i]?.getD ⟨0, 0, 0⟩ = g.edges[i] := by rw [lge h3]; rfl
    have hf : g.edges[i].from_.toNat < (leaN g nb eb i).length := by rw [hl]; omega
    have ht : g.edges[i].to_.toNat < (leaN g nb eb i).length := by rw [hl]; omega
    obtain ⟨z, hz⟩ : ∃ z, (((leaN g nb eb i).map cB).set g.edges[i].from_.toNat [D.bool true])[g.edges[i].to_.toNat]? = some [z] := by
     rw [List.getElem?_set]
     by_cases hft : g.edges[i].from_.toNat = g.edges[i].to_.toNat
     ·rw [if_pos hft, if_pos (by rw [List.length_map]; exact hf)]; exact ⟨_, rfl⟩
     ·rw [if_neg hft, List.getElem?_map, lge ht]; exact ⟨_, rfl⟩
    try simp [go_sem, hnb, heb, ↓hcb, F0, hl, h3, lge h3, lge hib, lge hf, lge ht, hxd, hz]
    repeat first | intro _ | refine ⟨obs, ?_⟩
    refine condQ_mk (fun h5 => ?_) (fun h5 => ?_)
    ·try simp [go_sem] at h5
     try simp [go_sem, hnb, heb, ↓hcb, F0, hl, h3, lge h3, lge hib, lge hf, lge ht, hxd, hz, h5]
     repeat first | intro _ | refine ⟨obs, ?_⟩
     refine nextQ_mk (i + 1) (by omega) ((hI0 _ _ _).2 ⟨?_, ?_, ?_, ?_, ?_, ?_, ?_, (by (simp [go_sem, hnb, heb, ↓hcb, F0, hl, h3, lge h3, lge hib, lge hf, lge ht, hxd, hz, h5, leaN_succ, hbd])), ?_, (by first | assumption | omega | (simp [go_sem, hnb, heb, ↓hcb, F0, hl, h3, lge h3, lge hib, lge hf, lge ht, hxd, hz, h5]; done) | (simp_all <;> omega)), (by (rw [leaN_len]; exact hnb))⟩) <;> first | omega | (simp [go_sem, hnb, heb, ↓hcb, F0, hl, h3, lge h3, lge hib, lge hf, lge ht, hxd, hz, h5] <;> omega)
    ·try simp [go_sem] at h5
     try simp [go_sem, hnb, heb, ↓hcb, F0, hl, h3, lge h3, lge hib, lge hf, lge ht, hxd, hz, h5]
     repeat first | intro _ | refine ⟨obs, ?_⟩
     refine nextQ_mk (i + 1) (by omega) ((hI0 _ _ _).2 ⟨?_, ?_, ?_, ?_, ?_, ?_, ?_, (by (simp [go_sem, hnb, heb, ↓hcb, F0, hl, h3, lge h3, lge hib, lge hf, lge ht, hxd, hz, h5, leaN_succ, hbd])), ?_, (by first | assumption | omega | (simp [go_sem, hnb, heb, ↓hcb, F0, hl, h3, lge h3, lge hib, lge hf, lge ht, hxd, hz, h5]; done) | (simp_all <;> omega)), (by (rw [leaN_len]; exact hnb))⟩) <;> first | omega | (simp [go_sem, hnb, heb, ↓hcb, F0, hl, h3, lge h3, lge hib, lge hf, lge ht, hxd, hz, h5] <;> omega)
  · try simp [go_sem] at h3
    have hI : i = g.edges.length := by omega
    subst hI
    try simp [go_sem, hnb, heb, ↓hcb, F0, hl]
    refine callQ_pureZ (ref07_marked (leaN g nb eb g.edges.length) (by rw [leaN_len]; omega)) (by (simp [go_sem, hnb, heb, ↓hcb, F0, hl]) <;> rfl) ((by first | rfl | (simp [go_sem, ← List.map_take, ← List.map_drop, hnb, heb, ↓hcb, F0, hl]; done))) (by (simp [go_sem, hnb, heb, ↓hcb, F0, hl]) <;> rfl) ?_
    try simp [go_sem, hnb, heb, ↓hcb, F0, hl]
    refine cq0 (ref07_marked eb (by omega)) ?_
    try simp [go_sem, hnb, heb, ↓hcb, F0, hl]
    exact hQ _ _ (by simp [go_sem, hnb, heb, ↓hcb, F0, hl, h3] <;> first | omega | (rw [bei]; simp <;> omega) | (simp_all <;> omega))
end Go.Abs
end
section
set_option maxRecDepth 8000
set_option maxHeartbeats 2000000
open Go Go.Proofs
namespace Go.Abs
def bitB (k : UInt64) (i : Nat) : Bool := (k.toNat : Int).fdiv (2 ^ (min ((i : Int).tmod 64).toNat 64)) % 2 == 1
def bitL (k : UInt64) (off n : Nat) : List Bool := (List.range n).map fun j => bitB k (off + j)
def bitM (k : UInt64) (off n i : Nat) : List Bool := (List.range n).map fun j => decide (j < i) && bitB k (off + j)
theorem bitM_zero (k : UInt64) (off n : Nat) : bitM k off n 0 = List.replicate n false := by
  unfold bitM; apply List.ext_getElem?; intro j
  rw [List.getElem?_map, List.getElem?_replicate]
  by_cases h : j < n
  · rw [List.getElem?_range h, if_pos h]; simp
  · rw [List.getElem?_eq_none (by simpa using h), if_neg h]; rfl
theorem bitM_len (k : UInt64) (off n i : Nat) : (bitM k off n i).length = n := by simp [bitM]
theorem bitM_end (k : UInt64) (off n : Nat) : bitM k off n n = bitL k off n := by
  unfold bitM bitL
  exact List.map_congr_left fun j hj => by simp [List.mem_range.1 hj]
theorem bitM_set {k : UInt64} {off n i : Nat} (h : i < n) : (bitM k off n i).set i (bitB k (off + i)) = bitM k off n (i + 1) := by
  apply List.ext_getElem?; intro j
  rw [List.getElem?_set, bitM_len]
  by_cases hj : i = j
  · subst hj; simp [h, bitM, List.getElem?_range h]
  · rw [if_neg hj]
    simp only [bitM, List.getElem?_map]
    by_cases hn : j < n
    ·rw [List.getElem?_range hn]; simp only [Option.map_some]
     rw [show decide (j < i + 1) = decide (j < i) by rw [decide_eq_decide]; omega]
    ·rw [List.getElem?_eq_none (by simpa using hn)]; rfl
def made7 (g : Graph) (k : UInt64) : Part := ⟨markL (leaN g (bitL k 0 g.nodes.length) (bitL k g.nodes.length g.edges.length) g.edges.length), markL (bitL k g.nodes.length g.edges.length)⟩
theorem ref07_Made (g : Graph) (hn : g.nodes.length ≤ 100000) (he : g.edges.length ≤ 100000) (hin : g.ends) (k : UInt64) : Pure Tryz.prog 133 [g.d, .int .u64 (k.toNat : Int)] (Part.d (made7 g k)) := by
  refine Tz.pK ⟨fun t => t == 4 || t == 12 || t == 16, fun r => match r with | 1 => [(3, 4), (3, 5), (3, 6), (0, 7), (1, 7), (2, 7), (3, 7)] | _ => []⟩ Tryz.func133 rfl (fun Q hQ => ?_)
  try simp [go_sem]
  repeat first | intro _ | refine ⟨obs, ?_⟩
  obtain ⟨I0, hI0⟩ := mkI fun i e H => ((e 2 = .adr g.c) ∧ (e 1 = .int .u64 (k.toNat : Int)) ∧ (e 4 = .ptr 0 1 0 0) ∧ (e 5 = .own 4 g.nodes.length) ∧ (e 6 = .own 8 g.edges.length) ∧ (e 7 = dI i) ∧ (H.get 0 = some ⟨68, 2, [[.nil, .nil]], false⟩) ∧ (0 < H.next) ∧ (H.get 4 = some ⟨4, 1, (bitM k 0 g.nodes.length i).map cB, false⟩) ∧ (4 < H.next) ∧ (H.get 8 = some ⟨4, 1, (List.replicate g.edges.length false).map cB, false⟩) ∧ (8 < H.next) ∧ (i ≤ g.nodes.length) ∧ ((bitM k 0 g.nodes.length i).length = g.nodes.length))
  refine loopK I0 (fun i => g.nodes.length - i) (0) ((hI0 _ _ _).2 ⟨?_, ?_, ?_, ?_, ?_, ?_, ?_, ?_, (by (simp [go_sem, bitM_zero, cB])), ?_, (by (simp [go_sem, cB])), ?_, (by first | assumption | omega | (simp [go_sem]; done) | (simp_all; done)), (by (exact bitM_len _ _ _ _))⟩) ?_
  iterate 10 (first | omega | (simp [go_sem] <;> omega))
  intro i e H hi0
  obtain ⟨q2_0, q1_0, q4_0, q5_0, q6_0, q7_0, g0_0, n0_0, g4_0, n4_0, g8_0, n8_0, hi, hl⟩ := (hI0 _ _ _).1 hi0
  have x0 := frs n0_0
  have x4 := frs n4_0
  have x8 := frs n8_0
  have F0 := And.intro q2_0 (And.intro q1_0 (And.intro q4_0 (And.intro q5_0 (And.intro q6_0 (And.intro q7_0 (And.intro g0_0 (And.intro g4_0 (And.intro g8_0 (And.intro x0 (And.intro x4 x8))))))))))
  try simp [go_sem, F0, hl]
  repeat first | intro _ | refine ⟨obs, ?_⟩
  refine condQ_mk (fun h3 => ?_) (fun h3 => ?_)
  · try simp [go_sem] at h3
    have tm := tmod_in (show 0 ≤ (i : Int) by omega) (show (0 : Int) < 64 by omega)
    have hil : i < (bitM k 0 g.nodes.length i).length := by rw [hl]; exact h3
    try simp [go_sem, F0, hl, h3, lge hil, h3]
    repeat first | intro _ | refine ⟨obs, ?_⟩
    refine nextQ_mk (i + 1) (by omega) ((hI0 _ _ _).2 ⟨?_, ?_, ?_, ?_, ?_, ?_, ?_, ?_, (by (simp [go_sem, F0, hl, h3, lge hil, h3, ← bitM_set h3, List.map_set, bitB, cB])), ?_, (by (simp [go_sem, F0, hl, h3, lge hil, h3])), ?_, (by first | assumption | omega | (simp [go_sem, F0, hl, h3, lge hil, h3]; done) | (simp_all <;> omega)), (by (exact bitM_len _ _ _ _))⟩) <;> first | omega | (simp [go_sem, F0, hl, h3, lge hil, h3] <;> omega)
  · try simp [go_sem] at h3
    have hI : i = g.nodes.length := by omega
    subst hI
    have hN := bitM_end k 0 g.nodes.length
    rw [hN] at hl
    try simp [go_sem, F0, hl, hN]
    obtain ⟨I2, hI2⟩ := mkI fun j e H => ((e 2 = .adr g.c) ∧ (e 1 = .int .u64 (k.toNat : Int)) ∧ (e 4 = .ptr 0 1 0 0) ∧ (e 5 = .own 4 g.nodes.length) ∧ (e 6 = .own 8 g.edges.length) ∧ (e 8 = dI j) ∧ (H.get 0 = some ⟨68, 2, [[.nil, .nil]], false⟩) ∧ (0 < H.next) ∧ (H.get 4 = some ⟨4, 1, (bitL k 0 g.nodes.length).map cB, false⟩) ∧ (4 < H.next) ∧ (H.get 8 = some ⟨4, 1, (bitM k g.nodes.length g.edges.length j).map cB, false⟩) ∧ (8 < H.next) ∧ (j ≤ g.edges.length) ∧ ((bitM k g.nodes.length g.edges.length j).length = g.edges.length))
    refine loopK I2 (fun j => g.edges.length - j) (0) ((hI2 _ _ _).2 ⟨?_, ?_, ?_, ?_, ?_, ?_, ?_, ?_, (by (simp [go_sem, F0, hl, hN])), ?_, (by (simp [go_sem, F0, hl, hN, bitM_zero])), ?_, (by first | assumption | omega | (simp [go_sem, F0, hl, hN]; done) | (simp_all; done)), (by (exact bitM_len _ _ _ _))⟩) ?_
    iterate 10 (first | omega | (simp [go_sem, F0, hl, hN] <;> omega))
    intro j e H hi2
    obtain ⟨q2_2, q1_2, q4_2, q5_2, q6_2, q8_2, g0_2, n0_2, g4_2, n4_2, g8_2, n8_2, hj, hm⟩ := (hI2 _ _ _).1 hi2
    have x0 := frs n0_2
    have x4 := frs n4_2
    have x8 := frs n8_2
    have F2 := And.intro q2_2 (And.intro q1_2 (And.intro q4_2 (And.intro q5_2 (And.intro q6_2 (And.intro q8_2 (And.intro g0_2 (And.intro g4_2 (And.intro g8_2 (And.intro x0 (And.intro x4 x8))))))))))
    try simp [go_sem, hl, hN, F2, hm]
    repeat first | intro _ | refine ⟨obs, ?_⟩
    refine condQ_mk (fun h7 => ?_) (fun h7 => ?_)
    ·try simp [go_sem] at h7
     have tm := tmod_in (show 0 ≤ (g.nodes.length : Int) + (j : Int) by omega) (show (0 : Int) < 64 by omega)
     have hjl : j < (bitM k g.nodes.length g.edges.length j).length := by rw [hm]; exact h7
     try simp [go_sem, hl, hN, F2, hm, h7, lge hjl, h7]
     repeat first | intro _ | refine ⟨obs, ?_⟩
     refine nextQ_mk (j + 1) (by omega) ((hI2 _ _ _).2 ⟨?_, ?_, ?_, ?_, ?_, ?_, ?_, ?_, (by (simp [go_sem, hl, hN, F2, hm, h7, lge hjl, h7])), ?_, (by (simp [go_sem, hl, hN, F2, hm, h7, lge hjl, h7, ← bitM_set h7, List.map_set, bitB, cB])), ?_, (by first | assumption | omega | (simp [go_sem, hl, hN, F2, hm, h7, lge hjl, h7, h3]; done) | (simp_all <;> omega)), (by (exact bitM_len _ _ _ _))⟩) <;> first | omega | (simp [go_sem, hl, hN, F2, hm, h7, lge hjl, h7] <;> omega)
    ·try simp [go_sem] at h7
     have hJ : j = g.edges.length := by omega
     subst hJ
     have hE := bitM_end k g.nodes.length g.edges.length
     rw [hE] at hm
     try simp [go_sem, hl, hN, F2, hm, hE]
     refine callQ_pureZ (ref07_Least g hn he hin (bitL k 0 g.nodes.length) (bitL k g.nodes.length g.edges.length) (by simp [bitL]) (by simp [bitL])) (by (simp [go_sem, hl, hN, F2, hm, hE]) <;> rfl) ((by first | rfl | (simp [go_sem, ← List.map_take, ← List.map_drop, hl, hN, F2, hm, hE]; done))) (by (simp [go_sem, hl, hN, F2, hm, hE]) <;> rfl) ?_
     try simp [go_sem, hl, hN, F2, hm, hE]
     exact hQ _ _ (.inl (by simp [go_sem, hl, hN, F2, hm, hE, made7]))
def amongB (t : Types) (ns : List Int) (k : Int) (i : Nat) : Bool := mem (t.line (ns[i]?.getD 0).toNat) k
def amongL (t : Types) (ns : List Int) (k : Int) : List Int := ((List.range ns.length).filter (amongB t ns k)).map fun (i : Nat) => (i : Int)
theorem ref17_among (t : Types) (hv : t.valid) (g : Graph) (hn : g.nodes.length ≤ 100000) (hgn : ∀ a ∈ g.nodes, 0 ≤ a ∧ a < t.nodes.length) (k : Int) (hk : 0 ≤ k) : Own Tryz.prog 249 [t.d, g.d, dI k] 3 1 ((amongL t g.nodes k).map cI) := by
  refine Tz.oK ⟨fun t => t == 7, fun _ => []⟩ Tryz.func249 rfl (fun Q hQ => ?_)
  try simp [go_sem]
  obtain ⟨I0, hI0⟩ := mkI fun i e H => (∃ ys : List Int, (e 3 = .adr t.c) ∧ (e 4 = .adr g.c) ∧ (e 2 = dI k) ∧ (e 7 = .own 0 ys.length) ∧ (e 8 = dI i) ∧ (H.get 0 = some ⟨3, 1, ys.map cI, false⟩) ∧ (0 < H.next) ∧ (i ≤ g.nodes.length) ∧ (ys.length ≤ i) ∧ (ys = ((List.range i).filter (amongB t g.nodes k)).map (fun (b : Nat) => (b : Int))))
  refine loopK I0 (fun i => g.nodes.length - i) (0) ((hI0 _ _ _).2 ⟨([]), ?_, ?_, ?_, ?_, ?_, ?_, ?_, (by first | assumption | omega | (simp [go_sem]; done) | (simp_all; done)), (by simp), (by rfl)⟩) ?_
  iterate 7 (first | omega | (simp [go_sem] <;> omega))
  intro i e H hi0
  obtain ⟨ys, q3_0, q4_0, q2_0, q7_0, q8_0, g0_0, n0_0, hi, hyl, hy⟩ := (hI0 _ _ _).1 hi0
  have x0 := frs n0_0
  have F0 := And.intro q3_0 (And.intro q4_0 (And.intro q2_0 (And.intro q7_0 (And.intro q8_0 (And.intro g0_0 x0)))))
  try simp [go_sem, F0]
  repeat (first | intro _ | (refine ⟨obl, ?_⟩))
  refine condQ_mk (fun h3 => ?_) (fun h3 => ?_)
  · try simp [go_sem] at h3
    have hx := hgn _ (lgm h3)
    have hnn : ((g.nodes[i].toNat : Nat) : Int) = g.nodes[i] := by omega
    have hab : amongB t g.nodes k i = mem (t.line g.nodes[i].toNat) k := by simp [amongB, lge h3]
    try simp [go_sem, F0, h3, lge h3, hab]
    repeat (first | intro _ | (refine ⟨obl, ?_⟩))
    refine dcq0 ((by have hb := ref04_Below1 t hv k hk g.nodes[i].toNat (by omega); rw [hnn] at hb; exact hb)) ?_
    try simp [go_sem, F0, h3, lge h3, hab]
    repeat (first | intro _ | (refine ⟨obl, ?_⟩))
    refine condQ_mk (fun h5 => ?_) (fun h5 => ?_)
    ·try simp [go_sem] at h5
     try simp [go_sem, F0, h3, lge h3, hab, h5]
     repeat (first | intro _ | (refine ⟨obl, ?_⟩))
     refine nextQ_mk (i + 1) (by omega) ((hI0 _ _ _).2 ⟨(ys ++ (if amongB t g.nodes k i = true then [(i : Int)] else [])), ?_, ?_, ?_, ?_, ?_, ?_, ?_, (by first | assumption | omega | (simp [go_sem, F0, h3, lge h3, hab, h5]; done) | (simp_all <;> omega)), (by (rw [List.length_append]; split <;> simp <;> omega)), (by (rw [range_filter_succ, ← hy]))⟩) <;> first | omega | (simp [go_sem, F0, h3, lge h3, hab, h5] <;> omega)
    ·try simp [go_sem] at h5
     try simp [go_sem, F0, h3, lge h3, hab, h5]
     repeat (first | intro _ | (refine ⟨obl, ?_⟩))
     refine nextQ_mk (i + 1) (by omega) ((hI0 _ _ _).2 ⟨(ys ++ (if amongB t g.nodes k i = true then [(i : Int)] else [])), ?_, ?_, ?_, ?_, ?_, ?_, ?_, (by first | assumption | omega | (simp [go_sem, F0, h3, lge h3, hab, h5]; done) | (simp_all <;> omega)), (by (rw [List.length_append]; split <;> simp <;> omega)), (by (rw [range_filter_succ, ← hy]))⟩) <;> first | omega | (simp [go_sem, F0, h3, lge h3, hab, h5] <;> omega)
  · try simp [go_sem] at h3
    have hY : amongL t g.nodes k = ys := by rw [hy, show i = g.nodes.length by omega]; rfl
    try simp [go_sem, F0]
    exact hQ _ _ _ (by simp [go_sem, F0, hY]) (by simp [go_sem, F0, hY])
end Go.Abs
end
section
set_option maxRecDepth 8000
set_option maxHeartbeats 2000000
open Go Go.Proofs
namespace Go.Abs
def Attr.good (x : Attr) : Prop := x.low ≤ x.high ∧ -1000 ≤ x.low ∧ x.high ≤ 1000
theorem extract_size (b : ByteArray) (i j : Nat) : (b.extract i j).size ≤ b.size := by rw [ByteArray.size_extract]; omega
theorem madeN_attrs (i : Nat) (x : B2) : (madeN i x).attrs.length ≤ 1 ∧ ∀ a ∈ (madeN i x).attrs, a.good ∧ a.ok := by
  have hu := u8_lt x.2
  have hm := tmod_in (show 0 ≤ (x.2.toNat : Int) / 4 by omega) (show (0 : Int) < 9 by omega)
  have hs := extract_size tyU i (i + 1)
  have hs2 : tyU.size = 6 := rfl
  unfold madeN
  by_cases h1 : (x.2.toNat : Int).tmod 4 = 1
  · simp only [h1, if_true]
    refine ⟨by simp, fun a ha => ?_⟩
    simp only [List.mem_singleton] at ha
    subst ha
    exact ⟨⟨by simp only; omega, by simp only; omega, by simp only; omega⟩, ⟨by simp only; omega, by simp, by simp⟩⟩
  · by_cases h2 : (x.2.toNat : Int).tmod 4 = 2
    ·rw [if_neg h1, if_pos h2]
     refine ⟨by simp, fun a ha => ?_⟩
     simp only [List.mem_singleton] at ha
     subst ha
     refine ⟨⟨by simp, by simp, by simp⟩, ⟨by simp only; omega, fun s hs => ?_, by simp⟩⟩
     simp only [List.mem_cons, List.not_mem_nil, or_false] at hs
     rcases hs with rfl | rfl
     ·show (3 : Nat) ≤ 100000; omega
     ·show (2 : Nat) ≤ 100000; omega
    ·rw [if_neg h1, if_neg h2]; simp
theorem madeT_node {ns es : List B2} {j : Nat} {n : NodeTy} (h : (madeT ns es).nodes[j]? = some n) : j < madeK ns ∧ n = madeN j (nth2 ns j) := by
  simp only [madeT, madeNs, List.getElem?_map] at h
  by_cases hj : j < madeK ns
  · rw [List.getElem?_range hj] at h; simp at h; exact ⟨hj, h.symm⟩
  · rw [List.getElem?_eq_none (by simpa using hj)] at h; cases h
theorem madeT_len (ns es : List B2) : (madeT ns es).nodes.length = madeK ns ∧ 0 < madeK ns ∧ madeK ns ≤ 6 ∧ (madeT ns es).edges.length ≤ 5 := by
  refine ⟨madeNs_len _ _, by unfold madeK; omega, by unfold madeK; omega, by simp only [madeT, madeEs_len]; omega⟩
theorem madeT_edge {ns es : List B2} {x : EdgeTy} (h : x ∈ (madeT ns es).edges) : (0 ≤ x.from_ ∧ x.from_ < madeK ns) ∧ (0 ≤ x.to_ ∧ x.to_ < madeK ns) ∧ x.ok := by
  simp only [madeT, madeEs, List.mem_map] at h
  obtain ⟨i, _, rfl⟩ := h
  have hk : 0 < madeK ns := by unfold madeK; omega
  have h1 := tmod_in (show 0 ≤ ((nth2 es i).1.toNat : Int) by omega) (show (0 : Int) < madeK ns by omega)
  have h2 := tmod_in (show 0 ≤ ((nth2 es i).2.toNat : Int) by omega) (show (0 : Int) < madeK ns by omega)
  have hs := extract_size tyE i (i + 1)
  have hs2 : tyE.size = 5 := rfl
  exact ⟨h1, h2, ⟨by simp only [madeE]; omega⟩⟩
theorem attrsF_one (nodes : List NodeTy) (h : ∀ n ∈ nodes, n.attrs.length ≤ 1) : ∀ f a, (attrsF nodes f a).length ≤ f
  | 0, a => by simp [attrsF]
  | f + 1, a => by
    unfold attrsF
    split
    ·simp
    ·rename_i n hn
     have := h n (List.mem_of_getElem? hn)
     have h2 := attrsF_one nodes h f n.parent.toNat
     simp only [List.length_append]
     split <;> simp <;> omega
theorem attrsF_all {p : Attr → Prop} (nodes : List NodeTy) (h : ∀ n ∈ nodes, ∀ a ∈ n.attrs, p a) : ∀ f a, ∀ x ∈ attrsF nodes f a, p x
  | 0, a, x, hx => by simp [attrsF] at hx
  | f + 1, a, x, hx => by
    unfold attrsF at hx
    split at hx
    ·cases hx
    ·rename_i n hn
     rcases List.mem_append.1 hx with hx | hx
     ·split at hx
      ·exact attrsF_all nodes h f _ x hx
      ·cases hx
     ·exact h n (List.mem_of_getElem? hn) x hx
theorem madeT_mem {ns es : List B2} {n : NodeTy} (h : n ∈ (madeT ns es).nodes) : ∃ j, n = madeN j (nth2 ns j) := by
  obtain ⟨j, hj⟩ := List.getElem?_of_mem h
  exact ⟨j, (madeT_node hj).2⟩
theorem madeT_valid (ns es : List B2) : (madeT ns es).valid := by
  obtain ⟨l1, l2, l3, l4⟩ := madeT_len ns es
  refine ⟨by omega, by omega, by omega, fun j n hn => ?_, fun j n hn => ?_, fun j hj => ?_, fun x hx => ?_⟩
  · obtain ⟨_, rfl⟩ := madeT_node hn
    have := tmod_in (show 0 ≤ ((nth2 ns j).1.toNat : Int) by omega) (show 0 < (j : Int) + 1 by omega)
    simp only [madeN]; omega
  · obtain ⟨_, rfl⟩ := madeT_node hn
    have := tmod_in (show 0 ≤ ((nth2 ns j).1.toNat : Int) by omega) (show 0 < (j : Int) + 1 by omega)
    simp only [madeN]; omega
  · have := attrsF_one (madeT ns es).nodes (fun n hn => by obtain ⟨j, rfl⟩ := madeT_mem hn; exact (madeN_attrs j _).1) (j + 1) j
    unfold Types.attrs; omega
  · obtain ⟨h1, h2, _⟩ := madeT_edge hx
    simp only [insideF, l1]
    simp; omega
theorem madeT_ok (ns es : List B2) : (madeT ns es).ok := by
  obtain ⟨l1, l2, l3, l4⟩ := madeT_len ns es
  refine ⟨fun n hn => ?_, fun x hx => (madeT_edge hx).2.2, by omega, by omega⟩
  obtain ⟨j, rfl⟩ := madeT_mem hn
  have ha := madeN_attrs j (nth2 ns j)
  have hs := extract_size tyA j (j + 1)
  have hs2 : tyA.size = 6 := rfl
  exact ⟨by simp only [madeN]; omega, fun x hx => (ha.2 x hx).2, by omega⟩
theorem madeT_good (ns es : List B2) (a : Int) : (∀ x ∈ attrsT (madeT ns es) a, x.good) ∧ (attrsT (madeT ns es) a).length ≤ 8 := by
  unfold attrsT
  split
  · rename_i h
    have hv := (given2_one h)
    refine ⟨fun x hx => attrsF_all (p := Attr.good) (madeT ns es).nodes (fun n hn y hy => by obtain ⟨j, rfl⟩ := madeT_mem hn; exact ((madeN_attrs j _).2 y hy).1) _ _ x hx, hv.1.attrs _ (by omega)⟩
  · simp
structure Types.fine (t : Types) : Prop where
  ok : t.ok
  valid : t.valid
  good : ∀ a, (∀ x ∈ attrsT t a, x.good) ∧ (attrsT t a).length ≤ 8
theorem madeT_fine (ns es : List B2) : (madeT ns es).fine := ⟨madeT_ok ns es, madeT_valid ns es, madeT_good ns es⟩
end Go.Abs
end
section
set_option maxRecDepth 8000
set_option maxHeartbeats 4000000
open Go Go.Proofs
namespace Go.Abs
abbrev B3 := UInt8 × UInt8 × UInt8
def cT3 (x : B3) : List D := [.int .u8 (x.1.toNat : Int), .int .u8 (x.2.1.toNat : Int), .int .u8 (x.2.2.toNat : Int)]
@[go_sem] theorem cT3s_cl (l : List B3) : D.clLL (l.map cT3) = true := clLL_map _ (fun _ => rfl) l
structure Dr5 where
  nodes : List UInt8
  edges : List B3
def Dr5.c (d : Dr5) : List D := [.list (d.nodes.map cU), .list (d.edges.map cT3)]
@[go_sem] theorem Dr5.cl (d : Dr5) : D.clL d.c = true := by simp [Dr5.c, D.clL, D.cl, cUs_cl, cT3s_cl]
def m17N (n : Nat) (ds : List UInt8) (k : Nat) : List Int := (List.range k).map fun i => ((ds[i]?.getD 0).toNat : Int).tmod n
def tyEd (t : Types) (k : Int) : EdgeTy := t.edges[k.toNat]?.getD ⟨⟨#[]⟩, 0, 0, 0, 0, 0, 0⟩
def pickL (l : List Int) (b : UInt8) : Int := l[((b.toNat : Int).tmod l.length).toNat]?.getD 0
def m17e (t : Types) (ns : List Int) (x : B3) : List Edge :=
  if 0 < (amongL t ns (tyEd t ((x.1.toNat : Int).tmod t.edges.length)).from_).length ∧ 0 < (amongL t ns (tyEd t ((x.1.toNat : Int).tmod t.edges.length)).to_).length then
    [⟨(x.1.toNat : Int).tmod t.edges.length, pickL (amongL t ns (tyEd t ((x.1.toNat : Int).tmod t.edges.length)).from_) x.2.1, pickL (amongL t ns (tyEd t ((x.1.toNat : Int).tmod t.edges.length)).to_) x.2.2⟩] else []
def m17E (t : Types) (ns : List Int) (es : List B3) (k : Nat) : List Edge := (List.range k).flatMap fun i => m17e t ns (es[i]?.getD (0, 0, 0))
def made17 (t : Types) (d : Dr5) : Graph := ⟨m17N t.nodes.length d.nodes (min d.nodes.length 8), if t.edges.length = 0 then [] else m17E t (m17N t.nodes.length d.nodes (min d.nodes.length 8)) d.edges (min d.edges.length 10)⟩
theorem m17N_succ (n : Nat) (ds : List UInt8) (k : Nat) : m17N n ds (k + 1) = m17N n ds k ++ [((ds[k]?.getD 0).toNat : Int).tmod n] := by simp [m17N, List.range_succ]
theorem m17N_len (n : Nat) (ds : List UInt8) (k : Nat) : (m17N n ds k).length = k := by simp [m17N]
theorem m17N_mem {n : Nat} (hn : 0 < n) {ds : List UInt8} {k : Nat} {x : Int} (h : x ∈ m17N n ds k) : 0 ≤ x ∧ x < n := by
  simp only [m17N, List.mem_map] at h
  obtain ⟨i, _, rfl⟩ := h
  exact tmod_in (by omega) (by omega)
theorem m17E_succ (t : Types) (ns : List Int) (es : List B3) (k : Nat) : m17E t ns es (k + 1) = m17E t ns es k ++ m17e t ns (es[k]?.getD (0, 0, 0)) := by simp [m17E, List.range_succ]
theorem m17e_len (t : Types) (ns : List Int) (x : B3) : (m17e t ns x).length ≤ 1 := by unfold m17e; split <;> simp
theorem m17E_len (t : Types) (ns : List Int) (es : List B3) : ∀ k, (m17E t ns es k).length ≤ k
  | 0 => by simp [m17E]
  | k + 1 => by rw [m17E_succ, List.length_append]; have := m17E_len t ns es k; have := m17e_len t ns (es[k]?.getD (0, 0, 0)); omega
theorem amongL_mem {t : Types} {ns : List Int} {k x : Int} (h : x ∈ amongL t ns k) : 0 ≤ x ∧ x < ns.length := by
  simp only [amongL, List.mem_map, List.mem_filter, List.mem_range] at h
  obtain ⟨i, ⟨hi, _⟩, rfl⟩ := h; omega
theorem pickL_in {l : List Int} (h : 0 < l.length) (b : UInt8) : ∃ hk : ((b.toNat : Int).tmod l.length).toNat < l.length, pickL l b = l[((b.toNat : Int).tmod l.length).toNat] := by
  have := tmod_in (show 0 ≤ (b.toNat : Int) by omega) (show (0 : Int) < l.length by omega)
  have hk : ((b.toNat : Int).tmod l.length).toNat < l.length := by omega
  exact ⟨hk, by unfold pickL; rw [lge hk]; rfl⟩
theorem pickL_mem {l : List Int} (h : 0 < l.length) (b : UInt8) : pickL l b ∈ l := by
  obtain ⟨hk, e⟩ := pickL_in h b
  rw [e]; exact lgm hk
theorem m17E_ends (t : Types) (ns : List Int) (es : List B3) (k : Nat) : Graph.ends ⟨ns, m17E t ns es k⟩ := by
  intro x hx
  simp only [m17E, List.mem_flatMap] at hx
  obtain ⟨i, _, hx⟩ := hx
  unfold m17e at hx
  split at hx
  · rename_i h
    simp only [List.mem_singleton] at hx
    subst hx
    exact ⟨amongL_mem (pickL_mem h.1 _), amongL_mem (pickL_mem h.2 _)⟩
  · cases hx
theorem made17_ends (t : Types) (d : Dr5) : (made17 t d).ends := by
  unfold made17
  split
  · intro x hx; cases hx
  · exact m17E_ends _ _ _ _
theorem made17_len (t : Types) (d : Dr5) : (made17 t d).nodes.length ≤ 8 ∧ (made17 t d).edges.length ≤ 10 := by
  unfold made17
  refine ⟨by simp only [m17N_len]; omega, ?_⟩
  split
  · simp
  · exact Nat.le_trans (m17E_len _ _ _ _) (by omega)
theorem ref17_Made (t : Types) (ht : t.fine) (d : Dr5) : Pure Tryz.prog 198 [t.d, .agg d.c, .bool true] (made17 t d).d := by
  have hfN := ht.ok.fewN
  have hfE := ht.ok.fewE
  have hne := ht.valid.ne
  have hnn0 : t.nodes ≠ [] := by intro h; rw [h] at hne; simp at hne
  refine Tz.pK ⟨fun t => t == 6 || t == 7 || t == 9, fun r => match r with | 11 => [(0, 14), (1, 14)] | 18 => [(0, 30), (1, 30)] | _ => []⟩ Tryz.func198 rfl (fun Q hQ => ?_)
  try simp [go_sem, Dr5.c]
  obtain ⟨I0, hI0⟩ := mkI fun i e H => ((e 3 = .adr t.c) ∧ (e 4 = .adr d.c) ∧ (e 2 = .bool true) ∧ (e 6 = .ptr 0 1 0 0) ∧ (e 7 = .own 1 i) ∧ (e 8 = dI i) ∧ (H.get 0 = some ⟨39, 2, [[.nil, .nil]], false⟩) ∧ (0 < H.next) ∧ (H.get 1 = some ⟨3, 1, (numL i).map cI, false⟩) ∧ (1 < H.next) ∧ (i ≤ t.nodes.length) ∧ ((numL i).length = i))
  refine loopK I0 (fun i => t.nodes.length - i) (0) ((hI0 _ _ _).2 ⟨?_, ?_, ?_, ?_, ?_, ?_, ?_, ?_, (by rfl), ?_, (by first | assumption | omega | (simp [go_sem, Dr5.c]; done) | (simp_all; done)), (by (exact numL_len _))⟩) ?_
  iterate 9 (first | omega | (simp [go_sem, Dr5.c] <;> omega))
  intro i e H hi0
  obtain ⟨q3_0, q4_0, q2_0, q6_0, q7_0, q8_0, g0_0, n0_0, g1_0, n1_0, hi, hl⟩ := (hI0 _ _ _).1 hi0
  have x0 := frs n0_0
  have x1 := frs n1_0
  have F0 := And.intro q3_0 (And.intro q4_0 (And.intro q2_0 (And.intro q6_0 (And.intro q7_0 (And.intro q8_0 (And.intro g0_0 (And.intro g1_0 (And.intro x0 x1))))))))
  try simp [go_sem, Dr5.c, F0, hl]
  repeat first | intro _ | refine ⟨obs, ?_⟩
  refine condQ_mk (fun h3 => ?_) (fun h3 => ?_)
  · try simp [go_sem] at h3
    try simp [go_sem, Dr5.c, F0, hl, h3, lge h3]
    repeat first | intro _ | refine ⟨obs, ?_⟩
    refine nextQ_mk (i + 1) (by omega) ((hI0 _ _ _).2 ⟨?_, ?_, ?_, ?_, ?_, ?_, ?_, ?_, (by (simp [go_sem, Dr5.c, F0, hl, h3, lge h3, numL_succ])), ?_, (by first | assumption | omega | (simp [go_sem, Dr5.c, F0, hl, h3, lge h3]; done) | (simp_all <;> omega)), (by (exact numL_len _))⟩) <;> first | omega | (simp [go_sem, Dr5.c, F0, hl, h3, lge h3] <;> omega)
  · try simp [go_sem] at h3
    have hI : i = t.nodes.length := by omega
    subst hI
    have nx0 := nxs H.next
    try simp [go_sem, Dr5.c, F0, hl, nx0]
    obtain ⟨I2, hI2⟩ := mkI fun i e H => (∃ c : Nat, ∃ a : Nat, (e 3 = .adr t.c) ∧ (e 4 = .adr d.c) ∧ (e 2 = .bool true) ∧ (e 6 = .ptr 0 1 0 0) ∧ (e 7 = .own 1 t.nodes.length) ∧ (e 9 = .ptr c 1 0 0) ∧ (e 10 = dI i) ∧ (H.get 0 = some ⟨39, 2, [[.nil, .nil]], false⟩) ∧ (0 < H.next) ∧ (H.get 1 = some ⟨3, 1, (numL t.nodes.length).map cI, false⟩) ∧ (1 < H.next) ∧ (H.get c = some ⟨39, 2, [[.own a i, .nil]], false⟩) ∧ (c < H.next) ∧ (H.get a = some ⟨3, 1, (m17N t.nodes.length d.nodes i).map cI, false⟩) ∧ (a < H.next) ∧ (i ≤ 8) ∧ (i ≤ d.nodes.length) ∧ (1 < c ∧ c < a) ∧ ((m17N t.nodes.length d.nodes i).length = i))
    refine loopKG (Ghosts.step (Ghosts.refl _) H.next 0 0 3 1 _ _ ((by simp [go_sem, Dr5.c, F0, hl, nx0] : AHeap.get _ _ = some ⟨39, 2, [[.nil, .nil]], false⟩)) rfl rfl rfl) I2 (fun i => 8 - i) (0) ((hI2 _ _ _).2 ⟨(H.next), (H.next + 1), ?_, ?_, ?_, ?_, ?_, ?_, ?_, ?_, ?_, ?_, ?_, ?_, ?_, (by (simp [go_sem, Dr5.c, F0, hl, nx0, m17N])), ?_, (by first | assumption | omega | (simp [go_sem, Dr5.c, F0, hl, nx0]; done) | (simp_all; done)), (by first | assumption | omega | (simp [go_sem, Dr5.c, F0, hl, nx0]; done) | (simp_all; done)), (by omega), (by (exact m17N_len _ _ _))⟩) ?_
    iterate 14 (first | omega | (simp [go_sem, Dr5.c, F0, hl, nx0] <;> omega))
    intro i e H hi2
    obtain ⟨c, a, q3_2, q4_2, q2_2, q6_2, q7_2, q9_2, q10_2, g0_2, n0_2, g1_2, n1_2, gc_2, nc_2, ga_2, na_2, hi, hid, hc, hml⟩ := (hI2 _ _ _).1 hi2
    have x0 := frs n0_2
    have x1 := frs n1_2
    have xc := frs nc_2
    have xa := frs na_2
    have F2 := And.intro q3_2 (And.intro q4_2 (And.intro q2_2 (And.intro q6_2 (And.intro q7_2 (And.intro q9_2 (And.intro q10_2 (And.intro g0_2 (And.intro g1_2 (And.intro gc_2 (And.intro ga_2 (And.intro x0 (And.intro x1 (And.intro xc xa)))))))))))))
    have di1 := And.intro (nep (show a ≠ c by omega)) (And.intro (nep (show a ≠ 1 by omega)) (And.intro (nep (show a ≠ 0 by omega)) (And.intro (nep (show c ≠ 1 by omega)) (And.intro (nep (show c ≠ 0 by omega)) (nep (show 1 ≠ 0 by omega))))))
    try simp [go_sem, Dr5.c, hl, nx0, F2, hml, di1]
    repeat first | intro _ | refine ⟨obs, ?_⟩
    refine condQ_mk (fun h9 => ?_) (fun h9 => ?_)
    ·try simp [go_sem] at h9
     have hx1 := u8_lt d.nodes[i]
     have hgd : d.nodes[i]?.getD 0 = d.nodes[i] := by rw [lge (by omega)]; rfl
     have htm := tmod_in (show 0 ≤ (d.nodes[i].toNat : Int) by omega) (show (0 : Int) < t.nodes.length by omega)
     have hng := numL_get (n := t.nodes.length) (a := ((d.nodes[i].toNat : Int).tmod t.nodes.length).toNat) (by omega)
     rw [Int.toNat_of_nonneg htm.1] at hng
     have hne0 : (t.nodes.length : Int) ≠ 0 := by omega
     have hll := numL_len t.nodes.length
     try simp [go_sem, Dr5.c, hl, nx0, F2, hml, di1, h9, lge (show i < d.nodes.length by omega), hng, hne0, cU, hll]
     repeat first | intro _ | refine ⟨obs, ?_⟩
     refine nextQ_mk (i + 1) (by omega) ((hI2 _ _ _).2 ⟨(c), (a), ?_, ?_, ?_, ?_, ?_, ?_, ?_, ?_, ?_, ?_, ?_, ?_, ?_, (by (simp [go_sem, Dr5.c, hl, nx0, F2, hml, di1, h9, lge (show i < d.nodes.length by omega), hng, hne0, cU, hll, m17N_succ, hgd])), ?_, (by first | assumption | omega | (simp [go_sem, Dr5.c, hl, nx0, F2, hml, di1, h9, lge (show i < d.nodes.length by omega), hng, hne0, cU, hll, h3]; done) | (simp_all <;> omega)), (by first | assumption | omega | (simp [go_sem, Dr5.c, hl, nx0, F2, hml, di1, h9, lge (show i < d.nodes.length by omega), hng, hne0, cU, hll, h3]; done) | (simp_all <;> omega)), (by omega), (by (exact m17N_len _ _ _))⟩) <;> first | omega | (simp [go_sem, Dr5.c, hl, nx0, F2, hml, di1, h9, lge (show i < d.nodes.length by omega), hng, hne0, cU, hll] <;> omega)
    ·try simp [go_sem] at h9
     have h9' : ¬ (i < d.nodes.length ∧ i < 8) := fun h => hnn0 (h9 h.1 (by omega))
     have hI2 : i = min d.nodes.length 8 := by omega
     have hnm : ∀ x ∈ m17N t.nodes.length d.nodes i, 0 ≤ x ∧ x < t.nodes.length := fun x hx => m17N_mem hne hx
     obtain ⟨ns, hns⟩ : ∃ ns, m17N t.nodes.length d.nodes i = ns := ⟨_, rfl⟩
     rw [hns] at hml hnm
     try simp [go_sem, Dr5.c, hl, nx0, F2, hml, di1, hns]
     obtain ⟨I4, hI4⟩ := mkI fun k e H => (∃ b : Nat, ∃ ys : List Edge, (e 3 = .adr t.c) ∧ (e 4 = .adr d.c) ∧ (e 2 = .bool true) ∧ (e 6 = .ptr 0 1 0 0) ∧ (e 9 = .ptr c 1 0 0) ∧ (e 11 = dI k) ∧ (H.get 0 = some ⟨39, 2, [[.nil, .nil]], false⟩) ∧ (0 < H.next) ∧ (H.get c = some ⟨39, 2, [[.own a i, .own b ys.length]], false⟩) ∧ (c < H.next) ∧ (H.get a = some ⟨3, 1, ns.map cI, false⟩) ∧ (a < H.next) ∧ (H.get b = some ⟨146, 3, ys.map Edge.c, false⟩) ∧ (b < H.next) ∧ (k ≤ 10) ∧ (k ≤ d.edges.length) ∧ (0 < c ∧ c < a ∧ a < b) ∧ (ys = m17E t ns d.edges k) ∧ (t.edges.length = 0 → k = 0) ∧ (ys.length ≤ k))
     refine loopKG (Ghosts.step (Ghosts.refl _) c 0 1 146 3 _ _ ((by simp [Dr5.c, hl, nx0, F2, hml, di1, hns] : AHeap.get _ _ = some ⟨39, 2, [[.own a i, .nil]], false⟩)) rfl rfl rfl) I4 (fun k => 10 - k) (0) ((hI4 _ _ _).2 ⟨(H.next), ([]), ?_, ?_, ?_, ?_, ?_, ?_, ?_, ?_, ?_, ?_, ?_, ?_, ?_, ?_, (by first | assumption | omega | (simp [go_sem, Dr5.c, hl, nx0, F2, hml, di1, hns]; done) | (simp_all; done)), (by first | assumption | omega | (simp [go_sem, Dr5.c, hl, nx0, F2, hml, di1, hns]; done) | (simp_all; done)), (by omega), (by rfl), (by (intro _; rfl)), (by simp)⟩) ?_
     iterate 14 (first | omega | (simp [go_sem, Dr5.c, hl, nx0, F2, hml, di1, hns] <;> omega))
     intro k e H hi4
     obtain ⟨b, ys, q3_4, q4_4, q2_4, q6_4, q9_4, q11_4, g0_4, n0_4, gc_4, nc_4, ga_4, na_4, gb_4, nb_4, hk, hkd, hb, hy, hz, hyl⟩ := (hI4 _ _ _).1 hi4
     have x0 := frs n0_4
     have xc := frs nc_4
     have xa := frs na_4
     have xb := frs nb_4
     have F4 := And.intro q3_4 (And.intro q4_4 (And.intro q2_4 (And.intro q6_4 (And.intro q9_4 (And.intro q11_4 (And.intro g0_4 (And.intro gc_4 (And.intro ga_4 (And.intro gb_4 (And.intro x0 (And.intro xc (And.intro xa xb))))))))))))
     have di2 := And.intro (nep (show b ≠ a by omega)) (And.intro (nep (show b ≠ c by omega)) (And.intro (nep (show b ≠ 0 by omega)) (And.intro (nep (show a ≠ c by omega)) (And.intro (nep (show a ≠ 0 by omega)) (nep (show c ≠ 0 by omega))))))
     try simp [go_sem, Dr5.c, hl, nx0, hml, di1, hns, F4, di2]
     repeat first | intro _ | refine ⟨obs, ?_⟩
     refine condQ_mk (fun h13 => ?_) (fun h13 => ?_)
     ·try simp [go_sem] at h13
      have hkl : k < d.edges.length := by omega
      have hE0 : 0 < t.edges.length := by omega
      have hee0 : t.edges ≠ [] := by intro h; rw [h] at hE0; simp at hE0
      obtain ⟨x, hx⟩ : ∃ x, d.edges[k] = x := ⟨_, rfl⟩
      have hgx : d.edges[k]?.getD (0, 0, 0) = x := by rw [lge hkl, ← hx]; rfl
      have hx1 := u8_lt x.1
      have hx2 := u8_lt x.2.1
      have hx3 := u8_lt x.2.2
      have htm := tmod_in (show 0 ≤ (x.1.toNat : Int) by omega) (show (0 : Int) < t.edges.length by omega)
      obtain ⟨q, hq⟩ : ∃ q : Nat, (x.1.toNat : Int).tmod t.edges.length = (q : Int) := ⟨_, (Int.toNat_of_nonneg htm.1).symm⟩
      have hql : q < t.edges.length := by omega
      have hed : tyEd t ((x.1.toNat : Int).tmod t.edges.length) = t.edges[q] := by unfold tyEd; rw [hq, Int.toNat_natCast, lge hql]; rfl
      have hends := ht.valid.ends _ (lgm hql)
      simp only [insideF, Bool.and_eq_true, decide_eq_true_eq] at hends
      have hne0 : (t.edges.length : Int) ≠ 0 := by omega
      try simp [go_sem, Dr5.c, hl, nx0, hml, di1, hns, F4, di2, h13, lge hkl, hx, hgx, cT3, hq, lge hql, hne0, Types.c]
      repeat first | intro _ | refine ⟨obs, ?_⟩
      refine dcallQ_ownF (ref17_among t ht.valid ⟨ns, ys⟩ (by simp only; omega) hnm t.edges[q].from_ hends.1.1) (by simp [go_sem, Dr5.c, hl, nx0, hml, di1, hns, F4, di2, h13, lge hkl, hx, hgx, cT3, hq, lge hql, hne0, Types.c, Graph.d, Graph.c, dLI]) (by simp [go_sem]) (flatI _) rfl (by simp [go_sem]) ?_
      try simp [go_sem, Dr5.c, hl, nx0, hml, di1, hns, F4, di2, h13, lge hkl, hx, hgx, cT3, hq, lge hql, hne0, Types.c]
      repeat first | intro _ | refine ⟨obs, ?_⟩
      refine dcallQ_ownF (ref17_among t ht.valid ⟨ns, ys⟩ (by simp only; omega) hnm t.edges[q].to_ hends.2.1) (by simp [go_sem, Dr5.c, hl, nx0, hml, di1, hns, F4, di2, h13, lge hkl, hx, hgx, cT3, hq, lge hql, hne0, Types.c, Graph.d, Graph.c, dLI]) (by simp [go_sem]) (flatI _) rfl (by simp [go_sem]) ?_
      obtain ⟨la, hla⟩ : ∃ la, amongL t ns t.edges[q].from_ = la := ⟨_, rfl⟩
      obtain ⟨lb, hlb⟩ : ∃ lb, amongL t ns t.edges[q].to_ = lb := ⟨_, rfl⟩
      try simp [go_sem, Dr5.c, hl, nx0, hml, di1, hns, F4, di2, h13, lge hkl, hx, hgx, cT3, hq, lge hql, hne0, Types.c, hla, hlb]
      repeat first | intro _ | refine ⟨obs, ?_⟩
      refine condQ_mk (fun h17 => ?_) (fun h17 => ?_)
      ·try simp [go_sem] at h17
       have hab : 0 < la.length ∧ 0 < lb.length := by omega
       obtain ⟨ka, hpa⟩ := pickL_in hab.1 x.2.1
       obtain ⟨kb, hpb⟩ := pickL_in hab.2 x.2.2
       have ta := tmod_in (show 0 ≤ (x.2.1.toNat : Int) by omega) (show (0 : Int) < la.length by omega)
       have tb := tmod_in (show 0 ≤ (x.2.2.toNat : Int) by omega) (show (0 : Int) < lb.length by omega)
       have hme : m17e t ns x = [⟨(q : Int), pickL la x.2.1, pickL lb x.2.2⟩] := by unfold m17e; rw [hed, hla, hlb, if_pos hab, hq]
       have nla : ¬la = [] := by intro h; rw [h] at hab; simp at hab
       have nlb : ¬lb = [] := by intro h; rw [h] at hab; simp at hab
       have nl1 : (la.length : Int) ≠ 0 := by omega
       have nl2 : (lb.length : Int) ≠ 0 := by omega
       try simp [go_sem, Dr5.c, hl, nx0, hml, di1, hns, F4, di2, h13, lge hkl, hx, hgx, cT3, hq, lge hql, hne0, Types.c, hla, hlb, lge ka, lge kb, hme, hpa, hpb, nl1, nl2]
       repeat first | intro _ | refine ⟨obs, ?_⟩
       refine nextQ_mk (k + 1) (by omega) ((hI4 _ _ _).2 ⟨(b), (ys ++ m17e t ns (d.edges[k]?.getD (0, 0, 0))), ?_, ?_, ?_, ?_, ?_, ?_, ?_, ?_, ?_, ?_, ?_, ?_, ?_, ?_, (by first | assumption | omega | (simp [go_sem, Dr5.c, hl, nx0, hml, di1, hns, F4, di2, h13, lge hkl, hx, hgx, cT3, hq, lge hql, hne0, Types.c, hla, hlb, lge ka, lge kb, hme, hpa, hpb, nl1, nl2, h3, h9, h17]; done) | (simp_all <;> omega)), (by first | assumption | omega | (simp [go_sem, Dr5.c, hl, nx0, hml, di1, hns, F4, di2, h13, lge hkl, hx, hgx, cT3, hq, lge hql, hne0, Types.c, hla, hlb, lge ka, lge kb, hme, hpa, hpb, nl1, nl2, h3, h9, h17]; done) | (simp_all <;> omega)), (by omega), (by (rw [m17E_succ, ← hy])), (by omega), (by (rw [List.length_append]; have := m17e_len t ns (d.edges[k]?.getD (0, 0, 0)); omega))⟩) <;> first | omega | (simp [go_sem, Dr5.c, hl, nx0, hml, di1, hns, F4, di2, h13, lge hkl, hx, hgx, cT3, hq, lge hql, hne0, Types.c, hla, hlb, lge ka, lge kb, hme, hpa, hpb, nl1, nl2] <;> omega)
      ·try simp [go_sem] at h17
       have hme : m17e t ns x = [] := by unfold m17e; rw [hed, hla, hlb, if_neg (fun h => by have h2 := h17 h.1; rw [h2] at h; simp at h)]
       try simp [go_sem, Dr5.c, hl, nx0, hml, di1, hns, F4, di2, h13, lge hkl, hx, hgx, cT3, hq, lge hql, hne0, Types.c, hla, hlb, hme]
       repeat first | intro _ | refine ⟨obs, ?_⟩
       refine nextQ_mk (k + 1) (by omega) ((hI4 _ _ _).2 ⟨(b), (ys ++ m17e t ns (d.edges[k]?.getD (0, 0, 0))), ?_, ?_, ?_, ?_, ?_, ?_, ?_, ?_, ?_, ?_, ?_, ?_, ?_, ?_, (by first | assumption | omega | (simp [go_sem, Dr5.c, hl, nx0, hml, di1, hns, F4, di2, h13, lge hkl, hx, hgx, cT3, hq, lge hql, hne0, Types.c, hla, hlb, hme, h3, h9, h17]; done) | (simp_all <;> omega)), (by first | assumption | omega | (simp [go_sem, Dr5.c, hl, nx0, hml, di1, hns, F4, di2, h13, lge hkl, hx, hgx, cT3, hq, lge hql, hne0, Types.c, hla, hlb, hme, h3, h9, h17]; done) | (simp_all <;> omega)), (by omega), (by (rw [m17E_succ, ← hy])), (by omega), (by (rw [List.length_append]; have := m17e_len t ns (d.edges[k]?.getD (0, 0, 0)); omega))⟩) <;> first | omega | (simp [go_sem, Dr5.c, hl, nx0, hml, di1, hns, F4, di2, h13, lge hkl, hx, hgx, cT3, hq, lge hql, hne0, Types.c, hla, hlb, hme] <;> omega)
     ·try simp [go_sem] at h13
      have h13' : k < d.edges.length → k < 10 → t.edges.length = 0 := fun a b => by rw [h13 a (by omega)]; rfl
      have hfin : made17 t d = ⟨ns, ys⟩ := by
       unfold made17
       rw [← hI2, hns]
       split
       ·rename_i h0; have := hz h0; subst this; rw [hy]; rfl
       ·rename_i hn0; rw [hy, show k = min d.edges.length 10 by
         have hq : ¬ (k < d.edges.length ∧ k < 10) := fun hq => hn0 (h13' hq.1 hq.2)
         omega]
      try simp [go_sem, Dr5.c, hl, nx0, hml, di1, hns, F4, di2]
      exact hQ _ _ (.inl (by simp [go_sem, Dr5.c, hl, nx0, hml, di1, hns, F4, di2, hfin]))
end Go.Abs
end
