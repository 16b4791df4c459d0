/- Layer 13: the overlaps of two graphs, one after the other. · -/
import Derived.Test.YthnegcfdjjhfgaaGreatZkA
import Derived.Test.YthnegcfdjjhfgaaGreatZkO
import Derived.Test.YthnegcfdjjhfgaaGreatZkF
set_option linter.unusedVariables false
set_option linter.unusedSimpArgs false
section
set_option maxRecDepth 8000
set_option maxHeartbeats 1000000
open Go Go.Proofs
namespace Go.Abs
@[go_sem] theorem rsvD_ptr (H : AHeap) (a b c d : Nat) : rsvD H (.ptr a b c d) = .ptr a b c d := rfl
@[go_sem] theorem ownIds_ptr (a b c d : Nat) : ownIds (.ptr a b c d) = [] := rfl
@[go_sem] theorem next_frz (H : AHeap) (i : Nat) : (H.frz i).next = H.next := (frz_al H i).2
@[go_sem] theorem get_frz (H : AHeap) (i j : Nat) : (H.frz i).get j = if j = i then (H.get i).map (fun k => { k with fz := true }) else H.get j := by
  by_cases h : j = i
  · subst h
    unfold AHeap.frz
    cases hk : H.get j <;> simp [AHeap.put, hk]
  · rw [if_neg h, frz_other H i j h]
theorem callQ_nz {P : Program} {md : Nat → Bool} {ops : Array Oper} {rest : List Oper} {e : Env} {dst : Option Tmp} {K : Env → AHeap → Prop} {f : FuncId} {args args' : List D} {H : AHeap} (ha : args.map nz1 = args') (h : callQ P md ops rest e dst K f args' H) : callQ P md ops rest e dst K f args H := by
  subst ha; unfold callQ at h ⊢
  exact ⟨h.1, fun M0 σ w vals hR hr => h.2 M0 σ w vals hR ⟨by simpa using hr.len, fun j u d hu hd => by
    rw [List.getElem?_map, Option.map_eq_some_iff] at hd
    obtain ⟨y, hy, rfl⟩ := hd
    exact nz1_rep (hr.rep j u y hu hy)⟩⟩
theorem range_fold_succ {β : Type} (f : β → Nat → β) (b : β) (n : Nat) : (List.range (n + 1)).foldl f b = f ((List.range n).foldl f b) n := by
  rw [List.range_succ, List.foldl_append]; rfl
def edgL (y : Edge) : List Int := [y.type, y.from_, y.to_]
def wantL (b : Graph) (ns : List Int) (i : Nat) : List Int := edgL (gluX b ns i)
def edB (a b : Graph) (ns es : List Int) (j : Nat) : Bool := decide (edgL (a.edges[j]?.getD zeroEdge) = wantL b ns es.length) && !mem es j
def ovE (a b : Graph) (ns : List Int) : Nat → List Int → List Ovl → List Ovl
  | 0, es, out => if 2000 < out.length then out else out ++ [glu a b ns es]
  | k + 1, es, out => if 2000 < out.length then out else
    (List.range a.edges.length).foldl (fun out j => if edB a b ns es j = true then ovE a b ns k (es ++ [(j : Int)]) out else out) (ovE a b ns k (es ++ [-1]) out)
theorem ovE_full (a b : Graph) (ns : List Int) (k : Nat) (es : List Int) {out : List Ovl} (h : 2000 < out.length) : ovE a b ns k es out = out := by
  cases k <;> simp only [ovE, if_pos h]
theorem ovE_le (a b : Graph) (ns : List Int) : ∀ (k : Nat) (es : List Int) (out : List Ovl), out.length ≤ 2001 → (ovE a b ns k es out).length ≤ 2001
  | 0, es, out, h => by
    simp only [ovE]
    split
    · exact h
    · simp; omega
  | k + 1, es, out, h => by
    simp only [ovE]
    split
    · exact h
    · have : ∀ (l : List Nat) (o : List Ovl), o.length ≤ 2001 → (l.foldl (fun out j => if edB a b ns es j = true then ovE a b ns k (es ++ [(j : Int)]) out else out) o).length ≤ 2001 := by
        intro l
        induction l with
        | nil => intro o ho; exact ho
        | cons j l ih =>
          intro o ho
          rw [List.foldl_cons]
          refine ih _ ?_
          split
          · exact ovE_le a b ns k _ _ ho
          · exact ho
      exact this _ _ (ovE_le a b ns k _ _ h)
def ndB (a b : Graph) (ns : List Int) (j : Nat) : Bool := decide (a.nodes[j]?.getD 0 = b.nodes[ns.length]?.getD 0) && !mem ns j
def ovN (a b : Graph) : Nat → List Int → List Ovl → List Ovl
  | 0, ns, out => if 2000 < out.length then out else ovE a b ns b.edges.length [] out
  | k + 1, ns, out => if 2000 < out.length then out else
    (List.range a.nodes.length).foldl (fun out j => if ndB a b ns j = true then ovN a b k (ns ++ [(j : Int)]) out else out) (ovN a b k (ns ++ [-1]) out)
theorem ovN_full (a b : Graph) (k : Nat) (ns : List Int) {out : List Ovl} (h : 2000 < out.length) : ovN a b k ns out = out := by
  cases k <;> simp only [ovN, if_pos h]
theorem ovN_le (a b : Graph) : ∀ (k : Nat) (ns : List Int) (out : List Ovl), out.length ≤ 2001 → (ovN a b k ns out).length ≤ 2001
  | 0, ns, out, h => by
    simp only [ovN]
    split
    · exact h
    · exact ovE_le a b ns _ _ _ h
  | k + 1, ns, out, h => by
    simp only [ovN]
    split
    · exact h
    · have : ∀ (l : List Nat) (o : List Ovl), o.length ≤ 2001 → (l.foldl (fun out j => if ndB a b ns j = true then ovN a b k (ns ++ [(j : Int)]) out else out) o).length ≤ 2001 := by
        intro l
        induction l with
        | nil => intro o ho; exact ho
        | cons j l ih =>
          intro o ho
          rw [List.foldl_cons]
          refine ih _ ?_
          split
          · exact ovN_le a b k _ _ ho
          · exact ho
      exact this _ _ (ovN_le a b k _ _ h)
structure OvS (ty f o : Nat) (a b : Graph) (out : List Ovl) (H : AHeap) : Prop where
  bf : H.get f = some ⟨ty, 5, [[dLI a.nodes, .list (a.edges.map Edge.c), dLI b.nodes, .list (b.edges.map Edge.c), .own o out.length]], false⟩
  bo : H.get o = some ⟨45, 6, out.map Ovl.c, false⟩
  le : out.length ≤ 2001
@[go_sem] theorem asInts_edge (x : Edge) : asInts x.c = some (edgL x) := rfl
theorem factor_edges (a b : Graph) (ha : graphF a = 0) (hb : graphF b = 0) (ns : List Int) (hns : ns.length = b.nodes.length) (f o : Nat) (hd : f ≠ o) :
    ∀ (k : Nat) (es : List Int) (out : List Ovl) (G : AHeap) (Q : D → AHeap → Prop), es.length + k = b.edges.length → f < G.next → o < G.next → OvS 177 f o a b out G →
    (∀ H', OvS 177 f o a b (ovE a b ns k es out) H' → (∀ j, j ≠ f → j ≠ o → j < G.next → H'.get j = G.get j) → G.next ≤ H'.next → Q (.tup []) H') → ACalls Tryz.prog 178 [.ptr f 1 0 0, dLI ns, dLI es] G Q := by
  have hla := graphF_le ha
  have hlb := graphF_le hb
  have hib : ∀ x ∈ b.edges, (0 ≤ x.from_ ∧ x.from_ < b.nodes.length) ∧ (0 ≤ x.to_ ∧ x.to_ < b.nodes.length) := fun x hx => ((graphF_in hb).2 x hx).2
  intro k
  induction k using Nat.strongRecOn with
  | _ k ih =>
  intro es out G Q hk hfN hoN hF hQ
  obtain ⟨gf, go, hle⟩ := hF
  have hds := hd.symm
  have ff := frs hfN
  have fo := frs hoN
  refine (acalls_of_body (cfg := ⟨fun t => t == 6 || t == 7 || t == 9, fun r => match r with | 2 => [(2, 16), (3, 16), (4, 16)] | 4 => [(0, 13), (1, 13), (3, 13), (4, 13), (5, 13), (6, 13), (8, 13), (9, 13), (10, 13), (11, 13)] | _ => []⟩) Tz.mixed Tryz.func178 rfl rfl (nlb rfl) (by kernel_rfl) ?_)
  try simp [go_sem, seval, gf, go, hd, hds, ff, fo, Ovl.d, Ovl.c]
  repeat first | intro _ | refine ⟨obs, ?_⟩
  refine condQ_mk (fun h0 => ?_) (fun h0 => ?_)
  · try simp [go_sem] at h0
    have hfull : 2000 < out.length := by omega
    try simp [go_sem, seval, gf, go, hd, hds, ff, fo, Ovl.d, Ovl.c]
    exact hQ _ (by rw [ovE_full _ _ _ _ _ hfull]; exact ⟨gf, go, hle⟩) (by intro j _ _ _; rfl) (Nat.le_refl _)
  · try simp [go_sem] at h0
    have hnf : ¬ 2000 < out.length := by omega
    try simp [go_sem, seval, gf, go, hd, hds, ff, fo, Ovl.d, Ovl.c]
    repeat first | intro _ | refine ⟨obs, ?_⟩
    refine condQ_mk (fun h1 => ?_) (fun h1 => ?_)
    · try simp [go_sem] at h1
      have hk0 : k = 0 := by omega
      subst hk0
      try simp [go_sem, seval, gf, go, hd, hds, ff, fo, Ovl.d, Ovl.c]
      repeat first | intro _ | refine ⟨obs, ?_⟩
      refine dcallQ_pure0 (factor_glued a b ha hb ns es hns (by omega)) ((by first | rfl | (simp [go_sem, ← List.map_take, ← List.map_drop, gf, go, hd, hds, ff, fo, Ovl.d, Ovl.c]; done))) ?_
      try simp [go_sem, seval, gf, go, hd, hds, ff, fo, Ovl.d, Ovl.c]
      repeat first | intro _ | refine ⟨obs, ?_⟩
      exact hQ _ (by simp only [ovE]; rw [if_neg hnf]; exact ⟨by simp [go_sem, gf, go, hd, hds, ff, fo, Ovl.d, Ovl.c], by simp [go_sem, gf, go, hd, hds, ff, fo, Ovl.d, Ovl.c, Ovl.d], by simp; omega⟩) (by intro j h1 h2 h3; simp [go_sem, h1, h2]) (by simp [go_sem] <;> omega)
    · try simp [go_sem] at h1
      obtain ⟨k', rfl⟩ : ∃ k', k = k' + 1 := ⟨k - 1, by omega⟩
      have hel : es.length < b.edges.length := by omega
      have hbx := hib _ (lgm hel)
      have hf1 : b.edges[es.length].from_.toNat < ns.length := by omega
      have hft : b.edges[es.length].to_.toNat < ns.length := by omega
      have hgx : gluX b ns es.length = ⟨b.edges[es.length].type, ns[b.edges[es.length].from_.toNat], ns[b.edges[es.length].to_.toNat]⟩ := by simp only [gluX, lge hel, Option.getD_some, lge hf1, lge hft]
      try simp [go_sem, seval, gf, go, hd, hds, ff, fo, Ovl.d, Ovl.c, lge hel, lge hf1, lge hft]
      repeat first | intro _ | refine ⟨obs, ?_⟩
      refine callQ_own0 (clone_int es (by omega)) ((by first | rfl | (simp [go_sem, ← List.map_take, ← List.map_drop, gf, go, hd, hds, ff, fo, Ovl.d, Ovl.c, lge hel, lge hf1, lge hft]; done))) ?_
      try simp [go_sem, seval, gf, go, hd, hds, ff, fo, Ovl.d, Ovl.c, lge hel, lge hf1, lge hft]
      repeat first | intro _ | refine ⟨obs, ?_⟩
      refine callQ_frz (args' := [.ptr f 1 0 0, dLI ns, dLI (es ++ [-1])]) (by simp [go_sem, gf, go, hd, hds, ff, fo, Ovl.d, Ovl.c, lge hel, lge hf1, lge hft, dLI]) rfl ?_
      unfold callQ
      refine ih k' (by omega) (es ++ [-1]) out _ _ (by simp; omega) (by simp [go_sem]; omega) (by simp [go_sem]; omega) ⟨by simp [go_sem, gf, go, hd, hds, ff, fo, Ovl.d, Ovl.c, lge hel, lge hf1, lge hft], by simp [go_sem, gf, go, hd, hds, ff, fo, Ovl.d, Ovl.c, lge hel, lge hf1, lge hft], hle⟩ (fun H2 hF2 hf2 hn2 => ?_)
      obtain ⟨gf2, go2, hle2⟩ := hF2
      obtain ⟨w7, hw7⟩ : ∃ x, x = G.next + 1 + 13 := ⟨_, rfl⟩
      have gw2 := hf2 w7 (by omega) (by omega) (by simp [go_sem]; omega)
      simp [go_sem, hw7, gf, go, hd, hds, ff, fo, Ovl.d, Ovl.c, lge hel, lge hf1, lge hft] at gw2
      simp [go_sem] at hn2
      have hfr2 : ∀ j, j ≠ f → j ≠ o → j < G.next → H2.get j = G.get j := fun j h1 h2 h3 => by
        have e1 := frs h3
        rw [hf2 j h1 h2 (by simp [go_sem]; omega)]
        simp [go_sem, h1, h2, e1]
      obtain ⟨o1, ho1⟩ : ∃ x, x = ovE a b ns k' (es ++ [-1]) out := ⟨_, rfl⟩
      rw [← ho1] at gf2 go2 hle2
      rw [← hw7] at gw2
      try simp [go_sem, seval, gf, go, hd, hds, ff, fo, Ovl.d, Ovl.c, lge hel, lge hf1, lge hft, gf2, go2, gw2]
      repeat first | intro _ | refine ⟨obs, ?_⟩
      obtain ⟨I0, hI0⟩ := mkI fun j e H => (∃ ou : List Ovl, (e 0 = .ptr f 1 0 0) ∧ (e 1 = dLI ns) ∧ (e 2 = dLI es) ∧ (e 7 = .ptr w7 1 0 0) ∧ (e 78 = .list (a.edges.map Edge.c)) ∧ (e 79 = dI a.edges.length) ∧ (e 80 = dI j) ∧ (H.get f = some ⟨177, 5, [[dLI a.nodes, .list (a.edges.map Edge.c), dLI b.nodes, .list (b.edges.map Edge.c), .own o ou.length]], false⟩) ∧ (f < H.next) ∧ (H.get o = some ⟨45, 6, ou.map Ovl.c, false⟩) ∧ (o < H.next) ∧ (H.get w7 = some ⟨124, 3, [[dI b.edges[es.length].type, dI ns[b.edges[es.length].from_.toNat], dI ns[b.edges[es.length].to_.toNat]]], false⟩) ∧ (w7 < H.next) ∧ (j ≤ a.edges.length) ∧ (ou.length ≤ 2001) ∧ (ou = (List.range j).foldl (fun out j => if edB a b ns es j = true then ovE a b ns k' (es ++ [(j : Int)]) out else out) o1) ∧ (∀ q, q ≠ f → q ≠ o → q < G.next → H.get q = G.get q) ∧ (G.next ≤ H.next))
      refine loopK I0 (fun j => a.edges.length - j) (0) ((hI0 _ _ _).2 ⟨(o1), ?_, ?_, ?_, ?_, ?_, ?_, ?_, ?_, ?_, ?_, ?_, ?_, ?_, (by first | assumption | omega | (simp [go_sem, gf, go, hd, hds, ff, fo, Ovl.d, Ovl.c, lge hel, lge hf1, lge hft, gf2, go2, gw2]; done) | (simp_all; done)), (by (exact hle2)), (by rfl), (by (exact hfr2)), (by omega)⟩) ?_
      iterate 13 (first | omega | (simp [go_sem, seval, gf, go, hd, hds, ff, fo, Ovl.d, Ovl.c, lge hel, lge hf1, lge hft, gf2, go2, gw2] <;> omega))
      intro j e H hi0
      obtain ⟨ou, q0_0, q1_0, q2_0, q7_0, q78_0, q79_0, q80_0, gf_0, nf_0, go_0, no_0, gw7_0, nw7_0, hj, hou, hst, hfr, hnx⟩ := (hI0 _ _ _).1 hi0
      have xf := frs nf_0
      have xo := frs no_0
      have xw7 := frs nw7_0
      have F0 := And.intro q0_0 (And.intro q1_0 (And.intro q2_0 (And.intro q7_0 (And.intro q78_0 (And.intro q79_0 (And.intro q80_0 (And.intro gf_0 (And.intro go_0 (And.intro gw7_0 (And.intro xf (And.intro xo xw7)))))))))))
      have di1 := And.intro (nep (show w7 ≠ o by omega)) (And.intro (nep (show w7 ≠ f by omega)) (nep (show o ≠ f by omega)))
      try simp [go_sem, seval, gf, go, hd, hds, ff, fo, Ovl.d, Ovl.c, lge hel, lge hf1, lge hft, gf2, go2, gw2, F0, di1]
      refine condQ_mk (fun h7 => ?_) (fun h7 => ?_)
      · try simp [go_sem] at h7
        have hEj : edB a b ns es j = (decide (edgL a.edges[j] = edgL (gluX b ns es.length)) && !mem es j) := by unfold edB wantL; rw [lge h7]; rfl
        rw [hgx] at hEj
        try simp [go_sem, seval, gf, go, hd, hds, ff, fo, Ovl.d, Ovl.c, lge hel, lge hf1, lge hft, gf2, go2, gw2, F0, di1, h7, lge h7]
        repeat first | intro _ | refine ⟨obs, ?_⟩
        refine gcallQ_pure0 (fun hg => contains_int es j) (fun hg => (by first | rfl | (simp [go_sem, ← List.map_take, ← List.map_drop, gf, go, hd, hds, ff, fo, Ovl.d, Ovl.c, lge hel, lge hf1, lge hft, gf2, go2, gw2, F0, di1, h7, lge h7]; done))) ?_
        try simp [go_sem, seval, gf, go, hd, hds, ff, fo, Ovl.d, Ovl.c, lge hel, lge hf1, lge hft, gf2, go2, gw2, F0, di1, h7, lge h7]
        repeat first | intro _ | refine ⟨obs, ?_⟩
        refine condQ_mk (fun h9 => ?_) (fun h9 => ?_)
        · try simp [go_sem] at h9
          have hE : edB a b ns es j = true := by rw [hEj]; simpa [edgL] using h9
          obtain ⟨ou2, hou2⟩ : ∃ x, x = ovE a b ns k' (es ++ [(j : Int)]) ou := ⟨_, rfl⟩
          try simp [go_sem, seval, gf, go, hd, hds, ff, fo, Ovl.d, Ovl.c, lge hel, lge hf1, lge hft, gf2, go2, gw2, F0, di1, h7, lge h7]
          repeat first | intro _ | refine ⟨obs, ?_⟩
          refine callQ_own0 (clone_int es (by omega)) ((by first | rfl | (simp [go_sem, ← List.map_take, ← List.map_drop, gf, go, hd, hds, ff, fo, Ovl.d, Ovl.c, lge hel, lge hf1, lge hft, gf2, go2, gw2, F0, di1, h7, lge h7]; done))) ?_
          try simp [go_sem, seval, gf, go, hd, hds, ff, fo, Ovl.d, Ovl.c, lge hel, lge hf1, lge hft, gf2, go2, gw2, F0, di1, h7, lge h7]
          repeat first | intro _ | refine ⟨obs, ?_⟩
          refine callQ_frz (args' := [.ptr f 1 0 0, dLI ns, dLI (es ++ [(j : Int)])]) (by simp [go_sem, gf, go, hd, hds, ff, fo, Ovl.d, Ovl.c, lge hel, lge hf1, lge hft, gf2, go2, gw2, F0, di1, h7, lge h7, dLI]) rfl ?_
          unfold callQ
          refine ih k' (by omega) (es ++ [(j : Int)]) ou _ _ (by simp; omega) (by simp [go_sem]; omega) (by simp [go_sem]; omega) ⟨by simp [go_sem, gf, go, hd, hds, ff, fo, Ovl.d, Ovl.c, lge hel, lge hf1, lge hft, gf2, go2, gw2, F0, di1, h7, lge h7], by simp [go_sem, gf, go, hd, hds, ff, fo, Ovl.d, Ovl.c, lge hel, lge hf1, lge hft, gf2, go2, gw2, F0, di1, h7, lge h7], hou⟩ (fun H3 hF3 hf3 hn3 => ?_)
          rw [← hou2] at hF3
          obtain ⟨gf3, go3, hle3⟩ := hF3
          have gw3 := hf3 w7 (by omega) (by omega) (by simp [go_sem]; omega)
          simp [go_sem, gf, go, hd, hds, ff, fo, Ovl.d, Ovl.c, lge hel, lge hf1, lge hft, gf2, go2, gw2, F0, di1, h7, lge h7] at gw3
          simp [go_sem] at hn3
          have hfr3 : ∀ j, j ≠ f → j ≠ o → j < G.next → H3.get j = G.get j := fun j h1 h2 h3 => by
            have e1 := frs (show j < H.next by omega)
            rw [hf3 j h1 h2 (by simp [go_sem]; omega)]
            simp [go_sem, h1, h2, e1]
            exact hfr j h1 h2 h3
          have fr2 := And.intro (frs (show f < H3.next by omega)) (And.intro (frs (show o < H3.next by omega)) (frs (show w7 < H3.next by omega)))
          try simp [go_sem, seval, gf, go, hd, hds, ff, fo, Ovl.d, Ovl.c, lge hel, lge hf1, lge hft, gf2, go2, gw2, F0, di1, h7, lge h7, gf3, go3, gw3, hou2, fr2]
          repeat first | intro _ | refine ⟨obs, ?_⟩
          refine nextQ_mk (j + 1) (by omega) ((hI0 _ _ _).2 ⟨(ou2), ?_, ?_, ?_, ?_, ?_, ?_, ?_, ?_, ?_, ?_, ?_, ?_, ?_, (by first | assumption | omega | (simp [go_sem, gf, go, hd, hds, ff, fo, Ovl.d, Ovl.c, lge hel, lge hf1, lge hft, gf2, go2, gw2, F0, di1, h7, lge h7, gf3, go3, gw3, hou2, fr2, h0, h1, h9]; done) | (simp_all <;> omega)), (by (rw [hou2]; first | exact hou | exact ovE_le _ _ _ _ _ _ hou)), (by (rw [range_fold_succ, ← hst, hou2]; first | rw [if_pos hE] | rw [if_neg (by rw [hE]; simp)])), (by (first | exact hfr3 | (intro q h1 h2 h3; simp [go_sem, h1, h2, frs (show q < H.next by omega)]; exact hfr q h1 h2 h3))), (by (first | omega | (simp [go_sem]; omega)))⟩) <;> first | omega | (simp [go_sem, seval, gf, go, hd, hds, ff, fo, Ovl.d, Ovl.c, lge hel, lge hf1, lge hft, gf2, go2, gw2, F0, di1, h7, lge h7, gf3, go3, gw3, hou2, fr2] <;> omega)
        · try simp [go_sem] at h9
          have hE : edB a b ns es j = false := by rw [hEj, Bool.eq_false_iff]; intro hb'; simp [edgL] at hb' h9; simp_all
          obtain ⟨ou2, hou2⟩ : ∃ x, x = ou := ⟨_, rfl⟩
          try simp [go_sem, seval, gf, go, hd, hds, ff, fo, Ovl.d, Ovl.c, lge hel, lge hf1, lge hft, gf2, go2, gw2, F0, di1, h7, lge h7, hou2]
          repeat first | intro _ | refine ⟨obs, ?_⟩
          refine nextQ_mk (j + 1) (by omega) ((hI0 _ _ _).2 ⟨(ou2), ?_, ?_, ?_, ?_, ?_, ?_, ?_, ?_, ?_, ?_, ?_, ?_, ?_, (by first | assumption | omega | (simp [go_sem, gf, go, hd, hds, ff, fo, Ovl.d, Ovl.c, lge hel, lge hf1, lge hft, gf2, go2, gw2, F0, di1, h7, lge h7, hou2, h0, h1, h9]; done) | (simp_all <;> omega)), (by (rw [hou2]; first | exact hou | exact ovE_le _ _ _ _ _ _ hou)), (by (rw [range_fold_succ, ← hst, hou2]; first | rw [if_pos hE] | rw [if_neg (by rw [hE]; simp)])), (by (first | exact hfr3 | (intro q h1 h2 h3; simp [go_sem, h1, h2, frs (show q < H.next by omega)]; exact hfr q h1 h2 h3))), (by (first | omega | (simp [go_sem]; omega)))⟩) <;> first | omega | (simp [go_sem, seval, gf, go, hd, hds, ff, fo, Ovl.d, Ovl.c, lge hel, lge hf1, lge hft, gf2, go2, gw2, F0, di1, h7, lge h7, hou2] <;> omega)
      · try simp [go_sem] at h7
        have hJ : j = a.edges.length := by omega
        have hOV : ovE a b ns (k' + 1) es out = ou := by simp only [ovE]; rw [if_neg hnf, ← ho1, hst, hJ]
        try simp [go_sem, seval, gf, go, hd, hds, ff, fo, Ovl.d, Ovl.c, lge hel, lge hf1, lge hft, gf2, go2, gw2, F0, di1]
        exact hQ _ (by rw [hOV]; exact ⟨by assumption, by assumption, hou⟩) hfr hnx
end Go.Abs
end
section
namespace Go.Abs
def ren (id : Nat) : D → D
  | .own 0 n => .own id n
  | d => d
section
variable {P : Program} {M0 : Nat → Prop} {H : AHeap} {σ : Nat → Option Ow} {w : World}
theorem ren_own (id n : Nat) : ren id (.own 0 n) = .own id n := rfl
theorem push0_get (k : Blk) : (AHeap.emp.push 0 k).get 0 = some k := rfl
theorem ACalls.turn {f : FuncId} {args : List D} {k k' : Blk} {r : D} {id : Nat} {Q : D → AHeap → Prop}
    (h : ACalls P f args (AHeap.emp.push 0 k) fun d H' => rsvT H' d = r ∧ r.cl = true ∧ 0 ∉ ownT d ∧ H'.get 0 = some k')
    (hargs : ∀ d ∈ args, d.cl = true ∨ d = .own 0 k.es.length) (hk : k.fz = false) (hk' : k'.fz = false) (hcl : D.clLL k.es = true) (hfl : ∀ d ∈ k'.es.flatten, d.flat = true) (hg : H.get id = some k) (hQ : Q r (H.put id k')) :
    ACalls P f (args.map (ren id)) H Q := by
  refine ⟨h.1, fun M0 σ w vals hR ha => ?_⟩
  obtain ⟨o, ho, l⟩ := hR.lies id k hg
  obtain ⟨xs, hrow, hx1, hrep⟩ := l.row
  obtain ⟨σ0, hσ0⟩ : ∃ s : Nat → Option Ow, s = fun i => if i = 0 then some o else none := ⟨_, rfl⟩
  obtain ⟨M1, hM1⟩ : ∃ m : Nat → Prop, m = fun b => Mut M0 H σ b ∧ o.block ≠ some b := ⟨_, rfl⟩
  have s0 : σ0 0 = some o := by rw [hσ0]; rfl
  have sn : ∀ i o', σ0 i = some o' → i = 0 ∧ o' = o := fun i o' hi => by
    rw [hσ0] at hi
    by_cases h0 : i = 0
    · simp only [h0, if_true, Option.some.injEq] at hi; exact ⟨h0, hi.symm⟩
    · simp only [h0, if_false] at hi; cases hi
  have g0 : ∀ i k1, (AHeap.emp.push 0 k).get i = some k1 → i = 0 ∧ k1 = k := fun i k1 hi => by
    by_cases h0 : i = 0
    · subst h0; rw [push0_get] at hi; exact ⟨rfl, (Option.some.inj hi).symm⟩
    · simp [AHeap.push, AHeap.emp, h0] at hi
  have hob : ∀ b, o.block = some b → Mut M0 H σ b := fun b hb => .inr ⟨id, k, o, hg, hk, ho, hb⟩
  have hmut : ∀ b, Mut M1 (AHeap.emp.push 0 k) σ0 b → Mut M0 H σ b := by
    rintro b (hb | ⟨i, k1, o1, hk1, hf, ho1, hb⟩)
    · rw [hM1] at hb; exact hb.1
    · obtain ⟨_, rfl⟩ := sn i o1 ho1
      exact hob b hb
  have hcF : ∀ {es : List (List D)}, D.clLL es = true → D.clL es.flatten = true := fun {es} hc => D.clL_of fun d hd => by
    obtain ⟨c, hcm, hxm⟩ := List.mem_flatten.1 hd
    exact D.clL_mem (D.clLL_mem hc c hcm) d hxm
  have hR0 : Rel M1 (AHeap.emp.push 0 k) σ0 w := by
    refine ⟨fun i hi => ?_, fun i hi => ?_, fun i k1 hk1 => ?_, fun i j oi oj b hi hj hbi hbj => ?_, fun i oi b hi hbi => ?_, fun b hb => ?_⟩
    · have h0 : i ≠ 0 := fun e => hi (.inl e)
      exact ⟨by rw [hσ0]; simp [h0], by simp [AHeap.push, AHeap.emp, h0]⟩
    · rcases hi with hi | hi
      · subst hi; simp [AHeap.push, AHeap.emp]
      · exact hi.elim
    · obtain ⟨h0, h1⟩ := g0 i k1 hk1
      subst h0; subst h1
      exact ⟨o, s0, l.ver, l.ty, l.sz, l.esz, xs, hrow, hx1, repL_closed (fun b hb hb' => hb (hmut b hb')) hrep (hcF hcl)⟩
    · rw [(sn i oi hi).1, (sn j oj hj).1]
    · obtain ⟨_, rfl⟩ := sn i oi hi
      exact ⟨(hR.lt id oi b ho hbi).1, fun hb => by rw [hM1] at hb; exact hb.2 hbi⟩
    · rw [hM1] at hb; exact mut_lt hR b hb.1
  have ha0 : RepL (Mut M1 (AHeap.emp.push 0 k) σ0) σ0 (AHeap.emp.push 0 k).al w vals args := by
    refine ⟨by simpa using ha.len, fun j u d hu hd => ?_⟩
    have hj := ha.rep j u (ren id d) hu (by rw [List.getElem?_map, hd]; rfl)
    rcases hargs d (List.mem_of_getElem? hd) with hc | rfl
    · have hren : ren id d = d := by cases d <;> first | rfl | (simp [D.cl] at hc)
      rw [hren] at hj
      exact hj.closed (fun ad u hm hu => ⟨fun hm' => hm (hmut _ hm'), hu⟩) hc
    · rw [ren_own] at hj
      cases hj
      rename_i h1 hN hv
      exact .own u _ _ (.inl rfl) (by first | exact h1 | exact hN) fun o1 ho1 => by
        obtain ⟨_, rfl⟩ := sn 0 o1 ho1
        exact hv o1 ho
  refine (h.2 M1 σ0 w vals hR0 ha0).mono fun e w' ⟨v, d, H', σ', he, hR', hv, hst, hkp, hr, hrcl, hr0, hg'⟩ => ?_
  obtain ⟨o', ho', l'⟩ := hR'.lies 0 k' hg'
  obtain ⟨xs', hrow', hx1', hrep'⟩ := l'.row
  obtain ⟨o2, ho2, hle⟩ := hkp.own 0 o' (.inl rfl) ho'
  rw [s0] at ho2
  cases ho2
  have hgr : w.grownBy w' o.block := ⟨hst.os, hst.tape, hst.output, hst.size, fun b hb hne => hst.old b hb fun i o1 hi => by
    obtain ⟨_, rfl⟩ := sn i o1 hi
    exact fun hb' => hne (by first | simpa using hb' | exact hb'.symm | exact hb')⟩
  have hnew : ∀ b, o'.block = some b → o.block = some b ∨ w.heap.size ≤ b := fun b hb => by
    rcases hst.new 0 o' b ho' hb with h1 | ⟨o1, h1, h2⟩
    · exact .inr h1
    · rw [s0] at h1; cases h1; exact .inl h2
  obtain ⟨p1, p2, p3⟩ := Rel.put hR hg hk ho k' o' hgr hnew hle l'.ver l'.ty l'.sz l'.esz xs' hrow' hx1'
    ⟨hrep'.len, fun j u d hu hd => flat_rep (hrep'.rep j u d hu hd) (hfl d (List.mem_of_getElem? hd))⟩
  have hv' := rsvT_frozen hR' hv (ownT d) fun i hi => hi
  rw [hr] at hv'
  obtain ⟨_, _, _, f4⟩ := frzs_sound (ownT d) hR'
  refine ⟨v, r, _, _, he, p1, hv'.closed (fun ad u hm hu => ⟨fun hm' => hm ?_, hu⟩) hrcl, p2, p3, hQ⟩
  rcases hm' with h0 | ⟨i, k1, o1, hk1, hf, ho1, hb⟩
  · left
    rw [hM1]
    exact ⟨.inl h0, fun hb => (hR.lt id o _ ho hb).2 h0⟩
  · by_cases hi : i = id
    · simp only [hi, if_true, Option.some.injEq] at ho1
      subst ho1
      right
      obtain ⟨f41, f42⟩ := f4 0
      rw [hg'] at f41
      cases hq : (frzs (ownT d) H').get 0 with
      | none => rw [hq] at f41; cases f41
      | some kq =>
        refine ⟨0, kq, o', hq, ?_, ho', hb⟩
        rw [frzs_other _ _ 0 hr0, hg'] at hq
        cases hq
        exact hk'
    · simp only [hi, if_false] at ho1
      simp only [AHeap.put, hi, if_false] at hk1
      left
      rw [hM1]
      exact ⟨.inr ⟨i, k1, o1, hk1, hf, ho1, hb⟩, fun hb' => hi (hR.inj i id o1 o _ ho1 ho hb hb')⟩
end
section
variable {P : Program} {M0 : Nat → Prop} {H : AHeap} {σ : Nat → Option Ow} {w : World}
def Own2T (P : Program) (f : FuncId) (args : List D) (b1 b2 : Blk) (tl : List D) : Prop :=
  Ent P f ∧ D.clL tl = true ∧ b1.fz = false ∧ b2.fz = false ∧ ∀ (M : Nat → Prop) (w : World) (vals : List Value), (∀ b, M b → b < w.heap.size) → RepL M noRef noId w vals args →
    Calls P f vals.toArray w fun e w' => ∃ v1 v2 xs1 xs2 us, e = .returned (.tuple (Value.agg #[v1, v2] :: us).toArray) ∧ RepL (fun b => M b ∨ v1.ownBlock = some b ∨ v2.ownBlock = some b) noRef noId w' us tl ∧ Made (fun b => M b ∨ v1.ownBlock = some b ∨ v2.ownBlock = some b) w w' v1 b1 xs1 ∧ Made (fun b => M b ∨ v1.ownBlock = some b ∨ v2.ownBlock = some b) w w' v2 b2 xs2 ∧
      (∀ b, v1.ownBlock = some b → v2.ownBlock ≠ some b) ∧ RowKit.Below w.heap.size w w'
theorem own2T_of_calls {f : FuncId} {args : List D} {b1 b2 : Blk} {tl : List D} (htl : D.clL tl = true) (hf1 : b1.fz = false) (hf2 : b2.fz = false) (hcl1 : D.clLL b1.es = true) (hcl2 : D.clLL b2.es = true)
    (h : ACalls P f args .emp fun d H' => ∃ i j, i ≠ j ∧ d = .tup (.agg [.own i b1.es.length, .own j b2.es.length] :: tl) ∧ H'.get i = some b1 ∧ H'.get j = some b2) : Own2T P f args b1 b2 tl := by
  refine ⟨h.1, htl, hf1, hf2, fun M w vals hM ha => (h.2 M noRef w vals (rel_emp M w hM) (by rw [mut_emp]; exact ha)).mono fun e w' ⟨v, d, H', σ', he, hR, hv, hst, hk, i, j, hij, hd, hg1, hg2⟩ => ?_⟩
  subst hd
  cases hv
  rename_i vt hlt hrt
  obtain ⟨v0, us, rfl⟩ : ∃ v0 us, vt = v0 :: us := by
    match vt, hlt with
    | a :: l, _ => exact ⟨a, l, rfl⟩
  have hv0 := hrt 0 v0 _ rfl rfl
  cases hv0
  rename_i vs hv1 hl hr
  obtain ⟨v1, v2, rfl⟩ : ∃ v1 v2, vs = [v1, v2] := by
    match vs, hl with
    | [a, b], _ => exact ⟨a, b, rfl⟩
  have r1 := hr 0 v1 _ rfl rfl
  have r2 := hr 1 v2 _ rfl rfl
  obtain ⟨o1, ho1, l1⟩ := hR.lies i b1 hg1
  obtain ⟨o2, ho2, l2⟩ := hR.lies j b2 hg2
  obtain ⟨xs1, row1, x1, p1⟩ := l1.row
  obtain ⟨xs2, row2, x2, p2⟩ := l2.row
  have e1 : v1 = o1.val := by
    cases r1
    rename_i _ _ hval
    rcases hval o1 ho1 with hlt | ⟨_, h⟩
    · have := l1.ver; omega
    · exact h
  have e2 : v2 = o2.val := by
    cases r2
    rename_i _ _ hval
    rcases hval o2 ho2 with hlt | ⟨_, h⟩
    · have := l2.ver; omega
    · exact h
  subst e1 e2
  have hM' : ∀ b, ¬ (M b ∨ o1.val.ownBlock = some b ∨ o2.val.ownBlock = some b) ↔ ¬ M b ∧ ¬ o1.val.ownBlock = some b ∧ ¬ o2.val.ownBlock = some b := fun b => by simp only [not_or]
  have hmu : ∀ b, ¬ Mut M H' σ' b → ¬ (M b ∨ o1.val.ownBlock = some b ∨ o2.val.ownBlock = some b) := fun b hm hh => by
    rcases hh with hh | hh | hh
    · exact hm (.inl hh)
    · exact hm (.inr ⟨i, b1, o1, hg1, hf1, ho1, hh⟩)
    · exact hm (.inr ⟨j, b2, o2, hg2, hf2, ho2, hh⟩)
  have hflat : ∀ {es : List (List D)}, D.clLL es = true → D.clL es.flatten = true := fun {es} hc => D.clL_of fun d hd => by
    obtain ⟨c, hcm, hxm⟩ := List.mem_flatten.1 hd
    exact D.clL_mem (D.clLL_mem hc c hcm) d hxm
  have hrow : ∀ {o : Ow} {b : Blk} {q : Nat} {xs : List Value}, σ' q = some o → w'.ownsRow 0 b.ty o.esz o.val b.es.length xs → o.esz = b.sz → w'.ownsRow w.heap.size b.ty b.sz o.val b.es.length xs := fun {o b q xs} ho hrow hs => by
    rw [← hs]
    refine ⟨hrow.1, ?_⟩
    rcases hrow.2 with hn | ⟨g, cap, cur, h1, _, h3⟩
    · exact .inl hn
    · refine .inr ⟨g, cap, cur, h1, ?_, h3⟩
      rcases hst.new q o g ho (by simp [Ow.block, h1, Value.ownBlock]) with h | ⟨o', h, _⟩
      · exact h
      · simp [noRef] at h
  refine ⟨o1.val, o2.val, xs1, xs2, us, he, repL_closed hmu ⟨by simpa using hlt, fun j u d hu hd => hrt (j + 1) u d (by simpa using hu) (by simpa using hd)⟩ htl, ⟨hrow ho1 row1 l1.sz, x1, repL_closed hmu p1 (hflat hcl1), hcl1, fun c hc => (l1.esz c hc).trans l1.sz⟩, ⟨hrow ho2 row2 l2.sz, x2, repL_closed hmu p2 (hflat hcl2), hcl2, fun c hc => (l2.esz c hc).trans l2.sz⟩, fun b hb hb' => ?_, stp_below hst⟩
  exact hij (hR.inj i j o1 o2 b ho1 ho2 hb hb')
theorem own2TK {f : FuncId} {args : List D} {b1 b2 : Blk} {tl : List D} (htl : D.clL tl = true) (hf1 : b1.fz = false := by rfl) (hf2 : b2.fz = false := by rfl) (hcl1 : D.clLL b1.es = true) (hcl2 : D.clLL b2.es = true)
    (h : ∀ Q : D → AHeap → Prop, (∀ i j n m H', i ≠ j → n = b1.es.length → m = b2.es.length → H'.get i = some b1 → H'.get j = some b2 → Q (.tup (.agg [.own i n, .own j m] :: tl)) H') → ACalls P f args .emp Q) : Own2T P f args b1 b2 tl :=
  own2T_of_calls htl hf1 hf2 hcl1 hcl2 (h _ fun i j n m H' hij hn hm h1 h2 => ⟨i, j, hij, by rw [hn, hm], h1, h2⟩)
theorem ACalls.own2TQ {f : FuncId} {args : List D} {b1 b2 : Blk} {tl : List D} {Q : D → AHeap → Prop} (hp : Own2T P f args b1 b2 tl) (hcl : D.clL args = true) (i j : Nat) (hij : i ≠ j) (hi : ¬ H.al i) (hj : ¬ H.al j)
    (hQ : Q (.tup (.agg [.own i b1.es.length, .own j b2.es.length] :: tl)) ((H.push i b1).push j b2)) : ACalls P f args H Q := by
  refine ⟨hp.1, fun M0 σ w vals hR ha => (hp.2.2.2.2 (Mut M0 H σ) w vals (mut_lt hR) (repL_closed (fun _ h => h) ha hcl)).mono fun e w' ⟨v1, v2, xs1, xs2, us, he, hus, m1, m2, hdis, hb⟩ => ?_⟩
  have hflat : ∀ {es : List (List D)}, D.clLL es = true → D.clL es.flatten = true := fun {es} hc => D.clL_of fun d hd => by
    obtain ⟨c, hcm, hxm⟩ := List.mem_flatten.1 hd
    exact D.clL_mem (D.clLL_mem hc c hcm) d hxm
  have hG : ∀ ad, ¬ (Mut M0 H σ ad ∨ v1.ownBlock = some ad ∨ v2.ownBlock = some ad) → ¬ Mut M0 ((H.push i b1).push j b2) (fun q => if q = j then some (Ow.mk b2.es.length v2 b2.sz b2.ty) else if q = i then some (Ow.mk b1.es.length v1 b1.sz b1.ty) else σ q) ad := by
    intro ad hm h
    rcases h with h | ⟨q, k', o', hk', hf, ho', hb'⟩
    · exact hm (.inl (.inl h))
    · by_cases e2 : q = j
      · simp only [e2, if_true, Option.some.injEq] at ho'
        subst ho'
        exact hm (.inr (.inr hb'))
      · by_cases e1 : q = i
        · simp only [e1, hij, if_false, if_true, Option.some.injEq] at ho'
          subst ho'
          exact hm (.inr (.inl hb'))
        · simp only [e1, e2, if_false] at ho'
          simp only [AHeap.push, e1, e2, if_false] at hk'
          exact hm (.inl (.inr ⟨q, k', o', hk', hf, ho', hb'⟩))
  obtain ⟨p1, p2, p3⟩ := Rel.push2 hR i j hij hi hj (w' := w') hb.os hb.tape hb.output hb.size hb.block b1 b2 ⟨b1.es.length, v1, b1.sz, b1.ty⟩ ⟨b2.es.length, v2, b2.sz, b2.ty⟩
    (made_block m1) (made_block m2) hdis rfl rfl rfl rfl rfl rfl m1.sz m2.sz xs1 xs2 (made_row0 m1) (made_row0 m2) m1.one m2.one ⟨repL_closed hG m1.rep (hflat m1.cl), repL_closed hG m2.rep (hflat m2.cl)⟩
  refine ⟨_, _, _, _, he, p1, ?_, p2, p3, hQ⟩
  have hus' : RepL (Mut M0 ((H.push i b1).push j b2) (fun q => if q = j then some (Ow.mk b2.es.length v2 b2.sz b2.ty) else if q = i then some (Ow.mk b1.es.length v1 b1.sz b1.ty) else σ q)) (fun q => if q = j then some (Ow.mk b2.es.length v2 b2.sz b2.ty) else if q = i then some (Ow.mk b1.es.length v1 b1.sz b1.ty) else σ q) ((H.push i b1).push j b2).al w' us tl := repL_closed hG hus hp.2.1
  refine .tup (Value.agg #[v1, v2] :: us) (.agg [.own i b1.es.length, .own j b2.es.length] :: tl) (by simpa using hus'.len) fun q u d hu hd => ?_
  match q with
  | q + 1 => exact hus'.rep q u d (by simpa using hu) (by simpa using hd)
  | 0 =>
  simp only [List.getElem?_cons_zero, Option.some.injEq] at hu hd
  subst hu hd
  refine .agg [v1, v2] [.own i b1.es.length, .own j b2.es.length] rfl (fun u hu => ?_) fun q u d hu hd => ?_
  · simp only [List.mem_cons, List.not_mem_nil, or_false] at hu
    rcases hu with rfl | rfl
    · exact made_one m1
    · exact made_one m2
  · match q with
    | 0 =>
      simp only [List.getElem?_cons_zero, Option.some.injEq] at hu hd
      subst hu hd
      exact .own v1 _ _ (.inr (.inl rfl)) (made_one m1) (fun o ho => by simp [hij] at ho; subst ho; exact .inr ⟨rfl, rfl⟩)
    | 1 =>
      simp only [List.getElem?_cons_succ, List.getElem?_cons_zero, Option.some.injEq] at hu hd
      subst hu hd
      exact .own v2 _ _ (.inl rfl) (made_one m2) (fun o ho => by simp at ho; subst ho; exact .inr ⟨rfl, rfl⟩)
    | q + 2 => simp at hu
end
theorem callQ_own2T {P : Program} {md : Nat → Bool} {ops : Array Oper} {rest : List Oper} {e : Env} {dst : Option Tmp} {K : Env → AHeap → Prop} {f : FuncId} {args : List D} {H : AHeap} {b1 b2 : Blk} {tl : List D} (hp : Own2T P f args b1 b2 tl) (hcl : D.clL args = true) (hfr : ¬ H.al H.next ∧ ¬ H.al (H.next + 1))
    (h : aOps P md ops rest (upd e dst (.tup (.agg [.own H.next b1.es.length, .own (H.next + 1) b2.es.length] :: tl))) ((H.push H.next b1).push (H.next + 1) b2) K) : callQ P md ops rest e dst K f args H := by
  unfold callQ; exact ACalls.own2TQ hp hcl _ _ (by omega) hfr.1 hfr.2 h
section
variable {P : Program} {md : Nat → Bool} {ops : Array Oper} {sp : List (Nat × Nat)} {n0 i : Nat} {rest : List Oper} {acc : List (Nat × List Nat)} {e : Env} {dst : Option Tmp} {K : Env → AHeap → Prop} {f : FuncId} {args args' : List D} {H : AHeap}
theorem dcallQ_turn {k k' : Blk} {r : D} (id : Nat) (h : ACalls P f args (AHeap.emp.push 0 k) fun d H' => rsvT H' d = r ∧ r.cl = true ∧ 0 ∉ ownT d ∧ H'.get 0 = some k')
    (hargs : ∀ d ∈ args, d.cl = true ∨ d = .own 0 k.es.length) (hk : k.fz = false) (hk' : k'.fz = false) (hcl : D.clLL k.es = true) (hfl : ∀ d ∈ k'.es.flatten, d.flat = true) (hg : H.get id = some k) (ha : args.map (ren id) = args') (hmd : mdd md dst = true)
    (hc : chk sp i [id] acc) (hN : aDraw P md ops sp n0 (i + 1) rest ((i, [id]) :: acc) (upd e dst r) (H.put id k') K) : dcallQ P md ops sp n0 i rest acc e dst K f args' H := by
  unfold dcallQ
  subst ha
  exact Or.inr ⟨hmd, r, [id], [(id, k')], [], fun p hp => (by
      have : p = (id, k') := by simpa using hp
      subst this; simp), (fun _ h => by cases h),
    fun H' hag _ => ACalls.turn h hargs hk hk' hcl hfl ((hag id (by simp)).trans hg) ⟨rfl, rfl⟩, by simpa using hc, by simpa [AHeap.puts, AHeap.pushs] using hN⟩
end
theorem ACalls.ghosts {P : Program} {f : FuncId} {args : List D} {H H' : AHeap} {Q : D → AHeap → Prop} (hg : Ghosts H H') (h : ACalls P f args H' Q) : ACalls P f args H Q :=
  ⟨h.1, fun M0 σ w vals hR ha => by
    obtain ⟨σ1, g1, g2, g3⟩ := ghosts_sound hg hR
    exact (h.2 M0 σ1 w vals g1 (ha.keep g3)).mono fun e w' ⟨v, d, H1, σ2, he, h1, hv, hs, hk, hq⟩ => ⟨v, d, H1, σ2, he, h1, hv, g2.trans hs, g3.trans hk, hq⟩⟩
theorem callQ_ghosts {P : Program} {md : Nat → Bool} {ops : Array Oper} {rest : List Oper} {e : Env} {dst : Option Tmp} {K : Env → AHeap → Prop} {f : FuncId} {args : List D} {H H' : AHeap} (hg : Ghosts H H') (h : callQ P md ops rest e dst K f args H') : callQ P md ops rest e dst K f args H := by
  unfold callQ at h ⊢; exact ACalls.ghosts hg h
theorem ACalls.frzTl {P : Program} {f : FuncId} {args : List D} {H : AHeap} {Q Q' : D → AHeap → Prop} (hQ : ∀ d H', Q' d H' → ∃ x tl, d = .tup (x :: tl) ∧ Q (.tup (x :: tl.map (rsvD H'))) (frzs (tl.flatMap ownIds) H')) (h : ACalls P f args H Q') : ACalls P f args H Q :=
  ⟨h.1, fun M0 σ w vals hR ha => (h.2 M0 σ w vals hR ha).mono fun e w' ⟨v, d, H', σ', he, hR', hv, hst, hk, hq⟩ => by
    obtain ⟨x, tl, rfl, hq'⟩ := hQ d H' hq
    obtain ⟨f1, f2, _, _⟩ := frzs_sound (tl.flatMap ownIds) hR'
    cases hv
    rename_i vs hl hr
    obtain ⟨v0, us, rfl⟩ : ∃ v0 us, vs = v0 :: us := by
      match vs, hl with
      | a :: l, _ => exact ⟨a, l, rfl⟩
    have ht := repL_rsv hR' (vals := us) (args := tl) ⟨by simpa using hl, fun j u d hu hd => hr (j + 1) u d (by simpa using hu) (by simpa using hd)⟩ (tl.flatMap ownIds) fun _ h => h
    refine ⟨_, _, _, σ', he, f1, .tup (v0 :: us) (x :: tl.map (rsvD H')) (by simpa using hl) fun j u d hu hd => ?_, hst, hk.trans f2, hq'⟩
    match j with
    | 0 =>
      simp only [List.getElem?_cons_zero, Option.some.injEq] at hu hd
      subst hu hd
      exact (hr 0 v0 x rfl rfl).keep f2
    | j + 1 => exact ht.rep j u d (by simpa using hu) (by simpa using hd)⟩
end Go.Abs
end
section
set_option maxRecDepth 8000
set_option maxHeartbeats 1000000
open Go Go.Proofs
namespace Go.Abs
theorem subgraph_ExtractO (g : Graph) (p : Part) (h0 : subF g p = 0) (hl : p.nodes.length ≤ 1000000) (hle : p.edges.length ≤ 1000000) : Own2T Tryz.prog 89 [g.d, p.d] ⟨3, 1, (extractG g p).nodes.map cI, false⟩ ⟨124, 3, (extractG g p).edges.map Edge.c, false⟩ [p.d, dI 0] := by
  refine own2TK (htl := by simp [go_sem, Part.d, Part.c]) (hcl1 := ints_cl _) (hcl2 := edgesG_cl _) (h := fun Q hQ => ?_)
  obtain ⟨hg, hs, hin, hie⟩ := subF_of h0
  refine (acalls_of_body (cfg := ⟨fun t => t == 4 || t == 5 || t == 8 || t == 13, fun r => match r with | 8 => [(0, 7), (1, 7)] | _ => []⟩) Tz.mixed Tryz.func89 rfl rfl (nlb rfl) (by kernel_rfl) ?_)
  try simp [go_sem, seval, h0]
  refine callQ_pure0 (subgraph_Valid g p hl) ((by first | rfl | (simp [go_sem, ← List.map_take, ← List.map_drop, h0]; done))) ?_
  try simp [go_sem, seval, h0]
  repeat (first | intro _ | (refine ⟨obl, ?_⟩))
  obtain ⟨I0, hI0⟩ := mkI fun i e H => (∃ xs : List Int, (e 2 = .adr g.c) ∧ (e 3 = .adr p.c) ∧ (e 4 = .ptr 0 1 0 0) ∧ (e 5 = .ptr 1 1 0 0) ∧ (e 8 = .ptr 2 1 0 0) ∧ (e 23 = dLI p.nodes) ∧ (e 24 = dI p.nodes.length) ∧ (e 25 = dI i) ∧ (H.get 0 = some ⟨29, 2, [[.nil, .nil]], false⟩) ∧ (0 < H.next) ∧ (H.get 1 = some ⟨36, 2, [[.nil, .nil]], false⟩) ∧ (1 < H.next) ∧ (H.get 2 = some ⟨29, 2, [[.own 3 xs.length, .nil]], false⟩) ∧ (2 < H.next) ∧ (H.get 3 = some ⟨3, 1, xs.map cI, false⟩) ∧ (3 < H.next) ∧ (i ≤ p.nodes.length) ∧ (xs = (p.nodes.take i).map (gN g)))
  refine loopKG (Ghosts.step (Ghosts.refl _) 2 0 0 3 1 _ _ (rfl) rfl rfl rfl) I0 (fun i => p.nodes.length - i) (0) ((hI0 _ _ _).2 ⟨([]), ?_, ?_, ?_, ?_, ?_, ?_, ?_, ?_, ?_, ?_, ?_, ?_, ?_, ?_, ?_, ?_, (by first | assumption | omega | (simp [go_sem, h0]; done) | (simp_all; done)), (by rfl)⟩) ?_
  iterate 16 (first | omega | (simp [go_sem, seval, h0] <;> omega))
  intro i e H hi0
  obtain ⟨xs, q2_0, q3_0, q4_0, q5_0, q8_0, q23_0, q24_0, q25_0, g0_0, n0_0, g1_0, n1_0, g2_0, n2_0, g3_0, n3_0, hi, hx⟩ := (hI0 _ _ _).1 hi0
  have x0 := frs n0_0
  have x1 := frs n1_0
  have x2 := frs n2_0
  have x3 := frs n3_0
  have F0 := And.intro q2_0 (And.intro q3_0 (And.intro q4_0 (And.intro q5_0 (And.intro q8_0 (And.intro q23_0 (And.intro q24_0 (And.intro q25_0 (And.intro g0_0 (And.intro g1_0 (And.intro g2_0 (And.intro g3_0 (And.intro x0 (And.intro x1 (And.intro x2 x3))))))))))))))
  try simp [go_sem, seval, h0, F0]
  refine condQ_mk (fun h6 => ?_) (fun h6 => ?_)
  · try simp [go_sem] at h6
    have hin' := hin _ (lgm h6)
    have hk : p.nodes[i].toNat < g.nodes.length := by omega
    have hxl : xs.length = i := by rw [hx]; simp; omega
    try simp [go_sem, seval, h0, F0, h6, lge hk, gN]
    repeat (first | intro _ | (refine ⟨obl, ?_⟩))
    refine nextQ_mk (i + 1) (by omega) ((hI0 _ _ _).2 ⟨(xs ++ [gN g p.nodes[i]]), ?_, ?_, ?_, ?_, ?_, ?_, ?_, ?_, ?_, ?_, ?_, ?_, ?_, ?_, ?_, ?_, (by first | assumption | omega | (simp [go_sem, h0, F0, h6, lge hk, gN]; done) | (simp_all <;> omega)), (by (rw [map_take_succ _ h6, ← hx]))⟩) <;> first | omega | (simp [go_sem, seval, h0, F0, h6, lge hk, gN] <;> omega)
  · try simp [go_sem] at h6
    have hX : xs = p.nodes.map (gN g) := by rw [hx, map_take_end _ (by omega)]
    try simp [go_sem, seval, h0, F0]
    repeat (first | intro _ | (refine ⟨obl, ?_⟩))
    obtain ⟨I2, hI2⟩ := mkI fun k e H => (∃ j : Nat, ∃ ys : List Edge, (e 2 = .adr g.c) ∧ (e 3 = .adr p.c) ∧ (e 4 = .ptr 0 1 0 0) ∧ (e 5 = .ptr 1 1 0 0) ∧ (e 8 = .ptr 2 1 0 0) ∧ (e 41 = dLI p.edges) ∧ (e 42 = dI p.edges.length) ∧ (e 43 = dI k) ∧ (H.get 0 = some ⟨29, 2, [[.nil, .nil]], false⟩) ∧ (0 < H.next) ∧ (H.get 1 = some ⟨36, 2, [[.nil, .nil]], false⟩) ∧ (1 < H.next) ∧ (H.get 2 = some ⟨29, 2, [[.own 3 xs.length, .own j ys.length]], false⟩) ∧ (2 < H.next) ∧ (H.get 3 = some ⟨3, 1, xs.map cI, false⟩) ∧ (3 < H.next) ∧ (H.get j = some ⟨124, 3, ys.map Edge.c, false⟩) ∧ (j < H.next) ∧ (k ≤ p.edges.length) ∧ (ys = (p.edges.take k).map (gEd g p)) ∧ (j ≠ 0) ∧ (j ≠ 1) ∧ (j ≠ 2) ∧ (j ≠ 3))
    refine loopKG (Ghosts.step (Ghosts.refl _) 2 0 1 124 3 _ _ (g2_0) rfl rfl rfl) I2 (fun k => p.edges.length - k) (0) ((hI2 _ _ _).2 ⟨(H.next), ([]), ?_, ?_, ?_, ?_, ?_, ?_, ?_, ?_, ?_, ?_, ?_, ?_, ?_, ?_, ?_, ?_, ?_, ?_, (by first | assumption | omega | (simp [go_sem, h0, F0]; done) | (simp_all; done)), (by rfl), (by omega), (by omega), (by omega), (by omega)⟩) ?_
    iterate 18 (first | omega | (simp [go_sem, seval, h0, F0] <;> omega))
    intro k e H hi2
    obtain ⟨j, ys, q2_2, q3_2, q4_2, q5_2, q8_2, q41_2, q42_2, q43_2, g0_2, n0_2, g1_2, n1_2, g2_2, n2_2, g3_2, n3_2, gj_2, nj_2, hk, hy, j0, j1, j2, j3⟩ := (hI2 _ _ _).1 hi2
    have x0 := frs n0_2
    have x1 := frs n1_2
    have x2 := frs n2_2
    have x3 := frs n3_2
    have xj := frs nj_2
    have F2 := And.intro q2_2 (And.intro q3_2 (And.intro q4_2 (And.intro q5_2 (And.intro q8_2 (And.intro q41_2 (And.intro q42_2 (And.intro q43_2 (And.intro g0_2 (And.intro g1_2 (And.intro g2_2 (And.intro g3_2 (And.intro gj_2 (And.intro x0 (And.intro x1 (And.intro x2 (And.intro x3 xj))))))))))))))))
    try simp [go_sem, seval, h0, F2, j0, j1, j2, j3, j0.symm, j1.symm, j2.symm, j3.symm]
    refine condQ_mk (fun h11 => ?_) (fun h11 => ?_)
    ·try simp [go_sem] at h11
     have hie' := hie _ (lgm h11)
     have hke : p.edges[k].toNat < g.edges.length := by omega
     have hyl : ys.length = k := by rw [hy]; simp; omega
     try simp [go_sem, seval, h0, F2, j0, j1, j2, j3, j0.symm, j1.symm, j2.symm, j3.symm, h11, lge hke, gEd]
     repeat (first | intro _ | (refine ⟨obl, ?_⟩))
     refine callQ_pure0 (bsearch_int p.nodes _ hs hl) ((by first | rfl | (simp [go_sem, ← List.map_take, ← List.map_drop, h0, F2, j0, j1, j2, j3, j0.symm, j1.symm, j2.symm, j3.symm, h11, lge hke, gEd]; done))) ?_
     try simp [go_sem, seval, h0, F2, j0, j1, j2, j3, j0.symm, j1.symm, j2.symm, j3.symm, h11, lge hke, gEd]
     repeat (first | intro _ | (refine ⟨obl, ?_⟩))
     refine callQ_pure0 (bsearch_int p.nodes _ hs hl) ((by first | rfl | (simp [go_sem, ← List.map_take, ← List.map_drop, h0, F2, j0, j1, j2, j3, j0.symm, j1.symm, j2.symm, j3.symm, h11, lge hke, gEd]; done))) ?_
     try simp [go_sem, seval, h0, F2, j0, j1, j2, j3, j0.symm, j1.symm, j2.symm, j3.symm, h11, lge hke, gEd]
     repeat (first | intro _ | (refine ⟨obl, ?_⟩))
     refine nextQ_mk (k + 1) (by omega) ((hI2 _ _ _).2 ⟨(j), (ys ++ [gEd g p p.edges[k]]), ?_, ?_, ?_, ?_, ?_, ?_, ?_, ?_, ?_, ?_, ?_, ?_, ?_, ?_, ?_, ?_, ?_, ?_, (by first | assumption | omega | (simp [go_sem, h0, F2, j0, j1, j2, j3, j0.symm, j1.symm, j2.symm, j3.symm, h11, lge hke, gEd, h6]; done) | (simp_all <;> omega)), (by (rw [map_take_succ _ h11, ← hy])), (by first | assumption | omega | (simp [go_sem, h0, F2, j0, j1, j2, j3, j0.symm, j1.symm, j2.symm, j3.symm, h11, lge hke, gEd, h6]; done) | (simp_all <;> omega)), (by first | assumption | omega | (simp [go_sem, h0, F2, j0, j1, j2, j3, j0.symm, j1.symm, j2.symm, j3.symm, h11, lge hke, gEd, h6]; done) | (simp_all <;> omega)), (by first | assumption | omega | (simp [go_sem, h0, F2, j0, j1, j2, j3, j0.symm, j1.symm, j2.symm, j3.symm, h11, lge hke, gEd, h6]; done) | (simp_all <;> omega)), (by first | assumption | omega | (simp [go_sem, h0, F2, j0, j1, j2, j3, j0.symm, j1.symm, j2.symm, j3.symm, h11, lge hke, gEd, h6]; done) | (simp_all <;> omega))⟩) <;> first | omega | (simp [go_sem, seval, h0, F2, j0, j1, j2, j3, j0.symm, j1.symm, j2.symm, j3.symm, h11, lge hke, gEd] <;> omega)
    ·try simp [go_sem] at h11
     have hY : ys = p.edges.map (gEd g p) := by rw [hy, map_take_end _ (by omega)]
     have hE : extractG g p = ⟨xs, ys⟩ := by unfold extractG; rw [if_pos h0, hX, hY]
     rw [hE] at hQ
     try simp [go_sem, seval, h0, F2, j0, j1, j2, j3, j0.symm, j1.symm, j2.symm, j3.symm]
     refine dcallQ_pure0 ((clone_int p.nodes hl).pure) ((by first | rfl | (simp [go_sem, ← List.map_take, ← List.map_drop, h0, F2, j0, j1, j2, j3, j0.symm, j1.symm, j2.symm, j3.symm]; done))) ?_
     try simp [go_sem, seval, h0, F2, j0, j1, j2, j3, j0.symm, j1.symm, j2.symm, j3.symm]
     refine dcallQ_pure0 ((clone_int p.edges hle).pure) ((by first | rfl | (simp [go_sem, ← List.map_take, ← List.map_drop, h0, F2, j0, j1, j2, j3, j0.symm, j1.symm, j2.symm, j3.symm]; done))) ?_
     try simp [go_sem, seval, h0, F2, j0, j1, j2, j3, j0.symm, j1.symm, j2.symm, j3.symm]
     exact hQ _ _ _ _ _ (Ne.symm j3) (by simp) (by simp) (by simp [go_sem, h0, F2, j0, j1, j2, j3, j0.symm, j1.symm, j2.symm, j3.symm]) (by simp [go_sem, h0, F2, j0, j1, j2, j3, j0.symm, j1.symm, j2.symm, j3.symm])
theorem ref07_ExtractO (g : Graph) (p : Part) (h0 : subF g p = 0) (hl : p.nodes.length ≤ 1000000) (hle : p.edges.length ≤ 1000000) : Own2T Tryz.prog 101 [g.d, p.d] ⟨3, 1, (extractG g p).nodes.map cI, false⟩ ⟨124, 3, (extractG g p).edges.map Edge.c, false⟩ [p.d, dI 0] := by
  refine own2TK (htl := by simp [go_sem, Part.d, Part.c]) (hcl1 := ints_cl _) (hcl2 := edgesG_cl _) (h := fun Q hQ => ?_)
  obtain ⟨hg, hs, hin, hie⟩ := subF_of h0
  have hends := subF_ends h0
  obtain ⟨Q', hQ'⟩ : ∃ Q' : D → AHeap → Prop, ∀ d H', Q' d H' ↔ ∃ x tl, d = .tup (x :: tl) ∧ Q (.tup (x :: tl.map (rsvD H'))) (frzs (tl.flatMap ownIds) H') := ⟨_, fun _ _ => Iff.rfl⟩
  refine ACalls.frzTl (fun d H' h => (hQ' d H').1 h) ?_
  refine (acalls_of_body (cfg := ⟨fun t => t == 4 || t == 5 || t == 8 || t == 11 || t == 76 || t == 80, fun r => match r with | 8 => [(0, 11), (1, 11)] | 12 => [(0, 9), (1, 9), (2, 9), (3, 9), (5, 9), (6, 9), (7, 9), (8, 9)] | 13 => [(0, 15), (1, 15)] | 14 => [(0, 1), (1, 2), (1, 3), (0, 4), (0, 5), (1, 5), (2, 5), (3, 5), (4, 5), (1, 6), (4, 6), (5, 6), (1, 7), (4, 7), (5, 7), (0, 8)] | _ => []⟩) Tz.mixed Tryz.func101 rfl rfl (nlb rfl) (by kernel_rfl) ?_)
  try simp [go_sem, seval, h0]
  refine callQ_pure0 (ref07_Valid g p) ((by first | rfl | (simp [go_sem, ← List.map_take, ← List.map_drop, h0]; done))) ?_
  try simp [go_sem, seval, h0]
  obtain ⟨I0, hI0⟩ := mkI fun i e H => (∃ xs : List Int, (e 2 = .adr g.c) ∧ (e 3 = .adr p.c) ∧ (e 4 = .ptr 0 1 0 0) ∧ (e 5 = .ptr 1 1 0 0) ∧ (e 8 = .ptr 2 1 0 0) ∧ (e 9 = dI i) ∧ (H.get 0 = some ⟨29, 2, [[.nil, .nil]], false⟩) ∧ (0 < H.next) ∧ (H.get 1 = some ⟨36, 2, [[.nil, .nil]], false⟩) ∧ (1 < H.next) ∧ (H.get 2 = some ⟨29, 2, [[.own 3 xs.length, .nil]], false⟩) ∧ (2 < H.next) ∧ (H.get 3 = some ⟨3, 1, xs.map cI, false⟩) ∧ (3 < H.next) ∧ (i ≤ p.nodes.length) ∧ (xs = (p.nodes.take i).map (gN g)))
  refine loopKG (Ghosts.step (Ghosts.refl _) 2 0 0 3 1 _ _ (rfl) rfl rfl rfl) I0 (fun i => p.nodes.length - i) (0) ((hI0 _ _ _).2 ⟨([]), ?_, ?_, ?_, ?_, ?_, ?_, ?_, ?_, ?_, ?_, ?_, ?_, ?_, ?_, (by first | assumption | omega | (simp [go_sem, h0]; done) | (simp_all; done)), (by rfl)⟩) ?_
  iterate 14 (first | omega | (simp [go_sem, seval, h0] <;> omega))
  intro i e H hi0
  obtain ⟨xs, q2_0, q3_0, q4_0, q5_0, q8_0, q9_0, g0_0, n0_0, g1_0, n1_0, g2_0, n2_0, g3_0, n3_0, hi, hx⟩ := (hI0 _ _ _).1 hi0
  have x0 := frs n0_0
  have x1 := frs n1_0
  have x2 := frs n2_0
  have x3 := frs n3_0
  have F0 := And.intro q2_0 (And.intro q3_0 (And.intro q4_0 (And.intro q5_0 (And.intro q8_0 (And.intro q9_0 (And.intro g0_0 (And.intro g1_0 (And.intro g2_0 (And.intro g3_0 (And.intro x0 (And.intro x1 (And.intro x2 x3))))))))))))
  try simp [go_sem, seval, h0, F0]
  repeat first | intro _ | refine ⟨obs, ?_⟩
  refine condQ_mk (fun h6 => ?_) (fun h6 => ?_)
  · try simp [go_sem] at h6
    have hin' := hin _ (lgm h6)
    have hk : p.nodes[i].toNat < g.nodes.length := by omega
    have hxl : xs.length = i := by rw [hx]; simp; omega
    try simp [go_sem, seval, h0, F0, h6, lge hk, gN]
    repeat first | intro _ | refine ⟨obs, ?_⟩
    refine nextQ_mk (i + 1) (by omega) ((hI0 _ _ _).2 ⟨(xs ++ [gN g p.nodes[i]]), ?_, ?_, ?_, ?_, ?_, ?_, ?_, ?_, ?_, ?_, ?_, ?_, ?_, ?_, (by first | assumption | omega | (simp [go_sem, h0, F0, h6, lge hk, gN]; done) | (simp_all <;> omega)), (by (rw [map_take_succ _ h6, ← hx]))⟩) <;> first | omega | (simp [go_sem, seval, h0, F0, h6, lge hk, gN] <;> omega)
  · try simp [go_sem] at h6
    have hX : xs = p.nodes.map (gN g) := by rw [hx, map_take_end _ (by omega)]
    try simp [go_sem, seval, h0, F0]
    obtain ⟨I2, hI2⟩ := mkI fun k e H => (∃ j : Nat, ∃ ys : List Edge, (e 2 = .adr g.c) ∧ (e 3 = .adr p.c) ∧ (e 4 = .ptr 0 1 0 0) ∧ (e 5 = .ptr 1 1 0 0) ∧ (e 8 = .ptr 2 1 0 0) ∧ (e 10 = dI k) ∧ (H.get 0 = some ⟨29, 2, [[.nil, .nil]], false⟩) ∧ (0 < H.next) ∧ (H.get 1 = some ⟨36, 2, [[.nil, .nil]], false⟩) ∧ (1 < H.next) ∧ (H.get 2 = some ⟨29, 2, [[.own 3 xs.length, .own j ys.length]], false⟩) ∧ (2 < H.next) ∧ (H.get 3 = some ⟨3, 1, xs.map cI, false⟩) ∧ (3 < H.next) ∧ (H.get j = some ⟨124, 3, ys.map Edge.c, false⟩) ∧ (j < H.next) ∧ (k ≤ p.edges.length) ∧ (ys = (p.edges.take k).map (gEd g p)) ∧ (j ≠ 0) ∧ (j ≠ 1) ∧ (j ≠ 2) ∧ (j ≠ 3))
    refine loopKG (Ghosts.step (Ghosts.refl _) 2 0 1 124 3 _ _ (g2_0) rfl rfl rfl) I2 (fun k => p.edges.length - k) (0) ((hI2 _ _ _).2 ⟨(H.next), ([]), ?_, ?_, ?_, ?_, ?_, ?_, ?_, ?_, ?_, ?_, ?_, ?_, ?_, ?_, ?_, ?_, (by first | assumption | omega | (simp [go_sem, h0, F0]; done) | (simp_all; done)), (by rfl), (by omega), (by omega), (by omega), (by omega)⟩) ?_
    iterate 16 (first | omega | (simp [go_sem, seval, h0, F0] <;> omega))
    intro k e H hi2
    obtain ⟨j, ys, q2_2, q3_2, q4_2, q5_2, q8_2, q10_2, g0_2, n0_2, g1_2, n1_2, g2_2, n2_2, g3_2, n3_2, gj_2, nj_2, hk, hy, j0, j1, j2, j3⟩ := (hI2 _ _ _).1 hi2
    have x0 := frs n0_2
    have x1 := frs n1_2
    have x2 := frs n2_2
    have x3 := frs n3_2
    have xj := frs nj_2
    have F2 := And.intro q2_2 (And.intro q3_2 (And.intro q4_2 (And.intro q5_2 (And.intro q8_2 (And.intro q10_2 (And.intro g0_2 (And.intro g1_2 (And.intro g2_2 (And.intro g3_2 (And.intro gj_2 (And.intro x0 (And.intro x1 (And.intro x2 (And.intro x3 xj))))))))))))))
    try simp [go_sem, seval, h0, F2, j0, j1, j2, j3, j0.symm, j1.symm, j2.symm, j3.symm]
    repeat first | intro _ | refine ⟨obs, ?_⟩
    refine condQ_mk (fun h10 => ?_) (fun h10 => ?_)
    ·try simp [go_sem] at h10
     have hie' := hie _ (lgm h10)
     have hke : p.edges[k].toNat < g.edges.length := by omega
     have hyl : ys.length = k := by rw [hy]; simp; omega
     have hen := hends _ (lgm h10)
     rw [lge hke, Option.getD_some] at hen
     have hi1 := idx_posL hs hen.1
     have hi2 := idx_posL hs hen.2
     try simp [go_sem, seval, h0, F2, j0, j1, j2, j3, j0.symm, j1.symm, j2.symm, j3.symm, h10, lge hke, gEd, hi1, hi2]
     repeat first | intro _ | refine ⟨obs, ?_⟩
     refine dcallQ_pure0 (ref07_index p.nodes _) ((by first | rfl | (simp [go_sem, ← List.map_take, ← List.map_drop, h0, F2, j0, j1, j2, j3, j0.symm, j1.symm, j2.symm, j3.symm, h10, lge hke, gEd, hi1, hi2]; done))) ?_
     try simp [go_sem, seval, h0, F2, j0, j1, j2, j3, j0.symm, j1.symm, j2.symm, j3.symm, h10, lge hke, gEd, hi1, hi2]
     repeat first | intro _ | refine ⟨obs, ?_⟩
     refine dcallQ_pure0 (ref07_index p.nodes _) ((by first | rfl | (simp [go_sem, ← List.map_take, ← List.map_drop, h0, F2, j0, j1, j2, j3, j0.symm, j1.symm, j2.symm, j3.symm, h10, lge hke, gEd, hi1, hi2]; done))) ?_
     try simp [go_sem, seval, h0, F2, j0, j1, j2, j3, j0.symm, j1.symm, j2.symm, j3.symm, h10, lge hke, gEd, hi1, hi2]
     repeat first | intro _ | refine ⟨obs, ?_⟩
     refine nextQ_mk (k + 1) (by omega) ((hI2 _ _ _).2 ⟨(j), (ys ++ [gEd g p p.edges[k]]), ?_, ?_, ?_, ?_, ?_, ?_, ?_, ?_, ?_, ?_, ?_, ?_, ?_, ?_, ?_, ?_, (by first | assumption | omega | (simp [go_sem, h0, F2, j0, j1, j2, j3, j0.symm, j1.symm, j2.symm, j3.symm, h10, lge hke, gEd, hi1, hi2, h6]; done) | (simp_all <;> omega)), (by (rw [map_take_succ _ h10, ← hy])), (by first | assumption | omega | (simp [go_sem, h0, F2, j0, j1, j2, j3, j0.symm, j1.symm, j2.symm, j3.symm, h10, lge hke, gEd, hi1, hi2, h6]; done) | (simp_all <;> omega)), (by first | assumption | omega | (simp [go_sem, h0, F2, j0, j1, j2, j3, j0.symm, j1.symm, j2.symm, j3.symm, h10, lge hke, gEd, hi1, hi2, h6]; done) | (simp_all <;> omega)), (by first | assumption | omega | (simp [go_sem, h0, F2, j0, j1, j2, j3, j0.symm, j1.symm, j2.symm, j3.symm, h10, lge hke, gEd, hi1, hi2, h6]; done) | (simp_all <;> omega)), (by first | assumption | omega | (simp [go_sem, h0, F2, j0, j1, j2, j3, j0.symm, j1.symm, j2.symm, j3.symm, h10, lge hke, gEd, hi1, hi2, h6]; done) | (simp_all <;> omega))⟩) <;> first | omega | (simp [go_sem, seval, h0, F2, j0, j1, j2, j3, j0.symm, j1.symm, j2.symm, j3.symm, h10, lge hke, gEd, hi1, hi2] <;> omega)
    ·try simp [go_sem] at h10
     have hY : ys = p.edges.map (gEd g p) := by rw [hy, map_take_end _ (by omega)]
     have hE : extractG g p = ⟨xs, ys⟩ := by unfold extractG; rw [if_pos h0, hX, hY]
     rw [hE] at hQ
     try simp [go_sem, seval, h0, F2, j0, j1, j2, j3, j0.symm, j1.symm, j2.symm, j3.symm]
     repeat first | intro _ | refine ⟨obs, ?_⟩
     refine (hQ' _ _).2 ⟨_, _, rfl, ?_⟩; simp [go_sem, h0, F2, j0, j1, j2, j3, j0.symm, j1.symm, j2.symm, j3.symm]; exact hQ _ _ _ _ _ (Ne.symm j3) (by simp) (by simp) (by simp [go_sem, h0, F2, j0, j1, j2, j3, j0.symm, j1.symm, j2.symm, j3.symm, show (3 : Nat) ≠ H.next + 1 by omega, show (3 : Nat) ≠ H.next + 5 by omega]) (by simp [go_sem, h0, F2, j0, j1, j2, j3, j0.symm, j1.symm, j2.symm, j3.symm, show j ≠ H.next + 1 by omega, show j ≠ H.next + 5 by omega])
end Go.Abs
end
section
set_option maxRecDepth 8000
set_option maxHeartbeats 1000000
open Go Go.Proofs
namespace Go.Abs
def sidA (av : List Int) (b : Nat) (ns : List Int) : Nat → List Int
  | 0 => av
  | i + 1 => (sidA av b ns i).set (ns[i]?.getD 0).toNat ((b + i : Nat) : Int)
theorem sidA_len (av : List Int) (b : Nat) (ns : List Int) : ∀ i, (sidA av b ns i).length = av.length
  | 0 => rfl
  | i + 1 => by simp only [sidA, List.length_set]; exact sidA_len av b ns i
def moreN (more : Graph) (n : Int) : Int := more.nodes[n.toNat]?.getD 0
def sideG (g : Graph) (p : Part) (more : Graph) (av ns es : List Int) : Graph :=
  ⟨(extractG g p).nodes ++ ns.map (moreN more), (extractG g p).edges ++ es.map fun n => gluX more (sidA av (extractG g p).nodes.length ns ns.length) n.toNat⟩
theorem concurrent_side0 (g : Graph) (p : Part) (more : Graph) (a0 ns es : List Int) (h0 : subF g p = 0) (hl : p.nodes.length ≤ 1000000) (hle : p.edges.length ≤ 1000000) (hm : graphF more = 0) (ha0 : a0.length = more.nodes.length)
    (hns : ∀ x ∈ ns, 0 ≤ x ∧ x < more.nodes.length) (hes : ∀ x ∈ es, 0 ≤ x ∧ x < more.edges.length) (hnl : ns.length ≤ 1000000) (hel : es.length ≤ 1000000) (Q : D → AHeap → Prop)
    (hQ : ∀ i j n m H', i ≠ j → i ≠ 0 → j ≠ 0 → n = (sideG g p more a0 ns es).nodes.length → m = (sideG g p more a0 ns es).edges.length → H'.get i = some ⟨3, 1, (sideG g p more a0 ns es).nodes.map cI, false⟩ → H'.get j = some ⟨124, 3, (sideG g p more a0 ns es).edges.map Edge.c, false⟩ →
     H'.get 0 = some ⟨3, 1, (sidA a0 (extractG g p).nodes.length ns ns.length).map cI, false⟩ → Q (.agg [.own i n, .own j m]) H') :
    ACalls Tryz.prog 136 [g.d, p.d, more.d, .own 0 a0.length, dLI ns, dLI es] (AHeap.emp.push 0 ⟨3, 1, a0.map cI, false⟩) Q := by
  have hlm := graphF_le hm
  have hib : ∀ x ∈ more.edges, (0 ≤ x.from_ ∧ x.from_ < more.nodes.length) ∧ (0 ≤ x.to_ ∧ x.to_ < more.nodes.length) := fun x hx => ((graphF_in hm).2 x hx).2
  obtain ⟨E, hE⟩ : ∃ E, extractG g p = E := ⟨_, rfl⟩
  have hX := subgraph_ExtractO g p h0 hl hle
  have hEl : E.nodes.length ≤ 1000000 ∧ E.edges.length ≤ 1000000 := by rw [← hE]; unfold extractG; rw [if_pos h0]; simp; exact ⟨hl, hle⟩
  obtain ⟨S, hS⟩ : ∃ S, sideG g p more a0 ns es = S := ⟨_, rfl⟩
  rw [hE] at hX
  rw [hS, hE] at hQ
  refine (acalls_of_body (cfg := ⟨fun t => t == 12 || t == 13 || t == 14 || t == 20, fun r => match r with | 6 => [(0, 7), (1, 7)] | 12 => [(0, 15), (1, 15)] | _ => []⟩) Tz.mixed Tryz.func136 rfl rfl (nlb rfl) (by kernel_rfl) ?_)
  try simp [go_sem, seval]
  refine callQ_own2T (hX) (by first | rfl | (simp [go_sem]; done)) (by constructor <;> (simp [go_sem, al_push, al_put, al_mk, al_emp] <;> omega)) ?_
  try simp [go_sem, seval]
  repeat first | intro _ | refine ⟨obs, ?_⟩
  obtain ⟨I0, hI0⟩ := mkI fun i e H => (∃ av : List Int, ∃ gs : List Int, (e 8 = .adr more.c) ∧ (e 3 = .own 0 a0.length) ∧ (e 5 = dLI es) ∧ (e 12 = .ptr 1 1 0 0) ∧ (e 13 = .ptr 4 1 0 0) ∧ (e 28 = dLI ns) ∧ (e 29 = dI ns.length) ∧ (e 30 = dI i) ∧ (H.get 0 = some ⟨3, 1, av.map cI, false⟩) ∧ (0 < H.next) ∧ (H.get 1 = some ⟨29, 2, [[.nil, .nil]], false⟩) ∧ (1 < H.next) ∧ (H.get 2 = some ⟨3, 1, gs.map cI, false⟩) ∧ (2 < H.next) ∧ (H.get 3 = some ⟨124, 3, E.edges.map Edge.c, false⟩) ∧ (3 < H.next) ∧ (H.get 4 = some ⟨29, 2, [[.own 2 gs.length, .own 3 E.edges.length]], false⟩) ∧ (4 < H.next) ∧ (i ≤ ns.length) ∧ (av.length = a0.length) ∧ (gs.length = E.nodes.length + i) ∧ (av = sidA a0 E.nodes.length ns i) ∧ (gs = E.nodes ++ (ns.take i).map (moreN more)))
  refine loopK I0 (fun i => ns.length - i) (0) ((hI0 _ _ _).2 ⟨(a0), (E.nodes), ?_, ?_, ?_, ?_, ?_, ?_, ?_, ?_, ?_, ?_, ?_, ?_, ?_, ?_, ?_, ?_, ?_, ?_, (by first | assumption | omega | (simp [go_sem]; done) | (simp_all; done)), (by rfl), (by rfl), (by rfl), (by (simp))⟩) ?_
  iterate 18 (first | omega | (simp [go_sem, seval] <;> omega))
  intro i e H hi0
  obtain ⟨av, gs, q8_0, q3_0, q5_0, q12_0, q13_0, q28_0, q29_0, q30_0, g0_0, n0_0, g1_0, n1_0, g2_0, n2_0, g3_0, n3_0, g4_0, n4_0, hi, hav, hgl, ha, hg⟩ := (hI0 _ _ _).1 hi0
  have x0 := frs n0_0
  have x1 := frs n1_0
  have x2 := frs n2_0
  have x3 := frs n3_0
  have x4 := frs n4_0
  have F0 := And.intro q8_0 (And.intro q3_0 (And.intro q5_0 (And.intro q12_0 (And.intro q13_0 (And.intro q28_0 (And.intro q29_0 (And.intro q30_0 (And.intro g0_0 (And.intro g1_0 (And.intro g2_0 (And.intro g3_0 (And.intro g4_0 (And.intro x0 (And.intro x1 (And.intro x2 (And.intro x3 x4))))))))))))))))
  try simp [go_sem, seval, F0, hav, hgl]
  refine condQ_mk (fun h3 => ?_) (fun h3 => ?_)
  · try simp [go_sem] at h3
    have hin := hns _ (lgm h3)
    have hk : ns[i].toNat < more.nodes.length := by omega
    have hka : ns[i].toNat < av.length := by omega
    try simp [go_sem, seval, F0, hav, hgl, h3, lge h3, lge hk, lge hka]
    repeat first | intro _ | refine ⟨obs, ?_⟩
    refine nextQ_mk (i + 1) (by omega) ((hI0 _ _ _).2 ⟨(av.set ns[i].toNat ((E.nodes.length + i : Nat) : Int)), (gs ++ [more.nodes[ns[i].toNat]]), ?_, ?_, ?_, ?_, ?_, ?_, ?_, ?_, ?_, ?_, ?_, ?_, ?_, ?_, ?_, ?_, ?_, ?_, (by first | assumption | omega | (simp [go_sem, F0, hav, hgl, h3, lge h3, lge hk, lge hka]; done) | (simp_all <;> omega)), (by (simp [hav])), (by (simp [hgl]; omega)), (by (simp only [sidA, ← ha, lge h3, Option.getD_some])), (by (rw [map_take_succ _ h3, ← List.append_assoc, ← hg]; simp only [moreN, lge hk, Option.getD_some]))⟩) <;> first | omega | (simp [go_sem, seval, F0, hav, hgl, h3, lge h3, lge hk, lge hka] <;> omega)
  · try simp [go_sem] at h3
    have hI : i = ns.length := by omega
    subst hI
    try simp [go_sem, seval, F0, hav, hgl]
    repeat first | intro _ | refine ⟨obs, ?_⟩
    obtain ⟨I2, hI2⟩ := mkI fun k e H => (∃ xs : List Edge, (e 8 = .adr more.c) ∧ (e 3 = .own 0 a0.length) ∧ (e 12 = .ptr 1 1 0 0) ∧ (e 13 = .ptr 4 1 0 0) ∧ (e 51 = dLI es) ∧ (e 52 = dI es.length) ∧ (e 53 = dI k) ∧ (H.get 0 = some ⟨3, 1, av.map cI, false⟩) ∧ (0 < H.next) ∧ (H.get 1 = some ⟨29, 2, [[.nil, .nil]], false⟩) ∧ (1 < H.next) ∧ (H.get 2 = some ⟨3, 1, gs.map cI, false⟩) ∧ (2 < H.next) ∧ (H.get 3 = some ⟨124, 3, xs.map Edge.c, false⟩) ∧ (3 < H.next) ∧ (H.get 4 = some ⟨29, 2, [[.own 2 gs.length, .own 3 xs.length]], false⟩) ∧ (4 < H.next) ∧ (k ≤ es.length) ∧ (xs.length = E.edges.length + k) ∧ (xs = E.edges ++ (es.take k).map (fun n => gluX more av n.toNat)))
    refine loopK I2 (fun k => es.length - k) (0) ((hI2 _ _ _).2 ⟨(E.edges), ?_, ?_, ?_, ?_, ?_, ?_, ?_, ?_, ?_, ?_, ?_, ?_, ?_, ?_, ?_, ?_, ?_, (by first | assumption | omega | (simp [go_sem, F0, hav, hgl]; done) | (simp_all; done)), (by rfl), (by (simp))⟩) ?_
    iterate 17 (first | omega | (simp [go_sem, seval, F0, hav, hgl] <;> omega))
    intro k e H hi2
    obtain ⟨xs, q8_2, q3_2, q12_2, q13_2, q51_2, q52_2, q53_2, g0_2, n0_2, g1_2, n1_2, g2_2, n2_2, g3_2, n3_2, g4_2, n4_2, hk, hxl, hx⟩ := (hI2 _ _ _).1 hi2
    have x0 := frs n0_2
    have x1 := frs n1_2
    have x2 := frs n2_2
    have x3 := frs n3_2
    have x4 := frs n4_2
    have F2 := And.intro q8_2 (And.intro q3_2 (And.intro q12_2 (And.intro q13_2 (And.intro q51_2 (And.intro q52_2 (And.intro q53_2 (And.intro g0_2 (And.intro g1_2 (And.intro g2_2 (And.intro g3_2 (And.intro g4_2 (And.intro x0 (And.intro x1 (And.intro x2 (And.intro x3 x4)))))))))))))))
    try simp [go_sem, seval, hav, hgl, F2, hav]
    refine condQ_mk (fun h9 => ?_) (fun h9 => ?_)
    ·try simp [go_sem] at h9
     have hie := hes _ (lgm h9)
     have hke : es[k].toNat < more.edges.length := by omega
     have hbx := hib _ (lgm hke)
     have hf1 : more.edges[es[k].toNat].from_.toNat < av.length := by omega
     have hft : more.edges[es[k].toNat].to_.toNat < av.length := by omega
     have hgx : gluX more av es[k].toNat = ⟨more.edges[es[k].toNat].type, av[more.edges[es[k].toNat].from_.toNat], av[more.edges[es[k].toNat].to_.toNat]⟩ := by simp only [gluX, lge hke, Option.getD_some, lge hf1, lge hft]
     try simp [go_sem, seval, hav, hgl, F2, hav, h9, lge h9, lge hke, lge hf1, lge hft, hgx, Edge.c]
     repeat first | intro _ | refine ⟨obs, ?_⟩
     refine nextQ_mk (k + 1) (by omega) ((hI2 _ _ _).2 ⟨(xs ++ [gluX more av es[k].toNat]), ?_, ?_, ?_, ?_, ?_, ?_, ?_, ?_, ?_, ?_, ?_, ?_, ?_, ?_, ?_, ?_, ?_, (by first | assumption | omega | (simp [go_sem, hav, hgl, F2, hav, h9, lge h9, lge hke, lge hf1, lge hft, hgx, Edge.c, h3]; done) | (simp_all <;> omega)), (by (simp [hxl]; omega)), (by (rw [map_take_succ _ h9, ← List.append_assoc, ← hx]))⟩) <;> first | omega | (simp [go_sem, seval, hav, hgl, F2, hav, h9, lge h9, lge hke, lge hf1, lge hft, hgx, Edge.c] <;> omega)
    ·try simp [go_sem] at h9
     have hSE : S = ⟨gs, xs⟩ := by
      rw [← hS]; unfold sideG
      rw [hE, ← ha, hg, hx]
      rw [show k = es.length by omega, List.take_length, List.take_length]
     subst hSE
     try simp [go_sem, seval, hav, hgl, F2, hav]
     exact hQ _ _ _ _ _ (by omega) (by omega) (by omega) (by simp [hgl]) (by simp) (by simp [go_sem, hav, hgl, F2, hav]) (by simp [go_sem, hav, hgl, F2, hav]) (by rw [← ha]; simp [go_sem, hav, hgl, F2, hav])
theorem concurrent_side (g : Graph) (p : Part) (more : Graph) (a0 ns es : List Int) (h0 : subF g p = 0) (hl : p.nodes.length ≤ 1000000) (hle : p.edges.length ≤ 1000000) (hm : graphF more = 0) (ha0 : a0.length = more.nodes.length)
    (hns : ∀ x ∈ ns, 0 ≤ x ∧ x < more.nodes.length) (hes : ∀ x ∈ es, 0 ≤ x ∧ x < more.edges.length) (hnl : ns.length ≤ 1000000) (hel : es.length ≤ 1000000) :
    ACalls Tryz.prog 136 [g.d, p.d, more.d, .own 0 a0.length, dLI ns, dLI es] (AHeap.emp.push 0 ⟨3, 1, a0.map cI, false⟩) fun d H' =>
     rsvT H' d = (sideG g p more a0 ns es).d ∧ (sideG g p more a0 ns es).d.cl = true ∧ 0 ∉ ownT d ∧ H'.get 0 = some ⟨3, 1, (sidA a0 (extractG g p).nodes.length ns ns.length).map cI, false⟩ :=
  concurrent_side0 g p more a0 ns es h0 hl hle hm ha0 hns hes hnl hel _ fun i j n m H' hij hi hj hn hm' h1 h2 h3 => by
    refine ⟨?_, ?_, ?_, h3⟩
    ·simp [go_sem, rsvT, Graph.d, Graph.c, h1, h2, hn, hm', dLI]
    ·simp [go_sem, Graph.d, Graph.c]
    ·simp [ownT, ownIds, ids1]; omega
end Go.Abs
end
section
namespace Go.Abs
mutual
def nzA : D → D
  | .nil => .list []
  | .agg cs => .agg (nzAs cs)
  | .tup cs => .tup (nzAs cs)
  | .list es => .list (nzAss es)
  | d => d
def nzAs : List D → List D
  | [] => []
  | d :: l => nzA d :: nzAs l
def nzAss : List (List D) → List (List D)
  | [] => []
  | c :: l => nzAs c :: nzAss l
end
theorem nzAs_map (l : List D) : nzAs l = l.map nzA := by
  induction l with
  | nil => rfl
  | cons a l ih => simp [nzAs, ih]
theorem nzAss_map (l : List (List D)) : nzAss l = l.map nzAs := by
  induction l with
  | nil => rfl
  | cons a l ih => simp [nzAss, ih]
theorem nzAss_flat (l : List (List D)) : (nzAss l).flatten = l.flatten.map nzA := by
  induction l with
  | nil => rfl
  | cons a l ih => simp only [nzAss, List.flatten_cons, ih, List.map_append, nzAs_map]
theorem nzA_rep {M : Nat → Prop} {σ : Nat → Option Ow} {N : Nat → Prop} {w : World} {v : Value} {d : D} (h : RepV M σ N w v d) : RepV M σ N w v (nzA d) := by
  have hm : ∀ {vs : List Value} {ds : List D}, (∀ (j : Nat) (u : Value) (d : D), vs[j]? = some u → ds[j]? = some d → RepV M σ N w u (nzA d)) →
      ∀ (j : Nat) (u : Value) (d : D), vs[j]? = some u → (ds.map nzA)[j]? = some d → RepV M σ N w u d := by
    intro vs ds ih j u d hu hd
    rw [List.getElem?_map, Option.map_eq_some_iff] at hd
    obtain ⟨y, hy, rfl⟩ := hd
    exact ih j u y hu hy
  induction h with
  | int => simp only [nzA]; exact .int _ _
  | bool => simp only [nzA]; exact .bool _
  | str => simp only [nzA]; exact .str _
  | agg vs ds hl h1 _ ih =>
    simp only [nzA, nzAs_map]
    exact .agg vs _ (by simp [hl]) h1 (hm ih)
  | tup vs ds hl _ ih =>
    simp only [nzA, nzAs_map]
    exact .tup vs _ (by simp [hl]) (hm ih)
  | nil => simp only [nzA]; exact .listN
  | listN => simp only [nzA, nzAss]; exact .listN
  | list ad cap sz xs es hc hm' hsz hl h1 hcell _ ih =>
    simp only [nzA]
    have hlen : (nzAss es).length = es.length := by rw [nzAss_map, List.length_map]
    have := RepV.list (M := M) (σ := σ) (N := N) (w := w) ad cap sz xs (nzAss es) (by rw [hlen]; exact hc) hm' (fun c hc' => by
      rw [nzAss_map, List.mem_map] at hc'
      obtain ⟨y, hy, rfl⟩ := hc'
      rw [nzAs_map, List.length_map]; exact hsz y hy) (by rw [nzAss_flat, List.length_map]; exact hl) h1 hcell (by rw [nzAss_flat]; exact hm ih)
    rwa [hlen] at this
  | adr ad xs ds hl h1 hcell hr ih => simp only [nzA]; exact .adr ad xs ds hl h1 hcell hr
  | ne ad cap hm => simp only [nzA]; exact .ne ad cap hm
  | nilp => simp only [nzA]; exact .nilp
  | ptr v id ver i off hN h1 h => simp only [nzA]; exact .ptr v id ver i off hN h1 h
  | own v id n hN h1 h => simp only [nzA]; exact .own v id n hN h1 h
  | win v id ver lo hi hN h1 hlh h => simp only [nzA]; exact .win v id ver lo hi hN h1 hlh h
  | fn f vs ds hl hr ih => simp only [nzA]; exact .fn f vs ds hl hr
  | nilf => simp only [nzA]; exact .nilf
  | opt v g d hf h ih => simp only [nzA]; exact .opt v g d hf h
  | junk v => simp only [nzA]; exact .junk v
theorem pureKA {P : Program} {f : FuncId} {args : List D} {r : D} (hcl : r.cl = true) (h : ∀ Q : D → AHeap → Prop, (∀ d H', nzA (rsvT H' d) = r → Q d H') → ACalls P f args .emp Q) : Pure P f args r := by
  have h := h (fun d H' => nzA (rsvT H' d) = r) fun _ _ h => h
  refine ⟨h.1, fun M w vals hM ha => (h.2 M noRef w vals (rel_emp M w hM) (by rw [mut_emp]; exact ha)).mono fun e w' ⟨v, d, H', σ', he, hR, hv, hst, hk, hr⟩ => ⟨v, he, ?_, stp_below hst⟩⟩
  have h1 : RepV (Mut M (frzs (ownT d) H') σ') σ' (frzs (ownT d) H').al w' v r := by
    have h0 := nzA_rep (rsvT_frozen hR hv (ownT d) fun i hi => hi)
    rw [hr] at h0; exact h0
  exact h1.closed (fun ad u hm hc => ⟨fun h => hm (.inl h), hc⟩) hcl
attribute [go_sem] nzA nzAs nzAss
end Go.Abs
end
