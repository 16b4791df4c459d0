/- Layer 32, the plain law: the concurrent rule is a rule. · La -/
import Derived.Test.YthnegcfdjjhfgaaGreatZkS
import Derived.Test.YthnegcfdjjhfgaaGreatZkE
import Derived.Carry
import Derived.ChangeArms
import Derived.WideShapes
import Derived.DataElems
import Derived.Test.YthnegcfdjjhfgaaGreatRows
set_option linter.unusedVariables false
set_option linter.unusedSimpArgs false
section
set_option maxRecDepth 8000
open Go Go.Proofs
namespace Go.Abs
theorem mem_img {l : List Int} {x : Int} (h : x ∈ l) : ∃ j : Int, (0 ≤ j ∧ j < l.length) ∧ iA l j = x := by
  obtain ⟨i, hi, he⟩ := List.getElem_of_mem h
  exact ⟨i, by omega, by unfold iA; simp [hi, he]⟩
theorem cover_mem {a b : List Int} {n : Nat} (h : coverB a b n = true) {i : Int} (h0 : 0 ≤ i) (hi : i < n) : i ∈ a ∨ i ∈ b := by
  have := List.all_eq_true.1 h i.toNat (List.mem_range.2 (by omega))
  rw [show ((i.toNat : Nat) : Int) = i by omega, Bool.or_eq_true, mem_iff, mem_iff] at this
  exact this
theorem gN_at {g : Graph} {i : Nat} (h : i < g.nodes.length) : gN g i = g.nodes[i] := by unfold gN; simp [h]
theorem eA_at {g : Graph} {i : Nat} (h : i < g.edges.length) : eA g i = g.edges[i] := by unfold eA; simp [h]
section
variable {t : Types} {a b : Rule} {o : Ovl}
theorem over_typed (ha : Rule.parts t a) (hb : Rule.parts t b) (g : GlueOk a b o) : typedB t o.graph = true := by
  have hj := g.jo
  simp only [jointB, Bool.and_eq_true] at hj
  obtain ⟨_, _, c1, c2⟩ := hj
  have ta := typedB_in ha.gr ha.tr
  have tb := typedB_in hb.gl hb.tl
  obtain ⟨_, _, l1, l2⟩ := morphF_len g.m1
  obtain ⟨_, _, l3, l4⟩ := morphF_len g.m2
  refine typedB_mk (fun x hx => ?_) (fun x hx => ?_)
  · obtain ⟨i, hi, rfl⟩ := List.getElem_of_mem hx
    rw [← gN_at hi]
    rcases cover_mem c1 (i := (i : Int)) (by omega) (by omega) with hm | hm
    ·obtain ⟨j, hj, he⟩ := mem_img hm
     have := (morph_node g.m1 hj.1 (by omega)).2
     rw [he] at this; rw [this]
     exact (ta.1 _ (gN_mem hj.1 (by omega))).2
    ·obtain ⟨j, hj, he⟩ := mem_img hm
     have := (morph_node g.m2 hj.1 (by omega)).2
     rw [he] at this; rw [this]
     exact (tb.1 _ (gN_mem hj.1 (by omega))).2
  · obtain ⟨i, hi, rfl⟩ := List.getElem_of_mem hx
    rw [← eA_at hi]
    rcases cover_mem c2 (i := (i : Int)) (by omega) (by omega) with hm | hm
    ·obtain ⟨j, hj, he⟩ := mem_img hm
     have := (morph_edge g.m1 hj.1 (by omega)).2.1
     rw [he] at this; rw [← this]
     exact (ta.2 _ (eA_mem hj.1 (by omega))).1.2
    ·obtain ⟨j, hj, he⟩ := mem_img hm
     have := (morph_edge g.m2 hj.1 (by omega)).2.1
     rw [he] at this; rw [← this]
     exact (tb.2 _ (eA_mem hj.1 (by omega))).1.2
theorem led_at {l by_ : List Int} {k : Int} (h0 : 0 ≤ k) (hk : k < l.length) : iA (ledL l by_) k = iA by_ (iA l k) := map_at (i := k.toNat) (fun x : Int => by_[x.toNat]?.getD 0) l 0 0 (by omega)
theorem partsD_eq (h : partsE a b o = 0) : partsD a b o = ⟨othersL (goneL o.left.nodes (inP a).nodes) o.graph.nodes.length, othersL (goneL o.left.edges (inP a).edges) o.graph.edges.length⟩ := by
  have g := parts_ok h
  unfold partsD; rw [if_pos h]; unfold compP; rw [if_pos g.c1]
theorem partsF_eq (h : partsE a b o = 0) : partsF a b o = ⟨othersL (goneL o.right.nodes b.keep.nodes) o.graph.nodes.length, othersL (goneL o.right.edges b.keep.edges) o.graph.edges.length⟩ := by
  have g := parts_ok h
  unfold partsF; rw [if_pos h]; unfold compP; rw [if_pos g.c2]
theorem gokL (ha : Rule.parts t a) (hb : Rule.parts t b) (h : partsE a b o = 0) : GOk o.graph (partsD a b o) a.left.graph a.keep (ledL a.into.nodes o.left.nodes) := by
  have g := parts_ok h
  have r := rok ha hb h
  obtain ⟨_, _, hd1, _, _⟩ := comp_of g.c1
  obtain ⟨_, _, l1, _⟩ := morphF_len g.m1
  refine ⟨r.sd, ha.gl, by rw [ledL_len, r.ka]; exact Nat.le_refl _, fun k h0 hk => ?_⟩
  have hk2 : k < a.into.nodes.length := by rw [← r.ka]; exact hk
  rw [led_at h0 hk2]
  have hv := iA_mem h0 hk2
  have hr := (morphF_in ha.mor).1 _ hv
  have hmn := morph_node g.m1 hr.1 hr.2
  have hke : k < (extractG a.left.graph a.keep).nodes.length := by rw [(extract_len ha.sub).1]; exact hk
  have hme := morph_node ha.mor h0 hke
  rw [extract_node ha.sub h0 hk] at hme
  refine ⟨?_, by rw [hmn.2, hme.2]⟩
  rw [partsD_eq h]
  exact othersL_iff.2 ⟨hmn.1, gone_kept hd1 hr.1 (by omega) (inL_iff.2 ⟨hr, hv⟩)⟩
theorem gokR (ha : Rule.parts t a) (hb : Rule.parts t b) (h : partsE a b o = 0) : GOk o.graph (partsF a b o) b.right.graph (intoP b) (ledL b.keep.nodes o.right.nodes) := by
  have g := parts_ok h
  have r := rok ha hb h
  obtain ⟨_, _, hd1, _, _⟩ := comp_of g.c2
  obtain ⟨_, _, l2, _⟩ := morphF_len g.m2
  refine ⟨r.sf, hb.gr, by rw [ledL_len, r.kb]; exact Nat.le_refl _, fun k h0 hk => ?_⟩
  have hk1 : k < b.into.nodes.length := hk
  have hk2 : k < b.keep.nodes.length := by rw [r.kb]; exact hk1
  rw [led_at h0 hk2]
  have hv := iA_mem h0 hk2
  have hr := (subF_of hb.sub).2.2.1 _ hv
  have hmn := morph_node g.m2 hr.1 hr.2
  have hke : k < (extractG b.left.graph b.keep).nodes.length := by rw [(extract_len hb.sub).1]; exact hk2
  have hme := morph_node hb.mor h0 hke
  rw [extract_node hb.sub h0 hk2] at hme
  refine ⟨?_, by rw [hmn.2]; exact hme.2.symm⟩
  rw [partsF_eq h]
  exact othersL_iff.2 ⟨hmn.1, gone_kept hd1 hr.1 (by omega) hv⟩
end
/-! ### what is common to two parts -/
theorem comA_iff {d f : List Int} {x : Int} : x ∈ comA d f d.length ↔ (0 ≤ x ∧ x < d.length) ∧ iA d x ∈ f := by
  unfold comA
  rw [rangeF_iff, mem_iff]; rfl
theorem comA_asc (d f : List Int) : (comA d f d.length).Pairwise (· < ·) := rangeF_asc _ _
theorem comB_eq (d f : List Int) : comB d f d.length = (comA d f d.length).map fun x => idx f (iA d x) := by
  unfold comB comA
  rw [List.map_map]
  rfl
theorem comB_at {d f : List Int} {i : Int} (h0 : 0 ≤ i) (hi : i < (comA d f d.length).length) : iA (comB d f d.length) i = idx f (iA d (iA (comA d f d.length) i)) := by
  rw [comB_eq]; exact map_at (fun x => idx f (iA d x)) _ 0 0 (by omega)
theorem comB_len2 (d f : List Int) : (comB d f d.length).length = (comA d f d.length).length := by rw [comB_eq, List.length_map]
theorem iA_inj {l : List Int} (h : l.Pairwise (· < ·)) {x y : Int} (hx : 0 ≤ x ∧ x < l.length) (hy : 0 ≤ y ∧ y < l.length) (he : iA l x = iA l y) : x = y := by
  unfold iA at he
  rw [lge (show x.toNat < l.length by omega), lge (show y.toNat < l.length by omega), Option.getD_some, Option.getD_some] at he
  have := (List.getElem_inj (asc_nodup h)).1 he
  omega
theorem comB_nodup {d f : List Int} (hd : d.Pairwise (· < ·)) (hf : f.Pairwise (· < ·)) : (comB d f d.length).Nodup := by
  rw [comB_eq]
  show List.Pairwise _ _
  rw [List.pairwise_map]
  refine (comA_asc d f).imp_of_mem fun {x y} hx hy hlt he => ?_
  obtain ⟨x1, x2⟩ := comA_iff.1 hx
  obtain ⟨y1, y2⟩ := comA_iff.1 hy
  have p1 := pos_ok hf x2
  have p2 := pos_ok hf y2
  have : iA d x = iA d y := by rw [← p1.2.1, ← p2.2.1, ← p1.2.2, ← p2.2.2, he]
  have := iA_inj hd x1 y1 this
  omega
section
variable {g : Graph} {d f : Part} {ml mr : Graph} {kl kr : Part} {il ir : List Int}
theorem conc_sub (hL : GOk g d ml kl il) (hF : subF g f = 0) (bL : bigB (grownG g d ml kl il) = false) : subF (grownG g d ml kl il) ⟨comA d.nodes f.nodes d.nodes.length, comA d.edges f.edges d.edges.length⟩ = 0 := by
  have hs := (subF_of hL.sub).2.1
  have hl := grown_lens hL
  refine subF_mk (grown_ok hL bL) (fun x hx => ?_) (comA_asc _ _) (fun x hx => ?_) (comA_asc _ _) fun k hk => ?_
  · have := (comA_iff.1 hx).1; omega
  · have := (comA_iff.1 hx).1; omega
  · obtain ⟨k1, k2⟩ := comA_iff.1 hk
    rw [edge_lo hL k1.1 k1.2, gEd_eq]
    have e1 := sub_ends hL.sub (iA_mem k1.1 k1.2)
    have e2 := sub_ends hF k2
    have q1 := pos_ok hs e1.1
    have q2 := pos_ok hs e1.2
    exact ⟨comA_iff.2 ⟨⟨by show (0 : Int) ≤ (posL _ _ : Nat); omega, by show ((posL _ _ : Nat) : Int) < _; omega⟩, by show iA d.nodes (posL _ _ : Nat) ∈ _; rw [q1.2.1]; exact e2.1⟩,
     comA_iff.2 ⟨⟨by show (0 : Int) ≤ (posL _ _ : Nat); omega, by show ((posL _ _ : Nat) : Int) < _; omega⟩, by show iA d.nodes (posL _ _ : Nat) ∈ _; rw [q2.2.1]; exact e2.2⟩⟩
theorem conc_morph (hL : GOk g d ml kl il) (hR : GOk g f mr kr ir) (bL : bigB (grownG g d ml kl il) = false) (bR : bigB (grownG g f mr kr ir) = false) :
    morphF (extractG (grownG g d ml kl il) ⟨comA d.nodes f.nodes d.nodes.length, comA d.edges f.edges d.edges.length⟩) (grownG g f mr kr ir) ⟨comB d.nodes f.nodes d.nodes.length, comB d.edges f.edges d.edges.length⟩ = 0 := by
  have hS := conc_sub hL hR.sub bL
  obtain ⟨_, hd1, hd2, hd3⟩ := subF_of hL.sub
  obtain ⟨_, hf1, hf2, hf3⟩ := subF_of hR.sub
  have hfe := subF_edges hR.sub
  have hlL := grown_lens hL
  have hlR := grown_lens hR
  obtain ⟨x1, x2⟩ := extract_len hS
  have key : ∀ v : Int, v ∈ d.nodes → v ∈ f.nodes → iA (comB d.nodes f.nodes d.nodes.length) (posL (comA d.nodes f.nodes d.nodes.length) (posL d.nodes v)) = posL f.nodes v := fun v h1 h2 => by
    have p1 := pos_ok hd1 h1
    have hm : ((posL d.nodes v : Nat) : Int) ∈ comA d.nodes f.nodes d.nodes.length := comA_iff.2 ⟨⟨by omega, by omega⟩, by rw [p1.2.1]; exact h2⟩
    have p2 := pos_ok (comA_asc d.nodes f.nodes) hm
    rw [comB_at (by omega) (by omega), p2.2.1, p1.2.1, (pos_ok hf1 h2).2.2]
  refine morphF_mk (extract_ok hS) (grown_ok hR bR) (by rw [x1]; exact comB_len2 _ _) (by rw [x2]; exact comB_len2 _ _) (fun i h0 hi => ?_) (fun k h0 hk => ?_)
  · rw [x1] at hi
    have hx := comA_iff.1 (iA_mem h0 hi)
    have p := pos_ok hf1 hx.2
    show (0 ≤ iA (comB d.nodes f.nodes d.nodes.length) i ∧ iA (comB d.nodes f.nodes d.nodes.length) i < _) ∧ gN _ (iA (comB d.nodes f.nodes d.nodes.length) i) = _
    rw [comB_at h0 hi, p.2.2]
    refine ⟨⟨by omega, by omega⟩, ?_⟩
    rw [node_lo hR (by omega) (by omega), p.2.1, extract_node hS h0 hi]
    exact (node_lo hL hx.1.1 hx.1.2).symm
  · rw [x2] at hk
    have hx := comA_iff.1 (iA_mem h0 hk)
    have p := pos_ok hfe hx.2
    show (0 ≤ iA (comB d.edges f.edges d.edges.length) k ∧ iA (comB d.edges f.edges d.edges.length) k < _) ∧ _ = (eA _ (iA (comB d.edges f.edges d.edges.length) k)).type ∧ _ = (eA _ (iA (comB d.edges f.edges d.edges.length) k)).from_ ∧ _ = (eA _ (iA (comB d.edges f.edges d.edges.length) k)).to_
    rw [comB_at h0 hk, p.2.2]
    refine ⟨⟨by omega, by omega⟩, ?_⟩
    rw [edge_lo hR (by omega) (by omega), p.2.1, extract_edge hS h0 hk, gEd_eq, gEd_eq]
    show (eA _ (iA (comA d.edges f.edges d.edges.length) k)).type = _ ∧ _ = ((posL f.nodes _ : Nat) : Int) ∧ _ = ((posL f.nodes _ : Nat) : Int)
    rw [edge_lo hL hx.1.1 hx.1.2, gEd_eq]
    have e1 := sub_ends hL.sub (iA_mem hx.1.1 hx.1.2)
    have e2 := sub_ends hR.sub hx.2
    exact ⟨rfl, key _ e1.1 e2.1, key _ e1.2 e2.2⟩
end
end Go.Abs
end
section
set_option maxRecDepth 8000
open Go Go.Proofs
namespace Go.Abs
theorem makeB_of {t : Types} {g : Graph} {ns es : List Int} (h : makeB t g ns es = true) : (∀ i ∈ ns, absB t g i = false) ∧ ∀ k ∈ es, unfitB t g k = false := by
  unfold makeB at h
  rw [Bool.and_eq_true, Bool.not_eq_true', Bool.not_eq_true', List.any_eq_false, List.any_eq_false] at h
  exact ⟨fun i hi => by simpa using h.1 i hi, fun k hk => by simpa using h.2 k hk⟩
theorem makeB_mk {t : Types} {g : Graph} {ns es : List Int} (h1 : ∀ i ∈ ns, absB t g i = false) (h2 : ∀ k ∈ es, unfitB t g k = false) : makeB t g ns es = true := by
  unfold makeB
  rw [Bool.and_eq_true, Bool.not_eq_true', Bool.not_eq_true', List.any_eq_false, List.any_eq_false]
  exact ⟨fun i hi => by rw [h1 i hi]; simp, fun k hk => by rw [h2 k hk]; simp⟩
theorem absB_eq {t : Types} {g g' : Graph} {i j : Int} (h : gN g i = gN g' j) : absB t g i = absB t g' j := by unfold absB; rw [h]
theorem unfitB_eq {t : Types} {g g' : Graph} {i j : Int} (h1 : (eA g i).type = (eA g' j).type) (h2 : gN g (eA g i).from_ = gN g' (eA g' j).from_) (h3 : gN g (eA g i).to_ = gN g' (eA g' j).to_) : unfitB t g i = unfitB t g' j := by
  show (!fitsT t (eA g i).type (gN g (eA g i).from_) (gN g (eA g i).to_)) = !fitsT t (eA g' j).type (gN g' (eA g' j).from_) (gN g' (eA g' j).to_)
  rw [h1, h2, h3]
theorem fresh_cases {d f : List Int} (hd : d.Pairwise (· < ·)) (hf : f.Pairwise (· < ·)) {m : Nat} {i : Int} (hi : i ∈ othersL (comB d f d.length) (f.length + m)) : ((0 ≤ i ∧ i < f.length) ∧ iA f i ∉ d) ∨ ∃ k, k < m ∧ i = ((f.length + k : Nat) : Int) := by
  obtain ⟨hr, hn⟩ := othersL_iff.1 hi
  rcases Int.lt_or_le i f.length with hlt | hge
  · refine .inl ⟨⟨hr.1, hlt⟩, fun hm => hn ?_⟩
    have p := pos_ok hd hm
    have hfm := iA_mem hr.1 hlt
    have q := pos_ok hf hfm
    rw [comB_eq, List.mem_map]
    refine ⟨posL d (iA f i), comA_iff.2 ⟨⟨by omega, by omega⟩, by rw [p.2.1]; exact hfm⟩, ?_⟩
    rw [p.2.1, q.2.2]
    exact iA_inj hf ⟨by omega, by omega⟩ ⟨hr.1, hlt⟩ q.2.1
  · exact .inr ⟨i.toNat - f.length, by omega, by omega⟩
section
variable {t : Types} {a b : Rule} {o : Ovl}
theorem not_dN (h : partsE a b o = 0) {n : Int} (h0 : 0 ≤ n ∧ n < o.graph.nodes.length) (hn : n ∉ (partsD a b o).nodes) : ∃ j, j ∈ a.freshN ∧ iA o.left.nodes j = n := by
  have g := parts_ok h
  obtain ⟨_, _, l1, l2⟩ := morphF_len g.m1
  rw [partsD_eq h] at hn
  have hg : n ∈ goneL o.left.nodes (inP a).nodes := Classical.byContradiction fun hc => hn (othersL_iff.2 ⟨h0, hc⟩)
  obtain ⟨i, hi, hm, he⟩ := goneL_mem.1 hg
  refine ⟨i, othersL_iff.2 ⟨⟨by omega, by omega⟩, fun hc => ?_⟩, by unfold iA; rw [Int.toNat_natCast, he]; rfl⟩
  have hx := (mem_iff (inP a).nodes (i : Int)).2 (inL_iff.2 ⟨⟨by omega, by omega⟩, hc⟩)
  rw [hx] at hm; cases hm
theorem not_dE (h : partsE a b o = 0) {n : Int} (h0 : 0 ≤ n ∧ n < o.graph.edges.length) (hn : n ∉ (partsD a b o).edges) : ∃ j, j ∈ a.freshE ∧ iA o.left.edges j = n := by
  have g := parts_ok h
  obtain ⟨_, _, l1, l2⟩ := morphF_len g.m1
  rw [partsD_eq h] at hn
  have hg : n ∈ goneL o.left.edges (inP a).edges := Classical.byContradiction fun hc => hn (othersL_iff.2 ⟨h0, hc⟩)
  obtain ⟨i, hi, hm, he⟩ := goneL_mem.1 hg
  refine ⟨i, othersL_iff.2 ⟨⟨by omega, by omega⟩, fun hc => ?_⟩, by unfold iA; rw [Int.toNat_natCast, he]; rfl⟩
  have hx := (mem_iff (inP a).edges (i : Int)).2 (inL_iff.2 ⟨⟨by omega, by omega⟩, hc⟩)
  rw [hx] at hm; cases hm
theorem conc_make (ha : Rule.parts t a) (hb : Rule.parts t b) (h : partsE a b o = 0) :
    makeB t (refR a b o (partsD a b o) (partsF a b o)) (othersL (comB (partsD a b o).nodes (partsF a b o).nodes (partsD a b o).nodes.length) (refR a b o (partsD a b o) (partsF a b o)).nodes.length) (othersL (comB (partsD a b o).edges (partsF a b o).edges (partsD a b o).edges.length) (refR a b o (partsD a b o) (partsF a b o)).edges.length) = true := by
  have g := parts_ok h
  have r := rok ha hb h
  have hG := gokR ha hb h
  have hl := grown_lens hG
  obtain ⟨_, hd1, hd2, hd3⟩ := subF_of r.sd
  obtain ⟨_, hf1, hf2, hf3⟩ := subF_of r.sf
  have hde := subF_edges r.sd
  have hfe := subF_edges r.sf
  have ma := makeB_of ha.mkb
  have mb := makeB_of hb.mkb
  obtain ⟨_, hgo, l1, l2⟩ := morphF_len g.m1
  refine makeB_mk (fun i hi => ?_) (fun i hi => ?_)
  · have hi' : i ∈ othersL (comB (partsD a b o).nodes (partsF a b o).nodes (partsD a b o).nodes.length) ((partsF a b o).nodes.length + (othersL (intoP b).nodes b.right.graph.nodes.length).length) := by rw [← hl.1]; exact hi
    rcases fresh_cases hd1 hf1 hi' with ⟨h1, h2⟩ | ⟨k, hk, rfl⟩
    ·obtain ⟨j, hj, he⟩ := not_dN h (hf2 _ (iA_mem h1.1 h1.2)) h2
     have hjr := othersL_mem hj
     have hmn := (morph_node g.m1 hjr.1 hjr.2).2
     rw [← ma.1 j hj]
     refine absB_eq ?_
     rw [← hmn, he]
     exact node_lo hG h1.1 h1.2
    ·rw [← mb.1 _ (iA_mem (l := b.freshN) (n := (k : Int)) (by omega) (by have : k < b.freshN.length := hk; omega))]
     exact absB_eq (node_hi hG hk)
  · have hi' : i ∈ othersL (comB (partsD a b o).edges (partsF a b o).edges (partsD a b o).edges.length) ((partsF a b o).edges.length + (othersL (intoP b).edges b.right.graph.edges.length).length) := by rw [← hl.2]; exact hi
    rcases fresh_cases hde hfe hi' with ⟨h1, h2⟩ | ⟨k, hk, rfl⟩
    ·have hem := iA_mem h1.1 h1.2
     obtain ⟨j, hj, he⟩ := not_dE h (hf3 _ hem) h2
     have hjr := othersL_mem hj
     have hme := morph_edge g.m1 hjr.1 hjr.2
     have hei := edge_in ha.gr hjr.1 hjr.2
     have n1 := (morph_node g.m1 hei.1.1 hei.1.2).2
     have n2 := (morph_node g.m1 hei.2.1.1 hei.2.1.2).2
     rw [he] at hme
     have hE : eA (refR a b o (partsD a b o) (partsF a b o)) i = gEd o.graph (partsF a b o) (iA (partsF a b o).edges i) := edge_lo hG h1.1 h1.2
     have en := sub_ends r.sf hem
     have p1 := pos_ok hf1 en.1
     have p2 := pos_ok hf1 en.2
     rw [← ma.2 j hj]
     refine unfitB_eq ?_ ?_ ?_
     ·rw [hE, gEd_eq]; exact hme.2.1.symm
     ·rw [hE, gEd_eq, ← n1, hme.2.2.1]
      have := node_lo hG (i := ((posL (partsF a b o).nodes (eA o.graph (iA (partsF a b o).edges i)).from_ : Nat) : Int)) (by omega) (by omega)
      rw [p1.2.1] at this
      exact this
     ·rw [hE, gEd_eq, ← n2, hme.2.2.2]
      have := node_lo hG (i := ((posL (partsF a b o).nodes (eA o.graph (iA (partsF a b o).edges i)).to_ : Nat) : Int)) (by omega) (by omega)
      rw [p2.2.1] at this
      exact this
    ·have hm := iA_mem (l := b.freshE) (n := (k : Int)) (by omega) (by have : k < b.freshE.length := hk; omega)
     have hr := othersL_mem hm
     have hei := edge_in hb.gr hr.1 hr.2
     rw [← mb.2 _ hm]
     have hE : eA (refR a b o (partsD a b o) (partsF a b o)) (((partsF a b o).edges.length + k : Nat) : Int) = gluX b.right.graph (GOk.pl o.graph (partsF a b o) b.right.graph (intoP b) (ledL b.keep.nodes o.right.nodes)) (iA b.freshE k).toNat := edge_hi hG hk
     rw [gluX_eq hr.1] at hE
     refine unfitB_eq ?_ ?_ ?_
     ·rw [hE]
     ·rw [hE]; exact (pl_ok hG hei.1.1 hei.1.2).2
     ·rw [hE]; exact (pl_ok hG hei.2.1.1 hei.2.1.2).2
theorem whole_parts (h : wholeE a b o = 0) : partsE a b o = 0 ∧ bigB (refL a b o (partsD a b o) (partsF a b o)) = false ∧ bigB (refR a b o (partsD a b o) (partsF a b o)) = false := by
  unfold wholeE at h
  split at h
  · rename_i q; exact absurd h q
  · rename_i q
    split at h
    ·cases h
    ·rename_i q2
     rw [Bool.not_eq_true, Bool.or_eq_false_iff] at q2
     exact ⟨by omega, q2.1, q2.2⟩
theorem patternF_plain {g : Graph} (hv : (validF t).2 = 0) (hg : graphF g = 0) (ht : typedB t g = true) : patternF t ⟨g, [], 0, []⟩ = 0 := by
  unfold patternF
  rw [if_neg (by rw [hv]; simp), if_neg (by show ¬ graphF g ≠ 0; rw [hg]; simp), if_neg (by show ¬ typedB t g = false; rw [ht]; simp), if_neg (by show ¬ inF 0 0 12 = false; decide), if_neg (by simp), if_neg (by simp [listE]), if_neg (by show ¬ testsF 0 [] ≠ 0; decide), if_neg (by show ¬ mem (usedL (0 : Int).toNat []) false = true; decide)]
theorem conc_rule (h : givenR t a b = 0) (hw : wholeE a b o = 0) : ruleF t (wholeR a b o) = 0 := by
  obtain ⟨ha, hb⟩ := givenR_parts h
  obtain ⟨hp, bL, bR⟩ := whole_parts hw
  have g := parts_ok hp
  have r := rok ha hb hp
  have hGL := gokL ha hb hp
  have hGR := gokR ha hb hp
  have to := over_typed ha hb g
  have hZ : wholeR a b o = concOf (refL a b o (partsD a b o) (partsF a b o)) (refR a b o (partsD a b o) (partsF a b o)) (partsD a b o) (partsF a b o) := by unfold wholeR; rw [if_pos hw]
  have gL : graphF (refL a b o (partsD a b o) (partsF a b o)) = 0 := grown_ok hGL bL
  have gR : graphF (refR a b o (partsD a b o) (partsF a b o)) = 0 := grown_ok hGR bR
  have tL : typedB t (refL a b o (partsD a b o) (partsF a b o)) = true := grown_typed hGL to ha.tl
  have tR : typedB t (refR a b o (partsD a b o) (partsF a b o)) = true := grown_typed hGR to hb.tr
  have hS : subF (refL a b o (partsD a b o) (partsF a b o)) ⟨comA (partsD a b o).nodes (partsF a b o).nodes (partsD a b o).nodes.length, comA (partsD a b o).edges (partsF a b o).edges (partsD a b o).edges.length⟩ = 0 := conc_sub hGL r.sf bL
  have hM : morphF (extractG (refL a b o (partsD a b o) (partsF a b o)) ⟨comA (partsD a b o).nodes (partsF a b o).nodes (partsD a b o).nodes.length, comA (partsD a b o).edges (partsF a b o).edges (partsD a b o).edges.length⟩) (refR a b o (partsD a b o) (partsF a b o)) ⟨comB (partsD a b o).nodes (partsF a b o).nodes (partsD a b o).nodes.length, comB (partsD a b o).edges (partsF a b o).edges (partsD a b o).edges.length⟩ = 0 := conc_morph hGL hGR bL bR
  have hI : injB (extractG (refL a b o (partsD a b o) (partsF a b o)) ⟨comA (partsD a b o).nodes (partsF a b o).nodes (partsD a b o).nodes.length, comA (partsD a b o).edges (partsF a b o).edges (partsD a b o).edges.length⟩) (refR a b o (partsD a b o) (partsF a b o)) ⟨comB (partsD a b o).nodes (partsF a b o).nodes (partsD a b o).nodes.length, comB (partsD a b o).edges (partsF a b o).edges (partsD a b o).edges.length⟩ = true := by
    simp only [injB, Bool.and_eq_true, decide_eq_true_eq]
    exact ⟨hM, comB_nodup (subF_of r.sd).2.1 (subF_of r.sf).2.1, comB_nodup (subF_edges r.sd) (subF_edges r.sf)⟩
  have hK := conc_make ha hb hp
  have hP := patternF_plain ha.v gL tL
  rw [hZ]
  generalize refL a b o (partsD a b o) (partsF a b o) = L at *
  generalize refR a b o (partsD a b o) (partsF a b o) = R at *
  unfold ruleF
  rw [if_neg (by rw [ha.v]; simp), if_neg (by show ¬ isName concName = false; decide), if_neg (by show ¬ patternF t ⟨L, [], 0, []⟩ ≠ 0; rw [hP]; simp), if_neg, if_neg, if_neg]
  · show condF t ⟨L, [], 0, []⟩ trueC = 0
    unfold condF
    rw [if_neg (by rw [hP]; simp), if_neg (by decide)]
    rfl
  · intro hh
    have hh' := hK.symm.trans hh
    cases hh'
  · have hk : keptF (concOf L R (partsD a b o) (partsF a b o)) = 0 := by
     unfold keptF
     rw [if_neg (fun hc => hc hS), if_neg (fun hc => hc hM)]
     refine if_neg fun hc => ?_
     have hc' := hI.symm.trans hc
     cases hc'
    rw [hk]; simp
  · show ¬ rightF t _ ≠ 0
    unfold rightF
    rw [if_neg (by show ¬ graphF R ≠ 0; rw [gR]; simp), if_neg (by show ¬ typedB t R = false; rw [tR]; simp), if_neg (by simp [concOf]), if_neg (by simp [concOf])]
    simp [concOf, firstE]
end
end Go.Abs
end
section
set_option maxRecDepth 60000
set_option maxHeartbeats 2000000
open Go Go.Proofs
namespace Go.Abs
theorem Pure.nz {P : Program} {f : FuncId} {args args' : List D} {r : D} (hp : Pure P f args' r) (ha : args.map nzA = args') : Pure P f args r := by
  subst ha
  refine ⟨hp.1, fun M w vals hM hv => hp.2 M w vals hM ⟨by simpa using hv.len, fun j u d hu hd => ?_⟩⟩
  rw [List.getElem?_map, Option.map_eq_some_iff] at hd
  obtain ⟨y, hy, rfl⟩ := hd
  exact nzA_rep (hv.rep j u y hu hy)
theorem nz_strs (l : List ByteArray) : nzAss (l.map cS) = l.map cS := nzAss_id fun c hc => by
  rw [List.mem_map] at hc; obtain ⟨x, _, rfl⟩ := hc; rfl
theorem nz_attrs (l : List Attr) : nzAss (l.map Attr.c) = l.map Attr.c := nzAss_id fun c hc => by
  rw [List.mem_map] at hc; obtain ⟨x, _, rfl⟩ := hc
  simp [Attr.c, nzAs, nzA, dLS, dI, nz_strs]
theorem nz_nodes (l : List NodeTy) : nzAss (l.map NodeTy.c) = l.map NodeTy.c := nzAss_id fun c hc => by
  rw [List.mem_map] at hc; obtain ⟨x, _, rfl⟩ := hc
  simp [NodeTy.c, nzAs, nzA, dI, nz_attrs]
theorem nz_edgeTys (l : List EdgeTy) : nzAss (l.map EdgeTy.c) = l.map EdgeTy.c := nzAss_id fun c hc => by
  rw [List.mem_map] at hc; obtain ⟨x, _, rfl⟩ := hc
  simp [EdgeTy.c, nzAs, nzA, dI]
def exT : Types := ⟨[⟨⟨#[65, 99, 99, 111, 117, 110, 116]⟩, -1, true, [⟨⟨#[98, 97, 108, 97, 110, 99, 101]⟩, -1000, 1000, []⟩]⟩, ⟨⟨#[67, 97, 115, 104]⟩, 0, false, []⟩, ⟨⟨#[76, 111, 97, 110]⟩, 0, false, [⟨⟨#[115, 116, 97, 116, 101]⟩, 0, 1, [⟨#[111, 112, 101, 110]⟩, ⟨#[99, 108, 111, 115, 101, 100]⟩]⟩]⟩, ⟨⟨#[80, 101, 114, 115, 111, 110]⟩, -1, false, []⟩],
  [⟨⟨#[111, 119, 110, 115]⟩, 3, 0, 0, -1, 1, 1⟩, ⟨⟨#[112, 97, 121, 115]⟩, 1, 1, 0, -1, 0, -1⟩]⟩
theorem ref04_Example : Pure Tryz.prog 22 [] exT.d := by
  refine pureKA (by first | rfl | (simp [go_sem]; done)) (fun Q hQ => (acalls_of_body (cfg := ⟨fun t => t == 0, fun _ => []⟩) Tz.mixed Tryz.func22 rfl rfl (nlb rfl) (by kernel_rfl) ?_))
  try simp -implicitDefEqProofs [go_sem, seval]
  exact hQ _ _ (by simp [go_sem, exT, Types.d, Types.c, NodeTy.c, EdgeTy.c, Attr.c, dLS, cS, dI])
def mkR : Rule := ⟨⟨#[109, 97, 107, 101]⟩, ⟨⟨[], []⟩, [], 0, []⟩, ⟨⟨[3], []⟩, [], 0, []⟩, ⟨[], []⟩, ⟨[], []⟩, true, trueC⟩
def drR : Rule := ⟨⟨#[100, 114, 111, 112]⟩, ⟨⟨[3], []⟩, [], 0, []⟩, ⟨⟨[], []⟩, [], 0, []⟩, ⟨[], []⟩, ⟨[], []⟩, true, trueC⟩
theorem exT_few : fewT exT = true := by decide +kernel
theorem mkR_few : fewR mkR = true := by decide +kernel
theorem drR_few : fewR drR = true := by decide +kernel
def exO (i : Nat) : Ovl := (rOvlL exT mkR drR)[i]?.getD ovl0
theorem ex1 : rOvlE exT mkR drR = 0 := by decide +kernel
theorem ex2 : (rOvlL exT mkR drR).length = 2 := by decide +kernel
theorem ex3 : rErr exT mkR drR (exO 0) = 0 := by decide +kernel
theorem ex4 : rErr exT mkR drR (exO 1) = 0 := by decide +kernel
theorem ex5 : (rRule exT mkR drR (exO 0)).left.graph.nodes.length = 1 := by decide +kernel
theorem ex6 : (rRule exT mkR drR (exO 0)).right.graph.nodes.length = 1 := by decide +kernel
theorem ex7 : (rRule exT mkR drR (exO 0)).keep.nodes.length = 0 := by decide +kernel
theorem ex8 : (rRule exT mkR drR (exO 1)).left.graph.nodes.length = 0 := by decide +kernel
theorem ex9 : (rRule exT mkR drR (exO 1)).right.graph.nodes.length = 0 := by decide +kernel
theorem exO_list : rOvlL exT mkR drR = [exO 0, exO 1] := by
  have h := ex2
  unfold exO
  generalize rOvlL exT mkR drR = l at *
  match l, h with
  | [x, y], _ => rfl
theorem law32_awake : Pure Tryz.prog 6 [] (.bool true) := by
  have ht := fewT_ok exT_few
  have hm := fewR_ok mkR_few
  have hd := fewR_ok drR_few
  have hO := concurrent_Overlaps exT ht mkR drR hm.1 hd.1 hm.2 hd.2
  have hR0 := concurrent_Rule exT ht mkR drR (exO 0) hm.1 hd.1 hm.2 hd.2
  have hR1 := concurrent_Rule exT ht mkR drR (exO 1) hm.1 hd.1 hm.2 hd.2
  rw [exO_list, ex1] at hO
  rw [ex3] at hR0
  rw [ex4] at hR1
  have h5 := ex5
  have h6 := ex6
  have h7 := ex7
  have h8 := ex8
  have h9 := ex9
  generalize exO 0 = x at *
  generalize exO 1 = y at *
  generalize rRule exT mkR drR x = X at *
  generalize rRule exT mkR drR y = Y at *
  refine Tz.pK ⟨fun t => t == 1 || t == 2 || t == 3 || t == 4 || t == 7 || t == 9, fun r => match r with | 8 => [(0, 10), (1, 10), (2, 10), (4, 10), (5, 10), (6, 10)] | 9 => [(0, 10), (1, 10), (2, 10), (4, 10), (5, 10), (6, 10)] | _ => []⟩ Tryz.func6 rfl (fun Q hQ => ?_)
  try simp -implicitDefEqProofs [go_sem, seval, Ovl.c, Rule.c, h5, h6, h7, h8, h9]
  refine callQ_pure0 (ref04_Example) ((by first | rfl | (simp [go_sem, ← List.map_take, ← List.map_drop, Ovl.c, Rule.c, h5, h6, h7, h8, h9]; done))) ?_
  try simp -implicitDefEqProofs [go_sem, seval, Ovl.c, Rule.c, h5, h6, h7, h8, h9]
  refine callQ_pure0 (hO.nz (by simp [go_sem, nz_nodes, nz_edgeTys, mkR, drR, trueC, Rule.d, Types.d, Types.c, dLI, cI, dI, Cond.kind, Cond.kids, Cond.map, Cond.pattern])) ((by first | rfl | (simp [go_sem, ← List.map_take, ← List.map_drop, Ovl.c, Rule.c, h5, h6, h7, h8, h9]; done))) ?_
  try simp -implicitDefEqProofs [go_sem, seval, Ovl.c, Rule.c, h5, h6, h7, h8, h9]
  repeat first | intro _ | refine ⟨obs, ?_⟩
  refine dcallQ_pure0 (hR0.nz (by simp [go_sem, nz_nodes, nz_edgeTys, nz_ints, nz_edges, mkR, drR, trueC, Rule.d, Types.d, Types.c, Ovl.d, Ovl.c, dLI, cI, dI, Cond.kind, Cond.kids, Cond.map, Cond.pattern])) ((by first | rfl | (simp [go_sem, ← List.map_take, ← List.map_drop, Ovl.c, Rule.c, h5, h6, h7, h8, h9]; done))) ?_
  try simp -implicitDefEqProofs [go_sem, seval, Ovl.c, Rule.c, h5, h6, h7, h8, h9]
  repeat first | intro _ | refine ⟨obs, ?_⟩
  refine dcallQ_pure0 (hR1.nz (by simp [go_sem, nz_nodes, nz_edgeTys, nz_ints, nz_edges, mkR, drR, trueC, Rule.d, Types.d, Types.c, Ovl.d, Ovl.c, dLI, cI, dI, Cond.kind, Cond.kids, Cond.map, Cond.pattern])) ((by first | rfl | (simp [go_sem, ← List.map_take, ← List.map_drop, Ovl.c, Rule.c, h5, h6, h7, h8, h9]; done))) ?_
  try simp -implicitDefEqProofs [go_sem, seval, Ovl.c, Rule.c, h5, h6, h7, h8, h9]
  repeat first | intro _ | refine ⟨obs, ?_⟩
  exact hQ _ _ (by simp [go_sem, Ovl.c, Rule.c, h5, h6, h7, h8, h9] <;> first | omega | (rw [bei]; simp <;> omega) | (simp_all <;> omega))
end Go.Abs
end
section
set_option maxRecDepth 60000
set_option maxHeartbeats 2000000
open Go Go.Proofs
namespace Go.Abs
theorem rule_bounded_rOk {t : Types} {a b : Rule} {o : Ovl} (h : givenR t a b = 0) (hp : partsE a b o = 0) : ROk a b o (partsD a b o) (partsF a b o) := by
  obtain ⟨ha, hb⟩ := givenR_parts h
  exact rok ha hb hp
theorem rRule_valid {t : Types} {a b : Rule} {o : Ovl} (h : rErr t a b o = 0) : ruleF t (rRule t a b o) = 0 := by
  unfold rErr at h
  split at h
  · rename_i q; exact absurd h q
  · rename_i q
    unfold rRule; rw [if_neg q]
    exact conc_rule (by omega) h
theorem rRule_bare (t : Types) (a b : Rule) (o : Ovl) : (rRule t a b o).bare := by
  unfold rRule
  split
  · exact ⟨rfl, rfl, rfl, rfl, rfl, rfl, rfl⟩
  · unfold wholeR
    split
    ·exact ⟨rfl, rfl, rfl, rfl, rfl, rfl, rfl⟩
    ·exact ⟨rfl, rfl, rfl, rfl, rfl, rfl, rfl⟩
theorem comA_le (d f : List Int) : (comA d f d.length).length ≤ d.length := comA_len _ _ _
theorem rRule_ok {t : Types} {a b : Rule} {o : Ovl} (h : rErr t a b o = 0) : (rRule t a b o).ok := by
  unfold rErr at h
  split at h
  · rename_i q; exact absurd h q
  · rename_i q
    obtain ⟨ha, hb⟩ := givenR_parts (t := t) (a := a) (b := b) (by omega)
    obtain ⟨hp, bL, bR⟩ := whole_parts h
    have r := rok ha hb hp
    unfold rRule; rw [if_neg q]
    have hZ : wholeR a b o = concOf (refL a b o (partsD a b o) (partsF a b o)) (refR a b o (partsD a b o) (partsF a b o)) (partsD a b o) (partsF a b o) := by unfold wholeR; rw [if_pos h]
    rw [hZ]
    have l1 := comA_le (partsD a b o).nodes (partsF a b o).nodes
    have l2 := comA_le (partsD a b o).edges (partsF a b o).edges
    have l3 := comB_len2 (partsD a b o).nodes (partsF a b o).nodes
    have l4 := comB_len2 (partsD a b o).edges (partsF a b o).edges
    have q1 := r.ld
    have q2 := r.ld'
    refine ⟨by show concName.size ≤ 100000; decide, by show (comA _ _ _).length ≤ _; omega, by show (comA _ _ _).length ≤ _; omega, by show (comB _ _ _).length ≤ _; omega, by show (comB _ _ _).length ≤ _; omega, ?_, ?_⟩
    ·show Cond.ok trueC
     refine ⟨⟨by decide, by decide, by decide, by decide, by decide, by decide⟩, trivial⟩
    ·show Cond.size trueC ≤ 1000000
     decide
theorem law32_ConcurrentRule (t : Types) (hta : ∀ n ∈ t.nodes, n.attrs.length ≤ 1000000000000000) (a b : Rule) (ha : a.le) (hb : b.le) (o : Ovl) (hl : o.left.le) (hr : o.right.le) : Pure Tryz.prog 3 [.agg (t.c ++ a.c ++ b.c), o.d] (.bool true) := by
  refine Tz.pK ⟨fun t => t == 5 || t == 7, fun _ => []⟩ Tryz.func3 rfl (fun Q hQ => ?_)
  try simp -implicitDefEqProofs [go_sem, seval, Types.c, Rule.c, Ovl.d, Ovl.c]
  repeat first | intro _ | refine ⟨obs, ?_⟩
  refine callQ_pure0 (law32_awake) ((by first | rfl | (simp [go_sem, ← List.map_take, ← List.map_drop, Types.c, Rule.c, Ovl.d, Ovl.c]; done))) ?_
  try simp -implicitDefEqProofs [go_sem, seval, Types.c, Rule.c, Ovl.d, Ovl.c]
  repeat first | intro _ | refine ⟨obs, ?_⟩
  refine gcallQ_pure0 (fun hg => law32_slim t hta a b ha hb) (fun hg => (by first | rfl | (simp [go_sem, ← List.map_take, ← List.map_drop, Types.c, Rule.c, Ovl.d, Ovl.c]; done))) ?_
  try simp -implicitDefEqProofs [go_sem, seval, Types.c, Rule.c, Ovl.d, Ovl.c]
  repeat first | intro _ | refine ⟨obs, ?_⟩
  refine gcallQ_pure0 (fun hg => ref32_FewOverlap o hl hr) (fun hg => (by first | rfl | (simp [go_sem, ← List.map_take, ← List.map_drop, Types.c, Rule.c, Ovl.d, Ovl.c]; done))) ?_
  try simp -implicitDefEqProofs [go_sem, seval, Types.c, Rule.c, Ovl.d, Ovl.c]
  repeat first | intro _ | refine ⟨obs, ?_⟩
  refine condQ_mk (fun h1 => ?_) (fun h1 => ?_)
  · try simp [go_sem] at h1
    try simp -implicitDefEqProofs [go_sem, seval, Types.c, Rule.c, Ovl.d, Ovl.c]
    refine callQ_pure0 (law32_awake) ((by first | rfl | (simp [go_sem, ← List.map_take, ← List.map_drop, Types.c, Rule.c, Ovl.d, Ovl.c]; done))) ?_
    try simp -implicitDefEqProofs [go_sem, seval, Types.c, Rule.c, Ovl.d, Ovl.c]
    exact hQ _ _ (by simp [go_sem, Types.c, Rule.c, Ovl.d, Ovl.c, h1] <;> first | omega | (rw [bei]; simp <;> omega) | (simp_all <;> omega))
  · try simp [go_sem] at h1
    have hS : slimB t a = true ∧ slimB t b = true := by simpa using h1.1
    have ht : t.ok := fewT_ok (by have := hS.1; unfold slimB at this; simp only [Bool.and_eq_true] at this; exact this.1.1)
    have fa := fewR_ok (r := a) (by have := hS.1; unfold slimB at this; simp only [Bool.and_eq_true] at this; exact this.1.2)
    have fb := fewR_ok (r := b) (by have := hS.2; unfold slimB at this; simp only [Bool.and_eq_true] at this; exact this.1.2)
    try simp -implicitDefEqProofs [go_sem, seval, Types.c, Rule.c, Ovl.d, Ovl.c]
    refine callQ_pure0 (concurrent_Rule t ht a b o fa.1 fb.1 fa.2 fb.2) ((by first | rfl | (simp [go_sem, ← List.map_take, ← List.map_drop, Types.c, Rule.c, Ovl.d, Ovl.c]; done))) ?_
    try simp -implicitDefEqProofs [go_sem, seval, Types.c, Rule.c, Ovl.d, Ovl.c]
    refine callQ_pure0 (ref32_Rule t ht a b o fa.1 fb.1 fa.2 fb.2 (fun h hp => rule_bounded_rOk h hp)) ((by first | rfl | (simp [go_sem, ← List.map_take, ← List.map_drop, Types.c, Rule.c, Ovl.d, Ovl.c]; done))) ?_
    try simp -implicitDefEqProofs [go_sem, seval, Types.c, Rule.c, Ovl.d, Ovl.c]
    repeat first | intro _ | refine ⟨obs, ?_⟩
    refine gcallQ_pure0 (fun hg => ref24_Same1 (rRule t a b o) (rRule_bare t a b o)) (fun hg => (by first | rfl | (simp [go_sem, ← List.map_take, ← List.map_drop, Types.c, Rule.c, Ovl.d, Ovl.c]; done))) ?_
    try simp -implicitDefEqProofs [go_sem, seval, Types.c, Rule.c, Ovl.d, Ovl.c]
    repeat first | intro _ | refine ⟨obs, ?_⟩
    refine gcallQ_pure0 (fun hg => (by have := rule_Valid t ht (rRule t a b o) (rRule_ok (t := t) (a := a) (b := b) (o := o) (by simpa using hg)); rwa [rRule_valid (t := t) (a := a) (b := b) (o := o) (by simpa using hg)] at this)) (fun hg => (by first | rfl | (simp [go_sem, ← List.map_take, ← List.map_drop, Types.c, Rule.c, Ovl.d, Ovl.c]; done))) ?_
    try simp -implicitDefEqProofs [go_sem, seval, Types.c, Rule.c, Ovl.d, Ovl.c]
    repeat first | intro _ | refine ⟨obs, ?_⟩
    exact hQ _ _ (by simp [go_sem, Types.c, Rule.c, Ovl.d, Ovl.c, h1] <;> first | omega | (rw [bei]; simp <;> omega) | (simp_all <;> omega))
end Go.Abs
end
section
namespace Go.Abs
open Go.ChangeShapes Go.WideShapes Go.RowKit
structure Bulk {H : Type} (bulk : DataW H → Nat) : Prop where
  len : ∀ e s, e.length ≤ bulk (.slice e s)
  el : ∀ e s, ∀ d ∈ e, bulk d ≤ bulk (.slice e s)
  part : ∀ l, ∀ d ∈ l, bulk d ≤ bulk (.agg l)
  str : ∀ s : List UInt8, s.length ≤ bulk (.lit (.string s))
abbrev noM : Nat → Prop := fun _ => False
section
variable {H : Type} {enc : TypeId × Value → H} {P : Program} {w : World} {base : Nat} {spare : Nat → Bool} {held : Bool} {bulk : DataW H → Nat} {B : Nat}
def Opens (enc : TypeId × Value → H) (P : Program) (w : World) (base : Nat) (spare : Nat → Bool) (held : Bool) (bulk : DataW H → Nat) (B : Nat) (n : Nat) (t : TypeId) {α : Type} (C : α → List D) (G : α → Prop) : Prop :=
  ∀ (fuel : Nat) (cs : List Value) (x : DataW H × List MemPlace), fuel ≤ n → DataW.trod enc P w base spare held fuel t cs = some x → bulk x.1 ≤ B →
    ∃ a, G a ∧ RepL noM noRef noId w cs (C a) ∧ ∀ u ∈ cs, u.oneCell' = true
variable {n : Nat} {t : TypeId}
theorem Opens.mono {α : Type} {C : α → List D} {G : α → Prop} {m : Nat} (h : Opens enc P w base spare held bulk B n t C G) (hm : m ≤ n) : Opens enc P w base spare held bulk B m t C G :=
  fun fuel cs x hf hx hb => h fuel cs x (Nat.le_trans hf hm) hx hb
theorem Opens.zero {α : Type} {C : α → List D} {G : α → Prop} : Opens enc P w base spare held bulk B 0 t C G := fun fuel cs x hf hx _ => by
  have : fuel = 0 := by omega
  subst this
  simp [DataW.trod] at hx
theorem Opens.map {α β : Type} {C : α → List D} {G : α → Prop} {C' : β → List D} {G' : β → Prop} (h : Opens enc P w base spare held bulk B n t C G) (f : α → β) (hC : ∀ a, C a = C' (f a)) (hG : ∀ a, G a → G' (f a)) : Opens enc P w base spare held bulk B n t C' G' :=
  fun fuel cs x hf hx hb => by
    obtain ⟨a, h1, h2, h3⟩ := h fuel cs x hf hx hb
    exact ⟨f a, hG a h1, by rw [← hC]; exact h2, h3⟩
theorem repL_one {v : Value} {d : D} (h : RepV noM noRef noId w v d) : RepL noM noRef noId w [v] [d] :=
  ⟨rfl, fun j u x hu hx => by
    cases j with
    | zero => simp at hu hx; subst hu; subst hx; exact h
    | succ j => simp at hu⟩
theorem repL_app {a b : List Value} {c d : List D} (h : RepL noM noRef noId w a c) (k : RepL noM noRef noId w b d) : RepL noM noRef noId w (a ++ b) (c ++ d) := by
  refine ⟨by simp [h.len, k.len], fun j u x hu hx => ?_⟩
  by_cases hj : j < a.length
  · rw [List.getElem?_append_left hj] at hu
    rw [List.getElem?_append_left (by rw [← h.len]; exact hj)] at hx
    exact h.rep j u x hu hx
  · rw [List.getElem?_append_right (by omega)] at hu
    rw [List.getElem?_append_right (by rw [← h.len]; omega), ← h.len] at hx
    exact k.rep _ u x hu hx
theorem opens_bool (ht : P.underlying t = some .bool) : Opens enc P w base spare held bulk B n t (fun b : Bool => [D.bool b]) (fun _ => True) := fun fuel cs x _ hx _ => by
  obtain ⟨b, rfl, _⟩ := DataW.trod_bool ht hx
  exact ⟨b, trivial, repL_one (.bool b), by simp [Value.oneCell']⟩
theorem opens_int {k : IntKind} (ht : P.underlying t = some (.int k)) : Opens enc P w base spare held bulk B n t (fun z : Int => [D.int k z]) (fun z => (Lit.int k z).wf = true) := fun fuel cs x _ hx _ => by
  obtain ⟨z, rfl, _, hw⟩ := DataW.trod_int ht hx
  exact ⟨z, hw, repL_one (.int k z), by simp [Value.oneCell']⟩
theorem opens_string (hB : Bulk bulk) (ht : P.underlying t = some .string) : Opens enc P w base spare held bulk B n t (fun s : ByteArray => [D.str s]) (fun s => s.size ≤ B) := fun fuel cs x _ hx hb => by
  obtain ⟨s, rfl, rfl, hs⟩ := DataW.trod_string ht hx
  refine ⟨s, ?_, repL_one (.str s), by simp [Value.oneCell']⟩
  have := hB.str s.data.toList
  have hl : s.data.toList.length = s.size := by rw [Array.length_toList]; rfl
  simp only at hb
  omega
theorem rows {α : Type} {C : α → List D} {G : α → Prop} {ad : Addr} {sz : Nat} : ∀ (len : Nat),
    (∀ i, i < len → ∃ c a, w.cells? base (ad.add (i * sz)) sz = some c ∧ G a ∧ RepL noM noRef noId w c (C a) ∧ ∀ u ∈ c, u.oneCell' = true) →
    ∃ (l : List α) (xs : List Value), l.length = len ∧ (∀ a ∈ l, G a) ∧ RepL noM noRef noId w xs (l.map C).flatten ∧ (∀ u ∈ xs, u.oneCell' = true) ∧ xs.length = len * sz ∧
      (∀ (j : Nat) (u : Value), xs[j]? = some u → w.cell? (ad.add j) = some u) ∧ ∀ c ∈ l.map C, c.length = sz
  | 0, _ => ⟨[], [], rfl, by simp, ⟨rfl, fun j u d hu => by simp at hu⟩, by simp, by simp, by simp, by simp⟩
  | len + 1, h => by
    obtain ⟨l, xs, h1, h2, h3, h4, h5, h6, h7⟩ := rows len fun i hi => h i (by omega)
    obtain ⟨c, a, hc, hg, hr, h1c⟩ := h len (by omega)
    obtain ⟨_, hcl, hcell⟩ := World.cells?_some hc
    refine ⟨l ++ [a], xs ++ c, by simp [h1], fun b hb => ?_, ?_, fun u hu => ?_, by rw [List.length_append, h5, hcl, Nat.succ_mul], fun j u hu => ?_, fun b hb => ?_⟩
    · rcases List.mem_append.1 hb with h | h
      · exact h2 b h
      · simp at h; subst h; exact hg
    · rw [List.map_append, List.flatten_append]
      refine repL_app h3 ?_
      simpa using hr
    · rcases List.mem_append.1 hu with h | h
      · exact h4 u h
      · exact h1c u h
    · by_cases hj : j < xs.length
      · rw [List.getElem?_append_left hj] at hu; exact h6 j u hu
      · rw [List.getElem?_append_right (by omega)] at hu
        have hlt : j - xs.length < sz := by rw [← hcl]; exact (List.getElem?_eq_some_iff.1 hu).1
        have := hcell (j - xs.length) hlt
        rw [Addr.add_add, hu] at this
        rwa [show len * sz + (j - xs.length) = j by omega] at this
    · rw [List.map_append] at hb
      rcases List.mem_append.1 hb with h | h
      · exact h7 b h
      · simp at h; subst h; rw [← hr.len, hcl]
theorem opens_slice (hB : Bulk bulk) {e : TypeId} (ht : P.underlying t = some (.slice e)) {α : Type} {C : α → List D} {G : α → Prop} (h : Opens enc P w base spare held bulk B n e C G) :
    Opens enc P w base spare held bulk B (n + 1) t (fun l : List α => [.list (l.map C)]) (fun l => l.length ≤ B ∧ ∀ a ∈ l, G a) := fun fuel cs x hf hx hb => by
  rcases DataW.trod_slice ht hx with ⟨rfl, rfl⟩ | ⟨ad, len, cap, elems, rest, m, rfl, rfl, rfl, hbase, hlc, hcap, hlen, hel, _, _⟩
  · exact ⟨[], ⟨Nat.zero_le _, by simp⟩, repL_one .listN, by simp [Value.oneCell']⟩
  · simp only at hb
    have hb1 := hB.len (elems.map (·.1)) (rest.map (·.1))
    rw [List.length_map] at hb1
    obtain ⟨l, xs, h1, h2, h3, h4, h5, h6, h7⟩ := rows (w := w) (base := base) (C := C) (G := G) (ad := ad) (sz := P.cellsOf e) len fun i hi => by
      have := hel i hi
      rw [lge (by omega), Option.bind_eq_some_iff] at this
      obtain ⟨c, hc, hd⟩ := this
      obtain ⟨a, g1, g2, g3⟩ := h m c _ (by omega) hd (Nat.le_trans (hB.el _ (rest.map (·.1)) _ (List.mem_map.2 ⟨_, lgm (by omega), rfl⟩)) hb)
      exact ⟨c, a, hc, g1, g2, g3⟩
    refine ⟨l, ⟨by omega, h2⟩, repL_one ?_, by simp [Value.oneCell']⟩
    have key := RepV.list (M := noM) (σ := noRef) (N := noId) (w := w) ad cap (P.cellsOf e) xs (l.map C) (by rw [List.length_map]; omega) hcap h7 h3.len h4 (fun j u hu => ⟨fun h => h, h6 j u hu⟩) h3.rep
    rw [List.length_map, h1] at key
    exact key
def Segs (enc : TypeId × Value → H) (P : Program) (w : World) (base : Nat) (spare : Nat → Bool) (held : Bool) (bulk : DataW H → Nat) (B n : Nat) : List TypeId → List Value → Prop
  | [], cs => cs = []
  | t :: ts, cs => (∃ y, DataW.trod enc P w base spare held n t (cs.take (P.cellsOf t)) = some y ∧ bulk y.1 ≤ B) ∧ Segs enc P w base spare held bulk B n ts (cs.drop (P.cellsOf t))
def OpensL (enc : TypeId × Value → H) (P : Program) (w : World) (base : Nat) (spare : Nat → Bool) (held : Bool) (bulk : DataW H → Nat) (B : Nat) (n : Nat) (ts : List TypeId) {α : Type} (C : α → List D) (G : α → Prop) : Prop :=
  ∀ (fuel : Nat) (cs : List Value), fuel ≤ n → Segs enc P w base spare held bulk B fuel ts cs → ∃ a, G a ∧ RepL noM noRef noId w cs (C a) ∧ ∀ u ∈ cs, u.oneCell' = true
theorem opensL_nil : OpensL enc P w base spare held bulk B n [] (fun _ : Unit => []) (fun _ => True) := fun fuel cs _ h => by
  have h : cs = [] := h
  subst h
  exact ⟨(), trivial, ⟨rfl, fun j u d hu => by simp at hu⟩, by simp⟩
theorem opensL_cons {ts : List TypeId} {α β : Type} {C : α → List D} {G : α → Prop} {C' : β → List D} {G' : β → Prop} (h : Opens enc P w base spare held bulk B n t C G) (k : OpensL enc P w base spare held bulk B n ts C' G') :
    OpensL enc P w base spare held bulk B n (t :: ts) (fun p : α × β => C p.1 ++ C' p.2) (fun p => G p.1 ∧ G' p.2) := fun fuel cs hf hs => by
  obtain ⟨⟨y, hy, hyb⟩, hs⟩ := hs
  obtain ⟨a, a1, a2, a3⟩ := h fuel _ y hf hy hyb
  obtain ⟨b, b1, b2, b3⟩ := k fuel _ hf hs
  refine ⟨(a, b), ⟨a1, b1⟩, ?_, fun u hu => ?_⟩
  · have := repL_app a2 b2
    rwa [List.take_append_drop] at this
  · rw [← List.take_append_drop (P.cellsOf t) cs] at hu
    rcases List.mem_append.1 hu with h | h
    · exact a3 u h
    · exact b3 u h
def offs (P : Program) : Nat → List Field → Option Nat
  | o, [] => some o
  | o, f :: r => if f.offset = o then offs P (o + P.cellsOf f.type) r else none
theorem segs_of {fuel : Nat} {cs : List Value} : ∀ (fs : List Field) (o : Nat), offs P o fs = some cs.length →
    (∀ f ∈ fs, ∃ y, DataW.trod enc P w base spare held fuel f.type ((cs.drop f.offset).take (P.cellsOf f.type)) = some y ∧ bulk y.1 ≤ B) → o ≤ cs.length ∧ Segs enc P w base spare held bulk B fuel (fs.map (·.type)) (cs.drop o)
  | [], o, ho, _ => by
    simp only [offs, Option.some.injEq] at ho
    subst ho
    exact ⟨Nat.le_refl _, by show cs.drop cs.length = []; simp⟩
  | f :: fs, o, ho, h => by
    unfold offs at ho
    split at ho
    · rename_i hof
      subst hof
      obtain ⟨h1, h2⟩ := segs_of fs _ ho fun g hg => h g (by simp [hg])
      refine ⟨by omega, ?_⟩
      refine ⟨h f (by simp), ?_⟩
      rw [List.drop_drop]
      exact h2
    · cases ho
theorem opens_struct (hB : Bulk bulk) {fs : Array Field} (ht : P.underlying t = some (.struct fs)) (ho : offs P 0 fs.toList = some (P.cellsOf t)) {α : Type} {C : α → List D} {G : α → Prop} (h : OpensL enc P w base spare held bulk B n (fs.toList.map (·.type)) C G) :
    Opens enc P w base spare held bulk B (n + 1) t C G := fun fuel cs x hf hx hb => by
  obtain ⟨xs, m, rfl, rfl, hcl, hxl, hfl⟩ := DataW.trod_struct ht hx
  simp only at hb
  have hs := (segs_of (enc := enc) (P := P) (w := w) (base := base) (spare := spare) (held := held) (bulk := bulk) (B := B) (fuel := m) (cs := cs) fs.toList 0 (by rw [hcl]; exact ho) fun f hfm => by
    obtain ⟨i, hi, rfl⟩ := List.getElem_of_mem hfm
    have hi' : i < fs.size := by simpa using hi
    have hfi := hfl i (fs.toList[i]) (by simp [hi'])
    rw [lge (by omega)] at hfi
    exact ⟨_, hfi, Nat.le_trans (hB.part _ _ (List.mem_map.2 ⟨_, lgm (by omega), rfl⟩)) hb⟩).2
  rw [List.drop_zero] at hs
  exact h m cs (by omega) hs
theorem arg_struct {r : Reach} {b0 : Nat} {fs : Array Field} {v : Value} {d : DataW H} {ps : List MemPlace} {α : Type} {C : α → List D} {G : α → Prop} (ht : P.underlying t = some (.struct fs)) (h : ∀ n, Opens enc P w base spare held bulk B n t C G)
    (hval : Value.okWide P w r b0 t v) (hd : DataW.Trod enc P w base spare held t v d ps) (hb : bulk d ≤ B) : ∃ a, G a ∧ RepV noM noRef noId w v (.agg (C a)) := by
  obtain ⟨cs, rfl, _⟩ := okWide_struct ht hval
  obtain ⟨fuel, hf⟩ := hd
  obtain ⟨a, h1, h2, h3⟩ := h fuel fuel _ _ (Nat.le_refl _) hf hb
  have hc : (Value.agg cs).cells.toList = cs.toList := rfl
  rw [hc] at h2 h3
  have := RepV.agg (M := noM) (σ := noRef) (N := noId) (w := w) cs.toList (C a) h2.len h3 h2.rep
  exact ⟨a, h1, by simpa using this⟩
theorem trodAll_stays (hl : laidOutB P = true) {W W' : World} {sp' : Nat → Bool} (hb : Below W.heap.size W W') : ∀ {ts : List TypeId} {vs : List Value} {ds : List (DataW H)} {ps : List MemPlace}, (∀ t ∈ ts, P.readableRec t = true ∧ t < P.types.size) →
    DataW.TrodAll enc P W 0 (fun _ => true) true ts vs ds ps → (∀ x ∈ ps, x.block < W.heap.size) → (∀ x ∈ ps, sp' x.block = true) → DataW.TrodAll enc P W' 0 sp' true ts vs ds ps
  | [], _, _, _, _, h, _, _ => by
    obtain ⟨rfl, rfl, rfl⟩ := trodAll_nil h
    rfl
  | t :: ts, _, _, _, hr, h, hlt, hs => by
    obtain ⟨v, vs, d, ds, p, q, rfl, rfl, rfl, h1, h2⟩ := trodAll_cons h
    refine ⟨p, q, WideElems.Trod_stays hl (hr t (by simp)).1 (hr t (by simp)).2 h1 (fun x hx => hb.same (hlt x (by simp [hx]))) (fun x hx => hs x (by simp [hx])), trodAll_stays hl hb (fun u hu => hr u (by simp [hu])) h2 (fun x hx => hlt x (by simp [hx])) (fun x hx => hs x (by simp [hx])), rfl⟩
theorem post_of_below (hl : laidOutB P = true) {f : Func} {s : ChangeSpec} {apart fresh handsOn again : Bool} {W W' : World} {args : Array Value} {v : Value} {ds gs : List (DataW H)} {before : List MemPlace}
    (hr : ∀ t ∈ f.params.toList, P.readableRec t = true ∧ t < P.types.size) (hvars : s.vars = []) (hW : DataW.Whole enc P f.params.toList s.vars apart W args.toList ds gs before)
    (hres : ∀ (b : Nat) (sp : Nat → Bool) (hd : Bool), DataW.TrodAll enc P W' b sp hd f.resultTypes.toList (v.resultList f.resultTypes.size) (s.fn H (ds ++ gs)).results [])
    (hargs : (s.fn H (ds ++ gs)).args = ds) (hvs : (s.fn H (ds ++ gs)).vars = []) (hb : Below W.heap.size W W')
    (hok : ∀ (j : Nat) (t : TypeId) (r : Value), f.resultTypes[j]? = some t → (v.resultList f.resultTypes.size)[j]? = some r → Value.okWide P W' .any 0 t r) :
    s.post enc P f apart fresh handsOn again W args v W' := by
  have hW' := hW
  obtain ⟨p, q, hA, hV, rfl, hz, hn⟩ := hW
  rw [hvars] at hV
  obtain ⟨rfl, rfl⟩ := trodVars_none hV
  rw [List.append_nil] at hW' hz hn
  have hlt : ∀ x ∈ p, x.block < W.heap.size := fun x hx => by simpa using hW'.lt x hx
  have hTr : ∀ sp : Nat → Bool, (∀ x ∈ p, sp x.block = true) → DataW.TrodAll enc P W' 0 sp true f.params.toList args.toList (s.fn H (ds ++ [])).args p := fun sp hs => by
    rw [hargs]; exact trodAll_stays hl hb hr hA hlt hs
  have hVr : ∀ sp : Nat → Bool, DataW.TrodVars enc P W' sp s.vars (s.fn H (ds ++ [])).vars [] := fun sp => by rw [hvars, hvs]; rfl
  refine ⟨ds, [], p, [], p, [], hW', hres _ _ _, hTr _ (fun x hx => by simpa using hlt x hx), hVr _, World.keptBut_mono (fun x hx => ⟨hx, .inr (by simpa using hx)⟩) (hb.frame (· ∈ p)), fun _ => ?_⟩
  refine ⟨hok, _, _, ([] ++ p) ++ [], ⟨[] ++ p, [], trodAll_append (hTr _ (fun _ _ => rfl)) (hres _ _ _), hVr _, rfl, ?_, ?_⟩, ?_⟩
  · intro b off hp
    have hp' : MemPlace.cell b off ∈ p := by simpa using hp
    have := hz b off hp'
    rw [← this]
    exact hb.frozen (hlt _ hp')
  · intro ha
    simpa using hn ha
  · intro x hx _
    simpa using hx
end
end Go.Abs
end
section
namespace Go.Proofs.YthnegcfdjjhfgaaGreat.bulks
theorem one_le {H : Type} (d : DataW H) : 1 ≤ Rows.uptoBulk d := by
  cases d with
  | lit l => cases l <;> simp [Rows.uptoBulk]
  | _ => simp [Rows.uptoBulk]
theorem mem_le {H : Type} {d : DataW H} : ∀ {l : List (DataW H)}, d ∈ l → Rows.uptoBulk d ≤ Rows.uptoBulkAll l
  | [], h => by cases h
  | x :: r, h => by
    simp only [Rows.uptoBulkAll]
    rcases List.mem_cons.1 h with rfl | h
    · omega
    · have := mem_le h; omega
theorem len_le {H : Type} : ∀ l : List (DataW H), l.length ≤ Rows.uptoBulkAll l
  | [] => by simp [Rows.uptoBulkAll]
  | x :: r => by have := one_le x; have := len_le r; simp only [Rows.uptoBulkAll, List.length_cons]; omega
theorem ok {H : Type} : Go.Abs.Bulk (Rows.uptoBulk (H := H)) where
  len e s := by have := len_le e; simp only [Rows.uptoBulk]; omega
  el e s d h := by have := mem_le h; simp only [Rows.uptoBulk]; omega
  part l d h := by have := mem_le h; simp only [Rows.uptoBulk]; omega
  str s := by simp [Rows.uptoBulk]
theorem bound {H : Type} {l : List (DataW H)} (hk : Rows.uptoSmall H l = true) : ∀ d ∈ l, Rows.uptoBulk d ≤ 1048576 := fun d hd => by
  have h := of_decide_eq_true hk
  have := mem_le hd
  omega
end Go.Proofs.YthnegcfdjjhfgaaGreat.bulks
end
section
open Go Go.Proofs
namespace Go.Abs
mutual
def Cond.bnd (B : Nat) : Cond → Prop
  | .mk k l m p => (m.nodes.length ≤ B ∧ m.edges.length ≤ B) ∧ Cond.bnds B l
def Cond.bnds (B : Nat) : List Cond → Prop
  | [] => True
  | c :: l => c.bnd B ∧ Cond.bnds B l
end
theorem Cond.bnds_iff (B : Nat) (l : List Cond) : Cond.bnds B l ↔ ∀ c ∈ l, c.bnd B := by
  induction l with
  | nil => simp [Cond.bnds]
  | cons a l ih => simp [Cond.bnds, ih]
theorem Cond.bnd_iff (B : Nat) (c : Cond) : c.bnd B ↔ (c.map.nodes.length ≤ B ∧ c.map.edges.length ≤ B) ∧ ∀ k ∈ c.kids, k.bnd B := by cases c; simp [Cond.bnd, Cond.bnds_iff, Cond.kids, Cond.map]
theorem Cond.bnd_le {B : Nat} (hB : B ≤ 1000000000000000) : ∀ c : Cond, c.bnd B → c.le := by
  refine Cond.ind fun c ih h => ?_
  obtain ⟨h1, h2⟩ := (Cond.bnd_iff B c).1 h
  exact (Cond.le_iff c).2 ⟨⟨by omega, by omega⟩, fun k hk => ih k hk (h2 k hk)⟩
def Rule.bnd (B : Nat) (x : Rule) : Prop := (x.keep.nodes.length ≤ B ∧ x.keep.edges.length ≤ B) ∧ (x.into.nodes.length ≤ B ∧ x.into.edges.length ≤ B) ∧ x.cond.bnd B
theorem Rule.bnd_le {B : Nat} (hB : B ≤ 1000000000000000) {r : Rule} (h : r.bnd B) : r.le := by
  obtain ⟨⟨h1, h2⟩, ⟨h3, h4⟩, h5⟩ := h
  exact ⟨⟨by omega, by omega⟩, ⟨by omega, by omega⟩, Cond.bnd_le hB _ h5⟩
structure CaseC where
  t : Types
  a : Rule
  b : Rule
def CaseC.c (x : CaseC) : List D := x.t.c ++ x.a.c ++ x.b.c
section
variable {H : Type} {enc : TypeId × Value → H} {w : World} {base : Nat} {spare : Nat → Bool} {held : Bool} {bulk : DataW H → Nat} {B : Nat}
theorem op9 (hB : Bulk bulk) : ∀ n, Opens enc Tryz.prog w base spare held bulk B n 9 cS (fun _ => True) := fun n => (opens_string hB Tryz.underlying9).map id (fun _ => rfl) (fun _ _ => trivial)
theorem op3 : ∀ n, Opens enc Tryz.prog w base spare held bulk B n 3 cI (fun _ => True) := fun n => (opens_int Tryz.underlying3).map id (fun _ => rfl) (fun _ _ => trivial)
theorem op4 : ∀ n, Opens enc Tryz.prog w base spare held bulk B n 4 (fun b : Bool => [D.bool b]) (fun _ => True) := fun n => opens_bool Tryz.underlying4
theorem op126 (hB : Bulk bulk) : ∀ n, Opens enc Tryz.prog w base spare held bulk B n 126 (fun l : List ByteArray => [D.list (l.map cS)]) (fun l => l.length ≤ B ∧ ∀ a ∈ l, (fun _ => True) a)
  | 0 => Opens.zero
  | n + 1 => opens_slice hB Tryz.underlying126 (op9 hB n)
theorem op128 (hB : Bulk bulk) : ∀ n, Opens enc Tryz.prog w base spare held bulk B n 128 Attr.c (fun _ => True)
  | 0 => Opens.zero
  | n + 1 => (opens_struct hB Tryz.underlying128 (by kernel_rfl) (opensL_cons (op9 hB n) (opensL_cons (op3 n) (opensL_cons (op3 n) (opensL_cons (op126 hB n) opensL_nil))))).map (fun p => ⟨p.1, p.2.1, p.2.2.1, p.2.2.2.1⟩) (fun p => rfl) (fun p h => trivial)
theorem op129 (hB : Bulk bulk) : ∀ n, Opens enc Tryz.prog w base spare held bulk B n 129 (fun l : List Attr => [D.list (l.map Attr.c)]) (fun l => l.length ≤ B ∧ ∀ a ∈ l, (fun _ => True) a)
  | 0 => Opens.zero
  | n + 1 => opens_slice hB Tryz.underlying129 (op128 hB n)
theorem op131 (hB : Bulk bulk) : ∀ n, Opens enc Tryz.prog w base spare held bulk B n 131 NodeTy.c (fun x => x.attrs.length ≤ B)
  | 0 => Opens.zero
  | n + 1 => (opens_struct hB Tryz.underlying131 (by kernel_rfl) (opensL_cons (op9 hB n) (opensL_cons (op3 n) (opensL_cons (op4 n) (opensL_cons (op129 hB n) opensL_nil))))).map (fun p => ⟨p.1, p.2.1, p.2.2.1, p.2.2.2.1⟩) (fun p => rfl) (fun p h => h.2.2.2.1.1)
theorem op22 (hB : Bulk bulk) : ∀ n, Opens enc Tryz.prog w base spare held bulk B n 22 (fun l : List NodeTy => [D.list (l.map NodeTy.c)]) (fun l => l.length ≤ B ∧ ∀ a ∈ l, (fun x => x.attrs.length ≤ B) a)
  | 0 => Opens.zero
  | n + 1 => opens_slice hB Tryz.underlying22 (op131 hB n)
theorem op133 (hB : Bulk bulk) : ∀ n, Opens enc Tryz.prog w base spare held bulk B n 133 EdgeTy.c (fun _ => True)
  | 0 => Opens.zero
  | n + 1 => (opens_struct hB Tryz.underlying133 (by kernel_rfl) (opensL_cons (op9 hB n) (opensL_cons (op3 n) (opensL_cons (op3 n) (opensL_cons (op3 n) (opensL_cons (op3 n) (opensL_cons (op3 n) (opensL_cons (op3 n) opensL_nil)))))))).map (fun p => ⟨p.1, p.2.1, p.2.2.1, p.2.2.2.1, p.2.2.2.2.1, p.2.2.2.2.2.1, p.2.2.2.2.2.2.1⟩) (fun p => rfl) (fun p h => trivial)
theorem op23 (hB : Bulk bulk) : ∀ n, Opens enc Tryz.prog w base spare held bulk B n 23 (fun l : List EdgeTy => [D.list (l.map EdgeTy.c)]) (fun l => l.length ≤ B ∧ ∀ a ∈ l, (fun _ => True) a)
  | 0 => Opens.zero
  | n + 1 => opens_slice hB Tryz.underlying23 (op133 hB n)
theorem op25 (hB : Bulk bulk) : ∀ n, Opens enc Tryz.prog w base spare held bulk B n 25 Types.c (fun x => x.nodes.length ≤ B ∧ x.edges.length ≤ B ∧ ∀ n ∈ x.nodes, n.attrs.length ≤ B)
  | 0 => Opens.zero
  | n + 1 => (opens_struct hB Tryz.underlying25 (by kernel_rfl) (opensL_cons (op22 hB n) (opensL_cons (op23 hB n) opensL_nil))).map (fun p => ⟨p.1, p.2.1⟩) (fun p => rfl) (fun p h => ⟨h.1.1, h.2.1.1, h.1.2⟩)
theorem op26 (hB : Bulk bulk) : ∀ n, Opens enc Tryz.prog w base spare held bulk B n 26 (fun l : List Int => [D.list (l.map cI)]) (fun l => l.length ≤ B ∧ ∀ a ∈ l, (fun _ => True) a)
  | 0 => Opens.zero
  | n + 1 => opens_slice hB Tryz.underlying26 (op3 n)
theorem op124 (hB : Bulk bulk) : ∀ n, Opens enc Tryz.prog w base spare held bulk B n 124 Edge.c (fun _ => True)
  | 0 => Opens.zero
  | n + 1 => (opens_struct hB Tryz.underlying124 (by kernel_rfl) (opensL_cons (op3 n) (opensL_cons (op3 n) (opensL_cons (op3 n) opensL_nil)))).map (fun p => ⟨p.1, p.2.1, p.2.2.1⟩) (fun p => rfl) (fun p h => trivial)
theorem op27 (hB : Bulk bulk) : ∀ n, Opens enc Tryz.prog w base spare held bulk B n 27 (fun l : List Edge => [D.list (l.map Edge.c)]) (fun l => l.length ≤ B ∧ ∀ a ∈ l, (fun _ => True) a)
  | 0 => Opens.zero
  | n + 1 => opens_slice hB Tryz.underlying27 (op124 hB n)
theorem op29 (hB : Bulk bulk) : ∀ n, Opens enc Tryz.prog w base spare held bulk B n 29 Graph.c (fun x => x.nodes.length ≤ B ∧ x.edges.length ≤ B)
  | 0 => Opens.zero
  | n + 1 => (opens_struct hB Tryz.underlying29 (by kernel_rfl) (opensL_cons (op26 hB n) (opensL_cons (op27 hB n) opensL_nil))).map (fun p => ⟨p.1, p.2.1⟩) (fun p => rfl) (fun p h => ⟨h.1.1, h.2.1.1⟩)
theorem op148 (hB : Bulk bulk) : ∀ n, Opens enc Tryz.prog w base spare held bulk B n 148 Term.c (fun _ => True)
  | 0 => Opens.zero
  | n + 1 => (opens_struct hB Tryz.underlying148 (by kernel_rfl) (opensL_cons (op3 n) (opensL_cons (op3 n) opensL_nil))).map (fun p => ⟨p.1, p.2.1⟩) (fun p => rfl) (fun p h => trivial)
theorem op150 (hB : Bulk bulk) : ∀ n, Opens enc Tryz.prog w base spare held bulk B n 150 Slot.c (fun _ => True)
  | 0 => Opens.zero
  | n + 1 => (opens_struct hB Tryz.underlying150 (by kernel_rfl) (opensL_cons (op3 n) (opensL_cons (op3 n) (opensL_cons (op148 hB n) opensL_nil)))).map (fun p => ⟨p.1, p.2.1, p.2.2.1⟩) (fun p => by simp [Slot.c, Term.c, cI, dI]) (fun p h => trivial)
theorem op30 (hB : Bulk bulk) : ∀ n, Opens enc Tryz.prog w base spare held bulk B n 30 (fun l : List Slot => [D.list (l.map Slot.c)]) (fun l => l.length ≤ B ∧ ∀ a ∈ l, (fun _ => True) a)
  | 0 => Opens.zero
  | n + 1 => opens_slice hB Tryz.underlying30 (op150 hB n)
theorem op152 (hB : Bulk bulk) : ∀ n, Opens enc Tryz.prog w base spare held bulk B n 152 Test.c (fun _ => True)
  | 0 => Opens.zero
  | n + 1 => (opens_struct hB Tryz.underlying152 (by kernel_rfl) (opensL_cons (op3 n) (opensL_cons (op148 hB n) (opensL_cons (op148 hB n) opensL_nil)))).map (fun p => ⟨p.1, p.2.1, p.2.2.1⟩) (fun p => by simp [Test.c, Term.c, cI, dI]) (fun p h => trivial)
theorem op31 (hB : Bulk bulk) : ∀ n, Opens enc Tryz.prog w base spare held bulk B n 31 (fun l : List Test => [D.list (l.map Test.c)]) (fun l => l.length ≤ B ∧ ∀ a ∈ l, (fun _ => True) a)
  | 0 => Opens.zero
  | n + 1 => opens_slice hB Tryz.underlying31 (op152 hB n)
theorem op33 (hB : Bulk bulk) : ∀ n, Opens enc Tryz.prog w base spare held bulk B n 33 Pattern.c (fun _ => True)
  | 0 => Opens.zero
  | n + 1 => (opens_struct hB Tryz.underlying33 (by kernel_rfl) (opensL_cons (op29 hB n) (opensL_cons (op30 hB n) (opensL_cons (op3 n) (opensL_cons (op31 hB n) opensL_nil))))).map (fun p => ⟨p.1, p.2.1, p.2.2.1, p.2.2.2.1⟩) (fun p => by simp [Pattern.c, Graph.c, cI, dI]) (fun p h => trivial)
theorem op35 (hB : Bulk bulk) : ∀ n, Opens enc Tryz.prog w base spare held bulk B n 35 Part.c (fun x => x.nodes.length ≤ B ∧ x.edges.length ≤ B)
  | 0 => Opens.zero
  | n + 1 => (opens_struct hB Tryz.underlying35 (by kernel_rfl) (opensL_cons (op26 hB n) (opensL_cons (op26 hB n) opensL_nil))).map (fun p => ⟨p.1, p.2.1⟩) (fun p => rfl) (fun p h => ⟨h.1.1, h.2.1.1⟩)
theorem op36 (hB : Bulk bulk) : ∀ n, Opens enc Tryz.prog w base spare held bulk B n 36 Part.c (fun x => x.nodes.length ≤ B ∧ x.edges.length ≤ B)
  | 0 => Opens.zero
  | n + 1 => (opens_struct hB Tryz.underlying36 (by kernel_rfl) (opensL_cons (op26 hB n) (opensL_cons (op26 hB n) opensL_nil))).map (fun p => ⟨p.1, p.2.1⟩) (fun p => rfl) (fun p h => ⟨h.1.1, h.2.1.1⟩)
theorem op39 (hB : Bulk bulk) : ∀ n, Opens enc Tryz.prog w base spare held bulk B n 39 Cond.c (fun c => c.bnd B)
  | 0 => Opens.zero
  | n + 1 =>
    have hk : Opens enc Tryz.prog w base spare held bulk B n 37 (fun l : List Cond => [D.list (l.map Cond.c)]) (fun l => l.length ≤ B ∧ ∀ a ∈ l, Cond.bnd B a) := match n with
     | 0 => Opens.zero
     | m + 1 => opens_slice hB Tryz.underlying37 ((op39 hB (m + 1)).mono (Nat.le_succ m))
    (opens_struct hB Tryz.underlying39 (by kernel_rfl) (opensL_cons (op3 n) (opensL_cons hk (opensL_cons (op36 hB n) (opensL_cons (op33 hB n) opensL_nil))))).map (fun p => Cond.mk p.1 p.2.1 p.2.2.1 p.2.2.2.1) (fun p => by simp [Cond.c, Cond.cs_eq, Part.c, Pattern.c, cI, dI]) (fun p h => (Cond.bnd_iff B _).2 ⟨h.2.2.1, h.2.1.2⟩)
theorem op41 (hB : Bulk bulk) : ∀ n, Opens enc Tryz.prog w base spare held bulk B n 41 Rule.c (fun x => (x.keep.nodes.length ≤ B ∧ x.keep.edges.length ≤ B) ∧ (x.into.nodes.length ≤ B ∧ x.into.edges.length ≤ B) ∧ x.cond.bnd B)
  | 0 => Opens.zero
  | n + 1 => (opens_struct hB Tryz.underlying41 (by kernel_rfl) (opensL_cons (op9 hB n) (opensL_cons (op33 hB n) (opensL_cons (op33 hB n) (opensL_cons (op35 hB n) (opensL_cons (op36 hB n) (opensL_cons (op4 n) (opensL_cons (op39 hB n) opensL_nil)))))))).map (fun p => ⟨p.1, p.2.1, p.2.2.1, p.2.2.2.1, p.2.2.2.2.1, p.2.2.2.2.2.1, p.2.2.2.2.2.2.1⟩) (fun p => by simp [Rule.c, Pattern.c, Part.c, Cond.c_eq, cS, cI, dI]) (fun p h => ⟨h.2.2.2.1, h.2.2.2.2.1, h.2.2.2.2.2.2.1⟩)
theorem op43 (hB : Bulk bulk) : ∀ n, Opens enc Tryz.prog w base spare held bulk B n 43 CaseC.c (fun x => (∀ n ∈ x.t.nodes, n.attrs.length ≤ B) ∧ x.a.bnd B ∧ x.b.bnd B)
  | 0 => Opens.zero
  | n + 1 => (opens_struct hB Tryz.underlying43 (by kernel_rfl) (opensL_cons (op25 hB n) (opensL_cons (op41 hB n) (opensL_cons (op41 hB n) opensL_nil)))).map (fun p => ⟨p.1, p.2.1, p.2.2.1⟩) (fun p => by simp [CaseC.c]) (fun p h => ⟨h.1.2.2, h.2.1, h.2.2.1⟩)
theorem op45 (hB : Bulk bulk) : ∀ n, Opens enc Tryz.prog w base spare held bulk B n 45 Ovl.c (fun x => (x.left.nodes.length ≤ B ∧ x.left.edges.length ≤ B) ∧ (x.right.nodes.length ≤ B ∧ x.right.edges.length ≤ B))
  | 0 => Opens.zero
  | n + 1 => (opens_struct hB Tryz.underlying45 (by kernel_rfl) (opensL_cons (op29 hB n) (opensL_cons (op36 hB n) (opensL_cons (op36 hB n) opensL_nil)))).map (fun p => ⟨p.1, p.2.1, p.2.2.1⟩) (fun p => by simp [Ovl.c, Graph.c, Part.c, cI, dI, dLI]) (fun p h => ⟨h.2.1, h.2.2.1⟩)
end
end Go.Abs
end
