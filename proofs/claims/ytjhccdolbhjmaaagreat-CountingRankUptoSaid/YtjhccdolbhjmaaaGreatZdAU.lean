/- slices.Insert of counts ahead of the end. · slices.Insert of counts, at every place. · statistic.Of, at every graph. · law41: what the statements come to. · counting.Rank at every graph; law41: CountingRank. · From a reading of an argument to an abstract value of a typed structure; and what a call's end owes. · What the bound on the bulk of the arguments gives. -/
import Derived.Test.YtjhccdolbhjmaaaGreatZdAT
import Derived.Test.YtjhccdolbhjmaaaGreatZdAA
import Derived.Test.YtjhccdolbhjmaaaGreatZdAD
import Derived.Laws.NewBlocks
import Derived.Carry
import Derived.ChangeArms
import Derived.WideShapes
import Derived.DataElems
import Derived.Test.YtjhccdolbhjmaaaGreatRows
section
set_option linter.unusedVariables false
set_option linter.unusedSimpArgs false
open Go Go.Proofs Go.Shelf Go.RowKit Go.Lib
namespace Go.Abs
theorem cnt_size : (Tryz.prog.info? 144).map (·.size) = some 4 := by kernel_rfl
theorem cnt_sizeOf (w : World) : (Go.sizeOf 144).run Tryz.prog w = .ok 4 w := by
  cases hq : Tryz.prog.info? 144 with
  | none => have := cnt_size; rw [hq] at this; cases this
  | some i => have := cnt_size; rw [hq] at this; simp only [Option.map_some, Option.some.injEq] at this; simp [Go.sizeOf, typeInfo, hq, this]
set_option maxHeartbeats 4000000 in
set_option maxRecDepth 100000 in
theorem ins_shift (b n c i m : Nat) (ad : Addr) (vc : Nat) (cur R1 R2 : Array Value) (xs vs : List Value) (w : World) (hi : i < n) (hm : 0 < m) (hroom : n + m ≤ c) (hc63 : c ≤ 9223372036854775807) (hvb : ad.block ≠ b)
    (hb : w.heap[b]? = some (.cells cur 144 (0, 0))) (hcs : cur.size = c * 4) (hxs : cur.toList.take (n * 4) = xs) (hvl : vs.length = m * 4)
    (hvs : ∀ (j : Nat) (v : Value), vs[j]? = some v → w.cell? (ad.add j) = some v) (h1c : ∀ v ∈ xs, v.oneCell' = true) (h1v : ∀ v ∈ vs, v.oneCell' = true)
    (hR1 : R1 = (cur.toList.take ((i + m) * 4) ++ xs.drop (i * 4) ++ cur.toList.drop ((i + m) * 4 + (xs.drop (i * 4)).length)).toArray)
    (hR2 : R2 = (R1.toList.take (i * 4) ++ vs ++ R1.toList.drop (i * 4 + vs.length)).toArray) (hR1s : R1.size = c * 4) :
    Calls Tryz.prog 124 #[.slice (some ⟨b, 0, none⟩) n c, .int .i64 i, .slice (some ad) m vc] w fun e w' =>
      e = .returned (.slice (some ⟨b, 0, none⟩) (n + m) c) ∧ w' = (w.drew.setRow b R1).setRow b R2 := by
  have hz1 : ¬ ((m : Int) = 0) := by omega
  have hz2 : ¬ ((i : Int) = (n : Int)) := by omega
  have hxl : xs.length = n * 4 := by rw [← hxs, List.length_take, Array.length_toList, hcs]; omega
  have hdl : (xs.drop (i * 4)).length = (n - i) * 4 := by rw [List.length_drop, hxl]; omega
  obtain ⟨ta, ka, hsa⟩ := shape_of_cell (hvs 0 _ (List.getElem?_eq_getElem (by omega)))
  rw [block_add] at hsa
  have hov : ∀ lb cb, (callFunc 196 #[.slice (some ad) m vc, .slice (some ⟨b, (i + m) * 4, none⟩) lb cb]).run Tryz.prog w = .ok (.value (.bool false)) w := fun lb cb => by
    rw [run_callFunc_extern Tryz.func196 (by kernel_rfl) (by kernel_rfl) (by kernel_rfl) (e := Extern.SlicesOverlaps.overlaps #[104, 104] #[4]) (by kernel_rfl),
      run_overlaps_own w 104 4 144 Tryz.underlying104 4 cnt_sizeOf ad ⟨b, (i + m) * 4, none⟩ m vc lb cb hvb ta ka hsa hb (by omega)]
    rfl
  have hw1 : IntKind.i64.wrap ((i : Int) + (m : Int)) = (i : Int) + (m : Int) := by rw [IntKind.wrap_i64]; omega
  have hb1 : (0 : Int) ≤ (i : Int) + (m : Int) := by omega
  have hin : i ≤ n := by omega
  have htn : ((i : Int) + (m : Int)).toNat = i + m := by omega
  have hb2 : ¬ (c = i + m) := by omega
  have hb3 : (i : Int) ≤ (n : Int) + (m : Int) := by omega
  have hb4 : ¬ (c = i) := by omega
  have hcp1 : ∀ ty dc sc, (Builtin.copy_ #[104, 104] ty #[.slice (some ⟨b, (i + m) * 4, none⟩) (n + m - (i + m)) dc, .slice (some ⟨b, i * 4, none⟩) (n + m - i) sc]).run Tryz.prog w.drew = .ok (goInt (n - i : Nat)) (w.drew.setRow b R1) := fun ty dc sc => by
    rw [hR1]
    exact run_copy_rowK w.drew 104 104 ty 144 4 b ((i + m) * 4) (n + m - (i + m)) dc ⟨b, i * 4, none⟩ (n + m - i) sc (n - i) cur 144 (xs.drop (i * 4)) Tryz.underlying104 cnt_size hb (by simp only [Nat.min_def]; split <;> omega) hdl
      (fun j v hj => by
        rw [addr_add_none]
        rw [List.getElem?_drop, ← hxs, List.getElem?_take] at hj
        split at hj
        · show w.cell? _ = _
          simp only [World.cell?, hb]
          simpa using hj
        · cases hj)
      (by rw [hdl]; omega) (fun v hv => h1c v (List.mem_of_mem_drop hv))
  obtain ⟨W1, hW1⟩ : ∃ W1, W1 = w.drew.setRow b R1 := ⟨_, rfl⟩
  have hW1b : W1.heap[b]? = some (.cells R1 144 (0, 0)) := by rw [hW1]; exact setRow_heap w.drew b cur R1 144 (0, 0) hb
  have hcp2 : ∀ (W : World), (∀ q : Nat, W.heap[q]? = W1.heap[q]?) → ∀ ty dc, (Builtin.copy_ #[104, 104] ty #[.slice (some ⟨b, i * 4, none⟩) (n + m - i) dc, .slice (some ad) m vc]).run Tryz.prog W = .ok (goInt m) (W.setRow b R2) := fun W hWc ty dc => by
    rw [hR2]
    exact run_copy_rowK W 104 104 ty 144 4 b (i * 4) (n + m - i) dc ad m vc m R1 144 vs Tryz.underlying104 cnt_size (by rw [hWc]; exact hW1b) (by simp only [Nat.min_def]; split <;> omega) hvl
      (fun j v hj => by
        have h0 := hvs j v hj
        simp only [World.cell?, block_add] at h0 ⊢
        rw [hWc, hW1, setRow_other _ _ _ _ hvb]
        exact h0)
      (by rw [hvl]; omega) h1v
  rw [← hW1] at hcp1
  have mixed := Tz.mixed
  clear hR1 hR2
  go_enter Tryz.func124, Tryz.ntmps124
  go_wp2_with (simp only [hov])
  go_region_law_o (refine step_copy_runI rfl _ _ 104 104 rfl _ _ (by simp [Act.eval, Act.put]) (by simp [Act.eval, Act.put]) (hcp1 _ _ _) ?_)
  go_wp2_with (at_builtin; refine wpList_copy_runI _ rfl _ _ 104 104 rfl _ _ rfl rfl (hcp2 _ (fun _ => rfl) _ _) ?_)
  go_ret
  first | exact ⟨rfl, by rw [hW1]⟩ | exact ⟨rfl, rfl⟩
set_option maxHeartbeats 4000000 in
set_option maxRecDepth 100000 in
theorem ins_grow (b n c i m : Nat) (ad : Addr) (vc : Nat) (cur ROW R1 R2 : Array Value) (z : Value) (G : Nat) (xs vs : List Value) (w : World) (hi : i < n) (hm : 0 < m) (hnc : n ≤ c) (hroom : c < n + m) (hbig : n + m ≤ 4294967296)
    (hz : (Tryz.prog.info? 144).map (fun i => (i.zero, i.size, i.bytes)) = some (some z, 4, 32)) (hzc : z.cells.size = 4)
    (hb : w.heap[b]? = some (.cells cur 144 (0, 0))) (hcs : cur.size = c * 4) (hxs : cur.toList.take (n * 4) = xs) (hvl : vs.length = m * 4)
    (hvs : ∀ (j : Nat) (v : Value), vs[j]? = some v → w.cell? (ad.add j) = some v) (h1c : ∀ v ∈ xs, v.oneCell' = true) (h1v : ∀ v ∈ vs, v.oneCell' = true)
    (hG : G = grownCap w (n + m) c 144) (hROW : ROW = (xs.take (i * 4)).toArray ++ Builtin.zeroCells z.cells (n + m - i) ++ Builtin.zeroCells z.cells (G - (n + m)))
    (hR1 : R1 = (ROW.toList.take (i * 4) ++ vs ++ ROW.toList.drop (i * 4 + vs.length)).toArray)
    (hR2 : R2 = (R1.toList.take ((i + m) * 4) ++ xs.drop (i * 4) ++ R1.toList.drop ((i + m) * 4 + (xs.drop (i * 4)).length)).toArray) (hROWs : ROW.size = G * 4) (hR1s : R1.size = G * 4) :
    Calls Tryz.prog 124 #[.slice (some ⟨b, 0, none⟩) n c, .int .i64 i, .slice (some ad) m vc] w fun e w' =>
      e = .returned (.slice (some ⟨w.heap.size, 0, none⟩) (n + m) G) ∧
      w' = (((w.alloc (.cells ROW 144)).drew.setRow w.heap.size R1).drew).setRow w.heap.size R2 := by
  obtain ⟨i0, hi0, hz0, hzs, hzb⟩ := info_parts hz
  have hz1 : ¬ ((m : Int) = 0) := by omega
  have hz2 : ¬ ((i : Int) = (n : Int)) := by omega
  have hz3 : (c : Int) < (n : Int) + (m : Int) := by omega
  have hxl : xs.length = n * 4 := by rw [← hxs, List.length_take, Array.length_toList, hcs]; omega
  have hdl : (xs.drop (i * 4)).length = (n - i) * 4 := by rw [List.length_drop, hxl]; omega
  have hbw : b < w.heap.size := (Array.getElem?_eq_some_iff.1 hb).1
  have hvw : ad.block < w.heap.size := by have := World.block_lt_of_cell? w _ (hvs 0 _ (List.getElem?_eq_getElem (by omega))); rwa [block_add] at this
  have hkk : (n : Int) + (m : Int) - (i : Int) = ((n + m - i : Nat) : Int) := by omega
  have hik : i + (n + m - i) = n + m := by omega
  have hcell : ∀ j v, xs[j]? = some v → w.cell? ⟨b, j, none⟩ = some v := fun j v hj => by
    rw [← hxs, List.getElem?_take] at hj
    split at hj
    · simp only [World.cell?, hb]
      simpa using hj
    · cases hj
  have hold : (Builtin.firstCells i0.size i (.slice (some ⟨b, 0, none⟩) i c)).run Tryz.prog w.drew = .ok (xs.take (i * 4)).toArray w.drew := by
    rw [hzs]
    exact run_firstCells_some w.drew 4 i ⟨b, 0, none⟩ i c (xs.take (i * 4)) (by rw [List.length_take]; omega) (fun j v hj => by
      rw [addr_add_none, Nat.zero_add]
      rw [List.getElem?_take] at hj
      split at hj
      · exact hcell j v hj
      · cases hj)
  have hrz : ∀ ty, (Builtin.append_ #[104, 3] ty #[.slice (some ⟨b, 0, none⟩) i c, .int .i64 ((n : Int) + (m : Int) - (i : Int))]).run Tryz.prog w =
      .ok (.slice (some ⟨w.heap.size, 0, none⟩) (n + m) G) (w.drew.alloc (.cells ROW 144)) := fun ty => by
    have h := Lib.run_append_grow_zeros w 104 3 ty 144 i0 z .i64 .i64 Tryz.underlying104 Tryz.underlying3 hi0 hz0 (some ⟨b, 0, none⟩) i c (xs.take (i * 4)) hold (n + m - i) (by omega) (by omega) (by omega) (by omega) (by rw [hzb]; omega) (by rw [hzb, hik]; exact growslice_fits hroom (by omega))
    rw [hik] at h
    rw [hkk, hROW, hG]
    exact h
  obtain ⟨W1, hW1⟩ : ∃ W1, W1 = w.drew.alloc (.cells ROW 144) := ⟨_, rfl⟩
  rw [← hW1] at hrz
  have hW1n : W1.heap[w.heap.size]? = some (.cells ROW 144 (0, 0)) := by rw [hW1]; exact heap_alloc_new w.drew _
  have hW1o : ∀ q : Nat, q < w.heap.size → W1.heap[q]? = w.heap[q]? := fun q hq => by rw [hW1]; exact heap_alloc_old w.drew _ hq
  have hcpA : ∀ (W : World), (∀ q : Nat, W.heap[q]? = W1.heap[q]?) → ∀ ty dc, (Builtin.copy_ #[104, 104] ty #[.slice (some ⟨w.heap.size, i * 4, none⟩) (n + m - i) dc, .slice (some ad) m vc]).run Tryz.prog W = .ok (goInt m) (W.setRow w.heap.size R1) := fun W hWc ty dc => by
    rw [hR1]
    exact run_copy_rowK W 104 104 ty 144 4 w.heap.size (i * 4) (n + m - i) dc ad m vc m ROW 144 vs Tryz.underlying104 cnt_size (by rw [hWc]; exact hW1n) (by simp only [Nat.min_def]; split <;> omega) hvl
      (fun j v hj => by
        have h0 := hvs j v hj
        simp only [World.cell?, block_add] at h0 ⊢
        rw [hWc, hW1o _ hvw]
        exact h0)
      (by have := grownCap_ge w (n + m) c 144; rw [← hG] at this; rw [hvl]; omega) h1v
  have hGn : n + m ≤ G := by rw [hG]; exact grownCap_ge w _ _ _
  have hG63 : G ≤ 9223372036854775807 := by
    have := grownCap_le_maxLen w (n + m) c 144 (by unfold maxLen; omega)
    rw [← hG] at this
    unfold maxLen at this
    omega
  have hGi : ¬ (G = i) := by omega
  have hGim : ¬ (G = i + m) := by omega
  have hci : ¬ (c = i) := by omega
  have hcpB : ∀ (W : World), (∀ q : Nat, W.heap[q]? = (W1.setRow w.heap.size R1).heap[q]?) → ∀ ty dc sc, (Builtin.copy_ #[104, 104] ty #[.slice (some ⟨w.heap.size, (i + m) * 4, none⟩) (n + m - (i + m)) dc, .slice (some ⟨b, i * 4, none⟩) (n - i) sc]).run Tryz.prog W = .ok (goInt (n - i : Nat)) (W.setRow w.heap.size R2) := fun W hWc ty dc sc => by
    rw [hR2]
    exact run_copy_rowK W 104 104 ty 144 4 w.heap.size ((i + m) * 4) (n + m - (i + m)) dc ⟨b, i * 4, none⟩ (n - i) sc (n - i) R1 144 (xs.drop (i * 4)) Tryz.underlying104 cnt_size (by rw [hWc]; exact setRow_heap _ _ _ _ _ _ hW1n) (by simp only [Nat.min_def]; split <;> omega) hdl
      (fun j v hj => by
        rw [addr_add_none]
        rw [List.getElem?_drop] at hj
        have h0 := hcell _ v hj
        simp only [World.cell?] at h0 ⊢
        rw [hWc, setRow_other _ _ _ _ (by omega), hW1o _ hbw]
        exact h0)
      (by rw [hdl]; omega) (fun v hv => h1c v (List.mem_of_mem_drop hv))
  subst hW1
  have hE1 : ∀ q : Nat, ((w.alloc (.cells ROW 144)).drew).heap[q]? = (w.drew.alloc (.cells ROW 144)).heap[q]? := fun q => rfl
  have hF1 : ∀ q : Nat, (((w.alloc (.cells ROW 144)).drew.setRow w.heap.size R1).drew).heap[q]? = ((w.drew.alloc (.cells ROW 144)).setRow w.heap.size R1).heap[q]? := fun q => rfl
  have hw1 : IntKind.i64.wrap ((i : Int) + (m : Int)) = (i : Int) + (m : Int) := by rw [IntKind.wrap_i64]; omega
  have hb1 : (0 : Int) ≤ (i : Int) + (m : Int) := by omega
  have hin : i ≤ n := by omega
  have htn : ((i : Int) + (m : Int)).toNat = i + m := by omega
  have hb3 : (i : Int) ≤ (n : Int) := by omega
  clear hkk hik hold hROW hG hz hi0 hz0 hzs hzb hR1 hR2
  have mixed := Tz.mixed
  go_enter Tryz.func124, Tryz.ntmps124
  go_wp2_with (first
    | (at_builtin; refine Lib.wpList_append_run _ rfl _ _ _ _ rfl _ _ rfl rfl _ _ (hrz _) ?_)
    | (at_builtin; refine wpList_copy_runI _ rfl _ _ 104 104 rfl _ _ rfl rfl (hcpA _ hE1 _ _) ?_)
    | (at_builtin; refine wpList_copy_runI _ rfl _ _ 104 104 rfl _ _ rfl rfl (hcpB _ (by intro q; rfl) _ _ _) ?_))
  go_region_law_o (refine step_copy_runI rfl _ _ 104 104 rfl (.slice (some ⟨w.heap.size, (i + m) * 4, none⟩) (n + m - (i + m)) (G - (i + m))) (.slice (some ⟨b, i * 4, none⟩) (n - i) (c - i)) (by simp [Act.eval, Act.put]) (by simp [Act.eval, Act.put]) (hcpB _ hF1 3 (G - (i + m)) (c - i)) ?_)
  go_wp2
  go_ret
  exact ⟨rfl, rfl⟩
end Go.Abs
end
section
set_option linter.unusedVariables false
set_option linter.unusedSimpArgs false
set_option maxRecDepth 8000
open Go Go.Proofs
namespace Go.Abs
theorem insC_flat (l : List Cnt) (k : Nat) (x : Cnt) (hk : k ≤ l.length) : ((insC l k x).map Cnt.c).flatten = (l.map Cnt.c).flatten.take (k * 4) ++ x.c ++ (l.map Cnt.c).flatten.drop (k * 4) := by
  have h : ∀ (l : List Cnt) (k : Nat), k ≤ l.length → ((l.take k).map Cnt.c).flatten = (l.map Cnt.c).flatten.take (k * 4) ∧ ((l.drop k).map Cnt.c).flatten = (l.map Cnt.c).flatten.drop (k * 4) := by
    intro l
    induction l with
    | nil => intro k hk; simp
    | cons a l ih =>
      intro k hk
      cases k with
      | zero => simp
      | succ k =>
        obtain ⟨h1, h2⟩ := ih k (by simpa using hk)
        have e : (k + 1) * 4 = k * 4 + 4 := by omega
        rw [e]
        simp only [List.take_succ_cons, List.drop_succ_cons, List.map_cons, List.flatten_cons, h1, h2, Cnt.c]
        simp
  obtain ⟨h1, h2⟩ := h l k hk
  unfold insC
  simp only [List.map_append, List.map_cons, List.flatten_append, List.flatten_cons, h1, h2, List.append_assoc]
theorem insert_cnt (l : List Cnt) (hl : l.length ≤ 1000000) (k : Nat) (hk : k ≤ l.length) (x : Cnt) : InsOk l k x := by
  by_cases hge : l.length ≤ k
  · obtain rfl : k = l.length := by omega
    exact insert_end l hl x
  have hlt : k < l.length := by omega
  intro G id Q hg hid hQ
  have hEnt : Ent Tryz.prog 124 := ⟨_, Tryz.func124, by rfl, by rfl⟩
  refine ⟨hEnt, fun M0 σ w vals hR ha => ?_⟩
  obtain ⟨o, ho, lies⟩ := hR.lies id _ hg
  obtain ⟨ys, hrow, hy1, hrep⟩ := lies.row
  have hlen := ha.len
  obtain ⟨v0, v1, v2, rfl⟩ : ∃ v0 v1 v2, vals = [v0, v1, v2] := by
    match vals, hlen with
    | [a, b, c], _ => exact ⟨a, b, c, rfl⟩
  have r0 := ha.rep 0 v0 _ rfl rfl
  have r1 := ha.rep 1 v1 _ rfl rfl
  have r2 := ha.rep 2 v2 _ rfl rfl
  cases r1
  cases r0
  rename_i hN h1 h
  have hver := lies.ver
  simp only [List.length_map] at hver
  rcases h o ho with h' | ⟨_, rfl⟩
  · omega
  have hty : o.ty = 144 := lies.ty
  have hsz : o.esz = 4 := lies.sz
  rw [hsz] at hrow
  simp only [List.length_map] at hrow
  rcases list_inv r2 with ⟨_, h2⟩ | ⟨ad, cap, sz, us, rfl, hrep2, hu1, hucell, hec, hem, _⟩
  · cases h2
  have hul : us.length = 1 * 4 := by simpa [Cnt.c] using hrep2.len
  rcases hrow.2 with ⟨_, h0⟩ | ⟨g, c, cur, hval, hg0, hgh, hnc, hcm, hcs, htake⟩
  · omega
  have hmut : Mut M0 G σ g := .inr ⟨id, _, o, hg, rfl, ho, by simp [Ow.block, hval, Value.ownBlock]⟩
  have hne : ad.block ≠ g := fun he => by
    obtain ⟨u, hu⟩ : ∃ u, us[0]? = some u := ⟨_, List.getElem?_eq_getElem (by omega)⟩
    exact (hucell 0 u hu).1 (by rw [he]; exact hmut)
  have fin : ∀ (v' : Value) (w' : World), w'.ownsRow 0 144 4 v' (l.length + 1) (ys.take (k * 4) ++ us ++ ys.drop (k * 4)) → w.grownBy w' o.block → (∀ b, v'.ownBlock = some b → o.block = some b ∨ w.heap.size ≤ b) →
      ∃ v d H' σ', Ending.returned v' = .returned v ∧ Rel M0 H' σ' w' ∧ RepV (Mut M0 H' σ') σ' H'.al w' v d ∧ Stp σ w σ' w' ∧ Keeps (Mut M0 G σ) σ G.al w (Mut M0 H' σ') σ' H'.al w' ∧ Q d H' := by
    intro v' w' hown hgr hblk
    have hyl : ys.length = l.length * 4 := hrow.1
    have he1 : ((insC l k x).map Cnt.c).length = l.length + 1 := by simp [insC]; omega
    have hown' : w'.ownsRow 0 144 4 v' ((insC l k x).map Cnt.c).length (ys.take (k * 4) ++ us ++ ys.drop (k * 4)) := by rw [he1]; exact hown
    obtain ⟨p1, p2, p3⟩ := Rel.put hR hg rfl ho ⟨144, 4, (insC l k x).map Cnt.c, false⟩ ⟨l.length + 1, v', 4, 144⟩ hgr hblk (.inr (by simp only; omega)) he1.symm rfl rfl
      (fun c hc => by rw [List.mem_map] at hc; obtain ⟨y, _, rfl⟩ := hc; rfl) _ hown'
      (fun u hu => by
        simp only [List.mem_append] at hu
        rcases hu with (hu | hu) | hu
        · exact hy1 u (List.mem_of_mem_take hu)
        · exact hu1 u hu
        · exact hy1 u (List.mem_of_mem_drop hu))
      (by
        have hfl : (l.map Cnt.c).flatten.length = ys.length := hrep.len.symm
        have hx4 : x.c.length = 4 := rfl
        have hrep2' : RepL (Mut M0 G σ) σ G.al w us x.c := by simpa using hrep2
        rw [insC_flat l k x hk]
        refine ⟨by simp only [List.length_append, List.length_take, List.length_drop, hfl, hx4, hul], fun j u d hu hd => ?_⟩
        rw [getElem?_splice] at hu hd
        simp only [List.length_take, List.getElem?_take, List.getElem?_drop, hfl, hx4, hul] at hu hd
        have m1 : min (k * 4) ys.length = k * 4 := by omega
        rw [m1] at hu hd
        by_cases a1 : j < k * 4
        · rw [if_pos a1, if_pos a1] at hu hd
          exact hrep.rep j u d hu hd
        · rw [if_neg a1] at hu hd
          by_cases a2 : j < k * 4 + 4
          · rw [if_pos (by omega)] at hu hd
            exact hrep2'.rep _ u d hu hd
          · rw [if_neg (by omega)] at hu hd
            exact hrep.rep _ u d hu hd)
    exact ⟨v', _, _, _, rfl, p1, .own v' id (l.length + 1) h1 (by rcases hown.2 with ⟨rfl, _⟩ | ⟨_, _, _, rfl, _⟩ <;> rfl) (fun o' ho' => by simp at ho'; subst ho'; exact .inr ⟨rfl, rfl⟩), p2, p3, hQ id _ (by simpa [go_sem] using hid) (by simp [go_sem])⟩
  rw [hval]
  have hcur : cur.toList.length = c * 4 := by simpa using hcs
  rcases Nat.lt_or_ge c (l.length + 1) with hc | hc
  · -- no room
    have hsl := Tz.sl104
    obtain ⟨_, i0, z, hi0, hz0, hzs, hzb, _, _, _, _, hzc, _⟩ := sl_some hsl
    obtain ⟨GG, hG⟩ : ∃ GG, GG = grownCap w (l.length + 1) c 144 := ⟨_, rfl⟩
    obtain ⟨ROW, hROW⟩ : ∃ ROW : Array Value, ROW = (ys.take (k * 4)).toArray ++ Builtin.zeroCells z.cells (l.length + 1 - k) ++ Builtin.zeroCells z.cells (GG - (l.length + 1)) := ⟨_, rfl⟩
    have hyl : ys.length = l.length * 4 := hrow.1
    have hGn : l.length + 1 ≤ GG := by rw [hG]; exact grownCap_ge w _ _ _
    have hGm : GG ≤ maxLen := by rw [hG]; exact grownCap_le_maxLen w _ _ _ (by unfold maxLen; omega)
    have hROWs : ROW.size = GG * 4 := by
      rw [hROW]; simp only [Array.size_append, List.size_toArray, size_zeroCells, hzc, List.length_take, hyl]
      omega
    obtain ⟨R1, hR1⟩ : ∃ R1 : Array Value, R1 = (ROW.toList.take (k * 4) ++ us ++ ROW.toList.drop (k * 4 + us.length)).toArray := ⟨_, rfl⟩
    have hR1s : R1.size = GG * 4 := by
      rw [hR1]; simp only [List.size_toArray, List.length_append, List.length_take, List.length_drop, Array.length_toList, hROWs, hul]; omega
    obtain ⟨R2, hR2⟩ : ∃ R2 : Array Value, R2 = (R1.toList.take ((k + 1) * 4) ++ ys.drop (k * 4) ++ R1.toList.drop ((k + 1) * 4 + (ys.drop (k * 4)).length)).toArray := ⟨_, rfl⟩
    refine (ins_grow g l.length c k 1 ad cap cur ROW R1 R2 z GG ys us w hlt (by omega) hnc hc (by omega) (by rw [hi0]; simp [hz0, hzs, hzb]) hzc hgh hcs htake hul (fun j v hj => (hucell j v hj).2) hy1 hu1 hG hROW hR1 hR2 hROWs hR1s).mono ?_
    rintro e w' ⟨rfl, rfl⟩
    have htk : ROW.toList.take (k * 4) = ys.take (k * 4) := by
      rw [hROW]; simp only [Array.toList_append, List.append_assoc]
      rw [List.take_append_of_le_length (by simp only [List.length_take]; omega), List.take_take, Nat.min_self]
    obtain ⟨q1, q2, q3⟩ := ins_row2 (m := 1) (n := l.length) (G := GG) (i := k) (by simpa using hROWs) hyl htk (Nat.le_of_lt hlt) hGn hul R1.toList R2.toList (by rw [hR1]) (by rw [hR2])
    have hW1n : ((w.alloc (.cells ROW 144)).drew).heap[w.heap.size]? = some (.cells ROW 144 (0, 0)) := heap_alloc_new w _
    have hb1 := setRow_heap _ w.heap.size ROW R1 144 (0, 0) hW1n
    have hfin1 : (ys.take (k * 4) ++ us ++ ys.drop (k * 4)).length = (l.length + 1) * 4 := by simp only [List.length_append, List.length_take, List.length_drop, hyl, hul]; omega
    have hfin2 := setRow_heap (((w.alloc (.cells ROW 144)).drew.setRow w.heap.size R1).drew) w.heap.size R1 R2 144 (0, 0) hb1
    have hfin3 : R2.size = GG * 4 := by simpa using q2
    have hfin4 := q3
    have hfin5 : w.grownBy ((((w.alloc (.cells ROW 144)).drew.setRow w.heap.size R1).drew).setRow w.heap.size R2) o.block := ⟨rfl, rfl, rfl, by simp, fun q hq _ => by
      rw [setRow_other _ _ _ _ (by omega)]
      show ((w.alloc (.cells ROW 144)).drew.setRow w.heap.size R1).heap[q]? = _
      rw [setRow_other _ _ _ _ (by omega)]
      exact heap_alloc_old w _ hq⟩
    have hfin6 : ∀ b, (Value.slice (some ⟨w.heap.size, 0, none⟩) (l.length + 1) GG).ownBlock = some b → o.block = some b ∨ w.heap.size ≤ b := fun b hb => by
      right; simp only [Value.ownBlock, Option.some.injEq] at hb; omega
    refine fin _ _ ⟨?_, .inr ⟨w.heap.size, GG, R2, rfl, Nat.zero_le _, ?_, hGn, hGm, ?_, ?_⟩⟩ ?_ ?_
    all_goals first | exact hfin1 | exact hfin2 | exact hfin3 | exact hfin4 | exact hfin5 | exact hfin6
  · obtain ⟨R1, hR1⟩ : ∃ R1 : Array Value, R1 = (cur.toList.take ((k + 1) * 4) ++ ys.drop (k * 4) ++ cur.toList.drop ((k + 1) * 4 + (ys.drop (k * 4)).length)).toArray := ⟨_, rfl⟩
    obtain ⟨R2, hR2⟩ : ∃ R2 : Array Value, R2 = (R1.toList.take (k * 4) ++ us ++ R1.toList.drop (k * 4 + us.length)).toArray := ⟨_, rfl⟩
    obtain ⟨q1, q2, q3⟩ := ins_row (m := 1) hcur htake (Nat.le_of_lt hlt) hc hul R1.toList R2.toList (by rw [hR1]) (by rw [hR2])
    refine (ins_shift g l.length c k 1 ad cap cur R1 R2 ys us w hlt (by omega) hc hcm hne hgh hcs htake hul (fun j v hj => (hucell j v hj).2) hy1 hu1 hR1 hR2 (by simpa using q1)).mono ?_
    rintro e w' ⟨rfl, rfl⟩
    have hb1 := setRow_heap w.drew g cur R1 144 (0, 0) hgh
    refine fin _ _ ⟨?_, .inr ⟨g, c, R2, rfl, Nat.zero_le _, setRow_heap _ _ _ _ _ _ hb1, hc, hcm, by simpa using q2, q3⟩⟩ ⟨rfl, rfl, rfl, by simp, fun q _ hq => ?_⟩ ?_
    · rw [← q3, List.length_take]; simp only [Array.length_toList] at q2 ⊢; omega
    · have hqg : q ≠ g := fun e => hq (by rw [e]; simp [Ow.block, hval, Value.ownBlock])
      rw [setRow_other _ _ _ _ hqg, setRow_other _ _ _ _ hqg]
      rfl
    · intro b hb
      left
      simp only [Value.ownBlock, Option.some.injEq] at hb
      simp [Ow.block, hval, Value.ownBlock, hb]
end Go.Abs
end
section
set_option linter.unusedVariables false
set_option linter.unusedSimpArgs false
set_option maxRecDepth 8000
set_option maxHeartbeats 2000000
open Go Go.Proofs
namespace Go.Abs
def Cnt.tiny (N : Int) (x : Cnt) : Prop := (-1000000 ≤ x.type ∧ x.type ≤ 1000000) ∧ (-1000000 ≤ x.from_ ∧ x.from_ ≤ 1000000) ∧ (-1000000 ≤ x.to_ ∧ x.to_ ≤ 1000000) ∧ (1 ≤ x.num ∧ x.num ≤ N)
theorem bsG_le {p : Nat → Bool} : ∀ (m i j : Nat), i ≤ j → bsG p m i j ≤ j
  | 0, i, j, h => h
  | m + 1, i, j, h => by
    unfold bsG
    split
    · split
      · exact bsG_le m _ j (by omega)
      · exact Nat.le_trans (bsG_le m i _ (by omega)) (by omega)
    · exact h
theorem cntK_le (l : List Cnt) (x : Cnt) : cntK l x ≤ l.length := bsG_le _ _ _ (Nat.zero_le _)
theorem cntF_ok {l : List Cnt} {x : Cnt} {N : Int} (hl : ∀ y ∈ l, y.tiny N) (hx : x.tiny 1) (hN : 0 ≤ N) : (∀ y ∈ cntF l x, y.tiny (N + 1)) ∧ (cntF l x).length ≤ l.length + 1 := by
  have hup : ∀ y : Cnt, y.tiny N → y.tiny (N + 1) := fun y ⟨h1, h2, h3, h4, h5⟩ => ⟨h1, h2, h3, h4, by omega⟩
  have hx1 : x.tiny (N + 1) := by obtain ⟨h1, h2, h3, h4, h5⟩ := hx; exact ⟨h1, h2, h3, h4, by omega⟩
  have hK := cntK_le l x
  have hins : (∀ y ∈ insC l (cntK l x) x, y.tiny (N + 1)) ∧ (insC l (cntK l x) x).length ≤ l.length + 1 := by
    refine ⟨fun y hy => ?_, by simp [insC]; omega⟩
    simp only [insC, List.mem_append, List.mem_cons] at hy
    rcases hy with hy | rfl | hy
    · exact hup y (hl y (List.mem_of_mem_take hy))
    · exact hx1
    · exact hup y (hl y (List.mem_of_mem_drop hy))
  unfold cntF
  split
  · rename_i y hb hy
    refine ⟨fun u hu => ?_, by simp⟩
    rcases List.mem_or_eq_of_mem_set hu with h | rfl
    · exact hup u (hl u h)
    · obtain ⟨h1, h2, h3, h4, h5⟩ := hl y (List.mem_of_getElem? hy)
      obtain ⟨_, _, _, k4, k5⟩ := hx
      exact ⟨h1, h2, h3, by simp only; omega, by simp only; omega⟩
  · exact hins
theorem preC_ok {xs : List Cnt} (h : ∀ x ∈ xs, x.tiny 1) : ∀ i, i ≤ xs.length → (preC xs i).length ≤ i ∧ ∀ y ∈ preC xs i, y.tiny i
  | 0, _ => by simp [preC]
  | i + 1, hi => by
    obtain ⟨h1, h2⟩ := preC_ok h i (by omega)
    rw [preC_succ (by omega)]
    obtain ⟨h3, h4⟩ := cntF_ok h2 (h _ (List.getElem_mem (show i < xs.length by omega))) (by omega)
    exact ⟨by omega, fun y hy => by have := h3 y hy; simpa using this⟩
theorem cntOk_of {xs : List Cnt} (hl : xs.length ≤ 1000) (h : ∀ x ∈ xs, x.tiny 1) : CntOk xs where
  sm x hx := by obtain ⟨h1, h2, h3, h4, h5⟩ := h x hx; exact ⟨h1, h2, h3, h4, by omega⟩
  pre i hi := by
    obtain ⟨h1, h2⟩ := preC_ok h i hi
    exact ⟨by omega, fun y hy => by obtain ⟨h1, h2, h3, h4, h5⟩ := h2 y hy; exact ⟨h1, h2, h3, h4, by omega⟩⟩
  ins i hi hb := by
    obtain ⟨h1, h2⟩ := preC_ok h i (Nat.le_of_lt hi)
    exact insert_cnt _ (by omega) _ (cntK_le _ _) _
def cntE (g : Graph) : List Cnt := g.edges.map fun e => ⟨e.type, gN g e.from_, gN g e.to_, 1⟩
theorem cntG_ok {t : Types} {g : Graph} (h : typed18 t g = 0) : CntOk (cntG g) ∧ CntOk (cntE g) := by
  obtain ⟨h1, h2, h3, h4⟩ := typed18_of h
  have hle := graphF_le h2
  have hin := graphF_in h2
  have hv := valid_of h1
  have hN := hv.fewN
  have hE := hv.fewE
  have hgN : ∀ n : Int, 0 ≤ n → n < g.nodes.length → 0 ≤ gN g n ∧ gN g n < t.nodes.length := fun n hn0 hn1 => by
    have hf : n.toNat < g.nodes.length := by omega
    have : gN g n = g.nodes[n.toNat] := by simp [gN, List.getElem?_eq_getElem hf]
    rw [this]
    exact h3 _ (List.getElem_mem hf)
  refine ⟨cntOk_of (by simp only [cntG, List.length_map]; omega) fun x hx => ?_, cntOk_of (by simp only [cntE, List.length_map]; omega) fun x hx => ?_⟩
  · simp only [cntG, List.mem_map] at hx
    obtain ⟨n, hn, rfl⟩ := hx
    have := h3 n hn
    simp only [Cnt.tiny]; omega
  · simp only [cntE, List.mem_map] at hx
    obtain ⟨e, he, rfl⟩ := hx
    have a1 := hin.2 e he
    have a2 := h4 e he
    have a3 := hgN e.from_ (by omega) (by omega)
    have a4 := hgN e.to_ (by omega) (by omega)
    unfold edge18 at a2
    split at a2
    · cases a2
    · simp only [Cnt.tiny]; omega
theorem statistic_Of (t : Types) (ht : t.ok) (g : Graph) (Q : D → AHeap → Prop) (hQ0 : ∀ H', typed18 t g ≠ 0 → Q (.tup [.agg [.nil, .nil], dI (typed18 t g)]) H') (hQ : ∀ c c2 H', typed18 t g = 0 → (c.cl = true ∧ c.cell = true ∧ (∀ H, rsv1 H c = c)) → (c2.cl = true ∧ c2.cell = true ∧ (∀ H, rsv1 H c2 = c2)) → Q (.tup [.agg [c, c2], dI 0]) H') : ACalls Tryz.prog 44 [t.d, g.d] .emp Q := by
  refine (acalls_of_body (cfg := ⟨fun t => t == 4 || t == 7 || t == 11 || t == 1000000, fun _ => []⟩) Tz.mixed Tryz.func44 rfl rfl (Nat.le_of_ble_eq_true rfl) (by kernel_rfl) ?_)
  try simp [go_sem, seval]
  refine callQ_pure0 (statistic_typed t ht g) ((by first | rfl | (simp [go_sem, ← List.map_take, ← List.map_drop]; done))) ?_
  try simp [go_sem, seval]
  refine condQ_mk (fun h2 => ?_) (fun h2 => ?_)
  · try simp [go_sem] at h2
    try simp [go_sem, seval]
    exact hQ0 _ (by omega)
  · try simp [go_sem] at h2
    have hT : typed18 t g = 0 := by omega
    obtain ⟨ok, ok2⟩ := cntG_ok hT
    obtain ⟨_, hg0, hgn, _⟩ := typed18_of hT
    have hle := graphF_le hg0
    have hin := graphF_in hg0
    try simp [go_sem, seval]
    repeat (first | intro _ | (refine ⟨obs, ?_⟩))
    obtain ⟨I0, hI0⟩ : ∃ I0 : Nat → Env → AHeap → Prop, ∀ (i : Nat) (e : Env) (H : AHeap), I0 i e H ↔ (∃ c : D, (e 2 = .adr t.c) ∧ (e 3 = .adr g.c) ∧ (e 4 = .ptr 0 1 0 0) ∧ (e 7 = .ptr 1 1 0 0) ∧ (e 20 = dLI g.nodes) ∧ (e 21 = dI g.nodes.length) ∧ (e 22 = dI i) ∧ (H.get 0 = some ⟨106, 2, [[.nil, .nil]], false⟩) ∧ (0 < H.next) ∧ (H.get 1 = some ⟨106, 2, [[c, .nil]], false⟩) ∧ (1 < H.next) ∧ (i ≤ g.nodes.length) ∧ (c = .nil ∨ ∃ es, c = .list es) ∧ (c.cl = true ∧ Own Tryz.prog 121 [c] 144 4 ((preC (cntG g) i).map Cnt.c))) := ⟨fun i e H => _, fun _ _ _ => Iff.rfl⟩
    refine loopK I0 (fun i => g.nodes.length - i) (0) ((hI0 _ _ _).2 ⟨(.nil), ?_, ?_, ?_, ?_, ?_, ?_, ?_, ?_, ?_, ?_, ?_, (by first | assumption | omega | (simp [go_sem]; done) | (simp_all; done)), (by exact .inl rfl), (by exact ⟨rfl, clone_cnt0⟩)⟩) ?_
    iterate 11 (first | omega | (simp [go_sem, seval] <;> omega))
    intro i e H hi0
    obtain ⟨c, q2_0, q3_0, q4_0, q7_0, q20_0, q21_0, q22_0, g0_0, n0_0, g1_0, n1_0, hi, hcv, hc⟩ := (hI0 _ _ _).1 hi0
    have x0 := frs n0_0
    have x1 := frs n1_0
    have F0 := And.intro q2_0 (And.intro q3_0 (And.intro q4_0 (And.intro q7_0 (And.intro q20_0 (And.intro q21_0 (And.intro q22_0 (And.intro g0_0 (And.intro g1_0 (And.intro x0 x1)))))))))
    have hcl : c.cl = true := hc.1
    have hr1 : ∀ H, rsv1 H c = c := fun H => by rcases hcv with rfl | ⟨es, rfl⟩ <;> rfl
    have hr2 : ids1 c = [] := by rcases hcv with rfl | ⟨es, rfl⟩ <;> rfl
    have hr3 : c.cell = true := by rcases hcv with rfl | ⟨es, rfl⟩ <;> rfl
    have hr4 := hr3
    unfold D.cell at hr4
    try simp [go_sem, seval, F0, hcl, hr1, hr2, hr3, hr4]
    refine condQ_mk (fun h6 => ?_) (fun h6 => ?_)
    · try simp [go_sem] at h6
      have hil : i < (cntG g).length := by unfold cntG; rw [List.length_map]; exact h6
      have hx : (cntG g)[i] = ⟨g.nodes[i], 0, 0, 1⟩ := by simp [cntG]
      have hps := preC_succ hil
      rw [hx] at hps
      try simp [go_sem, seval, F0, hcl, hr1, hr2, hr3, hr4, h6, h6, List.getElem?_eq_getElem h6, hps]
      repeat (first | intro _ | (refine ⟨obs, ?_⟩))
      refine callQ_own0 ((by have hq := statistic_counted c (preC (cntG g) i) (ok.pre i (Nat.le_of_lt hil)).1 hc.2 hc.1 (ok.pre i (Nat.le_of_lt hil)).2 ((cntG g)[i]'hil) (ok.sm _ (List.getElem_mem _)) (ok.ins i hil); simp only [hx] at hq; exact hq)) ((by first | rfl | (simp [go_sem, ← List.map_take, ← List.map_drop, F0, hcl, hr1, hr2, hr3, hr4, h6, h6, List.getElem?_eq_getElem h6, hps]; done))) ?_
      try simp [go_sem, seval, F0, hcl, hr1, hr2, hr3, hr4, h6, h6, List.getElem?_eq_getElem h6, hps]
      repeat (first | intro _ | (refine ⟨obs, ?_⟩))
      refine nextQ_mk (i + 1) (by omega) ((hI0 _ _ _).2 ⟨(.list ((preC (cntG g) (i + 1)).map Cnt.c)), ?_, ?_, ?_, ?_, ?_, ?_, ?_, ?_, ?_, ?_, ?_, (by first | assumption | omega | (simp [go_sem, F0, hcl, hr1, hr2, hr3, hr4, h6, h6, List.getElem?_eq_getElem h6, hps, h2]; done) | (simp_all; done) | (simp_all; omega)), (by exact .inr ⟨_, rfl⟩), (by (exact ⟨by simp [go_sem], clone_cnt _ (Nat.le_trans (ok.pre (i + 1) hil).1 (by decide))⟩))⟩) <;> first | omega | (simp [go_sem, seval, F0, hcl, hr1, hr2, hr3, hr4, h6, h6, List.getElem?_eq_getElem h6, hps] <;> omega)
    · try simp [go_sem] at h6
      try simp [go_sem, seval, F0, hcl, hr1, hr2, hr3, hr4]
      repeat (first | intro _ | (refine ⟨obs, ?_⟩))
      obtain ⟨I2, hI2⟩ : ∃ I2 : Nat → Env → AHeap → Prop, ∀ (k : Nat) (e : Env) (H : AHeap), I2 k e H ↔ (∃ c2 : D, (e 2 = .adr t.c) ∧ (e 3 = .adr g.c) ∧ (e 4 = .ptr 0 1 0 0) ∧ (e 7 = .ptr 1 1 0 0) ∧ (e 34 = .list (g.edges.map Edge.c)) ∧ (e 35 = dI g.edges.length) ∧ (e 36 = dI k) ∧ (H.get 0 = some ⟨106, 2, [[.nil, .nil]], false⟩) ∧ (0 < H.next) ∧ (H.get 1 = some ⟨106, 2, [[c, c2]], false⟩) ∧ (1 < H.next) ∧ (k ≤ g.edges.length) ∧ (c2 = .nil ∨ ∃ es, c2 = .list es) ∧ (c2.cl = true ∧ Own Tryz.prog 121 [c2] 144 4 ((preC (cntE g) k).map Cnt.c))) := ⟨fun k e H => _, fun _ _ _ => Iff.rfl⟩
      refine loopK I2 (fun k => g.edges.length - k) (0) ((hI2 _ _ _).2 ⟨(.nil), ?_, ?_, ?_, ?_, ?_, ?_, ?_, ?_, ?_, ?_, ?_, (by first | assumption | omega | (simp [go_sem, F0, hcl, hr1, hr2, hr3, hr4]; done) | (simp_all; done)), (by exact .inl rfl), (by exact ⟨rfl, clone_cnt0⟩)⟩) ?_
      iterate 11 (first | omega | (simp [go_sem, seval, F0, hcl, hr1, hr2, hr3, hr4] <;> omega))
      intro k e H hi2
      obtain ⟨c2, q2_2, q3_2, q4_2, q7_2, q34_2, q35_2, q36_2, g0_2, n0_2, g1_2, n1_2, hk, hcv2, hc2⟩ := (hI2 _ _ _).1 hi2
      have x0 := frs n0_2
      have x1 := frs n1_2
      have F2 := And.intro q2_2 (And.intro q3_2 (And.intro q4_2 (And.intro q7_2 (And.intro q34_2 (And.intro q35_2 (And.intro q36_2 (And.intro g0_2 (And.intro g1_2 (And.intro x0 x1)))))))))
      have hcl2 : c2.cl = true := hc2.1
      have hs1 : ∀ H, rsv1 H c2 = c2 := fun H => by rcases hcv2 with rfl | ⟨es, rfl⟩ <;> rfl
      have hs2 : ids1 c2 = [] := by rcases hcv2 with rfl | ⟨es, rfl⟩ <;> rfl
      have hs3 : c2.cell = true := by rcases hcv2 with rfl | ⟨es, rfl⟩ <;> rfl
      have hs4 := hs3
      unfold D.cell at hs4
      try simp [go_sem, seval, hcl, hr1, hr2, hr3, hr4, F2, hcl2, hs1, hs2, hs3, hs4]
      refine condQ_mk (fun h11 => ?_) (fun h11 => ?_)
      · try simp [go_sem] at h11
        have hkl : k < (cntE g).length := by unfold cntE; rw [List.length_map]; exact h11
        have he := hin.2 _ (List.getElem_mem h11)
        have hf : g.edges[k].from_.toNat < g.nodes.length := by omega
        have hto : g.edges[k].to_.toNat < g.nodes.length := by omega
        have hgf : gN g g.edges[k].from_ = g.nodes[g.edges[k].from_.toNat] := by simp [gN, List.getElem?_eq_getElem hf]
        have hgt : gN g g.edges[k].to_ = g.nodes[g.edges[k].to_.toNat] := by simp [gN, List.getElem?_eq_getElem hto]
        have hx2 : (cntE g)[k] = ⟨g.edges[k].type, g.nodes[g.edges[k].from_.toNat], g.nodes[g.edges[k].to_.toNat], 1⟩ := by simp [cntE, hgf, hgt]
        have hps2 := preC_succ hkl
        rw [hx2] at hps2
        try simp [go_sem, seval, hcl, hr1, hr2, hr3, hr4, F2, hcl2, hs1, hs2, hs3, hs4, h11, h11, List.getElem?_eq_getElem h11, hps2, List.getElem?_eq_getElem hf, List.getElem?_eq_getElem hto]
        repeat (first | intro _ | (refine ⟨obs, ?_⟩))
        refine dcallQ_pure0 ((by have hq := (statistic_counted c2 (preC (cntE g) k) (ok2.pre k (Nat.le_of_lt hkl)).1 hc2.2 hc2.1 (ok2.pre k (Nat.le_of_lt hkl)).2 ((cntE g)[k]'hkl) (ok2.sm _ (List.getElem_mem _)) (ok2.ins k hkl)).pure; simp only [hx2] at hq; exact hq)) ((by first | rfl | (simp [go_sem, ← List.map_take, ← List.map_drop, hcl, hr1, hr2, hr3, hr4, F2, hcl2, hs1, hs2, hs3, hs4, h11, h11, List.getElem?_eq_getElem h11, hps2, List.getElem?_eq_getElem hf, List.getElem?_eq_getElem hto]; done))) ?_
        try simp [go_sem, seval, hcl, hr1, hr2, hr3, hr4, F2, hcl2, hs1, hs2, hs3, hs4, h11, h11, List.getElem?_eq_getElem h11, hps2, List.getElem?_eq_getElem hf, List.getElem?_eq_getElem hto]
        repeat (first | intro _ | (refine ⟨obs, ?_⟩))
        refine nextQ_mk (k + 1) (by omega) ((hI2 _ _ _).2 ⟨(.list ((preC (cntE g) (k + 1)).map Cnt.c)), ?_, ?_, ?_, ?_, ?_, ?_, ?_, ?_, ?_, ?_, ?_, (by first | assumption | omega | (simp [go_sem, hcl, hr1, hr2, hr3, hr4, F2, hcl2, hs1, hs2, hs3, hs4, h11, h11, List.getElem?_eq_getElem h11, hps2, List.getElem?_eq_getElem hf, List.getElem?_eq_getElem hto, h2, h6]; done) | (simp_all; done) | (simp_all; omega)), (by exact .inr ⟨_, rfl⟩), (by (exact ⟨by simp [go_sem], clone_cnt _ (Nat.le_trans (ok2.pre (k + 1) hkl).1 (by decide))⟩))⟩) <;> first | omega | (simp [go_sem, seval, hcl, hr1, hr2, hr3, hr4, F2, hcl2, hs1, hs2, hs3, hs4, h11, h11, List.getElem?_eq_getElem h11, hps2, List.getElem?_eq_getElem hf, List.getElem?_eq_getElem hto] <;> omega)
      · try simp [go_sem] at h11
        try simp [go_sem, seval, hcl, hr1, hr2, hr3, hr4, F2, hcl2, hs1, hs2, hs3, hs4]
        exact hQ c c2 _ hT ⟨hcl, hr3, hr1⟩ ⟨hcl2, hs3, hs1⟩
end Go.Abs
end
section
set_option linter.unusedVariables false
set_option linter.unusedSimpArgs false
set_option maxRecDepth 8000
set_option maxHeartbeats 400000
open Go Go.Proofs
namespace Go.Abs
theorem ACalls.nz {P : Program} {f : FuncId} {args args' : List D} {H : AHeap} {Q : D → AHeap → Prop} (ha : args.map nzA = args') (h : ACalls P f args' H Q) : ACalls P f args H Q := by
  subst ha
  refine ⟨h.1, fun M0 σ w vals hR hv => h.2 M0 σ w vals hR ⟨by simpa using hv.len, fun j u d hu hd => ?_⟩⟩
  rw [List.getElem?_map, Option.map_eq_some_iff] at hd
  obtain ⟨y, hy, rfl⟩ := hd
  exact nzA_rep (hv.rep j u y hu hy)
theorem twoT_few : fewT twoT = true := by decide +kernel
theorem two_few : fewRs [splitR, dropR] = true := by decide +kernel
theorem awakeS : stV twoT [splitR, dropR] = [⟨[3, 1], [0, 1]⟩] := by decide +kernel
theorem awakeF : findE twoT [splitR, dropR] = 0 := by decide +kernel
theorem awakeK : rankE twoT [⟨[3, 1], [0, 1]⟩] ⟨[0, 1, 1], []⟩ = 0 := by decide +kernel
theorem awakeV : rankF twoT [⟨[3, 1], [0, 1]⟩] ⟨[0, 1, 1], []⟩ = [5] := by decide +kernel
theorem awakeC : chkF twoT [splitR, dropR] [⟨[3, 1], [0, 1]⟩] = true := by decide +kernel
theorem law41_awake : Pure Tryz.prog 9 [] (.bool true) := by
  have ht := fewT_ok twoT_few
  have hr := (fewRs_ok two_few).2
  refine pureK (by first | rfl | (simp [go_sem]; done)) (fun Q hQ => (acalls_of_body (cfg := ⟨fun _ => false, fun _ => []⟩) Tz.mixed Tryz.func9 rfl rfl (Nat.le_of_ble_eq_true rfl) (by kernel_rfl) ?_))
  try simp [go_sem, seval, awakeS, awakeF, awakeK, awakeV, awakeC]
  refine callQ_pure0 (law41_two) ((by first | rfl | (simp [go_sem, ← List.map_take, ← List.map_drop, awakeS, awakeF, awakeK, awakeV, awakeC]; done))) ?_
  try simp [go_sem, seval, awakeS, awakeF, awakeK, awakeV, awakeC]
  refine callQ_pure0 (law41_rules) ((by first | rfl | (simp [go_sem, ← List.map_take, ← List.map_drop, awakeS, awakeF, awakeK, awakeV, awakeC]; done))) ?_
  try simp [go_sem, seval, awakeS, awakeF, awakeK, awakeV, awakeC]
  refine callQ_pure0 (counting_Find twoT ht [splitR, dropR] hr) ((by first | rfl | (simp [go_sem, ← List.map_take, ← List.map_drop, awakeS, awakeF, awakeK, awakeV, awakeC]; done))) ?_
  try simp [go_sem, seval, awakeS, awakeF, awakeK, awakeV, awakeC]
  refine callQ_pure0 (law41_two) ((by first | rfl | (simp [go_sem, ← List.map_take, ← List.map_drop, awakeS, awakeF, awakeK, awakeV, awakeC]; done))) ?_
  try simp [go_sem, seval, awakeS, awakeF, awakeK, awakeV, awakeC]
  unfold callQ; refine ACalls.nz (args' := [twoT.d, .list ([(⟨[3, 1], [0, 1]⟩ : Stage)].map Stage.c), Graph.d ⟨[0, 1, 1], []⟩]) (by simp [go_sem, twoT, NodeTy.c, Stage.c, Types.d, Types.c, Graph.d, Graph.c, dLI, dI, cI, dLS]) (ACalls.pure0 (counting_Rank_awake ht) (by simp [go_sem]) ?_)
  try simp [go_sem, seval, awakeS, awakeF, awakeK, awakeV, awakeC]
  repeat (first | intro _ | (refine ⟨obl, ?_⟩))
  refine gcallQ_pure0 (fun hg => ref41_SameStages [⟨[3, 1], [0, 1]⟩] [⟨[3, 1], [0, 1]⟩]) (fun hg => (by first | rfl | (simp [go_sem, ← List.map_take, ← List.map_drop, awakeS, awakeF, awakeK, awakeV, awakeC]; done))) ?_
  try simp [go_sem, seval, awakeS, awakeF, awakeK, awakeV, awakeC]
  repeat (first | intro _ | (refine ⟨obl, ?_⟩))
  refine gcallQ_pure0 (fun hg => equal_int [5] [5]) (fun hg => (by first | rfl | (simp [go_sem, ← List.map_take, ← List.map_drop, awakeS, awakeF, awakeK, awakeV, awakeC]; done))) ?_
  try simp [go_sem, seval, awakeS, awakeF, awakeK, awakeV, awakeC]
  repeat (first | intro _ | (refine ⟨obl, ?_⟩))
  refine gcallQ_pure0 (fun hg => law41_two) (fun hg => (by first | rfl | (simp [go_sem, ← List.map_take, ← List.map_drop, awakeS, awakeF, awakeK, awakeV, awakeC]; done))) ?_
  try simp [go_sem, seval, awakeS, awakeF, awakeK, awakeV, awakeC]
  repeat (first | intro _ | (refine ⟨obl, ?_⟩))
  refine gcallQ_pure0 (fun hg => law41_rules) (fun hg => (by first | rfl | (simp [go_sem, ← List.map_take, ← List.map_drop, awakeS, awakeF, awakeK, awakeV, awakeC]; done))) ?_
  try simp [go_sem, seval, awakeS, awakeF, awakeK, awakeV, awakeC]
  repeat (first | intro _ | (refine ⟨obl, ?_⟩))
  refine gcallQ_pure0 (fun hg => counting_Check twoT ht [splitR, dropR] hr [⟨[3, 1], [0, 1]⟩]) (fun hg => (by first | rfl | (simp [go_sem, ← List.map_take, ← List.map_drop, awakeS, awakeF, awakeK, awakeV, awakeC]; done))) ?_
  try simp [go_sem, seval, awakeS, awakeF, awakeK, awakeV, awakeC]
  repeat (first | intro _ | (refine ⟨obl, ?_⟩))
  exact hQ _ _ (by simp [go_sem, awakeS, awakeF, awakeK, awakeV, awakeC] <;> first | omega | (rw [Bool.eq_iff_iff]; simp <;> omega) | (simp_all <;> omega))
theorem light_few {t : Types} {rs : List Rule} (h : lightB t rs = true) : fewT t = true ∧ fewRs rs = true := by
  unfold lightB at h
  cases h1 : fewT t <;> cases h2 : fewRs rs <;> simp [h1, h2] at h ⊢
theorem law41_CountingCheck (t : Types) (h1 : ∀ n ∈ t.nodes, n.attrs.length ≤ 1000000000000000) (rs : List Rule) (hr0 : ∀ r ∈ rs, r.le) (st : List Stage) : Pure Tryz.prog 3 [t.d, .list (rs.map Rule.c), .list (st.map Stage.c)] (.bool true) := by
  refine pureK (by first | rfl | (simp [go_sem]; done)) (fun Q hQ => (acalls_of_body (cfg := ⟨fun _ => false, fun _ => []⟩) Tz.mixed Tryz.func3 rfl rfl (Nat.le_of_ble_eq_true rfl) (by kernel_rfl) ?_))
  try simp [go_sem, seval]
  repeat (first | intro _ | (refine ⟨obl, ?_⟩))
  refine callQ_pure0 (law41_awake) ((by first | rfl | (simp [go_sem, ← List.map_take, ← List.map_drop]; done))) ?_
  try simp [go_sem, seval]
  repeat (first | intro _ | (refine ⟨obl, ?_⟩))
  refine gcallQ_pure0 (fun hg => ref41_Light t h1 rs hr0) (fun hg => (by first | rfl | (simp [go_sem, ← List.map_take, ← List.map_drop]; done))) ?_
  try simp [go_sem, seval]
  repeat (first | intro _ | (refine ⟨obl, ?_⟩))
  refine gcallQ_pure0 (fun hg => containsFunc_stage st 12 [] bigB rfl (by simp [go_sem]) (fun x _ => law41_Check1 x)) (fun hg => (by first | rfl | (simp [go_sem, ← List.map_take, ← List.map_drop]; done))) ?_
  try simp [go_sem, seval]
  repeat (first | intro _ | (refine ⟨obl, ?_⟩))
  refine condQ_mk (fun h1 => ?_) (fun h1 => ?_)
  · try simp [go_sem] at h1
    try simp [go_sem, seval]
    refine callQ_pure0 (law41_awake) ((by first | rfl | (simp [go_sem, ← List.map_take, ← List.map_drop]; done))) ?_
    try simp [go_sem, seval]
    exact hQ _ _ (by simp [go_sem, h1] <;> first | omega | (rw [Bool.eq_iff_iff]; simp <;> omega) | (simp_all <;> omega))
  · try simp [go_sem] at h1
    have hL : lightB t rs = true := h1.1.1
    have hlen : st.length ≤ 10 := by have := h1.1.2; omega
    have ht := fewT_ok (light_few hL).1
    have hr := (fewRs_ok (light_few hL).2).2
    try simp [go_sem, seval]
    refine dcallQ_pure0 ((clone_stage st (by omega)).pure) ((by first | rfl | (simp [go_sem, ← List.map_take, ← List.map_drop]; done))) ?_
    try simp [go_sem, seval]
    refine dcallQ_pure0 (counting_Check t ht rs hr st) ((by first | rfl | (simp [go_sem, ← List.map_take, ← List.map_drop]; done))) ?_
    try simp [go_sem, seval]
    refine dcallQ_pure0 (ref41_Check t ht rs hr st) ((by first | rfl | (simp [go_sem, ← List.map_take, ← List.map_drop]; done))) ?_
    try simp [go_sem, seval]
    exact hQ _ _ (by simp [go_sem, h1] <;> first | omega | (rw [Bool.eq_iff_iff]; simp <;> omega) | (simp_all <;> omega))
end Go.Abs
end
section
set_option linter.unusedVariables false
set_option linter.unusedSimpArgs false
set_option maxRecDepth 8000
set_option maxHeartbeats 2000000
open Go Go.Proofs
namespace Go.Abs
theorem counting_Rank (t : Types) (ht : t.ok) (st : List Stage) (g : Graph) : Pure Tryz.prog 18 [t.d, .list (st.map Stage.c), g.d] (.tup [dLI (rankF t st g), dI (rankE t st g)]) := by
  have hSt : PureE Tryz.prog 44 [t.d, g.d] (fun r => ∃ c c2, c.cell = true ∧ c2.cell = true ∧ r = .tup [.agg [c, c2], dI (typed18 t g)]) :=
    pureE_of_calls (statistic_Of t ht g _ (fun H' h => by
      have e : rsvT H' (.tup [.agg [.nil, .nil], dI (typed18 t g)]) = .tup [.agg [.nil, .nil], dI (typed18 t g)] := by simp [go_sem, dI]
      rw [e]
      exact ⟨⟨.nil, .nil, rfl, rfl, rfl⟩, by simp [go_sem, dI]⟩) fun c c2 H' hT ⟨h1, h2, h3⟩ ⟨k1, k2, k3⟩ => by
      have e : rsvT H' (.tup [.agg [c, c2], dI 0]) = .tup [.agg [c, c2], dI 0] := by simp [go_sem, h3, k3, dI]
      rw [e]
      exact ⟨⟨c, c2, h2, k2, by rw [hT]⟩, by simp [go_sem, h1, k1, dI]⟩)
  refine pureK (by first | rfl | (simp [go_sem]; done)) (fun Q hQ => (acalls_of_body (cfg := ⟨fun t => t == 8 || t == 10 || t == 12, fun _ => []⟩) Tz.mixed Tryz.func18 rfl rfl (Nat.le_of_ble_eq_true rfl) (by kernel_rfl) ?_))
  try simp [go_sem, seval]
  unfold callQ; refine ACalls.pureE hSt (by simp [go_sem]) (fun r hR hrc => ?_); obtain ⟨c, c2, hr3, hr5, rfl⟩ := hR; have hr4 := hr3; unfold D.cell at hr4; have hr6 := hr5; unfold D.cell at hr6
  try simp [go_sem, seval, hr3, hr4, hr5, hr6]
  refine condQ_mk (fun h2 => ?_) (fun h2 => ?_)
  · try simp [go_sem] at h2
    have hE : rankE t st g = typed18 t g := by unfold rankE; rw [if_pos h2]
    have hF : rankF t st g = [] := if_neg (by rw [hE]; exact h2)
    try simp [go_sem, seval, hr3, hr4, hr5, hr6]
    exact hQ _ _ (by first | (left; (simp [go_sem, hF, hE]); done) | (right; (simp [go_sem, hF, hE]); done))
  · try simp [go_sem] at h2
    have hT : typed18 t g = 0 := by omega
    try simp [go_sem, seval, hr3, hr4, hr5, hr6]
    repeat (first | intro _ | (refine ⟨obl, ?_⟩))
    refine condQ_mk (fun h4 => ?_) (fun h4 => ?_)
    · try simp [go_sem] at h4
      have hE : rankE t st g = 3 := by unfold rankE; rw [if_neg (by omega), if_pos (by omega)]
      try simp [go_sem, seval, hr3, hr4, hr5, hr6]
      exact hQ _ _ (by first | (left; (simp [go_sem, rankF, hE]); done) | (right; (simp [go_sem, rankF, hE]); done))
    · try simp [go_sem] at h4
      have hE : rankE t st g = listE (fun s => weightE t s.weights g) st := by unfold rankE; rw [if_neg (by omega), if_neg (by omega)]
      try simp [go_sem, seval, hr3, hr4, hr5, hr6]
      repeat (first | intro _ | (refine ⟨obl, ?_⟩))
      obtain ⟨I0, hI0⟩ : ∃ I0 : Nat → Env → AHeap → Prop, ∀ (i : Nat) (e : Env) (H : AHeap), I0 i e H ↔ (∃ xs : List Int, (e 3 = .adr t.c) ∧ (e 5 = .adr g.c) ∧ (e 1 = .list (st.map Stage.c)) ∧ (e 10 = .own 1 xs.length) ∧ (e 27 = .list (st.map Stage.c)) ∧ (e 28 = dI st.length) ∧ (e 29 = dI i) ∧ (H.get 1 = some ⟨3, 1, xs.map cI, false⟩) ∧ (1 < H.next) ∧ (i ≤ st.length) ∧ (xs = (st.take i).map (fun s => weightF t s.weights g)) ∧ (listE (fun s => weightE t s.weights g) (st.drop i) = rankE t st g)) := ⟨fun i e H => _, fun _ _ _ => Iff.rfl⟩
      refine loopK I0 (fun i => st.length - i) (0) ((hI0 _ _ _).2 ⟨([]), ?_, ?_, ?_, ?_, ?_, ?_, ?_, ?_, ?_, (by first | assumption | omega | (simp [go_sem, hr3, hr4, hr5, hr6]; done) | (simp_all; done)), (by rfl), (by (exact hE.symm))⟩) ?_
      iterate 9 (first | omega | (simp [go_sem, seval, hr3, hr4, hr5, hr6] <;> omega))
      intro i e H hi0
      obtain ⟨xs, q3_0, q5_0, q1_0, q10_0, q27_0, q28_0, q29_0, g1_0, n1_0, hi, hx, hL⟩ := (hI0 _ _ _).1 hi0
      have x1 := frs n1_0
      have F0 := And.intro q3_0 (And.intro q5_0 (And.intro q1_0 (And.intro q10_0 (And.intro q27_0 (And.intro q28_0 (And.intro q29_0 (And.intro g1_0 x1)))))))
      try simp [go_sem, seval, hr3, hr4, hr5, hr6, F0]
      refine condQ_mk (fun h8 => ?_) (fun h8 => ?_)
      · try simp [go_sem] at h8
        have hst := hL
        rw [listE_step _ h8] at hst
        have hxl : xs.length = i := by rw [hx]; simp; omega
        try simp [go_sem, seval, hr3, hr4, hr5, hr6, F0, h8]
        repeat (first | intro _ | (refine ⟨obl, ?_⟩))
        refine callQ_pure0 (weight_Of t ht st[i].weights g) ((by first | rfl | (simp [go_sem, ← List.map_take, ← List.map_drop, hr3, hr4, hr5, hr6, F0, h8]; done))) ?_
        try simp [go_sem, seval, hr3, hr4, hr5, hr6, F0, h8]
        repeat (first | intro _ | (refine ⟨obl, ?_⟩))
        refine condQ_mk (fun h11 => ?_) (fun h11 => ?_)
        · try simp [go_sem] at h11
          rw [if_pos (by omega)] at hst
          have hF : rankF t st g = [] := if_neg (by omega)
          try simp [go_sem, seval, hr3, hr4, hr5, hr6, F0, h8]
          exact hQ _ _ (by first | (left; (simp [go_sem, hF, ← hst]); done) | (right; (simp [go_sem, hF, ← hst]); done))
        · try simp [go_sem] at h11
          rw [if_neg (by omega)] at hst
          try simp [go_sem, seval, hr3, hr4, hr5, hr6, F0, h8]
          repeat (first | intro _ | (refine ⟨obl, ?_⟩))
          refine nextQ_mk (i + 1) (by omega) ((hI0 _ _ _).2 ⟨(xs ++ [weightF t st[i].weights g]), ?_, ?_, ?_, ?_, ?_, ?_, ?_, ?_, ?_, (by first | assumption | omega | (simp [go_sem, hr3, hr4, hr5, hr6, F0, h8, h2, h4, h11]; done) | (simp_all; done) | (simp_all; omega)), (by (rw [map_take_succ _ h8, ← hx])), (by exact hst)⟩) <;> first | omega | (simp [go_sem, seval, hr3, hr4, hr5, hr6, F0, h8] <;> omega)
      · try simp [go_sem] at h8
        have hL0 : rankE t st g = 0 := by rw [← hL, listE_end _ (by omega)]
        have hX : xs = rankF t st g := by unfold rankF; rw [if_pos hL0, hx, map_take_end _ (by omega)]
        try simp [go_sem, seval, hr3, hr4, hr5, hr6, F0]
        exact hQ _ _ (by first | (left; (simp [go_sem, hr3, hr4, hr5, hr6, F0, hL0, ← hX]); done) | (right; (simp [go_sem, hr3, hr4, hr5, hr6, F0, hL0, ← hX]); done))
theorem law41_CountingRank (t : Types) (h1 : ∀ n ∈ t.nodes, n.attrs.length ≤ 1000000000000000) (st : List Stage) (g : Graph) : Pure Tryz.prog 4 [t.d, .list (st.map Stage.c), g.d] (.bool true) := by
  refine pureK (by first | rfl | (simp [go_sem]; done)) (fun Q hQ => (acalls_of_body (cfg := ⟨fun _ => false, fun _ => []⟩) Tz.mixed Tryz.func4 rfl rfl (Nat.le_of_ble_eq_true rfl) (by kernel_rfl) ?_))
  try simp [go_sem, seval]
  repeat (first | intro _ | (refine ⟨obl, ?_⟩))
  refine callQ_pure0 (law41_awake) ((by first | rfl | (simp [go_sem, ← List.map_take, ← List.map_drop]; done))) ?_
  try simp [go_sem, seval]
  repeat (first | intro _ | (refine ⟨obl, ?_⟩))
  refine gcallQ_pure0 (fun hg => ref04_Few t h1) (fun hg => (by first | rfl | (simp [go_sem, ← List.map_take, ← List.map_drop]; done))) ?_
  try simp [go_sem, seval]
  repeat (first | intro _ | (refine ⟨obl, ?_⟩))
  refine gcallQ_pure0 (fun hg => containsFunc_stage st 17 [] bigB rfl (by simp [go_sem]) (fun x _ => law41_Rank1 x)) (fun hg => (by first | rfl | (simp [go_sem, ← List.map_take, ← List.map_drop]; done))) ?_
  try simp [go_sem, seval]
  repeat (first | intro _ | (refine ⟨obl, ?_⟩))
  refine condQ_mk (fun h1 => ?_) (fun h1 => ?_)
  · try simp [go_sem] at h1
    try simp [go_sem, seval]
    refine callQ_pure0 (law41_awake) ((by first | rfl | (simp [go_sem, ← List.map_take, ← List.map_drop]; done))) ?_
    try simp [go_sem, seval]
    exact hQ _ _ (by simp [go_sem, h1] <;> first | omega | (rw [Bool.eq_iff_iff]; simp <;> omega) | (simp_all <;> omega))
  · try simp [go_sem] at h1
    have hF : fewT t = true := h1.1.1.1.1
    have hlen : st.length ≤ 10 := by have := h1.1.2; omega
    have ht := fewT_ok hF
    try simp [go_sem, seval]
    refine dcallQ_pure0 ((clone_stage st (by omega)).pure) ((by first | rfl | (simp [go_sem, ← List.map_take, ← List.map_drop]; done))) ?_
    try simp [go_sem, seval]
    refine dcallQ_pure0 (counting_Rank t ht st g) ((by first | rfl | (simp [go_sem, ← List.map_take, ← List.map_drop]; done))) ?_
    try simp [go_sem, seval]
    refine callQ_pure0 (ref41_Rank t ht st g) ((by first | rfl | (simp [go_sem, ← List.map_take, ← List.map_drop]; done))) ?_
    try simp [go_sem, seval]
    repeat (first | intro _ | (refine ⟨obl, ?_⟩))
    refine gcallQ_pure0 (fun hg => equal_int (rankF t st g) (rankF t st g)) (fun hg => (by first | rfl | (simp [go_sem, ← List.map_take, ← List.map_drop]; done))) ?_
    try simp [go_sem, seval]
    repeat (first | intro _ | (refine ⟨obl, ?_⟩))
    exact hQ _ _ (by simp [go_sem, h1] <;> first | omega | (rw [Bool.eq_iff_iff]; simp <;> omega) | (simp_all <;> omega))
end Go.Abs
end
section
set_option linter.unusedVariables false
namespace Go.Abs
open Go.ChangeShapes Go.WideShapes Go.RowKit
structure Bulk {H : Type} (bulk : DataW H → Nat) : Prop where
  len : ∀ e s, e.length ≤ bulk (.slice e s)
  el : ∀ e s, ∀ d ∈ e, bulk d ≤ bulk (.slice e s)
  part : ∀ l, ∀ d ∈ l, bulk d ≤ bulk (.agg l)
  str : ∀ s : List UInt8, s.length ≤ bulk (.lit (.string s))
abbrev noM : Nat → Prop := fun _ => False
section
variable {H : Type} {enc : TypeId × Value → H} {P : Program} {w : World} {base : Nat} {spare : Nat → Bool} {held : Bool} {bulk : DataW H → Nat} {B : Nat}
def Opens (enc : TypeId × Value → H) (P : Program) (w : World) (base : Nat) (spare : Nat → Bool) (held : Bool) (bulk : DataW H → Nat) (B : Nat) (n : Nat) (t : TypeId) {α : Type} (C : α → List D) (G : α → Prop) : Prop :=
  ∀ (fuel : Nat) (cs : List Value) (x : DataW H × List MemPlace), fuel ≤ n → DataW.trod enc P w base spare held fuel t cs = some x → bulk x.1 ≤ B →
    ∃ a, G a ∧ RepL noM noRef noId w cs (C a) ∧ ∀ u ∈ cs, u.oneCell' = true
variable {n : Nat} {t : TypeId}
theorem Opens.mono {α : Type} {C : α → List D} {G : α → Prop} {m : Nat} (h : Opens enc P w base spare held bulk B n t C G) (hm : m ≤ n) : Opens enc P w base spare held bulk B m t C G :=
  fun fuel cs x hf hx hb => h fuel cs x (Nat.le_trans hf hm) hx hb
theorem Opens.zero {α : Type} {C : α → List D} {G : α → Prop} : Opens enc P w base spare held bulk B 0 t C G := fun fuel cs x hf hx _ => by
  have : fuel = 0 := by omega
  subst this
  simp [DataW.trod] at hx
theorem Opens.map {α β : Type} {C : α → List D} {G : α → Prop} {C' : β → List D} {G' : β → Prop} (h : Opens enc P w base spare held bulk B n t C G) (f : α → β) (hC : ∀ a, C a = C' (f a)) (hG : ∀ a, G a → G' (f a)) : Opens enc P w base spare held bulk B n t C' G' :=
  fun fuel cs x hf hx hb => by
    obtain ⟨a, h1, h2, h3⟩ := h fuel cs x hf hx hb
    exact ⟨f a, hG a h1, by rw [← hC]; exact h2, h3⟩
theorem repL_one {v : Value} {d : D} (h : RepV noM noRef noId w v d) : RepL noM noRef noId w [v] [d] :=
  ⟨rfl, fun j u x hu hx => by
    cases j with
    | zero => simp at hu hx; subst hu; subst hx; exact h
    | succ j => simp at hu⟩
theorem repL_app {a b : List Value} {c d : List D} (h : RepL noM noRef noId w a c) (k : RepL noM noRef noId w b d) : RepL noM noRef noId w (a ++ b) (c ++ d) := by
  refine ⟨by simp [h.len, k.len], fun j u x hu hx => ?_⟩
  by_cases hj : j < a.length
  · rw [List.getElem?_append_left hj] at hu
    rw [List.getElem?_append_left (by rw [← h.len]; exact hj)] at hx
    exact h.rep j u x hu hx
  · rw [List.getElem?_append_right (by omega)] at hu
    rw [List.getElem?_append_right (by rw [← h.len]; omega), ← h.len] at hx
    exact k.rep _ u x hu hx
theorem opens_bool (ht : P.underlying t = some .bool) : Opens enc P w base spare held bulk B n t (fun b : Bool => [D.bool b]) (fun _ => True) := fun fuel cs x _ hx _ => by
  obtain ⟨b, rfl, _⟩ := DataW.trod_bool ht hx
  exact ⟨b, trivial, repL_one (.bool b), by simp [Value.oneCell']⟩
theorem opens_int {k : IntKind} (ht : P.underlying t = some (.int k)) : Opens enc P w base spare held bulk B n t (fun z : Int => [D.int k z]) (fun z => (Lit.int k z).wf = true) := fun fuel cs x _ hx _ => by
  obtain ⟨z, rfl, _, hw⟩ := DataW.trod_int ht hx
  exact ⟨z, hw, repL_one (.int k z), by simp [Value.oneCell']⟩
theorem opens_string (hB : Bulk bulk) (ht : P.underlying t = some .string) : Opens enc P w base spare held bulk B n t (fun s : ByteArray => [D.str s]) (fun s => s.size ≤ B) := fun fuel cs x _ hx hb => by
  obtain ⟨s, rfl, rfl, hs⟩ := DataW.trod_string ht hx
  refine ⟨s, ?_, repL_one (.str s), by simp [Value.oneCell']⟩
  have := hB.str s.data.toList
  have hl : s.data.toList.length = s.size := by rw [Array.length_toList]; rfl
  simp only at hb
  omega
theorem rows {α : Type} {C : α → List D} {G : α → Prop} {ad : Addr} {sz : Nat} : ∀ (len : Nat),
    (∀ i, i < len → ∃ c a, w.cells? base (ad.add (i * sz)) sz = some c ∧ G a ∧ RepL noM noRef noId w c (C a) ∧ ∀ u ∈ c, u.oneCell' = true) →
    ∃ (l : List α) (xs : List Value), l.length = len ∧ (∀ a ∈ l, G a) ∧ RepL noM noRef noId w xs (l.map C).flatten ∧ (∀ u ∈ xs, u.oneCell' = true) ∧ xs.length = len * sz ∧
      (∀ (j : Nat) (u : Value), xs[j]? = some u → w.cell? (ad.add j) = some u) ∧ ∀ c ∈ l.map C, c.length = sz
  | 0, _ => ⟨[], [], rfl, by simp, ⟨rfl, fun j u d hu => by simp at hu⟩, by simp, by simp, by simp, by simp⟩
  | len + 1, h => by
    obtain ⟨l, xs, h1, h2, h3, h4, h5, h6, h7⟩ := rows len fun i hi => h i (by omega)
    obtain ⟨c, a, hc, hg, hr, h1c⟩ := h len (by omega)
    obtain ⟨_, hcl, hcell⟩ := World.cells?_some hc
    refine ⟨l ++ [a], xs ++ c, by simp [h1], fun b hb => ?_, ?_, fun u hu => ?_, by rw [List.length_append, h5, hcl, Nat.succ_mul], fun j u hu => ?_, fun b hb => ?_⟩
    · rcases List.mem_append.1 hb with h | h
      · exact h2 b h
      · simp at h; subst h; exact hg
    · rw [List.map_append, List.flatten_append]
      refine repL_app h3 ?_
      simpa using hr
    · rcases List.mem_append.1 hu with h | h
      · exact h4 u h
      · exact h1c u h
    · by_cases hj : j < xs.length
      · rw [List.getElem?_append_left hj] at hu; exact h6 j u hu
      · rw [List.getElem?_append_right (by omega)] at hu
        have hlt : j - xs.length < sz := by rw [← hcl]; exact (List.getElem?_eq_some_iff.1 hu).1
        have := hcell (j - xs.length) hlt
        rw [Addr.add_add, hu] at this
        rwa [show len * sz + (j - xs.length) = j by omega] at this
    · rw [List.map_append] at hb
      rcases List.mem_append.1 hb with h | h
      · exact h7 b h
      · simp at h; subst h; rw [← hr.len, hcl]
theorem opens_slice (hB : Bulk bulk) {e : TypeId} (ht : P.underlying t = some (.slice e)) {α : Type} {C : α → List D} {G : α → Prop} (h : Opens enc P w base spare held bulk B n e C G) :
    Opens enc P w base spare held bulk B (n + 1) t (fun l : List α => [.list (l.map C)]) (fun l => l.length ≤ B ∧ ∀ a ∈ l, G a) := fun fuel cs x hf hx hb => by
  rcases DataW.trod_slice ht hx with ⟨rfl, rfl⟩ | ⟨ad, len, cap, elems, rest, m, rfl, rfl, rfl, hbase, hlc, hcap, hlen, hel, _, _⟩
  · exact ⟨[], ⟨Nat.zero_le _, by simp⟩, repL_one .listN, by simp [Value.oneCell']⟩
  · simp only at hb
    have hb1 := hB.len (elems.map (·.1)) (rest.map (·.1))
    rw [List.length_map] at hb1
    obtain ⟨l, xs, h1, h2, h3, h4, h5, h6, h7⟩ := rows (w := w) (base := base) (C := C) (G := G) (ad := ad) (sz := P.cellsOf e) len fun i hi => by
      have := hel i hi
      rw [List.getElem?_eq_getElem (by omega), Option.bind_eq_some_iff] at this
      obtain ⟨c, hc, hd⟩ := this
      obtain ⟨a, g1, g2, g3⟩ := h m c _ (by omega) hd (Nat.le_trans (hB.el _ (rest.map (·.1)) _ (List.mem_map.2 ⟨_, List.getElem_mem (by omega), rfl⟩)) hb)
      exact ⟨c, a, hc, g1, g2, g3⟩
    refine ⟨l, ⟨by omega, h2⟩, repL_one ?_, by simp [Value.oneCell']⟩
    have key := RepV.list (M := noM) (σ := noRef) (N := noId) (w := w) ad cap (P.cellsOf e) xs (l.map C) (by rw [List.length_map]; omega) hcap h7 h3.len h4 (fun j u hu => ⟨fun h => h, h6 j u hu⟩) h3.rep
    rw [List.length_map, h1] at key
    exact key
def Segs (enc : TypeId × Value → H) (P : Program) (w : World) (base : Nat) (spare : Nat → Bool) (held : Bool) (bulk : DataW H → Nat) (B n : Nat) : List TypeId → List Value → Prop
  | [], cs => cs = []
  | t :: ts, cs => (∃ y, DataW.trod enc P w base spare held n t (cs.take (P.cellsOf t)) = some y ∧ bulk y.1 ≤ B) ∧ Segs enc P w base spare held bulk B n ts (cs.drop (P.cellsOf t))
def OpensL (enc : TypeId × Value → H) (P : Program) (w : World) (base : Nat) (spare : Nat → Bool) (held : Bool) (bulk : DataW H → Nat) (B : Nat) (n : Nat) (ts : List TypeId) {α : Type} (C : α → List D) (G : α → Prop) : Prop :=
  ∀ (fuel : Nat) (cs : List Value), fuel ≤ n → Segs enc P w base spare held bulk B fuel ts cs → ∃ a, G a ∧ RepL noM noRef noId w cs (C a) ∧ ∀ u ∈ cs, u.oneCell' = true
theorem opensL_nil : OpensL enc P w base spare held bulk B n [] (fun _ : Unit => []) (fun _ => True) := fun fuel cs _ h => by
  have h : cs = [] := h
  subst h
  exact ⟨(), trivial, ⟨rfl, fun j u d hu => by simp at hu⟩, by simp⟩
theorem opensL_cons {ts : List TypeId} {α β : Type} {C : α → List D} {G : α → Prop} {C' : β → List D} {G' : β → Prop} (h : Opens enc P w base spare held bulk B n t C G) (k : OpensL enc P w base spare held bulk B n ts C' G') :
    OpensL enc P w base spare held bulk B n (t :: ts) (fun p : α × β => C p.1 ++ C' p.2) (fun p => G p.1 ∧ G' p.2) := fun fuel cs hf hs => by
  obtain ⟨⟨y, hy, hyb⟩, hs⟩ := hs
  obtain ⟨a, a1, a2, a3⟩ := h fuel _ y hf hy hyb
  obtain ⟨b, b1, b2, b3⟩ := k fuel _ hf hs
  refine ⟨(a, b), ⟨a1, b1⟩, ?_, fun u hu => ?_⟩
  · have := repL_app a2 b2
    rwa [List.take_append_drop] at this
  · rw [← List.take_append_drop (P.cellsOf t) cs] at hu
    rcases List.mem_append.1 hu with h | h
    · exact a3 u h
    · exact b3 u h
def offs (P : Program) : Nat → List Field → Option Nat
  | o, [] => some o
  | o, f :: r => if f.offset = o then offs P (o + P.cellsOf f.type) r else none
theorem segs_of {fuel : Nat} {cs : List Value} : ∀ (fs : List Field) (o : Nat), offs P o fs = some cs.length →
    (∀ f ∈ fs, ∃ y, DataW.trod enc P w base spare held fuel f.type ((cs.drop f.offset).take (P.cellsOf f.type)) = some y ∧ bulk y.1 ≤ B) → o ≤ cs.length ∧ Segs enc P w base spare held bulk B fuel (fs.map (·.type)) (cs.drop o)
  | [], o, ho, _ => by
    simp only [offs, Option.some.injEq] at ho
    subst ho
    exact ⟨Nat.le_refl _, by show cs.drop cs.length = []; simp⟩
  | f :: fs, o, ho, h => by
    unfold offs at ho
    split at ho
    · rename_i hof
      subst hof
      obtain ⟨h1, h2⟩ := segs_of fs _ ho fun g hg => h g (by simp [hg])
      refine ⟨by omega, ?_⟩
      refine ⟨h f (by simp), ?_⟩
      rw [List.drop_drop]
      exact h2
    · cases ho
theorem opens_struct (hB : Bulk bulk) {fs : Array Field} (ht : P.underlying t = some (.struct fs)) (ho : offs P 0 fs.toList = some (P.cellsOf t)) {α : Type} {C : α → List D} {G : α → Prop} (h : OpensL enc P w base spare held bulk B n (fs.toList.map (·.type)) C G) :
    Opens enc P w base spare held bulk B (n + 1) t C G := fun fuel cs x hf hx hb => by
  obtain ⟨xs, m, rfl, rfl, hcl, hxl, hfl⟩ := DataW.trod_struct ht hx
  simp only at hb
  have hs := (segs_of (enc := enc) (P := P) (w := w) (base := base) (spare := spare) (held := held) (bulk := bulk) (B := B) (fuel := m) (cs := cs) fs.toList 0 (by rw [hcl]; exact ho) fun f hfm => by
    obtain ⟨i, hi, rfl⟩ := List.getElem_of_mem hfm
    have hi' : i < fs.size := by simpa using hi
    have hfi := hfl i (fs.toList[i]) (by simp [hi'])
    rw [List.getElem?_eq_getElem (by omega)] at hfi
    exact ⟨_, hfi, Nat.le_trans (hB.part _ _ (List.mem_map.2 ⟨_, List.getElem_mem (by omega), rfl⟩)) hb⟩).2
  rw [List.drop_zero] at hs
  exact h m cs (by omega) hs
theorem arg_struct {r : Reach} {b0 : Nat} {fs : Array Field} {v : Value} {d : DataW H} {ps : List MemPlace} {α : Type} {C : α → List D} {G : α → Prop} (ht : P.underlying t = some (.struct fs)) (h : ∀ n, Opens enc P w base spare held bulk B n t C G)
    (hval : Value.okWide P w r b0 t v) (hd : DataW.Trod enc P w base spare held t v d ps) (hb : bulk d ≤ B) : ∃ a, G a ∧ RepV noM noRef noId w v (.agg (C a)) := by
  obtain ⟨cs, rfl, _⟩ := okWide_struct ht hval
  obtain ⟨fuel, hf⟩ := hd
  obtain ⟨a, h1, h2, h3⟩ := h fuel fuel _ _ (Nat.le_refl _) hf hb
  have hc : (Value.agg cs).cells.toList = cs.toList := rfl
  rw [hc] at h2 h3
  have := RepV.agg (M := noM) (σ := noRef) (N := noId) (w := w) cs.toList (C a) h2.len h3 h2.rep
  exact ⟨a, h1, by simpa using this⟩
theorem arg_slice {r : Reach} {b0 : Nat} {e : TypeId} {v : Value} {d : DataW H} {ps : List MemPlace} {α : Type} {c : α → D} {G : α → Prop} (ht : P.underlying t = some (.slice e)) (h : ∀ n, Opens enc P w base spare held bulk B n t (fun a => [c a]) G)
    (hval : Value.okWide P w r b0 t v) (hd : DataW.Trod enc P w base spare held t v d ps) (hb : bulk d ≤ B) : ∃ a, G a ∧ RepV noM noRef noId w v (c a) := by
  obtain ⟨a0, len, cap, rfl⟩ := okWide_slice ht hval
  obtain ⟨fuel, hf⟩ := hd
  obtain ⟨a, h1, h2, h3⟩ := h fuel fuel _ _ (Nat.le_refl _) hf hb
  exact ⟨a, h1, h2.rep 0 _ _ rfl rfl⟩
theorem trodAll_stays (hl : laidOutB P = true) {W W' : World} {sp' : Nat → Bool} (hb : Below W.heap.size W W') : ∀ {ts : List TypeId} {vs : List Value} {ds : List (DataW H)} {ps : List MemPlace}, (∀ t ∈ ts, P.readableRec t = true ∧ t < P.types.size) →
    DataW.TrodAll enc P W 0 (fun _ => true) true ts vs ds ps → (∀ x ∈ ps, x.block < W.heap.size) → (∀ x ∈ ps, sp' x.block = true) → DataW.TrodAll enc P W' 0 sp' true ts vs ds ps
  | [], _, _, _, _, h, _, _ => by
    obtain ⟨rfl, rfl, rfl⟩ := trodAll_nil h
    rfl
  | t :: ts, _, _, _, hr, h, hlt, hs => by
    obtain ⟨v, vs, d, ds, p, q, rfl, rfl, rfl, h1, h2⟩ := trodAll_cons h
    refine ⟨p, q, WideElems.Trod_stays hl (hr t (by simp)).1 (hr t (by simp)).2 h1 (fun x hx => hb.same (hlt x (by simp [hx]))) (fun x hx => hs x (by simp [hx])), trodAll_stays hl hb (fun u hu => hr u (by simp [hu])) h2 (fun x hx => hlt x (by simp [hx])) (fun x hx => hs x (by simp [hx])), rfl⟩
theorem post_of_below (hl : laidOutB P = true) {f : Func} {s : ChangeSpec} {apart fresh handsOn again : Bool} {W W' : World} {args : Array Value} {v : Value} {ds gs : List (DataW H)} {before : List MemPlace}
    (hr : ∀ t ∈ f.params.toList, P.readableRec t = true ∧ t < P.types.size) (hvars : s.vars = []) (hW : DataW.Whole enc P f.params.toList s.vars apart W args.toList ds gs before)
    (hres : ∀ (b : Nat) (sp : Nat → Bool) (hd : Bool), DataW.TrodAll enc P W' b sp hd f.resultTypes.toList (v.resultList f.resultTypes.size) (s.fn H (ds ++ gs)).results [])
    (hargs : (s.fn H (ds ++ gs)).args = ds) (hvs : (s.fn H (ds ++ gs)).vars = []) (hb : Below W.heap.size W W')
    (hok : ∀ (j : Nat) (t : TypeId) (r : Value), f.resultTypes[j]? = some t → (v.resultList f.resultTypes.size)[j]? = some r → Value.okWide P W' .any 0 t r) :
    s.post enc P f apart fresh handsOn again W args v W' := by
  have hW' := hW
  obtain ⟨p, q, hA, hV, rfl, hz, hn⟩ := hW
  rw [hvars] at hV
  obtain ⟨rfl, rfl⟩ := trodVars_none hV
  rw [List.append_nil] at hW' hz hn
  have hlt : ∀ x ∈ p, x.block < W.heap.size := fun x hx => by simpa using hW'.lt x hx
  have hTr : ∀ sp : Nat → Bool, (∀ x ∈ p, sp x.block = true) → DataW.TrodAll enc P W' 0 sp true f.params.toList args.toList (s.fn H (ds ++ [])).args p := fun sp hs => by
    rw [hargs]; exact trodAll_stays hl hb hr hA hlt hs
  have hVr : ∀ sp : Nat → Bool, DataW.TrodVars enc P W' sp s.vars (s.fn H (ds ++ [])).vars [] := fun sp => by rw [hvars, hvs]; rfl
  refine ⟨ds, [], p, [], p, [], hW', hres _ _ _, hTr _ (fun x hx => by simpa using hlt x hx), hVr _, World.keptBut_mono (fun x hx => ⟨hx, .inr (by simpa using hx)⟩) (hb.frame (· ∈ p)), fun _ => ?_⟩
  refine ⟨hok, _, _, ([] ++ p) ++ [], ⟨[] ++ p, [], trodAll_append (hTr _ (fun _ _ => rfl)) (hres _ _ _), hVr _, rfl, ?_, ?_⟩, ?_⟩
  · intro b off hp
    have hp' : MemPlace.cell b off ∈ p := by simpa using hp
    have := hz b off hp'
    rw [← this]
    exact hb.frozen (hlt _ hp')
  · intro ha
    simpa using hn ha
  · intro x hx _
    simpa using hx
end
end Go.Abs
end
section
set_option linter.unusedVariables false
namespace Go.Proofs.YtjhccdolbhjmaaaGreat.bulks
theorem one_le {H : Type} (d : DataW H) : 1 ≤ Rows.uptoBulk d := by
  cases d with
  | lit l => cases l <;> simp [Rows.uptoBulk]
  | _ => simp [Rows.uptoBulk]
theorem mem_le {H : Type} {d : DataW H} : ∀ {l : List (DataW H)}, d ∈ l → Rows.uptoBulk d ≤ Rows.uptoBulkAll l
  | [], h => by cases h
  | x :: r, h => by
    simp only [Rows.uptoBulkAll]
    rcases List.mem_cons.1 h with rfl | h
    · omega
    · have := mem_le h; omega
theorem len_le {H : Type} : ∀ l : List (DataW H), l.length ≤ Rows.uptoBulkAll l
  | [] => by simp [Rows.uptoBulkAll]
  | x :: r => by have := one_le x; have := len_le r; simp only [Rows.uptoBulkAll, List.length_cons]; omega
theorem ok {H : Type} : Go.Abs.Bulk (Rows.uptoBulk (H := H)) where
  len e s := by have := len_le e; simp only [Rows.uptoBulk]; omega
  el e s d h := by have := mem_le h; simp only [Rows.uptoBulk]; omega
  part l d h := by have := mem_le h; simp only [Rows.uptoBulk]; omega
  str s := by simp [Rows.uptoBulk]
theorem bound {H : Type} {l : List (DataW H)} (hk : Rows.uptoSmall H l = true) : ∀ d ∈ l, Rows.uptoBulk d ≤ 1048576 := fun d hd => by
  have h := of_decide_eq_true hk
  have := mem_le hd
  omega
end Go.Proofs.YtjhccdolbhjmaaaGreat.bulks
end
