/- What the type graph of a draft is; the graph of a draft. · T -/
import Derived.Test.YthnegcfdjjhfgaaGreatZmQ
import Derived.Test.YthnegcfdjjhfgaaGreatZmA
set_option linter.unusedVariables false
set_option linter.unusedSimpArgs false
section
set_option maxRecDepth 8000
set_option maxHeartbeats 2000000
open Go Go.Proofs
namespace Go.Abs
def Attr.good (x : Attr) : Prop := x.low ≤ x.high ∧ -1000 ≤ x.low ∧ x.high ≤ 1000
theorem extract_size (b : ByteArray) (i j : Nat) : (b.extract i j).size ≤ b.size := by rw [ByteArray.size_extract]; omega
theorem madeN_attrs (i : Nat) (x : B2) : (madeN i x).attrs.length ≤ 1 ∧ ∀ a ∈ (madeN i x).attrs, a.good ∧ a.ok := by
  have hu := u8_lt x.2
  have hm := tmod_in (show 0 ≤ (x.2.toNat : Int) / 4 by omega) (show (0 : Int) < 9 by omega)
  have hs := extract_size tyU i (i + 1)
  have hs2 : tyU.size = 6 := rfl
  unfold madeN
  by_cases h1 : (x.2.toNat : Int).tmod 4 = 1
  · simp only [h1, if_true]
    refine ⟨by simp, fun a ha => ?_⟩
    simp only [List.mem_singleton] at ha
    subst ha
    exact ⟨⟨by simp only; omega, by simp only; omega, by simp only; omega⟩, ⟨by simp only; omega, by simp, by simp⟩⟩
  · by_cases h2 : (x.2.toNat : Int).tmod 4 = 2
    ·rw [if_neg h1, if_pos h2]
     refine ⟨by simp, fun a ha => ?_⟩
     simp only [List.mem_singleton] at ha
     subst ha
     refine ⟨⟨by simp, by simp, by simp⟩, ⟨by simp only; omega, fun s hs => ?_, by simp⟩⟩
     simp only [List.mem_cons, List.not_mem_nil, or_false] at hs
     rcases hs with rfl | rfl
     ·show (3 : Nat) ≤ 100000; omega
     ·show (2 : Nat) ≤ 100000; omega
    ·rw [if_neg h1, if_neg h2]; simp
theorem madeT_node {ns es : List B2} {j : Nat} {n : NodeTy} (h : (madeT ns es).nodes[j]? = some n) : j < madeK ns ∧ n = madeN j (nth2 ns j) := by
  simp only [madeT, madeNs, List.getElem?_map] at h
  by_cases hj : j < madeK ns
  · rw [List.getElem?_range hj] at h; simp at h; exact ⟨hj, h.symm⟩
  · rw [List.getElem?_eq_none (by simpa using hj)] at h; cases h
theorem madeT_len (ns es : List B2) : (madeT ns es).nodes.length = madeK ns ∧ 0 < madeK ns ∧ madeK ns ≤ 6 ∧ (madeT ns es).edges.length ≤ 5 := by
  refine ⟨madeNs_len _ _, by unfold madeK; omega, by unfold madeK; omega, by simp only [madeT, madeEs_len]; omega⟩
theorem madeT_edge {ns es : List B2} {x : EdgeTy} (h : x ∈ (madeT ns es).edges) : (0 ≤ x.from_ ∧ x.from_ < madeK ns) ∧ (0 ≤ x.to_ ∧ x.to_ < madeK ns) ∧ x.ok := by
  simp only [madeT, madeEs, List.mem_map] at h
  obtain ⟨i, _, rfl⟩ := h
  have hk : 0 < madeK ns := by unfold madeK; omega
  have h1 := tmod_in (show 0 ≤ ((nth2 es i).1.toNat : Int) by omega) (show (0 : Int) < madeK ns by omega)
  have h2 := tmod_in (show 0 ≤ ((nth2 es i).2.toNat : Int) by omega) (show (0 : Int) < madeK ns by omega)
  have hs := extract_size tyE i (i + 1)
  have hs2 : tyE.size = 5 := rfl
  exact ⟨h1, h2, ⟨by simp only [madeE]; omega⟩⟩
theorem attrsF_one (nodes : List NodeTy) (h : ∀ n ∈ nodes, n.attrs.length ≤ 1) : ∀ f a, (attrsF nodes f a).length ≤ f
  | 0, a => by simp [attrsF]
  | f + 1, a => by
    unfold attrsF
    split
    ·simp
    ·rename_i n hn
     have := h n (List.mem_of_getElem? hn)
     have h2 := attrsF_one nodes h f n.parent.toNat
     simp only [List.length_append]
     split <;> simp <;> omega
theorem attrsF_all {p : Attr → Prop} (nodes : List NodeTy) (h : ∀ n ∈ nodes, ∀ a ∈ n.attrs, p a) : ∀ f a, ∀ x ∈ attrsF nodes f a, p x
  | 0, a, x, hx => by simp [attrsF] at hx
  | f + 1, a, x, hx => by
    unfold attrsF at hx
    split at hx
    ·cases hx
    ·rename_i n hn
     rcases List.mem_append.1 hx with hx | hx
     ·split at hx
      ·exact attrsF_all nodes h f _ x hx
      ·cases hx
     ·exact h n (List.mem_of_getElem? hn) x hx
theorem madeT_mem {ns es : List B2} {n : NodeTy} (h : n ∈ (madeT ns es).nodes) : ∃ j, n = madeN j (nth2 ns j) := by
  obtain ⟨j, hj⟩ := List.getElem?_of_mem h
  exact ⟨j, (madeT_node hj).2⟩
theorem madeT_valid (ns es : List B2) : (madeT ns es).valid := by
  obtain ⟨l1, l2, l3, l4⟩ := madeT_len ns es
  refine ⟨by omega, by omega, by omega, fun j n hn => ?_, fun j n hn => ?_, fun j hj => ?_, fun x hx => ?_⟩
  · obtain ⟨_, rfl⟩ := madeT_node hn
    have := tmod_in (show 0 ≤ ((nth2 ns j).1.toNat : Int) by omega) (show 0 < (j : Int) + 1 by omega)
    simp only [madeN]; omega
  · obtain ⟨_, rfl⟩ := madeT_node hn
    have := tmod_in (show 0 ≤ ((nth2 ns j).1.toNat : Int) by omega) (show 0 < (j : Int) + 1 by omega)
    simp only [madeN]; omega
  · have := attrsF_one (madeT ns es).nodes (fun n hn => by obtain ⟨j, rfl⟩ := madeT_mem hn; exact (madeN_attrs j _).1) (j + 1) j
    unfold Types.attrs; omega
  · obtain ⟨h1, h2, _⟩ := madeT_edge hx
    simp only [insideF, l1]
    simp; omega
theorem madeT_ok (ns es : List B2) : (madeT ns es).ok := by
  obtain ⟨l1, l2, l3, l4⟩ := madeT_len ns es
  refine ⟨fun n hn => ?_, fun x hx => (madeT_edge hx).2.2, by omega, by omega⟩
  obtain ⟨j, rfl⟩ := madeT_mem hn
  have ha := madeN_attrs j (nth2 ns j)
  have hs := extract_size tyA j (j + 1)
  have hs2 : tyA.size = 6 := rfl
  exact ⟨by simp only [madeN]; omega, fun x hx => (ha.2 x hx).2, by omega⟩
theorem madeT_good (ns es : List B2) (a : Int) : (∀ x ∈ attrsT (madeT ns es) a, x.good) ∧ (attrsT (madeT ns es) a).length ≤ 8 := by
  unfold attrsT
  split
  · rename_i h
    have hv := (given2_one h)
    refine ⟨fun x hx => attrsF_all (p := Attr.good) (madeT ns es).nodes (fun n hn y hy => by obtain ⟨j, rfl⟩ := madeT_mem hn; exact ((madeN_attrs j _).2 y hy).1) _ _ x hx, hv.1.attrs _ (by omega)⟩
  · simp
structure Types.fine (t : Types) : Prop where
  ok : t.ok
  valid : t.valid
  good : ∀ a, (∀ x ∈ attrsT t a, x.good) ∧ (attrsT t a).length ≤ 8
theorem madeT_fine (ns es : List B2) : (madeT ns es).fine := ⟨madeT_ok ns es, madeT_valid ns es, madeT_good ns es⟩
end Go.Abs
end
section
set_option maxRecDepth 8000
set_option maxHeartbeats 4000000
open Go Go.Proofs
namespace Go.Abs
abbrev B3 := UInt8 × UInt8 × UInt8
def cT3 (x : B3) : List D := [.int .u8 (x.1.toNat : Int), .int .u8 (x.2.1.toNat : Int), .int .u8 (x.2.2.toNat : Int)]
@[go_sem] theorem cT3s_cl (l : List B3) : D.clLL (l.map cT3) = true := clLL_map _ (fun _ => rfl) l
structure Dr5 where
  nodes : List UInt8
  edges : List B3
def Dr5.c (d : Dr5) : List D := [.list (d.nodes.map cU), .list (d.edges.map cT3)]
@[go_sem] theorem Dr5.cl (d : Dr5) : D.clL d.c = true := by simp [Dr5.c, D.clL, D.cl, cUs_cl, cT3s_cl]
def m17N (n : Nat) (ds : List UInt8) (k : Nat) : List Int := (List.range k).map fun i => ((ds[i]?.getD 0).toNat : Int).tmod n
def tyEd (t : Types) (k : Int) : EdgeTy := t.edges[k.toNat]?.getD ⟨⟨#[]⟩, 0, 0, 0, 0, 0, 0⟩
def pickL (l : List Int) (b : UInt8) : Int := l[((b.toNat : Int).tmod l.length).toNat]?.getD 0
def m17e (t : Types) (ns : List Int) (x : B3) : List Edge :=
  if 0 < (amongL t ns (tyEd t ((x.1.toNat : Int).tmod t.edges.length)).from_).length ∧ 0 < (amongL t ns (tyEd t ((x.1.toNat : Int).tmod t.edges.length)).to_).length then
    [⟨(x.1.toNat : Int).tmod t.edges.length, pickL (amongL t ns (tyEd t ((x.1.toNat : Int).tmod t.edges.length)).from_) x.2.1, pickL (amongL t ns (tyEd t ((x.1.toNat : Int).tmod t.edges.length)).to_) x.2.2⟩] else []
def m17E (t : Types) (ns : List Int) (es : List B3) (k : Nat) : List Edge := (List.range k).flatMap fun i => m17e t ns (es[i]?.getD (0, 0, 0))
def made17 (t : Types) (d : Dr5) : Graph := ⟨m17N t.nodes.length d.nodes (min d.nodes.length 8), if t.edges.length = 0 then [] else m17E t (m17N t.nodes.length d.nodes (min d.nodes.length 8)) d.edges (min d.edges.length 10)⟩
theorem m17N_succ (n : Nat) (ds : List UInt8) (k : Nat) : m17N n ds (k + 1) = m17N n ds k ++ [((ds[k]?.getD 0).toNat : Int).tmod n] := by simp [m17N, List.range_succ]
theorem m17N_len (n : Nat) (ds : List UInt8) (k : Nat) : (m17N n ds k).length = k := by simp [m17N]
theorem m17N_mem {n : Nat} (hn : 0 < n) {ds : List UInt8} {k : Nat} {x : Int} (h : x ∈ m17N n ds k) : 0 ≤ x ∧ x < n := by
  simp only [m17N, List.mem_map] at h
  obtain ⟨i, _, rfl⟩ := h
  exact tmod_in (by omega) (by omega)
theorem m17E_succ (t : Types) (ns : List Int) (es : List B3) (k : Nat) : m17E t ns es (k + 1) = m17E t ns es k ++ m17e t ns (es[k]?.getD (0, 0, 0)) := by simp [m17E, List.range_succ]
theorem m17e_len (t : Types) (ns : List Int) (x : B3) : (m17e t ns x).length ≤ 1 := by unfold m17e; split <;> simp
theorem m17E_len (t : Types) (ns : List Int) (es : List B3) : ∀ k, (m17E t ns es k).length ≤ k
  | 0 => by simp [m17E]
  | k + 1 => by rw [m17E_succ, List.length_append]; have := m17E_len t ns es k; have := m17e_len t ns (es[k]?.getD (0, 0, 0)); omega
theorem amongL_mem {t : Types} {ns : List Int} {k x : Int} (h : x ∈ amongL t ns k) : 0 ≤ x ∧ x < ns.length := by
  simp only [amongL, List.mem_map, List.mem_filter, List.mem_range] at h
  obtain ⟨i, ⟨hi, _⟩, rfl⟩ := h; omega
theorem pickL_in {l : List Int} (h : 0 < l.length) (b : UInt8) : ∃ hk : ((b.toNat : Int).tmod l.length).toNat < l.length, pickL l b = l[((b.toNat : Int).tmod l.length).toNat] := by
  have := tmod_in (show 0 ≤ (b.toNat : Int) by omega) (show (0 : Int) < l.length by omega)
  have hk : ((b.toNat : Int).tmod l.length).toNat < l.length := by omega
  exact ⟨hk, by unfold pickL; rw [lge hk]; rfl⟩
theorem pickL_mem {l : List Int} (h : 0 < l.length) (b : UInt8) : pickL l b ∈ l := by
  obtain ⟨hk, e⟩ := pickL_in h b
  rw [e]; exact lgm hk
theorem m17E_ends (t : Types) (ns : List Int) (es : List B3) (k : Nat) : Graph.ends ⟨ns, m17E t ns es k⟩ := by
  intro x hx
  simp only [m17E, List.mem_flatMap] at hx
  obtain ⟨i, _, hx⟩ := hx
  unfold m17e at hx
  split at hx
  · rename_i h
    simp only [List.mem_singleton] at hx
    subst hx
    exact ⟨amongL_mem (pickL_mem h.1 _), amongL_mem (pickL_mem h.2 _)⟩
  · cases hx
theorem made17_ends (t : Types) (d : Dr5) : (made17 t d).ends := by
  unfold made17
  split
  · intro x hx; cases hx
  · exact m17E_ends _ _ _ _
theorem made17_len (t : Types) (d : Dr5) : (made17 t d).nodes.length ≤ 8 ∧ (made17 t d).edges.length ≤ 10 := by
  unfold made17
  refine ⟨by simp only [m17N_len]; omega, ?_⟩
  split
  · simp
  · exact Nat.le_trans (m17E_len _ _ _ _) (by omega)
theorem ref17_Made (t : Types) (ht : t.fine) (d : Dr5) : Pure Tryz.prog 181 [t.d, .agg d.c, .bool true] (made17 t d).d := by
  have hfN := ht.ok.fewN
  have hfE := ht.ok.fewE
  have hne := ht.valid.ne
  have hnn0 : t.nodes ≠ [] := by intro h; rw [h] at hne; simp at hne
  refine Tz.pK ⟨fun t => t == 6 || t == 7 || t == 9, fun r => match r with | 11 => [(0, 14), (1, 14)] | 18 => [(0, 30), (1, 30)] | _ => []⟩ Tryz.func181 rfl (fun Q hQ => ?_)
  try simp [go_sem, seval, Dr5.c]
  obtain ⟨I0, hI0⟩ := mkI fun i e H => ((e 3 = .adr t.c) ∧ (e 4 = .adr d.c) ∧ (e 2 = .bool true) ∧ (e 6 = .ptr 0 1 0 0) ∧ (e 7 = .own 1 i) ∧ (e 8 = dI i) ∧ (H.get 0 = some ⟨29, 2, [[.nil, .nil]], false⟩) ∧ (0 < H.next) ∧ (H.get 1 = some ⟨3, 1, (numL i).map cI, false⟩) ∧ (1 < H.next) ∧ (i ≤ t.nodes.length) ∧ ((numL i).length = i))
  refine loopK I0 (fun i => t.nodes.length - i) (0) ((hI0 _ _ _).2 ⟨?_, ?_, ?_, ?_, ?_, ?_, ?_, ?_, (by rfl), ?_, (by first | assumption | omega | (simp [go_sem, Dr5.c]; done) | (simp_all; done)), (by (exact numL_len _))⟩) ?_
  iterate 9 (first | omega | (simp [go_sem, seval, Dr5.c] <;> omega))
  intro i e H hi0
  obtain ⟨q3_0, q4_0, q2_0, q6_0, q7_0, q8_0, g0_0, n0_0, g1_0, n1_0, hi, hl⟩ := (hI0 _ _ _).1 hi0
  have x0 := frs n0_0
  have x1 := frs n1_0
  have F0 := And.intro q3_0 (And.intro q4_0 (And.intro q2_0 (And.intro q6_0 (And.intro q7_0 (And.intro q8_0 (And.intro g0_0 (And.intro g1_0 (And.intro x0 x1))))))))
  try simp [go_sem, seval, Dr5.c, F0, hl]
  repeat first | intro _ | refine ⟨obs, ?_⟩
  refine condQ_mk (fun h3 => ?_) (fun h3 => ?_)
  · try simp [go_sem] at h3
    try simp [go_sem, seval, Dr5.c, F0, hl, h3, lge h3]
    repeat first | intro _ | refine ⟨obs, ?_⟩
    refine nextQ_mk (i + 1) (by omega) ((hI0 _ _ _).2 ⟨?_, ?_, ?_, ?_, ?_, ?_, ?_, ?_, (by (simp [go_sem, Dr5.c, F0, hl, h3, lge h3, numL_succ])), ?_, (by first | assumption | omega | (simp [go_sem, Dr5.c, F0, hl, h3, lge h3]; done) | (simp_all <;> omega)), (by (exact numL_len _))⟩) <;> first | omega | (simp [go_sem, seval, Dr5.c, F0, hl, h3, lge h3] <;> omega)
  · try simp [go_sem] at h3
    have hI : i = t.nodes.length := by omega
    subst hI
    have nx0 := nxs H.next
    try simp [go_sem, seval, Dr5.c, F0, hl, nx0]
    obtain ⟨I2, hI2⟩ := mkI fun i e H => (∃ c : Nat, ∃ a : Nat, (e 3 = .adr t.c) ∧ (e 4 = .adr d.c) ∧ (e 2 = .bool true) ∧ (e 6 = .ptr 0 1 0 0) ∧ (e 7 = .own 1 t.nodes.length) ∧ (e 9 = .ptr c 1 0 0) ∧ (e 10 = dI i) ∧ (H.get 0 = some ⟨29, 2, [[.nil, .nil]], false⟩) ∧ (0 < H.next) ∧ (H.get 1 = some ⟨3, 1, (numL t.nodes.length).map cI, false⟩) ∧ (1 < H.next) ∧ (H.get c = some ⟨29, 2, [[.own a i, .nil]], false⟩) ∧ (c < H.next) ∧ (H.get a = some ⟨3, 1, (m17N t.nodes.length d.nodes i).map cI, false⟩) ∧ (a < H.next) ∧ (i ≤ 8) ∧ (i ≤ d.nodes.length) ∧ (1 < c ∧ c < a) ∧ ((m17N t.nodes.length d.nodes i).length = i))
    refine loopKG (Ghosts.step (Ghosts.refl _) H.next 0 0 3 1 _ _ ((by simp [go_sem, Dr5.c, F0, hl, nx0] : AHeap.get _ _ = some ⟨29, 2, [[.nil, .nil]], false⟩)) rfl rfl rfl) I2 (fun i => 8 - i) (0) ((hI2 _ _ _).2 ⟨(H.next), (H.next + 1), ?_, ?_, ?_, ?_, ?_, ?_, ?_, ?_, ?_, ?_, ?_, ?_, ?_, (by (simp [go_sem, Dr5.c, F0, hl, nx0, m17N])), ?_, (by first | assumption | omega | (simp [go_sem, Dr5.c, F0, hl, nx0]; done) | (simp_all; done)), (by first | assumption | omega | (simp [go_sem, Dr5.c, F0, hl, nx0]; done) | (simp_all; done)), (by omega), (by (exact m17N_len _ _ _))⟩) ?_
    iterate 14 (first | omega | (simp [go_sem, seval, Dr5.c, F0, hl, nx0] <;> omega))
    intro i e H hi2
    obtain ⟨c, a, q3_2, q4_2, q2_2, q6_2, q7_2, q9_2, q10_2, g0_2, n0_2, g1_2, n1_2, gc_2, nc_2, ga_2, na_2, hi, hid, hc, hml⟩ := (hI2 _ _ _).1 hi2
    have x0 := frs n0_2
    have x1 := frs n1_2
    have xc := frs nc_2
    have xa := frs na_2
    have F2 := And.intro q3_2 (And.intro q4_2 (And.intro q2_2 (And.intro q6_2 (And.intro q7_2 (And.intro q9_2 (And.intro q10_2 (And.intro g0_2 (And.intro g1_2 (And.intro gc_2 (And.intro ga_2 (And.intro x0 (And.intro x1 (And.intro xc xa)))))))))))))
    have di1 := And.intro (nep (show a ≠ c by omega)) (And.intro (nep (show a ≠ 1 by omega)) (And.intro (nep (show a ≠ 0 by omega)) (And.intro (nep (show c ≠ 1 by omega)) (And.intro (nep (show c ≠ 0 by omega)) (nep (show 1 ≠ 0 by omega))))))
    try simp [go_sem, seval, Dr5.c, hl, nx0, F2, hml, di1]
    repeat first | intro _ | refine ⟨obs, ?_⟩
    refine condQ_mk (fun h9 => ?_) (fun h9 => ?_)
    ·try simp [go_sem] at h9
     have hx1 := u8_lt d.nodes[i]
     have hgd : d.nodes[i]?.getD 0 = d.nodes[i] := by rw [lge (by omega)]; rfl
     have htm := tmod_in (show 0 ≤ (d.nodes[i].toNat : Int) by omega) (show (0 : Int) < t.nodes.length by omega)
     have hng := numL_get (n := t.nodes.length) (a := ((d.nodes[i].toNat : Int).tmod t.nodes.length).toNat) (by omega)
     rw [Int.toNat_of_nonneg htm.1] at hng
     have hne0 : (t.nodes.length : Int) ≠ 0 := by omega
     have hll := numL_len t.nodes.length
     try simp [go_sem, seval, Dr5.c, hl, nx0, F2, hml, di1, h9, lge (show i < d.nodes.length by omega), hng, hne0, cU, hll]
     repeat first | intro _ | refine ⟨obs, ?_⟩
     refine nextQ_mk (i + 1) (by omega) ((hI2 _ _ _).2 ⟨(c), (a), ?_, ?_, ?_, ?_, ?_, ?_, ?_, ?_, ?_, ?_, ?_, ?_, ?_, (by (simp [go_sem, Dr5.c, hl, nx0, F2, hml, di1, h9, lge (show i < d.nodes.length by omega), hng, hne0, cU, hll, m17N_succ, hgd])), ?_, (by first | assumption | omega | (simp [go_sem, Dr5.c, hl, nx0, F2, hml, di1, h9, lge (show i < d.nodes.length by omega), hng, hne0, cU, hll, h3]; done) | (simp_all <;> omega)), (by first | assumption | omega | (simp [go_sem, Dr5.c, hl, nx0, F2, hml, di1, h9, lge (show i < d.nodes.length by omega), hng, hne0, cU, hll, h3]; done) | (simp_all <;> omega)), (by omega), (by (exact m17N_len _ _ _))⟩) <;> first | omega | (simp [go_sem, seval, Dr5.c, hl, nx0, F2, hml, di1, h9, lge (show i < d.nodes.length by omega), hng, hne0, cU, hll] <;> omega)
    ·try simp [go_sem] at h9
     have h9' : ¬ (i < d.nodes.length ∧ i < 8) := fun h => hnn0 (h9 h.1 (by omega))
     have hI2 : i = min d.nodes.length 8 := by omega
     have hnm : ∀ x ∈ m17N t.nodes.length d.nodes i, 0 ≤ x ∧ x < t.nodes.length := fun x hx => m17N_mem hne hx
     obtain ⟨ns, hns⟩ : ∃ ns, m17N t.nodes.length d.nodes i = ns := ⟨_, rfl⟩
     rw [hns] at hml hnm
     try simp [go_sem, seval, Dr5.c, hl, nx0, F2, hml, di1, hns]
     obtain ⟨I4, hI4⟩ := mkI fun k e H => (∃ b : Nat, ∃ ys : List Edge, (e 3 = .adr t.c) ∧ (e 4 = .adr d.c) ∧ (e 2 = .bool true) ∧ (e 6 = .ptr 0 1 0 0) ∧ (e 9 = .ptr c 1 0 0) ∧ (e 11 = dI k) ∧ (H.get 0 = some ⟨29, 2, [[.nil, .nil]], false⟩) ∧ (0 < H.next) ∧ (H.get c = some ⟨29, 2, [[.own a i, .own b ys.length]], false⟩) ∧ (c < H.next) ∧ (H.get a = some ⟨3, 1, ns.map cI, false⟩) ∧ (a < H.next) ∧ (H.get b = some ⟨124, 3, ys.map Edge.c, false⟩) ∧ (b < H.next) ∧ (k ≤ 10) ∧ (k ≤ d.edges.length) ∧ (0 < c ∧ c < a ∧ a < b) ∧ (ys = m17E t ns d.edges k) ∧ (t.edges.length = 0 → k = 0) ∧ (ys.length ≤ k))
     refine loopKG (Ghosts.step (Ghosts.refl _) c 0 1 124 3 _ _ ((by simp [Dr5.c, hl, nx0, F2, hml, di1, hns] : AHeap.get _ _ = some ⟨29, 2, [[.own a i, .nil]], false⟩)) rfl rfl rfl) I4 (fun k => 10 - k) (0) ((hI4 _ _ _).2 ⟨(H.next), ([]), ?_, ?_, ?_, ?_, ?_, ?_, ?_, ?_, ?_, ?_, ?_, ?_, ?_, ?_, (by first | assumption | omega | (simp [go_sem, Dr5.c, hl, nx0, F2, hml, di1, hns]; done) | (simp_all; done)), (by first | assumption | omega | (simp [go_sem, Dr5.c, hl, nx0, F2, hml, di1, hns]; done) | (simp_all; done)), (by omega), (by rfl), (by (intro _; rfl)), (by simp)⟩) ?_
     iterate 14 (first | omega | (simp [go_sem, seval, Dr5.c, hl, nx0, F2, hml, di1, hns] <;> omega))
     intro k e H hi4
     obtain ⟨b, ys, q3_4, q4_4, q2_4, q6_4, q9_4, q11_4, g0_4, n0_4, gc_4, nc_4, ga_4, na_4, gb_4, nb_4, hk, hkd, hb, hy, hz, hyl⟩ := (hI4 _ _ _).1 hi4
     have x0 := frs n0_4
     have xc := frs nc_4
     have xa := frs na_4
     have xb := frs nb_4
     have F4 := And.intro q3_4 (And.intro q4_4 (And.intro q2_4 (And.intro q6_4 (And.intro q9_4 (And.intro q11_4 (And.intro g0_4 (And.intro gc_4 (And.intro ga_4 (And.intro gb_4 (And.intro x0 (And.intro xc (And.intro xa xb))))))))))))
     have di2 := And.intro (nep (show b ≠ a by omega)) (And.intro (nep (show b ≠ c by omega)) (And.intro (nep (show b ≠ 0 by omega)) (And.intro (nep (show a ≠ c by omega)) (And.intro (nep (show a ≠ 0 by omega)) (nep (show c ≠ 0 by omega))))))
     try simp [go_sem, seval, Dr5.c, hl, nx0, hml, di1, hns, F4, di2]
     repeat first | intro _ | refine ⟨obs, ?_⟩
     refine condQ_mk (fun h13 => ?_) (fun h13 => ?_)
     ·try simp [go_sem] at h13
      have hkl : k < d.edges.length := by omega
      have hE0 : 0 < t.edges.length := by omega
      have hee0 : t.edges ≠ [] := by intro h; rw [h] at hE0; simp at hE0
      obtain ⟨x, hx⟩ : ∃ x, d.edges[k] = x := ⟨_, rfl⟩
      have hgx : d.edges[k]?.getD (0, 0, 0) = x := by rw [lge hkl, ← hx]; rfl
      have hx1 := u8_lt x.1
      have hx2 := u8_lt x.2.1
      have hx3 := u8_lt x.2.2
      have htm := tmod_in (show 0 ≤ (x.1.toNat : Int) by omega) (show (0 : Int) < t.edges.length by omega)
      obtain ⟨q, hq⟩ : ∃ q : Nat, (x.1.toNat : Int).tmod t.edges.length = (q : Int) := ⟨_, (Int.toNat_of_nonneg htm.1).symm⟩
      have hql : q < t.edges.length := by omega
      have hed : tyEd t ((x.1.toNat : Int).tmod t.edges.length) = t.edges[q] := by unfold tyEd; rw [hq, Int.toNat_natCast, lge hql]; rfl
      have hends := ht.valid.ends _ (lgm hql)
      simp only [insideF, Bool.and_eq_true, decide_eq_true_eq] at hends
      have hne0 : (t.edges.length : Int) ≠ 0 := by omega
      try simp [go_sem, seval, Dr5.c, hl, nx0, hml, di1, hns, F4, di2, h13, lge hkl, hx, hgx, cT3, hq, lge hql, hne0, Types.c]
      repeat first | intro _ | refine ⟨obs, ?_⟩
      refine dcallQ_ownF (ref17_among t ht.valid ⟨ns, ys⟩ (by simp only; omega) hnm t.edges[q].from_ hends.1.1) (by simp [go_sem, Dr5.c, hl, nx0, hml, di1, hns, F4, di2, h13, lge hkl, hx, hgx, cT3, hq, lge hql, hne0, Types.c, Graph.d, Graph.c, dLI]) (by simp [go_sem]) (flatI _) rfl (by simp [go_sem]) ?_
      try simp [go_sem, seval, Dr5.c, hl, nx0, hml, di1, hns, F4, di2, h13, lge hkl, hx, hgx, cT3, hq, lge hql, hne0, Types.c]
      repeat first | intro _ | refine ⟨obs, ?_⟩
      refine dcallQ_ownF (ref17_among t ht.valid ⟨ns, ys⟩ (by simp only; omega) hnm t.edges[q].to_ hends.2.1) (by simp [go_sem, Dr5.c, hl, nx0, hml, di1, hns, F4, di2, h13, lge hkl, hx, hgx, cT3, hq, lge hql, hne0, Types.c, Graph.d, Graph.c, dLI]) (by simp [go_sem]) (flatI _) rfl (by simp [go_sem]) ?_
      obtain ⟨la, hla⟩ : ∃ la, amongL t ns t.edges[q].from_ = la := ⟨_, rfl⟩
      obtain ⟨lb, hlb⟩ : ∃ lb, amongL t ns t.edges[q].to_ = lb := ⟨_, rfl⟩
      try simp [go_sem, seval, Dr5.c, hl, nx0, hml, di1, hns, F4, di2, h13, lge hkl, hx, hgx, cT3, hq, lge hql, hne0, Types.c, hla, hlb]
      repeat first | intro _ | refine ⟨obs, ?_⟩
      refine condQ_mk (fun h17 => ?_) (fun h17 => ?_)
      ·try simp [go_sem] at h17
       have hab : 0 < la.length ∧ 0 < lb.length := by omega
       obtain ⟨ka, hpa⟩ := pickL_in hab.1 x.2.1
       obtain ⟨kb, hpb⟩ := pickL_in hab.2 x.2.2
       have ta := tmod_in (show 0 ≤ (x.2.1.toNat : Int) by omega) (show (0 : Int) < la.length by omega)
       have tb := tmod_in (show 0 ≤ (x.2.2.toNat : Int) by omega) (show (0 : Int) < lb.length by omega)
       have hme : m17e t ns x = [⟨(q : Int), pickL la x.2.1, pickL lb x.2.2⟩] := by unfold m17e; rw [hed, hla, hlb, if_pos hab, hq]
       have nla : ¬la = [] := by intro h; rw [h] at hab; simp at hab
       have nlb : ¬lb = [] := by intro h; rw [h] at hab; simp at hab
       have nl1 : (la.length : Int) ≠ 0 := by omega
       have nl2 : (lb.length : Int) ≠ 0 := by omega
       try simp [go_sem, seval, Dr5.c, hl, nx0, hml, di1, hns, F4, di2, h13, lge hkl, hx, hgx, cT3, hq, lge hql, hne0, Types.c, hla, hlb, lge ka, lge kb, hme, hpa, hpb, nl1, nl2]
       repeat first | intro _ | refine ⟨obs, ?_⟩
       refine nextQ_mk (k + 1) (by omega) ((hI4 _ _ _).2 ⟨(b), (ys ++ m17e t ns (d.edges[k]?.getD (0, 0, 0))), ?_, ?_, ?_, ?_, ?_, ?_, ?_, ?_, ?_, ?_, ?_, ?_, ?_, ?_, (by first | assumption | omega | (simp [go_sem, Dr5.c, hl, nx0, hml, di1, hns, F4, di2, h13, lge hkl, hx, hgx, cT3, hq, lge hql, hne0, Types.c, hla, hlb, lge ka, lge kb, hme, hpa, hpb, nl1, nl2, h3, h9, h17]; done) | (simp_all <;> omega)), (by first | assumption | omega | (simp [go_sem, Dr5.c, hl, nx0, hml, di1, hns, F4, di2, h13, lge hkl, hx, hgx, cT3, hq, lge hql, hne0, Types.c, hla, hlb, lge ka, lge kb, hme, hpa, hpb, nl1, nl2, h3, h9, h17]; done) | (simp_all <;> omega)), (by omega), (by (rw [m17E_succ, ← hy])), (by omega), (by (rw [List.length_append]; have := m17e_len t ns (d.edges[k]?.getD (0, 0, 0)); omega))⟩) <;> first | omega | (simp [go_sem, seval, Dr5.c, hl, nx0, hml, di1, hns, F4, di2, h13, lge hkl, hx, hgx, cT3, hq, lge hql, hne0, Types.c, hla, hlb, lge ka, lge kb, hme, hpa, hpb, nl1, nl2] <;> omega)
      ·try simp [go_sem] at h17
       have hme : m17e t ns x = [] := by unfold m17e; rw [hed, hla, hlb, if_neg (fun h => by have h2 := h17 h.1; rw [h2] at h; simp at h)]
       try simp [go_sem, seval, Dr5.c, hl, nx0, hml, di1, hns, F4, di2, h13, lge hkl, hx, hgx, cT3, hq, lge hql, hne0, Types.c, hla, hlb, hme]
       repeat first | intro _ | refine ⟨obs, ?_⟩
       refine nextQ_mk (k + 1) (by omega) ((hI4 _ _ _).2 ⟨(b), (ys ++ m17e t ns (d.edges[k]?.getD (0, 0, 0))), ?_, ?_, ?_, ?_, ?_, ?_, ?_, ?_, ?_, ?_, ?_, ?_, ?_, ?_, (by first | assumption | omega | (simp [go_sem, Dr5.c, hl, nx0, hml, di1, hns, F4, di2, h13, lge hkl, hx, hgx, cT3, hq, lge hql, hne0, Types.c, hla, hlb, hme, h3, h9, h17]; done) | (simp_all <;> omega)), (by first | assumption | omega | (simp [go_sem, Dr5.c, hl, nx0, hml, di1, hns, F4, di2, h13, lge hkl, hx, hgx, cT3, hq, lge hql, hne0, Types.c, hla, hlb, hme, h3, h9, h17]; done) | (simp_all <;> omega)), (by omega), (by (rw [m17E_succ, ← hy])), (by omega), (by (rw [List.length_append]; have := m17e_len t ns (d.edges[k]?.getD (0, 0, 0)); omega))⟩) <;> first | omega | (simp [go_sem, seval, Dr5.c, hl, nx0, hml, di1, hns, F4, di2, h13, lge hkl, hx, hgx, cT3, hq, lge hql, hne0, Types.c, hla, hlb, hme] <;> omega)
     ·try simp [go_sem] at h13
      have h13' : k < d.edges.length → k < 10 → t.edges.length = 0 := fun a b => by rw [h13 a (by omega)]; rfl
      have hfin : made17 t d = ⟨ns, ys⟩ := by
       unfold made17
       rw [← hI2, hns]
       split
       ·rename_i h0; have := hz h0; subst this; rw [hy]; rfl
       ·rename_i hn0; rw [hy, show k = min d.edges.length 10 by
         have hq : ¬ (k < d.edges.length ∧ k < 10) := fun hq => hn0 (h13' hq.1 hq.2)
         omega]
      try simp [go_sem, seval, Dr5.c, hl, nx0, hml, di1, hns, F4, di2]
      exact hQ _ _ (by first | (left; (simp [go_sem, Dr5.c, hl, nx0, hml, di1, hns, F4, di2, hfin]); done) | (right; (simp [go_sem, Dr5.c, hl, nx0, hml, di1, hns, F4, di2, hfin]); done))
end Go.Abs
end
section
set_option maxRecDepth 8000
set_option maxHeartbeats 4000000
open Go Go.Proofs
namespace Go.Abs
structure Dr21 where
  graph : Dr5
  slots : List B3
  tests : List T4
def Dr21.c (d : Dr21) : List D := [.list (d.graph.nodes.map cU), .list (d.graph.edges.map cT3), .list (d.slots.map cT3), .list (d.tests.map cT4)]
@[go_sem] theorem Dr21.cl (d : Dr21) : D.clL d.c = true := by simp [Dr21.c, D.clL, D.cl, cUs_cl, cT3s_cl, cT4s_cl]
def c2 (x : Nat × Nat) : List D := [dI x.1, dI x.2]
def atN (t : Types) (ns : List Int) (i : Nat) : List Attr := attrsT t (ns[i]?.getD 0)
def allR (t : Types) (ns : List Int) (i k : Nat) : List (Nat × Nat) := (List.range k).map fun j => (i, j)
def allL (t : Types) (ns : List Int) (k : Nat) : List (Nat × Nat) := (List.range k).flatMap fun i => allR t ns i (atN t ns i).length
theorem allL_zero (t : Types) (ns : List Int) : allL t ns 0 = [] := rfl
theorem allL_succ (t : Types) (ns : List Int) (k : Nat) : allL t ns (k + 1) = allL t ns k ++ allR t ns k (atN t ns k).length := by simp [allL, List.range_succ]
theorem allR_succ (t : Types) (ns : List Int) (i k : Nat) : allR t ns i (k + 1) = allR t ns i k ++ [(i, k)] := by simp [allR, List.range_succ]
theorem allR_len (t : Types) (ns : List Int) (i k : Nat) : (allR t ns i k).length = k := by simp [allR]
theorem allL_len (t : Types) (ht : t.fine) (ns : List Int) : ∀ k, (allL t ns k).length ≤ 8 * k
  | 0 => by simp [allL]
  | k + 1 => by rw [allL_succ, List.length_append, allR_len]; have := allL_len t ht ns k; have := (ht.good (ns[k]?.getD 0)).2; unfold atN; omega
def m9atL (all : List (Nat × Nat)) (b : UInt8) : Nat × Nat := all[((b.toNat : Int).tmod all.length).toNat]?.getD (0, 0)
def m21S (all : List (Nat × Nat)) (st : List Slot × Int) (x : B3) : List Slot × Int :=
  if st.2 ≤ (x.2.1.toNat : Int).tmod 5 - 1 then
    if 3 < st.2 + 1 then (st.1 ++ [⟨(m9atL all x.1).1, (m9atL all x.1).2, ⟨0, 0⟩⟩], 3) else (st.1 ++ [⟨(m9atL all x.1).1, (m9atL all x.1).2, ⟨st.2, 0⟩⟩], st.2 + 1)
  else (st.1 ++ [⟨(m9atL all x.1).1, (m9atL all x.1).2, ⟨(x.2.1.toNat : Int).tmod 5 - 1, (x.2.2.toNat : Int).tmod 5 - 2⟩⟩], st.2)
def m21F (all : List (Nat × Nat)) (ds : List B3) (k : Nat) : List Slot × Int := (List.range k).foldl (fun st i => m21S all st (ds[i]?.getD (0, 0, 0))) ([], 0)
theorem m21F_succ (all : List (Nat × Nat)) (ds : List B3) (k : Nat) : m21F all ds (k + 1) = m21S all (m21F all ds k) (ds[k]?.getD (0, 0, 0)) := by simp [m21F, List.range_succ]
theorem m21F_in (all : List (Nat × Nat)) (ds : List B3) : ∀ k, (m21F all ds k).1.length = k ∧ 0 ≤ (m21F all ds k).2 ∧ (m21F all ds k).2 ≤ 3
  | 0 => by simp [m21F]
  | k + 1 => by
    obtain ⟨h1, h2, h3⟩ := m21F_in all ds k
    rw [m21F_succ]
    unfold m21S
    split
    ·split
     ·simp only [List.length_append, List.length_singleton]; omega
     ·simp only [List.length_append, List.length_singleton]; omega
    ·simp only [List.length_append, List.length_singleton]; omega
def m21T (v : Int) (ts : List T4) (k : Nat) : List Test := (List.range k).map fun i => made3 v (ts[i]?.getD (0, 0, 0, 0))
theorem m21T_succ (v : Int) (ts : List T4) (k : Nat) : m21T v ts (k + 1) = m21T v ts k ++ [made3 v (ts[k]?.getD (0, 0, 0, 0))] := by simp [m21T, List.range_succ]
theorem m21T_len (v : Int) (ts : List T4) (k : Nat) : (m21T v ts k).length = k := by simp [m21T]
def all21 (t : Types) (d : Dr21) : List (Nat × Nat) := allL t (made17 t d.graph).nodes (made17 t d.graph).nodes.length
def slots21 (t : Types) (d : Dr21) : List Slot × Int := if (all21 t d).length = 0 then ([], 0) else m21F (all21 t d) d.slots (min d.slots.length 4)
def made21 (t : Types) (d : Dr21) : Pattern := ⟨made17 t d.graph, (slots21 t d).1, (slots21 t d).2, m21T (slots21 t d).2 d.tests (min d.tests.length 3)⟩
theorem ref21_Made (t : Types) (ht : t.fine) (d : Dr21) : Pure Tryz.prog 99 [t.d, .agg d.c] (made21 t d).d := by
  obtain ⟨G, hG⟩ : ∃ G, made17 t d.graph = G := ⟨_, rfl⟩
  have hGl := made17_len t d.graph
  rw [hG] at hGl
  refine Tz.pK ⟨fun t => t == 4 || t == 5 || t == 6 || t == 12 || t == 13 || t == 14, fun r => match r with | 27 => [(0, 10), (1, 10)] | _ => []⟩ Tryz.func99 rfl (fun Q hQ => ?_)
  try simp [go_sem, seval, Dr21.c, allL_zero]
  refine callQ_pure0 ((by have hq := ref17_Made t ht d.graph; rw [hG] at hq; exact hq)) ((by first | rfl | (simp [go_sem, ← List.map_take, ← List.map_drop, Dr21.c, allL_zero]; done))) ?_
  try simp [go_sem, seval, Dr21.c, allL_zero]
  obtain ⟨I0, hI0⟩ := mkI fun i e H => ((e 2 = .adr t.c) ∧ (e 3 = .adr d.c) ∧ (e 5 = .ptr 1 1 0 0) ∧ (e 4 = .ptr 0 1 0 0) ∧ (e 6 = .own 2 (allL t G.nodes i).length) ∧ (e 7 = dI i) ∧ (H.get 0 = some ⟨33, 5, [[.nil, .nil, .nil, dI 0, .nil]], false⟩) ∧ (0 < H.next) ∧ (H.get 1 = some ⟨33, 5, [[dLI G.nodes, .list (G.edges.map Edge.c), .nil, dI 0, .nil]], false⟩) ∧ (1 < H.next) ∧ (H.get 2 = some ⟨245, 2, (allL t G.nodes i).map c2, false⟩) ∧ (2 < H.next) ∧ (i ≤ G.nodes.length))
  refine loopK I0 (fun i => G.nodes.length - i) (0) ((hI0 _ _ _).2 ⟨?_, ?_, ?_, ?_, ?_, ?_, ?_, ?_, ?_, ?_, (by (simp [go_sem, allL])), ?_, (by first | assumption | omega | (simp [go_sem, Dr21.c, allL_zero]; done) | (simp_all; done))⟩) ?_
  iterate 11 (first | omega | (simp [go_sem, seval, Dr21.c, allL_zero] <;> omega))
  intro i e H hi0
  obtain ⟨q2_0, q3_0, q5_0, q4_0, q6_0, q7_0, g0_0, n0_0, g1_0, n1_0, g2_0, n2_0, hi⟩ := (hI0 _ _ _).1 hi0
  have x0 := frs n0_0
  have x1 := frs n1_0
  have x2 := frs n2_0
  have F0 := And.intro q2_0 (And.intro q3_0 (And.intro q5_0 (And.intro q4_0 (And.intro q6_0 (And.intro q7_0 (And.intro g0_0 (And.intro g1_0 (And.intro g2_0 (And.intro x0 (And.intro x1 x2))))))))))
  try simp [go_sem, seval, Dr21.c, allL_zero, F0]
  repeat first | intro _ | refine ⟨obs, ?_⟩
  refine condQ_mk (fun h4 => ?_) (fun h4 => ?_)
  · try simp [go_sem] at h4
    have hAl := (ht.good G.nodes[i]).2
    have hAN : atN t G.nodes i = attrsT t G.nodes[i] := by simp [atN, lge h4]
    have hal := allL_len t ht G.nodes i
    try simp [go_sem, seval, Dr21.c, allL_zero, F0, h4, lge h4]
    repeat first | intro _ | refine ⟨obs, ?_⟩
    refine dcallQ_pure0 (ref04_Attrs t ht.ok G.nodes[i]) ((by first | rfl | (simp [go_sem, ← List.map_take, ← List.map_drop, Dr21.c, allL_zero, F0, h4, lge h4]; done))) ?_
    try simp [go_sem, seval, Dr21.c, allL_zero, F0, h4, lge h4]
    repeat first | intro _ | refine ⟨obs, ?_⟩
    obtain ⟨I2, hI2⟩ := mkI fun k e H => ((e 2 = .adr t.c) ∧ (e 3 = .adr d.c) ∧ (e 5 = .ptr 1 1 0 0) ∧ (e 4 = .ptr 0 1 0 0) ∧ (e 6 = .own 2 ((allL t G.nodes i).length + k)) ∧ (e 7 = dI i) ∧ (e 8 = .list ((attrsT t G.nodes[i]).map Attr.c)) ∧ (e 10 = dI k) ∧ (H.get 0 = some ⟨33, 5, [[.nil, .nil, .nil, dI 0, .nil]], false⟩) ∧ (0 < H.next) ∧ (H.get 1 = some ⟨33, 5, [[dLI G.nodes, .list (G.edges.map Edge.c), .nil, dI 0, .nil]], false⟩) ∧ (1 < H.next) ∧ (H.get 2 = some ⟨245, 2, (allL t G.nodes i).map c2 ++ (allR t G.nodes i k).map c2, false⟩) ∧ (2 < H.next) ∧ (k ≤ (attrsT t G.nodes[i]).length) ∧ ((allR t G.nodes i k).length = k))
    refine loopK I2 (fun k => (attrsT t G.nodes[i]).length - k) (0) ((hI2 _ _ _).2 ⟨?_, ?_, ?_, ?_, ?_, ?_, ?_, ?_, ?_, ?_, ?_, ?_, (by (simp [go_sem, Dr21.c, allL_zero, F0, h4, lge h4, allR])), ?_, (by first | assumption | omega | (simp [go_sem, Dr21.c, allL_zero, F0, h4, lge h4]; done) | (simp_all; done)), (by (exact allR_len _ _ _ _))⟩) ?_
    iterate 13 (first | omega | (simp [go_sem, seval, Dr21.c, allL_zero, F0, h4, lge h4] <;> omega))
    intro k e H hi2
    obtain ⟨q2_2, q3_2, q5_2, q4_2, q6_2, q7_2, q8_2, q10_2, g0_2, n0_2, g1_2, n1_2, g2_2, n2_2, hk, hrl⟩ := (hI2 _ _ _).1 hi2
    have x0 := frs n0_2
    have x1 := frs n1_2
    have x2 := frs n2_2
    have F2 := And.intro q2_2 (And.intro q3_2 (And.intro q5_2 (And.intro q4_2 (And.intro q6_2 (And.intro q7_2 (And.intro q8_2 (And.intro q10_2 (And.intro g0_2 (And.intro g1_2 (And.intro g2_2 (And.intro x0 (And.intro x1 x2))))))))))))
    try simp [go_sem, seval, Dr21.c, allL_zero, h4, lge h4, F2, hrl]
    repeat first | intro _ | refine ⟨obs, ?_⟩
    refine condQ_mk (fun h8 => ?_) (fun h8 => ?_)
    ·try simp [go_sem] at h8
     try simp [go_sem, seval, Dr21.c, allL_zero, h4, lge h4, F2, hrl, h8]
     repeat first | intro _ | refine ⟨obs, ?_⟩
     refine nextQ_mk (k + 1) (by omega) ((hI2 _ _ _).2 ⟨?_, ?_, ?_, ?_, ?_, ?_, ?_, ?_, ?_, ?_, ?_, ?_, (by (simp [go_sem, Dr21.c, allL_zero, h4, lge h4, F2, hrl, h8, allR_succ, c2])), ?_, (by first | assumption | omega | (simp [go_sem, Dr21.c, allL_zero, h4, lge h4, F2, hrl, h8]; done) | (simp_all <;> omega)), (by (exact allR_len _ _ _ _))⟩) <;> first | omega | (simp [go_sem, seval, Dr21.c, allL_zero, h4, lge h4, F2, hrl, h8] <;> omega)
    ·try simp [go_sem] at h8
     have hK : k = (attrsT t G.nodes[i]).length := by omega
     have hAt : (allL t G.nodes (i + 1)).length = (allL t G.nodes i).length + k := by rw [allL_succ, List.length_append, allR_len, hAN, hK]
     subst hK
     try simp [go_sem, seval, Dr21.c, allL_zero, h4, lge h4, F2, hrl]
     repeat first | intro _ | refine ⟨obs, ?_⟩
     refine nextQ_mk (i + 1) (by omega) ((hI0 _ _ _).2 ⟨?_, ?_, ?_, ?_, ?_, ?_, ?_, ?_, ?_, ?_, (by (simp [go_sem, Dr21.c, allL_zero, h4, lge h4, F2, hrl, allL_succ, hAt, hAN])), ?_, (by first | assumption | omega | (simp [go_sem, Dr21.c, allL_zero, h4, lge h4, F2, hrl, h8]; done) | (simp_all <;> omega))⟩) <;> first | omega | (simp [go_sem, seval, Dr21.c, allL_zero, h4, lge h4, F2, hrl] <;> omega)
  · try simp [go_sem] at h4
    have hI : i = G.nodes.length := by omega
    obtain ⟨all, hall⟩ : ∃ all, allL t G.nodes i = all := ⟨_, rfl⟩
    have hal := allL_len t ht G.nodes i
    rw [hall] at hal
    try simp [go_sem, seval, Dr21.c, allL_zero, F0, hall]
    obtain ⟨I4, hI4⟩ := mkI fun n e H => (∃ j : Nat, ∃ sl : List Slot, ∃ v : Int, (e 2 = .adr t.c) ∧ (e 3 = .adr d.c) ∧ (e 5 = .ptr 1 1 0 0) ∧ (e 4 = .ptr 0 1 0 0) ∧ (e 6 = .own 2 all.length) ∧ (e 11 = dI n) ∧ (H.get 0 = some ⟨33, 5, [[.nil, .nil, .nil, dI 0, .nil]], false⟩) ∧ (0 < H.next) ∧ (H.get 1 = some ⟨33, 5, [[dLI G.nodes, .list (G.edges.map Edge.c), .own j sl.length, dI v, .nil]], false⟩) ∧ (1 < H.next) ∧ (H.get 2 = some ⟨245, 2, all.map c2, false⟩) ∧ (2 < H.next) ∧ (H.get j = some ⟨150, 4, sl.map Slot.c, false⟩) ∧ (j < H.next) ∧ (n ≤ 4) ∧ (n ≤ d.slots.length) ∧ ((sl, v) = m21F all d.slots n) ∧ (all.length = 0 → n = 0) ∧ (2 < j))
    refine loopKG (Ghosts.step (Ghosts.refl _) 1 0 2 150 4 _ _ (g1_0) rfl rfl rfl) I4 (fun n => 4 - n) (0) ((hI4 _ _ _).2 ⟨(H.next), ([]), (0), ?_, ?_, ?_, ?_, ?_, ?_, ?_, ?_, ?_, ?_, ?_, ?_, ?_, ?_, (by first | assumption | omega | (simp [go_sem, Dr21.c, allL_zero, F0, hall]; done) | (simp_all; done)), (by first | assumption | omega | (simp [go_sem, Dr21.c, allL_zero, F0, hall]; done) | (simp_all; done)), (by rfl), (by (intro _; rfl)), (by omega)⟩) ?_
    iterate 14 (first | omega | (simp [go_sem, seval, Dr21.c, allL_zero, F0, hall] <;> omega))
    intro n e H hi4
    obtain ⟨j, sl, v, q2_4, q3_4, q5_4, q4_4, q6_4, q11_4, g0_4, n0_4, g1_4, n1_4, g2_4, n2_4, gj_4, nj_4, hn, hnd, hst, hz, hj2⟩ := (hI4 _ _ _).1 hi4
    have x0 := frs n0_4
    have x1 := frs n1_4
    have x2 := frs n2_4
    have xj := frs nj_4
    have F4 := And.intro q2_4 (And.intro q3_4 (And.intro q5_4 (And.intro q4_4 (And.intro q6_4 (And.intro q11_4 (And.intro g0_4 (And.intro g1_4 (And.intro g2_4 (And.intro gj_4 (And.intro x0 (And.intro x1 (And.intro x2 xj))))))))))))
    have di1 := And.intro (nep (show j ≠ 2 by omega)) (And.intro (nep (show j ≠ 1 by omega)) (And.intro (nep (show j ≠ 0 by omega)) (And.intro (nep (show 2 ≠ 1 by omega)) (And.intro (nep (show 2 ≠ 0 by omega)) (nep (show 1 ≠ 0 by omega))))))
    try simp [go_sem, seval, Dr21.c, allL_zero, hall, F4, di1]
    repeat first | intro _ | refine ⟨obs, ?_⟩
    refine condQ_mk (fun h12 => ?_) (fun h12 => ?_)
    ·try simp [go_sem] at h12
     have hnl : n < d.slots.length := by omega
     have ha0 : 0 < all.length := by omega
     have hann : ¬all = [] := by intro h; rw [h] at ha0; simp at ha0
     obtain ⟨x, hx⟩ : ∃ x, d.slots[n] = x := ⟨_, rfl⟩
     have hgx : d.slots[n]?.getD (0, 0, 0) = x := by rw [lge hnl, ← hx]; rfl
     have hx1 := u8_lt x.1
     have hx2 := u8_lt x.2.1
     have hx3 := u8_lt x.2.2
     have hin := m21F_in all d.slots n
     rw [← hst] at hin
     simp only at hin
     have tm := tmod_in (show 0 ≤ (x.1.toNat : Int) by omega) (show (0 : Int) < all.length by omega)
     have t2 := tmod_in (show 0 ≤ (x.2.1.toNat : Int) by omega) (show (0 : Int) < 5 by omega)
     have t3 := tmod_in (show 0 ≤ (x.2.2.toNat : Int) by omega) (show (0 : Int) < 5 by omega)
     have hal2 : ((x.1.toNat : Int).tmod all.length).toNat < all.length := by omega
     have hat : all[((x.1.toNat : Int).tmod all.length).toNat] = m9atL all x.1 := by unfold m9atL; rw [lge hal2]; rfl
     have hne0 : (all.length : Int) ≠ 0 := by omega
     have hs1 : m21F all d.slots (n + 1) = m21S all (sl, v) x := by rw [m21F_succ, hgx, ← hst]
     unfold m21S at hs1
     have nx := nxs H.next
     try simp [go_sem, seval, Dr21.c, allL_zero, hall, F4, di1, h12, lge hnl, hx, cT3, lge hal2, hat, hne0, c2, nx]
     repeat first | intro _ | refine ⟨obs, ?_⟩
     refine condQ_mk (fun h17 => ?_) (fun h17 => ?_)
     ·try simp [go_sem] at h17
      rw [if_pos (by simp only; omega)] at hs1
      try simp [go_sem, seval, Dr21.c, allL_zero, hall, F4, di1, h12, lge hnl, hx, cT3, lge hal2, hat, hne0, c2, nx]
      repeat first | intro _ | refine ⟨obs, ?_⟩
      refine condQ_mk (fun h20 => ?_) (fun h20 => ?_)
      ·try simp [go_sem] at h20
       rw [if_pos (by simp only; omega)] at hs1
       obtain ⟨sl', hsl'⟩ : ∃ y : List Slot, y = sl ++ [⟨(m9atL all x.1).1, (m9atL all x.1).2, ⟨0, 0⟩⟩] := ⟨_, rfl⟩
       obtain ⟨v', hv'⟩ : ∃ y : Int, y = 3 := ⟨_, rfl⟩
       have hst' : (sl', v') = m21F all d.slots (n + 1) := by rw [hs1, hsl', hv']
       try simp [go_sem, seval, Dr21.c, allL_zero, hall, F4, di1, h12, lge hnl, hx, cT3, lge hal2, hat, hne0, c2, nx, hsl', hv']
       repeat first | intro _ | refine ⟨obs, ?_⟩
       refine nextQ_mk (n + 1) (by omega) ((hI4 _ _ _).2 ⟨(j), (sl'), (v'), ?_, ?_, ?_, ?_, ?_, ?_, ?_, ?_, ?_, ?_, ?_, ?_, ?_, ?_, (by first | assumption | omega | (simp [go_sem, Dr21.c, allL_zero, hall, F4, di1, h12, lge hnl, hx, cT3, lge hal2, hat, hne0, c2, nx, hsl', hv', h4, h17, h20]; done) | (simp_all <;> omega)), (by first | assumption | omega | (simp [go_sem, Dr21.c, allL_zero, hall, F4, di1, h12, lge hnl, hx, cT3, lge hal2, hat, hne0, c2, nx, hsl', hv', h4, h17, h20]; done) | (simp_all <;> omega)), (by exact hst'), (by omega), (by omega)⟩) <;> first | omega | (simp [go_sem, seval, Dr21.c, allL_zero, hall, F4, di1, h12, lge hnl, hx, cT3, lge hal2, hat, hne0, c2, nx, hsl', hv'] <;> omega)
      ·try simp [go_sem] at h20
       rw [if_neg (by simp only; omega)] at hs1
       obtain ⟨sl', hsl'⟩ : ∃ y : List Slot, y = sl ++ [⟨(m9atL all x.1).1, (m9atL all x.1).2, ⟨v, 0⟩⟩] := ⟨_, rfl⟩
       obtain ⟨v', hv'⟩ : ∃ y : Int, y = v + 1 := ⟨_, rfl⟩
       have hst' : (sl', v') = m21F all d.slots (n + 1) := by rw [hs1, hsl', hv']
       try simp [go_sem, seval, Dr21.c, allL_zero, hall, F4, di1, h12, lge hnl, hx, cT3, lge hal2, hat, hne0, c2, nx, hsl', hv']
       repeat first | intro _ | refine ⟨obs, ?_⟩
       refine nextQ_mk (n + 1) (by omega) ((hI4 _ _ _).2 ⟨(j), (sl'), (v'), ?_, ?_, ?_, ?_, ?_, ?_, ?_, ?_, ?_, ?_, ?_, ?_, ?_, ?_, (by first | assumption | omega | (simp [go_sem, Dr21.c, allL_zero, hall, F4, di1, h12, lge hnl, hx, cT3, lge hal2, hat, hne0, c2, nx, hsl', hv', h4, h17, h20]; done) | (simp_all <;> omega)), (by first | assumption | omega | (simp [go_sem, Dr21.c, allL_zero, hall, F4, di1, h12, lge hnl, hx, cT3, lge hal2, hat, hne0, c2, nx, hsl', hv', h4, h17, h20]; done) | (simp_all <;> omega)), (by exact hst'), (by omega), (by omega)⟩) <;> first | omega | (simp [go_sem, seval, Dr21.c, allL_zero, hall, F4, di1, h12, lge hnl, hx, cT3, lge hal2, hat, hne0, c2, nx, hsl', hv'] <;> omega)
     ·try simp [go_sem] at h17
      rw [if_neg (by simp only; omega)] at hs1
      have h3v : ¬ (3 : Int) < v := by omega
      obtain ⟨sl', hsl'⟩ : ∃ y : List Slot, y = sl ++ [⟨(m9atL all x.1).1, (m9atL all x.1).2, ⟨(x.2.1.toNat : Int).tmod 5 - 1, (x.2.2.toNat : Int).tmod 5 - 2⟩⟩] := ⟨_, rfl⟩
      obtain ⟨v', hv'⟩ : ∃ y : Int, y = v := ⟨_, rfl⟩
      have hst' : (sl', v') = m21F all d.slots (n + 1) := by rw [hs1, hsl', hv']
      try simp [go_sem, seval, Dr21.c, allL_zero, hall, F4, di1, h12, lge hnl, hx, cT3, lge hal2, hat, hne0, c2, nx, hsl', hv', h3v]
      repeat first | intro _ | refine ⟨obs, ?_⟩
      refine nextQ_mk (n + 1) (by omega) ((hI4 _ _ _).2 ⟨(j), (sl'), (v'), ?_, ?_, ?_, ?_, ?_, ?_, ?_, ?_, ?_, ?_, ?_, ?_, ?_, ?_, (by first | assumption | omega | (simp [go_sem, Dr21.c, allL_zero, hall, F4, di1, h12, lge hnl, hx, cT3, lge hal2, hat, hne0, c2, nx, hsl', hv', h3v, h4, h17]; done) | (simp_all <;> omega)), (by first | assumption | omega | (simp [go_sem, Dr21.c, allL_zero, hall, F4, di1, h12, lge hnl, hx, cT3, lge hal2, hat, hne0, c2, nx, hsl', hv', h3v, h4, h17]; done) | (simp_all <;> omega)), (by exact hst'), (by omega), (by omega)⟩) <;> first | omega | (simp [go_sem, seval, Dr21.c, allL_zero, hall, F4, di1, h12, lge hnl, hx, cT3, lge hal2, hat, hne0, c2, nx, hsl', hv', h3v] <;> omega)
    ·try simp [go_sem] at h12
     have hin := m21F_in all d.slots n
     rw [← hst] at hin
     simp only at hin
     have hv3 : 0 ≤ v ∧ v ≤ 1000 := by omega
     have hS : slots21 t d = (sl, v) := by
      unfold slots21 all21
      rw [hG, ← hI, hall, hst]
      split
      ·rename_i h0; rw [hz h0]; rfl
      ·rename_i h0
       have hq : ¬ (n < d.slots.length ∧ n < 4) := fun h => h0 (by rw [h12 h.1 (by omega)]; rfl)
       rw [show n = min d.slots.length 4 by omega]
     try simp [go_sem, seval, Dr21.c, allL_zero, hall, F4, di1]
     obtain ⟨I6, hI6⟩ := mkI fun m e H => (∃ q : Nat, (e 2 = .adr t.c) ∧ (e 3 = .adr d.c) ∧ (e 5 = .ptr 1 1 0 0) ∧ (e 4 = .ptr 0 1 0 0) ∧ (e 15 = dI m) ∧ (H.get 0 = some ⟨33, 5, [[.nil, .nil, .nil, dI 0, .nil]], false⟩) ∧ (0 < H.next) ∧ (H.get 1 = some ⟨33, 5, [[dLI G.nodes, .list (G.edges.map Edge.c), .own j sl.length, dI v, .own q m]], false⟩) ∧ (1 < H.next) ∧ (H.get j = some ⟨150, 4, sl.map Slot.c, false⟩) ∧ (j < H.next) ∧ (H.get q = some ⟨152, 5, (m21T v d.tests m).map Test.c, false⟩) ∧ (q < H.next) ∧ (m ≤ 3) ∧ (m ≤ d.tests.length) ∧ (1 < j ∧ j < q) ∧ ((m21T v d.tests m).length = m))
     refine loopKG (Ghosts.step (Ghosts.refl _) 1 0 4 152 5 _ _ (g1_4) rfl rfl rfl) I6 (fun m => 3 - m) (0) ((hI6 _ _ _).2 ⟨(H.next), ?_, ?_, ?_, ?_, ?_, ?_, ?_, ?_, ?_, ?_, ?_, (by (simp [go_sem, Dr21.c, allL_zero, hall, F4, di1, m21T])), ?_, (by first | assumption | omega | (simp [go_sem, Dr21.c, allL_zero, hall, F4, di1]; done) | (simp_all; done)), (by first | assumption | omega | (simp [go_sem, Dr21.c, allL_zero, hall, F4, di1]; done) | (simp_all; done)), (by omega), (by (exact m21T_len _ _ _))⟩) ?_
     iterate 12 (first | omega | (simp [go_sem, seval, Dr21.c, allL_zero, hall, F4, di1] <;> omega))
     intro m e H hi6
     obtain ⟨q, q2_6, q3_6, q5_6, q4_6, q15_6, g0_6, n0_6, g1_6, n1_6, gj_6, nj_6, gq_6, nq_6, hm, hmd, hjq, htl⟩ := (hI6 _ _ _).1 hi6
     have x0 := frs n0_6
     have x1 := frs n1_6
     have xj := frs nj_6
     have xq := frs nq_6
     have F6 := And.intro q2_6 (And.intro q3_6 (And.intro q5_6 (And.intro q4_6 (And.intro q15_6 (And.intro g0_6 (And.intro g1_6 (And.intro gj_6 (And.intro gq_6 (And.intro x0 (And.intro x1 (And.intro xj xq)))))))))))
     have di2 := And.intro (nep (show q ≠ j by omega)) (And.intro (nep (show q ≠ 1 by omega)) (And.intro (nep (show q ≠ 0 by omega)) (And.intro (nep (show j ≠ 1 by omega)) (And.intro (nep (show j ≠ 0 by omega)) (nep (show 1 ≠ 0 by omega))))))
     try simp [go_sem, seval, Dr21.c, allL_zero, hall, di1, F6, htl, di2]
     repeat first | intro _ | refine ⟨obs, ?_⟩
     refine condQ_mk (fun h25 => ?_) (fun h25 => ?_)
     ·try simp [go_sem] at h25
      have hml : m < d.tests.length := by omega
      have hgt : d.tests[m]?.getD (0, 0, 0, 0) = d.tests[m] := by rw [lge hml]; rfl
      try simp [go_sem, seval, Dr21.c, allL_zero, hall, di1, F6, htl, di2, h25, lge hml, cT4]
      repeat first | intro _ | refine ⟨obs, ?_⟩
      refine dcallQ_pure0 (ref03_Made v hv3 d.tests[m]) ((by first | rfl | (simp [go_sem, ← List.map_take, ← List.map_drop, Dr21.c, allL_zero, hall, di1, F6, htl, di2, h25, lge hml, cT4]; done))) ?_
      try simp [go_sem, seval, Dr21.c, allL_zero, hall, di1, F6, htl, di2, h25, lge hml, cT4]
      repeat first | intro _ | refine ⟨obs, ?_⟩
      refine nextQ_mk (m + 1) (by omega) ((hI6 _ _ _).2 ⟨(q), ?_, ?_, ?_, ?_, ?_, ?_, ?_, ?_, ?_, ?_, ?_, (by (simp [go_sem, Dr21.c, allL_zero, hall, di1, F6, htl, di2, h25, lge hml, cT4, m21T_succ, hgt])), ?_, (by first | assumption | omega | (simp [go_sem, Dr21.c, allL_zero, hall, di1, F6, htl, di2, h25, lge hml, cT4, h4, h12]; done) | (simp_all <;> omega)), (by first | assumption | omega | (simp [go_sem, Dr21.c, allL_zero, hall, di1, F6, htl, di2, h25, lge hml, cT4, h4, h12]; done) | (simp_all <;> omega)), (by omega), (by (exact m21T_len _ _ _))⟩) <;> first | omega | (simp [go_sem, seval, Dr21.c, allL_zero, hall, di1, F6, htl, di2, h25, lge hml, cT4] <;> omega)
     ·try simp [go_sem] at h25
      have hM : m = min d.tests.length 3 := by omega
      try simp [go_sem, seval, Dr21.c, allL_zero, hall, di1, F6, htl, di2]
      exact hQ _ _ (by first | (left; (simp [go_sem, Dr21.c, allL_zero, hall, di1, F6, htl, di2, made21, hG, hS, ← hM]); done) | (right; (simp [go_sem, Dr21.c, allL_zero, hall, di1, F6, htl, di2, made21, hG, hS, ← hM]); done))
end Go.Abs
end
section
set_option maxRecDepth 8000
set_option maxHeartbeats 4000000
open Go Go.Proofs
namespace Go.Abs
abbrev B4 := UInt8 × UInt8 × UInt8 × UInt8
def cU4 (x : B4) : List D := [.int .u8 (x.1.toNat : Int), .int .u8 (x.2.1.toNat : Int), .int .u8 (x.2.2.1.toNat : Int), .int .u8 (x.2.2.2.toNat : Int)]
structure Dr24 where
  left : Dr21
  keep : UInt64
  nodes : List UInt8
  edges : List B3
  slots : List B3
  plain : Bool
  inj : Bool
  forbid : B4
  order : List UInt8
def Dr24.c (d : Dr24) : List D := [.list (d.left.graph.nodes.map cU), .list (d.left.graph.edges.map cT3), .list (d.left.slots.map cT3), .list (d.left.tests.map cT4), .int .u64 (d.keep.toNat : Int), .list (d.nodes.map cU), .list (d.edges.map cT3), .list (d.slots.map cT3), .bool d.plain, .bool d.inj,
  .int .u8 (d.forbid.1.toNat : Int), .int .u8 (d.forbid.2.1.toNat : Int), .int .u8 (d.forbid.2.2.1.toNat : Int), .int .u8 (d.forbid.2.2.2.toNat : Int), .list (d.order.map cU)]
@[go_sem] theorem Dr24.cl (d : Dr24) : D.clL d.c = true := by simp [Dr24.c, D.clL, D.cl, cUs_cl, cT3s_cl, cT4s_cl]
@[go_sem] theorem Dr24s_cl (l : List Dr24) : D.clLL (l.map Dr24.c) = true := clLL_map _ Dr24.cl l
def mkEd (t : Types) (n : Nat) (x : B3) : Edge := ⟨(x.1.toNat : Int).tmod t.edges.length, (x.2.1.toNat : Int).tmod n, (x.2.2.toNat : Int).tmod n⟩
def nN (ns : List Int) (a : Int) : Int := ns[a.toNat]?.getD 0
def grN (t : Types) (base : List Int) (ds : List UInt8) (k : Nat) : List Int := base ++ (List.range k).map fun i => pickL (concL t) (ds[i]?.getD 0)
def grE1 (t : Types) (ns : List Int) (x : B3) : List Edge := if fitsT t (mkEd t ns.length x).type (nN ns (mkEd t ns.length x).from_) (nN ns (mkEd t ns.length x).to_) = true then [mkEd t ns.length x] else []
def grE (t : Types) (ns : List Int) (base : List Edge) (es : List B3) (k : Nat) : List Edge := base ++ (List.range k).flatMap fun i => grE1 t ns (es[i]?.getD (0, 0, 0))
def grown (t : Types) (g : Graph) (d : Dr24) : Graph :=
  ⟨grN t g.nodes d.nodes (if (concL t).length = 0 then 0 else min d.nodes.length 2),
    grE t (grN t g.nodes d.nodes (if (concL t).length = 0 then 0 else min d.nodes.length 2)) g.edges d.edges (if (grN t g.nodes d.nodes (if (concL t).length = 0 then 0 else min d.nodes.length 2)).length = 0 ∨ t.edges.length = 0 then 0 else min d.edges.length 2)⟩
theorem grN_succ (t : Types) (base : List Int) (ds : List UInt8) (k : Nat) : grN t base ds (k + 1) = grN t base ds k ++ [pickL (concL t) (ds[k]?.getD 0)] := by simp [grN, List.range_succ]
theorem grN_len (t : Types) (base : List Int) (ds : List UInt8) (k : Nat) : (grN t base ds k).length = base.length + k := by simp [grN]
theorem grE_succ (t : Types) (ns : List Int) (base : List Edge) (es : List B3) (k : Nat) : grE t ns base es (k + 1) = grE t ns base es k ++ grE1 t ns (es[k]?.getD (0, 0, 0)) := by simp [grE, List.range_succ]
theorem grE1_len (t : Types) (ns : List Int) (x : B3) : (grE1 t ns x).length ≤ 1 := by unfold grE1; split <;> simp
theorem grE_len (t : Types) (ns : List Int) (base : List Edge) (es : List B3) : ∀ k, (grE t ns base es k).length ≤ base.length + k
  | 0 => by simp [grE]
  | k + 1 => by rw [grE_succ, List.length_append]; have := grE_len t ns base es k; have := grE1_len t ns (es[k]?.getD (0, 0, 0)); omega
theorem mkEd_in {t : Types} {n : Nat} (hn : 0 < n) (x : B3) : (0 ≤ (mkEd t n x).from_ ∧ (mkEd t n x).from_ < n) ∧ 0 ≤ (mkEd t n x).to_ ∧ (mkEd t n x).to_ < n :=
  ⟨tmod_in (show 0 ≤ (x.2.1.toNat : Int) by omega) (show (0 : Int) < n by omega), tmod_in (show 0 ≤ (x.2.2.toNat : Int) by omega) (show (0 : Int) < n by omega)⟩
theorem ite_le2 (c : Prop) [Decidable c] (m : Nat) : (if c then 0 else min m 2) ≤ 2 := by split <;> omega
theorem grE_ends {t : Types} {ns : List Int} {base : List Edge} {es : List B3} {k : Nat} (h0 : k ≠ 0 → 0 < ns.length) (hb : ∀ x ∈ base, (0 ≤ x.from_ ∧ x.from_ < ns.length) ∧ 0 ≤ x.to_ ∧ x.to_ < ns.length) : Graph.ends ⟨ns, grE t ns base es k⟩ := by
  intro x hx
  simp only [grE, List.mem_append, List.mem_flatMap, List.mem_range] at hx
  rcases hx with hx | ⟨i, hi, hx⟩
  · exact hb x hx
  · unfold grE1 at hx
    split at hx
    ·simp only [List.mem_singleton] at hx
     subst hx
     exact mkEd_in (h0 (by omega)) _
    ·cases hx
theorem grownM_ok {t : Types} {g : Graph} {d : Dr24} (h : g.ends) : (grown t g d).ends ∧ (grown t g d).nodes.length ≤ g.nodes.length + 2 ∧ (grown t g d).edges.length ≤ g.edges.length + 2 := by
  refine ⟨?_, ?_, ?_⟩
  · unfold grown
    refine grE_ends (fun h0 => ?_) fun x hx => ?_
    ·rcases Nat.eq_zero_or_pos (grN t g.nodes d.nodes (if (concL t).length = 0 then 0 else min d.nodes.length 2)).length with h1 | h1
     ·exact absurd (if_pos (Or.inl h1)) h0
     ·exact h1
    ·have := h x hx
     rw [grN_len]; omega
  · simp only [grown, grN_len]; have := ite_le2 ((concL t).length = 0) d.nodes.length; omega
  · exact Nat.le_trans (grE_len _ _ _ _ _) (Nat.add_le_add_left (ite_le2 _ _) _)
theorem ref24_grown (t : Types) (ht : t.fine) (g : Graph) (hgn : g.nodes.length ≤ 1000) (hge : g.edges.length ≤ 1000) (d : Dr24) : Pure Tryz.prog 102 [t.d, g.d, .agg d.c] (grown t g d).d := by
  have hfN := ht.ok.fewN
  have hfE := ht.ok.fewE
  obtain ⟨C, hC⟩ : ∃ C, concL t = C := ⟨_, rfl⟩
  refine Tz.pK ⟨fun t => t == 6 || t == 7 || t == 12, fun r => match r with | 6 => [(0, 14), (1, 14)] | 11 => [(0, 30), (1, 30), (3, 30), (4, 30), (5, 30), (7, 30), (8, 30), (9, 30), (11, 30), (12, 30), (14, 30), (15, 30), (16, 30), (20, 30), (21, 30), (23, 30), (24, 30), (25, 30)] | _ => []⟩ Tryz.func102 rfl (fun Q hQ => ?_)
  try simp [go_sem, seval, Dr24.c]
  unfold callQ; refine ref05_CopiedO g (by omega) (by omega) _ _ (fun a b H1 ha hb hab han hbn hga hgb hfr hnn => ?_)
  have h0n : (0 : Nat) < H1.next := by omega
  have ha0 : a ≠ 0 := by simp [go_sem] at ha; omega
  have hb0 : b ≠ 0 := by simp [go_sem] at hb; omega
  have hg0 := hfr 0 (by simp [go_sem])
  simp [go_sem] at hg0
  have nx := nxs H1.next
  have fr1 := And.intro (frs (show a < H1.next by omega)) (And.intro (frs (show b < H1.next by omega)) (frs (show 0 < H1.next by omega)))
  have di2 := And.intro (nep (show 0 ≠ b by omega)) (And.intro (nep (show 0 ≠ a by omega)) (nep (show b ≠ a by omega)))
  try simp [go_sem, seval, Dr24.c, fr1, di2, hga, hgb, hg0, nx]
  refine callQ_pure0 ((by have hq := ref24_concrete t (by omega); rw [hC] at hq; exact hq)) ((by first | rfl | (simp [go_sem, ← List.map_take, ← List.map_drop, Dr24.c, fr1, di2, hga, hgb, hg0, nx]; done))) ?_
  try simp [go_sem, seval, Dr24.c, fr1, di2, hga, hgb, hg0, nx]
  obtain ⟨I0, hI0⟩ := mkI fun i e H => (∃ c : Nat, (e 3 = .adr t.c) ∧ (e 4 = .adr g.c) ∧ (e 5 = .adr d.c) ∧ (e 6 = .ptr 0 1 0 0) ∧ (e 7 = .ptr c 1 0 0) ∧ (e 8 = dLI C) ∧ (e 9 = dI i) ∧ (H.get 0 = some ⟨29, 2, [[.nil, .nil]], false⟩) ∧ (0 < H.next) ∧ (H.get c = some ⟨29, 2, [[.own a (g.nodes.length + i), .own b g.edges.length]], false⟩) ∧ (c < H.next) ∧ (H.get a = some ⟨3, 1, (grN t g.nodes d.nodes i).map cI, false⟩) ∧ (a < H.next) ∧ (H.get b = some ⟨124, 3, g.edges.map Edge.c, false⟩) ∧ (b < H.next) ∧ (i ≤ 2) ∧ (i ≤ d.nodes.length) ∧ (C.length = 0 → i = 0) ∧ (a < c ∧ b < c ∧ 0 < c) ∧ ((grN t g.nodes d.nodes i).length = g.nodes.length + i))
  refine loopK I0 (fun i => 2 - i) (0) ((hI0 _ _ _).2 ⟨(H1.next), ?_, ?_, ?_, ?_, ?_, ?_, ?_, ?_, ?_, ?_, ?_, (by (simp [go_sem, Dr24.c, fr1, di2, hga, hgb, hg0, nx, grN])), ?_, ?_, ?_, (by first | assumption | omega | (simp [go_sem, Dr24.c, fr1, di2, hga, hgb, hg0, nx]; done) | (simp_all; done)), (by first | assumption | omega | (simp [go_sem, Dr24.c, fr1, di2, hga, hgb, hg0, nx]; done) | (simp_all; done)), (by (intro _; rfl)), (by omega), (by (exact grN_len _ _ _ _))⟩) ?_
  iterate 14 (first | omega | (simp [go_sem, seval, Dr24.c, fr1, di2, hga, hgb, hg0, nx] <;> omega))
  intro i e H hi0
  obtain ⟨c, q3_0, q4_0, q5_0, q6_0, q7_0, q8_0, q9_0, g0_0, n0_0, gc_0, nc_0, ga_0, na_0, gb_0, nb_0, hi, hid, hz, hc, hrl⟩ := (hI0 _ _ _).1 hi0
  have x0 := frs n0_0
  have xc := frs nc_0
  have xa := frs na_0
  have xb := frs nb_0
  have F0 := And.intro q3_0 (And.intro q4_0 (And.intro q5_0 (And.intro q6_0 (And.intro q7_0 (And.intro q8_0 (And.intro q9_0 (And.intro g0_0 (And.intro gc_0 (And.intro ga_0 (And.intro gb_0 (And.intro x0 (And.intro xc (And.intro xa xb)))))))))))))
  have di3 := And.intro (nep (show 0 ≠ c by omega)) (And.intro (nep (show 0 ≠ b by omega)) (And.intro (nep (show 0 ≠ a by omega)) (And.intro (nep (show c ≠ b by omega)) (And.intro (nep (show c ≠ a by omega)) (nep (show b ≠ a by omega))))))
  try simp [go_sem, seval, Dr24.c, fr1, di2, hga, hgb, hg0, nx, F0, hrl, di3]
  repeat first | intro _ | refine ⟨obs, ?_⟩
  refine condQ_mk (fun h4 => ?_) (fun h4 => ?_)
  · try simp [go_sem] at h4
    have hil : i < d.nodes.length := by omega
    have hC0 : 0 < C.length := by omega
    have hCn : ¬C = [] := by intro h; rw [h] at hC0; simp at hC0
    have hx1 := u8_lt d.nodes[i]
    have hgd : d.nodes[i]?.getD 0 = d.nodes[i] := by rw [lge hil]; rfl
    have tm := tmod_in (show 0 ≤ (d.nodes[i].toNat : Int) by omega) (show (0 : Int) < C.length by omega)
    obtain ⟨kk, hpk⟩ := pickL_in hC0 d.nodes[i]
    have hne0 : (C.length : Int) ≠ 0 := by omega
    try simp [go_sem, seval, Dr24.c, fr1, di2, hga, hgb, hg0, nx, F0, hrl, di3, h4, lge hil, lge kk, hne0, cU]
    repeat first | intro _ | refine ⟨obs, ?_⟩
    refine nextQ_mk (i + 1) (by omega) ((hI0 _ _ _).2 ⟨(c), ?_, ?_, ?_, ?_, ?_, ?_, ?_, ?_, ?_, ?_, ?_, (by (simp [go_sem, Dr24.c, fr1, di2, hga, hgb, hg0, nx, F0, hrl, di3, h4, lge hil, lge kk, hne0, cU, grN_succ, hC, hgd, hpk])), ?_, ?_, ?_, (by first | assumption | omega | (simp [go_sem, Dr24.c, fr1, di2, hga, hgb, hg0, nx, F0, hrl, di3, h4, lge hil, lge kk, hne0, cU]; done) | (simp_all <;> omega)), (by first | assumption | omega | (simp [go_sem, Dr24.c, fr1, di2, hga, hgb, hg0, nx, F0, hrl, di3, h4, lge hil, lge kk, hne0, cU]; done) | (simp_all <;> omega)), (by omega), (by omega), (by (exact grN_len _ _ _ _))⟩) <;> first | omega | (simp [go_sem, seval, Dr24.c, fr1, di2, hga, hgb, hg0, nx, F0, hrl, di3, h4, lge hil, lge kk, hne0, cU] <;> omega)
  · try simp [go_sem] at h4
    have hI : i = (if C.length = 0 then 0 else min d.nodes.length 2) := by
     split
     ·rename_i h; exact hz h
     ·rename_i h
      have hq : ¬ (i < d.nodes.length ∧ i < 2) := fun hh => h (by rw [h4 hh.1 (by omega)]; rfl)
      omega
    obtain ⟨ns, hns⟩ : ∃ ns, grN t g.nodes d.nodes i = ns := ⟨_, rfl⟩
    have hnl : ns.length = g.nodes.length + i := by rw [← hns]; exact hrl
    clear hrl
    have hrl : g.nodes.length + i = ns.length := hnl.symm
    have hnl1 : g.nodes.length + i = ns.length := hnl.symm
    have hnl2 : (g.nodes.length : Int) + (i : Int) = (ns.length : Int) := by omega
    try simp [go_sem, seval, Dr24.c, fr1, di2, hga, hgb, hg0, nx, F0, hrl, di3, hns, hnl1, hnl2]
    repeat first | intro _ | refine ⟨obs, ?_⟩
    obtain ⟨I2, hI2⟩ := mkI fun k e H => (∃ ys : List Edge, (e 3 = .adr t.c) ∧ (e 4 = .adr g.c) ∧ (e 5 = .adr d.c) ∧ (e 6 = .ptr 0 1 0 0) ∧ (e 7 = .ptr c 1 0 0) ∧ (e 10 = dI ns.length) ∧ (e 11 = dI k) ∧ (H.get 0 = some ⟨29, 2, [[.nil, .nil]], false⟩) ∧ (0 < H.next) ∧ (H.get c = some ⟨29, 2, [[.own a ns.length, .own b ys.length]], false⟩) ∧ (c < H.next) ∧ (H.get a = some ⟨3, 1, ns.map cI, false⟩) ∧ (a < H.next) ∧ (H.get b = some ⟨124, 3, ys.map Edge.c, false⟩) ∧ (b < H.next) ∧ (k ≤ 2) ∧ (k ≤ d.edges.length) ∧ (ns.length = 0 ∨ t.edges.length = 0 → k = 0) ∧ (a < c ∧ b < c ∧ 0 < c) ∧ (ys = grE t ns g.edges d.edges k) ∧ (ys.length ≤ g.edges.length + k))
    refine loopK I2 (fun k => 2 - k) (0) ((hI2 _ _ _).2 ⟨(g.edges), ?_, ?_, ?_, ?_, ?_, ?_, ?_, ?_, ?_, ?_, ?_, ?_, ?_, ?_, ?_, (by first | assumption | omega | (simp [go_sem, Dr24.c, fr1, di2, hga, hgb, hg0, nx, F0, hrl, di3, hns, hnl1, hnl2]; done) | (simp_all; done)), (by first | assumption | omega | (simp [go_sem, Dr24.c, fr1, di2, hga, hgb, hg0, nx, F0, hrl, di3, hns, hnl1, hnl2]; done) | (simp_all; done)), (by (intro _; rfl)), (by omega), (by (simp [grE])), (by omega)⟩) ?_
    iterate 15 (first | omega | (simp [go_sem, seval, Dr24.c, fr1, di2, hga, hgb, hg0, nx, F0, hrl, di3, hns, hnl1, hnl2] <;> omega))
    intro k e H hi2
    obtain ⟨ys, q3_2, q4_2, q5_2, q6_2, q7_2, q10_2, q11_2, g0_2, n0_2, gc_2, nc_2, ga_2, na_2, gb_2, nb_2, hk, hkd, hzz, hc2, hy, hyl⟩ := (hI2 _ _ _).1 hi2
    have x0 := frs n0_2
    have xc := frs nc_2
    have xa := frs na_2
    have xb := frs nb_2
    have F2 := And.intro q3_2 (And.intro q4_2 (And.intro q5_2 (And.intro q6_2 (And.intro q7_2 (And.intro q10_2 (And.intro q11_2 (And.intro g0_2 (And.intro gc_2 (And.intro ga_2 (And.intro gb_2 (And.intro x0 (And.intro xc (And.intro xa xb)))))))))))))
    have di4 := And.intro (nep (show 0 ≠ c by omega)) (And.intro (nep (show 0 ≠ b by omega)) (And.intro (nep (show 0 ≠ a by omega)) (And.intro (nep (show c ≠ b by omega)) (And.intro (nep (show c ≠ a by omega)) (nep (show b ≠ a by omega))))))
    try simp [go_sem, seval, Dr24.c, fr1, di2, hga, hgb, hg0, nx, hrl, di3, hns, hnl1, hnl2, F2, di4]
    repeat first | intro _ | refine ⟨obs, ?_⟩
    refine condQ_mk (fun h9 => ?_) (fun h9 => ?_)
    ·try simp [go_sem] at h9
     have hkl : k < d.edges.length := by omega
     have hE0 : 0 < t.edges.length := by omega
     have hn0 : 0 < ns.length := by omega
     have hee0 : ¬t.edges = [] := by intro h; rw [h] at hE0; simp at hE0
     have hnn0 : ¬ns = [] := by intro h; rw [h] at hn0; simp at hn0
     obtain ⟨x, hx⟩ : ∃ x, d.edges[k] = x := ⟨_, rfl⟩
     have hgx : d.edges[k]?.getD (0, 0, 0) = x := by rw [lge hkl, ← hx]; rfl
     have hx1 := u8_lt x.1
     have hx2 := u8_lt x.2.1
     have hx3 := u8_lt x.2.2
     have t1 := tmod_in (show 0 ≤ (x.1.toNat : Int) by omega) (show (0 : Int) < t.edges.length by omega)
     have t2 := tmod_in (show 0 ≤ (x.2.1.toNat : Int) by omega) (show (0 : Int) < ns.length by omega)
     have t3 := tmod_in (show 0 ≤ (x.2.2.toNat : Int) by omega) (show (0 : Int) < ns.length by omega)
     have hf : ((x.2.1.toNat : Int).tmod ns.length).toNat < ns.length := by omega
     have hto : ((x.2.2.toNat : Int).tmod ns.length).toNat < ns.length := by omega
     have hne0 : (t.edges.length : Int) ≠ 0 := by omega
     have hne1 : (ns.length : Int) ≠ 0 := by omega
     have nx2 := nxs H.next
     try simp [go_sem, seval, Dr24.c, fr1, di2, hga, hgb, hg0, nx, hrl, di3, hns, hnl1, hnl2, F2, di4, h9, lge hkl, hx, hgx, cT3, lge hf, lge hto, hne0, hne1, nx2]
     repeat first | intro _ | refine ⟨obs, ?_⟩
     refine dcallQ_pure0 (ref04_Fits t ht.ok _ _ _) ((by first | rfl | (simp [go_sem, ← List.map_take, ← List.map_drop, Dr24.c, fr1, di2, hga, hgb, hg0, nx, hrl, di3, hns, hnl1, hnl2, F2, di4, h9, lge hkl, hx, hgx, cT3, lge hf, lge hto, hne0, hne1, nx2]; done))) ?_
     try simp [go_sem, seval, Dr24.c, fr1, di2, hga, hgb, hg0, nx, hrl, di3, hns, hnl1, hnl2, F2, di4, h9, lge hkl, hx, hgx, cT3, lge hf, lge hto, hne0, hne1, nx2]
     repeat first | intro _ | refine ⟨obs, ?_⟩
     refine condQ_mk (fun h12 => ?_) (fun h12 => ?_)
     ·try simp [go_sem] at h12
      have hE : grE1 t ns x = [mkEd t ns.length x] := by unfold grE1 nN mkEd; rw [if_pos (by simpa [lge hf, lge hto] using h12)]
      try simp [go_sem, seval, Dr24.c, fr1, di2, hga, hgb, hg0, nx, hrl, di3, hns, hnl1, hnl2, F2, di4, h9, lge hkl, hx, hgx, cT3, lge hf, lge hto, hne0, hne1, nx2, hE, mkEd]
      repeat first | intro _ | refine ⟨obs, ?_⟩
      refine nextQ_mk (k + 1) (by omega) ((hI2 _ _ _).2 ⟨(ys ++ grE1 t ns (d.edges[k]?.getD (0, 0, 0))), ?_, ?_, ?_, ?_, ?_, ?_, ?_, ?_, ?_, ?_, ?_, ?_, ?_, ?_, ?_, (by first | assumption | omega | (simp [go_sem, Dr24.c, fr1, di2, hga, hgb, hg0, nx, hrl, di3, hns, hnl1, hnl2, F2, di4, h9, lge hkl, hx, hgx, cT3, lge hf, lge hto, hne0, hne1, nx2, hE, mkEd, h4, h12]; done) | (simp_all <;> omega)), (by first | assumption | omega | (simp [go_sem, Dr24.c, fr1, di2, hga, hgb, hg0, nx, hrl, di3, hns, hnl1, hnl2, F2, di4, h9, lge hkl, hx, hgx, cT3, lge hf, lge hto, hne0, hne1, nx2, hE, mkEd, h4, h12]; done) | (simp_all <;> omega)), (by omega), (by omega), (by (rw [grE_succ, ← hy])), (by (rw [List.length_append]; have := grE1_len t ns (d.edges[k]?.getD (0, 0, 0)); omega))⟩) <;> first | omega | (simp [go_sem, seval, Dr24.c, fr1, di2, hga, hgb, hg0, nx, hrl, di3, hns, hnl1, hnl2, F2, di4, h9, lge hkl, hx, hgx, cT3, lge hf, lge hto, hne0, hne1, nx2, hE, mkEd] <;> omega)
     ·try simp [go_sem] at h12
      have hE : grE1 t ns x = [] := by unfold grE1 nN mkEd; rw [if_neg (by simpa [lge hf, lge hto] using h12)]
      try simp [go_sem, seval, Dr24.c, fr1, di2, hga, hgb, hg0, nx, hrl, di3, hns, hnl1, hnl2, F2, di4, h9, lge hkl, hx, hgx, cT3, lge hf, lge hto, hne0, hne1, nx2, hE]
      repeat first | intro _ | refine ⟨obs, ?_⟩
      refine nextQ_mk (k + 1) (by omega) ((hI2 _ _ _).2 ⟨(ys ++ grE1 t ns (d.edges[k]?.getD (0, 0, 0))), ?_, ?_, ?_, ?_, ?_, ?_, ?_, ?_, ?_, ?_, ?_, ?_, ?_, ?_, ?_, (by first | assumption | omega | (simp [go_sem, Dr24.c, fr1, di2, hga, hgb, hg0, nx, hrl, di3, hns, hnl1, hnl2, F2, di4, h9, lge hkl, hx, hgx, cT3, lge hf, lge hto, hne0, hne1, nx2, hE, h4, h12]; done) | (simp_all <;> omega)), (by first | assumption | omega | (simp [go_sem, Dr24.c, fr1, di2, hga, hgb, hg0, nx, hrl, di3, hns, hnl1, hnl2, F2, di4, h9, lge hkl, hx, hgx, cT3, lge hf, lge hto, hne0, hne1, nx2, hE, h4, h12]; done) | (simp_all <;> omega)), (by omega), (by omega), (by (rw [grE_succ, ← hy])), (by (rw [List.length_append]; have := grE1_len t ns (d.edges[k]?.getD (0, 0, 0)); omega))⟩) <;> first | omega | (simp [go_sem, seval, Dr24.c, fr1, di2, hga, hgb, hg0, nx, hrl, di3, hns, hnl1, hnl2, F2, di4, h9, lge hkl, hx, hgx, cT3, lge hf, lge hto, hne0, hne1, nx2, hE] <;> omega)
    ·try simp [go_sem] at h9
     have hK : k = (if ns.length = 0 ∨ t.edges.length = 0 then 0 else min d.edges.length 2) := by
      split
      ·rename_i h; exact hzz h
      ·rename_i h
       have hq : ¬ (k < d.edges.length ∧ k < 2) := fun hh => h (.inr (by rw [h9 hh.1 (by omega) (by omega)]; rfl))
       omega
     have hfin : grown t g d = ⟨ns, ys⟩ := by
      unfold grown
      rw [hC, ← hI, hns, ← hK, hy]
     try simp [go_sem, seval, Dr24.c, fr1, di2, hga, hgb, hg0, nx, hrl, di3, hns, hnl1, hnl2, F2, di4]
     exact hQ _ _ (by first | (left; (simp [go_sem, Dr24.c, fr1, di2, hga, hgb, hg0, nx, hrl, di3, hns, hnl1, hnl2, F2, di4, hfin]); done) | (right; (simp [go_sem, Dr24.c, fr1, di2, hga, hgb, hg0, nx, hrl, di3, hns, hnl1, hnl2, F2, di4, hfin]); done))
end Go.Abs
end
