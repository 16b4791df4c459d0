/- The data of the program, as Lean types, and as abstract valu -/
import Derived.Test.YthnegcfdjjhfgaaGreatZmE
import Derived.Test.YthnegcfdjjhfgaaGreatProg
set_option linter.unusedVariables false
set_option linter.unusedSimpArgs false
section
namespace Go.Abs
attribute [go_sem] D.cell D.cl D.clL D.clLL D.flat D.flat1 splice chunks List.take_succ_cons List.take_zero List.drop_succ_cons List.drop_zero List.replicate_succ List.replicate_zero List.flatten_cons List.flatten_nil
def dI (n : Int) : D := .int .i64 n
def cI (n : Int) : List D := [.int .i64 n]
def cS (s : ByteArray) : List D := [.str s]
def dLI (xs : List Int) : D := .list (xs.map cI)
def dLS (xs : List ByteArray) : D := .list (xs.map cS)
structure Attr where
  name : ByteArray
  low : Int
  high : Int
  names : List ByteArray
def Attr.c (a : Attr) : List D := [.str a.name, dI a.low, dI a.high, dLS a.names]
structure NodeTy where
  name : ByteArray
  parent : Int
  abs : Bool
  attrs : List Attr
def NodeTy.c (n : NodeTy) : List D := [.str n.name, dI n.parent, .bool n.abs, .list (n.attrs.map Attr.c)]
structure EdgeTy where
  name : ByteArray
  from_ : Int
  to_ : Int
  outLow : Int
  outHigh : Int
  inLow : Int
  inHigh : Int
def EdgeTy.c (x : EdgeTy) : List D := [.str x.name, dI x.from_, dI x.to_, dI x.outLow, dI x.outHigh, dI x.inLow, dI x.inHigh]
structure Types where
  nodes : List NodeTy
  edges : List EdgeTy
def Types.c (t : Types) : List D := [.list (t.nodes.map NodeTy.c), .list (t.edges.map EdgeTy.c)]
def Types.d (t : Types) : D := .agg t.c
structure Edge where
  type : Int
  from_ : Int
  to_ : Int
def Edge.c (x : Edge) : List D := [dI x.type, dI x.from_, dI x.to_]
structure Graph where
  nodes : List Int
  edges : List Edge
def Graph.c (g : Graph) : List D := [dLI g.nodes, .list (g.edges.map Edge.c)]
def Graph.d (g : Graph) : D := .agg g.c
/-! ### closed -/
theorem clLL_map {α : Type} (f : α → List D) (h : ∀ a, D.clL (f a) = true) (l : List α) : D.clLL (l.map f) = true := by
  induction l with
  | nil => rfl
  | cons a l ih => simp [D.clLL, h, ih]
@[go_sem] theorem dLI_cl (l : List Int) : (dLI l).cl = true := by simp only [dLI, D.cl]; exact clLL_map _ (fun _ => rfl) l
@[go_sem] theorem dLS_cl (l : List ByteArray) : (dLS l).cl = true := by simp only [dLS, D.cl]; exact clLL_map _ (fun _ => rfl) l
@[go_sem] theorem Attr.cl (a : Attr) : D.clL a.c = true := by simp [Attr.c, D.clL, D.cl, dI, dLS_cl]
@[go_sem] theorem NodeTy.cl (n : NodeTy) : D.clL n.c = true := by simp [NodeTy.c, D.clL, D.cl, dI, clLL_map _ Attr.cl]
@[go_sem] theorem EdgeTy.cl (x : EdgeTy) : D.clL x.c = true := by simp [EdgeTy.c, D.clL, D.cl, dI]
@[go_sem] theorem Types.cl (t : Types) : t.d.cl = true := by simp [Types.d, Types.c, D.clL, D.cl, clLL_map _ NodeTy.cl, clLL_map _ EdgeTy.cl]
@[go_sem] theorem Edge.cl (x : Edge) : D.clL x.c = true := by simp [Edge.c, D.clL, D.cl, dI]
@[go_sem] theorem Graph.cl (g : Graph) : g.d.cl = true := by simp [Graph.d, Graph.c, D.clL, D.cl, dLI_cl, clLL_map _ Edge.cl]
@[go_sem] theorem tupD_two (a b : D) (l : List D) : tupD (a :: b :: l) = .tup (a :: b :: l) := rfl
end Go.Abs
end
section
namespace Go.Abs
def rsvP (H : AHeap) (d : D) : D :=
  match d with
  | .ptr id ver i off => match cellsAt H (.ptr id ver i off) with
    | some (c :: cs) => .adr (c :: cs)
    | _ => .ptr id ver i off
  | d => rsv1 H d
def idsP : D → List Nat
  | .ptr id _ _ _ => [id]
  | d => ids1 d
def rsvC (H : AHeap) (d : D) : D :=
  match d with
  | .fn g caps => .fn g (caps.map (rsvP H))
  | .ptr id ver i off => rsvP H (.ptr id ver i off)
  | d => rsvD H d
def idsC : D → List Nat
  | .fn _ caps => caps.flatMap idsP
  | .ptr id _ _ _ => [id]
  | d => ownIds d
section
variable {P : Program} {M0 : Nat → Prop} {H : AHeap} {σ : Nat → Option Ow} {w : World}
theorem cellsAt_same {H H' : AHeap} (h : ∀ i, (H'.get i).map (·.es) = (H.get i).map (·.es)) (d : D) : cellsAt H' d = cellsAt H d := by
  cases d <;> try rfl
  rename_i id ver i off
  have := h id
  simp only [cellsAt]
  cases h1 : H.get id <;> cases h2 : H'.get id <;> rw [h1, h2] at this <;> simp at this
  · simp only [this]
theorem rsvP_frozen {v : Value} {d : D} (hR : Rel M0 H σ w) (hx : RepV (Mut M0 H σ) σ H.al w v d) (hf : ∀ i ∈ idsP d, ∀ k, H.get i = some k → k.fz = true) :
    RepV (Mut M0 H σ) σ H.al w v (rsvP H d) := by
  cases d <;> try exact rsv1_frozen hR hx hf
  rename_i id ver i off
  simp only [rsvP]
  cases hc : cellsAt H (.ptr id ver i off) with
  | none => exact hx
  | some cs =>
    cases cs with
    | nil => exact hx
    | cons c cs =>
      obtain ⟨ad, xs, hv, hrep, h1, hcell⟩ := cellsAt_sound hR hx hc (by simp)
      subst hv
      have hnm : ¬ Mut M0 H σ ad.block := by
        cases hk : H.get id with
        | none => simp [cellsAt, hk] at hc
        | some k =>
          obtain ⟨o, ho, l⟩ := hR.lies id k hk
          have hver : k.es.length = ver := by
            simp only [cellsAt, hk] at hc
            split at hc
            · assumption
            · cases hc
          cases hx
          rename_i hN h1' h
          rcases h o ho with h' | ⟨_, b, hob, hvb⟩
          · have := l.ver; omega
          · cases hvb
            rintro (hm | ⟨i', k', o', hk', hf', ho', hb'⟩)
            · exact (hR.lt id o b ho hob).2 hm
            · have hi := hR.inj i' id o' o b ho' ho hb' hob
              subst hi
              rw [hk] at hk'; cases hk'
              rw [hf i' (by simp [idsP]) k hk] at hf'; cases hf'
      exact .adr ad xs _ hrep.len h1 (fun j u hu => ⟨hnm, hcell j u hu⟩) hrep.rep
theorem rsvC_frozen {v : Value} {d : D} (hR : Rel M0 H σ w) (hx : RepV (Mut M0 H σ) σ H.al w v d) (ids : List Nat) (hi : ∀ i ∈ idsC d, i ∈ ids) :
    RepV (Mut M0 (frzs ids H) σ) σ (frzs ids H).al w v (rsvC H d) := by
  obtain ⟨h1, h2, h3, h4⟩ := frzs_sound ids hR
  have hx' := hx.keep h2
  have hfr : ∀ i ∈ ids, ∀ k, (frzs ids H).get i = some k → k.fz = true := fun i hi k hk => by
    have he := (h4 i).1
    rw [hk] at he
    cases hk0 : H.get i with
    | none => rw [hk0] at he; cases he
    | some k0 =>
      obtain ⟨k', a1, a2, a3⟩ := (h4 i).2 k0 hk0 (.inr hi)
      rw [hk] at a1; cases a1; exact a2
  have hsame : ∀ d, rsvP (frzs ids H) d = rsvP H d := fun d => by
    have hq := rsv1_same (fun i => (h4 i).1) d
    cases d with
    | ptr id ver i off => simp only [rsvP, cellsAt_same (fun i => (h4 i).1)]
    | _ => exact hq
  cases d with
  | fn g caps =>
    cases hx'
    rename_i vs hl hr
    refine .fn g vs _ (by simpa using hl) fun j u x hu hx => ?_
    rw [List.getElem?_map, Option.map_eq_some_iff] at hx
    obtain ⟨y, hy, rfl⟩ := hx
    rw [← hsame y]
    refine rsvP_frozen h1 (hr j u y hu hy) fun i hii k hk => hfr i (hi i ?_) k hk
    simp only [idsC, List.mem_flatMap]
    exact ⟨y, List.mem_of_getElem? hy, hii⟩
  | ptr id ver i off =>
    simp only [rsvC]
    rw [← hsame]
    exact rsvP_frozen h1 hx' fun i hii k hk => hfr i (hi i hii) k hk
  | _ => exact rsvD_frozen hR hx ids hi
theorem repL_rsvC {vals : List Value} {args : List D} (hR : Rel M0 H σ w) (ha : RepL (Mut M0 H σ) σ H.al w vals args) (ids : List Nat) (hi : ∀ i ∈ args.flatMap idsC, i ∈ ids) :
    RepL (Mut M0 (frzs ids H) σ) σ (frzs ids H).al w vals (args.map (rsvC H)) :=
  ⟨by simpa using ha.len, fun j u d hu hd => by
    rw [List.getElem?_map, Option.map_eq_some_iff] at hd
    obtain ⟨y, hy, rfl⟩ := hd
    exact rsvC_frozen hR (ha.rep j u y hu hy) ids fun i hii => hi i (List.mem_flatMap.2 ⟨y, List.mem_of_getElem? hy, hii⟩)⟩
theorem ACalls.pureC {f : FuncId} {args : List D} {r : D} {Q : D → AHeap → Prop} (hp : Pure P f (args.map (rsvC H)) r) (hcl : D.clL (args.map (rsvC H)) = true) (hf : r.flat = true) (hQ : Q r H) : ACalls P f args H Q := by
  refine ⟨hp.1, fun M0 σ w vals hR ha => ?_⟩
  obtain ⟨f1, f2, f3, f4⟩ := frzs_sound (args.flatMap idsC) hR
  refine (hp.2 (Mut M0 (frzs (args.flatMap idsC) H) σ) w vals (mut_lt f1) (repL_closed (fun _ h => h) (repL_rsvC hR ha _ fun i h => h) hcl)).mono fun e w' ⟨v, he, hv, hb⟩ => ?_
  obtain ⟨h1, h2, h3⟩ := hR.grow hb.os hb.tape hb.output hb.size hb.block
  exact ⟨v, r, H, σ, he, h1, flat_rep hv hf, h2, h3, hQ⟩
theorem callQ_pureC {md : Nat → Bool} {ops : Array Oper} {rest : List Oper} {e : Env} {dst : Option Tmp} {K : Env → AHeap → Prop} {f : FuncId} {args args' : List D} {r : D} (hp : Pure P f args' r) (ha : args.map (rsvC H) = args') (hcl : D.clL args' = true) (hf : r.flat = true)
    (h : aOps P md ops rest (upd e dst r) H K) : callQ P md ops rest e dst K f args H := by subst ha; unfold callQ; exact ACalls.pureC hp hcl hf h
end
theorem Own.pure {P : Program} {f : FuncId} {args : List D} {ty : TypeId} {sz : Nat} {es : List (List D)} (h : Own P f args ty sz es) : Pure P f args (.list es) := by
  refine ⟨h.1, fun M w vals hM ha => (h.2 M w vals hM ha).mono fun e w' ⟨v, xs, he, hrow, h1, hrep, hcl, hsz, hb⟩ => ⟨v, he, ?_, hb⟩⟩
  have hclF : D.clL es.flatten = true := D.clL_of fun d hd => by
    obtain ⟨c, hcm, hxm⟩ := List.mem_flatten.1 hd
    exact D.clL_mem (D.clLL_mem hcl c hcm) d hxm
  have hrep' : RepL M noRef noId w' xs es.flatten := repL_closed (fun b h h' => h (.inl h')) hrep hclF
  rcases hrow.2 with ⟨hnil, h0⟩ | ⟨g, cap, cur, hval, hg, hcells, hnc, hcm, hsz', htake⟩
  · rw [hnil, List.eq_nil_of_length_eq_zero h0]; exact .listN
  · rw [hval]
    refine .list ⟨g, 0, none⟩ cap sz xs es hnc hcm hsz hrep'.len h1 (fun j u hu => ⟨fun hm => ?_, hrow.cells (g := g) (by simp [hval, Value.ownBlock]) j u hu⟩) hrep'.rep
    have := hM g hm
    omega
end Go.Abs
end
section
namespace Go.Abs
def nz1 : D → D
  | .nil => .list []
  | d => d
def nzD : D → D
  | .agg cs => .agg (cs.map nz1)
  | d => nz1 d
def nzT : D → D
  | .tup vs => .tup (vs.map nzD)
  | d => nzD d
@[go_sem] theorem nz1_int (k : IntKind) (n : Int) : nz1 (.int k n) = .int k n := rfl
@[go_sem] theorem nz1_bool (b : Bool) : nz1 (.bool b) = .bool b := rfl
@[go_sem] theorem nz1_str (b : ByteArray) : nz1 (.str b) = .str b := rfl
@[go_sem] theorem nz1_list (l : List (List D)) : nz1 (.list l) = .list l := rfl
@[go_sem] theorem nz1_nil : nz1 .nil = .list [] := rfl
@[go_sem] theorem nzD_int (k : IntKind) (n : Int) : nzD (.int k n) = .int k n := rfl
@[go_sem] theorem nzD_bool (b : Bool) : nzD (.bool b) = .bool b := rfl
@[go_sem] theorem nzD_str (b : ByteArray) : nzD (.str b) = .str b := rfl
@[go_sem] theorem nzD_list (l : List (List D)) : nzD (.list l) = .list l := rfl
@[go_sem] theorem nzD_nil : nzD .nil = .list [] := rfl
@[go_sem] theorem nzD_agg (l : List D) : nzD (.agg l) = .agg (l.map nz1) := rfl
@[go_sem] theorem nzT_int (k : IntKind) (n : Int) : nzT (.int k n) = .int k n := rfl
@[go_sem] theorem nzT_bool (b : Bool) : nzT (.bool b) = .bool b := rfl
@[go_sem] theorem nzT_str (b : ByteArray) : nzT (.str b) = .str b := rfl
@[go_sem] theorem nzT_list (l : List (List D)) : nzT (.list l) = .list l := rfl
@[go_sem] theorem nzT_nil : nzT .nil = .list [] := rfl
@[go_sem] theorem nzT_agg (l : List D) : nzT (.agg l) = .agg (l.map nz1) := rfl
@[go_sem] theorem nzT_tup (l : List D) : nzT (.tup l) = .tup (l.map nzD) := rfl
theorem nz1_rep {M : Nat → Prop} {σ : Nat → Option Ow} {N : Nat → Prop} {w : World} {v : Value} {d : D} (h : RepV M σ N w v d) : RepV M σ N w v (nz1 d) := by
  cases d <;> try exact h
  cases h
  exact .listN
theorem nzD_rep {M : Nat → Prop} {σ : Nat → Option Ow} {N : Nat → Prop} {w : World} {v : Value} {d : D} (h : RepV M σ N w v d) : RepV M σ N w v (nzD d) := by
  cases d <;> try exact nz1_rep h
  cases h
  rename_i vs h1 hl hr
  refine .agg vs _ (by simpa using hl) h1 fun j u d hu hd => ?_
  rw [List.getElem?_map, Option.map_eq_some_iff] at hd
  obtain ⟨y, hy, rfl⟩ := hd
  exact nz1_rep (hr j u y hu hy)
theorem nzT_rep {M : Nat → Prop} {σ : Nat → Option Ow} {N : Nat → Prop} {w : World} {v : Value} {d : D} (h : RepV M σ N w v d) : RepV M σ N w v (nzT d) := by
  cases d <;> try exact nzD_rep h
  cases h
  rename_i vs hl hr
  refine .tup vs _ (by simpa using hl) fun j u d hu hd => ?_
  rw [List.getElem?_map, Option.map_eq_some_iff] at hd
  obtain ⟨y, hy, rfl⟩ := hd
  exact nzD_rep (hr j u y hu hy)
section
variable {P : Program} {c : Cfg}
theorem pureK {f : FuncId} {args : List D} {r : D} (hcl : r.cl = true) (h : ∀ Q : D → AHeap → Prop, (∀ d H', (rsvT H' d = r ∨ nzT (rsvT H' d) = r) → Q d H') → ACalls P f args .emp Q) : Pure P f args r := by
  have h := h (fun d H' => rsvT H' d = r ∨ nzT (rsvT H' d) = r) fun _ _ h => h
  refine ⟨h.1, fun M w vals hM ha => (h.2 M noRef w vals (rel_emp M w hM) (by rw [mut_emp]; exact ha)).mono fun e w' ⟨v, d, H', σ', he, hR, hv, hst, hk, hr⟩ => ⟨v, he, ?_, stp_below hst⟩⟩
  have h1 : RepV (Mut M (frzs (ownT d) H') σ') σ' (frzs (ownT d) H').al w' v r := by
    have h0 := rsvT_frozen hR hv (ownT d) fun i hi => hi
    rcases hr with hr | hr
    · rw [hr] at h0; exact h0
    · have h0 := nzT_rep h0; rw [hr] at h0; exact h0
  exact h1.closed (fun ad u hm hc => ⟨fun h => hm (.inl h), hc⟩) hcl
theorem ownK {f : FuncId} {args : List D} {ty : TypeId} {sz : Nat} {es : List (List D)} (hcl : D.clLL es = true)
    (h : ∀ Q : D → AHeap → Prop, (∀ id n H', n = es.length → H'.get id = some ⟨ty, sz, es, false⟩ → Q (.own id n) H') → ACalls P f args .emp Q) : Own P f args ty sz es :=
  own_of_calls (h _ fun id n H' hn hg => ⟨id, _, by rw [hn], hg, rfl, rfl, rfl, rfl, hcl⟩)
def nextQ (I : Nat → Env → AHeap → Prop) (m : Nat → Nat) (x : Nat) (e : Env) (H : AHeap) : Prop := ∃ x', m x' < m x ∧ I x' e H
theorem nextQ_mk {I : Nat → Env → AHeap → Prop} {m : Nat → Nat} {x : Nat} {e : Env} {H : AHeap} (x' : Nat) (hm : m x' < m x) (hI : I x' e H) : nextQ I m x e H := ⟨x', hm, hI⟩
theorem loopK {b : Code} {Q : Exit → Env → AHeap → Prop} {e : Env} {H : AHeap} (I : Nat → Env → AHeap → Prop) (μ : Nat → Nat) (x0 : Nat) (h0 : I x0 e H)
    (hs : ∀ x e H, I x e H → AWp P c b (thenQ (nextQ I μ x) Q) e H) : loopQ P c b Q e H := loop_rule I μ x0 h0 hs
theorem loopKG {b : Code} {Q : Exit → Env → AHeap → Prop} {e : Env} {H H' : AHeap} (hg : Ghosts H H') (I : Nat → Env → AHeap → Prop) (μ : Nat → Nat) (x0 : Nat) (h0 : I x0 e H')
    (hs : ∀ x e H, I x e H → AWp P c b (thenQ (nextQ I μ x) Q) e H) : loopQ P c b Q e H := loop_ghosts hg I μ x0 h0 hs
end
@[go_sem] theorem ghost_row (H : AHeap) (id i off : Nat) (ty sz : Nat) : ghost H id i off ty sz = match H.get id with
  | some k => (H.put id { k with es := k.es.set i ((k.es[i]?.getD []).set off (.own H.next 0)) }).push H.next ⟨ty, sz, [], false⟩
  | none => H := rfl
attribute [go_sem] List.set_cons_zero List.set_cons_succ
attribute [irreducible] nextQ
theorem obl {p : Prop} (h : p := by (first | assumption | (intros; first | assumption | omega | exact inR_i64 (by omega) (by omega) | (and_intros <;> first | assumption | omega | exact inR_i64 (by omega) (by omega))) | (simp_all <;> omega))) : p := h
theorem obs {p : Prop} (h : p := by (first | assumption | (intros; first | assumption | omega | exact inR_i64 (by omega) (by omega) | (and_intros <;> first | assumption | omega | exact inR_i64 (by omega) (by omega))) | (simp; done) | (simp; omega))) : p := h
end Go.Abs
end
section
namespace Go.Abs
theorem mkI (J : Nat → Env → AHeap → Prop) : ∃ I : Nat → Env → AHeap → Prop, ∀ (i : Nat) (e : Env) (H : AHeap), I i e H ↔ J i e H := ⟨J, fun _ _ _ => Iff.rfl⟩
end Go.Abs
set_option maxRecDepth 100000
open Go Go.Proofs Go.Abs
namespace Go.Abs.Tz
@[go_sem] theorem tk3 : tk Tryz.prog 3 = .one := rfl
@[go_sem] theorem zd3 : zd Tryz.prog 3 = some [.int .i64 (0)] := rfl
@[go_sem] theorem intK3 : intK Tryz.prog 3 = some .i64 := rfl
@[go_sem] theorem info3 : (Tryz.prog.info? 3).isSome = true := rfl
@[go_sem] theorem cells3 : Tryz.prog.cellsOf 3 = 1 := rfl
attribute [go_sem] Tryz.underlying3
@[go_sem] theorem tk4 : tk Tryz.prog 4 = .one := rfl
@[go_sem] theorem zd4 : zd Tryz.prog 4 = some [.bool false] := rfl
@[go_sem] theorem info4 : (Tryz.prog.info? 4).isSome = true := rfl
@[go_sem] theorem cells4 : Tryz.prog.cellsOf 4 = 1 := rfl
attribute [go_sem] Tryz.underlying4
@[go_sem] theorem tk5 : tk Tryz.prog 5 = .one := rfl
@[go_sem] theorem zd5 : zd Tryz.prog 5 = some [.int .u8 (0)] := rfl
@[go_sem] theorem intK5 : intK Tryz.prog 5 = some .u8 := rfl
@[go_sem] theorem info5 : (Tryz.prog.info? 5).isSome = true := rfl
@[go_sem] theorem cells5 : Tryz.prog.cellsOf 5 = 1 := rfl
attribute [go_sem] Tryz.underlying5
@[go_sem] theorem tk9 : tk Tryz.prog 9 = .one := rfl
@[go_sem] theorem zd9 : zd Tryz.prog 9 = some [.str ⟨#[]⟩] := rfl
@[go_sem] theorem info9 : (Tryz.prog.info? 9).isSome = true := rfl
@[go_sem] theorem cells9 : Tryz.prog.cellsOf 9 = 1 := rfl
attribute [go_sem] Tryz.underlying9
@[go_sem] theorem tk22 : tk Tryz.prog 22 = .one := rfl
@[go_sem] theorem sl22 : sl Tryz.prog 22 = some ⟨131, 4, 56, [.str ⟨#[]⟩, .int .i64 (0), .bool false, .nil]⟩ := rfl
@[go_sem] theorem zd22 : zd Tryz.prog 22 = some [.nil] := rfl
@[go_sem] theorem info22 : (Tryz.prog.info? 22).isSome = true := rfl
@[go_sem] theorem cells22 : Tryz.prog.cellsOf 22 = 1 := rfl
attribute [go_sem] Tryz.underlying22
@[go_sem] theorem tk23 : tk Tryz.prog 23 = .one := rfl
@[go_sem] theorem sl23 : sl Tryz.prog 23 = some ⟨133, 7, 64, [.str ⟨#[]⟩, .int .i64 (0), .int .i64 (0), .int .i64 (0), .int .i64 (0), .int .i64 (0), .int .i64 (0)]⟩ := rfl
@[go_sem] theorem zd23 : zd Tryz.prog 23 = some [.nil] := rfl
@[go_sem] theorem info23 : (Tryz.prog.info? 23).isSome = true := rfl
@[go_sem] theorem cells23 : Tryz.prog.cellsOf 23 = 1 := rfl
attribute [go_sem] Tryz.underlying23
@[go_sem] theorem tk25 : tk Tryz.prog 25 = .agg 2 := rfl
@[go_sem] theorem zd25 : zd Tryz.prog 25 = some [.nil, .nil] := rfl
@[go_sem] theorem bk25 : bk Tryz.prog 25 = some (.st [(0, 1), (1, 1)]) := rfl
@[go_sem] theorem info25 : (Tryz.prog.info? 25).isSome = true := rfl
@[go_sem] theorem cells25 : Tryz.prog.cellsOf 25 = 2 := rfl
attribute [go_sem] Tryz.underlying25
@[go_sem] theorem tk26 : tk Tryz.prog 26 = .one := rfl
@[go_sem] theorem sl26 : sl Tryz.prog 26 = some ⟨3, 1, 8, [.int .i64 (0)]⟩ := rfl
@[go_sem] theorem zd26 : zd Tryz.prog 26 = some [.nil] := rfl
@[go_sem] theorem info26 : (Tryz.prog.info? 26).isSome = true := rfl
@[go_sem] theorem cells26 : Tryz.prog.cellsOf 26 = 1 := rfl
attribute [go_sem] Tryz.underlying26
@[go_sem] theorem tk27 : tk Tryz.prog 27 = .one := rfl
@[go_sem] theorem sl27 : sl Tryz.prog 27 = some ⟨124, 3, 24, [.int .i64 (0), .int .i64 (0), .int .i64 (0)]⟩ := rfl
@[go_sem] theorem zd27 : zd Tryz.prog 27 = some [.nil] := rfl
@[go_sem] theorem info27 : (Tryz.prog.info? 27).isSome = true := rfl
@[go_sem] theorem cells27 : Tryz.prog.cellsOf 27 = 1 := rfl
attribute [go_sem] Tryz.underlying27
@[go_sem] theorem tk29 : tk Tryz.prog 29 = .agg 2 := rfl
@[go_sem] theorem zd29 : zd Tryz.prog 29 = some [.nil, .nil] := rfl
@[go_sem] theorem bk29 : bk Tryz.prog 29 = some (.st [(0, 1), (1, 1)]) := rfl
@[go_sem] theorem info29 : (Tryz.prog.info? 29).isSome = true := rfl
@[go_sem] theorem cells29 : Tryz.prog.cellsOf 29 = 2 := rfl
attribute [go_sem] Tryz.underlying29
@[go_sem] theorem tk30 : tk Tryz.prog 30 = .one := rfl
@[go_sem] theorem sl30 : sl Tryz.prog 30 = some ⟨150, 4, 32, [.int .i64 (0), .int .i64 (0), .int .i64 (0), .int .i64 (0)]⟩ := rfl
@[go_sem] theorem zd30 : zd Tryz.prog 30 = some [.nil] := rfl
@[go_sem] theorem info30 : (Tryz.prog.info? 30).isSome = true := rfl
@[go_sem] theorem cells30 : Tryz.prog.cellsOf 30 = 1 := rfl
attribute [go_sem] Tryz.underlying30
@[go_sem] theorem tk31 : tk Tryz.prog 31 = .one := rfl
@[go_sem] theorem sl31 : sl Tryz.prog 31 = some ⟨152, 5, 40, [.int .i64 (0), .int .i64 (0), .int .i64 (0), .int .i64 (0), .int .i64 (0)]⟩ := rfl
@[go_sem] theorem zd31 : zd Tryz.prog 31 = some [.nil] := rfl
@[go_sem] theorem info31 : (Tryz.prog.info? 31).isSome = true := rfl
@[go_sem] theorem cells31 : Tryz.prog.cellsOf 31 = 1 := rfl
attribute [go_sem] Tryz.underlying31
@[go_sem] theorem tk33 : tk Tryz.prog 33 = .agg 5 := rfl
@[go_sem] theorem zd33 : zd Tryz.prog 33 = some [.nil, .nil, .nil, .int .i64 (0), .nil] := rfl
@[go_sem] theorem bk33 : bk Tryz.prog 33 = some (.st [(0, 2), (2, 1), (3, 1), (4, 1)]) := rfl
@[go_sem] theorem info33 : (Tryz.prog.info? 33).isSome = true := rfl
@[go_sem] theorem cells33 : Tryz.prog.cellsOf 33 = 5 := rfl
attribute [go_sem] Tryz.underlying33
@[go_sem] theorem tk35 : tk Tryz.prog 35 = .agg 2 := rfl
@[go_sem] theorem zd35 : zd Tryz.prog 35 = some [.nil, .nil] := rfl
@[go_sem] theorem bk35 : bk Tryz.prog 35 = some (.st [(0, 1), (1, 1)]) := rfl
@[go_sem] theorem info35 : (Tryz.prog.info? 35).isSome = true := rfl
@[go_sem] theorem cells35 : Tryz.prog.cellsOf 35 = 2 := rfl
attribute [go_sem] Tryz.underlying35
@[go_sem] theorem tk36 : tk Tryz.prog 36 = .agg 2 := rfl
@[go_sem] theorem zd36 : zd Tryz.prog 36 = some [.nil, .nil] := rfl
@[go_sem] theorem bk36 : bk Tryz.prog 36 = some (.st [(0, 1), (1, 1)]) := rfl
@[go_sem] theorem info36 : (Tryz.prog.info? 36).isSome = true := rfl
@[go_sem] theorem cells36 : Tryz.prog.cellsOf 36 = 2 := rfl
attribute [go_sem] Tryz.underlying36
@[go_sem] theorem tk37 : tk Tryz.prog 37 = .one := rfl
@[go_sem] theorem sl37 : sl Tryz.prog 37 = some ⟨39, 9, 184, [.int .i64 (0), .nil, .nil, .nil, .nil, .nil, .nil, .int .i64 (0), .nil]⟩ := rfl
@[go_sem] theorem zd37 : zd Tryz.prog 37 = some [.nil] := rfl
@[go_sem] theorem info37 : (Tryz.prog.info? 37).isSome = true := rfl
@[go_sem] theorem cells37 : Tryz.prog.cellsOf 37 = 1 := rfl
attribute [go_sem] Tryz.underlying37
@[go_sem] theorem tk39 : tk Tryz.prog 39 = .agg 9 := rfl
@[go_sem] theorem zd39 : zd Tryz.prog 39 = some [.int .i64 (0), .nil, .nil, .nil, .nil, .nil, .nil, .int .i64 (0), .nil] := rfl
@[go_sem] theorem bk39 : bk Tryz.prog 39 = some (.st [(0, 1), (1, 1), (2, 2), (4, 5)]) := rfl
@[go_sem] theorem info39 : (Tryz.prog.info? 39).isSome = true := rfl
@[go_sem] theorem cells39 : Tryz.prog.cellsOf 39 = 9 := rfl
attribute [go_sem] Tryz.underlying39
@[go_sem] theorem tk41 : tk Tryz.prog 41 = .agg 25 := rfl
@[go_sem] theorem zd41 : zd Tryz.prog 41 = some [.str ⟨#[]⟩, .nil, .nil, .nil, .int .i64 (0), .nil, .nil, .nil, .nil, .int .i64 (0), .nil, .nil, .nil, .nil, .nil, .bool false, .int .i64 (0), .nil, .nil, .nil, .nil, .nil, .nil, .int .i64 (0), .nil] := rfl
@[go_sem] theorem bk41 : bk Tryz.prog 41 = some (.st [(0, 1), (1, 5), (6, 5), (11, 2), (13, 2), (15, 1), (16, 9)]) := rfl
@[go_sem] theorem info41 : (Tryz.prog.info? 41).isSome = true := rfl
@[go_sem] theorem cells41 : Tryz.prog.cellsOf 41 = 25 := rfl
attribute [go_sem] Tryz.underlying41
@[go_sem] theorem tk43 : tk Tryz.prog 43 = .agg 52 := rfl
@[go_sem] theorem zd43 : zd Tryz.prog 43 = some [.nil, .nil, .str ⟨#[]⟩, .nil, .nil, .nil, .int .i64 (0), .nil, .nil, .nil, .nil, .int .i64 (0), .nil, .nil, .nil, .nil, .nil, .bool false, .int .i64 (0), .nil, .nil, .nil, .nil, .nil, .nil, .int .i64 (0), .nil, .str ⟨#[]⟩, .nil, .nil, .nil, .int .i64 (0), .nil, .nil, .nil, .nil, .int .i64 (0), .nil, .nil, .nil, .nil, .nil, .bool false, .int .i64 (0), .nil, .nil, .nil, .nil, .nil, .nil, .int .i64 (0), .nil] := rfl
@[go_sem] theorem bk43 : bk Tryz.prog 43 = some (.st [(0, 2), (2, 25), (27, 25)]) := rfl
@[go_sem] theorem info43 : (Tryz.prog.info? 43).isSome = true := rfl
@[go_sem] theorem cells43 : Tryz.prog.cellsOf 43 = 52 := rfl
attribute [go_sem] Tryz.underlying43
@[go_sem] theorem tk45 : tk Tryz.prog 45 = .agg 6 := rfl
@[go_sem] theorem zd45 : zd Tryz.prog 45 = some [.nil, .nil, .nil, .nil, .nil, .nil] := rfl
@[go_sem] theorem bk45 : bk Tryz.prog 45 = some (.st [(0, 2), (2, 2), (4, 2)]) := rfl
@[go_sem] theorem info45 : (Tryz.prog.info? 45).isSome = true := rfl
@[go_sem] theorem cells45 : Tryz.prog.cellsOf 45 = 6 := rfl
attribute [go_sem] Tryz.underlying45
@[go_sem] theorem tk48 : tk Tryz.prog 48 = .one := rfl
@[go_sem] theorem zd48 : zd Tryz.prog 48 = some [.nilf] := rfl
@[go_sem] theorem info48 : (Tryz.prog.info? 48).isSome = true := rfl
@[go_sem] theorem cells48 : Tryz.prog.cellsOf 48 = 1 := rfl
attribute [go_sem] Tryz.underlying48
@[go_sem] theorem tk49 : tk Tryz.prog 49 = .one := rfl
@[go_sem] theorem zd49 : zd Tryz.prog 49 = some [.int .i64 (0)] := rfl
@[go_sem] theorem intK49 : intK Tryz.prog 49 = some .i64 := rfl
@[go_sem] theorem info49 : (Tryz.prog.info? 49).isSome = true := rfl
@[go_sem] theorem cells49 : Tryz.prog.cellsOf 49 = 1 := rfl
attribute [go_sem] Tryz.underlying49
@[go_sem] theorem tk50 : tk Tryz.prog 50 = .one := rfl
@[go_sem] theorem info50 : (Tryz.prog.info? 50).isSome = true := rfl
@[go_sem] theorem cells50 : Tryz.prog.cellsOf 50 = 1 := rfl
attribute [go_sem] Tryz.underlying50
@[go_sem] theorem tk55 : tk Tryz.prog 55 = .one := rfl
@[go_sem] theorem sl55 : sl Tryz.prog 55 = some ⟨45, 6, 144, [.nil, .nil, .nil, .nil, .nil, .nil]⟩ := rfl
@[go_sem] theorem zd55 : zd Tryz.prog 55 = some [.nil] := rfl
@[go_sem] theorem info55 : (Tryz.prog.info? 55).isSome = true := rfl
@[go_sem] theorem cells55 : Tryz.prog.cellsOf 55 = 1 := rfl
attribute [go_sem] Tryz.underlying55
@[go_sem] theorem tk56 : tk Tryz.prog 56 = .one := rfl
@[go_sem] theorem info56 : (Tryz.prog.info? 56).isSome = true := rfl
@[go_sem] theorem cells56 : Tryz.prog.cellsOf 56 = 1 := rfl
attribute [go_sem] Tryz.underlying56
@[go_sem] theorem tk59 : tk Tryz.prog 59 = .one := rfl
@[go_sem] theorem sl59 : sl Tryz.prog 59 = some ⟨115, 2, 2, [.int .u8 (0), .int .u8 (0)]⟩ := rfl
@[go_sem] theorem zd59 : zd Tryz.prog 59 = some [.nil] := rfl
@[go_sem] theorem info59 : (Tryz.prog.info? 59).isSome = true := rfl
@[go_sem] theorem cells59 : Tryz.prog.cellsOf 59 = 1 := rfl
attribute [go_sem] Tryz.underlying59
@[go_sem] theorem tk60 : tk Tryz.prog 60 = .one := rfl
@[go_sem] theorem sl60 : sl Tryz.prog 60 = some ⟨5, 1, 1, [.int .u8 (0)]⟩ := rfl
@[go_sem] theorem zd60 : zd Tryz.prog 60 = some [.nil] := rfl
@[go_sem] theorem info60 : (Tryz.prog.info? 60).isSome = true := rfl
@[go_sem] theorem cells60 : Tryz.prog.cellsOf 60 = 1 := rfl
attribute [go_sem] Tryz.underlying60
@[go_sem] theorem tk61 : tk Tryz.prog 61 = .one := rfl
@[go_sem] theorem sl61 : sl Tryz.prog 61 = some ⟨195, 3, 3, [.int .u8 (0), .int .u8 (0), .int .u8 (0)]⟩ := rfl
@[go_sem] theorem zd61 : zd Tryz.prog 61 = some [.nil] := rfl
@[go_sem] theorem info61 : (Tryz.prog.info? 61).isSome = true := rfl
@[go_sem] theorem cells61 : Tryz.prog.cellsOf 61 = 1 := rfl
attribute [go_sem] Tryz.underlying61
@[go_sem] theorem tk63 : tk Tryz.prog 63 = .agg 2 := rfl
@[go_sem] theorem zd63 : zd Tryz.prog 63 = some [.nil, .nil] := rfl
@[go_sem] theorem bk63 : bk Tryz.prog 63 = some (.st [(0, 1), (1, 1)]) := rfl
@[go_sem] theorem info63 : (Tryz.prog.info? 63).isSome = true := rfl
@[go_sem] theorem cells63 : Tryz.prog.cellsOf 63 = 2 := rfl
attribute [go_sem] Tryz.underlying63
@[go_sem] theorem tk64 : tk Tryz.prog 64 = .one := rfl
@[go_sem] theorem sl64 : sl Tryz.prog 64 = some ⟨248, 4, 4, [.int .i8 (0), .int .i8 (0), .int .i8 (0), .int .i8 (0)]⟩ := rfl
@[go_sem] theorem zd64 : zd Tryz.prog 64 = some [.nil] := rfl
@[go_sem] theorem info64 : (Tryz.prog.info? 64).isSome = true := rfl
@[go_sem] theorem cells64 : Tryz.prog.cellsOf 64 = 1 := rfl
attribute [go_sem] Tryz.underlying64
@[go_sem] theorem tk66 : tk Tryz.prog 66 = .agg 4 := rfl
@[go_sem] theorem zd66 : zd Tryz.prog 66 = some [.nil, .nil, .nil, .nil] := rfl
@[go_sem] theorem bk66 : bk Tryz.prog 66 = some (.st [(0, 2), (2, 1), (3, 1)]) := rfl
@[go_sem] theorem info66 : (Tryz.prog.info? 66).isSome = true := rfl
@[go_sem] theorem cells66 : Tryz.prog.cellsOf 66 = 4 := rfl
attribute [go_sem] Tryz.underlying66
@[go_sem] theorem tk67 : tk Tryz.prog 67 = .one := rfl
@[go_sem] theorem zd67 : zd Tryz.prog 67 = some [.int .u64 (0)] := rfl
@[go_sem] theorem intK67 : intK Tryz.prog 67 = some .u64 := rfl
@[go_sem] theorem info67 : (Tryz.prog.info? 67).isSome = true := rfl
@[go_sem] theorem cells67 : Tryz.prog.cellsOf 67 = 1 := rfl
attribute [go_sem] Tryz.underlying67
@[go_sem] theorem tk68 : tk Tryz.prog 68 = .agg 4 := rfl
@[go_sem] theorem zd68 : zd Tryz.prog 68 = some [.int .u8 (0), .int .u8 (0), .int .u8 (0), .int .u8 (0)] := rfl
@[go_sem] theorem bk68 : bk Tryz.prog 68 = some (.ar 1) := rfl
@[go_sem] theorem arr68 : arr Tryz.prog 68 = some (4, 1) := rfl
@[go_sem] theorem info68 : (Tryz.prog.info? 68).isSome = true := rfl
@[go_sem] theorem cells68 : Tryz.prog.cellsOf 68 = 4 := rfl
attribute [go_sem] Tryz.underlying68
@[go_sem] theorem tk70 : tk Tryz.prog 70 = .agg 15 := rfl
@[go_sem] theorem zd70 : zd Tryz.prog 70 = some [.nil, .nil, .nil, .nil, .int .u64 (0), .nil, .nil, .nil, .bool false, .bool false, .int .u8 (0), .int .u8 (0), .int .u8 (0), .int .u8 (0), .nil] := rfl
@[go_sem] theorem bk70 : bk Tryz.prog 70 = some (.st [(0, 4), (4, 1), (5, 1), (6, 1), (7, 1), (8, 1), (9, 1), (10, 4), (14, 1)]) := rfl
@[go_sem] theorem info70 : (Tryz.prog.info? 70).isSome = true := rfl
@[go_sem] theorem cells70 : Tryz.prog.cellsOf 70 = 15 := rfl
attribute [go_sem] Tryz.underlying70
@[go_sem] theorem tk72 : tk Tryz.prog 72 = .agg 2 := rfl
@[go_sem] theorem zd72 : zd Tryz.prog 72 = some [.nil, .nil] := rfl
@[go_sem] theorem bk72 : bk Tryz.prog 72 = some (.st [(0, 1), (1, 1)]) := rfl
@[go_sem] theorem info72 : (Tryz.prog.info? 72).isSome = true := rfl
@[go_sem] theorem cells72 : Tryz.prog.cellsOf 72 = 2 := rfl
attribute [go_sem] Tryz.underlying72
@[go_sem] theorem tk74 : tk Tryz.prog 74 = .agg 34 := rfl
@[go_sem] theorem zd74 : zd Tryz.prog 74 = some [.nil, .nil, .nil, .nil, .nil, .nil, .int .u64 (0), .nil, .nil, .nil, .bool false, .bool false, .int .u8 (0), .int .u8 (0), .int .u8 (0), .int .u8 (0), .nil, .nil, .nil, .nil, .nil, .int .u64 (0), .nil, .nil, .nil, .bool false, .bool false, .int .u8 (0), .int .u8 (0), .int .u8 (0), .int .u8 (0), .nil, .nil, .nil] := rfl
@[go_sem] theorem bk74 : bk Tryz.prog 74 = some (.st [(0, 1), (1, 1), (2, 15), (17, 15), (32, 2)]) := rfl
@[go_sem] theorem info74 : (Tryz.prog.info? 74).isSome = true := rfl
@[go_sem] theorem cells74 : Tryz.prog.cellsOf 74 = 34 := rfl
attribute [go_sem] Tryz.underlying74
@[go_sem] theorem tk75 : tk Tryz.prog 75 = .one := rfl
@[go_sem] theorem sl75 : sl Tryz.prog 75 = some ⟨26, 1, 24, [.nil]⟩ := rfl
@[go_sem] theorem zd75 : zd Tryz.prog 75 = some [.nil] := rfl
@[go_sem] theorem info75 : (Tryz.prog.info? 75).isSome = true := rfl
@[go_sem] theorem cells75 : Tryz.prog.cellsOf 75 = 1 := rfl
attribute [go_sem] Tryz.underlying75
@[go_sem] theorem tk77 : tk Tryz.prog 77 = .agg 3 := rfl
@[go_sem] theorem zd77 : zd Tryz.prog 77 = some [.nil, .nil, .nil] := rfl
@[go_sem] theorem bk77 : bk Tryz.prog 77 = some (.st [(0, 2), (2, 1)]) := rfl
@[go_sem] theorem info77 : (Tryz.prog.info? 77).isSome = true := rfl
@[go_sem] theorem cells77 : Tryz.prog.cellsOf 77 = 3 := rfl
attribute [go_sem] Tryz.underlying77
@[go_sem] theorem tk78 : tk Tryz.prog 78 = .one := rfl
@[go_sem] theorem info78 : (Tryz.prog.info? 78).isSome = true := rfl
@[go_sem] theorem cells78 : Tryz.prog.cellsOf 78 = 1 := rfl
attribute [go_sem] Tryz.underlying78
@[go_sem] theorem tk80 : tk Tryz.prog 80 = .one := rfl
@[go_sem] theorem info80 : (Tryz.prog.info? 80).isSome = true := rfl
@[go_sem] theorem cells80 : Tryz.prog.cellsOf 80 = 1 := rfl
attribute [go_sem] Tryz.underlying80
@[go_sem] theorem tk84 : tk Tryz.prog 84 = .one := rfl
@[go_sem] theorem zd84 : zd Tryz.prog 84 = some [.nilf] := rfl
@[go_sem] theorem info84 : (Tryz.prog.info? 84).isSome = true := rfl
@[go_sem] theorem cells84 : Tryz.prog.cellsOf 84 = 1 := rfl
attribute [go_sem] Tryz.underlying84
@[go_sem] theorem tk92 : tk Tryz.prog 92 = .agg 60 := rfl
@[go_sem] theorem zd92 : zd Tryz.prog 92 = some [.str ⟨#[]⟩, .nil, .nil, .nil, .int .i64 (0), .nil, .nil, .nil, .nil, .int .i64 (0), .nil, .nil, .nil, .nil, .nil, .bool false, .int .i64 (0), .nil, .nil, .nil, .nil, .nil, .nil, .int .i64 (0), .nil, .str ⟨#[]⟩, .nil, .nil, .nil, .int .i64 (0), .nil, .nil, .nil, .nil, .int .i64 (0), .nil, .nil, .nil, .nil, .nil, .bool false, .int .i64 (0), .nil, .nil, .nil, .nil, .nil, .nil, .int .i64 (0), .nil, .nil, .nil, .nil, .nil, .nil, .nil, .nil, .nil, .nil, .nil] := rfl
@[go_sem] theorem bk92 : bk Tryz.prog 92 = some (.st [(0, 25), (25, 25), (50, 6), (56, 2), (58, 2)]) := rfl
@[go_sem] theorem info92 : (Tryz.prog.info? 92).isSome = true := rfl
@[go_sem] theorem cells92 : Tryz.prog.cellsOf 92 = 60 := rfl
attribute [go_sem] Tryz.underlying92
@[go_sem] theorem tk93 : tk Tryz.prog 93 = .one := rfl
@[go_sem] theorem info93 : (Tryz.prog.info? 93).isSome = true := rfl
@[go_sem] theorem cells93 : Tryz.prog.cellsOf 93 = 1 := rfl
attribute [go_sem] Tryz.underlying93
@[go_sem] theorem tk97 : tk Tryz.prog 97 = .one := rfl
@[go_sem] theorem info97 : (Tryz.prog.info? 97).isSome = true := rfl
@[go_sem] theorem cells97 : Tryz.prog.cellsOf 97 = 1 := rfl
attribute [go_sem] Tryz.underlying97
@[go_sem] theorem tk103 : tk Tryz.prog 103 = .one := rfl
@[go_sem] theorem info103 : (Tryz.prog.info? 103).isSome = true := rfl
@[go_sem] theorem cells103 : Tryz.prog.cellsOf 103 = 1 := rfl
attribute [go_sem] Tryz.underlying103
@[go_sem] theorem tk108 : tk Tryz.prog 108 = .one := rfl
@[go_sem] theorem info108 : (Tryz.prog.info? 108).isSome = true := rfl
@[go_sem] theorem cells108 : Tryz.prog.cellsOf 108 = 1 := rfl
attribute [go_sem] Tryz.underlying108
@[go_sem] theorem tk115 : tk Tryz.prog 115 = .agg 2 := rfl
@[go_sem] theorem zd115 : zd Tryz.prog 115 = some [.int .u8 (0), .int .u8 (0)] := rfl
@[go_sem] theorem bk115 : bk Tryz.prog 115 = some (.ar 1) := rfl
@[go_sem] theorem arr115 : arr Tryz.prog 115 = some (2, 1) := rfl
@[go_sem] theorem info115 : (Tryz.prog.info? 115).isSome = true := rfl
@[go_sem] theorem cells115 : Tryz.prog.cellsOf 115 = 2 := rfl
attribute [go_sem] Tryz.underlying115
@[go_sem] theorem tk117 : tk Tryz.prog 117 = .one := rfl
@[go_sem] theorem sl117 : sl Tryz.prog 117 = some ⟨41, 25, 512, [.str ⟨#[]⟩, .nil, .nil, .nil, .int .i64 (0), .nil, .nil, .nil, .nil, .int .i64 (0), .nil, .nil, .nil, .nil, .nil, .bool false, .int .i64 (0), .nil, .nil, .nil, .nil, .nil, .nil, .int .i64 (0), .nil]⟩ := rfl
@[go_sem] theorem zd117 : zd Tryz.prog 117 = some [.nil] := rfl
@[go_sem] theorem info117 : (Tryz.prog.info? 117).isSome = true := rfl
@[go_sem] theorem cells117 : Tryz.prog.cellsOf 117 = 1 := rfl
attribute [go_sem] Tryz.underlying117
@[go_sem] theorem tk118 : tk Tryz.prog 118 = .one := rfl
@[go_sem] theorem sl118 : sl Tryz.prog 118 = some ⟨70, 15, 208, [.nil, .nil, .nil, .nil, .int .u64 (0), .nil, .nil, .nil, .bool false, .bool false, .int .u8 (0), .int .u8 (0), .int .u8 (0), .int .u8 (0), .nil]⟩ := rfl
@[go_sem] theorem zd118 : zd Tryz.prog 118 = some [.nil] := rfl
@[go_sem] theorem info118 : (Tryz.prog.info? 118).isSome = true := rfl
@[go_sem] theorem cells118 : Tryz.prog.cellsOf 118 = 1 := rfl
attribute [go_sem] Tryz.underlying118
@[go_sem] theorem tk124 : tk Tryz.prog 124 = .agg 3 := rfl
@[go_sem] theorem zd124 : zd Tryz.prog 124 = some [.int .i64 (0), .int .i64 (0), .int .i64 (0)] := rfl
@[go_sem] theorem bk124 : bk Tryz.prog 124 = some (.st [(0, 1), (1, 1), (2, 1)]) := rfl
@[go_sem] theorem istr124 : istr Tryz.prog 124 = some 3 := by kernel_rfl
@[go_sem] theorem info124 : (Tryz.prog.info? 124).isSome = true := rfl
@[go_sem] theorem cells124 : Tryz.prog.cellsOf 124 = 3 := rfl
attribute [go_sem] Tryz.underlying124
@[go_sem] theorem tk126 : tk Tryz.prog 126 = .one := rfl
@[go_sem] theorem sl126 : sl Tryz.prog 126 = some ⟨9, 1, 16, [.str ⟨#[]⟩]⟩ := rfl
@[go_sem] theorem zd126 : zd Tryz.prog 126 = some [.nil] := rfl
@[go_sem] theorem info126 : (Tryz.prog.info? 126).isSome = true := rfl
@[go_sem] theorem cells126 : Tryz.prog.cellsOf 126 = 1 := rfl
attribute [go_sem] Tryz.underlying126
@[go_sem] theorem tk128 : tk Tryz.prog 128 = .agg 4 := rfl
@[go_sem] theorem zd128 : zd Tryz.prog 128 = some [.str ⟨#[]⟩, .int .i64 (0), .int .i64 (0), .nil] := rfl
@[go_sem] theorem bk128 : bk Tryz.prog 128 = some (.st [(0, 1), (1, 1), (2, 1), (3, 1)]) := rfl
@[go_sem] theorem info128 : (Tryz.prog.info? 128).isSome = true := rfl
@[go_sem] theorem cells128 : Tryz.prog.cellsOf 128 = 4 := rfl
attribute [go_sem] Tryz.underlying128
@[go_sem] theorem tk129 : tk Tryz.prog 129 = .one := rfl
@[go_sem] theorem sl129 : sl Tryz.prog 129 = some ⟨128, 4, 56, [.str ⟨#[]⟩, .int .i64 (0), .int .i64 (0), .nil]⟩ := rfl
@[go_sem] theorem zd129 : zd Tryz.prog 129 = some [.nil] := rfl
@[go_sem] theorem info129 : (Tryz.prog.info? 129).isSome = true := rfl
@[go_sem] theorem cells129 : Tryz.prog.cellsOf 129 = 1 := rfl
attribute [go_sem] Tryz.underlying129
@[go_sem] theorem tk131 : tk Tryz.prog 131 = .agg 4 := rfl
@[go_sem] theorem zd131 : zd Tryz.prog 131 = some [.str ⟨#[]⟩, .int .i64 (0), .bool false, .nil] := rfl
@[go_sem] theorem bk131 : bk Tryz.prog 131 = some (.st [(0, 1), (1, 1), (2, 1), (3, 1)]) := rfl
@[go_sem] theorem info131 : (Tryz.prog.info? 131).isSome = true := rfl
@[go_sem] theorem cells131 : Tryz.prog.cellsOf 131 = 4 := rfl
attribute [go_sem] Tryz.underlying131
@[go_sem] theorem tk133 : tk Tryz.prog 133 = .agg 7 := rfl
@[go_sem] theorem zd133 : zd Tryz.prog 133 = some [.str ⟨#[]⟩, .int .i64 (0), .int .i64 (0), .int .i64 (0), .int .i64 (0), .int .i64 (0), .int .i64 (0)] := rfl
@[go_sem] theorem bk133 : bk Tryz.prog 133 = some (.st [(0, 1), (1, 1), (2, 1), (3, 1), (4, 1), (5, 1), (6, 1)]) := rfl
@[go_sem] theorem info133 : (Tryz.prog.info? 133).isSome = true := rfl
@[go_sem] theorem cells133 : Tryz.prog.cellsOf 133 = 7 := rfl
attribute [go_sem] Tryz.underlying133
@[go_sem] theorem tk138 : tk Tryz.prog 138 = .one := rfl
@[go_sem] theorem info138 : (Tryz.prog.info? 138).isSome = true := rfl
@[go_sem] theorem cells138 : Tryz.prog.cellsOf 138 = 1 := rfl
attribute [go_sem] Tryz.underlying138
@[go_sem] theorem tk143 : tk Tryz.prog 143 = .one := rfl
@[go_sem] theorem info143 : (Tryz.prog.info? 143).isSome = true := rfl
@[go_sem] theorem cells143 : Tryz.prog.cellsOf 143 = 1 := rfl
attribute [go_sem] Tryz.underlying143
@[go_sem] theorem tk148 : tk Tryz.prog 148 = .agg 2 := rfl
@[go_sem] theorem zd148 : zd Tryz.prog 148 = some [.int .i64 (0), .int .i64 (0)] := rfl
@[go_sem] theorem bk148 : bk Tryz.prog 148 = some (.st [(0, 1), (1, 1)]) := rfl
@[go_sem] theorem istr148 : istr Tryz.prog 148 = some 2 := by kernel_rfl
@[go_sem] theorem info148 : (Tryz.prog.info? 148).isSome = true := rfl
@[go_sem] theorem cells148 : Tryz.prog.cellsOf 148 = 2 := rfl
attribute [go_sem] Tryz.underlying148
@[go_sem] theorem tk150 : tk Tryz.prog 150 = .agg 4 := rfl
@[go_sem] theorem zd150 : zd Tryz.prog 150 = some [.int .i64 (0), .int .i64 (0), .int .i64 (0), .int .i64 (0)] := rfl
@[go_sem] theorem bk150 : bk Tryz.prog 150 = some (.st [(0, 1), (1, 1), (2, 2)]) := rfl
@[go_sem] theorem info150 : (Tryz.prog.info? 150).isSome = true := rfl
@[go_sem] theorem cells150 : Tryz.prog.cellsOf 150 = 4 := rfl
attribute [go_sem] Tryz.underlying150
@[go_sem] theorem tk152 : tk Tryz.prog 152 = .agg 5 := rfl
@[go_sem] theorem zd152 : zd Tryz.prog 152 = some [.int .i64 (0), .int .i64 (0), .int .i64 (0), .int .i64 (0), .int .i64 (0)] := rfl
@[go_sem] theorem bk152 : bk Tryz.prog 152 = some (.st [(0, 1), (1, 2), (3, 2)]) := rfl
@[go_sem] theorem info152 : (Tryz.prog.info? 152).isSome = true := rfl
@[go_sem] theorem cells152 : Tryz.prog.cellsOf 152 = 5 := rfl
attribute [go_sem] Tryz.underlying152
@[go_sem] theorem tk155 : tk Tryz.prog 155 = .one := rfl
@[go_sem] theorem info155 : (Tryz.prog.info? 155).isSome = true := rfl
@[go_sem] theorem cells155 : Tryz.prog.cellsOf 155 = 1 := rfl
attribute [go_sem] Tryz.underlying155
@[go_sem] theorem tk158 : tk Tryz.prog 158 = .agg 3 := rfl
@[go_sem] theorem zd158 : zd Tryz.prog 158 = some [.int .i64 (0), .str ⟨#[]⟩, .int .i64 (0)] := rfl
@[go_sem] theorem bk158 : bk Tryz.prog 158 = some (.st [(0, 1), (1, 1), (2, 1)]) := rfl
@[go_sem] theorem info158 : (Tryz.prog.info? 158).isSome = true := rfl
@[go_sem] theorem cells158 : Tryz.prog.cellsOf 158 = 3 := rfl
attribute [go_sem] Tryz.underlying158
@[go_sem] theorem tk160 : tk Tryz.prog 160 = .one := rfl
@[go_sem] theorem zd160 : zd Tryz.prog 160 = some [.nilf] := rfl
@[go_sem] theorem info160 : (Tryz.prog.info? 160).isSome = true := rfl
@[go_sem] theorem cells160 : Tryz.prog.cellsOf 160 = 1 := rfl
attribute [go_sem] Tryz.underlying160
@[go_sem] theorem tk162 : tk Tryz.prog 162 = .one := rfl
@[go_sem] theorem sl162 : sl Tryz.prog 162 = some ⟨4, 1, 1, [.bool false]⟩ := rfl
@[go_sem] theorem zd162 : zd Tryz.prog 162 = some [.nil] := rfl
@[go_sem] theorem info162 : (Tryz.prog.info? 162).isSome = true := rfl
@[go_sem] theorem cells162 : Tryz.prog.cellsOf 162 = 1 := rfl
attribute [go_sem] Tryz.underlying162
@[go_sem] theorem tk163 : tk Tryz.prog 163 = .one := rfl
@[go_sem] theorem info163 : (Tryz.prog.info? 163).isSome = true := rfl
@[go_sem] theorem cells163 : Tryz.prog.cellsOf 163 = 1 := rfl
attribute [go_sem] Tryz.underlying163
@[go_sem] theorem tk169 : tk Tryz.prog 169 = .one := rfl
@[go_sem] theorem info169 : (Tryz.prog.info? 169).isSome = true := rfl
@[go_sem] theorem cells169 : Tryz.prog.cellsOf 169 = 1 := rfl
attribute [go_sem] Tryz.underlying169
@[go_sem] theorem tk174 : tk Tryz.prog 174 = .one := rfl
@[go_sem] theorem sl174 : sl Tryz.prog 174 = some ⟨29, 2, 48, [.nil, .nil]⟩ := rfl
@[go_sem] theorem zd174 : zd Tryz.prog 174 = some [.nil] := rfl
@[go_sem] theorem info174 : (Tryz.prog.info? 174).isSome = true := rfl
@[go_sem] theorem cells174 : Tryz.prog.cellsOf 174 = 1 := rfl
attribute [go_sem] Tryz.underlying174
@[go_sem] theorem tk175 : tk Tryz.prog 175 = .one := rfl
@[go_sem] theorem zd175 : zd Tryz.prog 175 = some [.nilp] := rfl
@[go_sem] theorem info175 : (Tryz.prog.info? 175).isSome = true := rfl
@[go_sem] theorem cells175 : Tryz.prog.cellsOf 175 = 1 := rfl
attribute [go_sem] Tryz.underlying175
@[go_sem] theorem tk177 : tk Tryz.prog 177 = .agg 5 := rfl
@[go_sem] theorem zd177 : zd Tryz.prog 177 = some [.nil, .nil, .nil, .nil, .nil] := rfl
@[go_sem] theorem bk177 : bk Tryz.prog 177 = some (.st [(0, 2), (2, 2), (4, 1)]) := rfl
@[go_sem] theorem info177 : (Tryz.prog.info? 177).isSome = true := rfl
@[go_sem] theorem cells177 : Tryz.prog.cellsOf 177 = 5 := rfl
attribute [go_sem] Tryz.underlying177
@[go_sem] theorem tk180 : tk Tryz.prog 180 = .one := rfl
@[go_sem] theorem zd180 : zd Tryz.prog 180 = some [.nilp] := rfl
@[go_sem] theorem info180 : (Tryz.prog.info? 180).isSome = true := rfl
@[go_sem] theorem cells180 : Tryz.prog.cellsOf 180 = 1 := rfl
attribute [go_sem] Tryz.underlying180
@[go_sem] theorem tk182 : tk Tryz.prog 182 = .agg 5 := rfl
@[go_sem] theorem zd182 : zd Tryz.prog 182 = some [.nil, .nil, .nil, .nil, .nil] := rfl
@[go_sem] theorem bk182 : bk Tryz.prog 182 = some (.st [(0, 2), (2, 2), (4, 1)]) := rfl
@[go_sem] theorem info182 : (Tryz.prog.info? 182).isSome = true := rfl
@[go_sem] theorem cells182 : Tryz.prog.cellsOf 182 = 5 := rfl
attribute [go_sem] Tryz.underlying182
@[go_sem] theorem tk187 : tk Tryz.prog 187 = .one := rfl
@[go_sem] theorem info187 : (Tryz.prog.info? 187).isSome = true := rfl
@[go_sem] theorem cells187 : Tryz.prog.cellsOf 187 = 1 := rfl
attribute [go_sem] Tryz.underlying187
@[go_sem] theorem tk193 : tk Tryz.prog 193 = .one := rfl
@[go_sem] theorem info193 : (Tryz.prog.info? 193).isSome = true := rfl
@[go_sem] theorem cells193 : Tryz.prog.cellsOf 193 = 1 := rfl
attribute [go_sem] Tryz.underlying193
@[go_sem] theorem tk195 : tk Tryz.prog 195 = .agg 3 := rfl
@[go_sem] theorem zd195 : zd Tryz.prog 195 = some [.int .u8 (0), .int .u8 (0), .int .u8 (0)] := rfl
@[go_sem] theorem bk195 : bk Tryz.prog 195 = some (.ar 1) := rfl
@[go_sem] theorem arr195 : arr Tryz.prog 195 = some (3, 1) := rfl
@[go_sem] theorem info195 : (Tryz.prog.info? 195).isSome = true := rfl
@[go_sem] theorem cells195 : Tryz.prog.cellsOf 195 = 3 := rfl
attribute [go_sem] Tryz.underlying195
@[go_sem] theorem tk199 : tk Tryz.prog 199 = .one := rfl
@[go_sem] theorem zd199 : zd Tryz.prog 199 = some [.nilf] := rfl
@[go_sem] theorem info199 : (Tryz.prog.info? 199).isSome = true := rfl
@[go_sem] theorem cells199 : Tryz.prog.cellsOf 199 = 1 := rfl
attribute [go_sem] Tryz.underlying199
@[go_sem] theorem tk202 : tk Tryz.prog 202 = .one := rfl
@[go_sem] theorem info202 : (Tryz.prog.info? 202).isSome = true := rfl
@[go_sem] theorem cells202 : Tryz.prog.cellsOf 202 = 1 := rfl
attribute [go_sem] Tryz.underlying202
@[go_sem] theorem tk207 : tk Tryz.prog 207 = .agg 8 := rfl
@[go_sem] theorem zd207 : zd Tryz.prog 207 = some [.nil, .nil, .nil, .nil, .nil, .nil, .nil, .nil] := rfl
@[go_sem] theorem bk207 : bk Tryz.prog 207 = some (.st [(0, 2), (2, 2), (4, 2), (6, 2)]) := rfl
@[go_sem] theorem info207 : (Tryz.prog.info? 207).isSome = true := rfl
@[go_sem] theorem cells207 : Tryz.prog.cellsOf 207 = 8 := rfl
attribute [go_sem] Tryz.underlying207
@[go_sem] theorem tk209 : tk Tryz.prog 209 = .one := rfl
@[go_sem] theorem sl209 : sl Tryz.prog 209 = some ⟨292, 2, 16, [.int .i64 (0), .int .i64 (0)]⟩ := rfl
@[go_sem] theorem zd209 : zd Tryz.prog 209 = some [.nil] := rfl
@[go_sem] theorem info209 : (Tryz.prog.info? 209).isSome = true := rfl
@[go_sem] theorem cells209 : Tryz.prog.cellsOf 209 = 1 := rfl
attribute [go_sem] Tryz.underlying209
@[go_sem] theorem tk210 : tk Tryz.prog 210 = .one := rfl
@[go_sem] theorem info210 : (Tryz.prog.info? 210).isSome = true := rfl
@[go_sem] theorem cells210 : Tryz.prog.cellsOf 210 = 1 := rfl
attribute [go_sem] Tryz.underlying210
@[go_sem] theorem tk220 : tk Tryz.prog 220 = .one := rfl
@[go_sem] theorem zd220 : zd Tryz.prog 220 = some [.nilf] := rfl
@[go_sem] theorem info220 : (Tryz.prog.info? 220).isSome = true := rfl
@[go_sem] theorem cells220 : Tryz.prog.cellsOf 220 = 1 := rfl
attribute [go_sem] Tryz.underlying220
@[go_sem] theorem tk224 : tk Tryz.prog 224 = .one := rfl
@[go_sem] theorem zd224 : zd Tryz.prog 224 = some [.nilf] := rfl
@[go_sem] theorem info224 : (Tryz.prog.info? 224).isSome = true := rfl
@[go_sem] theorem cells224 : Tryz.prog.cellsOf 224 = 1 := rfl
attribute [go_sem] Tryz.underlying224
@[go_sem] theorem tk226 : tk Tryz.prog 226 = .one := rfl
@[go_sem] theorem info226 : (Tryz.prog.info? 226).isSome = true := rfl
@[go_sem] theorem cells226 : Tryz.prog.cellsOf 226 = 1 := rfl
attribute [go_sem] Tryz.underlying226
@[go_sem] theorem tk232 : tk Tryz.prog 232 = .one := rfl
@[go_sem] theorem zd232 : zd Tryz.prog 232 = some [.nilf] := rfl
@[go_sem] theorem info232 : (Tryz.prog.info? 232).isSome = true := rfl
@[go_sem] theorem cells232 : Tryz.prog.cellsOf 232 = 1 := rfl
attribute [go_sem] Tryz.underlying232
@[go_sem] theorem tk234 : tk Tryz.prog 234 = .one := rfl
@[go_sem] theorem info234 : (Tryz.prog.info? 234).isSome = true := rfl
@[go_sem] theorem cells234 : Tryz.prog.cellsOf 234 = 1 := rfl
attribute [go_sem] Tryz.underlying234
@[go_sem] theorem tk239 : tk Tryz.prog 239 = .one := rfl
@[go_sem] theorem info239 : (Tryz.prog.info? 239).isSome = true := rfl
@[go_sem] theorem cells239 : Tryz.prog.cellsOf 239 = 1 := rfl
attribute [go_sem] Tryz.underlying239
@[go_sem] theorem tk244 : tk Tryz.prog 244 = .one := rfl
@[go_sem] theorem sl244 : sl Tryz.prog 244 = some ⟨245, 2, 16, [.int .i64 (0), .int .i64 (0)]⟩ := rfl
@[go_sem] theorem zd244 : zd Tryz.prog 244 = some [.nil] := rfl
@[go_sem] theorem info244 : (Tryz.prog.info? 244).isSome = true := rfl
@[go_sem] theorem cells244 : Tryz.prog.cellsOf 244 = 1 := rfl
attribute [go_sem] Tryz.underlying244
@[go_sem] theorem tk245 : tk Tryz.prog 245 = .agg 2 := rfl
@[go_sem] theorem zd245 : zd Tryz.prog 245 = some [.int .i64 (0), .int .i64 (0)] := rfl
@[go_sem] theorem bk245 : bk Tryz.prog 245 = some (.ar 1) := rfl
@[go_sem] theorem arr245 : arr Tryz.prog 245 = some (2, 1) := rfl
@[go_sem] theorem info245 : (Tryz.prog.info? 245).isSome = true := rfl
@[go_sem] theorem cells245 : Tryz.prog.cellsOf 245 = 2 := rfl
attribute [go_sem] Tryz.underlying245
@[go_sem] theorem tk247 : tk Tryz.prog 247 = .one := rfl
@[go_sem] theorem zd247 : zd Tryz.prog 247 = some [.int .i8 (0)] := rfl
@[go_sem] theorem intK247 : intK Tryz.prog 247 = some .i8 := rfl
@[go_sem] theorem info247 : (Tryz.prog.info? 247).isSome = true := rfl
@[go_sem] theorem cells247 : Tryz.prog.cellsOf 247 = 1 := rfl
attribute [go_sem] Tryz.underlying247
@[go_sem] theorem tk248 : tk Tryz.prog 248 = .agg 4 := rfl
@[go_sem] theorem zd248 : zd Tryz.prog 248 = some [.int .i8 (0), .int .i8 (0), .int .i8 (0), .int .i8 (0)] := rfl
@[go_sem] theorem bk248 : bk Tryz.prog 248 = some (.ar 1) := rfl
@[go_sem] theorem arr248 : arr Tryz.prog 248 = some (4, 1) := rfl
@[go_sem] theorem info248 : (Tryz.prog.info? 248).isSome = true := rfl
@[go_sem] theorem cells248 : Tryz.prog.cellsOf 248 = 4 := rfl
attribute [go_sem] Tryz.underlying248
@[go_sem] theorem tk262 : tk Tryz.prog 262 = .one := rfl
@[go_sem] theorem zd262 : zd Tryz.prog 262 = some [.int .u64 (0)] := rfl
@[go_sem] theorem intK262 : intK Tryz.prog 262 = some .u64 := rfl
@[go_sem] theorem info262 : (Tryz.prog.info? 262).isSome = true := rfl
@[go_sem] theorem cells262 : Tryz.prog.cellsOf 262 = 1 := rfl
attribute [go_sem] Tryz.underlying262
@[go_sem] theorem tk269 : tk Tryz.prog 269 = .one := rfl
@[go_sem] theorem zd269 : zd Tryz.prog 269 = some [.nilf] := rfl
@[go_sem] theorem info269 : (Tryz.prog.info? 269).isSome = true := rfl
@[go_sem] theorem cells269 : Tryz.prog.cellsOf 269 = 1 := rfl
attribute [go_sem] Tryz.underlying269
@[go_sem] theorem tk272 : tk Tryz.prog 272 = .one := rfl
@[go_sem] theorem zd272 : zd Tryz.prog 272 = some [.nilf] := rfl
@[go_sem] theorem info272 : (Tryz.prog.info? 272).isSome = true := rfl
@[go_sem] theorem cells272 : Tryz.prog.cellsOf 272 = 1 := rfl
attribute [go_sem] Tryz.underlying272
@[go_sem] theorem tk274 : tk Tryz.prog 274 = .one := rfl
@[go_sem] theorem info274 : (Tryz.prog.info? 274).isSome = true := rfl
@[go_sem] theorem cells274 : Tryz.prog.cellsOf 274 = 1 := rfl
attribute [go_sem] Tryz.underlying274
@[go_sem] theorem tk288 : tk Tryz.prog 288 = .one := rfl
@[go_sem] theorem info288 : (Tryz.prog.info? 288).isSome = true := rfl
@[go_sem] theorem cells288 : Tryz.prog.cellsOf 288 = 1 := rfl
attribute [go_sem] Tryz.underlying288
@[go_sem] theorem tk292 : tk Tryz.prog 292 = .agg 2 := rfl
@[go_sem] theorem zd292 : zd Tryz.prog 292 = some [.int .i64 (0), .int .i64 (0)] := rfl
@[go_sem] theorem bk292 : bk Tryz.prog 292 = some (.st [(0, 1), (1, 1)]) := rfl
@[go_sem] theorem istr292 : istr Tryz.prog 292 = some 2 := by kernel_rfl
@[go_sem] theorem info292 : (Tryz.prog.info? 292).isSome = true := rfl
@[go_sem] theorem cells292 : Tryz.prog.cellsOf 292 = 2 := rfl
attribute [go_sem] Tryz.underlying292
@[go_sem] theorem tk294 : tk Tryz.prog 294 = .one := rfl
@[go_sem] theorem zd294 : zd Tryz.prog 294 = some [.int .i64 (0)] := rfl
@[go_sem] theorem intK294 : intK Tryz.prog 294 = some .i64 := rfl
@[go_sem] theorem info294 : (Tryz.prog.info? 294).isSome = true := rfl
@[go_sem] theorem cells294 : Tryz.prog.cellsOf 294 = 1 := rfl
attribute [go_sem] Tryz.underlying294
@[go_sem] theorem tk295 : tk Tryz.prog 295 = .one := rfl
@[go_sem] theorem info295 : (Tryz.prog.info? 295).isSome = true := rfl
@[go_sem] theorem cells295 : Tryz.prog.cellsOf 295 = 1 := rfl
attribute [go_sem] Tryz.underlying295
@[go_sem] theorem tk301 : tk Tryz.prog 301 = .one := rfl
@[go_sem] theorem zd301 : zd Tryz.prog 301 = some [.int .u32 (0)] := rfl
@[go_sem] theorem intK301 : intK Tryz.prog 301 = some .u32 := rfl
@[go_sem] theorem info301 : (Tryz.prog.info? 301).isSome = true := rfl
@[go_sem] theorem cells301 : Tryz.prog.cellsOf 301 = 1 := rfl
attribute [go_sem] Tryz.underlying301
@[go_sem] theorem tk307 : tk Tryz.prog 307 = .one := rfl
@[go_sem] theorem info307 : (Tryz.prog.info? 307).isSome = true := rfl
@[go_sem] theorem cells307 : Tryz.prog.cellsOf 307 = 1 := rfl
attribute [go_sem] Tryz.underlying307
@[go_sem] theorem tk314 : tk Tryz.prog 314 = .one := rfl
@[go_sem] theorem zd314 : zd Tryz.prog 314 = some [.int .u64 (0)] := rfl
@[go_sem] theorem intK314 : intK Tryz.prog 314 = some .u64 := rfl
@[go_sem] theorem info314 : (Tryz.prog.info? 314).isSome = true := rfl
@[go_sem] theorem cells314 : Tryz.prog.cellsOf 314 = 1 := rfl
attribute [go_sem] Tryz.underlying314
@[go_sem] theorem tk318 : tk Tryz.prog 318 = .one := rfl
@[go_sem] theorem zd318 : zd Tryz.prog 318 = some [.nilp] := rfl
@[go_sem] theorem info318 : (Tryz.prog.info? 318).isSome = true := rfl
@[go_sem] theorem cells318 : Tryz.prog.cellsOf 318 = 1 := rfl
attribute [go_sem] Tryz.underlying318
@[go_sem] theorem tk321 : tk Tryz.prog 321 = .one := rfl
@[go_sem] theorem zd321 : zd Tryz.prog 321 = some [.nilp] := rfl
@[go_sem] theorem info321 : (Tryz.prog.info? 321).isSome = true := rfl
@[go_sem] theorem cells321 : Tryz.prog.cellsOf 321 = 1 := rfl
attribute [go_sem] Tryz.underlying321
@[go_sem] theorem res5 : Tryz.f5.results.toList = [.tmp 4] := rfl
@[go_sem] theorem res6 : Tryz.f6.results.toList = [.tmp 0] := rfl
@[go_sem] theorem res9 : Tryz.f9.results.toList = [.cell 8 41, .tmp 9] := rfl
@[go_sem] theorem res12 : Tryz.f12.results.toList = [.tmp 4] := rfl
@[go_sem] theorem res13 : Tryz.f13.results.toList = [.tmp 6, .tmp 7] := rfl
@[go_sem] theorem res16 : Tryz.f16.results.toList = [.cell 2 25, .cell 3 41, .cell 4 41, .cell 5 77] := rfl
@[go_sem] theorem res17 : Tryz.f17.results.toList = [.tmp 4, .tmp 5, .tmp 6] := rfl
@[go_sem] theorem res18 : Tryz.f18.results.toList = [.tmp 4, .tmp 5, .tmp 6] := rfl
@[go_sem] theorem res19 : Tryz.f19.results.toList = [.tmp 6] := rfl
@[go_sem] theorem res20 : Tryz.f20.results.toList = [.tmp 4] := rfl
@[go_sem] theorem res21 : Tryz.f21.results.toList = [.tmp 4] := rfl
@[go_sem] theorem res22 : Tryz.f22.results.toList = [.cell 0 25] := rfl
@[go_sem] theorem res26 : Tryz.f26.results.toList = [.tmp 4] := rfl
@[go_sem] theorem res27 : Tryz.f27.results.toList = [.cell 6 92, .tmp 7] := rfl
@[go_sem] theorem res28 : Tryz.f28.results.toList = [.cell 2 41, .tmp 3] := rfl
@[go_sem] theorem res35 : Tryz.f35.results.toList = [.tmp 2, .tmp 3] := rfl
@[go_sem] theorem res36 : Tryz.f36.results.toList = [.tmp 2] := rfl
@[go_sem] theorem res37 : Tryz.f37.results.toList = [.tmp 4] := rfl
@[go_sem] theorem res38 : Tryz.f38.results.toList = [.tmp 4] := rfl
@[go_sem] theorem res39 : Tryz.f39.results.toList = [.tmp 2] := rfl
@[go_sem] theorem res40 : Tryz.f40.results.toList = [.tmp 2, .tmp 3] := rfl
@[go_sem] theorem res41 : Tryz.f41.results.toList = [.tmp 8] := rfl
@[go_sem] theorem res42 : Tryz.f42.results.toList = [.tmp 6] := rfl
@[go_sem] theorem res43 : Tryz.f43.results.toList = [.tmp 4, .tmp 5] := rfl
@[go_sem] theorem res44 : Tryz.f44.results.toList = [.tmp 4] := rfl
@[go_sem] theorem res45 : Tryz.f45.results.toList = [.tmp 4] := rfl
@[go_sem] theorem res48 : Tryz.f48.results.toList = [.cell 4 25] := rfl
@[go_sem] theorem res49 : Tryz.f49.results.toList = [.cell 6 63] := rfl
@[go_sem] theorem res50 : Tryz.f50.results.toList = [.cell 4 41] := rfl
@[go_sem] theorem res51 : Tryz.f51.results.toList = [.cell 4 77] := rfl
@[go_sem] theorem res52 : Tryz.f52.results.toList = [.tmp 2, .tmp 3] := rfl
@[go_sem] theorem res53 : Tryz.f53.results.toList = [.tmp 2] := rfl
@[go_sem] theorem res54 : Tryz.f54.results.toList = [.tmp 4] := rfl
@[go_sem] theorem res58 : Tryz.f58.results.toList = [.tmp 2] := rfl
@[go_sem] theorem res59 : Tryz.f59.results.toList = [.tmp 4] := rfl
@[go_sem] theorem res60 : Tryz.f60.results.toList = [.tmp 6] := rfl
@[go_sem] theorem res61 : Tryz.f61.results.toList = [.tmp 6] := rfl
@[go_sem] theorem res62 : Tryz.f62.results.toList = [.tmp 10] := rfl
@[go_sem] theorem res63 : Tryz.f63.results.toList = [.cell 8 35, .tmp 9] := rfl
@[go_sem] theorem res64 : Tryz.f64.results.toList = [.tmp 2] := rfl
@[go_sem] theorem res65 : Tryz.f65.results.toList = [.cell 2 29] := rfl
@[go_sem] theorem res66 : Tryz.f66.results.toList = [.cell 2 29] := rfl
@[go_sem] theorem res67 : Tryz.f67.results.toList = [.tmp 4, .tmp 5] := rfl
@[go_sem] theorem res68 : Tryz.f68.results.toList = [.tmp 2, .tmp 3] := rfl
@[go_sem] theorem res76 : Tryz.f76.results.toList = [.tmp 4] := rfl
@[go_sem] theorem res77 : Tryz.f77.results.toList = [.tmp 4] := rfl
@[go_sem] theorem res78 : Tryz.f78.results.toList = [.tmp 2, .tmp 3] := rfl
@[go_sem] theorem res79 : Tryz.f79.results.toList = [.tmp 2] := rfl
@[go_sem] theorem res80 : Tryz.f80.results.toList = [.tmp 3] := rfl
@[go_sem] theorem res81 : Tryz.f81.results.toList = [.tmp 4] := rfl
@[go_sem] theorem res82 : Tryz.f82.results.toList = [.tmp 3] := rfl
@[go_sem] theorem res83 : Tryz.f83.results.toList = [.tmp 6] := rfl
@[go_sem] theorem res84 : Tryz.f84.results.toList = [.cell 6 128, .tmp 7] := rfl
@[go_sem] theorem res85 : Tryz.f85.results.toList = [.tmp 4] := rfl
@[go_sem] theorem res86 : Tryz.f86.results.toList = [.tmp 4] := rfl
@[go_sem] theorem res87 : Tryz.f87.results.toList = [.tmp 4] := rfl
@[go_sem] theorem res88 : Tryz.f88.results.toList = [.tmp 6] := rfl
@[go_sem] theorem res89 : Tryz.f89.results.toList = [.cell 4 29, .cell 5 36, .tmp 6] := rfl
@[go_sem] theorem res90 : Tryz.f90.results.toList = [.tmp 4] := rfl
@[go_sem] theorem res91 : Tryz.f91.results.toList = [.tmp 4] := rfl
@[go_sem] theorem res92 : Tryz.f92.results.toList = [.tmp 4] := rfl
@[go_sem] theorem res93 : Tryz.f93.results.toList = [.tmp 8] := rfl
@[go_sem] theorem res94 : Tryz.f94.results.toList = [.tmp 2] := rfl
@[go_sem] theorem res95 : Tryz.f95.results.toList = [.tmp 6] := rfl
@[go_sem] theorem res96 : Tryz.f96.results.toList = [] := rfl
@[go_sem] theorem res97 : Tryz.f97.results.toList = [.tmp 4] := rfl
@[go_sem] theorem res99 : Tryz.f99.results.toList = [.cell 4 33] := rfl
@[go_sem] theorem res100 : Tryz.f100.results.toList = [.cell 4 35] := rfl
@[go_sem] theorem res101 : Tryz.f101.results.toList = [.cell 4 29, .cell 5 36, .tmp 6] := rfl
@[go_sem] theorem res102 : Tryz.f102.results.toList = [.cell 6 29] := rfl
@[go_sem] theorem res103 : Tryz.f103.results.toList = [.tmp 4] := rfl
@[go_sem] theorem res104 : Tryz.f104.results.toList = [.cell 4 29, .tmp 5] := rfl
@[go_sem] theorem res105 : Tryz.f105.results.toList = [.tmp 8] := rfl
@[go_sem] theorem res106 : Tryz.f106.results.toList = [.cell 6 39] := rfl
@[go_sem] theorem res107 : Tryz.f107.results.toList = [.cell 2 41] := rfl
@[go_sem] theorem res108 : Tryz.f108.results.toList = [.tmp 2] := rfl
@[go_sem] theorem res109 : Tryz.f109.results.toList = [.tmp 4, .tmp 5] := rfl
@[go_sem] theorem res110 : Tryz.f110.results.toList = [.tmp 8] := rfl
@[go_sem] theorem res111 : Tryz.f111.results.toList = [.tmp 2] := rfl
@[go_sem] theorem res112 : Tryz.f112.results.toList = [.tmp 4] := rfl
@[go_sem] theorem res116 : Tryz.f116.results.toList = [.tmp 2] := rfl
@[go_sem] theorem res124 : Tryz.f124.results.toList = [.tmp 2] := rfl
@[go_sem] theorem res125 : Tryz.f125.results.toList = [.tmp 3] := rfl
@[go_sem] theorem res126 : Tryz.f126.results.toList = [.tmp 4, .tmp 5] := rfl
@[go_sem] theorem res127 : Tryz.f127.results.toList = [.tmp 2] := rfl
@[go_sem] theorem res128 : Tryz.f128.results.toList = [.tmp 6] := rfl
@[go_sem] theorem res129 : Tryz.f129.results.toList = [.tmp 2] := rfl
@[go_sem] theorem res130 : Tryz.f130.results.toList = [.tmp 2, .tmp 3] := rfl
@[go_sem] theorem res131 : Tryz.f131.results.toList = [.tmp 2] := rfl
@[go_sem] theorem res132 : Tryz.f132.results.toList = [.tmp 6] := rfl
@[go_sem] theorem res133 : Tryz.f133.results.toList = [.tmp 2] := rfl
@[go_sem] theorem res134 : Tryz.f134.results.toList = [] := rfl
@[go_sem] theorem res135 : Tryz.f135.results.toList = [.tmp 4] := rfl
@[go_sem] theorem res136 : Tryz.f136.results.toList = [.cell 12 29] := rfl
@[go_sem] theorem res137 : Tryz.f137.results.toList = [.tmp 4] := rfl
@[go_sem] theorem res138 : Tryz.f138.results.toList = [.tmp 4] := rfl
@[go_sem] theorem res139 : Tryz.f139.results.toList = [.tmp 4] := rfl
@[go_sem] theorem res149 : Tryz.f149.results.toList = [.tmp 4] := rfl
@[go_sem] theorem res150 : Tryz.f150.results.toList = [.tmp 3] := rfl
@[go_sem] theorem res151 : Tryz.f151.results.toList = [.tmp 4] := rfl
@[go_sem] theorem res152 : Tryz.f152.results.toList = [.tmp 4] := rfl
@[go_sem] theorem res153 : Tryz.f153.results.toList = [.tmp 3] := rfl
@[go_sem] theorem res154 : Tryz.f154.results.toList = [.tmp 4] := rfl
@[go_sem] theorem res155 : Tryz.f155.results.toList = [.tmp 3] := rfl
@[go_sem] theorem res156 : Tryz.f156.results.toList = [.tmp 4] := rfl
@[go_sem] theorem res157 : Tryz.f157.results.toList = [.tmp 2, .tmp 3, .tmp 4] := rfl
@[go_sem] theorem res158 : Tryz.f158.results.toList = [.tmp 2] := rfl
@[go_sem] theorem res159 : Tryz.f159.results.toList = [.tmp 4] := rfl
@[go_sem] theorem res160 : Tryz.f160.results.toList = [.tmp 3] := rfl
@[go_sem] theorem res161 : Tryz.f161.results.toList = [.tmp 4] := rfl
@[go_sem] theorem res162 : Tryz.f162.results.toList = [.tmp 4] := rfl
@[go_sem] theorem res163 : Tryz.f163.results.toList = [.tmp 4, .tmp 5] := rfl
@[go_sem] theorem res164 : Tryz.f164.results.toList = [.tmp 4] := rfl
@[go_sem] theorem res165 : Tryz.f165.results.toList = [.tmp 4] := rfl
@[go_sem] theorem res166 : Tryz.f166.results.toList = [.tmp 3] := rfl
@[go_sem] theorem res167 : Tryz.f167.results.toList = [.tmp 3] := rfl
@[go_sem] theorem res168 : Tryz.f168.results.toList = [.tmp 4] := rfl
@[go_sem] theorem res169 : Tryz.f169.results.toList = [.tmp 3] := rfl
@[go_sem] theorem res170 : Tryz.f170.results.toList = [.tmp 4] := rfl
@[go_sem] theorem res171 : Tryz.f171.results.toList = [.tmp 4, .tmp 5] := rfl
@[go_sem] theorem res172 : Tryz.f172.results.toList = [.tmp 4] := rfl
@[go_sem] theorem res173 : Tryz.f173.results.toList = [.tmp 4] := rfl
@[go_sem] theorem res174 : Tryz.f174.results.toList = [.tmp 6] := rfl
@[go_sem] theorem res175 : Tryz.f175.results.toList = [.tmp 2] := rfl
@[go_sem] theorem res176 : Tryz.f176.results.toList = [.tmp 2, .tmp 3] := rfl
@[go_sem] theorem res177 : Tryz.f177.results.toList = [.tmp 6] := rfl
@[go_sem] theorem res178 : Tryz.f178.results.toList = [] := rfl
@[go_sem] theorem res181 : Tryz.f181.results.toList = [.cell 6 29] := rfl
@[go_sem] theorem res182 : Tryz.f182.results.toList = [.cell 4 152] := rfl
@[go_sem] theorem res183 : Tryz.f183.results.toList = [.cell 6 35] := rfl
@[go_sem] theorem res184 : Tryz.f184.results.toList = [.tmp 4] := rfl
@[go_sem] theorem res185 : Tryz.f185.results.toList = [.tmp 4] := rfl
@[go_sem] theorem res186 : Tryz.f186.results.toList = [.cell 2 29] := rfl
@[go_sem] theorem res187 : Tryz.f187.results.toList = [.tmp 2] := rfl
@[go_sem] theorem res188 : Tryz.f188.results.toList = [.tmp 4] := rfl
@[go_sem] theorem res189 : Tryz.f189.results.toList = [.tmp 2] := rfl
@[go_sem] theorem res190 : Tryz.f190.results.toList = [.cell 2 36] := rfl
@[go_sem] theorem res191 : Tryz.f191.results.toList = [.tmp 6] := rfl
@[go_sem] theorem res192 : Tryz.f192.results.toList = [.tmp 4] := rfl
@[go_sem] theorem res193 : Tryz.f193.results.toList = [.tmp 6] := rfl
@[go_sem] theorem res194 : Tryz.f194.results.toList = [.tmp 6] := rfl
@[go_sem] theorem res196 : Tryz.f196.results.toList = [.tmp 2] := rfl
@[go_sem] theorem res206 : Tryz.f206.results.toList = [.tmp 4] := rfl
@[go_sem] theorem res207 : Tryz.f207.results.toList = [.tmp 2] := rfl
@[go_sem] theorem res208 : Tryz.f208.results.toList = [.tmp 4] := rfl
@[go_sem] theorem res209 : Tryz.f209.results.toList = [.tmp 2] := rfl
@[go_sem] theorem res210 : Tryz.f210.results.toList = [] := rfl
@[go_sem] theorem res211 : Tryz.f211.results.toList = [.tmp 2] := rfl
@[go_sem] theorem res212 : Tryz.f212.results.toList = [.tmp 2] := rfl
@[go_sem] theorem res213 : Tryz.f213.results.toList = [.tmp 4] := rfl
@[go_sem] theorem res223 : Tryz.f223.results.toList = [.tmp 4] := rfl
@[go_sem] theorem res224 : Tryz.f224.results.toList = [.tmp 4] := rfl
@[go_sem] theorem res225 : Tryz.f225.results.toList = [.tmp 3] := rfl
@[go_sem] theorem res226 : Tryz.f226.results.toList = [.tmp 2] := rfl
@[go_sem] theorem res227 : Tryz.f227.results.toList = [.tmp 4] := rfl
@[go_sem] theorem res228 : Tryz.f228.results.toList = [.tmp 2] := rfl
@[go_sem] theorem res229 : Tryz.f229.results.toList = [.tmp 4] := rfl
@[go_sem] theorem res230 : Tryz.f230.results.toList = [.tmp 2] := rfl
@[go_sem] theorem res231 : Tryz.f231.results.toList = [.tmp 2] := rfl
@[go_sem] theorem res232 : Tryz.f232.results.toList = [.tmp 2, .tmp 3] := rfl
@[go_sem] theorem res233 : Tryz.f233.results.toList = [.tmp 2] := rfl
@[go_sem] theorem res234 : Tryz.f234.results.toList = [.tmp 4] := rfl
@[go_sem] theorem res235 : Tryz.f235.results.toList = [.tmp 2] := rfl
@[go_sem] theorem res236 : Tryz.f236.results.toList = [.tmp 4] := rfl
@[go_sem] theorem res237 : Tryz.f237.results.toList = [.tmp 4] := rfl
@[go_sem] theorem res238 : Tryz.f238.results.toList = [.tmp 4] := rfl
@[go_sem] theorem res239 : Tryz.f239.results.toList = [.tmp 4] := rfl
@[go_sem] theorem res240 : Tryz.f240.results.toList = [.tmp 2] := rfl
@[go_sem] theorem res241 : Tryz.f241.results.toList = [.tmp 3] := rfl
@[go_sem] theorem res242 : Tryz.f242.results.toList = [.tmp 4] := rfl
@[go_sem] theorem res243 : Tryz.f243.results.toList = [.tmp 2] := rfl
@[go_sem] theorem res244 : Tryz.f244.results.toList = [.tmp 4] := rfl
@[go_sem] theorem res245 : Tryz.f245.results.toList = [.tmp 2] := rfl
@[go_sem] theorem res246 : Tryz.f246.results.toList = [.tmp 3] := rfl
@[go_sem] theorem res247 : Tryz.f247.results.toList = [.cell 8 45] := rfl
@[go_sem] theorem res249 : Tryz.f249.results.toList = [.tmp 6] := rfl
@[go_sem] theorem res250 : Tryz.f250.results.toList = [.tmp 4] := rfl
@[go_sem] theorem res251 : Tryz.f251.results.toList = [.tmp 2] := rfl
@[go_sem] theorem res252 : Tryz.f252.results.toList = [.tmp 4] := rfl
@[go_sem] theorem res253 : Tryz.f253.results.toList = [.tmp 2] := rfl
@[go_sem] theorem res254 : Tryz.f254.results.toList = [.tmp 2] := rfl
@[go_sem] theorem res255 : Tryz.f255.results.toList = [.cell 4 158, .tmp 5, .tmp 6] := rfl
@[go_sem] theorem res261 : Tryz.f261.results.toList = [] := rfl
@[go_sem] theorem res262 : Tryz.f262.results.toList = [] := rfl
@[go_sem] theorem res263 : Tryz.f263.results.toList = [] := rfl
@[go_sem] theorem res264 : Tryz.f264.results.toList = [.tmp 6, .tmp 7] := rfl
@[go_sem] theorem res265 : Tryz.f265.results.toList = [] := rfl
@[go_sem] theorem res266 : Tryz.f266.results.toList = [.tmp 6] := rfl
@[go_sem] theorem res267 : Tryz.f267.results.toList = [.tmp 8] := rfl
@[go_sem] theorem res268 : Tryz.f268.results.toList = [.tmp 8, .tmp 9] := rfl
@[go_sem] theorem res269 : Tryz.f269.results.toList = [.tmp 2] := rfl
@[go_sem] theorem res270 : Tryz.f270.results.toList = [.tmp 2] := rfl
@[go_sem] theorem res271 : Tryz.f271.results.toList = [.tmp 2] := rfl
@[go_sem] theorem res274 : Tryz.f274.results.toList = [.tmp 4] := rfl
@[go_sem] theorem res275 : Tryz.f275.results.toList = [.tmp 4] := rfl
@[go_sem] theorem res276 : Tryz.f276.results.toList = [.tmp 2] := rfl
@[go_sem] theorem res277 : Tryz.f277.results.toList = [.tmp 4] := rfl
@[go_sem] theorem res278 : Tryz.f278.results.toList = [.tmp 4] := rfl
@[go_sem] theorem res279 : Tryz.f279.results.toList = [.tmp 4] := rfl
@[go_sem] theorem res280 : Tryz.f280.results.toList = [.tmp 2] := rfl
@[go_sem] theorem res281 : Tryz.f281.results.toList = [] := rfl
@[go_sem] theorem res282 : Tryz.f282.results.toList = [.tmp 4] := rfl
@[go_sem] theorem res283 : Tryz.f283.results.toList = [.cell 2 36, .tmp 3] := rfl
@[go_sem] theorem res284 : Tryz.f284.results.toList = [.tmp 2] := rfl
@[go_sem] theorem res285 : Tryz.f285.results.toList = [.tmp 4] := rfl
@[go_sem] theorem res286 : Tryz.f286.results.toList = [.tmp 4] := rfl
@[go_sem] theorem res287 : Tryz.f287.results.toList = [.tmp 2] := rfl
@[go_sem] theorem res288 : Tryz.f288.results.toList = [.tmp 2] := rfl
@[go_sem] theorem res289 : Tryz.f289.results.toList = [.tmp 6] := rfl
@[go_sem] theorem res290 : Tryz.f290.results.toList = [.tmp 4] := rfl
@[go_sem] theorem res291 : Tryz.f291.results.toList = [.tmp 0] := rfl
@[go_sem] theorem res295 : Tryz.f295.results.toList = [] := rfl
@[go_sem] theorem res296 : Tryz.f296.results.toList = [.tmp 2] := rfl
@[go_sem] theorem res297 : Tryz.f297.results.toList = [.tmp 2] := rfl
@[go_sem] theorem res298 : Tryz.f298.results.toList = [.tmp 6] := rfl
@[go_sem] theorem res299 : Tryz.f299.results.toList = [.tmp 10] := rfl
@[go_sem] theorem res300 : Tryz.f300.results.toList = [.tmp 4] := rfl
@[go_sem] theorem res302 : Tryz.f302.results.toList = [.tmp 2] := rfl
@[go_sem] theorem res304 : Tryz.f304.results.toList = [.tmp 8, .tmp 9] := rfl
theorem mixed : Tryz.prog.follows .mixedOrders = true := rfl
theorem pK {f : FuncId} {fn : Func} {x : Code} {args : List D} {r : D} (cfg : Cfg) (hf : Tryz.prog.funcs[f]? = some fn) (hb : fn.body = some x)
    (h : ∀ Q : D → AHeap → Prop, (∀ d H', (rsvT H' d = r ∨ nzT (rsvT H' d) = r) → Q d H') → AWp Tryz.prog cfg x (retQ Tryz.prog fn.results.toList Q) (envP args) .emp)
    (hcl : r.cl = true := by first | rfl | (simp [go_sem]; done)) (hnm : (fn.name == "runtime.NumGoroutine") = false := by rfl) (hlen : args.length ≤ fn.ntmps := by exact nlb rfl) (hok : codeOK cfg fn.ntmps x = true := by kernel_rfl) : Pure Tryz.prog f args r :=
  pureK hcl fun Q hQ => acalls_of_body mixed hf hb hnm hlen hok (h Q hQ)
theorem oK {f : FuncId} {fn : Func} {x : Code} {args : List D} {ty : TypeId} {sz : Nat} {es : List (List D)} (cfg : Cfg) (hf : Tryz.prog.funcs[f]? = some fn) (hb : fn.body = some x)
    (h : ∀ Q : D → AHeap → Prop, (∀ id n H', n = es.length → H'.get id = some ⟨ty, sz, es, false⟩ → Q (.own id n) H') → AWp Tryz.prog cfg x (retQ Tryz.prog fn.results.toList Q) (envP args) .emp)
    (hcl : D.clLL es = true := by first | rfl | (simp [go_sem]; done)) (hnm : (fn.name == "runtime.NumGoroutine") = false := by rfl) (hlen : args.length ≤ fn.ntmps := by exact nlb rfl) (hok : codeOK cfg fn.ntmps x = true := by kernel_rfl) : Own Tryz.prog f args ty sz es :=
  ownK hcl fun Q hQ => acalls_of_body mixed hf hb hnm hlen hok (h Q hQ)
end Go.Abs.Tz
end
