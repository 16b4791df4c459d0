/- The abstraction layer, part S: whole bodies, functions, cont -/
import Derived.Test.YthnegcfdjjhfgaaGreatZmD
set_option linter.unusedVariables false
set_option linter.unusedSimpArgs false
section
namespace Go.Abs
abbrev Env := Nat → D
structure Cfg where
  own : Nat → Bool
  sp : Nat → List (Nat × Nat)
def ghost (H : AHeap) (id i off : Nat) (ty sz : Nat) : AHeap :=
  match H.get id with
  | some k => (H.put id { k with es := k.es.set i ((k.es[i]?.getD []).set off (.own H.next 0)) }).push H.next ⟨ty, sz, [], false⟩
  | none => H
inductive Ghosts : AHeap → AHeap → Prop
  | refl (H : AHeap) : Ghosts H H
  | step {H H1 : AHeap} (h : Ghosts H H1) (id i off ty sz : Nat) (k : Blk) (c : List D) (hk : H1.get id = some k) (hf : k.fz = false) (hc : k.es[i]? = some c) (hn : c[off]? = some .nil) : Ghosts H (ghost H1 id i off ty sz)
def thenQ (next : Env → AHeap → Prop) (Q : Exit → Env → AHeap → Prop) : Exit → Env → AHeap → Prop
  | .normal, e, H => next e H
  | ex, e, H => Q ex e H
def blockQ (id : Nat) (Q : Exit → Env → AHeap → Prop) : Exit → Env → AHeap → Prop
  | .exit id', e, H => if id' = id then Q .normal e H else Q (.exit id') e H
  | ex, e, H => Q ex e H
def AWp (P : Program) (c : Cfg) : Code → (Exit → Env → AHeap → Prop) → Env → AHeap → Prop
  | .skip, Q, e, H => Q .normal e H
  | .region id ops dr, Q, e, H =>
    if dr then aDraw P c.own ops (c.sp id) H.next 0 ops.toList [] e { H with next := H.next + ops.size } (Q .normal)
    else aOps P c.own ops ops.toList e H (Q .normal)
  | .seq a b, Q, e, H => AWp P c a (thenQ (AWp P c b Q) Q) e H
  | .cond x a b, Q, e, H => match evD e x with
    | .bool t => (t = true → AWp P c a Q e H) ∧ (t = false → AWp P c b Q e H)
    | _ => False
  | .block id b, Q, e, H => AWp P c b (blockQ id Q) e H
  | .loop b, Q, e, H => ∃ I : Nat → Env → AHeap → Prop, (∃ H', Ghosts H H' ∧ ∃ k, I k e H') ∧ ∀ k e' H', I k e' H' → AWp P c b (thenQ (fun e'' H'' => ∃ k', k' < k ∧ I k' e'' H'') Q) e' H'
  | .exit id, Q, e, H => Q (.exit id) e H
  | .ret, Q, e, H => Q .ret e H
  | _, _, _, _ => False
def codeOK (c : Cfg) (n : Nat) : Code → Bool
  | .region id ops dr => (ops.toList.all fun o => dstOK n o.dst) && (!dr || suspOK c.own ops (c.sp id))
  | .seq a b => codeOK c n a && codeOK c n b
  | .cond _ a b => codeOK c n a && codeOK c n b
  | .block _ b => codeOK c n b
  | .loop b => codeOK c n b
  | _ => true
section
variable {P : Program} {c : Cfg} {n : Nat} {M0 : Nat → Prop}
theorem Code.wp_weak {x : Code} {Q Q' : Exit → Act → World → Prop} {a : Act} {w : World} (h : x.wp P Q a w) (hq : ∀ e a w, Q e a w → Q' e a w) : x.wp P Q' a w := wp_mono h hq
theorem exists_least {p : Nat → Prop} (h : ∃ k, p k) : ∃ k, p k ∧ ∀ j, j < k → ¬ p j := by
  obtain ⟨k, hk⟩ := h
  induction k using Nat.strongRecOn with
  | _ k ih =>
    by_cases hj : ∃ j, j < k ∧ p j
    · obtain ⟨j, hlt, hp⟩ := hj
      exact ih j hlt hp
    · exact ⟨k, hk, fun j hlt hp => hj ⟨j, hlt, hp⟩⟩
def CameX (n : Nat) (M0 : Nat → Prop) (H0 : AHeap) (σ0 : Nat → Option Ow) (w0 : World) (Q : Exit → Env → AHeap → Prop) (ex : Exit) (a : Act) (w : World) : Prop := Came n M0 H0 σ0 w0 (Q ex) a w
theorem flatten_set1 {sz : Nat} (d : D) (off : Nat) (c : List D) : ∀ (es : List (List D)) (i : Nat), (∀ c ∈ es, c.length = sz) → es[i]? = some c → off < sz → (es.set i (c.set off d)).flatten = es.flatten.set (i * sz + off) d
  | [], i, _, h, _ => by simp at h
  | a :: es, 0, hl, h, ho => by
    simp at h; subst h
    have := hl a (by simp)
    simp only [List.set_cons_zero, List.flatten_cons, Nat.zero_mul, Nat.zero_add]
    rw [List.set_append_left _ _ (by omega)]
  | a :: es, i + 1, hl, h, ho => by
    have ha := hl a (by simp)
    simp at h
    have ih := flatten_set1 d off c es i (fun c hc => hl c (by simp [hc])) h ho
    simp only [List.set_cons_succ, List.flatten_cons, ih]
    rw [List.set_append_right _ _ (by rw [Nat.add_mul]; omega)]
    congr 2
    rw [ha, Nat.add_mul]; omega
theorem ghost_sound {H : AHeap} {σ : Nat → Option Ow} {w : World} (hR : Rel M0 H σ w) {id i off ty sz : Nat} {k : Blk} {c0 : List D} (hk : H.get id = some k) (hf : k.fz = false) (hc : k.es[i]? = some c0) (hn : c0[off]? = some .nil) :
    ∃ σ', Rel M0 (ghost H id i off ty sz) σ' w ∧ Stp σ w σ' w ∧ Keeps (Mut M0 H σ) σ H.al w (Mut M0 (ghost H id i off ty sz) σ') σ' (ghost H id i off ty sz).al w := by
  have hal : ¬ H.al H.next := fun h => Nat.lt_irrefl _ (hR.nxt _ h)
  have hid : H.al id := Classical.byContradiction fun hn => by rw [(hR.top id hn).2] at hk; cases hk
  have hne : id ≠ H.next := fun h => hal (h ▸ hid)
  obtain ⟨p1, p2, p3⟩ := Rel.push hR H.next hal (w' := w) rfl rfl rfl (Nat.le_refl _) (fun _ _ => rfl) ⟨ty, sz, [], false⟩ ⟨0, .slice none 0 0, sz, ty⟩ (fun b hb => by simp [Ow.block, Value.ownBlock] at hb) rfl rfl rfl (fun c hc => by simp at hc) []
    ⟨by simp, .inl ⟨rfl, rfl⟩⟩ (by simp) ⟨rfl, fun j u d hu => by simp at hu⟩
  obtain ⟨o, ho, l⟩ := hR.lies id k hk
  obtain ⟨xs, hrow, hx1, hrep⟩ := l.row
  have hk1 : (H.push H.next ⟨ty, sz, [], false⟩).get id = some k := by simp [AHeap.push, hne, hk]
  have ho1 : (fun i => if i = H.next then some (⟨0, .slice none 0 0, sz, ty⟩ : Ow) else σ i) id = some o := by simp [hne, ho]
  have hlen0 := l.esz c0 (List.mem_of_getElem? hc)
  have hoff : off < o.esz := by rw [← hlen0]; exact (List.getElem?_eq_some_iff.1 hn).1
  have hesz' : ∀ c ∈ k.es.set i (c0.set off (.own H.next 0)), c.length = o.esz := fun c hc' => by
    rcases List.mem_or_eq_of_mem_set hc' with h | h
    · exact l.esz c h
    · subst h; simp [hlen0]
  have hfl := flatten_set1 (D.own H.next 0) off c0 k.es i l.esz hc hoff
  obtain ⟨q1, q2, q3⟩ := Rel.put p1 hk1 hf ho1 { k with es := k.es.set i (c0.set off (.own H.next 0)) } o ⟨rfl, rfl, rfl, Nat.le_refl _, fun _ _ _ => rfl⟩ (fun b hb => .inl hb) (.inl rfl) (by simp [l.ver]) l.ty l.sz hesz' xs (by simpa using hrow) hx1 (by
      have hrep' := hrep.keep p3
      simp only
      rw [hfl]
      refine ⟨by simpa using hrep'.len, fun j u d hu hd => ?_⟩
      rw [List.getElem?_set] at hd
      split at hd
      · rename_i hj
        split at hd
        · cases hd
          have hold : k.es.flatten[j]? = some .nil := by
            rw [← hj, flatten_at k.es i c0 l.esz hc off hoff]; exact hn
          have hv := hrep'.rep j u _ hu hold
          cases hv
          exact .own _ _ _ (.inl rfl) rfl fun o' ho' => by simp at ho'; subst ho'; exact .inr ⟨rfl, rfl⟩
        · cases hd
      · exact hrep'.rep j u d hu hd)
  have hg : ghost H id i off ty sz = (H.push H.next ⟨ty, sz, [], false⟩).put id { k with es := k.es.set i (c0.set off (.own H.next 0)) } := by
    simp only [ghost, hk, hc, Option.getD_some]
    unfold AHeap.push AHeap.put
    congr 1
    funext j
    by_cases h1 : j = H.next
    · simp [h1, Ne.symm hne]
    · simp [h1]
  rw [hg]
  exact ⟨_, q1, p2.trans q2, p3.trans q3⟩
theorem ghosts_sound {H H' : AHeap} (hg : Ghosts H H') {σ : Nat → Option Ow} {w : World} (hR : Rel M0 H σ w) : ∃ σ', Rel M0 H' σ' w ∧ Stp σ w σ' w ∧ Keeps (Mut M0 H σ) σ H.al w (Mut M0 H' σ') σ' H'.al w := by
  induction hg with
  | refl => exact ⟨σ, hR, .refl _ _, .refl _ _ _ _⟩
  | step h id i off ty sz k c hk hf hc hn ih =>
    obtain ⟨σ1, h1, h2, h3⟩ := ih
    obtain ⟨σ2, h4, h5, h6⟩ := ghost_sound (ty := ty) (sz := sz) h1 hk hf hc hn
    exact ⟨σ2, h4, h2.trans h5, h3.trans h6⟩
theorem St.keeps {H H' : AHeap} {σ σ' : Nat → Option Ow} {w : World} {e : Env} {a : Act} (hS : St n M0 H σ w e a) (hR : Rel M0 H' σ' w) (hk : Keeps (Mut M0 H σ) σ H.al w (Mut M0 H' σ') σ' H'.al w) : St n M0 H' σ' w e a :=
  ⟨hR, fun t => (hS.env t).keep hk, hS.defers, hS.size⟩
theorem awp_sound (hm : P.follows .mixedOrders = true) : ∀ (x : Code) (Q : Exit → Env → AHeap → Prop) (e : Env) (H : AHeap), AWp P c x Q e H → codeOK c n x = true →
    ∀ (σ : Nat → Option Ow) (w : World) (a : Act), St n M0 H σ w e a → x.wp P (CameX n M0 H σ w Q) a w
  | .skip, Q, e, H, h, _, σ, w, a, hS => wp_skip ⟨e, H, σ, h, hS, .refl _ _, .refl _ _ _ _⟩
  | .region id ops dr, Q, e, H, h, hok, σ, w, a, hS => by
    simp only [codeOK, Bool.and_eq_true, List.all_eq_true, Bool.or_eq_true, Bool.not_eq_true'] at hok
    unfold AWp at h
    cases dr with
    | false =>
      simp only [Bool.false_eq_true, if_false] at h
      exact wp_region_list (aOps_sound ops.toList e H _ h hok.1 σ w a hS fun a' w' hc => hc)
    | true =>
      simp only [if_true] at h
      exact draw_sound hm (hok.2.resolve_left (by simp)) hok.1 h hS fun a' w' hc => hc
  | .seq x y, Q, e, H, h, hok, σ, w, a, hS => by
    simp only [codeOK, Bool.and_eq_true] at hok
    unfold AWp at h
    refine wp_seq (Code.wp_weak (awp_sound hm x _ e H h hok.1 σ w a hS) fun ex a' w' hc => ?_)
    cases ex <;> first | exact hc | skip
    obtain ⟨e', H', σ', hq, hS', hst, hk⟩ := hc
    exact Code.wp_weak (awp_sound hm y Q e' H' hq hok.2 σ' w' a' hS') fun ex a'' w'' hc' => Came.trans hst hk hc'
  | .cond x y z, Q, e, H, h, hok, σ, w, a, hS => by
    simp only [codeOK, Bool.and_eq_true] at hok
    unfold AWp at h
    have hx := hS.envR.ev x
    cases hv : evD e x <;> simp only [hv] at h <;> try (exact h.elim)
    rename_i t
    rw [hv] at hx
    have hc : a.eval x = .bool t := by generalize a.eval x = v at hx; cases hx; rfl
    exact wp_cond_split hc (fun ht => awp_sound hm y Q e H (h.1 ht) hok.1 σ w a hS) fun ht => awp_sound hm z Q e H (h.2 ht) hok.2 σ w a hS
  | .block id b, Q, e, H, h, hok, σ, w, a, hS => by
    unfold AWp at h
    refine wp_block (Code.wp_weak (awp_sound hm b _ e H h hok σ w a hS) fun ex a' w' hc => ?_)
    cases ex <;> first | exact hc | skip
    rename_i id'
    by_cases hid : id' = id
    · subst hid
      show (if id' = id' then CameX n M0 H σ w Q .normal a' w' else _)
      rw [if_pos rfl]
      exact Came.mono hc fun e' H' h => by
        have h' : (if id' = id' then Q .normal e' H' else Q (.exit id') e' H') := h
        rw [if_pos rfl] at h'; exact h'
    · show (if id' = id then CameX n M0 H σ w Q .normal a' w' else CameX n M0 H σ w Q (.exit id') a' w')
      rw [if_neg hid]
      exact Came.mono hc fun e' H' h => by
        have h' : (if id' = id then Q .normal e' H' else Q (.exit id') e' H') := h
        rw [if_neg hid] at h'; exact h'
  | .loop b, Q, e, H, h, hok, σ, w, a, hS => by
    unfold AWp at h
    obtain ⟨I, ⟨H1, hgh, k0, h0⟩, hI⟩ := h
    obtain ⟨σ1, g1, g2, g3⟩ := ghosts_sound hgh hS.rel
    have hS1 := hS.keeps g1 g3
    let J : Nat → Act → World → Prop := fun k a' w' => Came n M0 H σ w (I k) a' w'
    have hJ0 : J k0 a w := ⟨e, H1, σ1, h0, hS1, g2, g3⟩
    classical
    let μ : Act → World → Nat := fun a' w' => if hx : ∃ k, J k a' w' then Classical.choose (exists_least hx) else 0
    refine wp_loop (fun a' w' => ∃ k, J k a' w') μ ⟨k0, hJ0⟩ fun a' w' hx => ?_
    have hμ : μ a' w' = Classical.choose (exists_least hx) := by simp only [μ, dif_pos hx]
    obtain ⟨e', H', σ', hi, hS', hst, hk⟩ := (Classical.choose_spec (exists_least hx)).1
    refine Code.wp_weak (awp_sound hm b _ e' H' (hI _ e' H' hi) hok σ' w' a' hS') fun ex a'' w'' hc => ?_
    have hc' := Came.trans hst hk hc
    cases ex <;> first | exact hc' | skip
    obtain ⟨e2, H2, σ2, ⟨k', hlt, hk'⟩, rest⟩ := hc'
    have hx2 : ∃ k, J k a'' w'' := ⟨k', e2, H2, σ2, hk', rest⟩
    refine ⟨hx2, ?_⟩
    have : μ a'' w'' = Classical.choose (exists_least hx2) := by simp only [μ, dif_pos hx2]
    rw [this, hμ]
    refine Nat.lt_of_le_of_lt ?_ hlt
    rcases Nat.lt_or_ge k' (Classical.choose (exists_least hx2)) with hlt' | hge
    · exact absurd ⟨e2, H2, σ2, hk', rest⟩ ((Classical.choose_spec (exists_least hx2)).2 k' hlt')
    · exact hge
  | .exit id, Q, e, H, h, _, σ, w, a, hS => wp_exit ⟨e, H, σ, h, hS, .refl _ _, .refl _ _ _ _⟩
  | .ret, Q, e, H, h, _, σ, w, a, hS => wp_ret ⟨e, H, σ, h, hS, .refl _ _, .refl _ _ _ _⟩
  | .rangeFunc .., Q, e, H, h, _, _, _, _, _ => h.elim
  | .scope .., Q, e, H, h, _, _, _, _, _ => h.elim
  | .label .., Q, e, H, h, _, _, _, _, _ => h.elim
  | .goto .., Q, e, H, h, _, _, _, _, _ => h.elim
  | .refuse .., Q, e, H, h, _, _, _, _, _ => h.elim
end
end Go.Abs
end
section
namespace Go.Abs
def aRes (P : Program) : List ResultVar → Env → AHeap → (List D → Prop) → Prop
  | [], _, _, K => K []
  | .tmp t :: r, e, H, K => aRes P r e H fun l => K (e t :: l)
  | .cell a ty :: r, e, H, K => (aLoad P ty (e a) H).cond ∧ aRes P r e H fun l => K ((aLoad P ty (e a) H).val :: l)
def tupD : List D → D
  | [d] => d
  | l => .tup l
def retQ (P : Program) (rs : List ResultVar) (Q : D → AHeap → Prop) : Exit → Env → AHeap → Prop
  | .normal, e, H => aRes P rs e H fun l => Q (tupD l) H
  | .ret, e, H => aRes P rs e H fun l => Q (tupD l) H
  | _, _, _ => False
def envP (args : List D) : Env := fun t => args.getD t .junk
def resSem (tmps : Array Value) : ResultVar → Sem Value
  | .tmp t => Pure.pure (tmps.getD t undef)
  | .cell x t => do loadVar t (← asAddr (tmps.getD x undef))
section
variable {P : Program} {M0 : Nat → Prop} {H : AHeap} {σ : Nat → Option Ow} {w : World} {n : Nat} {e : Env} {a : Act}
theorem aRes_sound (hS : St n M0 H σ w e a) : ∀ (rs : List ResultVar) (K : List D → Prop), aRes P rs e H K →
    ∃ vs l, Sem.run P (rs.mapM (resSem a.tmps)) w = Result.ok vs w ∧ RepL (Mut M0 H σ) σ H.al w vs l ∧ K l
  | [], K, h => ⟨[], [], by simp, ⟨rfl, fun j u d hu => by simp at hu⟩, h⟩
  | .tmp t :: rs, K, h => by
    obtain ⟨vs, l, h1, h2, h3⟩ := aRes_sound hS rs _ h
    refine ⟨a.tmps.getD t undef :: vs, e t :: l, by simp [List.mapM_cons, resSem, h1], ⟨by simp [h2.len], fun j u d hu hd => ?_⟩, h3⟩
    cases j with
    | zero => simp only [List.getElem?_cons_zero, Option.some.injEq] at hu hd; subst hu; subst hd; exact hS.env t
    | succ j => exact h2.rep j u d (by simpa using hu) (by simpa using hd)
  | .cell x t :: rs, K, h => by
    obtain ⟨vs, l, h1, h2, h3⟩ := aRes_sound hS rs _ h.2
    obtain ⟨_, _, v, hr, hv⟩ := load_run (P := P) hS.rel (hS.env x) h.1
    have hld : Sem.run P (resSem a.tmps (.cell x t)) w = .ok v w := by
      simp only [resSem]
      unfold Instr.loadAt at hr
      generalize a.tmps.getD x undef = q at hr ⊢
      cases q with
      | pointer p => cases p with
        | some ad => simpa [Instr.sureAddr, asAddr] using hr
        | none => simp [Instr.sureAddr, stuck] at hr
      | _ => simp [Instr.sureAddr, stuck] at hr
    refine ⟨v :: vs, _ :: l, by simp [List.mapM_cons, hld, h1], ⟨by simp [h2.len], fun j u d hu hd => ?_⟩, h3⟩
    cases j with
    | zero => simp only [List.getElem?_cons_zero, Option.some.injEq] at hu hd; subst hu; subst hd; exact hv
    | succ j => exact h2.rep j u d (by simpa using hu) (by simpa using hd)
theorem results_run {fn : Func} {vs : List Value} {l : List D} (h : Sem.run P (fn.results.toList.mapM (resSem a.tmps)) w = .ok vs w) (hrep : RepL (Mut M0 H σ) σ H.al w vs l) :
    ∃ v, (results fn a.tmps).run P w = .ok v w ∧ RepV (Mut M0 H σ) σ H.al w v (tupD l) := by
  have hres : results fn a.tmps = (do let vs ← fn.results.mapM (resSem a.tmps); Pure.pure (if h : vs.size = 1 then vs[0] else .tuple vs)) := rfl
  rw [hres, Array.mapM_eq_mapM_toList]
  refine ⟨if h : vs.toArray.size = 1 then vs.toArray[0] else .tuple vs.toArray, by simp [h], ?_⟩
  by_cases h1 : vs.length = 1
  · match vs, h1, hrep with
    | [v], _, hrep =>
      match l, hrep with
      | [d], hrep => simpa [tupD] using hrep.rep 0 v d rfl rfl
      | [], hrep => have := hrep.len; simp at this
      | _ :: _ :: _, hrep => have := hrep.len; simp at this
  · have hsz : ¬ vs.toArray.size = 1 := by simpa using h1
    rw [dif_neg hsz]
    have hl : tupD l = .tup l := by
      match l, hrep with
      | [], _ => rfl
      | [d], hrep => have := hrep.len; simp at this; exact absurd this h1
      | _ :: _ :: _, _ => rfl
    rw [hl]
    exact .tup vs l hrep.len hrep.rep
theorem acalls_of_body {f : FuncId} {fn : Func} {x : Code} {cfg : Cfg} {args : List D} {Q : D → AHeap → Prop} (hm : P.follows .mixedOrders = true) (hf : P.funcs[f]? = some fn) (hb : fn.body = some x)
    (hnm : (fn.name == "runtime.NumGoroutine") = false) (hlen : args.length ≤ fn.ntmps) (hok : codeOK cfg fn.ntmps x = true)
    (h : AWp P cfg x (retQ P fn.results.toList Q) (envP args) H) : ACalls P f args H Q := by
  refine ⟨⟨fn, hf, hnm, by simp [hb]⟩, fun M0 σ w vals hR ha => calls_of_wp hf hb ?_⟩
  have hS : St fn.ntmps M0 H σ w (envP args) { tmps := vals.toArray ++ Array.replicate (fn.ntmps - vals.toArray.size) undef, defers := [] } := by
    refine ⟨hR, fun t => ?_, rfl, by simp [ha.len]; omega⟩
    simp only [envP]
    by_cases ht : t < vals.length
    · have h1 : vals[t]? = some vals[t] := lge ht
      have h2 : args[t]? = some (args[t]'(by rw [← ha.len]; exact ht)) := lge _
      have := ha.rep t _ _ h1 h2
      rw [List.getD_eq_getElem?_getD, h2]
      simp only [Option.getD_some, Array.getD_eq_getD_getElem?]
      rw [Array.getElem?_append_left (by simpa using ht)]
      simpa [h1] using this
    · rw [List.getD_eq_getElem?_getD, List.getElem?_eq_none (by rw [← ha.len]; omega)]
      exact .junk _
  refine Code.wp_weak (awp_sound hm x _ _ H h hok σ w _ hS) fun ex a' w' hc => ?_
  obtain ⟨e', H', σ', hq, hS', hst, hk⟩ := hc
  have fin : aRes P fn.results.toList e' H' (fun l => Q (tupD l) H') → a'.defers = [] ∧ ∃ v, (results fn a'.tmps).run P w' = .ok v w' ∧
      ∃ v2 d H2 σ2, Ending.returned v = .returned v2 ∧ Rel M0 H2 σ2 w' ∧ RepV (Mut M0 H2 σ2) σ2 H2.al w' v2 d ∧ Stp σ w σ2 w' ∧ Keeps (Mut M0 H σ) σ H.al w (Mut M0 H2 σ2) σ2 H2.al w' ∧ Q d H2 := by
    intro hq
    obtain ⟨vs, l, h1, h2, h3⟩ := aRes_sound hS' _ _ hq
    obtain ⟨v, hv1, hv2⟩ := results_run (fn := fn) h1 h2
    exact ⟨hS'.defers, v, hv1, v, _, H', σ', rfl, hS'.rel, hv2, hst, hk, h3⟩
  cases ex <;> first | exact fin hq | exact hq.elim
end
/-! ### pure contracts -/
theorem D.clL_of {l : List D} (h : ∀ d ∈ l, d.cl = true) : D.clL l = true := by
  induction l with
  | nil => rfl
  | cons a l ih => simp [D.clL, h a (by simp), ih fun d hd => h d (by simp [hd])]
def noRef : Nat → Option Ow := fun _ => none
def noId : Nat → Prop := fun _ => False
def Pure (P : Program) (f : FuncId) (args : List D) (r : D) : Prop :=
  Ent P f ∧ ∀ (M : Nat → Prop) (w : World) (vals : List Value), (∀ b, M b → b < w.heap.size) → RepL M noRef noId w vals args →
    Calls P f vals.toArray w fun e w' => ∃ v, e = .returned v ∧ RepV M noRef noId w' v r ∧ RowKit.Below w.heap.size w w'
def Own (P : Program) (f : FuncId) (args : List D) (ty : TypeId) (sz : Nat) (es : List (List D)) : Prop :=
  Ent P f ∧ ∀ (M : Nat → Prop) (w : World) (vals : List Value), (∀ b, M b → b < w.heap.size) → RepL M noRef noId w vals args →
    Calls P f vals.toArray w fun e w' => ∃ v xs, e = .returned v ∧ w'.ownsRow w.heap.size ty sz v es.length xs ∧ (∀ u ∈ xs, u.oneCell' = true) ∧ RepL (fun b => M b ∨ v.ownBlock = some b) noRef noId w' xs es.flatten ∧ D.clLL es = true ∧ (∀ c ∈ es, c.length = sz) ∧
      RowKit.Below w.heap.size w w'
def rsvT (H : AHeap) : D → D
  | .tup vs => .tup (vs.map (rsvD H))
  | d => rsvD H d
def ownT : D → List Nat
  | .tup vs => vs.flatMap ownIds
  | d => ownIds d
section
variable {P : Program} {M0 : Nat → Prop} {H : AHeap} {σ : Nat → Option Ow} {w : World}
theorem rsvT_frozen {v : Value} {d : D} (hR : Rel M0 H σ w) (hx : RepV (Mut M0 H σ) σ H.al w v d) (ids : List Nat) (hi : ∀ i ∈ ownT d, i ∈ ids) :
    RepV (Mut M0 (frzs ids H) σ) σ (frzs ids H).al w v (rsvT H d) := by
  cases d with
  | tup vs =>
    cases hx
    rename_i xs hl hr
    refine .tup xs _ (by simpa using hl) fun j u x hu hx => ?_
    rw [List.getElem?_map, Option.map_eq_some_iff] at hx
    obtain ⟨y, hy, rfl⟩ := hx
    exact rsvD_frozen hR (hr j u y hu hy) ids fun i hii => hi i (by simp only [ownT, List.mem_flatMap]; exact ⟨y, List.mem_of_getElem? hy, hii⟩)
  | _ => exact rsvD_frozen hR hx ids hi
theorem mut_emp (M : Nat → Prop) : Mut M .emp noRef = M := by
  funext b
  exact propext ⟨fun h => h.elim (fun h => h) fun ⟨_, _, _, h, _⟩ => by simp [AHeap.emp] at h, .inl⟩
theorem rel_emp (M : Nat → Prop) (w : World) (hM : ∀ b, M b → b < w.heap.size) : Rel M .emp noRef w :=
  ⟨fun _ _ => ⟨rfl, rfl⟩, fun _ h => h.elim, fun _ _ h => by simp [AHeap.emp] at h, fun _ _ _ _ _ h => by simp [noRef] at h, fun _ _ _ h => by simp [noRef] at h, hM⟩
theorem stp_below {σ' : Nat → Option Ow} {w' : World} (h : Stp noRef w σ' w') : RowKit.Below w.heap.size w w' :=
  ⟨h.os, h.tape, h.output, h.size, fun b hb => h.old b hb fun _ _ h => by simp [noRef] at h⟩
theorem pure_of_calls {f : FuncId} {args : List D} {r : D} (h : ACalls P f args .emp fun d H' => rsvT H' d = r ∧ r.cl = true) : Pure P f args r := by
  refine ⟨h.1, fun M w vals hM ha => (h.2 M noRef w vals (rel_emp M w hM) (by rw [mut_emp]; exact ha)).mono fun e w' ⟨v, d, H', σ', he, hR, hv, hst, hk, hr, hcl⟩ => ⟨v, he, ?_, stp_below hst⟩⟩
  have h1 := rsvT_frozen hR hv (ownT d) fun i hi => hi
  rw [hr] at h1
  exact h1.closed (fun ad u hm hc => ⟨fun h => hm (.inl h), hc⟩) hcl
theorem own_of_calls {f : FuncId} {args : List D} {ty : TypeId} {sz : Nat} {es : List (List D)}
    (h : ACalls P f args .emp fun d H' => ∃ id k, d = .own id es.length ∧ H'.get id = some k ∧ k.es = es ∧ k.ty = ty ∧ k.sz = sz ∧ k.fz = false ∧ D.clLL es = true) : Own P f args ty sz es := by
  refine ⟨h.1, fun M w vals hM ha => (h.2 M noRef w vals (rel_emp M w hM) (by rw [mut_emp]; exact ha)).mono fun e w' ⟨v, d, H', σ', he, hR, hv, hst, hk, id, k, hd, hget, h1, h2, h3, hfz, hcl⟩ => ?_⟩
  subst hd; subst h1; subst h2; subst h3
  obtain ⟨o, ho, l⟩ := hR.lies id k hget
  obtain ⟨xs, hrow, hx1, hrep⟩ := l.row
  cases hv
  rename_i _ _ hval
  rcases hval o ho with hlt | ⟨_, rfl⟩
  · have := l.ver; omega
  · refine ⟨o.val, xs, he, ?_, hx1, ⟨hrep.len, fun j u d hu hd => (hrep.rep j u d hu hd).closed (fun ad u hm hc => ⟨fun h => hm (h.elim .inl fun h => .inr ⟨id, k, o, hget, hfz, ho, h⟩), hc⟩) ?_⟩, hcl, fun c hc => (l.esz c hc).trans l.sz, stp_below hst⟩
    · rw [← l.sz]
      refine ⟨hrow.1, ?_⟩
      rcases hrow.2 with hn | ⟨g, cap, cur, h1, _, h3⟩
      · exact .inl hn
      · refine .inr ⟨g, cap, cur, h1, ?_, h3⟩
        rcases hst.new id o g ho (by simp [Ow.block, h1, Value.ownBlock]) with h | ⟨o', h, _⟩
        · exact h
        · simp [noRef] at h
    · obtain ⟨c, hcm, hxm⟩ := List.mem_flatten.1 (List.mem_of_getElem? hd)
      exact D.clL_mem (D.clLL_mem hcl c hcm) d hxm
theorem keeps_noRef {M : Nat → Prop} {N : Nat → Prop} : Keeps M noRef noId w M σ N w := ⟨fun _ _ h k => ⟨h, k⟩, fun _ _ h => h.elim, fun _ h => h.elim⟩
theorem repL_closed {M M' : Nat → Prop} {N N' : Nat → Prop} {σ' : Nat → Option Ow} (hM : ∀ b, ¬ M b → ¬ M' b) {vs : List Value} {ds : List D} (h : RepL M σ N w vs ds) (hc : D.clL ds = true) : RepL M' σ' N' w vs ds :=
  ⟨h.len, fun j u d hu hd => (h.rep j u d hu hd).closed (fun ad u hm hc => ⟨hM _ hm, hc⟩) (D.clL_mem hc d (List.mem_of_getElem? hd))⟩
theorem mut_lt (hR : Rel M0 H σ w) : ∀ b, Mut M0 H σ b → b < w.heap.size := by
  rintro b (h | ⟨i, k, o, _, _, ho, hb⟩)
  · exact hR.m0 b h
  · exact (hR.lt i o b ho hb).1
theorem ACalls.pure0 {f : FuncId} {args : List D} {r : D} {Q : D → AHeap → Prop} (hp : Pure P f args r) (hcl : D.clL args = true) (hQ : Q r H) : ACalls P f args H Q := by
  refine ⟨hp.1, fun M0 σ w vals hR ha => (hp.2 (Mut M0 H σ) w vals (mut_lt hR) (repL_closed (fun _ h => h) ha hcl)).mono fun e w' ⟨v, he, hv, hb⟩ => ?_⟩
  obtain ⟨h1, h2, h3⟩ := hR.grow hb.os hb.tape hb.output hb.size hb.block
  exact ⟨v, r, H, σ, he, h1, hv.keep keeps_noRef, h2, h3, hQ⟩
theorem repL_rsv {M0 : Nat → Prop} (hR : Rel M0 H σ w) {vals : List Value} {args : List D} (ha : RepL (Mut M0 H σ) σ H.al w vals args) (ids : List Nat) (hi : ∀ i ∈ args.flatMap ownIds, i ∈ ids) :
    RepL (Mut M0 (frzs ids H) σ) σ (frzs ids H).al w vals (args.map (rsvD H)) :=
  ⟨by simpa using ha.len, fun j u d hu hd => by
    rw [List.getElem?_map, Option.map_eq_some_iff] at hd
    obtain ⟨y, hy, rfl⟩ := hd
    exact rsvD_frozen hR (ha.rep j u y hu hy) ids fun i hii => hi i (List.mem_flatMap.2 ⟨y, List.mem_of_getElem? hy, hii⟩)⟩
def D.flat1 : D → Bool
  | .int .. | .bool _ | .str _ | .nil | .nilp | .nilf => true
  | _ => false
def D.flat : D → Bool
  | .tup vs => vs.all D.flat1
  | d => d.flat1
theorem flat1_rep {M M' : Nat → Prop} {N N' : Nat → Prop} {σ σ' : Nat → Option Ow} {w w' : World} {v : Value} {d : D} (h : RepV M σ N w v d) (hf : d.flat1 = true) : RepV M' σ' N' w' v d := by
  cases h <;> first | (simp [D.flat1] at hf; done) | constructor
theorem flat_rep {M M' : Nat → Prop} {N N' : Nat → Prop} {σ σ' : Nat → Option Ow} {w w' : World} {v : Value} {d : D} (h : RepV M σ N w v d) (hf : d.flat = true) : RepV M' σ' N' w' v d := by
  cases d with
  | tup vs =>
    cases h
    rename_i xs hl hr
    simp only [D.flat, List.all_eq_true] at hf
    exact .tup xs vs hl fun j u x hu hx => flat1_rep (hr j u x hu hx) (hf x (List.mem_of_getElem? hx))
  | _ => exact flat1_rep h hf
theorem ACalls.pureF {f : FuncId} {args : List D} {r : D} {Q : D → AHeap → Prop} (hp : Pure P f (args.map (rsvD H)) r) (hcl : D.clL (args.map (rsvD H)) = true) (hf : r.flat = true) (hQ : Q r H) : ACalls P f args H Q := by
  refine ⟨hp.1, fun M0 σ w vals hR ha => ?_⟩
  obtain ⟨f1, f2, f3, f4⟩ := frzs_sound (args.flatMap ownIds) hR
  refine (hp.2 (Mut M0 (frzs (args.flatMap ownIds) H) σ) w vals (mut_lt f1) (repL_closed (fun _ h => h) (repL_rsv hR ha _ fun i h => h) hcl)).mono fun e w' ⟨v, he, hv, hb⟩ => ?_
  obtain ⟨h1, h2, h3⟩ := hR.grow hb.os hb.tape hb.output hb.size hb.block
  exact ⟨v, r, H, σ, he, h1, flat_rep hv hf, h2, h3, hQ⟩
theorem ACalls.pureZ {f : FuncId} {args : List D} {r : D} {Q : D → AHeap → Prop} (hp : Pure P f (args.map (rsvD H)) r) (hcl : D.clL (args.map (rsvD H)) = true) (hQ : Q r (frzs (args.flatMap ownIds) H)) : ACalls P f args H Q := by
  refine ⟨hp.1, fun M0 σ w vals hR ha => ?_⟩
  obtain ⟨f1, f2, f3, f4⟩ := frzs_sound (args.flatMap ownIds) hR
  refine (hp.2 (Mut M0 (frzs (args.flatMap ownIds) H) σ) w vals (mut_lt f1) (repL_closed (fun _ h => h) (repL_rsv hR ha _ fun i h => h) hcl)).mono fun e w' ⟨v, he, hv, hb⟩ => ?_
  obtain ⟨h1, h2, h3⟩ := f1.grow hb.os hb.tape hb.output hb.size hb.block
  exact ⟨v, r, _, σ, he, h1, hv.keep keeps_noRef, h2, f2.trans h3, hQ⟩
theorem ACalls.own0 {f : FuncId} {args : List D} {ty : TypeId} {sz : Nat} {es : List (List D)} {Q : D → AHeap → Prop} (hp : Own P f args ty sz es) (hcl : D.clL args = true)
    (hQ : Q (.own H.next es.length) (H.push H.next ⟨ty, sz, es, false⟩)) : ACalls P f args H Q := by
  refine ⟨hp.1, fun M0 σ w vals hR ha => (hp.2 (Mut M0 H σ) w vals (mut_lt hR) (repL_closed (fun _ h => h) ha hcl)).mono fun e w' ⟨v, xs, he, hrow, h1, hrep, hcll, hsz, hb⟩ => ?_⟩
  have hrow0 : w'.ownsRow 0 ty sz v es.length xs := ⟨hrow.1, hrow.2.imp (fun x => x) fun ⟨g, cap, cur, a, b, c⟩ => ⟨g, cap, cur, a, Nat.zero_le _, c⟩⟩
  have hbk : ∀ b, v.ownBlock = some b → w.heap.size ≤ b := fun b hb' => by
    rcases hrow.2 with hn | ⟨g, cap, cur, h1, h2, h3⟩
    · rw [hn.1] at hb'; simp [Value.ownBlock] at hb'
    · rw [h1] at hb'; simp only [Value.ownBlock, Option.some.injEq] at hb'; omega
  have hG : ∀ ad, ¬ (Mut M0 H σ ad ∨ v.ownBlock = some ad) → ¬ Mut M0 (H.push H.next ⟨ty, sz, es, false⟩) (fun i => if i = H.next then some ⟨es.length, v, sz, ty⟩ else σ i) ad := by
    intro ad hm h
    rcases h with h | ⟨i, k', o', hk', hf, ho', hb'⟩
    · exact hm (.inl (.inl h))
    · by_cases hii : i = H.next
      · simp only [hii, if_true, Option.some.injEq] at ho'
        subst ho'
        exact hm (.inr hb')
      · simp only [hii, if_false] at ho'
        simp only [AHeap.push, hii, if_false] at hk'
        exact hm (.inl (.inr ⟨i, k', o', hk', hf, ho', hb'⟩))
  have hclF : D.clL es.flatten = true := D.clL_of fun d hd => by
    obtain ⟨c, hcm, hxm⟩ := List.mem_flatten.1 hd
    exact D.clL_mem (D.clLL_mem hcll c hcm) d hxm
  obtain ⟨p1, p2, p3⟩ := Rel.pushG hR H.next (fun h => Nat.lt_irrefl _ (hR.nxt _ h)) (w' := w') hb.os hb.tape hb.output hb.size hb.block ⟨ty, sz, es, false⟩ ⟨es.length, v, sz, ty⟩
    hbk rfl rfl rfl hsz xs hrow0 h1 (fun hk => repL_closed hG hrep hclF)
  exact ⟨v, _, _, _, he, p1, .own v _ _ (.inl rfl) (by rcases hrow.2 with ⟨hn, _⟩ | ⟨g, cap, cur, hn, _⟩ <;> simp [hn, Value.oneCell']) (fun o ho => by simp at ho; subst ho; exact .inr ⟨rfl, rfl⟩), p2, p3, hQ⟩
end
end Go.Abs
end
section
namespace Go.Abs
inductive SOut where
  | op (o : AOut)
  | call (f : FuncId) (args : List D)
  | gop (t : Bool) (g : Bool) (o : AOut)
  | gcall (t : Bool) (g : Bool) (f : FuncId) (args : List D)
  | bad
def semC (c : Option (FuncId × List D)) (o : AOut) : SOut :=
  match c with
  | some (f, args) => .call f args
  | none => .op o
def semG (gc : Option (Bool × Bool)) (b : Bool) (g : Bool) (c : Option (FuncId × List D)) (o : AOut) : SOut :=
  match gc with
  | some (t, c') => match c with
    | some (f, args) => .gcall (t && (c' == b)) g f args
    | none => .gop (t && (c' == b)) g o
  | none => .bad
def sem1 (P : Program) (md : Nat → Bool) (nid : Nat) (ops : Array Oper) (e : Env) (o : Oper) (H : AHeap) : SOut :=
  match o.guard with
  | none => semC (callOf e o) (aOp P nid md e o H)
  | some (j, b) => semG (gD ops e j) b (ogs e (gO o.op)) (callOf (gE e o.op) o) (aOp P nid md (gE e o.op) o H)
def callQ (P : Program) (md : Nat → Bool) (ops : Array Oper) (rest : List Oper) (e : Env) (dst : Option Tmp) (K : Env → AHeap → Prop) (f : FuncId) (args : List D) (H : AHeap) : Prop :=
  ACalls P f args H fun v H1 => aOps P md ops rest (upd e dst v) H1 K
def gcallQ (P : Program) (md : Nat → Bool) (ops : Array Oper) (rest : List Oper) (e : Env) (dst : Option Tmp) (K : Env → AHeap → Prop) (t : Bool) (f : FuncId) (args : List D) (H : AHeap) : Prop :=
  (∃ r S, (t = true → ∀ H', Agree S H' H → ACalls P f args H' fun v H1 => v = r ∧ H1 = H') ∧ aOps P md ops rest (upd e dst (.opt t r)) H K) ∨
    ((t = true → ACalls P f args H fun v H1 => aOps P md ops rest (upd e dst (.opt true v)) H1 K) ∧ (t = false → ∃ r, aOps P md ops rest (upd e dst (.opt false r)) H K))
def contQ (P : Program) (md : Nat → Bool) (ops : Array Oper) (rest : List Oper) (e : Env) (dst : Option Tmp) (H : AHeap) (K : Env → AHeap → Prop) : SOut → Prop
  | .op o => o.cond ∧ (o.fact → aOps P md ops rest (upd e dst o.val) o.heap K)
  | .call f args => callQ P md ops rest e dst K f args H
  | .gop t g o => (t = true → g = true) ∧ (t = true → o.cond ∧ o.heap = H) ∧ ((t = true → o.fact) → aOps P md ops rest (upd e dst (.opt t o.val)) H K)
  | .gcall t g f args => (t = true → g = true) ∧ gcallQ P md ops rest e dst K t f args H
  | .bad => False
theorem aOps_cons (P : Program) (md : Nat → Bool) (ops : Array Oper) (o : Oper) (rest : List Oper) (e : Env) (H : AHeap) (K : Env → AHeap → Prop) :
    aOps P md ops (o :: rest) e H K = contQ P md ops rest e o.dst H K (sem1 P md H.next ops e o H) := by
  obtain ⟨dst, op, type, pos, after, guard⟩ := o
  cases guard with
  | none =>
    simp only [aOps, aStep, sem1]
    cases hc : callOf e { dst := dst, op := op, type := type, pos := pos, after := after, guard := none } with
    | none => simp [semC, contQ]
    | some p => simp [semC, contQ, callQ]
  | some p =>
    obtain ⟨j, b⟩ := p
    simp only [aOps, aStep, sem1]
    cases hg : gD ops e j with
    | none => simp [semG, contQ]
    | some gc =>
      obtain ⟨t, c'⟩ := gc
      simp only
      cases hc : callOf (gE e op) { dst := dst, op := op, type := type, pos := pos, after := after, guard := some (j, b) } with
      | none => simp [semG, contQ]
      | some p => simp [semG, contQ, gcallQ]
@[go_sem] theorem aOps_nil' (P : Program) (md : Nat → Bool) (ops : Array Oper) (e : Env) (H : AHeap) (K : Env → AHeap → Prop) : aOps P md ops [] e H K = K e H := rfl
@[go_sem] theorem contQ_op (P : Program) (md : Nat → Bool) (ops : Array Oper) (rest : List Oper) (e : Env) (dst : Option Tmp) (H H' : AHeap) (K : Env → AHeap → Prop) (c f : Prop) (v : D) :
    contQ P md ops rest e dst H K (.op ⟨c, f, v, H'⟩) = (c ∧ (f → aOps P md ops rest (upd e dst v) H' K)) := rfl
@[go_sem] theorem contQ_call (P : Program) (md : Nat → Bool) (ops : Array Oper) (rest : List Oper) (e : Env) (dst : Option Tmp) (H : AHeap) (K : Env → AHeap → Prop) (f : FuncId) (args : List D) :
    contQ P md ops rest e dst H K (.call f args) = callQ P md ops rest e dst K f args H := rfl
@[go_sem] theorem contQ_gop (P : Program) (md : Nat → Bool) (ops : Array Oper) (rest : List Oper) (e : Env) (dst : Option Tmp) (H H' : AHeap) (K : Env → AHeap → Prop) (c f : Prop) (v : D) (t g : Bool) :
    contQ P md ops rest e dst H K (.gop t g ⟨c, f, v, H'⟩) = ((t = true → g = true) ∧ (t = true → c ∧ H' = H) ∧ ((t = true → f) → aOps P md ops rest (upd e dst (.opt t v)) H K)) := rfl
@[go_sem] theorem contQ_gcall (P : Program) (md : Nat → Bool) (ops : Array Oper) (rest : List Oper) (e : Env) (dst : Option Tmp) (H : AHeap) (K : Env → AHeap → Prop) (f : FuncId) (args : List D) (t g : Bool) :
    contQ P md ops rest e dst H K (.gcall t g f args) = ((t = true → g = true) ∧ gcallQ P md ops rest e dst K t f args H) := rfl
@[go_sem] theorem semC_some (f : FuncId) (args : List D) (o : AOut) : semC (some (f, args)) o = .call f args := rfl
@[go_sem] theorem semC_none (o : AOut) : semC none o = .op o := rfl
@[go_sem] theorem upd_some (e : Env) (d t : Nat) (v : D) : upd e (some d) v t = if t = d then v else e t := rfl
@[go_sem] theorem upd_none (e : Env) (v : D) : upd e none v = e := rfl
def envL : List (Nat × D) → Env
  | [] => fun _ => .junk
  | (t, d) :: l => fun t' => if t' = t then d else envL l t'
@[go_sem] theorem envL_nil (t : Nat) : envL [] t = .junk := rfl
@[go_sem] theorem envL_cons (t : Nat) (d : D) (l : List (Nat × D)) (t' : Nat) : envL ((t, d) :: l) t' = if t' = t then d else envL l t' := rfl
@[go_sem] theorem envP_nil (t : Nat) : envP [] t = .junk := by simp [envP]
@[go_sem] theorem envP_zero (d : D) (l : List D) : envP (d :: l) 0 = d := rfl
@[go_sem] theorem envP_succ (d : D) (l : List D) (t : Nat) : envP (d :: l) (t + 1) = envP l t := by simp [envP]
@[go_sem] theorem evD_tmp (e : Env) (t : Nat) : evD e (.tmp t) = e t := rfl
@[go_sem] theorem evD_func (e : Env) (f : FuncId) : evD e (.func f) = .fn f [] := rfl
@[go_sem] theorem evD_int (e : Env) (k : IntKind) (n : Int) : evD e (.const (.int k n)) = .int k n := rfl
@[go_sem] theorem evD_bool (e : Env) (b : Bool) : evD e (.const (.bool b)) = .bool b := rfl
@[go_sem] theorem evD_str (e : Env) (b : ByteArray) : evD e (.const (.string b)) = .str b := rfl
@[go_sem] theorem evD_nil (e : Env) : evD e (.const (.slice none 0 0)) = .nil := rfl
@[go_sem] theorem evD_nilp (e : Env) : evD e (.const (.pointer none)) = .nilp := rfl
@[go_sem] theorem evD_nilf (e : Env) : evD e (.const .nilFunc) = .nilf := rfl
@[go_sem] theorem isNilC_nil : isNilC (.const (.slice none 0 0)) = true := rfl
@[go_sem] theorem isNilC_tmp (t : Nat) : isNilC (.tmp t) = false := rfl
@[go_sem] theorem isNilC_int (k : IntKind) (n : Int) : isNilC (.const (.int k n)) = false := rfl
@[go_sem] theorem isNilC_bool (b : Bool) : isNilC (.const (.bool b)) = false := rfl
@[go_sem] theorem isNilC_str (b : ByteArray) : isNilC (.const (.string b)) = false := rfl
@[go_sem] theorem isNilC_nilp : isNilC (.const (.pointer none)) = false := rfl
@[go_sem] theorem isNilC_nilf : isNilC (.const .nilFunc) = false := rfl
@[go_sem] theorem isNilC_func (f : FuncId) : isNilC (.func f) = false := rfl
@[go_sem] theorem mdd_some (md : Nat → Bool) (t : Nat) : mdd md (some t) = md t := rfl
@[go_sem] theorem mdd_none (md : Nat → Bool) : mdd md none = false := rfl
section
variable (P : Program) (md : Nat → Bool) (nid : Nat) (ops : Array Oper) (e : Env) (d : Option Tmp) (ty : TypeId) (p : String) (af : Array Edge) (H : AHeap)
@[go_sem] theorem s_move (x : Operand) : sem1 P md nid ops e ⟨d, .move x, ty, p, af, none⟩ H = .op (if isNilC x then aNil P nid (mdd md d) ty H else ⟨True, True, evD e x, H⟩) := rfl
@[go_sem] theorem s_assign (x : Operand) : sem1 P md nid ops e ⟨d, .assign x, ty, p, af, none⟩ H = .op (if isNilC x then aNil P nid (mdd md d) ty H else ⟨True, True, evD e x, H⟩) := rfl
@[go_sem] theorem s_pick (c a b : Operand) : sem1 P md nid ops e ⟨d, .pick c a b, ty, p, af, none⟩ H = .op (aPick (evD e c) (evD e a) (evD e b) H) := rfl
@[go_sem] theorem s_alloc (t : TypeId) : sem1 P md nid ops e ⟨d, .alloc t, ty, p, af, none⟩ H = .op (aAlloc P nid (mdd md d) t H) := rfl
@[go_sem] theorem s_box (t : TypeId) (x : Operand) : sem1 P md nid ops e ⟨d, .box t x, ty, p, af, none⟩ H = .op (aBox P nid (mdd md d) t (evD e x) H) := rfl
@[go_sem] theorem s_build (t : TypeId) (ps : Array (Nat × Operand)) : sem1 P md nid ops e ⟨d, .build t ps, ty, p, af, none⟩ H = .op (aBuild P t (ps.toList.map fun p => (p.1, evD e p.2)) H) := rfl
@[go_sem] theorem s_buildSlice (t : TypeId) (n : Nat) (ps : Array (Nat × Operand)) : sem1 P md nid ops e ⟨d, .buildSlice t n ps, ty, p, af, none⟩ H =
    .op (aBuildSlice P nid (mdd md d) t n (ps.toList.map fun p => (p.1, rsvD H (evD e p.2))) (frzs (ps.toList.flatMap fun p => ownIds (evD e p.2)) H)) := rfl
@[go_sem] theorem s_load (t : TypeId) (x : Operand) : sem1 P md nid ops e ⟨d, .load t x, ty, p, af, none⟩ H = .op (aLoad P t (evD e x) H) := rfl
@[go_sem] theorem s_store (t : TypeId) (x y : Operand) : sem1 P md nid ops e ⟨d, .store t x y, ty, p, af, none⟩ H =
    .op (if md 1000000 then aStore P t (evD e x) (rsvD H (evD e y)) (frzs (ownIds (evD e y)) H) else aStore P t (evD e x) (evD e y) H) := rfl
@[go_sem] theorem s_nilCheck (x : Operand) : sem1 P md nid ops e ⟨d, .nilCheck x, ty, p, af, none⟩ H = .op (aNilCheck (evD e x) H) := rfl
@[go_sem] theorem s_binOp (b : BinOp) (t t' : TypeId) (x y : Operand) : sem1 P md nid ops e ⟨d, .binOp b t x y t', ty, p, af, none⟩ H = .op (aEq P t b (evD e x) (evD e y) H) := rfl
@[go_sem] theorem s_unOp (u : UnOp) (t : TypeId) (x : Operand) : sem1 P md nid ops e ⟨d, .unOp u t x, ty, p, af, none⟩ H = .op (aUn u (evD e x) H) := rfl
@[go_sem] theorem s_convert (s t : TypeId) (x : Operand) : sem1 P md nid ops e ⟨d, .convert s t x, ty, p, af, none⟩ H = .op (aConvert P s t (evD e x) H) := rfl
@[go_sem] theorem s_makeFunc (f : FuncId) (caps : Array Operand) : sem1 P md nid ops e ⟨d, .makeFunc (.func f) #[] caps, ty, p, af, none⟩ H = .op ⟨True, True, .fn f (caps.toList.map (evD e)), H⟩ := rfl
@[go_sem] theorem s_makeSlice (t : TypeId) (l c : Operand) : sem1 P md nid ops e ⟨d, .makeSlice t l c, ty, p, af, none⟩ H = .op (aMake P nid t (evD e l) (evD e c) H) := rfl
@[go_sem] theorem s_slice (t : TypeId) (x : Operand) (lo hi : Option Operand) : sem1 P md nid ops e ⟨d, .slice t x lo hi none, ty, p, af, none⟩ H = .op (aSlice P t (evD e x) (lo.map (evD e)) (hi.map (evD e)) H) := rfl
@[go_sem] theorem s_fieldAddr (t : TypeId) (x : Operand) (f : Nat) : sem1 P md nid ops e ⟨d, .fieldAddr t x f, ty, p, af, none⟩ H = .op (aFieldAddr P t (evD e x) f H) := rfl
@[go_sem] theorem s_indexAddr (t : TypeId) (x i : Operand) : sem1 P md nid ops e ⟨d, .indexAddr t x i, ty, p, af, none⟩ H = .op (aIndexAddr P t (evD e x) (evD e i) H) := rfl
@[go_sem] theorem s_index (t : TypeId) (x i : Operand) : sem1 P md nid ops e ⟨d, .index t x i, ty, p, af, none⟩ H = .op (aIndex P t (evD e x) (evD e i) H) := rfl
@[go_sem] theorem s_extract (x : Operand) (i : Nat) : sem1 P md nid ops e ⟨d, .extract x i, ty, p, af, none⟩ H = .op (aExtract (evD e x) i H) := rfl
@[go_sem] theorem s_builtin (b : Builtin) (args : Array Operand) (ts : Array TypeId) : sem1 P md nid ops e ⟨d, .call ⟨.builtin b, args, ts⟩, ty, p, af, none⟩ H = .op (aBuiltin P nid b (args.toList.map (evD e)) ts.toList H) := rfl
@[go_sem] theorem s_call (f : FuncId) (args : Array Operand) (ts : Array TypeId) : sem1 P md nid ops e ⟨d, .call ⟨.value (.func f), args, ts⟩, ty, p, af, none⟩ H = .call f (args.toList.map (evD e)) := by
  simp [sem1, callOf, evD, semC]
end
@[go_sem] theorem aOps_cons' (P : Program) (md : Nat → Bool) (ops : Array Oper) (rest : List Oper) (e : Env) (H : AHeap) (K : Env → AHeap → Prop) (d : Option Tmp) (op : Op) (ty : TypeId) (p : String) (af : Array Edge) (g : Option (Nat × Bool)) :
    aOps P md ops (⟨d, op, ty, p, af, g⟩ :: rest) e H K = contQ P md ops rest e d H K (sem1 P md H.next ops e ⟨d, op, ty, p, af, g⟩ H) := aOps_cons P md ops _ rest e H K
/-! ### code -/
section
variable (P : Program) (c : Cfg) (Q : Exit → Env → AHeap → Prop) (e : Env) (H : AHeap)
def condQ (P : Program) (c : Cfg) (a b : Code) (Q : Exit → Env → AHeap → Prop) (e : Env) (H : AHeap) : D → Prop
  | .bool t => (t = true → AWp P c a Q e H) ∧ (t = false → AWp P c b Q e H)
  | _ => False
def loopQ (P : Program) (c : Cfg) (b : Code) (Q : Exit → Env → AHeap → Prop) (e : Env) (H : AHeap) : Prop := AWp P c (.loop b) Q e H
@[go_sem] theorem w_skip : AWp P c .skip Q e H = Q .normal e H := rfl
@[go_sem] theorem w_region (id : Nat) (l : List Oper) : AWp P c (.region id l.toArray false) Q e H = aOps P c.own l.toArray l e H (Q .normal) := by
  simp [AWp]
@[go_sem] theorem w_draw (id : Nat) (l : List Oper) : AWp P c (.region id l.toArray true) Q e H = aDraw P c.own l.toArray (c.sp id) H.next 0 l [] e ⟨H.next + l.length, H.al, H.get⟩ (Q .normal) := by
  simp [AWp]
@[go_sem] theorem w_seq (a b : Code) : AWp P c (.seq a b) Q e H = AWp P c a (thenQ (AWp P c b Q) Q) e H := rfl
@[go_sem] theorem w_cond (x : Operand) (a b : Code) : AWp P c (.cond x a b) Q e H = condQ P c a b Q e H (evD e x) := rfl
@[go_sem] theorem w_block (id : Nat) (b : Code) : AWp P c (.block id b) Q e H = AWp P c b (blockQ id Q) e H := rfl
@[go_sem] theorem w_loop (b : Code) : AWp P c (.loop b) Q e H = loopQ P c b Q e H := rfl
@[go_sem] theorem w_exit (id : Nat) : AWp P c (.exit id) Q e H = Q (.exit id) e H := rfl
@[go_sem] theorem w_ret : AWp P c .ret Q e H = Q .ret e H := rfl
@[go_sem] theorem condQ_true (a b : Code) : condQ P c a b Q e H (.bool true) = AWp P c a Q e H := by simp [condQ]
@[go_sem] theorem condQ_false (a b : Code) : condQ P c a b Q e H (.bool false) = AWp P c b Q e H := by simp [condQ]
@[go_sem] theorem thenQ_normal (n : Env → AHeap → Prop) : thenQ n Q .normal e H = n e H := rfl
@[go_sem] theorem thenQ_ret (n : Env → AHeap → Prop) : thenQ n Q .ret e H = Q .ret e H := rfl
@[go_sem] theorem thenQ_exit (n : Env → AHeap → Prop) (i : Nat) : thenQ n Q (.exit i) e H = Q (.exit i) e H := rfl
@[go_sem] theorem blockQ_normal (i : Nat) : blockQ i Q .normal e H = Q .normal e H := rfl
@[go_sem] theorem blockQ_ret (i : Nat) : blockQ i Q .ret e H = Q .ret e H := rfl
@[go_sem] theorem blockQ_exit (i j : Nat) : blockQ i Q (.exit j) e H = if j = i then Q .normal e H else Q (.exit j) e H := rfl
@[go_sem] theorem retQ_ret (rs : List ResultVar) (R : D → AHeap → Prop) : retQ P rs R .ret e H = aRes P rs e H fun l => R (tupD l) H := rfl
@[go_sem] theorem retQ_normal (rs : List ResultVar) (R : D → AHeap → Prop) : retQ P rs R .normal e H = aRes P rs e H fun l => R (tupD l) H := rfl
@[go_sem] theorem aRes_nil (K : List D → Prop) : aRes P [] e H K = K [] := rfl
@[go_sem] theorem aRes_tmp (t : Tmp) (r : List ResultVar) (K : List D → Prop) : aRes P (.tmp t :: r) e H K = aRes P r e H fun l => K (e t :: l) := rfl
@[go_sem] theorem aRes_cell (a : Tmp) (t : TypeId) (r : List ResultVar) (K : List D → Prop) : aRes P (.cell a t :: r) e H K = ((aLoad P t (e a) H).cond ∧ aRes P r e H fun l => K ((aLoad P t (e a) H).val :: l)) := rfl
@[go_sem] theorem tupD_one (d : D) : tupD [d] = d := rfl
end
attribute [go_sem] if_true if_false Bool.false_eq_true Bool.true_eq_false eq_self true_and and_true forall_const true_implies false_implies List.map_nil List.map_cons List.toList_toArray Option.map_some Option.map_none
  List.flatMap_nil List.flatMap_cons List.append_nil List.nil_append List.length_nil List.length_cons implies_true
attribute [go_sem] aBin aEq aLoad aStore addrAdd aFieldAddr aIndexAddr aLen aAppend aMake aBox aAlloc aBuild aBuildSlice aSlice aIndex aConvert aPick aPick2 aMin aNilCheck aUn aExtract aNil aBuiltin aClear asInts frzs AOut.bad
  elemsOf cellsAt D.cells fillD BK.place unI ite_self
@[go_sem] theorem get_emp (id : Nat) : AHeap.emp.get id = none := rfl
@[go_sem] theorem next_emp : AHeap.emp.next = 0 := rfl
@[go_sem] theorem get_push (H : AHeap) (i j : Nat) (k : Blk) : (H.push i k).get j = if j = i then some k else H.get j := rfl
@[go_sem] theorem get_put (H : AHeap) (i j : Nat) (k : Blk) : (H.put i k).get j = if j = i then some k else H.get j := rfl
@[go_sem] theorem next_push (H : AHeap) (i : Nat) (k : Blk) : (H.push i k).next = if i < H.next then H.next else i + 1 := rfl
@[go_sem] theorem next_put (H : AHeap) (i : Nat) (k : Blk) : (H.put i k).next = H.next := rfl
@[go_sem] theorem get_bump (n : Nat) (al : Nat → Prop) (g : Nat → Option Blk) (j : Nat) : (AHeap.mk n al g).get j = g j := rfl
@[go_sem] theorem next_bump (n : Nat) (al : Nat → Prop) (g : Nat → Option Blk) : (AHeap.mk n al g).next = n := rfl
section
variable (H : AHeap)
@[go_sem] theorem rsv1_int (k : IntKind) (n : Int) : rsv1 H (.int k n) = .int k n := rfl
@[go_sem] theorem rsv1_bool (b : Bool) : rsv1 H (.bool b) = .bool b := rfl
@[go_sem] theorem rsv1_str (b : ByteArray) : rsv1 H (.str b) = .str b := rfl
@[go_sem] theorem rsv1_nil : rsv1 H .nil = .nil := rfl
@[go_sem] theorem rsv1_list (es : List (List D)) : rsv1 H (.list es) = .list es := rfl
@[go_sem] theorem rsv1_adr (es : List D) : rsv1 H (.adr es) = .adr es := rfl
@[go_sem] theorem rsv1_nilp : rsv1 H .nilp = .nilp := rfl
@[go_sem] theorem rsv1_nilf : rsv1 H .nilf = .nilf := rfl
@[go_sem] theorem rsv1_fn (f : FuncId) (l : List D) : rsv1 H (.fn f l) = .fn f l := rfl
@[go_sem] theorem rsv1_own (id n : Nat) : rsv1 H (.own id n) = match H.get id with | some k => if k.es.length = n then .list k.es else .own id n | none => .own id n := rfl
@[go_sem] theorem rsv1_win (id n lo hi : Nat) : rsv1 H (.win id n lo hi) = match H.get id with | some k => if k.es.length = n then .list ((k.es.take hi).drop lo) else .win id n lo hi | none => .win id n lo hi := rfl
@[go_sem] theorem rsvD_win (id n lo hi : Nat) : rsvD H (.win id n lo hi) = rsv1 H (.win id n lo hi) := rfl
@[go_sem] theorem rsvT_win (id n lo hi : Nat) : rsvT H (.win id n lo hi) = rsv1 H (.win id n lo hi) := rfl
@[go_sem] theorem rsvD_int (k : IntKind) (n : Int) : rsvD H (.int k n) = .int k n := rfl
@[go_sem] theorem rsvD_bool (b : Bool) : rsvD H (.bool b) = .bool b := rfl
@[go_sem] theorem rsvD_str (b : ByteArray) : rsvD H (.str b) = .str b := rfl
@[go_sem] theorem rsvD_nil : rsvD H .nil = .nil := rfl
@[go_sem] theorem rsvD_list (es : List (List D)) : rsvD H (.list es) = .list es := rfl
@[go_sem] theorem rsvD_adr (es : List D) : rsvD H (.adr es) = .adr es := rfl
@[go_sem] theorem rsvD_nilp : rsvD H .nilp = .nilp := rfl
@[go_sem] theorem rsvD_nilf : rsvD H .nilf = .nilf := rfl
@[go_sem] theorem rsvD_fn (f : FuncId) (l : List D) : rsvD H (.fn f l) = .fn f l := rfl
@[go_sem] theorem rsvD_agg (l : List D) : rsvD H (.agg l) = .agg (l.map (rsv1 H)) := rfl
@[go_sem] theorem rsvD_own (id n : Nat) : rsvD H (.own id n) = rsv1 H (.own id n) := rfl
@[go_sem] theorem rsvT_tup (l : List D) : rsvT H (.tup l) = .tup (l.map (rsvD H)) := rfl
@[go_sem] theorem rsvT_int (k : IntKind) (n : Int) : rsvT H (.int k n) = .int k n := rfl
@[go_sem] theorem rsvT_bool (b : Bool) : rsvT H (.bool b) = .bool b := rfl
@[go_sem] theorem rsvT_str (b : ByteArray) : rsvT H (.str b) = .str b := rfl
@[go_sem] theorem rsvT_nil : rsvT H .nil = .nil := rfl
@[go_sem] theorem rsvT_list (es : List (List D)) : rsvT H (.list es) = .list es := rfl
@[go_sem] theorem rsvT_adr (es : List D) : rsvT H (.adr es) = .adr es := rfl
@[go_sem] theorem rsvT_nilp : rsvT H .nilp = .nilp := rfl
@[go_sem] theorem rsvT_nilf : rsvT H .nilf = .nilf := rfl
@[go_sem] theorem rsvT_fn (f : FuncId) (l : List D) : rsvT H (.fn f l) = .fn f l := rfl
@[go_sem] theorem rsvT_agg (l : List D) : rsvT H (.agg l) = .agg (l.map (rsv1 H)) := rfl
@[go_sem] theorem rsvT_own (id n : Nat) : rsvT H (.own id n) = rsv1 H (.own id n) := rfl
end
@[go_sem] theorem ids1_int (k : IntKind) (n : Int) : ids1 (.int k n) = [] := rfl
@[go_sem] theorem ids1_bool (b : Bool) : ids1 (.bool b) = [] := rfl
@[go_sem] theorem ids1_str (b : ByteArray) : ids1 (.str b) = [] := rfl
@[go_sem] theorem ids1_nil : ids1 .nil = [] := rfl
@[go_sem] theorem ids1_list (es : List (List D)) : ids1 (.list es) = [] := rfl
@[go_sem] theorem ids1_adr (es : List D) : ids1 (.adr es) = [] := rfl
@[go_sem] theorem ids1_nilp : ids1 .nilp = [] := rfl
@[go_sem] theorem ids1_nilf : ids1 .nilf = [] := rfl
@[go_sem] theorem ids1_fn (f : FuncId) (l : List D) : ids1 (.fn f l) = [] := rfl
@[go_sem] theorem ids1_win (id n lo hi : Nat) : ids1 (.win id n lo hi) = [id] := rfl
@[go_sem] theorem ownIds_win (id n lo hi : Nat) : ownIds (.win id n lo hi) = [id] := rfl
@[go_sem] theorem ids1_own (id n : Nat) : ids1 (.own id n) = [id] := rfl
@[go_sem] theorem ownIds_int (k : IntKind) (n : Int) : ownIds (.int k n) = [] := rfl
@[go_sem] theorem ownIds_bool (b : Bool) : ownIds (.bool b) = [] := rfl
@[go_sem] theorem ownIds_str (b : ByteArray) : ownIds (.str b) = [] := rfl
@[go_sem] theorem ownIds_nil : ownIds .nil = [] := rfl
@[go_sem] theorem ownIds_list (es : List (List D)) : ownIds (.list es) = [] := rfl
@[go_sem] theorem ownIds_adr (es : List D) : ownIds (.adr es) = [] := rfl
@[go_sem] theorem ownIds_nilp : ownIds .nilp = [] := rfl
@[go_sem] theorem ownIds_nilf : ownIds .nilf = [] := rfl
@[go_sem] theorem ownIds_fn (f : FuncId) (l : List D) : ownIds (.fn f l) = [] := rfl
@[go_sem] theorem ownIds_own (id n : Nat) : ownIds (.own id n) = [id] := rfl
@[go_sem] theorem ownIds_agg (l : List D) : ownIds (.agg l) = l.flatMap ids1 := rfl
@[go_sem] theorem frz_some (H : AHeap) (id : Nat) : H.frz id = match H.get id with | some k => H.put id { k with fz := true } | none => H := rfl
@[go_sem] theorem put_push (H : AHeap) (id : Nat) (k k' : Blk) : (H.push id k).put id k' = H.push id k' := by
  unfold AHeap.push AHeap.put
  congr 1
  funext i
  by_cases h : i = id <;> simp [h]
@[go_sem] theorem put_put (H : AHeap) (id : Nat) (k k' : Blk) : (H.put id k).put id k' = H.put id k' := by
  unfold AHeap.put
  congr 1
  funext i
  by_cases h : i = id <;> simp [h]
section
variable {P : Program} {c : Cfg} {Q : Exit → Env → AHeap → Prop} {e : Env} {H : AHeap} {a b : Code}
theorem condQ_mk {t : Bool} (h1 : t = true → AWp P c a Q e H) (h2 : t = false → AWp P c b Q e H) : condQ P c a b Q e H (.bool t) := ⟨h1, h2⟩
theorem condQ_dec {p : Prop} [Decidable p] (h1 : p → AWp P c a Q e H) (h2 : ¬ p → AWp P c b Q e H) : condQ P c a b Q e H (.bool (decide p)) := ⟨fun h => h1 (of_decide_eq_true h), fun h => h2 (of_decide_eq_false h)⟩
end
attribute [irreducible] condQ callQ gcallQ loopQ
end Go.Abs
end
section
namespace Go.Abs
section
variable {P : Program} {c : Cfg} {md : Nat → Bool}
theorem aStep_mono {dr : Option Nat} {nid : Nat} {ops : Array Oper} {e : Env} {o : Oper} {H : AHeap} {K K' : D → AHeap → List Nat → Prop} (hk : ∀ v H F, K v H F → K' v H F) (h : aStep P md dr nid ops e o H K) : aStep P md dr nid ops e o H K' := by
  unfold aStep at h ⊢
  cases hg : o.guard with
  | none =>
    simp only [hg] at h ⊢
    cases hc : callOf e o with
    | none => simp only [hc] at h ⊢; exact ⟨h.1, fun hf => hk _ _ _ (h.2 hf)⟩
    | some p =>
      obtain ⟨f, args⟩ := p
      simp only [hc] at h ⊢
      cases dr with
      | none => exact h.mono fun _ _ h => hk _ _ _ h
      | some m =>
        rcases h with ⟨r, S, h1, h2⟩ | ⟨hmd, r, S, u, q, hu, hq, h1, h2⟩
        · exact .inl ⟨r, S, h1, hk _ _ _ h2⟩
        · exact .inr ⟨hmd, r, S, u, q, hu, hq, h1, hk _ _ _ h2⟩
  | some p =>
    obtain ⟨j, b⟩ := p
    simp only [hg] at h ⊢
    cases hgd : gD ops e j with
    | none => simp only [hgd] at h
    | some gc =>
      obtain ⟨g, c'⟩ := gc
      simp only [hgd] at h ⊢
      refine ⟨h.1, ?_⟩
      have h2 := h.2
      cases hc : callOf (gE e o.op) o with
      | none => simp only [hc] at h2 ⊢; exact ⟨h2.1, fun hf => hk _ _ _ (h2.2 hf)⟩
      | some p =>
        obtain ⟨f, args⟩ := p
        simp only [hc] at h2 ⊢
        cases dr with
        | some _ => obtain ⟨r, S, h3, h4⟩ := h2; exact ⟨r, S, h3, hk _ _ _ h4⟩
        | none =>
          rcases h2 with ⟨r, S, h3, h4⟩ | ⟨h3, h4⟩
          · exact .inl ⟨r, S, h3, hk _ _ _ h4⟩
          · exact .inr ⟨fun hq => (h3 hq).mono fun _ _ h => hk _ _ _ h, fun hq => (h4 hq).imp fun _ h => hk _ _ _ h⟩
theorem aOps_mono {ops : Array Oper} {K K' : Env → AHeap → Prop} (hk : ∀ e H, K e H → K' e H) : ∀ (l : List Oper) (e : Env) (H : AHeap), aOps P md ops l e H K → aOps P md ops l e H K'
  | [], e, H, h => hk _ _ h
  | o :: l, e, H, h => by
    unfold aOps at h ⊢
    exact aStep_mono (fun v H' _ h => aOps_mono hk l _ _ h) h
theorem aDraw_mono {ops : Array Oper} {sp : List (Nat × Nat)} {n0 : Nat} {K K' : Env → AHeap → Prop} (hk : ∀ e H, K e H → K' e H) : ∀ (l : List Oper) (i : Nat) (acc : List (Nat × List Nat)) (e : Env) (H : AHeap),
    aDraw P md ops sp n0 i l acc e H K → aDraw P md ops sp n0 i l acc e H K'
  | [], i, acc, e, H, h => by unfold aDraw at h ⊢; exact hk _ _ h
  | o :: l, i, acc, e, H, h => by
    unfold aDraw at h ⊢
    exact aStep_mono (fun v H' _ h => ⟨h.1, aDraw_mono hk l _ _ _ _ h.2⟩) h
theorem thenQ_mono {n n' : Env → AHeap → Prop} {Q Q' : Exit → Env → AHeap → Prop} (hn : ∀ e H, n e H → n' e H) (hq : ∀ x e H, Q x e H → Q' x e H) : ∀ x e H, thenQ n Q x e H → thenQ n' Q' x e H := by
  intro x e H h
  cases x <;> first | exact hn _ _ h | exact hq _ _ _ h
theorem blockQ_mono {i : Nat} {Q Q' : Exit → Env → AHeap → Prop} (hq : ∀ x e H, Q x e H → Q' x e H) : ∀ x e H, blockQ i Q x e H → blockQ i Q' x e H := by
  intro x e H h
  cases x <;> first | exact hq _ _ _ h | skip
  rename_i j
  rw [blockQ_exit] at h ⊢
  split at h
  · rename_i hj; rw [if_pos hj]; exact hq _ _ _ h
  · rename_i hj; rw [if_neg hj]; exact hq _ _ _ h
theorem AWp_mono : ∀ (x : Code) {Q Q' : Exit → Env → AHeap → Prop} (hq : ∀ x e H, Q x e H → Q' x e H) (e : Env) (H : AHeap), AWp P c x Q e H → AWp P c x Q' e H
  | .skip, Q, Q', hq, e, H, h => hq _ _ _ h
  | .region id ops dr, Q, Q', hq, e, H, h => by
    unfold AWp at h ⊢
    cases dr with
    | false => simp only [Bool.false_eq_true, if_false] at h ⊢; exact aOps_mono (fun e H h => hq _ _ _ h) _ _ _ h
    | true => simp only [if_true] at h ⊢; exact aDraw_mono (fun e H h => hq _ _ _ h) _ _ _ _ _ h
  | .seq a b, Q, Q', hq, e, H, h => by
    unfold AWp at h ⊢
    exact AWp_mono a (thenQ_mono (fun e H h => AWp_mono b hq e H h) hq) e H h
  | .cond x a b, Q, Q', hq, e, H, h => by
    unfold AWp at h ⊢
    cases hv : evD e x <;> simp only [hv] at h ⊢ <;> try (exact h.elim)
    exact ⟨fun ht => AWp_mono a hq e H (h.1 ht), fun ht => AWp_mono b hq e H (h.2 ht)⟩
  | .block id b, Q, Q', hq, e, H, h => by
    unfold AWp at h ⊢
    exact AWp_mono b (blockQ_mono hq) e H h
  | .loop b, Q, Q', hq, e, H, h => by
    unfold AWp at h ⊢
    obtain ⟨I, h0, hI⟩ := h
    exact ⟨I, h0, fun k e' H' hi => AWp_mono b (thenQ_mono (fun _ _ h => h) hq) _ _ (hI k e' H' hi)⟩
  | .exit id, Q, Q', hq, e, H, h => hq _ _ _ h
  | .ret, Q, Q', hq, e, H, h => hq _ _ _ h
  | .rangeFunc .., Q, Q', hq, e, H, h => h.elim
  | .scope .., Q, Q', hq, e, H, h => h.elim
  | .label .., Q, Q', hq, e, H, h => h.elim
  | .goto .., Q, Q', hq, e, H, h => h.elim
  | .refuse .., Q, Q', hq, e, H, h => h.elim
theorem loop_rule {b : Code} {Q : Exit → Env → AHeap → Prop} {e : Env} {H : AHeap} {ι : Type} (I : ι → Env → AHeap → Prop) (μ : ι → Nat) (x0 : ι) (h0 : I x0 e H)
    (hs : ∀ x e H, I x e H → AWp P c b (thenQ (fun e' H' => ∃ x', μ x' < μ x ∧ I x' e' H') Q) e H) : loopQ P c b Q e H := by
  unfold loopQ AWp
  refine ⟨fun k e H => ∃ x, μ x = k ∧ I x e H, ⟨H, .refl H, _, x0, rfl, h0⟩, fun k e' H' ⟨x, hk, hx⟩ => AWp_mono b (thenQ_mono (fun e'' H'' ⟨x', hlt, hx'⟩ => ⟨_, hk ▸ hlt, x', rfl, hx'⟩) fun _ _ _ h => h) _ _ (hs x e' H' hx)⟩
theorem loop_ghosts {b : Code} {Q : Exit → Env → AHeap → Prop} {e : Env} {H H' : AHeap} (hg : Ghosts H H') {ι : Type} (I : ι → Env → AHeap → Prop) (μ : ι → Nat) (x0 : ι) (h0 : I x0 e H')
    (hs : ∀ x e H, I x e H → AWp P c b (thenQ (fun e' H' => ∃ x', μ x' < μ x ∧ I x' e' H') Q) e H) : loopQ P c b Q e H := by
  unfold loopQ AWp
  refine ⟨fun k e H => ∃ x, μ x = k ∧ I x e H, ⟨H', hg, _, x0, rfl, h0⟩, fun k e' H' ⟨x, hk, hx⟩ => AWp_mono b (thenQ_mono (fun e'' H'' ⟨x', hlt, hx'⟩ => ⟨_, hk ▸ hlt, x', rfl, hx'⟩) fun _ _ _ h => h) _ _ (hs x e' H' hx)⟩
theorem callQ_pure0 {ops : Array Oper} {rest : List Oper} {e : Env} {dst : Option Tmp} {K : Env → AHeap → Prop} {f : FuncId} {args : List D} {H : AHeap} {r : D} (hp : Pure P f args r) (hcl : D.clL args = true)
    (h : aOps P md ops rest (upd e dst r) H K) : callQ P md ops rest e dst K f args H := by unfold callQ; exact ACalls.pure0 hp hcl h
theorem callQ_pureF {ops : Array Oper} {rest : List Oper} {e : Env} {dst : Option Tmp} {K : Env → AHeap → Prop} {f : FuncId} {args args' : List D} {H : AHeap} {r : D} (hp : Pure P f args' r) (ha : args.map (rsvD H) = args') (hcl : D.clL args' = true) (hf : r.flat = true)
    (h : aOps P md ops rest (upd e dst r) H K) : callQ P md ops rest e dst K f args H := by subst ha; unfold callQ; exact ACalls.pureF hp hcl hf h
theorem callQ_pureZ {ops : Array Oper} {rest : List Oper} {e : Env} {dst : Option Tmp} {K : Env → AHeap → Prop} {f : FuncId} {args args' : List D} {H H' : AHeap} {r : D} (hp : Pure P f args' r) (ha : args.map (rsvD H) = args') (hcl : D.clL args' = true)
    (hz : frzs (args.flatMap ownIds) H = H') (h : aOps P md ops rest (upd e dst r) H' K) : callQ P md ops rest e dst K f args H := by subst ha; subst hz; unfold callQ; exact ACalls.pureZ hp hcl h
theorem callQ_own0 {ops : Array Oper} {rest : List Oper} {e : Env} {dst : Option Tmp} {K : Env → AHeap → Prop} {f : FuncId} {args : List D} {H : AHeap} {ty : TypeId} {sz : Nat} {es : List (List D)} (hp : Own P f args ty sz es) (hcl : D.clL args = true)
    (h : aOps P md ops rest (upd e dst (.own H.next es.length)) (H.push H.next ⟨ty, sz, es, false⟩) K) : callQ P md ops rest e dst K f args H := by unfold callQ; exact ACalls.own0 hp hcl h
end
end Go.Abs
end
section
namespace Go.Abs
def dcallQ (P : Program) (md : Nat → Bool) (ops : Array Oper) (sp : List (Nat × Nat)) (n0 i : Nat) (rest : List Oper) (acc : List (Nat × List Nat)) (e : Env) (dst : Option Tmp) (K : Env → AHeap → Prop) (f : FuncId) (args : List D) (H : AHeap) : Prop :=
  (∃ r S, (∀ H', Agree S H' H → ACalls P f args H' fun v H1 => v = r ∧ H1 = H') ∧ chk sp i S acc ∧ aDraw P md ops sp n0 (i + 1) rest ((i, S) :: acc) (upd e dst r) H K) ∨
  (mdd md dst = true ∧ ∃ r S u q, (∀ p ∈ u, p.1 ∈ S) ∧ (∀ p ∈ q, p.1 < n0 ∧ ¬ H.al p.1) ∧ (∀ H', Agree S H' H → (∀ p ∈ q, p.1 < H'.next ∧ ¬ H'.al p.1) → ACalls P f args H' fun v H1 => v = r ∧ H1 = (H'.puts u).pushs q) ∧
    chk sp i (S ++ q.map (·.1)) acc ∧ aDraw P md ops sp n0 (i + 1) rest ((i, S ++ q.map (·.1)) :: acc) (upd e dst r) ((H.puts u).pushs q) K)
def dgcallQ (P : Program) (md : Nat → Bool) (ops : Array Oper) (sp : List (Nat × Nat)) (n0 i : Nat) (rest : List Oper) (acc : List (Nat × List Nat)) (e : Env) (dst : Option Tmp) (K : Env → AHeap → Prop) (t : Bool) (f : FuncId) (args : List D) (H : AHeap) : Prop :=
  ∃ r S, (t = true → ∀ H', Agree S H' H → ACalls P f args H' fun v H1 => v = r ∧ H1 = H') ∧ chk sp i S acc ∧ aDraw P md ops sp n0 (i + 1) rest ((i, S) :: acc) (upd e dst (.opt t r)) H K
def footO (nid : Nat) (e : Env) (o : Oper) : List Nat := foot nid (match o.guard with | none => e | some _ => gE e o.op) o.op
def dcontQ (P : Program) (md : Nat → Bool) (ops : Array Oper) (sp : List (Nat × Nat)) (n0 i : Nat) (rest : List Oper) (acc : List (Nat × List Nat)) (e : Env) (dst : Option Tmp) (H : AHeap) (K : Env → AHeap → Prop) (F : List Nat) : SOut → Prop
  | .op o => o.cond ∧ chk sp i F acc ∧ aDraw P md ops sp n0 (i + 1) rest ((i, F) :: acc) (upd e dst o.val) o.heap K
  | .call f args => dcallQ P md ops sp n0 i rest acc e dst K f args H
  | .gop t g o => (t = true → g = true) ∧ (t = true → o.cond ∧ o.heap = H) ∧ chk sp i F acc ∧ aDraw P md ops sp n0 (i + 1) rest ((i, F) :: acc) (upd e dst (.opt t o.val)) H K
  | .gcall t g f args => (t = true → g = true) ∧ dgcallQ P md ops sp n0 i rest acc e dst K t f args H
  | .bad => False
theorem aDraw_cons (P : Program) (md : Nat → Bool) (ops : Array Oper) (sp : List (Nat × Nat)) (n0 i : Nat) (o : Oper) (rest : List Oper) (acc : List (Nat × List Nat)) (e : Env) (H : AHeap) (K : Env → AHeap → Prop) :
    aDraw P md ops sp n0 i (o :: rest) acc e H K = dcontQ P md ops sp n0 i rest acc e o.dst H K (footO (n0 + i) e o) (sem1 P md (n0 + i) ops e o H) := by
  obtain ⟨dst, op, type, pos, after, guard⟩ := o
  cases guard with
  | none =>
    simp only [aDraw, aStep, sem1, footO]
    cases hc : callOf e { dst := dst, op := op, type := type, pos := pos, after := after, guard := none } with
    | none => simp [semC, dcontQ]
    | some p => simp [semC, dcontQ, dcallQ]
  | some p =>
    obtain ⟨j, b⟩ := p
    simp only [aDraw, aStep, sem1, footO]
    cases hg : gD ops e j with
    | none => simp [semG, dcontQ]
    | some gc =>
      obtain ⟨t, c'⟩ := gc
      simp only
      cases hc : callOf (gE e op) { dst := dst, op := op, type := type, pos := pos, after := after, guard := some (j, b) } with
      | none => simp [semG, dcontQ]
      | some p => simp [semG, dcontQ, dgcallQ]
@[go_sem] theorem aDraw_nil' (P : Program) (md : Nat → Bool) (ops : Array Oper) (sp : List (Nat × Nat)) (n0 i : Nat) (acc : List (Nat × List Nat)) (e : Env) (H : AHeap) (K : Env → AHeap → Prop) : aDraw P md ops sp n0 i [] acc e H K = K e H := rfl
section
variable (P : Program) (md : Nat → Bool) (ops : Array Oper) (sp : List (Nat × Nat)) (n0 i : Nat) (rest : List Oper) (acc : List (Nat × List Nat)) (e : Env) (dst : Option Tmp) (H H' : AHeap) (K : Env → AHeap → Prop) (F : List Nat) (c f : Prop) (v : D) (t g : Bool) (fn : FuncId) (args : List D)
@[go_sem] theorem dcontQ_op : dcontQ P md ops sp n0 i rest acc e dst H K F (.op ⟨c, f, v, H'⟩) = (c ∧ chk sp i F acc ∧ aDraw P md ops sp n0 (i + 1) rest ((i, F) :: acc) (upd e dst v) H' K) := rfl
@[go_sem] theorem dcontQ_call : dcontQ P md ops sp n0 i rest acc e dst H K F (.call fn args) = dcallQ P md ops sp n0 i rest acc e dst K fn args H := rfl
@[go_sem] theorem dcontQ_gop : dcontQ P md ops sp n0 i rest acc e dst H K F (.gop t g ⟨c, f, v, H'⟩) =
    ((t = true → g = true) ∧ (t = true → c ∧ H' = H) ∧ chk sp i F acc ∧ aDraw P md ops sp n0 (i + 1) rest ((i, F) :: acc) (upd e dst (.opt t v)) H K) := rfl
@[go_sem] theorem dcontQ_gcall : dcontQ P md ops sp n0 i rest acc e dst H K F (.gcall t g fn args) = ((t = true → g = true) ∧ dgcallQ P md ops sp n0 i rest acc e dst K t fn args H) := rfl
@[go_sem] theorem aDraw_cons' (d : Option Tmp) (op : Op) (ty : TypeId) (p : String) (af : Array Edge) (gu : Option (Nat × Bool)) :
    aDraw P md ops sp n0 i (⟨d, op, ty, p, af, gu⟩ :: rest) acc e H K = dcontQ P md ops sp n0 i rest acc e d H K (footO (n0 + i) e ⟨d, op, ty, p, af, gu⟩) (sem1 P md (n0 + i) ops e ⟨d, op, ty, p, af, gu⟩ H) := aDraw_cons P md ops sp n0 i _ rest acc e H K
@[go_sem] theorem chk_nil : chk [] i F acc = True := rfl
end
@[go_sem] theorem chk_cons (p : Nat × Nat) (sp : List (Nat × Nat)) (i : Nat) (F : List Nat) (acc : List (Nat × List Nat)) : chk (p :: sp) i F acc = ∀ q ∈ acc, (q.1, i) ∈ (p :: sp) → ∀ x ∈ q.2, x ∉ F := rfl
@[go_sem] theorem footO_none (nid : Nat) (e : Env) (d : Option Tmp) (op : Op) (ty : TypeId) (p : String) (af : Array Edge) : footO nid e ⟨d, op, ty, p, af, none⟩ = foot nid e op := rfl
@[go_sem] theorem footO_some (nid : Nat) (e : Env) (d : Option Tmp) (op : Op) (ty : TypeId) (p : String) (af : Array Edge) (g : Nat × Bool) : footO nid e ⟨d, op, ty, p, af, some g⟩ = foot nid (gE e op) op := rfl
attribute [go_sem] foot makes heapy Op.operands Call.operands
@[go_sem] theorem idsAll_int (k : IntKind) (n : Int) : idsAll (.int k n) = [] := rfl
@[go_sem] theorem idsAll_bool (b : Bool) : idsAll (.bool b) = [] := rfl
@[go_sem] theorem idsAll_str (b : ByteArray) : idsAll (.str b) = [] := rfl
@[go_sem] theorem idsAll_nil : idsAll .nil = [] := rfl
@[go_sem] theorem idsAll_list (es : List (List D)) : idsAll (.list es) = [] := rfl
@[go_sem] theorem idsAll_adr (es : List D) : idsAll (.adr es) = [] := rfl
@[go_sem] theorem idsAll_nilp : idsAll .nilp = [] := rfl
@[go_sem] theorem idsAll_nilf : idsAll .nilf = [] := rfl
@[go_sem] theorem idsAll_fn (f : FuncId) (l : List D) : idsAll (.fn f l) = [] := rfl
@[go_sem] theorem idsAll_own (id n : Nat) : idsAll (.own id n) = [id] := rfl
@[go_sem] theorem idsAll_win (id n lo hi : Nat) : idsAll (.win id n lo hi) = [id] := rfl
@[go_sem] theorem idsAll_ptr (id v i o : Nat) : idsAll (.ptr id v i o) = [id] := rfl
@[go_sem] theorem idsAll_agg (l : List D) : idsAll (.agg l) = l.flatMap ids1 := rfl
@[go_sem] theorem idsAll_opt (t : Bool) (d : D) : idsAll (.opt t d) = [] := rfl
@[go_sem] theorem idsAll_junk : idsAll .junk = [] := rfl
@[go_sem] theorem idsAll_tup (l : List D) : idsAll (.tup l) = [] := rfl
/-! ### guards -/
def gV : D → Option (Bool × Bool)
  | .bool c => some (true, c)
  | .opt g (.bool c) => some (g, c)
  | _ => none
def gT (e : Env) : Option Tmp → Option (Bool × Bool)
  | some t => gV (e t)
  | none => none
@[go_sem] theorem gT_some (e : Env) (t : Nat) : gT e (some t) = gV (e t) := rfl
@[go_sem] theorem gV_bool (c : Bool) : gV (.bool c) = some (true, c) := rfl
@[go_sem] theorem gV_opt (g c : Bool) : gV (.opt g (.bool c)) = some (g, c) := rfl
section
variable (P : Program) (md : Nat → Bool) (nid : Nat) (ops : Array Oper) (e : Env) (d : Option Tmp) (op : Op) (ty : TypeId) (p : String) (af : Array Edge) (H : AHeap) (j : Nat) (b : Bool)
@[go_sem] theorem sem1_guard : sem1 P md nid ops e ⟨d, op, ty, p, af, some (j, b)⟩ H =
    semG (gD ops e j) b (ogs e (gO op)) (callOf (gE e op) ⟨d, op, ty, p, af, none⟩) (aOp P nid md (gE e op) ⟨d, op, ty, p, af, none⟩ H) := rfl
@[go_sem] theorem gD_row (l : List Oper) : gD l.toArray e j = gT e ((l[j]?).bind (·.dst)) := by
  unfold gD gT
  rw [List.getElem?_toArray]
  cases (l[j]?).bind (·.dst) with
  | none => rfl
  | some t => simp only [gV]; rfl
end
@[go_sem] theorem semG_call (t c b g : Bool) (f : FuncId) (args : List D) (o : AOut) : semG (some (t, c)) b g (some (f, args)) o = .gcall (t && (c == b)) g f args := rfl
@[go_sem] theorem semG_op (t c b g : Bool) (o : AOut) : semG (some (t, c)) b g none o = .gop (t && (c == b)) g o := rfl
attribute [go_sem] gE gO Operand.tmp.injEq ogs og callOf aOp Option.bind_some List.getElem?_cons_zero List.getElem?_cons_succ Bool.true_and Bool.and_true beq_false beq_true beq_self_eq_true
  List.append_nil Bool.and_self Bool.not_true Bool.not_false
@[go_sem] theorem strip_upd (e : Env) (d : Option Tmp) (v : D) (t : Nat) : strip (upd e d v) t = match upd e d v t with | .opt _ d => d | d => d := rfl
@[go_sem] theorem strip_envP (l : List D) (t : Nat) : strip (envP l) t = match envP l t with | .opt _ d => d | d => d := rfl
section
variable {P : Program} {md : Nat → Bool} {ops : Array Oper} {sp : List (Nat × Nat)} {n0 i : Nat} {rest : List Oper} {acc : List (Nat × List Nat)} {e : Env} {dst : Option Tmp} {K : Env → AHeap → Prop} {f : FuncId} {args args' : List D} {H : AHeap} {r : D}
theorem chk_empty : chk sp i [] acc := by
  unfold chk
  cases sp with
  | nil => trivial
  | cons => intro p hp _ x _; simp
theorem dcallQ_pure0 (hp : Pure P f args r) (hcl : D.clL args = true) (h : aDraw P md ops sp n0 (i + 1) rest ((i, []) :: acc) (upd e dst r) H K) : dcallQ P md ops sp n0 i rest acc e dst K f args H :=
  .inl ⟨r, [], fun H' _ => ACalls.pure0 hp hcl ⟨rfl, rfl⟩, chk_empty, h⟩
theorem dgcallQ_pure0 {t : Bool} (hp : t = true → Pure P f args r) (hcl : t = true → D.clL args = true) (h : aDraw P md ops sp n0 (i + 1) rest ((i, []) :: acc) (upd e dst (.opt t r)) H K) : dgcallQ P md ops sp n0 i rest acc e dst K t f args H :=
  ⟨r, [], fun ht H' _ => ACalls.pure0 (hp ht) (hcl ht) ⟨rfl, rfl⟩, chk_empty, h⟩
theorem gcallQ_pure0 {t : Bool} (hp : t = true → Pure P f args r) (hcl : t = true → D.clL args = true) (h : aOps P md ops rest (upd e dst (.opt t r)) H K) : gcallQ P md ops rest e dst K t f args H := by
  unfold gcallQ
  exact .inl ⟨r, [], fun ht H' _ => ACalls.pure0 (hp ht) (hcl ht) ⟨rfl, rfl⟩, h⟩
theorem rsv1_agree {S : List Nat} {H' : AHeap} (ha : Agree S H' H) {d : D} (hd : ∀ x ∈ ids1 d, x ∈ S) : rsv1 H' d = rsv1 H d := by
  cases d <;> try rfl
  · rename_i id n
    have := ha id (hd id (by simp [ids1]))
    simp only [rsv1, this]
  · rename_i id n lo hi
    have := ha id (hd id (by simp [ids1]))
    simp only [rsv1, this]
theorem rsvD_agree {S : List Nat} {H' : AHeap} (ha : Agree S H' H) {d : D} (hd : ∀ x ∈ ownIds d, x ∈ S) : rsvD H' d = rsvD H d := by
  cases d <;> try rfl
  case own id n => exact rsv1_agree (d := .own id n) ha hd
  case win id n lo hi => exact rsv1_agree (d := .win id n lo hi) ha hd
  case agg l =>
    simp only [rsvD]
    congr 1
    exact List.map_congr_left fun x hx => rsv1_agree ha fun y hy => hd y (by simp only [ownIds, List.mem_flatMap]; exact ⟨x, hx, hy⟩)
theorem args_agree {S : List Nat} {H' : AHeap} (ha : Agree S H' H) {l : List D} (hd : ∀ x ∈ l.flatMap ownIds, x ∈ S) : l.map (rsvD H') = l.map (rsvD H) :=
  List.map_congr_left fun d hm => rsvD_agree ha fun x hx => hd x (List.mem_flatMap.2 ⟨d, hm, hx⟩)
end
/-! ### calls of function values -/
def callV : D → List D → Option (FuncId × List D)
  | .fn g caps, az => some (g, az ++ caps)
  | _, _ => none
@[go_sem] theorem callV_fn (g : FuncId) (caps az : List D) : callV (.fn g caps) az = some (g, az ++ caps) := rfl
theorem callOf_row (e : Env) (d : Option Tmp) (f : Operand) (args : Array Operand) (ts : Array TypeId) (ty : TypeId) (p : String) (af : Array Edge) (g : Option (Nat × Bool)) :
    callOf e ⟨d, .call ⟨.value f, args, ts⟩, ty, p, af, g⟩ = callV (evD e f) (args.toList.map (evD e)) := by
  simp only [callOf, callV]
  cases evD e f <;> rfl
@[go_sem] theorem s_callv (P : Program) (md : Nat → Bool) (nid : Nat) (ops : Array Oper) (e : Env) (d : Option Tmp) (ty : TypeId) (p : String) (af : Array Edge) (H : AHeap) (t : Nat) (args : Array Operand) (ts : Array TypeId) :
    sem1 P md nid ops e ⟨d, .call ⟨.value (.tmp t), args, ts⟩, ty, p, af, none⟩ H = semC (callV (e t) (args.toList.map (evD e))) (.bad H) := by
  simp only [sem1, callOf_row]
  rfl
attribute [go_sem] decide_eq_true_eq List.nil_append List.cons_append
attribute [irreducible] dcallQ dgcallQ
end Go.Abs
end
