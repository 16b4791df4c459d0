/- The abstraction layer, part I: the operations that only comp -/
import Derived.Test.YtiklfilfhnfagaaGreatZfB
set_option linter.unusedVariables false
set_option linter.unusedSimpArgs false
section
namespace Go.Abs
section
variable {P:Program} {M0:Nat→Prop} {H:AHeap} {σ:Nat→Option Ow} {w:World}
theorem Rz {M:Nat→Prop}{N:Nat→Prop}{v:Value}{cs:List D}(off:Nat)(h:RepV M σ N w v (.adr cs)) :
  ∃ a,v=.pointer (some a)∧RepV M σ N w (.pointer (some (a.add off))) (.adr (cs.drop off)):=by
 obtain ⟨ad,xs,rfl,hrep,h1,hcell⟩:=Jf h
 refine ⟨ad,rfl,.adr _ (xs.drop off) _ (by simp [hrep.len]) (fun u hu=>h1 u (dL hu)) (fun j u hu=>?_) fun j u d hu hd=>?_⟩
 ·rw [bG] at hu
  obtain ⟨h2,h3⟩:=hcell _ u hu
  rw [gP,xW]
  exact ⟨h2,h3⟩
 ·rw [bG] at hu hd
  exact hrep.rep _ u d hu hd
theorem Nu {v:Value}{id ver i off:Nat}{k:Blk}(hR:Rel M0 H σ w)(hx:RepV (cF M0 H σ) σ H.al w v (.ptr id ver i off))(hk:H.get id=some k)(hv:k.es.length=ver) :
  ∃ b o,σ id=some o∧o.block=some b∧v=.pointer (some ⟨b,i * o.esz+off,none⟩)∧H.al id∧o.ver=ver:=by
 obtain ⟨o,ho,l⟩:=hR.lies id k hk
 cases hx
 rename_i h1 hN h
 have hov:o.ver=k.es.length:=l.ver
 rcases h o ho with h'|⟨h2,b,hb,rfl⟩
 ·omega
 ·exact ⟨b,o,ho,hb,rfl,by assumption,h2.symm⟩
theorem C8 {v : Value} {x : D} {off : Nat} (hR : Rel M0 H σ w) (hx : RepV (cF M0 H σ) σ H.al w v x) (hc : (dS x off H).cond) :
    ∃ a, v = .pointer (some a) ∧ RepV (cF M0 H σ) σ H.al w (.pointer (some (a.add off))) (dS x off H).val ∧ (dS x off H).heap = H ∧ (dS x off H).fact := by
  unfold dS at *
  cases x <;> try (exact hc.elim)
  case adr cs =>
    obtain ⟨a, h1, h2⟩ := Rz off hx
    exact ⟨a, h1, h2, rfl, trivial⟩
  case ptr id ver i o =>
    cases hk : H.get id with
    | none => simp [hk, AOut.bad] at hc
    | some k =>
      simp only [hk] at hc ⊢
      obtain ⟨b, ow, ho, hb, rfl, hN, hver⟩ := Nu hR hx hk hc
      refine ⟨_, rfl, ?_, trivial, trivial⟩
      rw [gX]
      refine .ptr _ id ver i (o + off) hN rfl fun o' ho' => ?_
      rw [ho] at ho'; cases ho'
      exact .inr ⟨hver.symm, b, hb, by rw [zN]⟩
theorem Dn {t : TypeId} {vx : Value} {x : D} {f : Nat} (hR : Rel M0 H σ w) (hx : RepV (cF M0 H σ) σ H.al w vx x) (hc : (gS P t x f H).cond) :
    (gS P t x f H).fact ∧ OpS P (Instr.fieldAt t vx f) M0 H σ w (gS P t x f H).val (gS P t x f H).heap := by
  unfold gS at *
  cases hb : bk P t with
  | none => simp [hb, AOut.bad] at hc
  | some b =>
    cases b with
    | ar sz => simp [hb, AOut.bad] at hc
    | st l =>
      simp only [hb] at hc ⊢
      cases hf : l[f]? with
      | none => simp [hf, AOut.bad] at hc
      | some q =>
        obtain ⟨off, sz⟩ := q
        simp only [hf] at hc ⊢
        obtain ⟨a, rfl, hrep, hh, hfact⟩ := C8 hR hx hc.1
        refine ⟨hfact, ?_⟩
        rw [hh]
        unfold bk at hb
        cases hu : P.underlying t with
        | none => simp [hu] at hb
        | some de =>
          rw [hu] at hb
          cases de <;> simp at hb
          rename_i fs
          have hq : ∃ fl, fs[f]? = some fl ∧ ∃ i, P.info? fl.type = some i ∧ off = fl.offset ∧ sz = i.size := by
            have key : ∀ (fl : List Field) (l : List (Nat × Nat)) (f : Nat), fl.mapM (fun f => (P.info? f.type).map fun i => (f.offset, i.size)) = some l → l[f]? = some (off, sz) →
                ∃ x, fl[f]? = some x ∧ ∃ i, P.info? x.type = some i ∧ off = x.offset ∧ sz = i.size := by
              intro fl
              induction fl with
              | nil => intro l f h hl; simp at h; subst h; simp at hl
              | cons a fl ih =>
                intro l f h hl
                simp only [List.mapM_cons, Option.bind_eq_bind, Option.pure_def] at h
                cases hi : P.info? a.type with
                | none => simp [hi] at h
                | some i =>
                  cases hr : fl.mapM (fun f => (P.info? f.type).map fun i => (f.offset, i.size)) with
                  | none => simp [hi, hr] at h
                  | some rest =>
                    simp [hi, hr] at h
                    subst h
                    cases f with
                    | zero => simp at hl; exact ⟨a, rfl, i, hi, hl.1.symm, hl.2.symm⟩
                    | succ f => simp at hl; obtain ⟨x, hx, h'⟩ := ih rest f hr hl; exact ⟨x, by simpa using hx, h'⟩
            obtain ⟨x, hx, h'⟩ := key fs.toList l f hb hf
            exact ⟨x, by simpa using hx, h'⟩
          obtain ⟨fl, hfl, i, hi, rfl, rfl⟩ := hq
          have hne : i.size ≠ 0 := by have := hc.2; omega
          exact .pure hR (by simp [Instr.fieldAt, run_underlying hu, hfl, Instr.sureAddr, fieldPlace, sizeOf, typeInfo, hi, hne]) hrep
theorem Lk {t:TypeId}{n sz:Nat}(h:Rx P t=some (n,sz)):∃ e i,P.underlying t=some (.array n e)∧P.info? e=some i∧i.size=sz:=by
 unfold Rx at h
 split at h
 ·rename_i n' e hu
  split at h
  ·rename_i i hi;simp at h;obtain ⟨rfl,rfl⟩:=h;exact ⟨e,i,hu,hi,rfl⟩
  ·cases h
 ·cases h
theorem Dl {t : TypeId} {vx vi : Value} {x i : D} (hR : Rel M0 H σ w) (hx : RepV (cF M0 H σ) σ H.al w vx x) (hi : RepV (cF M0 H σ) σ H.al w vi i) (hc : (gQ P t x i H).cond) :
    (gQ P t x i H).fact ∧ OpS P (Instr.indexAt t vx vi) M0 H σ w (gQ P t x i H).val (gQ P t x i H).heap := by
  unfold gQ at *
  cases i <;> try (exact hc.elim)
  rename_i kd n
  cases hi
  have other : ∀ (x : D), RepV (cF M0 H σ) σ H.al w vx x → (match Rx P t with
      | some (len, sz) => (⟨(dS x (n.toNat * sz) H).cond ∧ 0 ≤ n ∧ n < len, (dS x (n.toNat * sz) H).fact, (dS x (n.toNat * sz) H).val, (dS x (n.toNat * sz) H).heap⟩ : AOut)
      | none => AOut.bad H).cond → (match Rx P t with
      | some (len, sz) => (⟨(dS x (n.toNat * sz) H).cond ∧ 0 ≤ n ∧ n < len, (dS x (n.toNat * sz) H).fact, (dS x (n.toNat * sz) H).val, (dS x (n.toNat * sz) H).heap⟩ : AOut)
      | none => AOut.bad H).fact ∧ OpS P (Instr.indexAt t vx (.int kd n)) M0 H σ w (match Rx P t with
      | some (len, sz) => (⟨(dS x (n.toNat * sz) H).cond ∧ 0 ≤ n ∧ n < len, (dS x (n.toNat * sz) H).fact, (dS x (n.toNat * sz) H).val, (dS x (n.toNat * sz) H).heap⟩ : AOut)
      | none => AOut.bad H).val (match Rx P t with
      | some (len, sz) => (⟨(dS x (n.toNat * sz) H).cond ∧ 0 ≤ n ∧ n < len, (dS x (n.toNat * sz) H).fact, (dS x (n.toNat * sz) H).val, (dS x (n.toNat * sz) H).heap⟩ : AOut)
      | none => AOut.bad H).heap := by
    intro x hx hc
    cases ha : Rx P t with
    | none => simp [ha, AOut.bad] at hc
    | some q =>
      obtain ⟨len, sz⟩ := q
      simp only [ha] at hc ⊢
      obtain ⟨h1, h2, h3⟩ := hc
      obtain ⟨a, rfl, hrep, hh, hfact⟩ := C8 hR hx h1
      refine ⟨hfact, ?_⟩
      rw [hh]
      obtain ⟨e, i, hu, hie, hisz⟩ := Lk ha
      exact .pure hR (by simp [Instr.indexAt, run_underlying hu, asIntOf, Instr.sureAddr, h2, h3, sizeOf, typeInfo, hie, hisz]) hrep
  cases x <;> try (exact other _ hx hc)
  case list es =>
    cases hs : sl P t with
    | none => simp [hs, AOut.bad] at hc
    | some s =>
      simp only [hs] at hc ⊢
      obtain ⟨⟨h0, h1⟩, h2⟩ := hc
      obtain ⟨hu, ti, z, hti, hz, hisz, _, hsz, _⟩ := pZ hs
      obtain ⟨q, rfl⟩ := eI h0
      simp only [Int.toNat_natCast] at h2 ⊢
      have hq : q < es.length := by omega
      have hget : es[q]? = some es[q] := aA hq
      rw [hget] at h2 ⊢
      simp only [aF] at h2 ⊢
      refine ⟨trivial, ?_⟩
      rcases qW hx with ⟨rfl, rfl⟩ | ⟨ad, cap, sz, xs, rfl, hrep, hx1, hcell, hle, hm, hszs⟩
      · simp at hq
      · have hsz' : sz = s.sz := (hszs _ (aC hq)).symm.trans h2
        subst hsz'
        have hfl := jG es hszs
        have hbound : q * s.sz + s.sz ≤ xs.length := by
          rw [hrep.len, hfl]
          have : (q + 1) * s.sz ≤ es.length * s.sz := bZ _ hq
          rw [Nat.add_mul] at this; omega
        refine .pure hR (v := .pointer (some (ad.add (q * s.sz)))) (by simp [Instr.indexAt, run_underlying hu, asIntOf, hq, sizeOf, typeInfo, hti, hisz]) ?_
        refine .adr _ ((xs.drop (q * s.sz)).take s.sz) _ (by simp only [bL, dY]; omega) (fun u hu => hx1 u (dL (bN hu))) (fun j u hu => ?_) fun j u d hu hd => ?_
        · rw [bI] at hu
          split at hu
          · rw [bG] at hu
            obtain ⟨h5, h6⟩ := hcell _ u hu
            rw [gP, xW]
            exact ⟨h5, h6⟩
          · cases hu
        · rw [bI] at hu
          split at hu
          · rename_i hj
            rw [bG] at hu
            exact hrep.rep _ u d hu (by rw [jQ es q _ hszs hget j hj]; exact hd)
          · cases hu
  case own id m =>
    cases hs : sl P t with
    | none => simp [hs, AOut.bad] at hc
    | some s =>
      cases hk : H.get id with
      | none => simp [hs, hk, AOut.bad] at hc
      | some k =>
        simp only [hs, hk] at hc ⊢
        obtain ⟨⟨h0, h1⟩, h2, h3⟩ := hc
        obtain ⟨hu, ti, z, hti, hz, hisz, _, hsz, _⟩ := pZ hs
        obtain ⟨q, rfl⟩ := eI h0
        simp only [Int.toNat_natCast] at h3 ⊢
        have hq : q < k.es.length := by omega
        have hqm : q < m := by omega
        refine ⟨trivial, ?_⟩
        obtain ⟨o, ho, l⟩ := hR.lies id k hk
        have hesz : o.esz = s.sz := by
          rw [aA hq] at h3
          simp only [aF] at h3
          exact (l.esz _ (aC hq)).symm.trans h3
        have hN : H.al id := by cases hx; assumption
        rcases Ny hR hx hk h2 with ⟨rfl, rfl⟩ | ⟨b, cap, rfl, hle, hm, o', ho', hb, _, hver⟩
        · omega
        · rw [ho] at ho'; cases ho'
          refine .pure hR (v := .pointer (some ⟨b, q * s.sz, none⟩)) (by simp [Instr.indexAt, run_underlying hu, asIntOf, hqm, sizeOf, typeInfo, hti, hisz, gX]) ?_
          refine .ptr _ id m q 0 hN rfl fun o' ho' => ?_
          rw [ho] at ho'; cases ho'
          exact .inr ⟨hver.symm, b, hb, by rw [hesz]; simp⟩
theorem J8 {vc va vb:Value}{c a b:D}(hR:Rel M0 H σ w)(hcv:RepV (cF M0 H σ) σ H.al w vc c)(ha:RepV (cF M0 H σ) σ H.al w va a)(hb:RepV (cF M0 H σ) σ H.al w vb b)
  (hc:(sV c a b H).cond):(sV c a b H).fact∧OpS P (do pure (if ← asBool vc then va else vb)) M0 H σ w (sV c a b H).val (sV c a b H).heap:=by
 unfold sV at *
 split at hc
 ·cases hcv;cases ha
  exact ⟨trivial,.pure hR (by simp [asBool]) (.bool _)⟩
 ·cases hcv;cases ha
  rename_i h
  have:=h hc
  cases this
  exact ⟨trivial,.pure hR (by simp [asBool]) (.bool _)⟩
 ·cases hcv;cases hb
  exact ⟨trivial,.pure hR (by simp [asBool]) (.bool _)⟩
 ·cases hcv;cases hb
  rename_i h
  have:=h hc
  cases this
  exact ⟨trivial,.pure hR (by simp [asBool]) (.bool _)⟩
 ·exact hc.elim
theorem Mc {vc va vb : Value} {c a b : D} (hR : Rel M0 H σ w) (hcv : RepV (cF M0 H σ) σ H.al w vc c) (ha : RepV (cF M0 H σ) σ H.al w va a) (hb : RepV (cF M0 H σ) σ H.al w vb b)
    (hc : (xY c a b H).cond) : (xY c a b H).fact ∧ OpS P (do pure (if ← asBool vc then va else vb)) M0 H σ w (xY c a b H).val (xY c a b H).heap := by
  unfold xY at *
  split at hc
  · rename_i c a b
    cases hcv; cases ha; cases hb
    cases c <;> exact ⟨trivial, .pure hR (by simp [asBool]) (.bool _)⟩
  · rename_i c a g b
    cases hcv; cases ha; cases hb
    rename_i h
    cases c with
    | true => exact ⟨trivial, .pure hR (by simp [asBool]) (.bool _)⟩
    | false =>
      have := h (hc rfl)
      cases this
      exact ⟨trivial, .pure hR (by simp [asBool]) (.bool _)⟩
  · rename_i c g a b
    cases hcv; cases ha; cases hb
    rename_i h
    cases c with
    | false => exact ⟨trivial, .pure hR (by simp [asBool]) (.bool _)⟩
    | true =>
      have := h (hc rfl)
      cases this
      exact ⟨trivial, .pure hR (by simp [asBool]) (.bool _)⟩
  · rename_i c g a g' b
    cases hcv; cases ha; cases hb
    rename_i hf1 h hf2 h'
    cases c with
    | false =>
      have := h' (hc.2 rfl)
      cases this
      exact ⟨trivial, .pure hR (by simp [asBool]) (.bool _)⟩
    | true =>
      have := h (hc.1 rfl)
      cases this
      exact ⟨trivial, .pure hR (by simp [asBool]) (.bool _)⟩
  · exact J8 hR hcv ha hb hc
theorem Hg {mx:Bool}{b:Builtin}(hb:b=if mx then .max else .min){t:TypeId}{ts:Array TypeId}{vx vy:Value}{x y:D}(hR:Rel M0 H σ w)(hx:RepV (cF M0 H σ) σ H.al w vx x)(hy:RepV (cF M0 H σ) σ H.al w vy y)
  (hc:(Bu mx x y H).cond):(Bu mx x y H).fact∧OpS P (if mx then Builtin.max_ ts t #[vx,vy] else Builtin.min_ ts t #[vx,vy]) M0 H σ w (Bu mx x y H).val (Bu mx x y H).heap:=by
 unfold Bu at *
 split at hc
 ·obtain rfl:=hc
  cases hx;cases hy
  cases mx with
  | true=>exact ⟨trivial,.pure hR (by simp [Builtin.max_,Builtin.max2]) (.int _ _)⟩
  | false=>exact ⟨trivial,.pure hR (by simp [Builtin.min_,Builtin.min2]) (.int _ _)⟩
 ·exact hc.elim
theorem GB {s d:TypeId}{vx:Value}{x:D}(hR:Rel M0 H σ w)(hx:RepV (cF M0 H σ) σ H.al w vx x)(hc:(lS P s d x H).cond) :
  (lS P s d x H).fact∧OpS P (convert s d vx) M0 H σ w (lS P s d x H).val (lS P s d x H).heap:=by
 unfold lS at *
 split at hc
 ·rename_i k0 n
  split at hc
  ·rename_i k hk
   cases hx
   obtain ⟨h1,h2⟩:=hc
   obtain ⟨ds,hds⟩:=jR.1 h1
   unfold Mn at hk
   split at hk
   ·rename_i k' hu
    cases hk
    exact ⟨trivial,.pure hR (by simp [convert,run_underlying hds,run_underlying hu,Conv.intToInt,qI h2]) (.int _ _)⟩
   ·cases hk
  ·exact hc.elim
 ·split at hc
  ·rename_i hu1 hu2
   cases hx
   exact ⟨trivial,.pure hR (by simp [convert,run_underlying hu1,run_underlying hu2]) (.str _)⟩
  ·exact hc.elim
 ·exact hc.elim
theorem P9 {op:UnOp}{vx:Value}{x:D}(hR:Rel M0 H σ w)(hx:RepV (cF M0 H σ) σ H.al w vx x)(hc:(RB op x H).cond) :
  (RB op x H).fact∧OpS P (Op.unary op vx) M0 H σ w (RB op x H).val (RB op x H).heap:=by
 unfold RB at *
 split at hc
 ·cases hx;exact ⟨trivial,.pure hR (by simp [Op.unary]) (.bool _)⟩
 ·cases hx;exact ⟨trivial,.pure hR (by simp [Op.unary,Op.intArith];rw [qI (by simpa using hc)]) (by simpa using RepV.int _ _)⟩
 ·exact hc.elim
theorem Gx {vx:Value}{x:D}{i:Nat}(hR:Rel M0 H σ w)(hx:RepV (cF M0 H σ) σ H.al w vx x)(hc:(lR x i H).cond) :
  (lR x i H).fact∧OpS P (Instr.extract vx i) M0 H σ w (lR x i H).val (lR x i H).heap:=by
 unfold lR at *
 cases x<;>try (exact hc.elim)
 rename_i vs
 cases hx
 rename_i xs hl hr
 simp only at hc ⊢
 have hi:i<xs.length:=by rw [hl];exact hc
 refine ⟨trivial,.pure hR (v:=xs[i]) (by simp [Instr.extract,hi]) ?_⟩
 rw [aA hc]
 exact hr i _ _ (aA hi) (aA hc)
theorem Hd {nid : Nat} (hn : ¬ H.al nid) {m : Bool} {t : TypeId} {x : Sem Value} (hR : Rel M0 H σ w) (hx : x.run P w = .ok (.slice none 0 0) w) (hc : (Cy P nid m t H).cond) :
    (Cy P nid m t H).fact ∧ OpS P x M0 H σ w (Cy P nid m t H).val (Cy P nid m t H).heap := by
  unfold Cy at *
  cases m with
  | false => exact ⟨trivial, .pure hR hx .nil⟩
  | true =>
    simp only [if_true] at hc ⊢
    cases hs : sl P t with
    | none => simp [hs, AOut.bad] at hc
    | some s =>
      simp only
      have hp := Rel.push hR nid hn (w' := w) rfl rfl rfl (aL _) (fun _ _ => rfl) ⟨s.e, s.sz, [], false⟩ ⟨0, .slice none 0 0, s.sz, s.e⟩ (fun b hb => by simp [Ow.block, Value.ownBlock] at hb) rfl rfl rfl (by simp)
        [] (World.ownsRow_nil w 0 s.e s.sz) (by simp) ⟨rfl, fun j u d hu => by simp at hu⟩
      refine ⟨trivial, _, w, _, hx, hp.1, .own _ nid 0 (.inl rfl) rfl fun o ho => ?_, hp.2.1, hp.2.2⟩
      simp at ho; subst ho; exact .inr ⟨rfl, rfl⟩
theorem EP {vx : Value} {x : D} (hR : Rel M0 H σ w) (hx : RepV (cF M0 H σ) σ H.al w vx x) (hc : (iQ x H).cond) :
    ∃ a, vx = .pointer (some a) ∧ (iQ x H).fact ∧ RepV (cF M0 H σ) σ H.al w vx (iQ x H).val ∧ (iQ x H).heap = H := by
  unfold iQ at *
  cases x <;> try (exact hc.elim)
  case adr cs =>
    obtain ⟨ad, xs, rfl, _⟩ := Jf hx
    exact ⟨ad, rfl, trivial, hx, rfl⟩
  case ptr id ver i o =>
    cases hk : H.get id with
    | none => simp [hk, AOut.bad] at hc
    | some k =>
      simp only [hk] at hc ⊢
      obtain ⟨b, ow, ho, hb, rfl, hN, hver⟩ := Nu hR hx hk hc
      exact ⟨_, rfl, trivial, hx, trivial⟩
end
end Go.Abs
end
section
namespace Go.Abs
section
variable {P:Program} {M0:Nat→Prop} {H:AHeap} {σ:Nat→Option Ow} {w:World}
theorem x8 {M : Nat → Prop} {N : Nat → Prop} {vo : Option Value} {xo : Option D} {dflt n : Int} (h : ∀ v x, vo = some v → xo = some x → RepV M σ N w v x) (hs : vo.isSome = xo.isSome) (hn : RI xo dflt = some n) :
    (vo = none ∧ n = dflt) ∨ ∃ k, vo = some (.int k n) := by
  cases xo with
  | none => cases vo with
    | none => simp [RI] at hn; exact .inl ⟨rfl, hn.symm⟩
    | some v => simp at hs
  | some x => cases vo with
    | none => simp at hs
    | some v =>
      have := h v x rfl rfl
      cases x <;> simp [RI] at hn
      subst hn
      cases this
      exact .inr ⟨_, rfl⟩
theorem yA {e:TypeId}{t:TypeId}(hu:P.underlying t=some (.slice e)){ti:TypeInfo}(hti:P.info? e=some ti)(a:Option Addr)(len cap:Nat)(hlc:len≤cap)(lo hi:Option Value)(l h:Int)
  (hl:(lo=none∧l=0)∨∃ k,lo=some (.int k l)) (hh:(hi=none∧h=len)∨∃ k,hi=some (.int k h)) (h0:0≤l) (h1:l≤h) (h2:h≤len) :
  (Instr.sliceAt t (.slice a len cap) lo hi none).run P w=.ok (.slice (if cap=l.toNat then a else a.map (·.add (l.toNat * ti.size))) (h.toNat - l.toNat) (cap - l.toNat)) w:=by
 have hcap:h≤(cap:Int):=by omega
 have hb:∀ (x:Nat) (k:IntKind) (i:Int) (code:BoundsCode),0≤i→i≤(x:Int)→(Instr.sliceBound (.int k i) x code).run P w=.ok i.toNat w:=by
  intro x k i code hi0 hi1
  simp [Instr.sliceBound,asIntOf,hi0,hi1]
 rcases hl with ⟨rfl,rfl⟩|⟨kl,rfl⟩<;>rcases hh with ⟨rfl,rfl⟩|⟨kh,rfl⟩
 ·simp [Instr.sliceAt,Instr.slice,run_underlying hu,Instr.sliceBounds,sizeOf,typeInfo,hti]
 ·simp [Instr.sliceAt,Instr.slice,run_underlying hu,Instr.sliceBounds,sizeOf,typeInfo,hti,hb _ _ _ _ (by omega:(0:Int)≤h) hcap]
 ·simp [Instr.sliceAt,Instr.slice,run_underlying hu,Instr.sliceBounds,sizeOf,typeInfo,hti,hb len _ _ _ h0 h1]
 ·have hlh:l≤(h.toNat:Int):=by omega
  simp [Instr.sliceAt,Instr.slice,run_underlying hu,Instr.sliceBounds,sizeOf,typeInfo,hti,hb _ _ _ _ (by omega:(0:Int)≤h) hcap,hb _ _ _ _ h0 hlh]
theorem Gi {t:TypeId}(hu:P.underlying t=some .string)(s:ByteArray)(lo hi:Option Value)(l h:Int)
  (hl:(lo=none∧l=0)∨∃ k,lo=some (.int k l)) (hh:(hi=none∧h=s.size)∨∃ k,hi=some (.int k h)) (h0:0≤l) (h1:l≤h) (h2:h≤s.size) :
  (Instr.sliceAt t (.string s) lo hi none).run P w=.ok (.string (s.extract l.toNat h.toNat)) w:=by
 have hb:∀ (x:Nat) (k:IntKind) (i:Int) (code:BoundsCode),0≤i→i≤(x:Int)→(Instr.sliceBound (.int k i) x code).run P w=.ok i.toNat w:=by
  intro x k i code hi0 hi1
  simp [Instr.sliceBound,asIntOf,hi0,hi1]
 rcases hl with ⟨rfl,rfl⟩|⟨kl,rfl⟩<;>rcases hh with ⟨rfl,rfl⟩|⟨kh,rfl⟩
 ·simp [Instr.sliceAt,Instr.slice,run_underlying hu,Instr.sliceBounds]
 ·simp [Instr.sliceAt,Instr.slice,run_underlying hu,Instr.sliceBounds,hb _ _ _ _ (by omega:(0:Int)≤h) h2]
 ·simp [Instr.sliceAt,Instr.slice,run_underlying hu,Instr.sliceBounds,hb s.size _ _ _ h0 h1]
 ·have hlh:l≤(h.toNat:Int):=by omega
  simp [Instr.sliceAt,Instr.slice,run_underlying hu,Instr.sliceBounds,hb _ _ _ _ (by omega:(0:Int)≤h) h2,hb _ _ _ _ h0 hlh]
theorem JJ {t:TypeId}{vx:Value}{x:D}{vlo vhi:Option Value}{lo hi:Option D}(hR:Rel M0 H σ w)(hx:RepV (cF M0 H σ) σ H.al w vx x)
  (hlo:∀ v x,vlo=some v→lo=some x→RepV (cF M0 H σ) σ H.al w v x) (hlo':vlo.isSome=lo.isSome)
  (hhi:∀ v x,vhi=some v→hi=some x→RepV (cF M0 H σ) σ H.al w v x) (hhi':vhi.isSome=hi.isSome) (hc:(oU P t x lo hi H).cond) :
  (oU P t x lo hi H).fact∧OpS P (Instr.sliceAt t vx vlo vhi none) M0 H σ w (oU P t x lo hi H).val (oU P t x lo hi H).heap:=by
 unfold oU at *
 split at hc
 ·rename_i es
  split at hc
  ·rename_i s l h hs hl hh
   obtain ⟨h0,h1,h2,h3⟩:=hc
   obtain ⟨hu,ti,z,hti,hz,hisz,_,hsz,_,_,hszl,_⟩:=pZ hs
   have rl:=x8 hlo hlo' hl
   have rh:=x8 hhi hhi' hh
   obtain ⟨a,rfl⟩:=eI h0
   obtain ⟨b,rfl⟩:=eI (Int.le_trans h0 h1)
   simp only [Int.toNat_natCast]
   have hab:a≤b:=by omega
   have hbl:b≤es.length:=by omega
   refine ⟨trivial,?_⟩
   rcases qW hx with ⟨rfl,rfl⟩|⟨ad,cap,sz,xs,rfl,hrep,hx1,hcell,hle,hm,hszs⟩
   ·have hrun:=yA (P:=P) (w:=w) hu hti none 0 0 (aL _) vlo vhi a b rl rh h0 h1 (by simpa using h2)
    simp at hbl
    subst hbl
    have:a=0:=by omega
    subst this
    refine .pure hR hrun ?_
    simpa using RepV.listN
   ·have hrun:=yA (P:=P) (w:=w) hu hti (some ad) es.length cap hle vlo vhi a b rl rh h0 h1 h2
    simp only [Int.toNat_natCast,dK] at hrun
    have hlen:((es.take b).drop a).length=b - a:=by simp;omega
    have hsz':es≠[]→sz=s.sz:=fun hne=>by
     cases es with
     | nil=>exact absurd rfl hne
     | cons e es=>simp at h3;exact (hszs e (by simp)).symm.trans h3
    rw [hisz] at hrun
    refine .pure hR hrun ?_
    have hmem:∀ c∈(es.take b).drop a,c.length=sz:=fun c hc=>hszs c (bN (dL hc))
    have hflat:((es.take b).drop a).flatten=(es.flatten.take (b * sz)).drop (a * sz):=by
     rw [nT _ a (fun c hc=>hszs c (bN hc)),nS _ b hszs]
    by_cases hcp:cap=a
    ·have hba:b=a:=by omega
     subst hba
     simp only [hcp,if_true]
     have hnil:(es.take b).drop b=[]:=iR (by simp;omega)
     rw [hnil]
     have:=RepV.list (M:=cF M0 H σ) (σ:=σ) (N:=H.al) (w:=w) ad (b - b) 0 [] [] (by simp) (by simp) (by simp) rfl (by simp) (fun j u hu=>by simp at hu) (fun j u d hu=>by simp at hu)
     simpa using this
    ·rw [if_neg hcp]
     have hv:=RepV.list (M:=cF M0 H σ) (σ:=σ) (N:=H.al) (w:=w) (ad.add (a * s.sz)) (cap - a) sz ((xs.take (b * sz)).drop (a * sz)) ((es.take b).drop a) (by rw [hlen];omega) (by omega) hmem
      (by rw [hflat];simp [hrep.len]) (fun u hu=>hx1 u (bN (dL hu))) (fun j u hu=>by
       rw [bG,bI] at hu
       split at hu
       ·obtain ⟨h5,h6⟩:=hcell _ u hu
        rw [gP,xW]
        refine ⟨h5,?_⟩
        rw [← hsz' (fun e=>by subst e;simp at hbl;subst hbl;simp at *)]
        exact h6
       ·cases hu) (fun j u d hu hd=>by
       rw [hflat,bG,bI] at hd
       rw [bG,bI] at hu
       split at hu
       ·rename_i hj;rw [if_pos hj] at hd;exact hrep.rep _ u d hu hd
       ·cases hu)
     rw [hlen] at hv
     exact hv
  ·exact hc.elim
 ·rename_i id m
  split at hc
  ·rename_i s k l h hs hk hl hh
   obtain ⟨⟨h0,h1,h2⟩,hkm,hks⟩:=hc
   obtain ⟨hu,ti,z,hti,hz,hisz,_⟩:=pZ hs
   have rl:=x8 hlo hlo' hl
   have rh:=x8 hhi hhi' hh
   obtain ⟨a,rfl⟩:=eI h0
   obtain ⟨b,rfl⟩:=eI (Int.le_trans h0 h1)
   simp only [Int.toNat_natCast]
   obtain ⟨o,ho,lz⟩:=hR.lies id k hk
   obtain ⟨xs,hrow,_,_⟩:=lz.row
   cases hx
   rename_i hone hN h
   refine ⟨trivial,?_⟩
   rcases h o ho with h'|⟨h2',rfl⟩
   ·have:=lz.ver;omega
   ·have hso:∀ o',σ id=some o'→o'=o:=fun o' ho'=>by rw [ho] at ho';exact (Option.some.inj ho').symm
    rcases hrow.2 with ⟨hnil,hz0⟩|⟨g,cap,cur,hval,hb0,hg,hnc,hcm,hcs,htake⟩
    ·have hrun:=yA (P:=P) (w:=w) hu hti none 0 0 (aL _) vlo vhi a b rl (by rw [show m=0 by omega] at rh;exact rh) h0 h1 (by omega)
     have ha:a=0:=by omega
     have hb:b=0:=by omega
     subst ha hb
     rw [hnil]
     refine .pure hR (by simpa using hrun) (.win _ id m 0 0 hN rfl ⟨aL _,dE _⟩ fun o' ho'=>.inr ⟨?_,.inl ⟨?_,rfl,rfl⟩⟩)
     ·rw [hso o' ho'];omega
     ·rw [hso o' ho'];exact hnil
    ·have hrun:=yA (P:=P) (w:=w) hu hti (some ⟨g,0,none⟩) k.es.length cap hnc vlo vhi a b rl (by rw [hkm];exact rh) h0 h1 (by omega)
     rw [hval]
     refine .pure hR hrun ?_
     refine .win _ id m a b hN rfl ⟨by omega,by omega⟩ fun o' ho'=>.inr ⟨?_,.inr ⟨g,cap,?_,by omega,?_⟩⟩
     ·rw [hso o' ho'];omega
     ·rw [hso o' ho',hval,hkm]
     ·rw [hso o' ho',lz.sz,hks,hisz]
      simp only [Int.toNat_natCast]
      split<;>simp [gX]
  ·exact hc.elim
 ·rename_i s
  split at hc
  ·rename_i l h hu hl hh
   obtain ⟨h0,h1,h2⟩:=hc
   cases hx
   have rl:=x8 hlo hlo' hl
   have rh:=x8 hhi hhi' hh
   exact ⟨trivial,.pure hR (Gi hu s vlo vhi l h rl rh h0 h1 h2) (.str _)⟩
  ·exact hc.elim
 ·exact hc.elim
theorem TY {id:Nat}{k:Blk}(hk:H.get id=some k):H.put id k=H:=by
 unfold AHeap.put
 have:(fun i=>if i=id then some k else H.get i)=H.get:=by
  funext i
  by_cases h:i=id
  ·subst h;simp [hk]
  ·simp [h]
 rw [this]
theorem Of {es:List (List D)}{lo hi:Nat}{z:List D}(hlh:lo≤hi)(hh:hi≤es.length):(es.take lo++List.replicate (hi - lo) z++es.drop hi).length=es.length:=by simp;omega
theorem Js {n:Nat}{es:List (List D)}{lo hi:Nat}{z:List D}(hsz:∀ c∈es,c.length=n)(hz:z.length=n)(hlh:lo≤hi)(hh:hi≤es.length) :
  (es.take lo++List.replicate (hi - lo) z++es.drop hi).flatten=es.flatten.take (lo * n)++(List.replicate (hi - lo) z).flatten++es.flatten.drop (lo * n+(List.replicate (hi - lo) z).flatten.length):=by
 rw [kD,kD,nS es lo hsz,nT es hi hsz,kS,hz,← Nat.add_mul,show lo+(hi - lo)=hi by omega]
theorem La {t ty:TypeId}{vx:Value}{x:D}(hR:Rel M0 H σ w)(hx:RepV (cF M0 H σ) σ H.al w vx x)(hc:(sW P t x H).cond) :
  (sW P t x H).fact∧OpS P (Builtin.clear_ #[t] ty #[vx]) M0 H σ w (sW P t x H).val (sW P t x H).heap:=by
 unfold sW at *
 split at hc
 ·rename_i id ver lo hi
  split at hc
  ·rename_i s k hs hk
   obtain ⟨hfz,hver,hty,hsz⟩:=hc
   obtain ⟨hu,ti,z,hti,hz,hisz,_,hsp,_,hzs,hszl,hszs,hzc⟩:=pZ hs
   obtain ⟨o,ho,l⟩:=hR.lies id k hk
   obtain ⟨xs,hrow,hx1,hrep⟩:=l.row
   have hlv:=l.ver
   cases hx
   rename_i hone hN hlh h
   have hw:M7 o vx ver lo hi:=by
    rcases h o ho with h'|⟨_,h2⟩
    ·omega
    ·exact h2
   have hnone:lo=hi→(k.es.take lo++List.replicate (hi - lo) s.z++k.es.drop hi)=k.es:=fun e=>by subst e;simp
   have htup:RepV (cF M0 H σ) σ H.al w (.tuple #[]) (.tup []):=.tup [] [] rfl (fun j u d hu hd=>by simp at hu)
   refine ⟨trivial,?_⟩
   have hstay:lo=hi→(Builtin.clear_ #[t] ty #[vx]).run P w=.ok (.tuple #[]) w→OpS P (Builtin.clear_ #[t] ty #[vx]) M0 H σ w (.tup []) (H.put id { k with es:=k.es.take lo++List.replicate (hi - lo) s.z++k.es.drop hi }):=fun e hrun=>by
    rw [hnone e,TY hk]
    exact .pure hR hrun htup
   rcases hw with ⟨h2,rfl,h4⟩|⟨b,cap,h2,hcap,rfl⟩
   ·exact hstay (by omega) (by simp [Builtin.clear_,run_underlying hu])
   ·by_cases he:lo=hi
    ·refine hstay he ?_
     subst he
     simp [Builtin.clear_,run_underlying hu]
    ·have hcl:cap≠lo:=by omega
     rw [if_neg hcl]
     rcases hrow.2 with ⟨hnil,_⟩|⟨g,cap',cur,hval,hb0,hg,hnc,hcm,hcs,htake⟩
     ·rw [h2] at hnil;cases hnil
     ·rw [h2] at hval
      cases hval
      have hoe:o.esz=s.sz:=l.sz.trans hsz
      have hxl:xs.length=k.es.length * o.esz:=hrep.len.trans (jG k.es l.esz)
      have hcur:k.es.length * o.esz≤cur.size:=by rw [hcs];exact bZ _ hnc
      obtain ⟨hr,h1⟩:=oX (M:=cF M0 H σ) (σ:=σ) (N:=H.al) (w:=w) z (hi - lo) (by omega) (by rw [← hzs];exact hzc)
      rw [← hzs] at hr
      have hml:(madeCells z.cells ((hi - lo) * z.cells.size)).toList.length=(hi - lo) * o.esz:=by simp [size_madeCells,hszs,hoe]
      have hms:(madeCells z.cells ((hi - lo) * z.cells.size)).size=(hi - lo) * o.esz:=by rw [← hml,fL]
      have hmul:lo * o.esz+(hi - lo) * o.esz=hi * o.esz:=by rw [← Nat.add_mul,show lo+(hi - lo)=hi by omega]
      have hhle:hi * o.esz≤k.es.length * o.esz:=bZ _ (by omega)
      have hst:=run_storeCells_at (P:=P) b (lo * o.esz) k.ty (madeCells z.cells ((hi - lo) * z.cells.size)).toList 0 cur w hg (by rw [hml];omega) h1
      simp only [o4] at hst
      have hzero:∀ w,(zeroValue s.e).run P w=.ok z w:=fun w=>by simp [zeroValue,typeInfo,hti,hz]
      obtain ⟨q,hq⟩:∃ q,hi - lo=q+1:=⟨hi - lo - 1,by omega⟩
      have hrun:(Builtin.clear_ #[t] ty #[.slice (some ⟨b,lo * o.esz,none⟩) (hi - lo) (cap - lo)]).run P w=.ok (.tuple #[]) (w.setRow b (cur.toList.take (lo * o.esz)++(madeCells z.cells ((hi - lo) * z.cells.size)).toList++cur.toList.drop (lo * o.esz+(madeCells z.cells ((hi - lo) * z.cells.size)).toList.length)).toArray):=by
       rw [hq] at hst ⊢
       simp only [Builtin.clear_]
       simp [run_underlying hu,hzero]
       have hmz:Builtin.zeroCells z.cells (q+1)=madeCells z.cells ((q+1) * z.cells.size):=rfl
       rw [hmz]
       simp at hst
       simp [hst]
      have hes:=Of (z:=s.z) hlh.1 (show hi≤k.es.length by omega)
      have hfl:=Js (z:=s.z) l.esz (by rw [hszl,hoe]) hlh.1 (show hi≤k.es.length by omega)
      have hrl:(List.replicate (hi - lo) s.z).flatten.length=(hi - lo) * o.esz:=by rw [kS,hszl,hoe]
      have hp:=Rel.put hR hk hfz ho { k with es:=k.es.take lo++List.replicate (hi - lo) s.z++k.es.drop hi } o (w':=w.setRow b (cur.toList.take (lo * o.esz)++(madeCells z.cells ((hi - lo) * z.cells.size)).toList++cur.toList.drop (lo * o.esz+(madeCells z.cells ((hi - lo) * z.cells.size)).toList.length)).toArray)
       ⟨rfl,rfl,rfl,by simp,fun q _ hq=>setRow_other w b q _ (fun e=>hq (by rw [e];simp [Ow.block,h2,Value.ownBlock]))⟩ (fun b' hb'=>.inl hb') (.inl rfl) (by rw [hes];exact l.ver) l.ty l.sz
       (fun d hd=>by
        simp only [aW] at hd
        rcases hd with (hd|hd)|hd
        ·exact l.esz d (bN hd)
        ·rw [jS hd,hszl,hoe]
        ·exact l.esz d (dL hd))
       (xs.take (lo * o.esz)++(madeCells z.cells ((hi - lo) * z.cells.size)).toList++xs.drop (lo * o.esz+(madeCells z.cells ((hi - lo) * z.cells.size)).toList.length))
       ⟨by simp only [aT,bL,dY,hml,hes];omega,.inr ⟨b,cap,_,by rw [hes];simpa [hver] using h2,hb0,setRow_heap w b cur _ k.ty _ hg,by rw [hes];exact hnc,hcm,by simp only [mF,aT,bL,dY,hml,fL];omega,by
        simp only [hes]
        rw [← htake]
        apply eD
        intro j
        simp only [bI,iH,bL,bG,fL]
        by_cases hj:j<k.es.length * o.esz
        ·rw [if_pos hj]
         have m1:min (lo * o.esz) cur.size=lo * o.esz:=by omega
         have m2:min (lo * o.esz) (min (k.es.length * o.esz) cur.size)=lo * o.esz:=by omega
         rw [m1,m2]
         split
         ·first|rfl|rw [if_pos hj]
         ·split
          ·rfl
          ·first|rfl|rw [if_pos (by omega)]
        ·rw [if_neg hj]
         have m2:min (lo * o.esz) (min (k.es.length * o.esz) cur.size)=lo * o.esz:=by omega
         rw [m2,if_neg (by omega),if_neg (by omega),if_neg (by omega)]⟩⟩
       (fun u hu=>by
        simp only [aW] at hu
        rcases hu with (hu|hu)|hu
        ·exact hx1 u (bN hu)
        ·exact h1 u hu
        ·exact hx1 u (dL hu))
       ⟨by simp only [hfl,aT,bL,dY,hml,hrl,hrep.len],fun j u d hu hd=>by
        simp only [hfl] at hd
        have hflen:k.es.flatten.length=xs.length:=hrep.len.symm
        simp only [iH,bL,bI,bG,hflen,hml,hrl] at hu hd
        have m1:min (lo * o.esz) xs.length=lo * o.esz:=by omega
        rw [m1] at hu hd
        split at hd
        ·rename_i hj1
         rw [if_pos hj1] at hu
         try rw [if_pos hj1] at hu
         try rw [if_pos hj1] at hd
         exact hrep.rep j u d hu hd
        ·rename_i hj1
         rw [if_neg hj1] at hu
         split at hd
         ·rename_i hj2
          rw [if_pos hj2] at hu
          exact hr.rep _ u d hu hd
         ·rename_i hj2
          rw [if_neg hj2] at hu
          exact hrep.rep _ u d hu hd⟩
      simp only [EE o id ho] at hp
      exact ⟨_,_,σ,hrun,hp.1,.tup [] [] rfl (fun j u d hu hd=>by simp at hu),hp.2.1,hp.2.2⟩
  ·exact hc.elim
 ·exact hc.elim
theorem KC {t:TypeId}{vx vi:Value}{x i:D}(hR:Rel M0 H σ w)(hx:RepV (cF M0 H σ) σ H.al w vx x)(hi:RepV (cF M0 H σ) σ H.al w vi i)(hc:(rJ P t x i H).cond) :
  (rJ P t x i H).fact∧OpS P (Instr.index t vx vi) M0 H σ w (rJ P t x i H).val (rJ P t x i H).heap:=by
 unfold rJ at *
 split at hc
 ·rename_i s kd n
  split at hc
  ·rename_i hu
   obtain ⟨h0,h1⟩:=hc
   cases hx;cases hi
   obtain ⟨q,rfl⟩:=eI h0
   have hq:q<s.size:=by omega
   have hq':q<s.data.size:=hq
   refine ⟨trivial,.pure hR (v:=.int .u8 ((s.data[q]'hq').toNat:Int)) ?_ ?_⟩
   ·have:s[q]?=some (s[q]'hq):=by simp [hq]
    simp [Instr.index,asIntOf,run_underlying hu,this]
    rfl
   ·have e:s.data[q]?=some (s.data[q]'hq'):=aZ hq'
    simp only [Int.toNat_natCast,e,aF]
    exact .int _ _
  ·exact hc.elim
 ·rename_i cs kd n
  split at hc
  ·rename_i len sz len' e ha hu
   split at hc
   ·rename_i htk
    obtain ⟨⟨h0,h1⟩,h2,h3⟩:=hc
    cases hx;cases hi
    rename_i xs hx1 hl hr
    obtain ⟨q,rfl⟩:=eI h0
    simp only [Int.toNat_natCast] at h3 ⊢
    obtain ⟨e',ti,hu',hie,hisz⟩:=Lk ha
    rw [hu] at hu'
    simp at hu'
    obtain ⟨rfl,rfl⟩:=hu'
    have hA:=Qb (w:=w) htk
    have hq:q<xs.length:=by omega
    have hqn:q<len':=by omega
    refine ⟨trivial,.pure hR (v:=xs[q]) ?_ ?_⟩
    ·simp [Instr.index,asIntOf,run_underlying hu,hqn,sizeOf,typeInfo,hie,hisz,h2,part,hA,hq]
    ·rw [aA h3]
     exact hr q _ _ (aA hq) (aA h3)
   ·exact hc.elim
  ·exact hc.elim
 ·exact hc.elim
end
end Go.Abs
end
section
namespace Go.Abs
section
variable {P:Program} {M0:Nat→Prop} {H:AHeap} {σ:Nat→Option Ow} {w:World}
def RP (P:Program)(x:Sem Next)(M0:Nat→Prop)(H:AHeap)(σ:Nat→Option Ow)(w:World)(d:D)(H':AHeap):Prop :=
 ∃ v w' σ',(x.run P w=.ok (.value v) w'∨(x.run P w=.ok .skip w'∧v=undef))∧Rel M0 H' σ' w'∧RepV (cF M0 H' σ') σ' H'.al w' v d∧Stp σ w σ' w' ∧
  Keeps (cF M0 H σ) σ H.al w (cF M0 H' σ') σ' H'.al w'
theorem OpS.next {x:Sem Value}{d:D}{H':AHeap}(h:OpS P x M0 H σ w d H'):RP P (do Pure.pure (Next.value (← x))) M0 H σ w d H':=by
 obtain ⟨v,w',σ',hr,h2,h3,h4,h5⟩:=h
 exact ⟨v,w',σ',.inl (by simp [hr]),h2,h3,h4,h5⟩
theorem OpU.next {x:Sem Unit}{H':AHeap}(h:OpU P x M0 H σ w H'):RP P (do x;Pure.pure Next.skip) M0 H σ w .junk H':=by
 obtain ⟨w',σ',hr,h2,h4,h5⟩:=h
 exact ⟨undef,w',σ',.inr ⟨by simp [hr],rfl⟩,h2,.junk _,h4,h5⟩
def EnvR (M:Nat→Prop)(σ:Nat→Option Ow)(N:Nat→Prop)(w:World)(ρ:Operand→Value)(e:Nat→D):Prop :=
 (∀ t,RepV M σ N w (ρ (.tmp t)) (e t))∧(∀ v,ρ (.const v)=v)∧∀ f,ρ (.func f)=.func (.func f) #[] #[]
theorem EnvR.ev {M:Nat→Prop}{N:Nat→Prop}{ρ:Operand→Value}{e:Nat→D}(h:EnvR M σ N w ρ e)(x:Operand):RepV M σ N w (ρ x) (eK e x):=by
 cases x with
 | tmp t=>exact h.1 t
 | const v=>rw [h.2.1];exact FB v
 | func f=>rw [h.2.2];exact .fn f [] [] rfl (fun j u d hu=>by simp at hu)
 | global g=>exact .junk _
theorem EnvR.parts {M:Nat→Prop}{N:Nat→Prop}{ρ:Operand→Value}{e:Nat→D}(h:EnvR M σ N w ρ e)(ps:List (Nat × Operand)) :
  Parts M σ N w (ps.map fun p=>(p.1,ρ p.2)) (ps.map fun p=>(p.1,eK e p.2)):=by
 refine ⟨by simp [Function.comp_def],fun j v d hv hd=>?_⟩
 simp only [List.map_map,aN,bC] at hv hd
 obtain ⟨p,hp,rfl⟩:=hv
 obtain ⟨q,hq,rfl⟩:=hd
 rw [hp] at hq;cases hq
 exact h.ev p.2
theorem Hv (hR:Rel M0 H σ w)(id:Nat):Rel M0 (H.frz id) σ w∧Keeps (cF M0 H σ) σ H.al w (cF M0 (H.frz id) σ) σ (H.frz id).al w∧(H.frz id).al=H.al ∧
  ∀ i,((H.frz id).get i).map (·.es)=(H.get i).map (·.es)∧(∀ k,H.get i=some k→k.fz=true∨i=id→∃ k',(H.frz id).get i=some k'∧k'.fz=true∧k'.es=k.es):=by
 unfold AHeap.frz
 cases hk:H.get id with
 | none =>
  refine ⟨hR,.refl _ _ _ _,rfl,fun i=>⟨rfl,fun k hik h=>?_⟩⟩
  rcases h with h|rfl
  ·exact ⟨k,hik,h,rfl⟩
  ·rw [hk] at hik;cases hik
 | some k =>
  simp only
  have hget:∀ i,((H.put id { k with fz:=true }).get i).map (·.es)=(H.get i).map (·.es)∧(∀ k0,H.get i=some k0→k0.fz=true∨i=id→∃ k',(H.put id { k with fz:=true }).get i=some k'∧k'.fz=true∧k'.es=k0.es):=by
   intro i
   by_cases hi:i=id
   ·subst hi
    refine ⟨by simp [AHeap.put,hk],fun k0 h0 _=>⟨{ k with fz:=true },by simp [AHeap.put],rfl,?_⟩⟩
    rw [hk] at h0;cases h0;rfl
   ·refine ⟨by simp [AHeap.put,hi],fun k0 h0 h=>?_⟩
    rcases h with h|h
    ·exact ⟨k0,by simp [AHeap.put,hi,h0],h,rfl⟩
    ·exact absurd h hi
  by_cases hf:k.fz=false
  ·obtain ⟨o,ho,l⟩:=hR.lies id k hk
   obtain ⟨xs,hrow,h1,hrep⟩:=l.row
   have hp:=Rel.put hR (w':=w) hk hf ho { k with fz:=true } o ⟨rfl,rfl,rfl,aL _,fun _ _ _=>rfl⟩ (fun b hb=>.inl hb) (.inl rfl) l.ver l.ty l.sz l.esz xs hrow h1 hrep
   simp only [EE o id ho] at hp
   exact ⟨hp.1,hp.2.2,rfl,hget⟩
  ·have hH:H.put id { k with fz:=true } = H:=by
    have hf':k.fz=true:=by simpa using hf
    have hk':({ k with fz:=true }:Blk)=k:=by cases k;simp at hf';subst hf';rfl
    obtain ⟨n,al,g⟩:=H
    simp only [AHeap.put,hk',AHeap.mk.injEq,true_and]
    funext i
    by_cases hi:i=id
    ·simp only at hk;simp [hi,hk]
    ·simp [hi]
   rw [hH] at hget ⊢
   exact ⟨hR,.refl _ _ _ _,rfl,hget⟩
theorem eP (ids : List Nat) : ∀ {H : AHeap}, Rel M0 H σ w → Rel M0 (eT ids H) σ w ∧ Keeps (cF M0 H σ) σ H.al w (cF M0 (eT ids H) σ) σ (eT ids H).al w ∧ (eT ids H).al = H.al ∧
    ∀ i, ((eT ids H).get i).map (·.es) = (H.get i).map (·.es) ∧ (∀ k, H.get i = some k → k.fz = true ∨ i ∈ ids → ∃ k', (eT ids H).get i = some k' ∧ k'.fz = true ∧ k'.es = k.es) := by
  induction ids with
  | nil => intro H hR; exact ⟨hR, .refl _ _ _ _, rfl, fun i => ⟨rfl, fun k hk h => ⟨k, hk, by simpa using h, rfl⟩⟩⟩
  | cons id ids ih =>
    intro H hR
    obtain ⟨h1, h2, h3, h4⟩ := Hv hR id
    obtain ⟨g1, g2, g3, g4⟩ := ih h1
    refine ⟨g1, h2.trans g2, g3.trans h3, fun i => ⟨(g4 i).1.trans (h4 i).1, fun k hk h => ?_⟩⟩
    rcases h with h | h
    · obtain ⟨k1, a1, a2, a3⟩ := (h4 i).2 k hk (.inl h)
      obtain ⟨k2, b1, b2, b3⟩ := (g4 i).2 k1 a1 (.inl a2)
      exact ⟨k2, b1, b2, b3.trans a3⟩
    · rcases aO.1 h with rfl | h
      · obtain ⟨k1, a1, a2, a3⟩ := (h4 i).2 k hk (.inr rfl)
        obtain ⟨k2, b1, b2, b3⟩ := (g4 i).2 k1 a1 (.inl a2)
        exact ⟨k2, b1, b2, b3.trans a3⟩
      · have he := (h4 i).1
        rw [hk] at he
        cases hk1 : (H.frz id).get i with
        | none => rw [hk1] at he; cases he
        | some k1 =>
          rw [hk1] at he
          obtain ⟨k2, b1, b2, b3⟩ := (g4 i).2 k1 hk1 (.inr h)
          refine ⟨k2, b1, b2, b3.trans ?_⟩
          simpa using he
theorem Aa {v:Value}{id n:Nat}{k:Blk}(hR:Rel M0 H σ w)(hx:RepV (cF M0 H σ) σ H.al w v (.own id n))(hk:H.get id=some k)(hf:k.fz=true)(hn:k.es.length=n) :
  RepV (cF M0 H σ) σ H.al w v (.list k.es):=by
 obtain ⟨o,ho,l⟩:=hR.lies id k hk
 obtain ⟨xs,hrow,hx1,hrep⟩:=l.row
 cases hx
 rename_i h1 hN h
 rcases h o ho with h'|⟨h2,rfl⟩
 ·have:=l.ver;omega
 ·rcases hrow.2 with ⟨hnil,h0⟩|⟨g,cap,cur,hval,_,_,hnc,hcm,_⟩
  ·rw [hnil,aV h0];exact .listN
  ·have hob:o.block=some g:=by simp [Ow.block,hval,Value.ownBlock]
   rw [hval]
   refine .list ⟨g,0,none⟩ cap o.esz xs k.es hnc hcm l.esz hrep.len hx1 (fun j u hu=>⟨?_,hrow.cells (g:=g) (by simpa [Ow.block] using hob) j u hu⟩) hrep.rep
   rintro (hm|⟨i,k',o',hk',hf',ho',hb'⟩)
   ·exact (hR.lt id o g ho hob).2 hm
   ·have hi:=hR.inj i id o' o g ho' ho hb' hob
    subst hi
    rw [hk] at hk';cases hk'
    rw [hf] at hf';cases hf'
theorem Ks {M:Nat→Prop}{N:Nat→Prop}{ad:Addr}{cap sz:Nat}{es:List (List D)}{lo hi:Nat}(h:RepV M σ N w (.slice (some ad) es.length cap) (.list es))(hsz:∀ c∈es,c.length=sz)(hlh:lo≤hi)(hh:hi≤es.length) :
  RepV M σ N w (.slice (some (if cap=lo then ad else ad.add (lo * sz))) (hi - lo) (cap - lo)) (.list ((es.take hi).drop lo)):=by
 rcases qW h with ⟨h1,_⟩|⟨ad',cap',sz',xs,he,hrep,hx1,hcell,hle,hm,hszs⟩
 ·cases h1
 ·cases he
  have hlen:((es.take hi).drop lo).length=hi - lo:=by simp;omega
  have hmem:∀ c∈(es.take hi).drop lo,c.length=sz:=fun c hc=>hsz c (bN (dL hc))
  have hflat:((es.take hi).drop lo).flatten=(es.flatten.take (hi * sz)).drop (lo * sz):=by
   rw [nT _ lo (fun c hc=>hsz c (bN hc)),nS _ hi hsz]
  by_cases hcp:cap=lo
  ·have hba:hi=lo:=by omega
   subst hba
   simp only [hcp,if_true]
   have hnil:(es.take hi).drop hi=[]:=iR (by simp;omega)
   rw [hnil]
   have:=RepV.list (M:=M) (σ:=σ) (N:=N) (w:=w) ad (hi - hi) 0 [] [] (by simp) (by simp) (by simp) rfl (by simp) (fun j u hu=>by simp at hu) (fun j u d hu=>by simp at hu)
   simpa using this
  ·rw [if_neg hcp]
   have hv:=RepV.list (M:=M) (σ:=σ) (N:=N) (w:=w) (ad.add (lo * sz)) (cap - lo) sz ((xs.take (hi * sz)).drop (lo * sz)) ((es.take hi).drop lo) (by rw [hlen];omega) (by omega) hmem
    (by rw [hflat];simp [hrep.len]) (fun u hu=>hx1 u (bN (dL hu))) (fun j u hu=>by
     rw [bG,bI] at hu
     split at hu
     ·obtain ⟨h5,h6⟩:=hcell _ u hu
      rw [gP,xW]
      exact ⟨h5,h6⟩
     ·cases hu) (fun j u d hu hd=>by
     rw [hflat,bG,bI] at hd
     rw [bG,bI] at hu
     split at hu
     ·rename_i hj;rw [if_pos hj] at hd;exact hrep.rep _ u d hu hd
     ·cases hu)
   rw [hlen] at hv
   exact hv
theorem Mz {v:Value}{id n lo hi:Nat}{k:Blk}(hR:Rel M0 H σ w)(hx:RepV (cF M0 H σ) σ H.al w v (.win id n lo hi))(hk:H.get id=some k)(hf:k.fz=true)(hn:k.es.length=n) :
  RepV (cF M0 H σ) σ H.al w v (.list ((k.es.take hi).drop lo)):=by
 obtain ⟨o,ho,l⟩:=hR.lies id k hk
 have hver:=l.ver
 cases hx
 rename_i h1 hN hlh h
 have hw:M7 o v n lo hi:=by
  rcases h o ho with h'|⟨_,h2⟩
  ·omega
  ·exact h2
 have hval:RepV (cF M0 H σ) σ H.al w o.val (.list k.es):=by
  refine Aa (n:=n) hR (.own o.val id n hN ?_ fun o' ho'=>?_) hk hf hn
  ·rcases hw with ⟨h2,_⟩|⟨b,cap,h2,_⟩<;>rw [h2]<;>rfl
  ·rw [ho] at ho';cases ho';exact .inr ⟨by omega,rfl⟩
 rcases hw with ⟨h2,h3,h4⟩|⟨b,cap,h2,hc,h3⟩
 ·subst h3 h4
  simpa using RepV.listN
 ·rw [h2,← hn] at hval
  have:=Ks hval (fun c hc=>l.esz c hc) hlh.1 (by omega)
  rw [h3]
  have e:(Addr.add ⟨b,0,none⟩ (lo * o.esz))=⟨b,lo * o.esz,none⟩:=by simp [gX]
  rw [e] at this
  exact this
theorem oL {H H':AHeap}(h:∀ i,(H'.get i).map (·.es)=(H.get i).map (·.es))(d:D):eQ H' d=eQ H d:=by
 cases d<;>try rfl
 ·rename_i id n
  have:=h id
  simp only [eQ]
  cases h1:H.get id<;>cases h2:H'.get id<;>rw [h1,h2] at this<;>simp at this
  ·simp only [this]
 ·rename_i id n lo hi
  have:=h id
  simp only [eQ]
  cases h1:H.get id<;>cases h2:H'.get id<;>rw [h1,h2] at this<;>simp at this
  ·simp only [this]
theorem lF {v : Value} {d : D} (hR : Rel M0 H σ w) (hx : RepV (cF M0 H σ) σ H.al w v d) (hf : ∀ i ∈ jZ d, ∀ k, H.get i = some k → k.fz = true) :
    RepV (cF M0 H σ) σ H.al w v (eQ H d) := by
  cases d <;> try exact hx
  · rename_i id n
    simp only [eQ]
    cases hk : H.get id with
    | none => exact hx
    | some k =>
      simp only
      split
      · rename_i hn
        exact Aa hR hx hk (hf id (by simp [jZ]) k hk) hn
      · exact hx
  · rename_i id n lo hi
    simp only [eQ]
    cases hk : H.get id with
    | none => exact hx
    | some k =>
      simp only
      split
      · rename_i hn
        exact Mz hR hx hk (hf id (by simp [jZ]) k hk) hn
      · exact hx
theorem lE {v : Value} {d : D} (hR : Rel M0 H σ w) (hx : RepV (cF M0 H σ) σ H.al w v d) (ids : List Nat) (hi : ∀ i ∈ dC d, i ∈ ids) :
    RepV (cF M0 (eT ids H) σ) σ (eT ids H).al w v (iE H d) := by
  obtain ⟨h1, h2, h3, h4⟩ := eP ids hR
  have hx' := hx.keep h2
  have hfr : ∀ i ∈ ids, ∀ k, (eT ids H).get i = some k → k.fz = true := fun i hi k hk => by
    have he := (h4 i).1
    rw [hk] at he
    cases hk0 : H.get i with
    | none => rw [hk0] at he; cases he
    | some k0 =>
      obtain ⟨k', a1, a2, a3⟩ := (h4 i).2 k0 hk0 (.inr hi)
      rw [hk] at a1; cases a1; exact a2
  cases d with
  | agg cs =>
    cases hx'
    rename_i vs hv1 hl hr
    refine .agg vs _ (by simpa using hl) hv1 fun j u x hu hx => ?_
    rw [aN, bC] at hx
    obtain ⟨y, hy, rfl⟩ := hx
    rw [← oL (fun i => (h4 i).1) y]
    refine lF h1 (hr j u y hu hy) fun i hii k hk => hfr i (hi i ?_) k hk
    simp only [dC, bK]
    exact ⟨y, aJ hy, hii⟩
  | _ =>
    simp only [iE]
    rw [← oL (fun i => (h4 i).1)]
    exact lF h1 hx' fun i hii k hk => hfr i (hi i hii) k hk
theorem MY {md:Nat→Bool}{v:Value}{d:D}(hR:Rel M0 H σ w)(hx:RepV (cF M0 H σ) σ H.al w v d)(ids:List Nat)(hi:∀ i∈I7 md d,i∈ids) :
  RepV (cF M0 (eT ids H) σ) σ (eT ids H).al w v (NZ md H d):=by
 unfold NZ;unfold I7 at hi
 split
 ·exact hx.keep (eP ids hR).2.1
 ·rename_i h;rw [if_neg h] at hi;exact lE hR hx ids hi
theorem CV {x:Operand}(h:iN x=true):x=.const (.slice none 0 0):=by
 unfold iN at h
 split at h
 ·rfl
 ·cases h
theorem EM {nid : Nat} (hnid : ¬ H.al nid) {md : Nat → Bool} {e : Nat → D} {o : Oper} {ρ : Operand → Value} (hR : Rel M0 H σ w) (hE : EnvR (cF M0 H σ) σ H.al w ρ e) (hc : (Dv P nid md e o H).cond) :
    (Dv P nid md e o H).fact ∧ RP P (execOp ρ o) M0 H σ w (Dv P nid md e o H).val (Dv P nid md e o H).heap := by
  obtain ⟨dst, op, type, pos, after, guard⟩ := o
  unfold Dv execOp at *
  simp only at hc ⊢
  cases op <;> try (exact hc.elim)
  case move x =>
    simp only at hc ⊢
    by_cases hn : iN x = true
    · rw [if_pos hn] at hc ⊢
      have hx := CV hn; subst hx
      obtain ⟨h1, h2⟩ := Hd (P := P) hnid (x := (Pure.pure (ρ (.const (.slice none 0 0))) : Sem Value)) hR (by show Result.ok (ρ _) w = _; rw [hE.2.1]) hc
      obtain ⟨v, w', σ', hr, h3⟩ := h2
      have hr' : Result.ok (ρ (.const (.slice none 0 0))) w = Result.ok v w' := hr
      injection hr' with e1 e2
      subst e1; subst e2
      exact ⟨h1, _, _, σ', .inl rfl, h3⟩
    · rw [if_neg hn] at hc ⊢
      exact ⟨trivial, ρ x, w, σ, .inl rfl, hR, hE.ev x, .refl _ _, .refl _ _ _ _⟩
  case assign x =>
    simp only at hc ⊢
    by_cases hn : iN x = true
    · rw [if_pos hn] at hc ⊢
      have hx := CV hn; subst hx
      obtain ⟨h1, h2⟩ := Hd (P := P) hnid (x := (Pure.pure (ρ (.const (.slice none 0 0))) : Sem Value)) hR (by show Result.ok (ρ _) w = _; rw [hE.2.1]) hc
      obtain ⟨v, w', σ', hr, h3⟩ := h2
      have hr' : Result.ok (ρ (.const (.slice none 0 0))) w = Result.ok v w' := hr
      injection hr' with e1 e2
      subst e1; subst e2
      exact ⟨h1, _, _, σ', .inl rfl, h3⟩
    · rw [if_neg hn] at hc ⊢
      exact ⟨trivial, ρ x, w, σ, .inl rfl, hR, hE.ev x, .refl _ _, .refl _ _ _ _⟩
  case pick c a b =>
    obtain ⟨h1, h2⟩ := Mc hR (hE.ev c) (hE.ev a) (hE.ev b) hc
    exact ⟨h1, by simpa using h2.next⟩
  case alloc t =>
    obtain ⟨h1, h2⟩ := Lm (P := P) hnid hR hc
    exact ⟨h1, h2.next⟩
  case box t x =>
    obtain ⟨h1, h2⟩ := PK (P := P) hnid hR (hE.ev x) hc
    exact ⟨h1, h2.next⟩
  case build t ps =>
    obtain ⟨h1, h2⟩ := Ld (P := P) hR (hE.parts ps.toList) hc
    refine ⟨h1, ?_⟩
    have := h2.next
    rw [show (List.map (fun p => (p.1, ρ p.2)) ps.toList).toArray = ps.map (fun p => (p.1, ρ p.2)) by rw [← Array.toList_map]] at this
    exact this
  case buildSlice t n ps =>
    obtain ⟨f1, f2, f3, f4⟩ := eP (ps.toList.flatMap fun p => I7 md (eK e p.2)) hR
    have hparts : Parts (cF M0 (eT (ps.toList.flatMap fun p => I7 md (eK e p.2)) H) σ) σ (eT (ps.toList.flatMap fun p => I7 md (eK e p.2)) H).al w
        (ps.toList.map fun p => (p.1, ρ p.2)) (ps.toList.map fun p => (p.1, NZ md H (eK e p.2))) := by
      refine ⟨by simp [Function.comp_def], fun j v d hv hd => ?_⟩
      simp only [List.map_map, aN, bC] at hv hd
      obtain ⟨p, hp, rfl⟩ := hv
      obtain ⟨q, hq, rfl⟩ := hd
      rw [hp] at hq; cases hq
      exact MY hR (hE.ev p.2) _ fun i hi => bK.2 ⟨p, aJ hp, hi⟩
    obtain ⟨h1, h2⟩ := Co (P := P) (by rw [f3]; exact hnid) f1 hparts hc
    refine ⟨h1, ?_⟩
    have := h2.next
    rw [show (List.map (fun p => (p.1, ρ p.2)) ps.toList).toArray = ps.map (fun p => (p.1, ρ p.2)) by rw [← Array.toList_map]] at this
    obtain ⟨v, w', σ', a1, a2, a3, a4, a5⟩ := this
    exact ⟨v, w', σ', a1, a2, a3, a4, f2.trans a5⟩
  case load t a =>
    obtain ⟨h1, h2⟩ := Mk (P := P) hR (hE.ev a) hc
    exact ⟨h1, h2.next⟩
  case store t a v =>
    have key : ∀ (H1 : AHeap) (x1 v1 : D), Rel M0 H1 σ w → Keeps (cF M0 H σ) σ H.al w (cF M0 H1 σ) σ H1.al w → RepV (cF M0 H1 σ) σ H1.al w (ρ a) x1 → RepV (cF M0 H1 σ) σ H1.al w (ρ v) v1 →
        (kP P t x1 v1 H1).cond → (kP P t x1 v1 H1).fact ∧ RP P (do Instr.storeAt t (ρ a) (ρ v); Pure.pure Next.skip) M0 H σ w (kP P t x1 v1 H1).val (kP P t x1 v1 H1).heap := by
      intro H1 x1 v1 hR1 hK1 hx1 hv1 hc1
      have h2 := JH (P := P) hR1 hx1 hv1 hc1
      have hf : (kP P t x1 v1 H1).fact ∧ (kP P t x1 v1 H1).val = .junk := by
        simp only [kP] at hc1 ⊢
        split at hc1
        · split at hc1
          · split at hc1
            · exact ⟨trivial, rfl⟩
            · exact hc1.elim
          · exact hc1.elim
        · exact hc1.elim
      refine ⟨hf.1, ?_⟩
      rw [hf.2]
      obtain ⟨v', w', σ', a1, a2, a3, a4, a5⟩ := h2.next
      exact ⟨v', w', σ', a1, a2, a3, a4, hK1.trans a5⟩
    simp only at hc ⊢
    by_cases hm : md 1000000 = true
    · rw [if_pos hm] at hc ⊢
      obtain ⟨f1, f2, f3, f4⟩ := eP (dC (eK e v)) hR
      exact key _ _ _ f1 f2 ((hE.ev a).keep f2) (lE hR (hE.ev v) _ fun i hi => hi) hc
    · rw [if_neg hm] at hc ⊢
      exact key H _ _ hR (.refl _ _ _ _) (hE.ev a) (hE.ev v) hc
  case nilCheck x =>
    obtain ⟨a, h1, h2, h3, h4⟩ := EP hR (hE.ev x) hc
    refine ⟨h2, ρ x, w, σ, .inl ?_, by rw [h4]; exact hR, by rw [h4]; exact h3, .refl _ _, by rw [h4]; exact .refl _ _ _ _⟩
    simp [h1]
  case binOp op t x y t' =>
    obtain ⟨h1, h2⟩ := Px (P := P) (t := t) (ox := x) (oy := y) hR (hE.ev x) (hE.ev y) hc
    exact ⟨h1, h2.next⟩
  case unOp op t x =>
    obtain ⟨h1, h2⟩ := P9 (P := P) hR (hE.ev x) hc
    exact ⟨h1, h2.next⟩
  case convert s d x =>
    obtain ⟨h1, h2⟩ := GB (P := P) hR (hE.ev x) hc
    exact ⟨h1, h2.next⟩
  case makeFunc fn first caps =>
    cases fn <;> try (exact hc.elim)
    rename_i f
    simp only at hc ⊢
    by_cases hf : first.isEmpty = true
    · rw [if_pos hf]
      have : first = #[] := by simpa using hf
      subst this
      refine ⟨trivial, ⟨.func (.func f) #[] (caps.toList.map ρ).toArray, w, σ, .inl (by simp [Instr.makeFunc]; rw [← Array.toList_map]), hR, .fn f _ _ (by simp) (fun j u d hu hd => ?_), .refl _ _, .refl _ _ _ _⟩⟩
      simp only [aN, bC] at hu hd
      obtain ⟨p, hp, rfl⟩ := hu
      obtain ⟨q, hq, rfl⟩ := hd
      rw [hp] at hq; cases hq
      exact hE.ev p
    · rw [if_neg hf] at hc; exact hc.elim
  case makeSlice t l c =>
    obtain ⟨h1, h2⟩ := Mi (P := P) hnid hR (hE.ev l) (hE.ev c) hc
    exact ⟨h1, h2.next⟩
  case slice t x lo hi mx =>
    cases mx with
    | some m => exact hc.elim
    | none =>
      obtain ⟨h1, h2⟩ := JJ (P := P) (vlo := lo.map ρ) (vhi := hi.map ρ) hR (hE.ev x) (fun v d hv hd => by
        cases lo with
        | none => cases hv
        | some o => cases hv; cases hd; exact hE.ev o) (by cases lo <;> rfl) (fun v d hv hd => by
        cases hi with
        | none => cases hv
        | some o => cases hv; cases hd; exact hE.ev o) (by cases hi <;> rfl) hc
      exact ⟨h1, h2.next⟩
  case fieldAddr t x f =>
    obtain ⟨h1, h2⟩ := Dn (P := P) hR (hE.ev x) hc
    exact ⟨h1, h2.next⟩
  case indexAddr t x i =>
    obtain ⟨h1, h2⟩ := Dl (P := P) hR (hE.ev x) (hE.ev i) hc
    exact ⟨h1, h2.next⟩
  case index t x i =>
    obtain ⟨h1, h2⟩ := KC (P := P) hR (hE.ev x) (hE.ev i) hc
    exact ⟨h1, h2.next⟩
  case extract t i =>
    obtain ⟨h1, h2⟩ := Gx (P := P) hR (hE.ev t) hc
    exact ⟨h1, h2.next⟩
  case call c =>
    obtain ⟨callee, args, ts⟩ := c
    cases callee <;> try (exact hc.elim)
    rename_i b
    obtain ⟨args⟩ := args
    obtain ⟨ts⟩ := ts
    simp only [List.map_toArray, resolve, invoke, RP, Sem.run_bind, Sem.run_pure, Result.andThen_ok] at hc ⊢
    unfold uC at *
    split at hc
    · rename_i xd td ht
      match args, ht with
      | [ox], ht =>
        cases ht
        obtain ⟨h1, h2⟩ := Pi (P := P) (ty := type) hR (hE.ev ox) hc
        exact ⟨h1, by simpa [RP, builtin] using h2.next⟩
    · rename_i xd yd td td' ht
      match args, ht with
      | [ox, oy], ht =>
        cases ht
        obtain ⟨h1, h2⟩ := GK (P := P) hnid (ty := type) hR (hE.ev ox) (hE.ev oy) hc
        exact ⟨h1, by simpa [RP, builtin] using h2.next⟩
    · rename_i xd td ht
      match args, ht with
      | [ox], ht =>
        cases ht
        obtain ⟨h1, h2⟩ := La (P := P) (ty := type) hR (hE.ev ox) hc
        exact ⟨h1, by simpa [RP, builtin] using h2.next⟩
    · rename_i x y hx
      match args, hx with
      | [ox, oy], hx =>
        cases hx
        obtain ⟨h1, h2⟩ := Hg (P := P) (b := .min) (mx := false) (t := type)  rfl hR (hE.ev ox) (hE.ev oy) hc
        exact ⟨h1, by simpa [RP, builtin] using h2.next⟩
    · rename_i x y hx
      match args, hx with
      | [ox, oy], hx =>
        cases hx
        obtain ⟨h1, h2⟩ := Hg (P := P) (b := .max) (mx := true) (t := type)  rfl hR (hE.ev ox) (hE.ev oy) hc
        exact ⟨h1, by simpa [RP, builtin] using h2.next⟩
    · exact hc.elim
end
end Go.Abs
end
