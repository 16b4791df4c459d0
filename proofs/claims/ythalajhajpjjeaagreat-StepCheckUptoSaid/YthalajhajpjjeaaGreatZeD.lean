/- The abstraction layer, part N: an operation looks at no more -/
import Derived.Test.YthalajhajpjjeaaGreatZeC
set_option linter.unusedVariables false
set_option linter.unusedSimpArgs false
section
namespace Go.Abs
def AOut.on (r:AOut)(H:AHeap):AOut:=⟨r.cond,r.fact,r.val,H⟩
def jM (H' H1:AHeap)(F:List Nat)(nid:Nat):AHeap:=⟨H'.next,fun i=>H'.al i∨(i=nid∧H1.al nid),fun i=>if i∈F then H1.get i else H'.get i⟩
section
variable {P:Program} {H H':AHeap} {F:List Nat} {nid:Nat}
theorem gH (hF:fA F H' H)(hn:¬ H.al nid):jM H' H F nid=H':=by
 obtain ⟨n,al,g⟩:=H'
 simp only [jM,AHeap.mk.injEq,true_and]
 refine ⟨?_,?_⟩
 ·funext i;exact propext ⟨fun h=>h.elim id fun h=>absurd h.2 hn,.inl⟩
 ·funext i
  by_cases hi:i∈F
  ·rw [if_pos hi];exact (hF i hi).symm
  ·rw [if_neg hi]
theorem lD (hF:fA F H' H)(hlt:nid<H'.next)(hnF:nid∈F)(b:Blk):H'.push nid b=jM H' (H.push nid b) F nid:=by
 obtain ⟨n,al,g⟩:=H'
 have hlt':nid<n:=hlt
 simp only [AHeap.push,jM,AHeap.mk.injEq,hlt',if_true,true_and]
 refine ⟨?_,?_⟩
 ·funext i;exact propext ⟨fun h=>h.elim (fun e=>.inr ⟨e,.inl trivial⟩) .inl,fun h=>h.elim .inr fun h=>.inl h.1⟩
 ·funext i
  by_cases hi:i∈F
  ·rw [if_pos hi]
   by_cases he:i=nid
   ·rw [if_pos he,if_pos he]
   ·rw [if_neg he,if_neg he];exact hF i hi
  ·have he:i≠nid:=fun e=>hi (e ▸ hnF)
   rw [if_neg hi,if_neg he]
theorem rE (hF:fA F H' H)(hn:¬ H.al nid){id:Nat}(hid:id∈F)(b:Blk):H'.put id b=jM H' (H.put id b) F nid:=by
 obtain ⟨n,al,g⟩:=H'
 simp only [AHeap.put,jM,AHeap.mk.injEq,true_and]
 refine ⟨?_,?_⟩
 ·funext i;exact propext ⟨.inl,fun h=>h.elim (fun h=>h) fun h=>absurd h.2 hn⟩
 ·funext i
  by_cases hi:i∈F
  ·rw [if_pos hi]
   by_cases he:i=id
   ·rw [if_pos he,if_pos he]
   ·rw [if_neg he,if_neg he];exact hF i hi
  ·have he:i≠id:=fun e=>hi (e ▸ hid)
   rw [if_neg hi,if_neg he]
theorem NM (hF:fA F H' H)(id:Nat)(b:Blk):fA F (H'.put id b) (H.put id b):=by
 intro i hi
 simp only [AHeap.put]
 by_cases he:i=id
 ·rw [if_pos he,if_pos he]
 ·rw [if_neg he,if_neg he];exact hF i hi
theorem LX (H:AHeap)(id:Nat):(H.frz id).al=H.al∧(H.frz id).next=H.next:=by unfold AHeap.frz;cases H.get id<;>exact ⟨rfl,rfl⟩
theorem t8 (ids:List Nat):∀ H:AHeap,(eV ids H).al=H.al∧(eV ids H).next=H.next:=by
 induction ids with
 | nil=>intro H;exact ⟨rfl,rfl⟩
 | cons i l ih=>intro H;exact ⟨(ih _).1.trans (LX H i).1,(ih _).2.trans (LX H i).2⟩
theorem GO (H:AHeap)(id i:Nat)(h:i≠id):(H.frz id).get i=H.get i:=by
 unfold AHeap.frz
 cases H.get id with
 | none=>rfl
 | some k=>simp [AHeap.put,h]
theorem y4 (ids:List Nat):∀ (H:AHeap) (i:Nat),i∉ids→(eV ids H).get i=H.get i:=by
 induction ids with
 | nil=>intro H i _;rfl
 | cons a l ih =>
  intro H i hi
  simp only [eV]
  rw [ih _ i (fun h=>hi (by simp [h])),GO H a i (fun e=>hi (by simp [e]))]
theorem Et (ids:List Nat)(hs:∀ i∈ids,i∈F):∀ {H H':AHeap},fA F H' H→fA F (eV ids H') (eV ids H):=by
 induction ids with
 | nil=>intro H H' h;exact h
 | cons a l ih =>
  intro H H' h
  simp only [eV]
  refine ih (fun i hi=>hs i (by simp [hi])) ?_
  have ha:=h a (hs a (by simp))
  unfold AHeap.frz
  rw [ha]
  cases H.get a with
  | none=>exact h
  | some k=>exact NM h a _
theorem Af (ids:List Nat)(hs:∀ i∈ids,i∈F)(H1:AHeap):jM (eV ids H') H1 F nid=jM H' H1 F nid:=by
 simp only [jM,AHeap.mk.injEq]
 refine ⟨(t8 ids H').2,by rw [(t8 ids H').1],?_⟩
 funext i
 by_cases hi:i∈F
 ·rw [if_pos hi,if_pos hi]
 ·rw [if_neg hi,if_neg hi,y4 ids H' i (fun h=>hi (hs i h))]
theorem MI (d:D):∀ i∈dE d,i∈dG d:=by
 cases d<;>intro i hi<;>first|exact hi|(simp [dE,jL] at hi;done)|(simp only [dE,jL,dG] at hi ⊢;exact hi)
theorem DC {d:D}(h:fA (jL d) H' H):eJ H' d=eJ H d:=by
 cases d<;>try rfl
 ·rename_i id n
  simp only [eJ,h id (by simp [jL])]
 ·rename_i id n lo hi
  simp only [eJ,h id (by simp [jL])]
theorem Dz {d:D}(h:fA (dE d) H' H):g6 H' d=g6 H d:=by
 cases d with
 | agg cs =>
  simp only [g6]
  congr 1
  exact bU fun x hx=>DC fun i hi=>h i (bT.2 ⟨x,hx,hi⟩)
 | _ =>
  have h':=h
  simp only [dE] at h'
  simp only [g6]
  exact DC h'
theorem FR {x:D}(h:fA (dG x) H' H):eQ H' x=eQ H x:=by
 cases x<;>try rfl
 rename_i id ver i off
 simp only [eQ,h id (by simp [dG])]
theorem KN {t:TypeId}{x:D}(h:fA (dG x) H' H):lQ P t x H'=(lQ P t x H).on H':=by
 unfold lQ
 rw [FR h]
 cases eQ H x with
 | none=>rfl
 | some cs=>cases tk P t<;>rfl
theorem yJ {x:D}{n:Nat}(h:fA (dG x) H' H):dM x n H'=(dM x n H).on H':=by
 cases x<;>try rfl
 rename_i id ver i off
 simp only [dM,h id (by simp [dG])]
 cases H.get id<;>rfl
theorem AN {x:D}{n:Nat}:(dM x n H).heap=H:=by
 unfold dM
 split
 ·rfl
 ·split<;>rfl
 ·rfl
theorem uY {t:TypeId}{x:D}{f:Nat}:(gC P t x f H).heap=H:=by
 unfold gC
 split
 ·split
  ·exact AN
  ·rfl
 ·rfl
theorem uX {t:TypeId}{x i:D}:(gB P t x i H).heap=H:=by
 unfold gB
 split
 ·split
  ·split<;>rfl
  ·split<;>rfl
  ·split
   ·exact AN
   ·rfl
 ·rfl
theorem CV {x:D}(h:fA (dG x) H' H):iI x H'=(iI x H).on H':=by
 cases x<;>try rfl
 rename_i id ver i off
 simp only [iI,h id (by simp [dG])]
 cases H.get id<;>rfl
theorem BG {t : TypeId} {x : D} {f : Nat} (h : fA (dG x) H' H) : gC P t x f H' = (gC P t x f H).on H' := by
  unfold gC
  cases bk P t with
  | none => rfl
  | some b => cases b with
    | ar sz => rfl
    | st l =>
      simp only
      cases l[f]? with
      | none => rfl
      | some q => simp only [yJ h]; rfl
theorem BF {t:TypeId}{x i:D}(h:fA (dG x) H' H):gB P t x i H'=(gB P t x i H).on H':=by
 cases i<;>try rfl
 rename_i k n
 unfold gB
 cases x<;>simp only<;>first
  | (cases sl P t<;>rfl)
  | (simp only [yJ h];cases Mn P t<;>rfl)
  | skip
 rename_i id m
 simp only [h id (by simp [dG])]
 cases sl P t<;>cases H.get id<;>rfl
theorem Iu {t:TypeId}{x:D}{lo hi:Option D}(h:fA (dG x) H' H):nZ P t x lo hi H'=(nZ P t x lo hi H).on H':=by
 unfold nZ
 cases x<;>try rfl
 ·simp only;split<;>rfl
 ·simp only;split<;>rfl
 ·rename_i id n
  simp only [h id (by simp [dG])]
  split<;>rfl
theorem Cr {t:TypeId}{x:D}{lo hi:Option D}:(nZ P t x lo hi H).heap=H:=by
 unfold nZ
 split
 ·split<;>rfl
 ·split<;>rfl
 ·split<;>rfl
 ·rfl
theorem Mo {t:TypeId}{x:D}(h:fA (dG x) H' H):CW P t x H'=(CW P t x H).on H':=by
 unfold CW
 cases P.underlying t with
 | none=>rfl
 | some de =>
  cases de<;>try rfl
  ·cases x<;>rfl
  ·cases x<;>try rfl
   rename_i id n
   simp only [h id (by simp [dG])]
   cases H.get id<;>rfl
theorem FJ {x:D}(h:fA (dG x) H' H):mU H' x=mU H x:=by
 cases x<;>try rfl
 rename_i id n
 simp only [mU,h id (by simp [dG])]
structure Loc (r r':AOut) (H':AHeap) (F:List Nat) (nid:Nat):Prop where
 cond:r.cond→r'.cond
 fact:r'.fact=r.fact
 val:r'.val=r.val
 heap:r'.heap=jM H' r.heap F nid
theorem Loc.on {r r':AOut}(h:r'=r.on H')(hh:r.heap=H)(hF:fA F H' H)(hn:¬ H.al nid):Loc r r' H' F nid:=by
 subst h
 exact ⟨fun h=>h,rfl,rfl,by rw [hh,gH hF hn];rfl⟩
theorem Loc.bad (hF:fA F H' H)(hn:¬ H.al nid):Loc (AOut.bad H) (AOut.bad H') H' F nid:=⟨fun h=>h,rfl,rfl,(gH hF hn).symm⟩
theorem AP {t : TypeId} {x v : D} (hF : fA F H' H) (hx : ∀ i ∈ dG x, i ∈ F) (hn : ¬ H.al nid) : Loc (kH P t x v H) (kH P t x v H') H' F nid := by
  unfold kH
  cases x <;> try (exact Loc.bad hF hn)
  rename_i id ver i off
  have hid : id ∈ F := hx id (by simp [dG])
  simp only
  rw [hF id hid]
  cases hk : H.get id with
  | none => (simp only [hk]; exact Loc.bad hF hn)
  | some k =>
    simp only [hk]
    cases hi : k.es[i]? with
    | none => (simp only [hi]; exact Loc.bad hF hn)
    | some c =>
      simp only [hi]
      exact ⟨fun h => h, rfl, rfl, rE hF hn hid _⟩
theorem Iv {t : TypeId} {x : D} (hF : fA F H' H) (hx : ∀ i ∈ dG x, i ∈ F) (hn : ¬ H.al nid) : Loc (sA P t x H) (sA P t x H') H' F nid := by
  unfold sA
  cases x <;> try (exact Loc.bad hF hn)
  rename_i id ver lo hi
  have hid : id ∈ F := hx id (by simp [dG])
  simp only
  rw [hF id hid]
  cases hs : sl P t with
  | none => (simp only [hs]; exact Loc.bad hF hn)
  | some s =>
    cases hk : H.get id with
    | none => (simp only [hs, hk]; exact Loc.bad hF hn)
    | some k =>
      simp only [hs, hk]
      exact ⟨fun h => h, rfl, rfl, rE hF hn hid _⟩
theorem FW {t t' : TypeId} {x y : D} (hF : fA F H' H) (hx : ∀ i ∈ dG x, i ∈ F) (hy : ∀ i ∈ dG y, i ∈ F) (hn : ¬ H.al nid) (hlt : nid < H'.next) (hnF : nid ∈ F) :
    Loc (jC P nid t t' x y H) (jC P nid t t' x y H') H' F nid := by
  unfold jC
  rw [FJ (H := H) (H' := H') fun i hi => hF i (hy i hi)]
  cases hs : sl P t with
  | none => (simp only [hs]; exact Loc.bad hF hn)
  | some s =>
    cases he : mU H y with
    | none =>
      simp only [hs, he]
      unfold nA
      cases y <;> try (exact Loc.bad hF hn)
      cases x <;> try (exact Loc.bad hF hn)
      rename_i id n
      cases hk' : yY P t' with
      | none => (simp only [hk']; exact Loc.bad hF hn)
      | some kn =>
        simp only [hk']
        have hid : id ∈ F := hx id (by simp [dG])
        rw [hF id hid]
        cases hk : H.get id with
        | none => (simp only [hk]; exact Loc.bad hF hn)
        | some k =>
          simp only [hk]
          exact ⟨fun h => h, rfl, rfl, rE hF hn hid _⟩
    | some ys =>
      simp only [hs, he]
      cases x <;> try (exact Loc.bad hF hn)
      · exact ⟨fun h => h, rfl, rfl, lD hF hlt hnF _⟩
      · rename_i id n
        have hid : id ∈ F := hx id (by simp [dG])
        simp only
        rw [hF id hid]
        cases hk : H.get id with
        | none => (simp only [hk]; exact Loc.bad hF hn)
        | some k =>
          simp only [hk]
          exact ⟨fun h => h, rfl, rfl, rE hF hn hid _⟩
theorem BC {md : Nat → Bool} {e : Nat → D} {o : Oper} (hF : fA (foot nid e o.op) H' H) (hn : ¬ H.al nid) (hlt : nid < H'.next) :
    Loc (CU P nid md e o H) (CU P nid md e o H') H' (foot nid e o.op) nid := by
  obtain ⟨dst, op, type, pos, after, guard⟩ := o
  have hopd : oN op = true → ∀ x ∈ op.operands, ∀ i ∈ dG (eB e x), i ∈ foot nid e op := fun hh x hx i hi => by
    simp only [foot, hh, if_true, aY, bT]
    exact .inr ⟨x, by simpa using hx, hi⟩
  have hmk : D6 op = true → nid ∈ foot nid e op := fun h => by simp [foot, h]
  simp only at hF
  have sub : oN op = true → ∀ x ∈ op.operands, fA (dG (eB e x)) H' H := fun hh x hx i hi => hF i (hopd hh x hx i hi)
  unfold CU
  simp only
  have nilcase : ∀ x : Operand, D6 op = iC x →
      Loc (if iC x then BE P nid (Bh md dst) type H else ⟨True, True, eB e x, H⟩) (if iC x then BE P nid (Bh md dst) type H' else ⟨True, True, eB e x, H'⟩) H' (foot nid e op) nid := by
    intro x hm
    by_cases hx : iC x = true
    · rw [if_pos hx]
      rw [if_pos hx]
      unfold BE
      generalize Bh md dst = m
      cases m with
      | false => exact ⟨fun h => h, rfl, rfl, (gH hF hn).symm⟩
      | true =>
        simp only [if_true]
        cases hs : sl P type with
        | none => (simp only [hs]; exact Loc.bad hF hn)
        | some s => exact ⟨fun h => h, rfl, rfl, lD hF hlt (hmk (hm.trans hx)) _⟩
    · rw [if_neg hx]
      rw [if_neg hx]
      exact ⟨fun h => h, rfl, rfl, (gH hF hn).symm⟩
  cases op <;> try (exact Loc.bad hF hn)
  case move x => exact nilcase x rfl
  case assign x => exact nilcase x rfl
  case pick c a b =>
    refine Loc.on ?_ ?_ hF hn
    · simp only [wT]; split <;> first | rfl | (simp only [r9]; split <;> rfl)
    · simp only [wT]; split <;> first | rfl | (simp only [r9]; split <;> rfl)
  case alloc t =>
    simp only [uH]
    cases hz : zd P t with
    | none => (simp only [hz]; exact Loc.bad hF hn)
    | some z =>
      simp only [hz]
      generalize Bh md dst = m
      cases m with
      | false => exact ⟨fun h => h, rfl, rfl, (gH hF hn).symm⟩
      | true => exact ⟨fun h => h, rfl, rfl, lD hF hlt (hmk rfl) _⟩
  case box t x =>
    simp only [Iw]
    generalize Bh md dst = m
    cases m with
    | false => exact ⟨fun h => h, rfl, rfl, (gH hF hn).symm⟩
    | true => exact ⟨fun h => h, rfl, rfl, lD hF hlt (hmk rfl) _⟩
  case build t ps =>
    refine Loc.on ?_ ?_ hF hn
    · simp only [qO]; split
      · split <;> rfl
      · rfl
    · simp only [qO]; split
      · split <;> rfl
      · rfl
  case buildSlice t m ps =>
    have hids : ∀ i ∈ (ps.toList.flatMap fun p => Il md (eB e p.2)), i ∈ foot nid e (.buildSlice t m ps) := fun i hi => by
      obtain ⟨p, hp, hi⟩ := bT.1 hi
      refine hopd rfl p.2 ?_ i (MI _ i (QG hi))
      simp only [Op.operands]
      simpa using ⟨p.1, by simpa using hp⟩
    have hmap : (ps.toList.map fun p => (p.1, Nf md H' (eB e p.2))) = ps.toList.map fun p => (p.1, Nf md H (eB e p.2)) := bU fun p hp => by
      congr 1; unfold Nf; split
      · rfl
      · rename_i hb; exact Dz fun i hi => hF i (hids i (bT.2 ⟨p, hp, by unfold Il; rw [if_neg hb]; exact hi⟩))
    simp only
    rw [hmap]
    have hA := Et _ hids hF
    have hov : ∀ H1 : AHeap, jM (eV (ps.toList.flatMap fun p => Il md (eB e p.2)) H') H1 (foot nid e (.buildSlice t m ps)) nid = jM H' H1 (foot nid e (.buildSlice t m ps)) nid := fun H1 => Af _ hids H1
    have hbad : Loc (AOut.bad (eV (ps.toList.flatMap fun p => Il md (eB e p.2)) H)) (AOut.bad (eV (ps.toList.flatMap fun p => Il md (eB e p.2)) H')) H' (foot nid e (.buildSlice t m ps)) nid :=
      ⟨fun h => h, rfl, rfl, by
        show eV _ H' = jM H' (eV _ H) _ nid
        rw [← hov, gH hA (by rw [(t8 _ H).1]; exact hn)]⟩
    simp only [gM]
    cases hs : sl P t with
    | none => (simp only [hs]; exact hbad)
    | some s =>
      simp only [hs]
      cases hfl : yG (fun i => some (i * s.sz, s.sz)) (List.replicate m s.z).flatten (ps.toList.map fun p => (p.1, Nf md H (eB e p.2))) with
      | none => (simp only [hfl]; exact hbad)
      | some cs =>
        simp only [hfl]
        generalize Bh md dst = m'
        cases m' with
        | false =>
          refine ⟨fun h => h, rfl, rfl, ?_⟩
          simp only [dY, if_false]
          rw [← hov, gH hA (by rw [(t8 _ H).1]; exact hn)]
        | true =>
          refine ⟨fun h => h, rfl, rfl, ?_⟩
          simp only [if_true]
          rw [← hov]
          exact lD hA (by rw [(t8 _ H').2]; exact hlt) (hmk rfl) _
  case load t a => exact Loc.on (KN (sub rfl a (by simp [Op.operands]))) (by simp only [lQ]; split <;> (try split) <;> rfl) hF hn
  case store t a v =>
    have ha := hopd rfl a (by simp [Op.operands])
    have hv := hopd rfl v (by simp [Op.operands])
    simp only
    by_cases hm : md 1000000 = true
    · rw [if_pos hm]
      rw [if_pos hm]
      have hids : ∀ i ∈ dE (eB e v), i ∈ foot nid e (.store t a v) := fun i hi => hv i (MI _ i hi)
      rw [Dz (H := H) (H' := H') fun i hi => hF i (hids i hi)]
      have hl := AP (P := P) (t := t) (v := g6 H (eB e v)) (nid := nid) (Et _ hids hF) ha (by rw [(t8 _ H).1]; exact hn)
      exact ⟨hl.cond, hl.fact, hl.val, by rw [hl.heap, Af _ hids]⟩
    · rw [if_neg hm]
      rw [if_neg hm]
      exact AP hF ha hn
  case nilCheck x => exact Loc.on (CV (sub rfl x (by simp [Op.operands]))) (by simp only [iI]; split <;> (try split) <;> rfl) hF hn
  case binOp op t x y t' =>
    refine Loc.on ?_ ?_ hF hn
    · simp only [pI]; split <;> first | rfl | (simp only [E9]; split <;> first | rfl | (split <;> rfl) | (simp only [FV]; split <;> rfl))
    · simp only [pI]; split <;> first | rfl | (simp only [E9]; split <;> first | rfl | (split <;> rfl) | (simp only [FV]; split <;> rfl))
  case unOp op t x =>
    refine Loc.on ?_ ?_ hF hn
    · simp only [PJ]; split <;> rfl
    · simp only [PJ]; split <;> rfl
  case convert s d x =>
    refine Loc.on ?_ ?_ hF hn
    · simp only [k9]; split <;> (try split) <;> rfl
    · simp only [k9]; split <;> (try split) <;> rfl
  case makeFunc fn first caps =>
    cases fn <;> try (exact Loc.bad hF hn)
    simp only
    by_cases hf : first.isEmpty = true
    · rw [if_pos hf]
      rw [if_pos hf]
      exact ⟨fun h => h, rfl, rfl, (gH hF hn).symm⟩
    · rw [if_neg hf]; rw [if_neg hf]; exact Loc.bad hF hn
  case makeSlice t l c =>
    simp only [AS]
    split
    · exact ⟨fun h => h, rfl, rfl, lD hF hlt (hmk rfl) _⟩
    · exact Loc.bad hF hn
  case slice t x lo hi mx =>
    cases mx <;> try (exact Loc.bad hF hn)
    exact Loc.on (Iu (sub rfl x (by simp [Op.operands]))) Cr hF hn
  case fieldAddr t x f => exact Loc.on (BG (sub rfl x (by simp [Op.operands]))) uY hF hn
  case indexAddr t x i => exact Loc.on (BF (sub rfl x (by simp [Op.operands]))) uX hF hn
  case index t x i =>
    refine Loc.on ?_ ?_ hF hn
    · simp only [qN]; split <;> (try split) <;> (try split) <;> rfl
    · simp only [qN]; split <;> (try split) <;> (try split) <;> rfl
  case extract t i =>
    refine Loc.on ?_ ?_ hF hn
    · simp only [k8]; split <;> rfl
    · simp only [k8]; split <;> rfl
  case call c =>
    obtain ⟨callee, args, ts⟩ := c
    cases callee <;> try (exact Loc.bad hF hn)
    rename_i b
    simp only
    have hargs : ∀ d ∈ args.toList.map (eB e), ∀ i ∈ dG d, i ∈ foot nid e (.call { callee := .builtin b, args := args, argTypes := ts }) := by
      intro d hd i hi
      obtain ⟨x, hx, rfl⟩ := bG.1 hd
      exact hopd rfl x (by simp only [Op.operands, Call.operands]; simpa using hx) i hi
    generalize args.toList.map (eB e) = az at hargs ⊢
    unfold tF
    split
    · exact Loc.on (Mo fun i hi => hF i (hargs _ (bL.2 rfl) i hi)) (by
        simp only [CW]
        split
        · split <;> (try split) <;> rfl
        · split <;> rfl
        · rfl
        · rfl) hF hn
    · exact FW hF (hargs _ (kL ..)) (hargs _ (dH _ (bL.2 rfl))) hn hlt (by simp [foot, D6])
    · exact Iv hF (hargs _ (bL.2 rfl)) hn
    · refine Loc.on ?_ ?_ hF hn
      · simp only [AR]; split <;> rfl
      · simp only [AR]; split <;> rfl
    · refine Loc.on ?_ ?_ hF hn
      · simp only [AR]; split <;> rfl
      · simp only [AR]; split <;> rfl
    · exact Loc.bad hF hn
theorem PK {md:Nat→Bool}{e:Nat→D}{o:Oper}(hw:tH o.op=false):(CU P nid md e o H).heap=H:=by
 obtain ⟨dst,op,type,pos,after,guard⟩:=o
 simp only at hw
 unfold CU
 cases op<;>first|(simp [tH] at hw;done)|skip
 case move x =>
  simp only [tH] at hw
  simp [hw]
 case assign x =>
  simp only [tH] at hw
  simp [hw]
 case pick c a b=>simp only [wT];split<;>first|rfl|(simp only [r9];split<;>rfl)
 case build t ps =>
  simp only [qO]
  split
  ·split<;>rfl
  ·rfl
 case load t a=>simp only [lQ];split<;>(try split)<;>rfl
 case nilCheck x=>simp only [iI];split<;>(try split)<;>rfl
 case binOp op t x y t'=>simp only [pI];split<;>first|rfl|(simp only [E9];split<;>first|rfl|(split<;>rfl)|(simp only [FV];split<;>rfl))
 case unOp op t x=>simp only [PJ];split<;>rfl
 case convert s d x=>simp only [k9];split<;>(try split)<;>rfl
 case makeFunc fn first caps =>
  cases fn<;>try rfl
  simp only
  split<;>rfl
 case slice t x lo hi mx =>
  cases mx<;>try rfl
  exact Cr
 case fieldAddr t x f=>exact uY
 case indexAddr t x i=>exact uX
 case index t x i=>simp only [qN];split<;>(try split)<;>(try split)<;>rfl
 case extract t i=>simp only [k8];split<;>rfl
 case call c =>
  obtain ⟨callee,args,ts⟩:=c
  cases callee<;>try rfl
  rename_i b
  simp only
  generalize args.toList.map (eB e)=az
  unfold tF
  split
  ·simp only [CW]
   split
   ·split<;>(try split)<;>rfl
   ·split<;>rfl
   ·rfl
   ·rfl
  ·simp [tH] at hw
  ·simp [tH] at hw
  ·simp only [AR];split<;>rfl
  ·simp only [AR];split<;>rfl
  ·rfl
 all_goals rfl
end
end Go.Abs
end
section
namespace Go.Abs
theorem D7 {ops:Array Oper}{o:Oper}{t:Tmp}(h:Operand.tmp t∈o.op.operands):t∈o.looksAt ops:=by
 simp only [Oper.looksAt,aY,List.mem_filterMap]
 exact .inl ⟨.tmp t,by simpa using h,rfl⟩
theorem JZ {ops:Array Oper}{o:Oper}{j:Nat}{b:Bool}{t:Tmp}(hg:o.guard=some (j,b))(h:(ops[j]?).bind (·.dst)=some t):t∈o.looksAt ops:=by
 simp only [Oper.looksAt,aY,hg]
 exact .inr (by simp [h])
section
variable {P:Program} {md:Nat→Bool} {ops:Array Oper} {nid:Nat}
def sS (H' H1:AHeap)(F N:List Nat):AHeap:=⟨H'.next,fun i=>H'.al i∨(i∈N∧H1.al i),fun i=>if i∈F then H1.get i else H'.get i⟩
theorem JP (H' H1:AHeap)(F:List Nat)(nid:Nat):jM H' H1 F nid=sS H' H1 F [nid]:=by
 simp only [jM,sS,AHeap.mk.injEq,true_and,and_true]
 funext i
 refine propext ⟨fun h=>h.imp (fun x=>x) fun ⟨h1,h2⟩=>⟨by simp [h1],h1 ▸ h2⟩,fun h=>h.imp (fun x=>x) fun ⟨h1,h2⟩=>?_⟩
 have:i=nid:=by simpa using h1
 exact ⟨this,this ▸ h2⟩
theorem Gq {H H':AHeap}{F N:List Nat}(hF:fA F H' H)(hn:∀ i∈N,¬ H.al i):sS H' H F N=H':=by
 obtain ⟨n,al,g⟩:=H'
 simp only [sS,AHeap.mk.injEq,true_and]
 refine ⟨?_,?_⟩
 ·funext i;exact propext ⟨fun h=>h.elim id fun h=>absurd h.2 (hn i h.1),.inl⟩
 ·funext i
  by_cases hi:i∈F
  ·rw [if_pos hi];exact (hF i hi).symm
  ·rw [if_neg hi]
theorem nL:∀ (q:List (Nat × Blk)) (H:AHeap),(∀ p∈q,p.1<H.next)→(H.pushs q).next=H.next
 | [],H,_=>rfl
 | p :: l,H,h=>by
  have h1:(H.push p.1 p.2).next=H.next:=by simp only [AHeap.push,if_pos (h p (by simp))]
  simp only [AHeap.pushs]
  rw [nL l _ (fun x hx=>by rw [h1];exact h x (by simp [hx])),h1]
theorem p6:∀ (q:List (Nat × Blk)) (H:AHeap) (i:Nat),(H.pushs q).al i↔H.al i∨i∈q.map (·.1)
 | [],H,i=>by simp [AHeap.pushs]
 | p :: l,H,i=>by
  simp only [AHeap.pushs]
  rw [p6 l]
  simp only [AHeap.push,f6,aT]
  constructor
  ·rintro ((h|h)|h)
   ·exact .inr (.inl h)
   ·exact .inl h
   ·exact .inr (.inr h)
  ·rintro (h|h|h)
   ·exact .inl (.inr h)
   ·exact .inl (.inl h)
   ·exact .inr h
theorem Gm:∀ (q:List (Nat × Blk)) (H H':AHeap) (i:Nat),(i∈q.map (·.1)∨H.get i=H'.get i)→(H.pushs q).get i=(H'.pushs q).get i
 | [],H,H',i,h=>by
  rcases h with h|h
  ·simp at h
  ·exact h
 | p :: l,H,H',i,h=>by
  simp only [AHeap.pushs]
  refine Gm l _ _ i ?_
  by_cases hl:i∈l.map (·.1)
  ·exact .inl hl
  ·right
   simp only [AHeap.push]
   by_cases hp:i=p.1
   ·simp [hp]
   ·simp only [hp,if_false]
    rcases h with h|h
    ·simp only [f6,aT] at h
     rcases h with h|h
     ·exact absurd h hp
     ·exact absurd h hl
    ·exact h
theorem l7:∀ (q:List (Nat × Blk)) (H:AHeap) (i:Nat),i∉q.map (·.1)→(H.pushs q).get i=H.get i
 | [],H,i,_=>rfl
 | p :: l,H,i,h=>by
  simp only [f6,aT,not_or] at h
  simp only [AHeap.pushs]
  rw [l7 l _ i h.2]
  simp [AHeap.push,h.1]
theorem sN:∀ (u:List (Nat × Blk)) (H:AHeap),(H.puts u).next=H.next
 | [],_=>rfl
 | p :: l,H=>sN l (H.put p.1 p.2)
theorem HT:∀ (u:List (Nat × Blk)) (H:AHeap) (i:Nat),(H.puts u).al i↔H.al i
 | [],_,_=>Iff.rfl
 | p :: l,H,i=>HT l (H.put p.1 p.2) i
theorem JJ:∀ (u:List (Nat × Blk)) (H H':AHeap) (i:Nat),H.get i=H'.get i→(H.puts u).get i=(H'.puts u).get i
 | [],_,_,_,h=>h
 | p :: l,H,H',i,h=>JJ l _ _ i (by simp only [AHeap.put];split<;>first|rfl|exact h)
theorem tV:∀ (u:List (Nat × Blk)) (H:AHeap) (i:Nat),(∀ p∈u,p.1≠i)→(H.puts u).get i=H.get i
 | [],H,i,_=>rfl
 | p :: l,H,i,h=>by
  simp only [AHeap.puts]
  rw [tV l _ i fun x hx=>h x (by simp [hx])]
  have:=(h p (by simp)).symm
  simp [AHeap.put,this]
theorem DX {H H':AHeap}{S:List Nat}{u q:List (Nat × Blk)}(hu:∀ p∈u,p.1∈S)(hF:fA (S++q.map (·.1)) H' H)(hlt:∀ p∈q,p.1<H'.next):(H'.puts u).pushs q=sS H' ((H.puts u).pushs q) (S++q.map (·.1)) (q.map (·.1)):=by
 have h1:=nL q (H'.puts u) (by rw [sN];exact hlt)
 have h2:=p6 q (H'.puts u)
 have h3:=Gm q (H'.puts u) (H.puts u)
 have h4:=l7 q (H'.puts u)
 have h5:=p6 q (H.puts u)
 rw [sN] at h1
 simp only [HT] at h2 h5
 generalize (H'.puts u).pushs q=X at h1 h2 h3 h4
 obtain ⟨n,al,g⟩:=X
 simp only [sS,AHeap.mk.injEq]
 refine ⟨h1,funext fun i=>propext ?_,funext fun i=>?_⟩
 ·rw [show al i↔_ from h2 i]
  exact ⟨fun h=>h.imp (fun x=>x) fun h=>⟨h,(h5 i).2 (.inr h)⟩,fun h=>h.imp (fun x=>x) fun h=>h.1⟩
 ·by_cases hi:i∈S++q.map (·.1)
  ·rw [if_pos hi]
   exact h3 i (.inr (JJ u _ _ i (hF i hi)))
  ·rw [if_neg hi]
   refine (h4 i fun h=>hi (by simp only [aY];exact .inr h)).trans (tV u _ i fun p hp he=>hi ?_)
   simp only [aY];exact .inl (he ▸ hu p hp)
structure Txt (P:Program) (md:Nat→Bool) (ops:Array Oper) (m nid:Nat) (o:Oper) (e:Nat→D) (H:AHeap) (v:D) (H1:AHeap) (F N:List Nat):Prop where
 self:H1=sS H H1 F N
 new:∀ id∈N,¬ H.al id∧(id=nid∨(id<m∧H1.al id))
 still:lB md o=false→H1=H
 foot:oN o.op=false→F=[]
 any:∀ e' H',(∀ t∈o.looksAt ops,e' t=e t)→fA F H' H→nid<H'.next→¬ H'.al nid→(∀ id∈N,id<H'.next∧¬ H'.al id) →
  mZ P md (some m) nid ops e' o H' fun v' H2 _=>v'=v∧H2=sS H' H1 F N
theorem JY {o:Op}(h:oN o=false):D6 o=false:=by
 cases o<;>first|rfl|(simp [oN] at h;done)|(simp only [oN] at h;simp only [D6];exact h)
theorem Kg {e:Nat→D}{o:Op}(h:oN o=false):foot nid e o=[]:=by simp [foot,h,JY h]
theorem Ax {e e':Nat→D}{o:Oper}(h:∀ t∈o.looksAt ops,e' t=e t):∀ x∈o.op.operands,eB e' x=eB e x:=by
 intro x hx
 cases x with
 | tmp t=>exact h t (D7 hx)
 | _=>rfl
theorem yO {e e':Nat→D}{o:Oper}(h:∀ t∈o.looksAt ops,e' t=e t):∀ x∈o.op.operands,eB (gE e' o.op) x=eB (gE e o.op) x:=by
 intro x hx
 cases x with
 | tmp t =>
  have ht:=h t (D7 hx)
  simp only [eB]
  cases o.op<;>simp only [gE,BL,ht]
  rename_i c _ _
  cases c<;>simp only [ht]
 | _=>rfl
theorem Gv {e e':Nat→D}:∀ (l:List Operand),(∀ x∈l,og e' x=og e x)→Ox e' l=Ox e l
 | [],_=>rfl
 | x :: l,h=>by simp only [Ox,h x (by simp),Gv l fun y hy=>h y (by simp [hy])]
theorem Loc.self {r:AOut}{H:AHeap}{F:List Nat}(h:Loc r r H F nid):r.heap=jM H r.heap F nid:=h.heap
theorem Ot {m : Nat} {e : Nat → D} {o : Oper} {H : AHeap} {K : D → AHeap → List Nat → Prop} (h : mZ P md (some m) nid ops e o H K) (hn : ¬ H.al nid) (hlt : nid < H.next) (hmn : m ≤ H.next) :
    ∃ v H1 F N, Txt P md ops m nid o e H v H1 F N ∧ K v H1 F := by
  unfold mZ at h
  have hself : ∀ F : List Nat, H = sS H H F [nid] := fun F => (Gq (fun _ _ => rfl) (by simpa using hn)).symm
  have hone : ∀ id ∈ [nid], ¬ H.al id ∧ ∀ H1 : AHeap, (id = nid ∨ (id < m ∧ H1.al id)) := fun id hid => by
    have : id = nid := by simpa using hid
    subst this; exact ⟨hn, fun _ => .inl rfl⟩
  have hnid : ∀ {H' : AHeap}, fA [] H' H → ∀ {F : List Nat}, fA F H' H → sS H' H F [nid] = H' := fun _ _ hF => Gq hF (by simpa using hn)
  cases hg : o.guard with
  | none =>
    simp only [hg] at h
    cases hc : fU e o with
    | some fa =>
      obtain ⟨f, args⟩ := fa
      simp only [hc] at h
      have hh : oN o.op = true ∧ C2 md o = Bh md o.dst := by
        unfold fU at hc
        split at hc
        · rename_i hop; unfold C2; rw [hop]; exact ⟨rfl, rfl⟩
        · cases hc
      rcases h with ⟨r, S, h1, h2⟩ | ⟨hmd, r, S, u, q, hu, hq, h1, h2⟩
      · refine ⟨r, H, S, [nid], ⟨hself S, fun id hid => ⟨(hone id hid).1, (hone id hid).2 _⟩, fun _ => rfl, fun h => (by rw [hh.1] at h; cases h), fun e' H' he hF hlt' hn' hN => ?_⟩, h2⟩
        unfold mZ
        simp only [hg]
        rw [mX (Ax he), hc]
        exact .inl ⟨r, S, fun H'' hF' => h1 H'' fun i hi => (hF' i hi).trans (hF i hi), rfl, (hnid (fun _ h => by cases h) hF).symm⟩
      · have hal := p6 q (H.puts u)
        refine ⟨r, (H.puts u).pushs q, S ++ q.map (·.1), q.map (·.1), ⟨DX hu (fun _ _ => rfl) (fun p hp => bQ (hq p hp).1 hmn), fun id hid => ?_, fun hw => ?_, fun h => (by rw [hh.1] at h; cases h), fun e' H' he hF hlt' hn' hN => ?_⟩, h2⟩
        · obtain ⟨p, hp, rfl⟩ := bG.1 hid
          exact ⟨(hq p hp).2, .inr ⟨(hq p hp).1, (hal _).2 (.inr hid)⟩⟩
        · unfold lB at hw
          rw [hh.2, hmd] at hw
          simp at hw
        · unfold mZ
          simp only [hg]
          rw [mX (Ax he), hc]
          refine .inr ⟨hmd, r, S, u, q, hu, fun p hp => ⟨(hq p hp).1, (hN p.1 (bG.2 ⟨p, hp, rfl⟩)).2⟩, fun H'' hF' hn'' => h1 H'' (fun i hi => (hF' i hi).trans (hF i (by simp [hi]))) hn'', rfl, ?_⟩
          exact DX hu hF fun p hp => (hN p.1 (bG.2 ⟨p, hp, rfl⟩)).1
    | none =>
      simp only [hc] at h
      obtain ⟨h1, h2⟩ := h
      have hl := BC (P := P) (md := md) (e := e) (o := o) (H := H) (H' := H) (nid := nid) (fun _ _ => rfl) hn hlt
      refine ⟨_, _, _, [nid], ⟨(JP _ _ _ _) ▸ hl.heap, fun id hid => ⟨(hone id hid).1, (hone id hid).2 _⟩, fun hw => PK (by unfold lB at hw; simp at hw; exact hw.1), fun hh => Kg hh, fun e' H' he hF hlt' hn' hN => ?_⟩, h2 (fun h => by cases h)⟩
      unfold mZ
      simp only [hg]
      rw [mX (Ax he), hc]
      simp only
      rw [BD (Ax he)]
      have hl' := BC (P := P) (md := md) (e := e) (o := o) (H := H) (H' := H') (nid := nid) hF hn hlt'
      exact ⟨hl'.cond h1, fun _ => ⟨hl'.val, (JP _ _ _ _) ▸ hl'.heap⟩⟩
  | some jb =>
    obtain ⟨j, b⟩ := jb
    simp only [hg] at h
    cases hgd : gD ops e j with
    | none => simp [hgd] at h
    | some gc =>
      obtain ⟨g, c⟩ := gc
      simp only [hgd] at h
      obtain ⟨hog, h⟩ := h
      have hgd' : ∀ e', (∀ t ∈ o.looksAt ops, e' t = e t) → gD ops e' j = some (g, c) := by
        intro e' he
        rw [← hgd]
        unfold gD
        cases ht : (ops[j]?).bind (·.dst) with
        | none => rfl
        | some t => simp only [he t (JZ hg ht)]
      have hog' : ∀ e', (∀ t ∈ o.looksAt ops, e' t = e t) → Ox e' (gO o.op) = Ox e (gO o.op) := by
        intro e' he
        refine Gv _ fun x hx => ?_
        cases x with
        | tmp t => simp only [og, he t (D7 (R4 hx))]
        | _ => rfl
      cases hc : fU (gE e o.op) o with
      | some fa =>
        obtain ⟨f, args⟩ := fa
        simp only [hc] at h
        obtain ⟨r, S, h1, h2⟩ := h
        have hh : oN o.op = true := by
          unfold fU at hc
          split at hc
          · rename_i hop; rw [hop]; rfl
          · cases hc
        refine ⟨_, H, S, [nid], ⟨hself S, fun id hid => ⟨(hone id hid).1, (hone id hid).2 _⟩, fun _ => rfl, fun h => (by rw [hh] at h; cases h), fun e' H' he hF hlt' hn' hN => ?_⟩, h2⟩
        unfold mZ
        simp only [hg, hgd' e' he, hog' e' he]
        rw [mX (yO he), hc]
        exact ⟨hog, r, S, fun hq H'' hF' => h1 hq H'' fun i hi => (hF' i hi).trans (hF i hi), rfl, (hnid (fun _ h => by cases h) hF).symm⟩
      | none =>
        simp only [hc] at h
        obtain ⟨h1, h2⟩ := h
        refine ⟨_, H, _, [nid], ⟨hself _, fun id hid => ⟨(hone id hid).1, (hone id hid).2 _⟩, fun hw => rfl, fun hh => Kg hh, fun e' H' he hF hlt' hn' hN => ?_⟩, h2 (fun h => by cases h)⟩
        unfold mZ
        simp only [hg, hgd' e' he, hog' e' he]
        rw [mX (yO he), hc]
        simp only
        rw [BD (yO he)]
        have hl' := BC (P := P) (md := md) (e := gE e o.op) (o := o) (H := H) (H' := H') (nid := nid) hF hn hlt'
        refine ⟨hog, fun hq => ⟨hl'.cond (h1 hq).1, ?_⟩, fun _ => ⟨by rw [hl'.val], (hnid (fun _ h => by cases h) hF).symm⟩⟩
        rw [hl'.heap, (h1 hq).2, gH hF hn]
end
structure Run (P:Program) (md:Nat→Bool) (ops:Array Oper) (sp:List (Nat × Nat)) (n0:Nat) (es:Nat→Nat→D) (Hs:Nat→AHeap) (vs:Nat→D) (Fs Ns:Nat→List Nat) (i0:Nat) (l:List Oper):Prop where
 step:∀ (j:Nat) (o:Oper),l[j]?=some o→es (i0+j+1)=mJ (es (i0+j)) o.dst (vs (i0+j))∧Txt P md ops n0 (n0+(i0+j)) o (es (i0+j)) (Hs (i0+j)) (vs (i0+j)) (Hs (i0+j+1)) (Fs (i0+j)) (Ns (i0+j))
 apart:∀ (k j:Nat),k<j→j<l.length→(i0+k,i0+j)∈sp→∀ x∈Fs (i0+k),x∉Fs (i0+j)
theorem He {P : Program} {md : Nat → Bool} {ops : Array Oper} {sp : List (Nat × Nat)} {n0 nn : Nat} : ∀ (l : List Oper) (i : Nat) (acc : List (Nat × List Nat)) (e : Nat → D) (H : AHeap) (K : (Nat → D) → AHeap → Prop),
    iX P md ops sp n0 i l acc e H K → (∀ id, H.al id → id < n0 + i) → H.next = nn → n0 + i + l.length ≤ nn →
    ∃ (es : Nat → Nat → D) (Hs : Nat → AHeap) (vs : Nat → D) (Fs Ns : Nat → List Nat), es i = e ∧ Hs i = H ∧ K (es (i + l.length)) (Hs (i + l.length)) ∧ Run P md ops sp n0 es Hs vs Fs Ns i l ∧
      (∀ (j : Nat), j < l.length → ∀ p ∈ acc, (p.1, i + j) ∈ sp → ∀ x ∈ p.2, x ∉ Fs (i + j))
  | [], i, acc, e, H, K, h, hal, hnn, hle => by
    refine ⟨fun _ => e, fun _ => H, fun _ => .junk, fun _ => [], fun _ => [], rfl, rfl, h, ⟨fun j o h => by simp at h, fun k j _ h => by simp at h⟩, fun j h => by simp at h⟩
  | o :: l, i, acc, e, H, K, h, hal, hnn, hle => by
    unfold iX at h
    simp only [eK] at hle
    have hn : ¬ H.al (n0 + i) := fun h => by have := hal _ h; omega
    have hlt : n0 + i < H.next := by omega
    obtain ⟨v, H1, F, N, hT, hchk, hrest⟩ := Ot h hn hlt (by omega)
    have hal1 : ∀ id, H1.al id → id < n0 + (i + 1) := fun id hid => by
      rw [hT.self] at hid
      rcases hid with hid | ⟨hid, _⟩
      · have := hal id hid; omega
      · rcases (hT.new id hid).2 with h | ⟨h, _⟩ <;> omega
    have hnn1 : H1.next = nn := by rw [hT.self]; exact hnn
    obtain ⟨es, Hs, vs, Fs, Ns, he, hH, hK, hrun, hacc⟩ := He l (i + 1) _ _ _ _ hrest hal1 hnn1 (by omega)
    refine ⟨fun k => if k = i then e else es k, fun k => if k = i then H else Hs k, fun k => if k = i then v else vs k, fun k => if k = i then F else Fs k, fun k => if k = i then N else Ns k, by simp, by simp, ?_, ⟨fun j o' ho' => ?_, fun k j hkj hj hsp => ?_⟩, fun j hj p hp hsp => ?_⟩
    · have : i + (o :: l).length ≠ i := by simp
      simp only [this, if_false]
      rw [show i + (o :: l).length = i + 1 + l.length by simp; omega]
      exact hK
    · cases j with
      | zero =>
        simp only [jS, aX] at ho'
        subst ho'
        have : i + 0 + 1 ≠ i := by omega
        simp only [this, if_false, qW, if_true]
        rw [show i + 1 = i + 1 from rfl, he, hH]
        exact ⟨rfl, hT⟩
      | succ j =>
        have h1 : i + (j + 1) ≠ i := by omega
        have h2 : i + (j + 1) + 1 ≠ i := by omega
        simp only [h1, h2, if_false]
        have := hrun.step j o' (by simpa using ho')
        rw [show i + 1 + j = i + (j + 1) by omega] at this
        exact this
    · have hj0 : i + j ≠ i := by omega
      simp only [hj0, if_false]
      cases j with
      | zero => omega
      | succ j =>
        simp only [eK] at hj
        by_cases hk : k = 0
        · subst hk
          simp only [qW, if_true] at hsp ⊢
          have := hacc j (by omega) (i, F) (by simp)
          rw [show i + 1 + j = i + (j + 1) by omega] at this
          exact this hsp
        · have hk0 : i + k ≠ i := by omega
          simp only [hk0, if_false]
          have := hrun.apart (k - 1) j (by omega) (by omega)
          rw [show i + 1 + (k - 1) = i + k by omega, show i + 1 + j = i + (j + 1) by omega] at this
          exact this hsp
    · cases j with
      | zero =>
        simp only [qW, if_true] at hsp ⊢
        unfold Fd at hchk
        cases sp with
        | nil => simp at hsp
        | cons a sp => exact hchk p hp hsp
      | succ j =>
        have h1 : i + (j + 1) ≠ i := by omega
        simp only [h1, if_false]
        simp only [eK] at hj
        have := hacc j (by omega) p (by simp [hp])
        rw [show i + 1 + j = i + (j + 1) by omega] at this
        exact this hsp
end Go.Abs
end
section
namespace Go.Abs
theorem Bk {p:Nat→Bool}{i:Nat}:∀ (n:Nat),i<n→p i=true→(∀ k,i<k→k<n→p k=false)→fM p n=some i
 | 0,h,_,_=>by omega
 | n+1,h,hp,hk=>by
  by_cases hi:i=n
  ·subst hi;simp [fM,hp]
  ·simp only [fM,hk n (by omega) (by omega),dY,if_false]
   exact Bk n (by omega) hp fun k h1 h2=>hk k h1 (by omega)
section
variable (md:Nat→Bool) (ops:Array Oper) (n0:Nat) (e0:Nat→D) (H0:AHeap) (Hs:Nat→AHeap) (vs:Nat→D) (Fs Ns:Nat→List Nat)
def lH (i:Nat):Option Tmp:=(ops[i]?).bind (·.dst)
def oD (i:Nat):Bool:=match ops[i]? with|some o=>lB md o|none=>false
def eS (S:Nat→Bool)(m:Nat):Nat→D:=fun t =>
 match fM (fun k=>S k&&(lH ops k==some t)) m with
 | some k=>vs k
 | none=>e0 t
def HS (S:Nat→Bool)(m:Nat):AHeap where
 next:=n0+ops.size
 al:=fun id=>H0.al id∨∃ k,k<m∧S k=true∧id∈Ns k∧(Hs (k+1)).al id
 get:=fun id=>match fM (fun k=>S k&&(oD md ops k&&(Fs k).contains id)) m with
  | some k=>(Hs (k+1)).get id
  | none=>H0.get id
end
section
variable {P:Program} {md:Nat→Bool} {ops:Array Oper} {sp:List (Nat × Nat)} {n0:Nat} {es:Nat→Nat→D} {Hs:Nat→AHeap} {vs:Nat→D} {Fs Ns:Nat→List Nat}
theorem kO (i:Nat):ops.toList[i]?=ops[i]?:=by simp
theorem tP (hr : Run P md ops sp n0 es Hs vs Fs Ns 0 ops.toList) (hn : (Hs 0).next = n0 + ops.size) : ∀ i, i ≤ ops.size → es i = eS ops (es 0) vs (fun _ => true) i ∧ Hs i = HS md ops n0 (Hs 0) Hs Fs Ns (fun _ => true) i
  | 0, _ => ⟨by funext t; rfl, by
      generalize hH : Hs 0 = X at hn
      obtain ⟨nx, al, g⟩ := X
      simp only [HS, AHeap.mk.injEq]
      refine ⟨hn, funext fun id => propext ⟨.inl, fun h => h.elim (fun h => h) fun ⟨k, hk, _⟩ => by omega⟩, funext fun id => rfl⟩⟩
  | i + 1, hi => by
    obtain ⟨ih1, ih2⟩ := tP hr hn i (by omega)
    have hlt : i < ops.size := by omega
    have ho : ops[i]? = some ops[i] := bB hlt
    obtain ⟨h1, hT⟩ := hr.step i ops[i] (by rw [kO, ho])
    simp only [dQ] at h1 hT
    refine ⟨?_, ?_⟩
    · rw [h1, ih1]
      funext t
      simp only [eS, fM, fQ]
      have hd : lH ops i = ops[i].dst := by simp [lH, ho]
      cases hdd : ops[i].dst with
      | none => simp [mJ, hd, hdd, eS]
      | some d =>
        by_cases ht : t = d
        · subst ht; simp [mJ, hd, hdd]
        · have ht' : ¬ d = t := fun h => ht h.symm
          simp [mJ, hd, hdd, ht, ht', eS]
    · have hself := hT.self
      have hw : oD md ops i = lB md ops[i] := by simp [oD, ho]
      have hget : ∀ id, (Hs (i + 1)).get id = if (oD md ops i && (Fs i).contains id) = true then (Hs (i + 1)).get id else (Hs i).get id := by
        intro id
        split
        · rfl
        · rename_i hc
          by_cases hwr : oD md ops i = true
          · have hnc : id ∉ Fs i := fun h => hc (by simp [hwr, h])
            rw [hself]; simp [sS, hnc]
          · rw [hT.still (by rw [← hw]; simpa using hwr)]
      have hnext : (Hs (i + 1)).next = n0 + ops.size := by rw [hself, ih2]; rfl
      have halq : ∀ id, (Hs (i + 1)).al id ↔ (Hs i).al id ∨ (id ∈ Ns i ∧ (Hs (i + 1)).al id) := fun id => by
        constructor
        · intro h; rw [hself] at h; exact h
        · intro h; rw [hself]; exact h
      generalize hH : Hs (i + 1) = X at hget hnext halq
      obtain ⟨nx, al, g⟩ := X
      simp only [HS, AHeap.mk.injEq]
      refine ⟨hnext, funext fun id => propext ?_, funext fun id => ?_⟩
      · rw [show al id ↔ _ from halq id, ih2]
        simp only [HS]
        constructor
        · rintro ((h | ⟨k, hk, _, hm, h⟩) | ⟨hm, h⟩)
          · exact .inl h
          · exact .inr ⟨k, by omega, trivial, hm, h⟩
          · exact .inr ⟨i, by omega, trivial, hm, by rw [hH]; exact h⟩
        · rintro (h | ⟨k, hk, _, hm, h⟩)
          · exact .inl (.inl h)
          · by_cases hki : k = i
            · subst hki; rw [hH] at h; exact .inr ⟨hm, h⟩
            · exact .inl (.inr ⟨k, by omega, trivial, hm, h⟩)
      · have := hget id
        simp only at this
        rw [this, ih2]
        simp only [HS, fM, fQ]
        split
        · simp only [hH]
        · rfl
theorem pL (h:tK md ops sp=true){i j:Nat}(hij:i<j)(hj:j<ops.size) :
  ((KF ops.toList []).getD j 0).testBit i=true∨(Ik ops (ops[i]'(by omega)) ops[j]=false∧(ES md (ops[i]'(by omega)) ops[j]=false∨(i,j)∈sp)):=by
 unfold tK at h
 simp only [bX,b6] at h
 have h1:=h j hj
 rw [bB hj] at h1
 simp only [aM,bX,b6] at h1
 have h2:=h1.2 i hij
 rw [bB (by omega)] at h2
 simp only [b7,aM,cE,vB] at h2
 exact h2
theorem Nq (h:tK md ops sp=true){j:Nat}{o:Oper}(ho:ops[j]?=some o):∀ e∈o.after.toList,Region.binds .any e=true→e.on<j:=by
 have hj:j<ops.size:=(oW.1 ho).1
 unfold tK at h
 simp only [bX,b6] at h
 have h1:=h j hj
 rw [ho] at h1
 simp only [aM,bX,b7,cE,decide_eq_true_eq] at h1
 intro e he hb
 rcases h1.1.1 e he with h2|h2
 ·rw [hb] at h2;cases h2
 ·exact h2
variable {S:Nat→Bool} {i:Nat}
def lF (S:Nat→Bool)(i:Nat):Nat→Bool:=fun k=>k==i||S k
theorem Hg {o:Op}(h:tH o=true):oN o=true:=by
 cases o<;>first|rfl|(simp [tH] at h;done)|exact h
theorem n4 {md:Nat→Bool}{o:Oper}(h:lB md o=true):oN o.op=true:=by
 unfold lB at h
 rw [b7] at h
 rcases h with h|h
 ·exact Hg h
 ·unfold C2 at h
  split at h
  ·rename_i hop;rw [hop];rfl
  ·cases h
theorem wP {x y:Oper}(h:Ik ops x y=false):(∀ t,x.dst=some t→t∉y.looksAt ops∧y.dst≠some t)∧(∀ t,y.dst=some t→t∉x.looksAt ops):=by
 have:=Oper.apart_spec (by simpa [Ik] using h)
 exact ⟨fun t ht=>⟨this.1 t ht,this.2.1 t ht⟩,this.2.2⟩
theorem B5 (hs:tK md ops sp=true)(hD:IA ops S)(hD':IA ops (lF S i))(hi:i<ops.size)(hSi:S i=false) :
  (∀ k,k<i→(((KF ops.toList []).getD i 0).testBit k=true)→S k=true)∧(∀ k,i<k→k<ops.size→((KF ops.toList []).getD k 0).testBit i=true→S k=false):=by
 refine ⟨fun k hk hb=>?_,fun k hk hk2 hb=>?_⟩
 ·have:=G6 hD' i k (by simp [lF]) hb
  simp only [lF,b7,beq_iff_eq] at this
  rcases this with h|h
  ·omega
  ·exact h
 ·cases hSk:S k with
  | false=>rfl
  | true=>have:=G6 hD k i hSk hb;rw [hSi] at this;cases this
theorem Gk (hr : Run P md ops sp n0 es Hs vs Fs Ns 0 ops.toList) (hn : (Hs 0).next = n0 + ops.size) (hs : tK md ops sp = true) (hD : IA ops S) (hD' : IA ops (lF S i)) (hi : i < ops.size) (hSi : S i = false) :
    (∀ t ∈ (ops[i]).looksAt ops, eS ops (es 0) vs S ops.size t = es i t) ∧ fA (Fs i) (HS md ops n0 (Hs 0) Hs Fs Ns S ops.size) (Hs i) := by
  obtain ⟨o1, o2⟩ := B5 hs hD hD' hi hSi
  obtain ⟨e1, e2⟩ := tP hr hn i (by omega)
  have hgetk : ∀ k, k < ops.size → lH ops k = (ops[k]?).bind (·.dst) := fun k _ => rfl
  obtain ⟨_, hT⟩ := hr.step i ops[i] (by rw [kO, bB hi])
  simp only [dQ] at hT
  refine ⟨fun t ht => ?_, fun id hid => ?_⟩
  · rw [e1]
    simp only [eS, fQ]
    have hl : fM (fun k => S k && (lH ops k == some t)) ops.size = fM (fun k => lH ops k == some t) i := by
      rw [yW (p := fun k => S k && (lH ops k == some t)) i ops.size (by omega) (fun k hk hk2 => ?_)]
      · refine i7 i fun k hk => ?_
        cases hd : (lH ops k == some t) with
        | false => simp
        | true =>
          have hks : k < ops.size := by omega
          have hdk : ops[k].dst = some t := by simpa [lH, bB hks] using hd
          rcases pL hs hk hi with h | ⟨h, _⟩
          · simp [o1 k hk h]
          · exact absurd ht ((wP h).1 t hdk).1
      · by_cases hki : k = i
        · subst hki; simp [hSi]
        · cases hd : (lH ops k == some t) with
          | false => simp
          | true =>
            have hdk : ops[k].dst = some t := by simpa [lH, bB hk2] using hd
            rcases pL hs (show i < k by omega) hk2 with h | ⟨h, _⟩
            · simp [o2 k (by omega) hk2 h]
            · exact absurd ht ((wP h).2 t hdk)
    rw [hl]
  · rw [e2]
    have hheap : oN ops[i].op = true := by
      cases hh : oN ops[i].op with
      | true => rfl
      | false => rw [hT.foot hh] at hid; cases hid
    simp only [HS, fQ]
    have hl : fM (fun k => S k && (oD md ops k && (Fs k).contains id)) ops.size = fM (fun k => oD md ops k && (Fs k).contains id) i := by
      rw [yW (p := fun k => S k && (oD md ops k && (Fs k).contains id)) i ops.size (by omega) (fun k hk hk2 => ?_)]
      · refine i7 i fun k hk => ?_
        cases hd : (oD md ops k && (Fs k).contains id) with
        | false => simp
        | true =>
          have hks : k < ops.size := by omega
          simp only [aM, vB] at hd
          have hwk : lB md ops[k] = true := by simpa [oD, bB hks] using hd.1
          rcases pL hs hk hi with h | ⟨_, h | h⟩
          · simp [o1 k hk h]
          · simp [ES, hheap, n4 hwk, hwk] at h
          · have hap := hr.apart k i hk (by simpa using hi)
            simp only [dQ] at hap
            exact absurd hid (hap h id hd.2)
      · by_cases hki : k = i
        · subst hki; simp [hSi]
        · cases hd : (oD md ops k && (Fs k).contains id) with
          | false => simp
          | true =>
            simp only [aM, vB] at hd
            have hwk : lB md ops[k] = true := by simpa [oD, bB hk2] using hd.1
            rcases pL hs (show i < k by omega) hk2 with h | ⟨_, h | h⟩
            · simp [o2 k (by omega) hk2 h]
            · simp [ES, hheap, n4 hwk, hwk] at h
            · have hap := hr.apart i k (by omega) (by simpa using hk2)
              simp only [dQ] at hap
              exact absurd hd.2 (hap h id hid)
    rw [hl]
theorem On (hr : Run P md ops sp n0 es Hs vs Fs Ns 0 ops.toList) (hn : (Hs 0).next = n0 + ops.size) (hs : tK md ops sp = true) (hD : IA ops S) (hD' : IA ops (lF S i)) (hi : i < ops.size) (hSi : S i = false) :
    mJ (eS ops (es 0) vs S ops.size) ops[i].dst (vs i) = eS ops (es 0) vs (lF S i) ops.size ∧
    sS (HS md ops n0 (Hs 0) Hs Fs Ns S ops.size) (Hs (i + 1)) (Fs i) (Ns i) = HS md ops n0 (Hs 0) Hs Fs Ns (lF S i) ops.size := by
  obtain ⟨o1, o2⟩ := B5 hs hD hD' hi hSi
  obtain ⟨_, hT⟩ := hr.step i ops[i] (by rw [kO, bB hi])
  simp only [dQ] at hT
  have hag := (Gk hr hn hs hD hD' hi hSi).2
  have hio : ops[i]? = some ops[i] := bB hi
  refine ⟨?_, ?_⟩
  · funext t
    by_cases ht : ops[i].dst = some t
    · have hl : fM (fun k => lF S i k && (lH ops k == some t)) ops.size = some i := by
        refine Bk ops.size hi (by simp [lF, lH, hio, ht]) fun k hk hk2 => ?_
        cases hd : (lH ops k == some t) with
        | false => simp
        | true =>
          have hdk : ops[k].dst = some t := by simpa [lH, bB hk2] using hd
          rcases pL hs hk hk2 with h | ⟨h, _⟩
          · have hki : (k == i) = false := by simp; omega
            simp [lF, hki, o2 k hk hk2 h]
          · exact absurd hdk ((wP h).1 t ht).2
      simp only [eS, hl, mJ, ht, if_true]
    · have hl : fM (fun k => lF S i k && (lH ops k == some t)) ops.size = fM (fun k => S k && (lH ops k == some t)) ops.size := by
        refine i7 _ fun k hk => ?_
        by_cases hki : k = i
        · subst hki
          have : (lH ops k == some t) = false := by simp [lH, hio]; exact ht
          simp [this]
        · have : (k == i) = false := by simpa using hki
          simp [lF, this]
      simp only [eS, hl]
      cases hdd : ops[i].dst with
      | none => rfl
      | some d =>
        have : ¬ t = d := fun h => ht (by rw [hdd, h])
        simp only [mJ, this, if_false]
        rfl
  · simp only [sS, HS, AHeap.mk.injEq, true_and]
    refine ⟨funext fun id => propext ?_, funext fun id => ?_⟩
    · constructor
      · rintro ((h | ⟨k, hk, hSk, hm, h⟩) | ⟨hm, h⟩)
        · exact .inl h
        · exact .inr ⟨k, hk, by simp [lF, hSk], hm, h⟩
        · exact .inr ⟨i, hi, by simp [lF], hm, h⟩
      · rintro (h | ⟨k, hk, hSk, hm, h⟩)
        · exact .inl (.inl h)
        · by_cases hki : k = i
          · subst hki; exact .inr ⟨hm, h⟩
          · have : (k == i) = false := by simpa using hki
            exact .inl (.inr ⟨k, hk, by simpa [lF, this] using hSk, hm, h⟩)
    · by_cases hw : lB md ops[i] = true
      · by_cases hid : id ∈ Fs i
        · rw [if_pos hid]
          have hl : fM (fun k => lF S i k && (oD md ops k && (Fs k).contains id)) ops.size = some i := by
            refine Bk ops.size hi (by simp [lF, oD, hio, hw, hid]) fun k hk hk2 => ?_
            cases hd : (oD md ops k && (Fs k).contains id) with
            | false => simp
            | true =>
              simp only [aM, vB] at hd
              have hwk : lB md ops[k] = true := by simpa [oD, bB hk2] using hd.1
              rcases pL hs hk hk2 with h | ⟨_, h | h⟩
              · have hki : (k == i) = false := by simp; omega
                simp [lF, hki, o2 k hk hk2 h]
              · simp [ES, n4 hw, n4 hwk, hwk] at h
              · have hap := hr.apart i k hk (by simpa using hk2)
                simp only [dQ] at hap
                exact absurd hd.2 (hap h id hid)
          rw [hl]
        · rw [if_neg hid]
          have hl : fM (fun k => lF S i k && (oD md ops k && (Fs k).contains id)) ops.size = fM (fun k => S k && (oD md ops k && (Fs k).contains id)) ops.size := by
            refine i7 _ fun k hk => ?_
            by_cases hki : k = i
            · subst hki; simp [hid]
            · have : (k == i) = false := by simpa using hki
              simp [lF, this]
          rw [hl]
      · have hl : fM (fun k => lF S i k && (oD md ops k && (Fs k).contains id)) ops.size = fM (fun k => S k && (oD md ops k && (Fs k).contains id)) ops.size := by
          refine i7 _ fun k hk => ?_
          by_cases hki : k = i
          · subst hki
            have : oD md ops k = false := by simp [oD, hio]; simpa using hw
            simp [this]
          · have : (k == i) = false := by simpa using hki
            simp [lF, this]
        rw [hl]
        by_cases hid : id ∈ Fs i
        · rw [if_pos hid, hT.still (by simpa using hw), ← hag id hid]
          rfl
        · rw [if_neg hid]
theorem zV (hr:Run P md ops sp n0 es Hs vs Fs Ns 0 ops.toList){id:Nat}:∀ (j k:Nat),k≤j→j≤ops.size→(Hs k).al id→(Hs j).al id
 | 0,k,hk,_,h=>by rw [show (0:Nat)=k by omega];exact h
 | j+1,k,hk,hj,h=>by
  by_cases he:k=j+1
  ·rw [← he];exact h
  ·have ih:=zV hr j k (by omega) (by omega) h
   obtain ⟨_,hT⟩:=hr.step j ops[j] (by rw [kO,bB (by omega)])
   simp only [dQ] at hT
   rw [hT.self]
   exact .inl ih
theorem NL (hr:Run P md ops sp n0 es Hs vs Fs Ns 0 ops.toList)(hi:i<ops.size)(hSi:S i=false):∀ id∈Ns i,¬ (HS md ops n0 (Hs 0) Hs Fs Ns S ops.size).al id:=by
 intro id hid
 obtain ⟨_,hT⟩:=hr.step i ops[i] (by rw [kO,bB hi])
 simp only [dQ] at hT
 obtain ⟨h1,h2⟩:=hT.new id hid
 simp only [HS]
 rintro (h|⟨k,hk,hSk,hm,h⟩)
 ·exact h1 (zV hr i 0 (by omega) (by omega) h)
 ·obtain ⟨_,hTk⟩:=hr.step k ops[k] (by rw [kO,bB hk])
  simp only [dQ] at hTk
  obtain ⟨k1,k2⟩:=hTk.new id hm
  have hne:k≠i:=fun e=>by subst e;rw [hSi] at hSk;cases hSk
  rcases Nat.lt_or_gt_of_ne hne with hlt|hgt
  ·exact h1 (zV hr i (k+1) (by omega) (by omega) h)
  ·rcases h2 with h2|⟨h2,h3⟩
   ·rcases k2 with k2|⟨k2,_⟩<;>omega
   ·exact k1 (zV hr k (i+1) (by omega) (by omega) h3)
end
end Go.Abs
end
section
namespace Go.Abs
def Came (n:Nat)(M0:Nat→Prop)(H0:AHeap)(σ0:Nat→Option Ow)(w0:World)(K:(Nat→D)→AHeap→Prop)(a:Act)(w:World):Prop :=
 ∃ e H σ,K e H∧St n M0 H σ w e a∧Stp σ0 w0 σ w∧Keeps (cF M0 H0 σ0) σ0 H0.al w0 (cF M0 H σ) σ H.al w
theorem Came.mono {n:Nat}{M0:Nat→Prop}{H0:AHeap}{σ0:Nat→Option Ow}{w0:World}{K K':(Nat→D)→AHeap→Prop}{a:Act}{w:World}(h:Came n M0 H0 σ0 w0 K a w)
  (hk:∀ e H,K e H→K' e H):Came n M0 H0 σ0 w0 K' a w:=let ⟨e,H,σ,a,b⟩:=h;⟨e,H,σ,hk _ _ a,b⟩
theorem Came.trans {n:Nat}{M0:Nat→Prop}{H0 H1:AHeap}{σ0 σ1:Nat→Option Ow}{w0 w1:World}{K:(Nat→D)→AHeap→Prop}{a:Act}{w:World}
  (hs:Stp σ0 w0 σ1 w1) (hk:Keeps (cF M0 H0 σ0) σ0 H0.al w0 (cF M0 H1 σ1) σ1 H1.al w1) (h:Came n M0 H1 σ1 w1 K a w):Came n M0 H0 σ0 w0 K a w :=
 let ⟨e,H,σ,a,b,c,d⟩:=h;⟨e,H,σ,a,b,hs.trans c,hk.trans d⟩
section
variable {P:Program} {md:Nat→Bool} {n:Nat} {M0:Nat→Prop}
theorem Rel.bump {H:AHeap}{σ:Nat→Option Ow}{w:World}(h:Rel M0 H σ w){m:Nat}(hm:H.next≤m):Rel M0 { H with next:=m } σ w :=
 ⟨h.top,fun id hid=>bQ (h.nxt id hid) hm,fun id k hk=>h.lies id k hk,h.inj,h.lt,h.m0⟩
theorem StepC.mono {ops:Array Oper}{Q:Exit→Act→World→Prop}{o:Oper}{K K':Act→World→Prop}{a:Act}{w:World}(h:∀ a w,K a w→K' a w)(hh:StepC P ops Q o K a w):StepC P ops Q o K' a w:=by
 unfold StepC at *
 split
 ·rename_i hw;rw [if_pos hw] at hh;exact hh.imp (Oper.wp_mono h) id
 ·rename_i hw;rw [if_neg hw] at hh;exact h _ _ hh
def lL (P:Program)(md:Nat→Bool)(ops:Array Oper):List Oper→(Nat→D)→AHeap→((Nat→D)→AHeap→Prop)→Prop
 | [],e,H,K=>K e H
 | o :: rest,e,H,K=>mZ P md none H.next ops e o H fun v H' _=>lL P md ops rest (mJ e o.dst v) H' K
theorem E8 {ops:Array Oper}{Q:Exit→Act→World→Prop}:∀ (l:List Oper) (e:Nat→D) (H:AHeap) (K:(Nat→D)→AHeap→Prop),lL P md ops l e H K→(∀ o∈l,oP n o.dst=true) →
  ∀ (σ:Nat→Option Ow) (w:World) (a:Act),St n M0 H σ w e a→(∀ a' w',Came n M0 H σ w K a' w'→Q .normal a' w')→wpList P ops Q l a w
 | [],e,H,K,h,hd,σ,w,a,hS,hQ=>wpList_nil (hQ a w ⟨e,H,σ,h,hS,.refl _ _,.refl _ _ _ _⟩)
 | o :: l,e,H,K,h,hd,σ,w,a,hS,hQ=>by
  unfold lL at h
  have hs:=wS (Q:=Q) h hS (fun hn=>mC _ (hS.rel.nxt _ hn)) (hd o (by simp))
  have:=StepC.mono (K':=wpList P ops Q l) (fun a' w' ⟨v,H',F,σ',hk,hS',hst,hkp⟩ =>
   E8 l _ _ _ hk (fun o' ho'=>hd o' (by simp [ho'])) σ' w' a' hS' fun a'' w'' hc=>hQ a'' w'' (hc.trans hst hkp)) hs
  unfold StepC at this
  unfold wpList
  exact this
theorem Qy {ops:Array Oper}{e0:Nat→D}{vs:Nat→D}{S T:Nat→Bool}{m:Nat}(h:∀ k,k<m→S k=T k):eS ops e0 vs S m=eS ops e0 vs T m:=by
 funext t
 unfold eS
 rw [i7 (p:=fun k=>S k&&(lH ops k==some t)) (q:=fun k=>T k&&(lH ops k==some t)) m fun k hk=>by rw [h k hk]]
theorem Nh {ops:Array Oper}{n0:Nat}{H0:AHeap}{Hs:Nat→AHeap}{Fs Ns:Nat→List Nat}{S T:Nat→Bool}{m:Nat}(h:∀ k,k<m→S k=T k):HS md ops n0 H0 Hs Fs Ns S m=HS md ops n0 H0 Hs Fs Ns T m:=by
 unfold HS
 congr 1
 ·funext id
  refine propext ⟨fun h'=>h'.imp (fun x=>x) fun ⟨k,hk,a,b⟩=>⟨k,hk,(h k hk) ▸ a,b⟩,fun h'=>h'.imp (fun x=>x) fun ⟨k,hk,a,b⟩=>⟨k,hk,(h k hk).symm ▸ a,b⟩⟩
 ·funext id
  rw [i7 (p:=fun k=>S k&&(oD md ops k&&(Fs k).contains id)) (q:=fun k=>T k&&(oD md ops k&&(Fs k).contains id)) m fun k hk=>by rw [h k hk]]
def r6 (S:Nat→Bool):Nat→Nat
 | 0=>0
 | m+1=>(if S m then 0 else 1)+r6 S m
theorem Kt {S:Nat→Bool}:∀ {m:Nat},r6 S m=0→∀ k,k<m→S k=true
 | 0,_,k,hk=>by omega
 | m+1,h,k,hk=>by
  simp only [r6] at h
  by_cases hk':k=m
  ·subst hk';cases hS:S k<;>simp [hS] at h ⊢
  ·exact Kt (m:=m) (by omega) k (by omega)
theorem EM {S T:Nat→Bool}:∀ {m:Nat},(∀ k,k<m→S k=T k)→r6 S m=r6 T m
 | 0,_=>rfl
 | m+1,h=>by simp only [r6,h m (by omega),EM (m:=m) fun k hk=>h k (by omega)]
theorem Nb {S:Nat→Bool}{i:Nat}(hS:S i=false):∀ {m:Nat},i<m→r6 (lF S i) m+1=r6 S m
 | 0,h=>by omega
 | m+1,h=>by
  simp only [r6]
  by_cases hi:i=m
  ·subst hi
   have h1:lF S i i=true:=by simp [lF]
   have h2:r6 (lF S i) i=r6 S i:=EM fun k hk=>by
    have:(k==i)=false:=by simp;omega
    simp [lF,this]
   rw [h1,hS,h2];simp;omega
  ·have h1:lF S i m=S m:=by
    have:(m==i)=false:=by simp;omega
    simp [lF,this]
   have:=Nb hS (m:=m) (by omega)
   rw [h1];omega
theorem L1 {ops : Array Oper} {sp : List (Nat × Nat)} {id : Nat} {e : Nat → D} {H : AHeap} {σ : Nat → Option Ow} {w : World} {a : Act} {K : (Nat → D) → AHeap → Prop} {Q : Exit → Act → World → Prop}
    (hm : P.follows .mixedOrders = true) (hs : tK md ops sp = true) (hd : ∀ o ∈ ops.toList, oP n o.dst = true)
    (h : iX P md ops sp H.next 0 ops.toList [] e { H with next := H.next + ops.size } K) (hS : St n M0 H σ w e a) (hQ : ∀ a' w', Came n M0 H σ w K a' w' → Q .normal a' w') :
    (Code.region id ops true).wp P Q a w := by
  refine wp_region_any hm ?_
  obtain ⟨hR1, hst1, hk1⟩ := hS.rel.drew
  have hRb := hR1.bump (m := H.next + ops.size) (by omega)
  have hSb : St n M0 { H with next := H.next + ops.size } σ w.drew e a := ⟨hRb, fun t => (hS.env t).keep hk1, hS.defers, hS.size⟩
  obtain ⟨es, Hs, vs, Fs, Ns, he, hH, hK, hrun, _⟩ := He (nn := H.next + ops.size) ops.toList 0 [] e _ K h (fun i hi => hS.rel.nxt i hi) rfl (by simp)
  simp only [dQ, eW] at hK
  have hn : (Hs 0).next = H.next + ops.size := by rw [hH]
  have key : ∀ (fuel : Nat) (listed : Array Bool) (a' : Act) (w' : World), listed.size = ops.size → r6 (fun k => listed.getD k false) ops.size ≤ fuel → IA ops (fun k => listed.getD k false) →
      (∃ σ', St n M0 (HS md ops H.next (Hs 0) Hs Fs Ns (fun k => listed.getD k false) ops.size) σ' w' (eS ops (es 0) vs (fun k => listed.getD k false) ops.size) a' ∧ Stp σ w σ' w' ∧
        Keeps (cF M0 H σ) σ H.al w (cF M0 (HS md ops H.next (Hs 0) Hs Fs Ns (fun k => listed.getD k false) ops.size) σ') σ' (HS md ops H.next (Hs 0) Hs Fs Ns (fun k => listed.getD k false) ops.size).al w') →
      wpAny P .any ops Q fuel listed a' w' := by
    intro fuel
    induction fuel with
    | zero =>
      intro listed a' w' hl hc hD ⟨σ', hS', hst', hk'⟩
      have hall := Kt (S := fun k => listed.getD k false) (m := ops.size) (by omega)
      refine ⟨?_, ?_⟩
      · unfold Region.ready
        rw [List.filter_eq_nil_iff]
        intro i hi
        have hi' : i < ops.size := by simpa using hi
        have hg : listed.getD i true = true := by
          have := hall i hi'
          simp only [g5] at this ⊢
          rw [bB (by omega)] at this ⊢
          simpa using this
        simp [hg]
      · refine hQ a' w' ⟨es ops.size, Hs ops.size, σ', hK, ?_, hst', ?_⟩
        · obtain ⟨r1, r2⟩ := tP hrun hn ops.size (bC _)
          rw [r1, r2, Qy (T := fun k => listed.getD k false) fun k hk => (hall k hk).symm, Nh (T := fun k => listed.getD k false) fun k hk => (hall k hk).symm]
          exact hS'
        · obtain ⟨r1, r2⟩ := tP hrun hn ops.size (bC _)
          rw [r2, Nh (T := fun k => listed.getD k false) fun k hk => (hall k hk).symm]
          exact hk'
    | succ fuel ih =>
      intro listed a' w' hl hc hD ⟨σ', hS', hst', hk'⟩
      have hready : ∀ i, i ∈ Region.ready .any ops listed → i < ops.size ∧ listed.getD i false = false ∧ ∀ o, ops[i]? = some o → ∀ ed ∈ o.after.toList, Region.binds .any ed = true → listed.getD ed.on false = true := by
        intro i hi
        unfold Region.ready at hi
        simp only [fZ, b6, aM, cE] at hi
        obtain ⟨h1, h2, h3⟩ := hi
        refine ⟨h1, ?_, fun o ho ed hed hb => ?_⟩
        · simp only [g5] at h2 ⊢
          rw [bB (by omega)] at h2 ⊢
          simpa using h2
        · rw [ho] at h3
          simp only [eM, aD, Array.all_eq_true_iff_forall_mem] at h3
          have := h3 ed (by simpa using hed)
          rw [hb] at this
          simpa using this
      refine ⟨fun hnil => ?_, fun i hi => ?_⟩
      · -- nothing is ready: all is done
        have hall : ∀ k, k < ops.size → listed.getD k false = true := by
          intro k
          induction k using Nat.strongRecOn with
          | _ k ihk =>
            intro hk
            cases hlk : listed.getD k false with
            | true => rfl
            | false =>
              exfalso
              have hmem : k ∈ Region.ready .any ops listed := by
                unfold Region.ready
                simp only [fZ, b6, aM, cE]
                refine ⟨hk, ?_, ?_⟩
                · simp only [g5] at hlk ⊢
                  rw [bB (by omega)] at hlk ⊢
                  simpa using hlk
                · have ho : ops[k]? = some ops[k] := bB hk
                  rw [ho]
                  simp only [eM, aD, Array.all_eq_true_iff_forall_mem]
                  intro ed hed
                  cases hb : Region.binds .any ed with
                  | false => simp
                  | true =>
                    have hlt := Nq hs ho ed (by simpa using hed) hb
                    simp [ihk ed.on hlt (by omega)]
              rw [hnil] at hmem; cases hmem
        have := (ih listed a' w' hl (by
          have : r6 (fun k => listed.getD k false) ops.size = r6 (fun _ => true) ops.size := EM hall
          have h0 : ∀ m, r6 (fun _ => true) m = 0 := fun m => by induction m with
            | zero => rfl
            | succ m ih => simp [r6, ih]
          rw [this, h0]; omega) hD ⟨σ', hS', hst', hk'⟩)
        cases fuel with
        | zero => exact this.2
        | succ f => exact this.1 hnil
      · obtain ⟨hi1, hi2, hi3⟩ := hready i hi
        have ho : ops[i]? = some ops[i] := bB hi1
        have hD' : IA ops (lF (fun k => listed.getD k false) i) := by
          intro j o hj hSj ed hed hb
          simp only [lF, b7, beq_iff_eq] at hSj
          simp only [lF, b7]
          rcases hSj with rfl | hSj
          · exact .inr (hi3 o hj ed hed hb)
          · exact .inr (hD j o hj hSj ed hed hb)
        have hset : (fun k => (listed.setIfInBounds i true).getD k false) = lF (fun k => listed.getD k false) i := by
          funext k
          simp only [lF, g5, Array.getElem?_setIfInBounds]
          by_cases hki : k = i
          · subst hki; simp [hl, hi1]
          · have : ¬ i = k := fun h => hki h.symm
            have h2 : (k == i) = false := by simpa using hki
            simp [this, h2]
        obtain ⟨henv, hag⟩ := Gk hrun hn hs hD hD' hi1 hi2
        obtain ⟨ha1, ha2⟩ := On hrun hn hs hD hD' hi1 hi2
        obtain ⟨_, hT⟩ := hrun.step i ops[i] (by rw [kO, ho])
        simp only [dQ] at hT
        have hnewi := NL hrun (S := fun k => listed.getD k false) hi1 hi2
        have hNlt : ∀ id ∈ Ns i, id < H.next + ops.size := fun id hid => by rcases (hT.new id hid).2 with h | ⟨h, _⟩ <;> omega
        have hnal : ¬ (HS md ops H.next (Hs 0) Hs Fs Ns (fun k => listed.getD k false) ops.size).al (H.next + i) := by
          simp only [HS]
          rintro (h | ⟨k, hk, hSk, hkk, _⟩)
          · rw [hH] at h
            have := hS.rel.nxt _ h; omega
          · obtain ⟨_, hTk⟩ := hrun.step k ops[k] (by rw [kO, bB hk])
            simp only [dQ] at hTk
            have : k = i := by rcases (hTk.new _ hkk).2 with h | ⟨h, _⟩ <;> omega
            subst this
            rw [hi2] at hSk; cases hSk
        have hstep := hT.any _ _ henv hag (by simp only [HS]; omega) hnal (fun id hid => ⟨by simp only [HS]; exact hNlt id hid, hnewi id hid⟩)
        have hc := wS (Q := Q) hstep hS' hnal (hd ops[i] (by simp)) (fun m hm => by cases hm; simp only [HS]; omega)
        have hgoal : StepC P ops Q ops[i] (wpAny P .any ops Q fuel (listed.setIfInBounds i true)) a' w' := by
          refine StepC.mono (fun a'' w'' ⟨v, H', F, σ'', ⟨hv, hH'⟩, hS'', hst'', hk''⟩ => ?_) hc
          subst hv; subst hH'
          refine ih _ a'' w'' (by simpa using hl) ?_ (by rw [hset]; exact hD') ⟨σ'', ?_, hst'.trans hst'', ?_⟩
          · rw [hset]
            have := Nb (S := fun k => listed.getD k false) hi2 hi1
            omega
          · rw [hset, ← ha1, ← ha2]; exact hS''
          · rw [hset, ← ha2]; exact hk'.trans hk''
        unfold wpOp
        rw [ho]
        exact hgoal
  refine key ops.size _ a _ (by simp) ?_ ?_ ⟨σ, ?_, hst1, ?_⟩
  · have : ∀ S : Nat → Bool, ∀ m, r6 S m ≤ m := fun S m => by
      induction m with
      | zero => simp [r6]
      | succ m ih => simp only [r6]; split <;> omega
    exact this _ _
  · intro j o ho hSj
    exfalso
    have hj : j < ops.size := (oW.1 ho).1
    simp [hj] at hSj
  · have hS0 : (fun k => (Array.replicate ops.size false).getD k false) = fun _ => false := by
      funext k
      by_cases hk : k < ops.size <;> simp [hk]
    have hl0 : ∀ (p : Nat → Bool) m, fM (fun k => false && p k) m = none := fun p m => by
      induction m with
      | zero => rfl
      | succ m ih => simp only [fM, Cv, dY, if_false]; exact ih
    have e1 : eS ops (es 0) vs (fun k => (Array.replicate ops.size false).getD k false) ops.size = e := by
      rw [hS0]; funext t; simp only [eS, hl0 (fun k => lH ops k == some t)]; rw [he]
    have e2 : HS md ops H.next (Hs 0) Hs Fs Ns (fun k => (Array.replicate ops.size false).getD k false) ops.size = { H with next := H.next + ops.size } := by
      rw [hS0]
      simp only [HS, AHeap.mk.injEq, true_and]
      refine ⟨funext fun id => propext ⟨fun h => h.elim (fun h => by rw [hH] at h; exact h) fun ⟨_, _, h, _⟩ => (by cases h), fun h => .inl (by rw [hH]; exact h)⟩, funext fun id => ?_⟩
      rw [hl0 (fun k => oD md ops k && (Fs k).contains id), hH]
    rw [e1, e2]; exact hSb
  · have hS0 : (fun k => (Array.replicate ops.size false).getD k false) = fun _ => false := by
      funext k
      by_cases hk : k < ops.size <;> simp [hk]
    have hl0 : ∀ (p : Nat → Bool) m, fM (fun k => false && p k) m = none := fun p m => by
      induction m with
      | zero => rfl
      | succ m ih => simp only [fM, Cv, dY, if_false]; exact ih
    have e2 : HS md ops H.next (Hs 0) Hs Fs Ns (fun k => (Array.replicate ops.size false).getD k false) ops.size = { H with next := H.next + ops.size } := by
      rw [hS0]
      simp only [HS, AHeap.mk.injEq, true_and]
      refine ⟨funext fun id => propext ⟨fun h => h.elim (fun h => by rw [hH] at h; exact h) fun ⟨_, _, h, _⟩ => (by cases h), fun h => .inl (by rw [hH]; exact h)⟩, funext fun id => ?_⟩
      rw [hl0 (fun k => oD md ops k && (Fs k).contains id), hH]
    rw [e2]; exact hk1
end
end Go.Abs
end
