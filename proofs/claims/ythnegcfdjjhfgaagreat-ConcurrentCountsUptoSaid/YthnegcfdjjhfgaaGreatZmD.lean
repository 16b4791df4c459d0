/- The abstraction layer, part N: an operation looks at no more -/
import Derived.Test.YthnegcfdjjhfgaaGreatZmC
set_option linter.unusedVariables false
set_option linter.unusedSimpArgs false
section
namespace Go.Abs
def AOut.on (r : AOut) (H : AHeap) : AOut := ⟨r.cond, r.fact, r.val, H⟩
def overlay (H' H1 : AHeap) (F : List Nat) (nid : Nat) : AHeap := ⟨H'.next, fun i => H'.al i ∨ (i = nid ∧ H1.al nid), fun i => if i ∈ F then H1.get i else H'.get i⟩
section
variable {P : Program} {H H' : AHeap} {F : List Nat} {nid : Nat}
theorem overlay_same (hF : Agree F H' H) (hn : ¬ H.al nid) : overlay H' H F nid = H' := by
  obtain ⟨n, al, g⟩ := H'
  simp only [overlay, AHeap.mk.injEq, true_and]
  refine ⟨?_, ?_⟩
  · funext i; exact propext ⟨fun h => h.elim id fun h => absurd h.2 hn, .inl⟩
  · funext i
    by_cases hi : i ∈ F
    · rw [if_pos hi]; exact (hF i hi).symm
    · rw [if_neg hi]
theorem overlay_push (hF : Agree F H' H) (hlt : nid < H'.next) (hnF : nid ∈ F) (b : Blk) : H'.push nid b = overlay H' (H.push nid b) F nid := by
  obtain ⟨n, al, g⟩ := H'
  have hlt' : nid < n := hlt
  simp only [AHeap.push, overlay, AHeap.mk.injEq, hlt', if_true, true_and]
  refine ⟨?_, ?_⟩
  · funext i; exact propext ⟨fun h => h.elim (fun e => .inr ⟨e, .inl trivial⟩) .inl, fun h => h.elim .inr fun h => .inl h.1⟩
  · funext i
    by_cases hi : i ∈ F
    · rw [if_pos hi]
      by_cases he : i = nid
      · rw [if_pos he, if_pos he]
      · rw [if_neg he, if_neg he]; exact hF i hi
    · have he : i ≠ nid := fun e => hi (e ▸ hnF)
      rw [if_neg hi, if_neg he]
theorem overlay_put (hF : Agree F H' H) (hn : ¬ H.al nid) {id : Nat} (hid : id ∈ F) (b : Blk) : H'.put id b = overlay H' (H.put id b) F nid := by
  obtain ⟨n, al, g⟩ := H'
  simp only [AHeap.put, overlay, AHeap.mk.injEq, true_and]
  refine ⟨?_, ?_⟩
  · funext i; exact propext ⟨.inl, fun h => h.elim (fun h => h) fun h => absurd h.2 hn⟩
  · funext i
    by_cases hi : i ∈ F
    · rw [if_pos hi]
      by_cases he : i = id
      · rw [if_pos he, if_pos he]
      · rw [if_neg he, if_neg he]; exact hF i hi
    · have he : i ≠ id := fun e => hi (e ▸ hid)
      rw [if_neg hi, if_neg he]
theorem put_agree (hF : Agree F H' H) (id : Nat) (b : Blk) : Agree F (H'.put id b) (H.put id b) := by
  intro i hi
  simp only [AHeap.put]
  by_cases he : i = id
  · rw [if_pos he, if_pos he]
  · rw [if_neg he, if_neg he]; exact hF i hi
theorem frz_al (H : AHeap) (id : Nat) : (H.frz id).al = H.al ∧ (H.frz id).next = H.next := by unfold AHeap.frz; cases H.get id <;> exact ⟨rfl, rfl⟩
theorem frzs_al (ids : List Nat) : ∀ H : AHeap, (frzs ids H).al = H.al ∧ (frzs ids H).next = H.next := by
  induction ids with
  | nil => intro H; exact ⟨rfl, rfl⟩
  | cons i l ih => intro H; exact ⟨(ih _).1.trans (frz_al H i).1, (ih _).2.trans (frz_al H i).2⟩
theorem frz_other (H : AHeap) (id i : Nat) (h : i ≠ id) : (H.frz id).get i = H.get i := by
  unfold AHeap.frz
  cases H.get id with
  | none => rfl
  | some k => simp [AHeap.put, h]
theorem frzs_other (ids : List Nat) : ∀ (H : AHeap) (i : Nat), i ∉ ids → (frzs ids H).get i = H.get i := by
  induction ids with
  | nil => intro H i _; rfl
  | cons a l ih =>
    intro H i hi
    simp only [frzs]
    rw [ih _ i (fun h => hi (by simp [h])), frz_other H a i (fun e => hi (by simp [e]))]
theorem frzs_agree (ids : List Nat) (hs : ∀ i ∈ ids, i ∈ F) : ∀ {H H' : AHeap}, Agree F H' H → Agree F (frzs ids H') (frzs ids H) := by
  induction ids with
  | nil => intro H H' h; exact h
  | cons a l ih =>
    intro H H' h
    simp only [frzs]
    refine ih (fun i hi => hs i (by simp [hi])) ?_
    have ha := h a (hs a (by simp))
    unfold AHeap.frz
    rw [ha]
    cases H.get a with
    | none => exact h
    | some k => exact put_agree h a _
theorem overlay_frzs (ids : List Nat) (hs : ∀ i ∈ ids, i ∈ F) (H1 : AHeap) : overlay (frzs ids H') H1 F nid = overlay H' H1 F nid := by
  simp only [overlay, AHeap.mk.injEq]
  refine ⟨(frzs_al ids H').2, by rw [(frzs_al ids H').1], ?_⟩
  funext i
  by_cases hi : i ∈ F
  · rw [if_pos hi, if_pos hi]
  · rw [if_neg hi, if_neg hi, frzs_other ids H' i (fun h => hi (hs i h))]
theorem own_sub (d : D) : ∀ i ∈ ownIds d, i ∈ idsAll d := by
  cases d <;> intro i hi <;> first | exact hi | (simp [ownIds, ids1] at hi; done) | (simp only [ownIds, ids1, idsAll] at hi ⊢; exact hi)
theorem rsv1_local {d : D} (h : Agree (ids1 d) H' H) : rsv1 H' d = rsv1 H d := by
  cases d <;> try rfl
  · rename_i id n
    simp only [rsv1, h id (by simp [ids1])]
  · rename_i id n lo hi
    simp only [rsv1, h id (by simp [ids1])]
theorem rsvD_local {d : D} (h : Agree (ownIds d) H' H) : rsvD H' d = rsvD H d := by
  cases d with
  | agg cs =>
    simp only [rsvD]
    congr 1
    exact List.map_congr_left fun x hx => rsv1_local fun i hi => h i (List.mem_flatMap.2 ⟨x, hx, hi⟩)
  | _ =>
    have h' := h
    simp only [ownIds] at h'
    simp only [rsvD]
    exact rsv1_local h'
theorem cellsAt_local {x : D} (h : Agree (idsAll x) H' H) : cellsAt H' x = cellsAt H x := by
  cases x <;> try rfl
  rename_i id ver i off
  simp only [cellsAt, h id (by simp [idsAll])]
theorem aLoad_local {t : TypeId} {x : D} (h : Agree (idsAll x) H' H) : aLoad P t x H' = (aLoad P t x H).on H' := by
  unfold aLoad
  rw [cellsAt_local h]
  cases cellsAt H x with
  | none => rfl
  | some cs => cases tk P t <;> rfl
theorem addrAdd_local {x : D} {n : Nat} (h : Agree (idsAll x) H' H) : addrAdd x n H' = (addrAdd x n H).on H' := by
  cases x <;> try rfl
  rename_i id ver i off
  simp only [addrAdd, h id (by simp [idsAll])]
  cases H.get id <;> rfl
theorem addrAdd_heap {x : D} {n : Nat} : (addrAdd x n H).heap = H := by
  unfold addrAdd
  split
  · rfl
  · split <;> rfl
  · rfl
theorem aFieldAddr_heap {t : TypeId} {x : D} {f : Nat} : (aFieldAddr P t x f H).heap = H := by
  unfold aFieldAddr
  split
  · split
    · exact addrAdd_heap
    · rfl
  · rfl
theorem aIndexAddr_heap {t : TypeId} {x i : D} : (aIndexAddr P t x i H).heap = H := by
  unfold aIndexAddr
  split
  · split
    · split <;> rfl
    · split <;> rfl
    · split
      · exact addrAdd_heap
      · rfl
  · rfl
theorem aNilCheck_local {x : D} (h : Agree (idsAll x) H' H) : aNilCheck x H' = (aNilCheck x H).on H' := by
  cases x <;> try rfl
  rename_i id ver i off
  simp only [aNilCheck, h id (by simp [idsAll])]
  cases H.get id <;> rfl
theorem aFieldAddr_local {t : TypeId} {x : D} {f : Nat} (h : Agree (idsAll x) H' H) : aFieldAddr P t x f H' = (aFieldAddr P t x f H).on H' := by
  unfold aFieldAddr
  cases bk P t with
  | none => rfl
  | some b => cases b with
    | ar sz => rfl
    | st l =>
      simp only
      cases l[f]? with
      | none => rfl
      | some q => simp only [addrAdd_local h]; rfl
theorem aIndexAddr_local {t : TypeId} {x i : D} (h : Agree (idsAll x) H' H) : aIndexAddr P t x i H' = (aIndexAddr P t x i H).on H' := by
  cases i <;> try rfl
  rename_i k n
  unfold aIndexAddr
  cases x <;> simp only <;> first
    | (cases sl P t <;> rfl)
    | (simp only [addrAdd_local h]; cases arr P t <;> rfl)
    | skip
  rename_i id m
  simp only [h id (by simp [idsAll])]
  cases sl P t <;> cases H.get id <;> rfl
theorem aSlice_local {t : TypeId} {x : D} {lo hi : Option D} (h : Agree (idsAll x) H' H) : aSlice P t x lo hi H' = (aSlice P t x lo hi H).on H' := by
  unfold aSlice
  cases x <;> try rfl
  · simp only; split <;> rfl
  · simp only; split <;> rfl
  · rename_i id n
    simp only [h id (by simp [idsAll])]
    split <;> rfl
theorem aSlice_heap {t : TypeId} {x : D} {lo hi : Option D} : (aSlice P t x lo hi H).heap = H := by
  unfold aSlice
  split
  · split <;> rfl
  · split <;> rfl
  · split <;> rfl
  · rfl
theorem aLen_local {t : TypeId} {x : D} (h : Agree (idsAll x) H' H) : aLen P t x H' = (aLen P t x H).on H' := by
  unfold aLen
  cases P.underlying t with
  | none => rfl
  | some de =>
    cases de <;> try rfl
    · cases x <;> rfl
    · cases x <;> try rfl
      rename_i id n
      simp only [h id (by simp [idsAll])]
      cases H.get id <;> rfl
theorem elemsOf_local {x : D} (h : Agree (idsAll x) H' H) : elemsOf H' x = elemsOf H x := by
  cases x <;> try rfl
  rename_i id n
  simp only [elemsOf, h id (by simp [idsAll])]
structure Loc (r r' : AOut) (H' : AHeap) (F : List Nat) (nid : Nat) : Prop where
  cond : r.cond → r'.cond
  fact : r'.fact = r.fact
  val : r'.val = r.val
  heap : r'.heap = overlay H' r.heap F nid
theorem Loc.on {r r' : AOut} (h : r' = r.on H') (hh : r.heap = H) (hF : Agree F H' H) (hn : ¬ H.al nid) : Loc r r' H' F nid := by
  subst h
  exact ⟨fun h => h, rfl, rfl, by rw [hh, overlay_same hF hn]; rfl⟩
theorem Loc.bad (hF : Agree F H' H) (hn : ¬ H.al nid) : Loc (AOut.bad H) (AOut.bad H') H' F nid := ⟨fun h => h, rfl, rfl, (overlay_same hF hn).symm⟩
theorem aStore_local {t : TypeId} {x v : D} (hF : Agree F H' H) (hx : ∀ i ∈ idsAll x, i ∈ F) (hn : ¬ H.al nid) : Loc (aStore P t x v H) (aStore P t x v H') H' F nid := by
  unfold aStore
  cases x <;> try (exact Loc.bad hF hn)
  rename_i id ver i off
  have hid : id ∈ F := hx id (by simp [idsAll])
  simp only
  rw [hF id hid]
  cases hk : H.get id with
  | none => (simp only [hk]; exact Loc.bad hF hn)
  | some k =>
    simp only [hk]
    cases hi : k.es[i]? with
    | none => (simp only [hi]; exact Loc.bad hF hn)
    | some c =>
      simp only [hi]
      exact ⟨fun h => h, rfl, rfl, overlay_put hF hn hid _⟩
theorem aClear_local {t : TypeId} {x : D} (hF : Agree F H' H) (hx : ∀ i ∈ idsAll x, i ∈ F) (hn : ¬ H.al nid) : Loc (aClear P t x H) (aClear P t x H') H' F nid := by
  unfold aClear
  cases x <;> try (exact Loc.bad hF hn)
  rename_i id ver lo hi
  have hid : id ∈ F := hx id (by simp [idsAll])
  simp only
  rw [hF id hid]
  cases hs : sl P t with
  | none => (simp only [hs]; exact Loc.bad hF hn)
  | some s =>
    cases hk : H.get id with
    | none => (simp only [hs, hk]; exact Loc.bad hF hn)
    | some k =>
      simp only [hs, hk]
      exact ⟨fun h => h, rfl, rfl, overlay_put hF hn hid _⟩
theorem aAppend_local {t t' : TypeId} {x y : D} (hF : Agree F H' H) (hx : ∀ i ∈ idsAll x, i ∈ F) (hy : ∀ i ∈ idsAll y, i ∈ F) (hn : ¬ H.al nid) (hlt : nid < H'.next) (hnF : nid ∈ F) :
    Loc (aAppend P nid t t' x y H) (aAppend P nid t t' x y H') H' F nid := by
  unfold aAppend
  rw [elemsOf_local (H := H) (H' := H') fun i hi => hF i (hy i hi)]
  cases hs : sl P t with
  | none => (simp only [hs]; exact Loc.bad hF hn)
  | some s =>
    cases he : elemsOf H y with
    | none => (simp only [hs, he]; exact Loc.bad hF hn)
    | some ys =>
      simp only [hs, he]
      cases x <;> try (exact Loc.bad hF hn)
      · exact ⟨fun h => h, rfl, rfl, overlay_push hF hlt hnF _⟩
      · rename_i id n
        have hid : id ∈ F := hx id (by simp [idsAll])
        simp only
        rw [hF id hid]
        cases hk : H.get id with
        | none => (simp only [hk]; exact Loc.bad hF hn)
        | some k =>
          simp only [hk]
          exact ⟨fun h => h, rfl, rfl, overlay_put hF hn hid _⟩
theorem aOp_local {md : Nat → Bool} {e : Nat → D} {o : Oper} (hF : Agree (foot nid e o.op) H' H) (hn : ¬ H.al nid) (hlt : nid < H'.next) :
    Loc (aOp P nid md e o H) (aOp P nid md e o H') H' (foot nid e o.op) nid := by
  obtain ⟨dst, op, type, pos, after, guard⟩ := o
  have hopd : heapy op = true → ∀ x ∈ op.operands, ∀ i ∈ idsAll (evD e x), i ∈ foot nid e op := fun hh x hx i hi => by
    simp only [foot, hh, if_true, List.mem_append, List.mem_flatMap]
    exact .inr ⟨x, by simpa using hx, hi⟩
  have hmk : makes op = true → nid ∈ foot nid e op := fun h => by simp [foot, h]
  simp only at hF
  have sub : heapy op = true → ∀ x ∈ op.operands, Agree (idsAll (evD e x)) H' H := fun hh x hx i hi => hF i (hopd hh x hx i hi)
  unfold aOp
  simp only
  have nilcase : ∀ x : Operand, makes op = isNilC x →
      Loc (if isNilC x then aNil P nid (mdd md dst) type H else ⟨True, True, evD e x, H⟩) (if isNilC x then aNil P nid (mdd md dst) type H' else ⟨True, True, evD e x, H'⟩) H' (foot nid e op) nid := by
    intro x hm
    by_cases hx : isNilC x = true
    · rw [if_pos hx]
      rw [if_pos hx]
      unfold aNil
      generalize mdd md dst = m
      cases m with
      | false => exact ⟨fun h => h, rfl, rfl, (overlay_same hF hn).symm⟩
      | true =>
        simp only [if_true]
        cases hs : sl P type with
        | none => (simp only [hs]; exact Loc.bad hF hn)
        | some s => exact ⟨fun h => h, rfl, rfl, overlay_push hF hlt (hmk (hm.trans hx)) _⟩
    · rw [if_neg hx]
      rw [if_neg hx]
      exact ⟨fun h => h, rfl, rfl, (overlay_same hF hn).symm⟩
  cases op <;> try (exact Loc.bad hF hn)
  case move x => exact nilcase x rfl
  case assign x => exact nilcase x rfl
  case pick c a b =>
    refine Loc.on ?_ ?_ hF hn
    · simp only [aPick]; split <;> first | rfl | (simp only [aPick2]; split <;> rfl)
    · simp only [aPick]; split <;> first | rfl | (simp only [aPick2]; split <;> rfl)
  case alloc t =>
    simp only [aAlloc]
    cases hz : zd P t with
    | none => (simp only [hz]; exact Loc.bad hF hn)
    | some z =>
      simp only [hz]
      generalize mdd md dst = m
      cases m with
      | false => exact ⟨fun h => h, rfl, rfl, (overlay_same hF hn).symm⟩
      | true => exact ⟨fun h => h, rfl, rfl, overlay_push hF hlt (hmk rfl) _⟩
  case box t x =>
    simp only [aBox]
    generalize mdd md dst = m
    cases m with
    | false => exact ⟨fun h => h, rfl, rfl, (overlay_same hF hn).symm⟩
    | true => exact ⟨fun h => h, rfl, rfl, overlay_push hF hlt (hmk rfl) _⟩
  case build t ps =>
    refine Loc.on ?_ ?_ hF hn
    · simp only [aBuild]; split
      · split <;> rfl
      · rfl
    · simp only [aBuild]; split
      · split <;> rfl
      · rfl
  case buildSlice t m ps =>
    have hids : ∀ i ∈ (ps.toList.flatMap fun p => ownIds (evD e p.2)), i ∈ foot nid e (.buildSlice t m ps) := fun i hi => by
      obtain ⟨p, hp, hi⟩ := List.mem_flatMap.1 hi
      refine hopd rfl p.2 ?_ i (own_sub _ i hi)
      simp only [Op.operands]
      simpa using ⟨p.1, by simpa using hp⟩
    have hmap : (ps.toList.map fun p => (p.1, rsvD H' (evD e p.2))) = ps.toList.map fun p => (p.1, rsvD H (evD e p.2)) := List.map_congr_left fun p hp => by
      rw [rsvD_local fun i hi => hF i (hids i (List.mem_flatMap.2 ⟨p, hp, hi⟩))]
    simp only
    rw [hmap]
    have hA := frzs_agree _ hids hF
    have hov : ∀ H1 : AHeap, overlay (frzs (ps.toList.flatMap fun p => ownIds (evD e p.2)) H') H1 (foot nid e (.buildSlice t m ps)) nid = overlay H' H1 (foot nid e (.buildSlice t m ps)) nid := fun H1 => overlay_frzs _ hids H1
    have hbad : Loc (AOut.bad (frzs (ps.toList.flatMap fun p => ownIds (evD e p.2)) H)) (AOut.bad (frzs (ps.toList.flatMap fun p => ownIds (evD e p.2)) H')) H' (foot nid e (.buildSlice t m ps)) nid :=
      ⟨fun h => h, rfl, rfl, by
        show frzs _ H' = overlay H' (frzs _ H) _ nid
        rw [← hov, overlay_same hA (by rw [(frzs_al _ H).1]; exact hn)]⟩
    simp only [aBuildSlice]
    cases hs : sl P t with
    | none => (simp only [hs]; exact hbad)
    | some s =>
      simp only [hs]
      cases hfl : fillD (fun i => some (i * s.sz, s.sz)) (List.replicate m s.z).flatten (ps.toList.map fun p => (p.1, rsvD H (evD e p.2))) with
      | none => (simp only [hfl]; exact hbad)
      | some cs =>
        simp only [hfl]
        generalize mdd md dst = m'
        cases m' with
        | false =>
          refine ⟨fun h => h, rfl, rfl, ?_⟩
          simp only [Bool.false_eq_true, if_false]
          rw [← hov, overlay_same hA (by rw [(frzs_al _ H).1]; exact hn)]
        | true =>
          refine ⟨fun h => h, rfl, rfl, ?_⟩
          simp only [if_true]
          rw [← hov]
          exact overlay_push hA (by rw [(frzs_al _ H').2]; exact hlt) (hmk rfl) _
  case load t a => exact Loc.on (aLoad_local (sub rfl a (by simp [Op.operands]))) (by simp only [aLoad]; split <;> (try split) <;> rfl) hF hn
  case store t a v =>
    have ha := hopd rfl a (by simp [Op.operands])
    have hv := hopd rfl v (by simp [Op.operands])
    simp only
    by_cases hm : md 1000000 = true
    · rw [if_pos hm]
      rw [if_pos hm]
      have hids : ∀ i ∈ ownIds (evD e v), i ∈ foot nid e (.store t a v) := fun i hi => hv i (own_sub _ i hi)
      rw [rsvD_local (H := H) (H' := H') fun i hi => hF i (hids i hi)]
      have hl := aStore_local (P := P) (t := t) (v := rsvD H (evD e v)) (nid := nid) (frzs_agree _ hids hF) ha (by rw [(frzs_al _ H).1]; exact hn)
      exact ⟨hl.cond, hl.fact, hl.val, by rw [hl.heap, overlay_frzs _ hids]⟩
    · rw [if_neg hm]
      rw [if_neg hm]
      exact aStore_local hF ha hn
  case nilCheck x => exact Loc.on (aNilCheck_local (sub rfl x (by simp [Op.operands]))) (by simp only [aNilCheck]; split <;> (try split) <;> rfl) hF hn
  case binOp op t x y t' =>
    refine Loc.on ?_ ?_ hF hn
    · simp only [aEq]; split <;> first | rfl | (split <;> rfl) | (simp only [aBin]; split <;> rfl)
    · simp only [aEq]; split <;> first | rfl | (split <;> rfl) | (simp only [aBin]; split <;> rfl)
  case unOp op t x =>
    refine Loc.on ?_ ?_ hF hn
    · simp only [aUn]; split <;> rfl
    · simp only [aUn]; split <;> rfl
  case convert s d x =>
    refine Loc.on ?_ ?_ hF hn
    · simp only [aConvert]; split <;> (try split) <;> rfl
    · simp only [aConvert]; split <;> (try split) <;> rfl
  case makeFunc fn first caps =>
    cases fn <;> try (exact Loc.bad hF hn)
    simp only
    by_cases hf : first.isEmpty = true
    · rw [if_pos hf]
      rw [if_pos hf]
      exact ⟨fun h => h, rfl, rfl, (overlay_same hF hn).symm⟩
    · rw [if_neg hf]; rw [if_neg hf]; exact Loc.bad hF hn
  case makeSlice t l c =>
    simp only [aMake]
    split
    · exact ⟨fun h => h, rfl, rfl, overlay_push hF hlt (hmk rfl) _⟩
    · exact Loc.bad hF hn
  case slice t x lo hi mx =>
    cases mx <;> try (exact Loc.bad hF hn)
    exact Loc.on (aSlice_local (sub rfl x (by simp [Op.operands]))) aSlice_heap hF hn
  case fieldAddr t x f => exact Loc.on (aFieldAddr_local (sub rfl x (by simp [Op.operands]))) aFieldAddr_heap hF hn
  case indexAddr t x i => exact Loc.on (aIndexAddr_local (sub rfl x (by simp [Op.operands]))) aIndexAddr_heap hF hn
  case index t x i =>
    refine Loc.on ?_ ?_ hF hn
    · simp only [aIndex]; split <;> (try split) <;> (try split) <;> rfl
    · simp only [aIndex]; split <;> (try split) <;> (try split) <;> rfl
  case extract t i =>
    refine Loc.on ?_ ?_ hF hn
    · simp only [aExtract]; split <;> rfl
    · simp only [aExtract]; split <;> rfl
  case call c =>
    obtain ⟨callee, args, ts⟩ := c
    cases callee <;> try (exact Loc.bad hF hn)
    rename_i b
    simp only
    have hargs : ∀ d ∈ args.toList.map (evD e), ∀ i ∈ idsAll d, i ∈ foot nid e (.call { callee := .builtin b, args := args, argTypes := ts }) := by
      intro d hd i hi
      obtain ⟨x, hx, rfl⟩ := List.mem_map.1 hd
      exact hopd rfl x (by simp only [Op.operands, Call.operands]; simpa using hx) i hi
    generalize args.toList.map (evD e) = az at hargs ⊢
    unfold aBuiltin
    split
    · exact Loc.on (aLen_local fun i hi => hF i (hargs _ (List.mem_singleton.2 rfl) i hi)) (by
        simp only [aLen]
        split
        · split <;> (try split) <;> rfl
        · split <;> rfl
        · rfl
        · rfl) hF hn
    · exact aAppend_local hF (hargs _ (List.mem_cons_self ..)) (hargs _ (List.mem_cons_of_mem _ (List.mem_singleton.2 rfl))) hn hlt (by simp [foot, makes])
    · exact aClear_local hF (hargs _ (List.mem_singleton.2 rfl)) hn
    · refine Loc.on ?_ ?_ hF hn
      · simp only [aMin]; split <;> rfl
      · simp only [aMin]; split <;> rfl
    · refine Loc.on ?_ ?_ hF hn
      · simp only [aMin]; split <;> rfl
      · simp only [aMin]; split <;> rfl
    · exact Loc.bad hF hn
theorem aOp_heap {md : Nat → Bool} {e : Nat → D} {o : Oper} (hw : writes o.op = false) : (aOp P nid md e o H).heap = H := by
  obtain ⟨dst, op, type, pos, after, guard⟩ := o
  simp only at hw
  unfold aOp
  cases op <;> first | (simp [writes] at hw; done) | skip
  case move x =>
    simp only [writes] at hw
    simp [hw]
  case assign x =>
    simp only [writes] at hw
    simp [hw]
  case pick c a b => simp only [aPick]; split <;> first | rfl | (simp only [aPick2]; split <;> rfl)
  case build t ps =>
    simp only [aBuild]
    split
    · split <;> rfl
    · rfl
  case load t a => simp only [aLoad]; split <;> (try split) <;> rfl
  case nilCheck x => simp only [aNilCheck]; split <;> (try split) <;> rfl
  case binOp op t x y t' => simp only [aEq]; split <;> first | rfl | (split <;> rfl) | (simp only [aBin]; split <;> rfl)
  case unOp op t x => simp only [aUn]; split <;> rfl
  case convert s d x => simp only [aConvert]; split <;> (try split) <;> rfl
  case makeFunc fn first caps =>
    cases fn <;> try rfl
    simp only
    split <;> rfl
  case slice t x lo hi mx =>
    cases mx <;> try rfl
    exact aSlice_heap
  case fieldAddr t x f => exact aFieldAddr_heap
  case indexAddr t x i => exact aIndexAddr_heap
  case index t x i => simp only [aIndex]; split <;> (try split) <;> (try split) <;> rfl
  case extract t i => simp only [aExtract]; split <;> rfl
  case call c =>
    obtain ⟨callee, args, ts⟩ := c
    cases callee <;> try rfl
    rename_i b
    simp only
    generalize args.toList.map (evD e) = az
    unfold aBuiltin
    split
    · simp only [aLen]
      split
      · split <;> (try split) <;> rfl
      · split <;> rfl
      · rfl
      · rfl
    · simp [writes] at hw
    · simp [writes] at hw
    · simp only [aMin]; split <;> rfl
    · simp only [aMin]; split <;> rfl
    · rfl
  all_goals rfl
end
end Go.Abs
end
section
namespace Go.Abs
theorem looks_op {ops : Array Oper} {o : Oper} {t : Tmp} (h : Operand.tmp t ∈ o.op.operands) : t ∈ o.looksAt ops := by
  simp only [Oper.looksAt, List.mem_append, List.mem_filterMap]
  exact .inl ⟨.tmp t, by simpa using h, rfl⟩
theorem looks_guard {ops : Array Oper} {o : Oper} {j : Nat} {b : Bool} {t : Tmp} (hg : o.guard = some (j, b)) (h : (ops[j]?).bind (·.dst) = some t) : t ∈ o.looksAt ops := by
  simp only [Oper.looksAt, List.mem_append, hg]
  exact .inr (by simp [h])
section
variable {P : Program} {md : Nat → Bool} {ops : Array Oper} {nid : Nat}
def overN (H' H1 : AHeap) (F N : List Nat) : AHeap := ⟨H'.next, fun i => H'.al i ∨ (i ∈ N ∧ H1.al i), fun i => if i ∈ F then H1.get i else H'.get i⟩
theorem over_one (H' H1 : AHeap) (F : List Nat) (nid : Nat) : overlay H' H1 F nid = overN H' H1 F [nid] := by
  simp only [overlay, overN, AHeap.mk.injEq, true_and, and_true]
  funext i
  refine propext ⟨fun h => h.imp (fun x => x) fun ⟨h1, h2⟩ => ⟨by simp [h1], h1 ▸ h2⟩, fun h => h.imp (fun x => x) fun ⟨h1, h2⟩ => ?_⟩
  have : i = nid := by simpa using h1
  exact ⟨this, this ▸ h2⟩
theorem over_same {H H' : AHeap} {F N : List Nat} (hF : Agree F H' H) (hn : ∀ i ∈ N, ¬ H.al i) : overN H' H F N = H' := by
  obtain ⟨n, al, g⟩ := H'
  simp only [overN, AHeap.mk.injEq, true_and]
  refine ⟨?_, ?_⟩
  · funext i; exact propext ⟨fun h => h.elim id fun h => absurd h.2 (hn i h.1), .inl⟩
  · funext i
    by_cases hi : i ∈ F
    · rw [if_pos hi]; exact (hF i hi).symm
    · rw [if_neg hi]
theorem pushs_next : ∀ (q : List (Nat × Blk)) (H : AHeap), (∀ p ∈ q, p.1 < H.next) → (H.pushs q).next = H.next
  | [], H, _ => rfl
  | p :: l, H, h => by
    have h1 : (H.push p.1 p.2).next = H.next := by simp only [AHeap.push, if_pos (h p (by simp))]
    simp only [AHeap.pushs]
    rw [pushs_next l _ (fun x hx => by rw [h1]; exact h x (by simp [hx])), h1]
theorem pushs_al : ∀ (q : List (Nat × Blk)) (H : AHeap) (i : Nat), (H.pushs q).al i ↔ H.al i ∨ i ∈ q.map (·.1)
  | [], H, i => by simp [AHeap.pushs]
  | p :: l, H, i => by
    simp only [AHeap.pushs]
    rw [pushs_al l]
    simp only [AHeap.push, List.map_cons, List.mem_cons]
    constructor
    · rintro ((h | h) | h)
      · exact .inr (.inl h)
      · exact .inl h
      · exact .inr (.inr h)
    · rintro (h | h | h)
      · exact .inl (.inr h)
      · exact .inl (.inl h)
      · exact .inr h
theorem pushs_get : ∀ (q : List (Nat × Blk)) (H H' : AHeap) (i : Nat), (i ∈ q.map (·.1) ∨ H.get i = H'.get i) → (H.pushs q).get i = (H'.pushs q).get i
  | [], H, H', i, h => by
    rcases h with h | h
    · simp at h
    · exact h
  | p :: l, H, H', i, h => by
    simp only [AHeap.pushs]
    refine pushs_get l _ _ i ?_
    by_cases hl : i ∈ l.map (·.1)
    · exact .inl hl
    · right
      simp only [AHeap.push]
      by_cases hp : i = p.1
      · simp [hp]
      · simp only [hp, if_false]
        rcases h with h | h
        · simp only [List.map_cons, List.mem_cons] at h
          rcases h with h | h
          · exact absurd h hp
          · exact absurd h hl
        · exact h
theorem pushs_other : ∀ (q : List (Nat × Blk)) (H : AHeap) (i : Nat), i ∉ q.map (·.1) → (H.pushs q).get i = H.get i
  | [], H, i, _ => rfl
  | p :: l, H, i, h => by
    simp only [List.map_cons, List.mem_cons, not_or] at h
    simp only [AHeap.pushs]
    rw [pushs_other l _ i h.2]
    simp [AHeap.push, h.1]
theorem puts_next : ∀ (u : List (Nat × Blk)) (H : AHeap), (H.puts u).next = H.next
  | [], _ => rfl
  | p :: l, H => puts_next l (H.put p.1 p.2)
theorem puts_al : ∀ (u : List (Nat × Blk)) (H : AHeap) (i : Nat), (H.puts u).al i ↔ H.al i
  | [], _, _ => Iff.rfl
  | p :: l, H, i => puts_al l (H.put p.1 p.2) i
theorem puts_get : ∀ (u : List (Nat × Blk)) (H H' : AHeap) (i : Nat), H.get i = H'.get i → (H.puts u).get i = (H'.puts u).get i
  | [], _, _, _, h => h
  | p :: l, H, H', i, h => puts_get l _ _ i (by simp only [AHeap.put]; split <;> first | rfl | exact h)
theorem puts_other : ∀ (u : List (Nat × Blk)) (H : AHeap) (i : Nat), (∀ p ∈ u, p.1 ≠ i) → (H.puts u).get i = H.get i
  | [], H, i, _ => rfl
  | p :: l, H, i, h => by
    simp only [AHeap.puts]
    rw [puts_other l _ i fun x hx => h x (by simp [hx])]
    have := (h p (by simp)).symm
    simp [AHeap.put, this]
theorem pushs_over {H H' : AHeap} {S : List Nat} {u q : List (Nat × Blk)} (hu : ∀ p ∈ u, p.1 ∈ S) (hF : Agree (S ++ q.map (·.1)) H' H) (hlt : ∀ p ∈ q, p.1 < H'.next) : (H'.puts u).pushs q = overN H' ((H.puts u).pushs q) (S ++ q.map (·.1)) (q.map (·.1)) := by
  have h1 := pushs_next q (H'.puts u) (by rw [puts_next]; exact hlt)
  have h2 := pushs_al q (H'.puts u)
  have h3 := pushs_get q (H'.puts u) (H.puts u)
  have h4 := pushs_other q (H'.puts u)
  have h5 := pushs_al q (H.puts u)
  rw [puts_next] at h1
  simp only [puts_al] at h2 h5
  generalize (H'.puts u).pushs q = X at h1 h2 h3 h4
  obtain ⟨n, al, g⟩ := X
  simp only [overN, AHeap.mk.injEq]
  refine ⟨h1, funext fun i => propext ?_, funext fun i => ?_⟩
  · rw [show al i ↔ _ from h2 i]
    exact ⟨fun h => h.imp (fun x => x) fun h => ⟨h, (h5 i).2 (.inr h)⟩, fun h => h.imp (fun x => x) fun h => h.1⟩
  · by_cases hi : i ∈ S ++ q.map (·.1)
    · rw [if_pos hi]
      exact h3 i (.inr (puts_get u _ _ i (hF i hi)))
    · rw [if_neg hi]
      refine (h4 i fun h => hi (by simp only [List.mem_append]; exact .inr h)).trans (puts_other u _ i fun p hp he => hi ?_)
      simp only [List.mem_append]; exact .inl (he ▸ hu p hp)
structure Txt (P : Program) (md : Nat → Bool) (ops : Array Oper) (m nid : Nat) (o : Oper) (e : Nat → D) (H : AHeap) (v : D) (H1 : AHeap) (F N : List Nat) : Prop where
  self : H1 = overN H H1 F N
  new : ∀ id ∈ N, ¬ H.al id ∧ (id = nid ∨ (id < m ∧ H1.al id))
  still : writesM md o = false → H1 = H
  foot : heapy o.op = false → F = []
  any : ∀ e' H', (∀ t ∈ o.looksAt ops, e' t = e t) → Agree F H' H → nid < H'.next → ¬ H'.al nid → (∀ id ∈ N, id < H'.next ∧ ¬ H'.al id) →
    aStep P md (some m) nid ops e' o H' fun v' H2 _ => v' = v ∧ H2 = overN H' H1 F N
theorem makes_heapy {o : Op} (h : heapy o = false) : makes o = false := by
  cases o <;> first | rfl | (simp [heapy] at h; done) | (simp only [heapy] at h; simp only [makes]; exact h)
theorem foot_nil {e : Nat → D} {o : Op} (h : heapy o = false) : foot nid e o = [] := by simp [foot, h, makes_heapy h]
theorem evD_same {e e' : Nat → D} {o : Oper} (h : ∀ t ∈ o.looksAt ops, e' t = e t) : ∀ x ∈ o.op.operands, evD e' x = evD e x := by
  intro x hx
  cases x with
  | tmp t => exact h t (looks_op hx)
  | _ => rfl
theorem strip_same {e e' : Nat → D} {o : Oper} (h : ∀ t ∈ o.looksAt ops, e' t = e t) : ∀ x ∈ o.op.operands, evD (gE e' o.op) x = evD (gE e o.op) x := by
  intro x hx
  cases x with
  | tmp t =>
    have ht := h t (looks_op hx)
    simp only [evD]
    cases o.op <;> simp only [gE, strip, ht]
    rename_i c _ _
    cases c <;> simp only [ht]
  | _ => rfl
theorem ogs_congr {e e' : Nat → D} : ∀ (l : List Operand), (∀ x ∈ l, og e' x = og e x) → ogs e' l = ogs e l
  | [], _ => rfl
  | x :: l, h => by simp only [ogs, h x (by simp), ogs_congr l fun y hy => h y (by simp [hy])]
theorem Loc.self {r : AOut} {H : AHeap} {F : List Nat} (h : Loc r r H F nid) : r.heap = overlay H r.heap F nid := h.heap
theorem aStep_txt {m : Nat} {e : Nat → D} {o : Oper} {H : AHeap} {K : D → AHeap → List Nat → Prop} (h : aStep P md (some m) nid ops e o H K) (hn : ¬ H.al nid) (hlt : nid < H.next) (hmn : m ≤ H.next) :
    ∃ v H1 F N, Txt P md ops m nid o e H v H1 F N ∧ K v H1 F := by
  unfold aStep at h
  have hself : ∀ F : List Nat, H = overN H H F [nid] := fun F => (over_same (fun _ _ => rfl) (by simpa using hn)).symm
  have hone : ∀ id ∈ [nid], ¬ H.al id ∧ ∀ H1 : AHeap, (id = nid ∨ (id < m ∧ H1.al id)) := fun id hid => by
    have : id = nid := by simpa using hid
    subst this; exact ⟨hn, fun _ => .inl rfl⟩
  have hnid : ∀ {H' : AHeap}, Agree [] H' H → ∀ {F : List Nat}, Agree F H' H → overN H' H F [nid] = H' := fun _ _ hF => over_same hF (by simpa using hn)
  cases hg : o.guard with
  | none =>
    simp only [hg] at h
    cases hc : callOf e o with
    | some fa =>
      obtain ⟨f, args⟩ := fa
      simp only [hc] at h
      have hh : heapy o.op = true ∧ ownCall md o = mdd md o.dst := by
        unfold callOf at hc
        split at hc
        · rename_i hop; unfold ownCall; rw [hop]; exact ⟨rfl, rfl⟩
        · cases hc
      rcases h with ⟨r, S, h1, h2⟩ | ⟨hmd, r, S, u, q, hu, hq, h1, h2⟩
      · refine ⟨r, H, S, [nid], ⟨hself S, fun id hid => ⟨(hone id hid).1, (hone id hid).2 _⟩, fun _ => rfl, fun h => (by rw [hh.1] at h; cases h), fun e' H' he hF hlt' hn' hN => ?_⟩, h2⟩
        unfold aStep
        simp only [hg]
        rw [callOf_congr (evD_same he), hc]
        exact .inl ⟨r, S, fun H'' hF' => h1 H'' fun i hi => (hF' i hi).trans (hF i hi), rfl, (hnid (fun _ h => by cases h) hF).symm⟩
      · have hal := pushs_al q (H.puts u)
        refine ⟨r, (H.puts u).pushs q, S ++ q.map (·.1), q.map (·.1), ⟨pushs_over hu (fun _ _ => rfl) (fun p hp => Nat.lt_of_lt_of_le (hq p hp).1 hmn), fun id hid => ?_, fun hw => ?_, fun h => (by rw [hh.1] at h; cases h), fun e' H' he hF hlt' hn' hN => ?_⟩, h2⟩
        · obtain ⟨p, hp, rfl⟩ := List.mem_map.1 hid
          exact ⟨(hq p hp).2, .inr ⟨(hq p hp).1, (hal _).2 (.inr hid)⟩⟩
        · unfold writesM at hw
          rw [hh.2, hmd] at hw
          simp at hw
        · unfold aStep
          simp only [hg]
          rw [callOf_congr (evD_same he), hc]
          refine .inr ⟨hmd, r, S, u, q, hu, fun p hp => ⟨(hq p hp).1, (hN p.1 (List.mem_map.2 ⟨p, hp, rfl⟩)).2⟩, fun H'' hF' hn'' => h1 H'' (fun i hi => (hF' i hi).trans (hF i (by simp [hi]))) hn'', rfl, ?_⟩
          exact pushs_over hu hF fun p hp => (hN p.1 (List.mem_map.2 ⟨p, hp, rfl⟩)).1
    | none =>
      simp only [hc] at h
      obtain ⟨h1, h2⟩ := h
      have hl := aOp_local (P := P) (md := md) (e := e) (o := o) (H := H) (H' := H) (nid := nid) (fun _ _ => rfl) hn hlt
      refine ⟨_, _, _, [nid], ⟨(over_one _ _ _ _) ▸ hl.heap, fun id hid => ⟨(hone id hid).1, (hone id hid).2 _⟩, fun hw => aOp_heap (by unfold writesM at hw; simp at hw; exact hw.1), fun hh => foot_nil hh, fun e' H' he hF hlt' hn' hN => ?_⟩, h2 (fun h => by cases h)⟩
      unfold aStep
      simp only [hg]
      rw [callOf_congr (evD_same he), hc]
      simp only
      rw [aOp_congr (evD_same he)]
      have hl' := aOp_local (P := P) (md := md) (e := e) (o := o) (H := H) (H' := H') (nid := nid) hF hn hlt'
      exact ⟨hl'.cond h1, fun _ => ⟨hl'.val, (over_one _ _ _ _) ▸ hl'.heap⟩⟩
  | some jb =>
    obtain ⟨j, b⟩ := jb
    simp only [hg] at h
    cases hgd : gD ops e j with
    | none => simp [hgd] at h
    | some gc =>
      obtain ⟨g, c⟩ := gc
      simp only [hgd] at h
      obtain ⟨hog, h⟩ := h
      have hgd' : ∀ e', (∀ t ∈ o.looksAt ops, e' t = e t) → gD ops e' j = some (g, c) := by
        intro e' he
        rw [← hgd]
        unfold gD
        cases ht : (ops[j]?).bind (·.dst) with
        | none => rfl
        | some t => simp only [he t (looks_guard hg ht)]
      have hog' : ∀ e', (∀ t ∈ o.looksAt ops, e' t = e t) → ogs e' (gO o.op) = ogs e (gO o.op) := by
        intro e' he
        refine ogs_congr _ fun x hx => ?_
        cases x with
        | tmp t => simp only [og, he t (looks_op (gO_mem hx))]
        | _ => rfl
      cases hc : callOf (gE e o.op) o with
      | some fa =>
        obtain ⟨f, args⟩ := fa
        simp only [hc] at h
        obtain ⟨r, S, h1, h2⟩ := h
        have hh : heapy o.op = true := by
          unfold callOf at hc
          split at hc
          · rename_i hop; rw [hop]; rfl
          · cases hc
        refine ⟨_, H, S, [nid], ⟨hself S, fun id hid => ⟨(hone id hid).1, (hone id hid).2 _⟩, fun _ => rfl, fun h => (by rw [hh] at h; cases h), fun e' H' he hF hlt' hn' hN => ?_⟩, h2⟩
        unfold aStep
        simp only [hg, hgd' e' he, hog' e' he]
        rw [callOf_congr (strip_same he), hc]
        exact ⟨hog, r, S, fun hq H'' hF' => h1 hq H'' fun i hi => (hF' i hi).trans (hF i hi), rfl, (hnid (fun _ h => by cases h) hF).symm⟩
      | none =>
        simp only [hc] at h
        obtain ⟨h1, h2⟩ := h
        refine ⟨_, H, _, [nid], ⟨hself _, fun id hid => ⟨(hone id hid).1, (hone id hid).2 _⟩, fun hw => rfl, fun hh => foot_nil hh, fun e' H' he hF hlt' hn' hN => ?_⟩, h2 (fun h => by cases h)⟩
        unfold aStep
        simp only [hg, hgd' e' he, hog' e' he]
        rw [callOf_congr (strip_same he), hc]
        simp only
        rw [aOp_congr (strip_same he)]
        have hl' := aOp_local (P := P) (md := md) (e := gE e o.op) (o := o) (H := H) (H' := H') (nid := nid) hF hn hlt'
        refine ⟨hog, fun hq => ⟨hl'.cond (h1 hq).1, ?_⟩, fun _ => ⟨by rw [hl'.val], (hnid (fun _ h => by cases h) hF).symm⟩⟩
        rw [hl'.heap, (h1 hq).2, overlay_same hF hn]
end
structure Run (P : Program) (md : Nat → Bool) (ops : Array Oper) (sp : List (Nat × Nat)) (n0 : Nat) (es : Nat → Nat → D) (Hs : Nat → AHeap) (vs : Nat → D) (Fs Ns : Nat → List Nat) (i0 : Nat) (l : List Oper) : Prop where
  step : ∀ (j : Nat) (o : Oper), l[j]? = some o → es (i0 + j + 1) = upd (es (i0 + j)) o.dst (vs (i0 + j)) ∧ Txt P md ops n0 (n0 + (i0 + j)) o (es (i0 + j)) (Hs (i0 + j)) (vs (i0 + j)) (Hs (i0 + j + 1)) (Fs (i0 + j)) (Ns (i0 + j))
  apart : ∀ (k j : Nat), k < j → j < l.length → (i0 + k, i0 + j) ∈ sp → ∀ x ∈ Fs (i0 + k), x ∉ Fs (i0 + j)
theorem aDraw_run {P : Program} {md : Nat → Bool} {ops : Array Oper} {sp : List (Nat × Nat)} {n0 nn : Nat} : ∀ (l : List Oper) (i : Nat) (acc : List (Nat × List Nat)) (e : Nat → D) (H : AHeap) (K : (Nat → D) → AHeap → Prop),
    aDraw P md ops sp n0 i l acc e H K → (∀ id, H.al id → id < n0 + i) → H.next = nn → n0 + i + l.length ≤ nn →
    ∃ (es : Nat → Nat → D) (Hs : Nat → AHeap) (vs : Nat → D) (Fs Ns : Nat → List Nat), es i = e ∧ Hs i = H ∧ K (es (i + l.length)) (Hs (i + l.length)) ∧ Run P md ops sp n0 es Hs vs Fs Ns i l ∧
      (∀ (j : Nat), j < l.length → ∀ p ∈ acc, (p.1, i + j) ∈ sp → ∀ x ∈ p.2, x ∉ Fs (i + j))
  | [], i, acc, e, H, K, h, hal, hnn, hle => by
    refine ⟨fun _ => e, fun _ => H, fun _ => .junk, fun _ => [], fun _ => [], rfl, rfl, h, ⟨fun j o h => by simp at h, fun k j _ h => by simp at h⟩, fun j h => by simp at h⟩
  | o :: l, i, acc, e, H, K, h, hal, hnn, hle => by
    unfold aDraw at h
    simp only [List.length_cons] at hle
    have hn : ¬ H.al (n0 + i) := fun h => by have := hal _ h; omega
    have hlt : n0 + i < H.next := by omega
    obtain ⟨v, H1, F, N, hT, hchk, hrest⟩ := aStep_txt h hn hlt (by omega)
    have hal1 : ∀ id, H1.al id → id < n0 + (i + 1) := fun id hid => by
      rw [hT.self] at hid
      rcases hid with hid | ⟨hid, _⟩
      · have := hal id hid; omega
      · rcases (hT.new id hid).2 with h | ⟨h, _⟩ <;> omega
    have hnn1 : H1.next = nn := by rw [hT.self]; exact hnn
    obtain ⟨es, Hs, vs, Fs, Ns, he, hH, hK, hrun, hacc⟩ := aDraw_run l (i + 1) _ _ _ _ hrest hal1 hnn1 (by omega)
    refine ⟨fun k => if k = i then e else es k, fun k => if k = i then H else Hs k, fun k => if k = i then v else vs k, fun k => if k = i then F else Fs k, fun k => if k = i then N else Ns k, by simp, by simp, ?_, ⟨fun j o' ho' => ?_, fun k j hkj hj hsp => ?_⟩, fun j hj p hp hsp => ?_⟩
    · have : i + (o :: l).length ≠ i := by simp
      simp only [this, if_false]
      rw [show i + (o :: l).length = i + 1 + l.length by simp; omega]
      exact hK
    · cases j with
      | zero =>
        simp only [List.getElem?_cons_zero, Option.some.injEq] at ho'
        subst ho'
        have : i + 0 + 1 ≠ i := by omega
        simp only [this, if_false, Nat.add_zero, if_true]
        rw [show i + 1 = i + 1 from rfl, he, hH]
        exact ⟨rfl, hT⟩
      | succ j =>
        have h1 : i + (j + 1) ≠ i := by omega
        have h2 : i + (j + 1) + 1 ≠ i := by omega
        simp only [h1, h2, if_false]
        have := hrun.step j o' (by simpa using ho')
        rw [show i + 1 + j = i + (j + 1) by omega] at this
        exact this
    · have hj0 : i + j ≠ i := by omega
      simp only [hj0, if_false]
      cases j with
      | zero => omega
      | succ j =>
        simp only [List.length_cons] at hj
        by_cases hk : k = 0
        · subst hk
          simp only [Nat.add_zero, if_true] at hsp ⊢
          have := hacc j (by omega) (i, F) (by simp)
          rw [show i + 1 + j = i + (j + 1) by omega] at this
          exact this hsp
        · have hk0 : i + k ≠ i := by omega
          simp only [hk0, if_false]
          have := hrun.apart (k - 1) j (by omega) (by omega)
          rw [show i + 1 + (k - 1) = i + k by omega, show i + 1 + j = i + (j + 1) by omega] at this
          exact this hsp
    · cases j with
      | zero =>
        simp only [Nat.add_zero, if_true] at hsp ⊢
        unfold chk at hchk
        cases sp with
        | nil => simp at hsp
        | cons a sp => exact hchk p hp hsp
      | succ j =>
        have h1 : i + (j + 1) ≠ i := by omega
        simp only [h1, if_false]
        simp only [List.length_cons] at hj
        have := hacc j (by omega) p (by simp [hp])
        rw [show i + 1 + j = i + (j + 1) by omega] at this
        exact this hsp
end Go.Abs
end
section
namespace Go.Abs
theorem lastIn_eq {p : Nat → Bool} {i : Nat} : ∀ (n : Nat), i < n → p i = true → (∀ k, i < k → k < n → p k = false) → lastIn p n = some i
  | 0, h, _, _ => by omega
  | n + 1, h, hp, hk => by
    by_cases hi : i = n
    · subst hi; simp [lastIn, hp]
    · simp only [lastIn, hk n (by omega) (by omega), Bool.false_eq_true, if_false]
      exact lastIn_eq n (by omega) hp fun k h1 h2 => hk k h1 (by omega)
section
variable (md : Nat → Bool) (ops : Array Oper) (n0 : Nat) (e0 : Nat → D) (H0 : AHeap) (Hs : Nat → AHeap) (vs : Nat → D) (Fs Ns : Nat → List Nat)
def dstOf (i : Nat) : Option Tmp := (ops[i]?).bind (·.dst)
def wrOf (i : Nat) : Bool := match ops[i]? with | some o => writesM md o | none => false
def eS (S : Nat → Bool) (m : Nat) : Nat → D := fun t =>
  match lastIn (fun k => S k && (dstOf ops k == some t)) m with
  | some k => vs k
  | none => e0 t
def HS (S : Nat → Bool) (m : Nat) : AHeap where
  next := n0 + ops.size
  al := fun id => H0.al id ∨ ∃ k, k < m ∧ S k = true ∧ id ∈ Ns k ∧ (Hs (k + 1)).al id
  get := fun id => match lastIn (fun k => S k && (wrOf md ops k && (Fs k).contains id)) m with
    | some k => (Hs (k + 1)).get id
    | none => H0.get id
end
section
variable {P : Program} {md : Nat → Bool} {ops : Array Oper} {sp : List (Nat × Nat)} {n0 : Nat} {es : Nat → Nat → D} {Hs : Nat → AHeap} {vs : Nat → D} {Fs Ns : Nat → List Nat}
theorem toList_get (i : Nat) : ops.toList[i]? = ops[i]? := by simp
theorem run_states (hr : Run P md ops sp n0 es Hs vs Fs Ns 0 ops.toList) (hn : (Hs 0).next = n0 + ops.size) : ∀ i, i ≤ ops.size → es i = eS ops (es 0) vs (fun _ => true) i ∧ Hs i = HS md ops n0 (Hs 0) Hs Fs Ns (fun _ => true) i
  | 0, _ => ⟨by funext t; rfl, by
      generalize hH : Hs 0 = X at hn
      obtain ⟨nx, al, g⟩ := X
      simp only [HS, AHeap.mk.injEq]
      refine ⟨hn, funext fun id => propext ⟨.inl, fun h => h.elim (fun h => h) fun ⟨k, hk, _⟩ => by omega⟩, funext fun id => rfl⟩⟩
  | i + 1, hi => by
    obtain ⟨ih1, ih2⟩ := run_states hr hn i (by omega)
    have hlt : i < ops.size := by omega
    have ho : ops[i]? = some ops[i] := Array.getElem?_eq_getElem hlt
    obtain ⟨h1, hT⟩ := hr.step i ops[i] (by rw [toList_get, ho])
    simp only [Nat.zero_add] at h1 hT
    refine ⟨?_, ?_⟩
    · rw [h1, ih1]
      funext t
      simp only [eS, lastIn, Bool.true_and]
      have hd : dstOf ops i = ops[i].dst := by simp [dstOf, ho]
      cases hdd : ops[i].dst with
      | none => simp [upd, hd, hdd, eS]
      | some d =>
        by_cases ht : t = d
        · subst ht; simp [upd, hd, hdd]
        · have ht' : ¬ d = t := fun h => ht h.symm
          simp [upd, hd, hdd, ht, ht', eS]
    · have hself := hT.self
      have hw : wrOf md ops i = writesM md ops[i] := by simp [wrOf, ho]
      have hget : ∀ id, (Hs (i + 1)).get id = if (wrOf md ops i && (Fs i).contains id) = true then (Hs (i + 1)).get id else (Hs i).get id := by
        intro id
        split
        · rfl
        · rename_i hc
          by_cases hwr : wrOf md ops i = true
          · have hnc : id ∉ Fs i := fun h => hc (by simp [hwr, h])
            rw [hself]; simp [overN, hnc]
          · rw [hT.still (by rw [← hw]; simpa using hwr)]
      have hnext : (Hs (i + 1)).next = n0 + ops.size := by rw [hself, ih2]; rfl
      have halq : ∀ id, (Hs (i + 1)).al id ↔ (Hs i).al id ∨ (id ∈ Ns i ∧ (Hs (i + 1)).al id) := fun id => by
        constructor
        · intro h; rw [hself] at h; exact h
        · intro h; rw [hself]; exact h
      generalize hH : Hs (i + 1) = X at hget hnext halq
      obtain ⟨nx, al, g⟩ := X
      simp only [HS, AHeap.mk.injEq]
      refine ⟨hnext, funext fun id => propext ?_, funext fun id => ?_⟩
      · rw [show al id ↔ _ from halq id, ih2]
        simp only [HS]
        constructor
        · rintro ((h | ⟨k, hk, _, hm, h⟩) | ⟨hm, h⟩)
          · exact .inl h
          · exact .inr ⟨k, by omega, trivial, hm, h⟩
          · exact .inr ⟨i, by omega, trivial, hm, by rw [hH]; exact h⟩
        · rintro (h | ⟨k, hk, _, hm, h⟩)
          · exact .inl (.inl h)
          · by_cases hki : k = i
            · subst hki; rw [hH] at h; exact .inr ⟨hm, h⟩
            · exact .inl (.inr ⟨k, by omega, trivial, hm, h⟩)
      · have := hget id
        simp only at this
        rw [this, ih2]
        simp only [HS, lastIn, Bool.true_and]
        split
        · simp only [hH]
        · rfl
theorem susp_pair (h : suspOK md ops sp = true) {i j : Nat} (hij : i < j) (hj : j < ops.size) :
    ((befs ops.toList []).getD j 0).testBit i = true ∨ (clashT ops (ops[i]'(by omega)) ops[j] = false ∧ (clashH md (ops[i]'(by omega)) ops[j] = false ∨ (i, j) ∈ sp)) := by
  unfold suspOK at h
  simp only [List.all_eq_true, List.mem_range] at h
  have h1 := h j hj
  rw [Array.getElem?_eq_getElem hj] at h1
  simp only [Bool.and_eq_true, List.all_eq_true, List.mem_range] at h1
  have h2 := h1.2 i hij
  rw [Array.getElem?_eq_getElem (by omega)] at h2
  simp only [Bool.or_eq_true, Bool.and_eq_true, Bool.not_eq_true', List.contains_iff_mem] at h2
  exact h2
theorem susp_edge (h : suspOK md ops sp = true) {j : Nat} {o : Oper} (ho : ops[j]? = some o) : ∀ e ∈ o.after.toList, Region.binds .any e = true → e.on < j := by
  have hj : j < ops.size := (Array.getElem?_eq_some_iff.1 ho).1
  unfold suspOK at h
  simp only [List.all_eq_true, List.mem_range] at h
  have h1 := h j hj
  rw [ho] at h1
  simp only [Bool.and_eq_true, List.all_eq_true, Bool.or_eq_true, Bool.not_eq_true', decide_eq_true_eq] at h1
  intro e he hb
  rcases h1.1.1 e he with h2 | h2
  · rw [hb] at h2; cases h2
  · exact h2
variable {S : Nat → Bool} {i : Nat}
def addS (S : Nat → Bool) (i : Nat) : Nat → Bool := fun k => k == i || S k
theorem writes_heapy {o : Op} (h : writes o = true) : heapy o = true := by
  cases o <;> first | rfl | (simp [writes] at h; done) | exact h
theorem writesM_heapy {md : Nat → Bool} {o : Oper} (h : writesM md o = true) : heapy o.op = true := by
  unfold writesM at h
  rw [Bool.or_eq_true] at h
  rcases h with h | h
  · exact writes_heapy h
  · unfold ownCall at h
    split at h
    · rename_i hop; rw [hop]; rfl
    · cases h
theorem apart_looks {x y : Oper} (h : clashT ops x y = false) : (∀ t, x.dst = some t → t ∉ y.looksAt ops ∧ y.dst ≠ some t) ∧ (∀ t, y.dst = some t → t ∉ x.looksAt ops) := by
  have := Oper.apart_spec (by simpa [clashT] using h)
  exact ⟨fun t ht => ⟨this.1 t ht, this.2.1 t ht⟩, this.2.2⟩
theorem order_facts (hs : suspOK md ops sp = true) (hD : Down ops S) (hD' : Down ops (addS S i)) (hi : i < ops.size) (hSi : S i = false) :
    (∀ k, k < i → (((befs ops.toList []).getD i 0).testBit k = true) → S k = true) ∧ (∀ k, i < k → k < ops.size → ((befs ops.toList []).getD k 0).testBit i = true → S k = false) := by
  refine ⟨fun k hk hb => ?_, fun k hk hk2 hb => ?_⟩
  · have := befs_down hD' i k (by simp [addS]) hb
    simp only [addS, Bool.or_eq_true, beq_iff_eq] at this
    rcases this with h | h
    · omega
    · exact h
  · cases hSk : S k with
    | false => rfl
    | true => have := befs_down hD k i hSk hb; rw [hSi] at this; cases this
theorem ready_env (hr : Run P md ops sp n0 es Hs vs Fs Ns 0 ops.toList) (hn : (Hs 0).next = n0 + ops.size) (hs : suspOK md ops sp = true) (hD : Down ops S) (hD' : Down ops (addS S i)) (hi : i < ops.size) (hSi : S i = false) :
    (∀ t ∈ (ops[i]).looksAt ops, eS ops (es 0) vs S ops.size t = es i t) ∧ Agree (Fs i) (HS md ops n0 (Hs 0) Hs Fs Ns S ops.size) (Hs i) := by
  obtain ⟨o1, o2⟩ := order_facts hs hD hD' hi hSi
  obtain ⟨e1, e2⟩ := run_states hr hn i (by omega)
  have hgetk : ∀ k, k < ops.size → dstOf ops k = (ops[k]?).bind (·.dst) := fun k _ => rfl
  obtain ⟨_, hT⟩ := hr.step i ops[i] (by rw [toList_get, Array.getElem?_eq_getElem hi])
  simp only [Nat.zero_add] at hT
  refine ⟨fun t ht => ?_, fun id hid => ?_⟩
  · rw [e1]
    simp only [eS, Bool.true_and]
    have hl : lastIn (fun k => S k && (dstOf ops k == some t)) ops.size = lastIn (fun k => dstOf ops k == some t) i := by
      rw [lastIn_cut (p := fun k => S k && (dstOf ops k == some t)) i ops.size (by omega) (fun k hk hk2 => ?_)]
      · refine lastIn_congr i fun k hk => ?_
        cases hd : (dstOf ops k == some t) with
        | false => simp
        | true =>
          have hks : k < ops.size := by omega
          have hdk : ops[k].dst = some t := by simpa [dstOf, Array.getElem?_eq_getElem hks] using hd
          rcases susp_pair hs hk hi with h | ⟨h, _⟩
          · simp [o1 k hk h]
          · exact absurd ht ((apart_looks h).1 t hdk).1
      · by_cases hki : k = i
        · subst hki; simp [hSi]
        · cases hd : (dstOf ops k == some t) with
          | false => simp
          | true =>
            have hdk : ops[k].dst = some t := by simpa [dstOf, Array.getElem?_eq_getElem hk2] using hd
            rcases susp_pair hs (show i < k by omega) hk2 with h | ⟨h, _⟩
            · simp [o2 k (by omega) hk2 h]
            · exact absurd ht ((apart_looks h).2 t hdk)
    rw [hl]
  · rw [e2]
    have hheap : heapy ops[i].op = true := by
      cases hh : heapy ops[i].op with
      | true => rfl
      | false => rw [hT.foot hh] at hid; cases hid
    simp only [HS, Bool.true_and]
    have hl : lastIn (fun k => S k && (wrOf md ops k && (Fs k).contains id)) ops.size = lastIn (fun k => wrOf md ops k && (Fs k).contains id) i := by
      rw [lastIn_cut (p := fun k => S k && (wrOf md ops k && (Fs k).contains id)) i ops.size (by omega) (fun k hk hk2 => ?_)]
      · refine lastIn_congr i fun k hk => ?_
        cases hd : (wrOf md ops k && (Fs k).contains id) with
        | false => simp
        | true =>
          have hks : k < ops.size := by omega
          simp only [Bool.and_eq_true, List.contains_iff_mem] at hd
          have hwk : writesM md ops[k] = true := by simpa [wrOf, Array.getElem?_eq_getElem hks] using hd.1
          rcases susp_pair hs hk hi with h | ⟨_, h | h⟩
          · simp [o1 k hk h]
          · simp [clashH, hheap, writesM_heapy hwk, hwk] at h
          · have hap := hr.apart k i hk (by simpa using hi)
            simp only [Nat.zero_add] at hap
            exact absurd hid (hap h id hd.2)
      · by_cases hki : k = i
        · subst hki; simp [hSi]
        · cases hd : (wrOf md ops k && (Fs k).contains id) with
          | false => simp
          | true =>
            simp only [Bool.and_eq_true, List.contains_iff_mem] at hd
            have hwk : writesM md ops[k] = true := by simpa [wrOf, Array.getElem?_eq_getElem hk2] using hd.1
            rcases susp_pair hs (show i < k by omega) hk2 with h | ⟨_, h | h⟩
            · simp [o2 k (by omega) hk2 h]
            · simp [clashH, hheap, writesM_heapy hwk, hwk] at h
            · have hap := hr.apart i k (by omega) (by simpa using hk2)
              simp only [Nat.zero_add] at hap
              exact absurd hd.2 (hap h id hid)
    rw [hl]
theorem after_env (hr : Run P md ops sp n0 es Hs vs Fs Ns 0 ops.toList) (hn : (Hs 0).next = n0 + ops.size) (hs : suspOK md ops sp = true) (hD : Down ops S) (hD' : Down ops (addS S i)) (hi : i < ops.size) (hSi : S i = false) :
    upd (eS ops (es 0) vs S ops.size) ops[i].dst (vs i) = eS ops (es 0) vs (addS S i) ops.size ∧
    overN (HS md ops n0 (Hs 0) Hs Fs Ns S ops.size) (Hs (i + 1)) (Fs i) (Ns i) = HS md ops n0 (Hs 0) Hs Fs Ns (addS S i) ops.size := by
  obtain ⟨o1, o2⟩ := order_facts hs hD hD' hi hSi
  obtain ⟨_, hT⟩ := hr.step i ops[i] (by rw [toList_get, Array.getElem?_eq_getElem hi])
  simp only [Nat.zero_add] at hT
  have hag := (ready_env hr hn hs hD hD' hi hSi).2
  have hio : ops[i]? = some ops[i] := Array.getElem?_eq_getElem hi
  refine ⟨?_, ?_⟩
  · funext t
    by_cases ht : ops[i].dst = some t
    · have hl : lastIn (fun k => addS S i k && (dstOf ops k == some t)) ops.size = some i := by
        refine lastIn_eq ops.size hi (by simp [addS, dstOf, hio, ht]) fun k hk hk2 => ?_
        cases hd : (dstOf ops k == some t) with
        | false => simp
        | true =>
          have hdk : ops[k].dst = some t := by simpa [dstOf, Array.getElem?_eq_getElem hk2] using hd
          rcases susp_pair hs hk hk2 with h | ⟨h, _⟩
          · have hki : (k == i) = false := by simp; omega
            simp [addS, hki, o2 k hk hk2 h]
          · exact absurd hdk ((apart_looks h).1 t ht).2
      simp only [eS, hl, upd, ht, if_true]
    · have hl : lastIn (fun k => addS S i k && (dstOf ops k == some t)) ops.size = lastIn (fun k => S k && (dstOf ops k == some t)) ops.size := by
        refine lastIn_congr _ fun k hk => ?_
        by_cases hki : k = i
        · subst hki
          have : (dstOf ops k == some t) = false := by simp [dstOf, hio]; exact ht
          simp [this]
        · have : (k == i) = false := by simpa using hki
          simp [addS, this]
      simp only [eS, hl]
      cases hdd : ops[i].dst with
      | none => rfl
      | some d =>
        have : ¬ t = d := fun h => ht (by rw [hdd, h])
        simp only [upd, this, if_false]
        rfl
  · simp only [overN, HS, AHeap.mk.injEq, true_and]
    refine ⟨funext fun id => propext ?_, funext fun id => ?_⟩
    · constructor
      · rintro ((h | ⟨k, hk, hSk, hm, h⟩) | ⟨hm, h⟩)
        · exact .inl h
        · exact .inr ⟨k, hk, by simp [addS, hSk], hm, h⟩
        · exact .inr ⟨i, hi, by simp [addS], hm, h⟩
      · rintro (h | ⟨k, hk, hSk, hm, h⟩)
        · exact .inl (.inl h)
        · by_cases hki : k = i
          · subst hki; exact .inr ⟨hm, h⟩
          · have : (k == i) = false := by simpa using hki
            exact .inl (.inr ⟨k, hk, by simpa [addS, this] using hSk, hm, h⟩)
    · by_cases hw : writesM md ops[i] = true
      · by_cases hid : id ∈ Fs i
        · rw [if_pos hid]
          have hl : lastIn (fun k => addS S i k && (wrOf md ops k && (Fs k).contains id)) ops.size = some i := by
            refine lastIn_eq ops.size hi (by simp [addS, wrOf, hio, hw, hid]) fun k hk hk2 => ?_
            cases hd : (wrOf md ops k && (Fs k).contains id) with
            | false => simp
            | true =>
              simp only [Bool.and_eq_true, List.contains_iff_mem] at hd
              have hwk : writesM md ops[k] = true := by simpa [wrOf, Array.getElem?_eq_getElem hk2] using hd.1
              rcases susp_pair hs hk hk2 with h | ⟨_, h | h⟩
              · have hki : (k == i) = false := by simp; omega
                simp [addS, hki, o2 k hk hk2 h]
              · simp [clashH, writesM_heapy hw, writesM_heapy hwk, hwk] at h
              · have hap := hr.apart i k hk (by simpa using hk2)
                simp only [Nat.zero_add] at hap
                exact absurd hd.2 (hap h id hid)
          rw [hl]
        · rw [if_neg hid]
          have hl : lastIn (fun k => addS S i k && (wrOf md ops k && (Fs k).contains id)) ops.size = lastIn (fun k => S k && (wrOf md ops k && (Fs k).contains id)) ops.size := by
            refine lastIn_congr _ fun k hk => ?_
            by_cases hki : k = i
            · subst hki; simp [hid]
            · have : (k == i) = false := by simpa using hki
              simp [addS, this]
          rw [hl]
      · have hl : lastIn (fun k => addS S i k && (wrOf md ops k && (Fs k).contains id)) ops.size = lastIn (fun k => S k && (wrOf md ops k && (Fs k).contains id)) ops.size := by
          refine lastIn_congr _ fun k hk => ?_
          by_cases hki : k = i
          · subst hki
            have : wrOf md ops k = false := by simp [wrOf, hio]; simpa using hw
            simp [this]
          · have : (k == i) = false := by simpa using hki
            simp [addS, this]
        rw [hl]
        by_cases hid : id ∈ Fs i
        · rw [if_pos hid, hT.still (by simpa using hw), ← hag id hid]
          rfl
        · rw [if_neg hid]
theorem run_grow (hr : Run P md ops sp n0 es Hs vs Fs Ns 0 ops.toList) {id : Nat} : ∀ (j k : Nat), k ≤ j → j ≤ ops.size → (Hs k).al id → (Hs j).al id
  | 0, k, hk, _, h => by rw [show (0 : Nat) = k by omega]; exact h
  | j + 1, k, hk, hj, h => by
    by_cases he : k = j + 1
    · rw [← he]; exact h
    · have ih := run_grow hr j k (by omega) (by omega) h
      obtain ⟨_, hT⟩ := hr.step j ops[j] (by rw [toList_get, Array.getElem?_eq_getElem (by omega)])
      simp only [Nat.zero_add] at hT
      rw [hT.self]
      exact .inl ih
theorem ready_new (hr : Run P md ops sp n0 es Hs vs Fs Ns 0 ops.toList) (hi : i < ops.size) (hSi : S i = false) : ∀ id ∈ Ns i, ¬ (HS md ops n0 (Hs 0) Hs Fs Ns S ops.size).al id := by
  intro id hid
  obtain ⟨_, hT⟩ := hr.step i ops[i] (by rw [toList_get, Array.getElem?_eq_getElem hi])
  simp only [Nat.zero_add] at hT
  obtain ⟨h1, h2⟩ := hT.new id hid
  simp only [HS]
  rintro (h | ⟨k, hk, hSk, hm, h⟩)
  · exact h1 (run_grow hr i 0 (by omega) (by omega) h)
  · obtain ⟨_, hTk⟩ := hr.step k ops[k] (by rw [toList_get, Array.getElem?_eq_getElem hk])
    simp only [Nat.zero_add] at hTk
    obtain ⟨k1, k2⟩ := hTk.new id hm
    have hne : k ≠ i := fun e => by subst e; rw [hSi] at hSk; cases hSk
    rcases Nat.lt_or_gt_of_ne hne with hlt | hgt
    · exact h1 (run_grow hr i (k + 1) (by omega) (by omega) h)
    · rcases h2 with h2 | ⟨h2, h3⟩
      · rcases k2 with k2 | ⟨k2, _⟩ <;> omega
      · exact k1 (run_grow hr k (i + 1) (by omega) (by omega) h3)
end
end Go.Abs
end
section
namespace Go.Abs
def Came (n : Nat) (M0 : Nat → Prop) (H0 : AHeap) (σ0 : Nat → Option Ow) (w0 : World) (K : (Nat → D) → AHeap → Prop) (a : Act) (w : World) : Prop :=
  ∃ e H σ, K e H ∧ St n M0 H σ w e a ∧ Stp σ0 w0 σ w ∧ Keeps (Mut M0 H0 σ0) σ0 H0.al w0 (Mut M0 H σ) σ H.al w
theorem Came.mono {n : Nat} {M0 : Nat → Prop} {H0 : AHeap} {σ0 : Nat → Option Ow} {w0 : World} {K K' : (Nat → D) → AHeap → Prop} {a : Act} {w : World} (h : Came n M0 H0 σ0 w0 K a w)
    (hk : ∀ e H, K e H → K' e H) : Came n M0 H0 σ0 w0 K' a w := let ⟨e, H, σ, a, b⟩ := h; ⟨e, H, σ, hk _ _ a, b⟩
theorem Came.trans {n : Nat} {M0 : Nat → Prop} {H0 H1 : AHeap} {σ0 σ1 : Nat → Option Ow} {w0 w1 : World} {K : (Nat → D) → AHeap → Prop} {a : Act} {w : World}
    (hs : Stp σ0 w0 σ1 w1) (hk : Keeps (Mut M0 H0 σ0) σ0 H0.al w0 (Mut M0 H1 σ1) σ1 H1.al w1) (h : Came n M0 H1 σ1 w1 K a w) : Came n M0 H0 σ0 w0 K a w :=
  let ⟨e, H, σ, a, b, c, d⟩ := h; ⟨e, H, σ, a, b, hs.trans c, hk.trans d⟩
section
variable {P : Program} {md : Nat → Bool} {n : Nat} {M0 : Nat → Prop}
theorem Rel.bump {H : AHeap} {σ : Nat → Option Ow} {w : World} (h : Rel M0 H σ w) {m : Nat} (hm : H.next ≤ m) : Rel M0 { H with next := m } σ w :=
  ⟨h.top, fun id hid => Nat.lt_of_lt_of_le (h.nxt id hid) hm, fun id k hk => h.lies id k hk, h.inj, h.lt, h.m0⟩
theorem StepC.mono {ops : Array Oper} {Q : Exit → Act → World → Prop} {o : Oper} {K K' : Act → World → Prop} {a : Act} {w : World} (h : ∀ a w, K a w → K' a w) (hh : StepC P ops Q o K a w) : StepC P ops Q o K' a w := by
  unfold StepC at *
  split
  · rename_i hw; rw [if_pos hw] at hh; exact hh.imp (Oper.wp_mono h) id
  · rename_i hw; rw [if_neg hw] at hh; exact h _ _ hh
def aOps (P : Program) (md : Nat → Bool) (ops : Array Oper) : List Oper → (Nat → D) → AHeap → ((Nat → D) → AHeap → Prop) → Prop
  | [], e, H, K => K e H
  | o :: rest, e, H, K => aStep P md none H.next ops e o H fun v H' _ => aOps P md ops rest (upd e o.dst v) H' K
theorem aOps_sound {ops : Array Oper} {Q : Exit → Act → World → Prop} : ∀ (l : List Oper) (e : Nat → D) (H : AHeap) (K : (Nat → D) → AHeap → Prop), aOps P md ops l e H K → (∀ o ∈ l, dstOK n o.dst = true) →
    ∀ (σ : Nat → Option Ow) (w : World) (a : Act), St n M0 H σ w e a → (∀ a' w', Came n M0 H σ w K a' w' → Q .normal a' w') → wpList P ops Q l a w
  | [], e, H, K, h, hd, σ, w, a, hS, hQ => wpList_nil (hQ a w ⟨e, H, σ, h, hS, .refl _ _, .refl _ _ _ _⟩)
  | o :: l, e, H, K, h, hd, σ, w, a, hS, hQ => by
    unfold aOps at h
    have hs := aStep_sound (Q := Q) h hS (fun hn => Nat.lt_irrefl _ (hS.rel.nxt _ hn)) (hd o (by simp))
    have := StepC.mono (K' := wpList P ops Q l) (fun a' w' ⟨v, H', F, σ', hk, hS', hst, hkp⟩ =>
      aOps_sound l _ _ _ hk (fun o' ho' => hd o' (by simp [ho'])) σ' w' a' hS' fun a'' w'' hc => hQ a'' w'' (hc.trans hst hkp)) hs
    unfold StepC at this
    unfold wpList
    exact this
theorem eS_same {ops : Array Oper} {e0 : Nat → D} {vs : Nat → D} {S T : Nat → Bool} {m : Nat} (h : ∀ k, k < m → S k = T k) : eS ops e0 vs S m = eS ops e0 vs T m := by
  funext t
  unfold eS
  rw [lastIn_congr (p := fun k => S k && (dstOf ops k == some t)) (q := fun k => T k && (dstOf ops k == some t)) m fun k hk => by rw [h k hk]]
theorem HS_same {ops : Array Oper} {n0 : Nat} {H0 : AHeap} {Hs : Nat → AHeap} {Fs Ns : Nat → List Nat} {S T : Nat → Bool} {m : Nat} (h : ∀ k, k < m → S k = T k) : HS md ops n0 H0 Hs Fs Ns S m = HS md ops n0 H0 Hs Fs Ns T m := by
  unfold HS
  congr 1
  · funext id
    refine propext ⟨fun h' => h'.imp (fun x => x) fun ⟨k, hk, a, b⟩ => ⟨k, hk, (h k hk) ▸ a, b⟩, fun h' => h'.imp (fun x => x) fun ⟨k, hk, a, b⟩ => ⟨k, hk, (h k hk).symm ▸ a, b⟩⟩
  · funext id
    rw [lastIn_congr (p := fun k => S k && (wrOf md ops k && (Fs k).contains id)) (q := fun k => T k && (wrOf md ops k && (Fs k).contains id)) m fun k hk => by rw [h k hk]]
def cnt (S : Nat → Bool) : Nat → Nat
  | 0 => 0
  | m + 1 => (if S m then 0 else 1) + cnt S m
theorem cnt_zero {S : Nat → Bool} : ∀ {m : Nat}, cnt S m = 0 → ∀ k, k < m → S k = true
  | 0, _, k, hk => by omega
  | m + 1, h, k, hk => by
    simp only [cnt] at h
    by_cases hk' : k = m
    · subst hk'; cases hS : S k <;> simp [hS] at h ⊢
    · exact cnt_zero (m := m) (by omega) k (by omega)
theorem cnt_same {S T : Nat → Bool} : ∀ {m : Nat}, (∀ k, k < m → S k = T k) → cnt S m = cnt T m
  | 0, _ => rfl
  | m + 1, h => by simp only [cnt, h m (by omega), cnt_same (m := m) fun k hk => h k (by omega)]
theorem cnt_add {S : Nat → Bool} {i : Nat} (hS : S i = false) : ∀ {m : Nat}, i < m → cnt (addS S i) m + 1 = cnt S m
  | 0, h => by omega
  | m + 1, h => by
    simp only [cnt]
    by_cases hi : i = m
    · subst hi
      have h1 : addS S i i = true := by simp [addS]
      have h2 : cnt (addS S i) i = cnt S i := cnt_same fun k hk => by
        have : (k == i) = false := by simp; omega
        simp [addS, this]
      rw [h1, hS, h2]; simp; omega
    · have h1 : addS S i m = S m := by
        have : (m == i) = false := by simp; omega
        simp [addS, this]
      have := cnt_add hS (m := m) (by omega)
      rw [h1]; omega
theorem draw_sound {ops : Array Oper} {sp : List (Nat × Nat)} {id : Nat} {e : Nat → D} {H : AHeap} {σ : Nat → Option Ow} {w : World} {a : Act} {K : (Nat → D) → AHeap → Prop} {Q : Exit → Act → World → Prop}
    (hm : P.follows .mixedOrders = true) (hs : suspOK md ops sp = true) (hd : ∀ o ∈ ops.toList, dstOK n o.dst = true)
    (h : aDraw P md ops sp H.next 0 ops.toList [] e { H with next := H.next + ops.size } K) (hS : St n M0 H σ w e a) (hQ : ∀ a' w', Came n M0 H σ w K a' w' → Q .normal a' w') :
    (Code.region id ops true).wp P Q a w := by
  refine wp_region_any hm ?_
  obtain ⟨hR1, hst1, hk1⟩ := hS.rel.drew
  have hRb := hR1.bump (m := H.next + ops.size) (by omega)
  have hSb : St n M0 { H with next := H.next + ops.size } σ w.drew e a := ⟨hRb, fun t => (hS.env t).keep hk1, hS.defers, hS.size⟩
  obtain ⟨es, Hs, vs, Fs, Ns, he, hH, hK, hrun, _⟩ := aDraw_run (nn := H.next + ops.size) ops.toList 0 [] e _ K h (fun i hi => hS.rel.nxt i hi) rfl (by simp)
  simp only [Nat.zero_add, Array.length_toList] at hK
  have hn : (Hs 0).next = H.next + ops.size := by rw [hH]
  have key : ∀ (fuel : Nat) (listed : Array Bool) (a' : Act) (w' : World), listed.size = ops.size → cnt (fun k => listed.getD k false) ops.size ≤ fuel → Down ops (fun k => listed.getD k false) →
      (∃ σ', St n M0 (HS md ops H.next (Hs 0) Hs Fs Ns (fun k => listed.getD k false) ops.size) σ' w' (eS ops (es 0) vs (fun k => listed.getD k false) ops.size) a' ∧ Stp σ w σ' w' ∧
        Keeps (Mut M0 H σ) σ H.al w (Mut M0 (HS md ops H.next (Hs 0) Hs Fs Ns (fun k => listed.getD k false) ops.size) σ') σ' (HS md ops H.next (Hs 0) Hs Fs Ns (fun k => listed.getD k false) ops.size).al w') →
      wpAny P .any ops Q fuel listed a' w' := by
    intro fuel
    induction fuel with
    | zero =>
      intro listed a' w' hl hc hD ⟨σ', hS', hst', hk'⟩
      have hall := cnt_zero (S := fun k => listed.getD k false) (m := ops.size) (by omega)
      refine ⟨?_, ?_⟩
      · unfold Region.ready
        rw [List.filter_eq_nil_iff]
        intro i hi
        have hi' : i < ops.size := by simpa using hi
        have hg : listed.getD i true = true := by
          have := hall i hi'
          simp only [Array.getD_eq_getD_getElem?] at this ⊢
          rw [Array.getElem?_eq_getElem (by omega)] at this ⊢
          simpa using this
        simp [hg]
      · refine hQ a' w' ⟨es ops.size, Hs ops.size, σ', hK, ?_, hst', ?_⟩
        · obtain ⟨r1, r2⟩ := run_states hrun hn ops.size (Nat.le_refl _)
          rw [r1, r2, eS_same (T := fun k => listed.getD k false) fun k hk => (hall k hk).symm, HS_same (T := fun k => listed.getD k false) fun k hk => (hall k hk).symm]
          exact hS'
        · obtain ⟨r1, r2⟩ := run_states hrun hn ops.size (Nat.le_refl _)
          rw [r2, HS_same (T := fun k => listed.getD k false) fun k hk => (hall k hk).symm]
          exact hk'
    | succ fuel ih =>
      intro listed a' w' hl hc hD ⟨σ', hS', hst', hk'⟩
      have hready : ∀ i, i ∈ Region.ready .any ops listed → i < ops.size ∧ listed.getD i false = false ∧ ∀ o, ops[i]? = some o → ∀ ed ∈ o.after.toList, Region.binds .any ed = true → listed.getD ed.on false = true := by
        intro i hi
        unfold Region.ready at hi
        simp only [List.mem_filter, List.mem_range, Bool.and_eq_true, Bool.not_eq_true'] at hi
        obtain ⟨h1, h2, h3⟩ := hi
        refine ⟨h1, ?_, fun o ho ed hed hb => ?_⟩
        · simp only [Array.getD_eq_getD_getElem?] at h2 ⊢
          rw [Array.getElem?_eq_getElem (by omega)] at h2 ⊢
          simpa using h2
        · rw [ho] at h3
          simp only [Option.map_some, Option.getD_some, Array.all_eq_true_iff_forall_mem] at h3
          have := h3 ed (by simpa using hed)
          rw [hb] at this
          simpa using this
      refine ⟨fun hnil => ?_, fun i hi => ?_⟩
      · -- nothing is ready: all is done
        have hall : ∀ k, k < ops.size → listed.getD k false = true := by
          intro k
          induction k using Nat.strongRecOn with
          | _ k ihk =>
            intro hk
            cases hlk : listed.getD k false with
            | true => rfl
            | false =>
              exfalso
              have hmem : k ∈ Region.ready .any ops listed := by
                unfold Region.ready
                simp only [List.mem_filter, List.mem_range, Bool.and_eq_true, Bool.not_eq_true']
                refine ⟨hk, ?_, ?_⟩
                · simp only [Array.getD_eq_getD_getElem?] at hlk ⊢
                  rw [Array.getElem?_eq_getElem (by omega)] at hlk ⊢
                  simpa using hlk
                · have ho : ops[k]? = some ops[k] := Array.getElem?_eq_getElem hk
                  rw [ho]
                  simp only [Option.map_some, Option.getD_some, Array.all_eq_true_iff_forall_mem]
                  intro ed hed
                  cases hb : Region.binds .any ed with
                  | false => simp
                  | true =>
                    have hlt := susp_edge hs ho ed (by simpa using hed) hb
                    simp [ihk ed.on hlt (by omega)]
              rw [hnil] at hmem; cases hmem
        have := (ih listed a' w' hl (by
          have : cnt (fun k => listed.getD k false) ops.size = cnt (fun _ => true) ops.size := cnt_same hall
          have h0 : ∀ m, cnt (fun _ => true) m = 0 := fun m => by induction m with
            | zero => rfl
            | succ m ih => simp [cnt, ih]
          rw [this, h0]; omega) hD ⟨σ', hS', hst', hk'⟩)
        cases fuel with
        | zero => exact this.2
        | succ f => exact this.1 hnil
      · obtain ⟨hi1, hi2, hi3⟩ := hready i hi
        have ho : ops[i]? = some ops[i] := Array.getElem?_eq_getElem hi1
        have hD' : Down ops (addS (fun k => listed.getD k false) i) := by
          intro j o hj hSj ed hed hb
          simp only [addS, Bool.or_eq_true, beq_iff_eq] at hSj
          simp only [addS, Bool.or_eq_true]
          rcases hSj with rfl | hSj
          · exact .inr (hi3 o hj ed hed hb)
          · exact .inr (hD j o hj hSj ed hed hb)
        have hset : (fun k => (listed.setIfInBounds i true).getD k false) = addS (fun k => listed.getD k false) i := by
          funext k
          simp only [addS, Array.getD_eq_getD_getElem?, Array.getElem?_setIfInBounds]
          by_cases hki : k = i
          · subst hki; simp [hl, hi1]
          · have : ¬ i = k := fun h => hki h.symm
            have h2 : (k == i) = false := by simpa using hki
            simp [this, h2]
        obtain ⟨henv, hag⟩ := ready_env hrun hn hs hD hD' hi1 hi2
        obtain ⟨ha1, ha2⟩ := after_env hrun hn hs hD hD' hi1 hi2
        obtain ⟨_, hT⟩ := hrun.step i ops[i] (by rw [toList_get, ho])
        simp only [Nat.zero_add] at hT
        have hnewi := ready_new hrun (S := fun k => listed.getD k false) hi1 hi2
        have hNlt : ∀ id ∈ Ns i, id < H.next + ops.size := fun id hid => by rcases (hT.new id hid).2 with h | ⟨h, _⟩ <;> omega
        have hnal : ¬ (HS md ops H.next (Hs 0) Hs Fs Ns (fun k => listed.getD k false) ops.size).al (H.next + i) := by
          simp only [HS]
          rintro (h | ⟨k, hk, hSk, hkk, _⟩)
          · rw [hH] at h
            have := hS.rel.nxt _ h; omega
          · obtain ⟨_, hTk⟩ := hrun.step k ops[k] (by rw [toList_get, Array.getElem?_eq_getElem hk])
            simp only [Nat.zero_add] at hTk
            have : k = i := by rcases (hTk.new _ hkk).2 with h | ⟨h, _⟩ <;> omega
            subst this
            rw [hi2] at hSk; cases hSk
        have hstep := hT.any _ _ henv hag (by simp only [HS]; omega) hnal (fun id hid => ⟨by simp only [HS]; exact hNlt id hid, hnewi id hid⟩)
        have hc := aStep_sound (Q := Q) hstep hS' hnal (hd ops[i] (by simp)) (fun m hm => by cases hm; simp only [HS]; omega)
        have hgoal : StepC P ops Q ops[i] (wpAny P .any ops Q fuel (listed.setIfInBounds i true)) a' w' := by
          refine StepC.mono (fun a'' w'' ⟨v, H', F, σ'', ⟨hv, hH'⟩, hS'', hst'', hk''⟩ => ?_) hc
          subst hv; subst hH'
          refine ih _ a'' w'' (by simpa using hl) ?_ (by rw [hset]; exact hD') ⟨σ'', ?_, hst'.trans hst'', ?_⟩
          · rw [hset]
            have := cnt_add (S := fun k => listed.getD k false) hi2 hi1
            omega
          · rw [hset, ← ha1, ← ha2]; exact hS''
          · rw [hset, ← ha2]; exact hk'.trans hk''
        unfold wpOp
        rw [ho]
        exact hgoal
  refine key ops.size _ a _ (by simp) ?_ ?_ ⟨σ, ?_, hst1, ?_⟩
  · have : ∀ S : Nat → Bool, ∀ m, cnt S m ≤ m := fun S m => by
      induction m with
      | zero => simp [cnt]
      | succ m ih => simp only [cnt]; split <;> omega
    exact this _ _
  · intro j o ho hSj
    exfalso
    have hj : j < ops.size := (Array.getElem?_eq_some_iff.1 ho).1
    simp [hj] at hSj
  · have hS0 : (fun k => (Array.replicate ops.size false).getD k false) = fun _ => false := by
      funext k
      by_cases hk : k < ops.size <;> simp [hk]
    have hl0 : ∀ (p : Nat → Bool) m, lastIn (fun k => false && p k) m = none := fun p m => by
      induction m with
      | zero => rfl
      | succ m ih => simp only [lastIn, Bool.false_and, Bool.false_eq_true, if_false]; exact ih
    have e1 : eS ops (es 0) vs (fun k => (Array.replicate ops.size false).getD k false) ops.size = e := by
      rw [hS0]; funext t; simp only [eS, hl0 (fun k => dstOf ops k == some t)]; rw [he]
    have e2 : HS md ops H.next (Hs 0) Hs Fs Ns (fun k => (Array.replicate ops.size false).getD k false) ops.size = { H with next := H.next + ops.size } := by
      rw [hS0]
      simp only [HS, AHeap.mk.injEq, true_and]
      refine ⟨funext fun id => propext ⟨fun h => h.elim (fun h => by rw [hH] at h; exact h) fun ⟨_, _, h, _⟩ => (by cases h), fun h => .inl (by rw [hH]; exact h)⟩, funext fun id => ?_⟩
      rw [hl0 (fun k => wrOf md ops k && (Fs k).contains id), hH]
    rw [e1, e2]; exact hSb
  · have hS0 : (fun k => (Array.replicate ops.size false).getD k false) = fun _ => false := by
      funext k
      by_cases hk : k < ops.size <;> simp [hk]
    have hl0 : ∀ (p : Nat → Bool) m, lastIn (fun k => false && p k) m = none := fun p m => by
      induction m with
      | zero => rfl
      | succ m ih => simp only [lastIn, Bool.false_and, Bool.false_eq_true, if_false]; exact ih
    have e2 : HS md ops H.next (Hs 0) Hs Fs Ns (fun k => (Array.replicate ops.size false).getD k false) ops.size = { H with next := H.next + ops.size } := by
      rw [hS0]
      simp only [HS, AHeap.mk.injEq, true_and]
      refine ⟨funext fun id => propext ⟨fun h => h.elim (fun h => by rw [hH] at h; exact h) fun ⟨_, _, h, _⟩ => (by cases h), fun h => .inl (by rw [hH]; exact h)⟩, funext fun id => ?_⟩
      rw [hl0 (fun k => wrOf md ops k && (Fs k).contains id), hH]
    rw [e2]; exact hk1
end
end Go.Abs
end
