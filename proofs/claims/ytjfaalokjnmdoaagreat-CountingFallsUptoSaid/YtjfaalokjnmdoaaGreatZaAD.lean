/- The abstraction layer, part N: an operation looks at no more -/
import Derived.Test.YtjfaalokjnmdoaaGreatZaAC
set_option linter.unusedVariables false
set_option linter.unusedSimpArgs false
section
namespace Go.Abs
def AOut.on (r:AOut)(H:AHeap):AOut:=⟨r.cond,r.fact,r.val,H⟩
def jG (H' H1:AHeap)(F:List Nat)(nid:Nat):AHeap:=⟨H'.next,fun i=>H'.al i∨(i=nid∧H1.al nid),fun i=>if i∈F then H1.get i else H'.get i⟩
section
variable {P:Program} {H H':AHeap} {F:List Nat} {nid:Nat}
theorem gG (hF:fC F H' H)(hn:¬ H.al nid):jG H' H F nid=H':=by
 obtain ⟨n,al,g⟩:=H'
 simp only [jG,AHeap.mk.injEq,true_and]
 refine ⟨?_,?_⟩
 ·funext i;exact propext ⟨fun h=>h.elim id fun h=>absurd h.2 hn,.inl⟩
 ·funext i
  by_cases hi:i∈F
  ·rw [if_pos hi];exact (hF i hi).symm
  ·rw [if_neg hi]
theorem k7 (hF:fC F H' H)(hlt:nid<H'.next)(hnF:nid∈F)(b:Blk):H'.push nid b=jG H' (H.push nid b) F nid:=by
 obtain ⟨n,al,g⟩:=H'
 have hlt':nid<n:=hlt
 simp only [AHeap.push,jG,AHeap.mk.injEq,hlt',if_true,true_and]
 refine ⟨?_,?_⟩
 ·funext i;exact propext ⟨fun h=>h.elim (fun e=>.inr ⟨e,.inl trivial⟩) .inl,fun h=>h.elim .inr fun h=>.inl h.1⟩
 ·funext i
  by_cases hi:i∈F
  ·rw [if_pos hi]
   by_cases he:i=nid
   ·rw [if_pos he,if_pos he]
   ·rw [if_neg he,if_neg he];exact hF i hi
  ·have he:i≠nid:=fun e=>hi (e ▸ hnF)
   rw [if_neg hi,if_neg he]
theorem rW (hF:fC F H' H)(hn:¬ H.al nid){id:Nat}(hid:id∈F)(b:Blk):H'.put id b=jG H' (H.put id b) F nid:=by
 obtain ⟨n,al,g⟩:=H'
 simp only [AHeap.put,jG,AHeap.mk.injEq,true_and]
 refine ⟨?_,?_⟩
 ·funext i;exact propext ⟨.inl,fun h=>h.elim (fun h=>h) fun h=>absurd h.2 hn⟩
 ·funext i
  by_cases hi:i∈F
  ·rw [if_pos hi]
   by_cases he:i=id
   ·rw [if_pos he,if_pos he]
   ·rw [if_neg he,if_neg he];exact hF i hi
  ·have he:i≠id:=fun e=>hi (e ▸ hid)
   rw [if_neg hi,if_neg he]
theorem Qi (hF:fC F H' H)(id:Nat)(b:Blk):fC F (H'.put id b) (H.put id b):=by
 intro i hi
 simp only [AHeap.put]
 by_cases he:i=id
 ·rw [if_pos he,if_pos he]
 ·rw [if_neg he,if_neg he];exact hF i hi
theorem On (H:AHeap)(id:Nat):(H.frz id).al=H.al∧(H.frz id).next=H.next:=by unfold AHeap.frz;cases H.get id<;>exact ⟨rfl,rfl⟩
theorem u4 (ids:List Nat):∀ H:AHeap,(eW ids H).al=H.al∧(eW ids H).next=H.next:=by
 induction ids with
 | nil=>intro H;exact ⟨rfl,rfl⟩
 | cons i l ih=>intro H;exact ⟨(ih _).1.trans (On H i).1,(ih _).2.trans (On H i).2⟩
theorem II (H:AHeap)(id i:Nat)(h:i≠id):(H.frz id).get i=H.get i:=by
 unfold AHeap.frz
 cases H.get id with
 | none=>rfl
 | some k=>simp [AHeap.put,h]
theorem Ai (ids:List Nat):∀ (H:AHeap) (i:Nat),i∉ids→(eW ids H).get i=H.get i:=by
 induction ids with
 | nil=>intro H i _;rfl
 | cons a l ih =>
  intro H i hi
  simp only [eW]
  rw [ih _ i (fun h=>hi (by simp [h])),II H a i (fun e=>hi (by simp [e]))]
theorem FQ (ids:List Nat)(hs:∀ i∈ids,i∈F):∀ {H H':AHeap},fC F H' H→fC F (eW ids H') (eW ids H):=by
 induction ids with
 | nil=>intro H H' h;exact h
 | cons a l ih =>
  intro H H' h
  simp only [eW]
  refine ih (fun i hi=>hs i (by simp [hi])) ?_
  have ha:=h a (hs a (by simp))
  unfold AHeap.frz
  rw [ha]
  cases H.get a with
  | none=>exact h
  | some k=>exact Qi h a _
theorem AY (ids:List Nat)(hs:∀ i∈ids,i∈F)(H1:AHeap):jG (eW ids H') H1 F nid=jG H' H1 F nid:=by
 simp only [jG,AHeap.mk.injEq]
 refine ⟨(u4 ids H').2,by rw [(u4 ids H').1],?_⟩
 funext i
 by_cases hi:i∈F
 ·rw [if_pos hi,if_pos hi]
 ·rw [if_neg hi,if_neg hi,Ai ids H' i (fun h=>hi (hs i h))]
theorem Ph (d:D):∀ i∈dO d,i∈dW d:=by
 cases d<;>intro i hi<;>first|exact hi|(simp [dO,iW] at hi;done)|(simp only [dO,iW,dW] at hi ⊢;exact hi)
theorem EF {d:D}(h:fC (iW d) H' H):gQ H' d=gQ H d:=by
 cases d<;>try rfl
 ·rename_i id n
  simp only [gQ,h id (by simp [iW])]
 ·rename_i id n lo hi
  simp only [gQ,h id (by simp [iW])]
theorem EE {d:D}(h:fC (dO d) H' H):gX H' d=gX H d:=by
 cases d with
 | agg cs =>
  simp only [gX]
  congr 1
  exact bR fun x hx=>EF fun i hi=>h i (bU.2 ⟨x,hx,hi⟩)
 | _ =>
  have h':=h
  simp only [dO] at h'
  simp only [gX]
  exact EF h'
theorem Hq {x:D}(h:fC (dW x) H' H):eD H' x=eD H x:=by
 cases x<;>try rfl
 rename_i id ver i off
 simp only [eD,h id (by simp [dW])]
theorem MZ {t:TypeId}{x:D}(h:fC (dW x) H' H):lS P t x H'=(lS P t x H).on H':=by
 unfold lS
 rw [Hq h]
 cases eD H x with
 | none=>rfl
 | some cs=>cases tk P t<;>rfl
theorem zP {x:D}{n:Nat}(h:fC (dW x) H' H):eC x n H'=(eC x n H).on H':=by
 cases x<;>try rfl
 rename_i id ver i off
 simp only [eC,h id (by simp [dW])]
 cases H.get id<;>rfl
theorem BB {x:D}{n:Nat}:(eC x n H).heap=H:=by
 unfold eC
 split
 ·rfl
 ·split<;>rfl
 ·rfl
theorem vR {t:TypeId}{x:D}{f:Nat}:(f9 P t x f H).heap=H:=by
 unfold f9
 split
 ·split
  ·exact BB
  ·rfl
 ·rfl
theorem vQ {t:TypeId}{x i:D}:(f8 P t x i H).heap=H:=by
 unfold f8
 split
 ·split
  ·split<;>rfl
  ·split<;>rfl
  ·split
   ·exact BB
   ·rfl
 ·rfl
theorem D0 {x:D}(h:fC (dW x) H' H):iB x H'=(iB x H).on H':=by
 cases x<;>try rfl
 rename_i id ver i off
 simp only [iB,h id (by simp [dW])]
 cases H.get id<;>rfl
theorem CR {t : TypeId} {x : D} {f : Nat} (h : fC (dW x) H' H) : f9 P t x f H' = (f9 P t x f H).on H' := by
  unfold f9
  cases bk P t with
  | none => rfl
  | some b => cases b with
    | ar sz => rfl
    | st l =>
      simp only
      cases l[f]? with
      | none => rfl
      | some q => simp only [zP h]; rfl
theorem CQ {t:TypeId}{x i:D}(h:fC (dW x) H' H):f8 P t x i H'=(f8 P t x i H).on H':=by
 cases i<;>try rfl
 rename_i k n
 unfold f8
 cases x<;>simp only<;>first
  | (cases sl P t<;>rfl)
  | (simp only [zP h];cases OU P t<;>rfl)
  | skip
 rename_i id m
 simp only [h id (by simp [dW])]
 cases sl P t<;>cases H.get id<;>rfl
theorem Kn {t:TypeId}{x:D}{lo hi:Option D}(h:fC (dW x) H' H):n4 P t x lo hi H'=(n4 P t x lo hi H).on H':=by
 unfold n4
 cases x<;>try rfl
 ·simp only;split<;>rfl
 ·simp only;split<;>rfl
 ·rename_i id n
  simp only [h id (by simp [dW])]
  split<;>rfl
theorem Dz {t:TypeId}{x:D}{lo hi:Option D}:(n4 P t x lo hi H).heap=H:=by
 unfold n4
 split
 ·split<;>rfl
 ·split<;>rfl
 ·split<;>rfl
 ·rfl
theorem OY {t:TypeId}{x:D}(h:fC (dW x) H' H):D1 P t x H'=(D1 P t x H).on H':=by
 unfold D1
 cases P.underlying t with
 | none=>rfl
 | some de =>
  cases de<;>try rfl
  ·cases x<;>rfl
  ·cases x<;>try rfl
   rename_i id n
   simp only [h id (by simp [dW])]
   cases H.get id<;>rfl
theorem Hk {x:D}(h:fC (dW x) H' H):m4 H' x=m4 H x:=by
 cases x<;>try rfl
 rename_i id n
 simp only [m4,h id (by simp [dW])]
structure Loc (r r':AOut) (H':AHeap) (F:List Nat) (nid:Nat):Prop where
 cond:r.cond→r'.cond
 fact:r'.fact=r.fact
 val:r'.val=r.val
 heap:r'.heap=jG H' r.heap F nid
theorem Loc.on {r r':AOut}(h:r'=r.on H')(hh:r.heap=H)(hF:fC F H' H)(hn:¬ H.al nid):Loc r r' H' F nid:=by
 subst h
 exact ⟨fun h=>h,rfl,rfl,by rw [hh,gG hF hn];rfl⟩
theorem Loc.bad (hF:fC F H' H)(hn:¬ H.al nid):Loc (AOut.bad H) (AOut.bad H') H' F nid:=⟨fun h=>h,rfl,rfl,(gG hF hn).symm⟩
theorem BD {t : TypeId} {x v : D} (hF : fC F H' H) (hx : ∀ i ∈ dW x, i ∈ F) (hn : ¬ H.al nid) : Loc (kC P t x v H) (kC P t x v H') H' F nid := by
  unfold kC
  cases x <;> try (exact Loc.bad hF hn)
  rename_i id ver i off
  have hid : id ∈ F := hx id (by simp [dW])
  simp only
  rw [hF id hid]
  cases hk : H.get id with
  | none => (simp only [hk]; exact Loc.bad hF hn)
  | some k =>
    simp only [hk]
    cases hi : k.es[i]? with
    | none => (simp only [hi]; exact Loc.bad hF hn)
    | some c =>
      simp only [hi]
      exact ⟨fun h => h, rfl, rfl, rW hF hn hid _⟩
theorem Ko {t : TypeId} {x : D} (hF : fC F H' H) (hx : ∀ i ∈ dW x, i ∈ F) (hn : ¬ H.al nid) : Loc (s7 P t x H) (s7 P t x H') H' F nid := by
  unfold s7
  cases x <;> try (exact Loc.bad hF hn)
  rename_i id ver lo hi
  have hid : id ∈ F := hx id (by simp [dW])
  simp only
  rw [hF id hid]
  cases hs : sl P t with
  | none => (simp only [hs]; exact Loc.bad hF hn)
  | some s =>
    cases hk : H.get id with
    | none => (simp only [hs, hk]; exact Loc.bad hF hn)
    | some k =>
      simp only [hs, hk]
      exact ⟨fun h => h, rfl, rfl, rW hF hn hid _⟩
theorem HA {t t' : TypeId} {x y : D} (hF : fC F H' H) (hx : ∀ i ∈ dW x, i ∈ F) (hy : ∀ i ∈ dW y, i ∈ F) (hn : ¬ H.al nid) (hlt : nid < H'.next) (hnF : nid ∈ F) :
    Loc (jB P nid t t' x y H) (jB P nid t t' x y H') H' F nid := by
  unfold jB
  rw [Hk (H := H) (H' := H') fun i hi => hF i (hy i hi)]
  cases hs : sl P t with
  | none => (simp only [hs]; exact Loc.bad hF hn)
  | some s =>
    cases he : m4 H y with
    | none =>
      simp only [hs, he]
      unfold nD
      cases y <;> try (exact Loc.bad hF hn)
      cases x <;> try (exact Loc.bad hF hn)
      rename_i id n
      cases hk' : Ac P t' with
      | none => (simp only [hk']; exact Loc.bad hF hn)
      | some kn =>
        simp only [hk']
        have hid : id ∈ F := hx id (by simp [dW])
        rw [hF id hid]
        cases hk : H.get id with
        | none => (simp only [hk]; exact Loc.bad hF hn)
        | some k =>
          simp only [hk]
          exact ⟨fun h => h, rfl, rfl, rW hF hn hid _⟩
    | some ys =>
      simp only [hs, he]
      cases x <;> try (exact Loc.bad hF hn)
      · exact ⟨fun h => h, rfl, rfl, k7 hF hlt hnF _⟩
      · rename_i id n
        have hid : id ∈ F := hx id (by simp [dW])
        simp only
        rw [hF id hid]
        cases hk : H.get id with
        | none => (simp only [hk]; exact Loc.bad hF hn)
        | some k =>
          simp only [hk]
          exact ⟨fun h => h, rfl, rfl, rW hF hn hid _⟩
theorem CN {md : Nat → Bool} {e : Nat → D} {o : Oper} (hF : fC (foot nid e o.op) H' H) (hn : ¬ H.al nid) (hlt : nid < H'.next) :
    Loc (DZ P nid md e o H) (DZ P nid md e o H') H' (foot nid e o.op) nid := by
  obtain ⟨dst, op, type, pos, after, guard⟩ := o
  have hopd : oS op = true → ∀ x ∈ op.operands, ∀ i ∈ dW (eX e x), i ∈ foot nid e op := fun hh x hx i hi => by
    simp only [foot, hh, if_true, bD, bU]
    exact .inr ⟨x, by simpa using hx, hi⟩
  have hmk : Fj op = true → nid ∈ foot nid e op := fun h => by simp [foot, h]
  simp only at hF
  have sub : oS op = true → ∀ x ∈ op.operands, fC (dW (eX e x)) H' H := fun hh x hx i hi => hF i (hopd hh x hx i hi)
  unfold DZ
  simp only
  have nilcase : ∀ x : Operand, Fj op = iG x →
      Loc (if iG x then CP P nid (Df md dst) type H else ⟨True, True, eX e x, H⟩) (if iG x then CP P nid (Df md dst) type H' else ⟨True, True, eX e x, H'⟩) H' (foot nid e op) nid := by
    intro x hm
    by_cases hx : iG x = true
    · rw [if_pos hx]
      rw [if_pos hx]
      unfold CP
      generalize Df md dst = m
      cases m with
      | false => exact ⟨fun h => h, rfl, rfl, (gG hF hn).symm⟩
      | true =>
        simp only [if_true]
        cases hs : sl P type with
        | none => (simp only [hs]; exact Loc.bad hF hn)
        | some s => exact ⟨fun h => h, rfl, rfl, k7 hF hlt (hmk (hm.trans hx)) _⟩
    · rw [if_neg hx]
      rw [if_neg hx]
      exact ⟨fun h => h, rfl, rfl, (gG hF hn).symm⟩
  cases op <;> try (exact Loc.bad hF hn)
  case move x => exact nilcase x rfl
  case assign x => exact nilcase x rfl
  case pick c a b =>
    refine Loc.on ?_ ?_ hF hn
    · simp only [xZ]; split <;> first | rfl | (simp only [s6]; split <;> rfl)
    · simp only [xZ]; split <;> first | rfl | (simp only [s6]; split <;> rfl)
  case alloc t =>
    simp only [vF]
    cases hz : zd P t with
    | none => (simp only [hz]; exact Loc.bad hF hn)
    | some z =>
      simp only [hz]
      generalize Df md dst = m
      cases m with
      | false => exact ⟨fun h => h, rfl, rfl, (gG hF hn).symm⟩
      | true => exact ⟨fun h => h, rfl, rfl, k7 hF hlt (hmk rfl) _⟩
  case box t x =>
    simp only [Kp]
    generalize Df md dst = m
    cases m with
    | false => exact ⟨fun h => h, rfl, rfl, (gG hF hn).symm⟩
    | true => exact ⟨fun h => h, rfl, rfl, k7 hF hlt (hmk rfl) _⟩
  case build t ps =>
    refine Loc.on ?_ ?_ hF hn
    · simp only [rC]; split
      · split <;> rfl
      · rfl
    · simp only [rC]; split
      · split <;> rfl
      · rfl
  case buildSlice t m ps =>
    have hids : ∀ i ∈ (ps.toList.flatMap fun p => Kg md (eX e p.2)), i ∈ foot nid e (.buildSlice t m ps) := fun i hi => by
      obtain ⟨p, hp, hi⟩ := bU.1 hi
      refine hopd rfl p.2 ?_ i (Ph _ i (TF hi))
      simp only [Op.operands]
      simpa using ⟨p.1, by simpa using hp⟩
    have hmap : (ps.toList.map fun p => (p.1, PF md H' (eX e p.2))) = ps.toList.map fun p => (p.1, PF md H (eX e p.2)) := bR fun p hp => by
      congr 1; unfold PF; split
      · rfl
      · rename_i hb; exact EE fun i hi => hF i (hids i (bU.2 ⟨p, hp, by unfold Kg; rw [if_neg hb]; exact hi⟩))
    simp only
    rw [hmap]
    have hA := FQ _ hids hF
    have hov : ∀ H1 : AHeap, jG (eW (ps.toList.flatMap fun p => Kg md (eX e p.2)) H') H1 (foot nid e (.buildSlice t m ps)) nid = jG H' H1 (foot nid e (.buildSlice t m ps)) nid := fun H1 => AY _ hids H1
    have hbad : Loc (AOut.bad (eW (ps.toList.flatMap fun p => Kg md (eX e p.2)) H)) (AOut.bad (eW (ps.toList.flatMap fun p => Kg md (eX e p.2)) H')) H' (foot nid e (.buildSlice t m ps)) nid :=
      ⟨fun h => h, rfl, rfl, by
        show eW _ H' = jG H' (eW _ H) _ nid
        rw [← hov, gG hA (by rw [(u4 _ H).1]; exact hn)]⟩
    simp only [gL]
    cases hs : sl P t with
    | none => (simp only [hs]; exact hbad)
    | some s =>
      simp only [hs]
      cases hfl : zJ (fun i => some (i * s.sz, s.sz)) (List.replicate m s.z).flatten (ps.toList.map fun p => (p.1, PF md H (eX e p.2))) with
      | none => (simp only [hfl]; exact hbad)
      | some cs =>
        simp only [hfl]
        generalize Df md dst = m'
        cases m' with
        | false =>
          refine ⟨fun h => h, rfl, rfl, ?_⟩
          simp only [eM, if_false]
          rw [← hov, gG hA (by rw [(u4 _ H).1]; exact hn)]
        | true =>
          refine ⟨fun h => h, rfl, rfl, ?_⟩
          simp only [if_true]
          rw [← hov]
          exact k7 hA (by rw [(u4 _ H').2]; exact hlt) (hmk rfl) _
  case load t a => exact Loc.on (MZ (sub rfl a (by simp [Op.operands]))) (by simp only [lS]; split <;> (try split) <;> rfl) hF hn
  case store t a v =>
    have ha := hopd rfl a (by simp [Op.operands])
    have hv := hopd rfl v (by simp [Op.operands])
    simp only
    by_cases hm : md 1000000 = true
    · rw [if_pos hm]
      rw [if_pos hm]
      have hids : ∀ i ∈ dO (eX e v), i ∈ foot nid e (.store t a v) := fun i hi => hv i (Ph _ i hi)
      rw [EE (H := H) (H' := H') fun i hi => hF i (hids i hi)]
      have hl := BD (P := P) (t := t) (v := gX H (eX e v)) (nid := nid) (FQ _ hids hF) ha (by rw [(u4 _ H).1]; exact hn)
      exact ⟨hl.cond, hl.fact, hl.val, by rw [hl.heap, AY _ hids]⟩
    · rw [if_neg hm]
      rw [if_neg hm]
      exact BD hF ha hn
  case nilCheck x => exact Loc.on (D0 (sub rfl x (by simp [Op.operands]))) (by simp only [iB]; split <;> (try split) <;> rfl) hF hn
  case binOp op t x y t' =>
    refine Loc.on ?_ ?_ hF hn
    · simp only [Nb]; split <;> first | rfl | (split <;> rfl) | (simp only [Hz]; split <;> rfl)
    · simp only [Nb]; split <;> first | rfl | (split <;> rfl) | (simp only [Hz]; split <;> rfl)
  case unOp op t x =>
    refine Loc.on ?_ ?_ hF hn
    · simp only [SI]; split <;> rfl
    · simp only [SI]; split <;> rfl
  case convert s d x =>
    refine Loc.on ?_ ?_ hF hn
    · simp only [kX]; split <;> (try split) <;> rfl
    · simp only [kX]; split <;> (try split) <;> rfl
  case makeFunc fn first caps =>
    cases fn <;> try (exact Loc.bad hF hn)
    simp only
    by_cases hf : first.isEmpty = true
    · rw [if_pos hf]
      rw [if_pos hf]
      exact ⟨fun h => h, rfl, rfl, (gG hF hn).symm⟩
    · rw [if_neg hf]; rw [if_neg hf]; exact Loc.bad hF hn
  case makeSlice t l c =>
    simp only [BG]
    split
    · exact ⟨fun h => h, rfl, rfl, k7 hF hlt (hmk rfl) _⟩
    · exact Loc.bad hF hn
  case slice t x lo hi mx =>
    cases mx <;> try (exact Loc.bad hF hn)
    exact Loc.on (Kn (sub rfl x (by simp [Op.operands]))) Dz hF hn
  case fieldAddr t x f => exact Loc.on (CR (sub rfl x (by simp [Op.operands]))) vR hF hn
  case indexAddr t x i => exact Loc.on (CQ (sub rfl x (by simp [Op.operands]))) vQ hF hn
  case index t x i =>
    refine Loc.on ?_ ?_ hF hn
    · simp only [rB]; split <;> (try split) <;> (try split) <;> rfl
    · simp only [rB]; split <;> (try split) <;> (try split) <;> rfl
  case extract t i =>
    refine Loc.on ?_ ?_ hF hn
    · simp only [kW]; split <;> rfl
    · simp only [kW]; split <;> rfl
  case call c =>
    obtain ⟨callee, args, ts⟩ := c
    cases callee <;> try (exact Loc.bad hF hn)
    rename_i b
    simp only
    have hargs : ∀ d ∈ args.toList.map (eX e), ∀ i ∈ dW d, i ∈ foot nid e (.call { callee := .builtin b, args := args, argTypes := ts }) := by
      intro d hd i hi
      obtain ⟨x, hx, rfl⟩ := aU.1 hd
      exact hopd rfl x (by simp only [Op.operands, Call.operands]; simpa using hx) i hi
    generalize args.toList.map (eX e) = az at hargs ⊢
    unfold uF
    split
    · exact Loc.on (OY fun i hi => hF i (hargs _ (cH.2 rfl) i hi)) (by
        simp only [D1]
        split
        · split <;> (try split) <;> rfl
        · split <;> rfl
        · rfl
        · rfl) hF hn
    · exact HA hF (hargs _ (jE ..)) (hargs _ (eH _ (cH.2 rfl))) hn hlt (by simp [foot, Fj])
    · exact Ko hF (hargs _ (cH.2 rfl)) hn
    · refine Loc.on ?_ ?_ hF hn
      · simp only [BF]; split <;> rfl
      · simp only [BF]; split <;> rfl
    · refine Loc.on ?_ ?_ hF hn
      · simp only [BF]; split <;> rfl
      · simp only [BF]; split <;> rfl
    · exact Loc.bad hF hn
theorem SJ {md:Nat→Bool}{e:Nat→D}{o:Oper}(hw:uG o.op=false):(DZ P nid md e o H).heap=H:=by
 obtain ⟨dst,op,type,pos,after,guard⟩:=o
 simp only at hw
 unfold DZ
 cases op<;>first|(simp [uG] at hw;done)|skip
 case move x =>
  simp only [uG] at hw
  simp [hw]
 case assign x =>
  simp only [uG] at hw
  simp [hw]
 case pick c a b=>simp only [xZ];split<;>first|rfl|(simp only [s6];split<;>rfl)
 case build t ps =>
  simp only [rC]
  split
  ·split<;>rfl
  ·rfl
 case load t a=>simp only [lS];split<;>(try split)<;>rfl
 case nilCheck x=>simp only [iB];split<;>(try split)<;>rfl
 case binOp op t x y t'=>simp only [Nb];split<;>first|rfl|(split<;>rfl)|(simp only [Hz];split<;>rfl)
 case unOp op t x=>simp only [SI];split<;>rfl
 case convert s d x=>simp only [kX];split<;>(try split)<;>rfl
 case makeFunc fn first caps =>
  cases fn<;>try rfl
  simp only
  split<;>rfl
 case slice t x lo hi mx =>
  cases mx<;>try rfl
  exact Dz
 case fieldAddr t x f=>exact vR
 case indexAddr t x i=>exact vQ
 case index t x i=>simp only [rB];split<;>(try split)<;>(try split)<;>rfl
 case extract t i=>simp only [kW];split<;>rfl
 case call c =>
  obtain ⟨callee,args,ts⟩:=c
  cases callee<;>try rfl
  rename_i b
  simp only
  generalize args.toList.map (eX e)=az
  unfold uF
  split
  ·simp only [D1]
   split
   ·split<;>(try split)<;>rfl
   ·split<;>rfl
   ·rfl
   ·rfl
  ·simp [uG] at hw
  ·simp [uG] at hw
  ·simp only [BF];split<;>rfl
  ·simp only [BF];split<;>rfl
  ·rfl
 all_goals rfl
end
end Go.Abs
end
section
namespace Go.Abs
theorem Fq {ops:Array Oper}{o:Oper}{t:Tmp}(h:Operand.tmp t∈o.op.operands):t∈o.looksAt ops:=by
 simp only [Oper.looksAt,bD,List.mem_filterMap]
 exact .inl ⟨.tmp t,by simpa using h,rfl⟩
theorem L1 {ops:Array Oper}{o:Oper}{j:Nat}{b:Bool}{t:Tmp}(hg:o.guard=some (j,b))(h:(ops[j]?).bind (·.dst)=some t):t∈o.looksAt ops:=by
 simp only [Oper.looksAt,bD,hg]
 exact .inr (by simp [h])
section
variable {P:Program} {md:Nat→Bool} {ops:Array Oper} {nid:Nat}
def tP (H' H1:AHeap)(F N:List Nat):AHeap:=⟨H'.next,fun i=>H'.al i∨(i∈N∧H1.al i),fun i=>if i∈F then H1.get i else H'.get i⟩
theorem LN (H' H1:AHeap)(F:List Nat)(nid:Nat):jG H' H1 F nid=tP H' H1 F [nid]:=by
 simp only [jG,tP,AHeap.mk.injEq,true_and,and_true]
 funext i
 refine propext ⟨fun h=>h.imp (fun x=>x) fun ⟨h1,h2⟩=>⟨by simp [h1],h1 ▸ h2⟩,fun h=>h.imp (fun x=>x) fun ⟨h1,h2⟩=>?_⟩
 have:i=nid:=by simpa using h1
 exact ⟨this,this ▸ h2⟩
theorem Ig {H H':AHeap}{F N:List Nat}(hF:fC F H' H)(hn:∀ i∈N,¬ H.al i):tP H' H F N=H':=by
 obtain ⟨n,al,g⟩:=H'
 simp only [tP,AHeap.mk.injEq,true_and]
 refine ⟨?_,?_⟩
 ·funext i;exact propext ⟨fun h=>h.elim id fun h=>absurd h.2 (hn i h.1),.inl⟩
 ·funext i
  by_cases hi:i∈F
  ·rw [if_pos hi];exact (hF i hi).symm
  ·rw [if_neg hi]
theorem nW:∀ (q:List (Nat × Blk)) (H:AHeap),(∀ p∈q,p.1<H.next)→(H.pushs q).next=H.next
 | [],H,_=>rfl
 | p :: l,H,h=>by
  have h1:(H.push p.1 p.2).next=H.next:=by simp only [AHeap.push,if_pos (h p (by simp))]
  simp only [AHeap.pushs]
  rw [nW l _ (fun x hx=>by rw [h1];exact h x (by simp [hx])),h1]
theorem qI:∀ (q:List (Nat × Blk)) (H:AHeap) (i:Nat),(H.pushs q).al i↔H.al i∨i∈q.map (·.1)
 | [],H,i=>by simp [AHeap.pushs]
 | p :: l,H,i=>by
  simp only [AHeap.pushs]
  rw [qI l]
  simp only [AHeap.push,fA,bB]
  constructor
  ·rintro ((h|h)|h)
   ·exact .inr (.inl h)
   ·exact .inl h
   ·exact .inr (.inr h)
  ·rintro (h|h|h)
   ·exact .inl (.inr h)
   ·exact .inl (.inl h)
   ·exact .inr h
theorem Ic:∀ (q:List (Nat × Blk)) (H H':AHeap) (i:Nat),(i∈q.map (·.1)∨H.get i=H'.get i)→(H.pushs q).get i=(H'.pushs q).get i
 | [],H,H',i,h=>by
  rcases h with h|h
  ·simp at h
  ·exact h
 | p :: l,H,H',i,h=>by
  simp only [AHeap.pushs]
  refine Ic l _ _ i ?_
  by_cases hl:i∈l.map (·.1)
  ·exact .inl hl
  ·right
   simp only [AHeap.push]
   by_cases hp:i=p.1
   ·simp [hp]
   ·simp only [hp,if_false]
    rcases h with h|h
    ·simp only [fA,bB] at h
     rcases h with h|h
     ·exact absurd h hp
     ·exact absurd h hl
    ·exact h
theorem l7:∀ (q:List (Nat × Blk)) (H:AHeap) (i:Nat),i∉q.map (·.1)→(H.pushs q).get i=H.get i
 | [],H,i,_=>rfl
 | p :: l,H,i,h=>by
  simp only [fA,bB,not_or] at h
  simp only [AHeap.pushs]
  rw [l7 l _ i h.2]
  simp [AHeap.push,h.1]
theorem tL:∀ (u:List (Nat × Blk)) (H:AHeap),(H.puts u).next=H.next
 | [],_=>rfl
 | p :: l,H=>tL l (H.put p.1 p.2)
theorem JM:∀ (u:List (Nat × Blk)) (H:AHeap) (i:Nat),(H.puts u).al i↔H.al i
 | [],_,_=>Iff.rfl
 | p :: l,H,i=>JM l (H.put p.1 p.2) i
theorem LF:∀ (u:List (Nat × Blk)) (H H':AHeap) (i:Nat),H.get i=H'.get i→(H.puts u).get i=(H'.puts u).get i
 | [],_,_,_,h=>h
 | p :: l,H,H',i,h=>LF l _ _ i (by simp only [AHeap.put];split<;>first|rfl|exact h)
theorem uU:∀ (u:List (Nat × Blk)) (H:AHeap) (i:Nat),(∀ p∈u,p.1≠i)→(H.puts u).get i=H.get i
 | [],H,i,_=>rfl
 | p :: l,H,i,h=>by
  simp only [AHeap.puts]
  rw [uU l _ i fun x hx=>h x (by simp [hx])]
  have:=(h p (by simp)).symm
  simp [AHeap.put,this]
theorem EY {H H':AHeap}{S:List Nat}{u q:List (Nat × Blk)}(hu:∀ p∈u,p.1∈S)(hF:fC (S++q.map (·.1)) H' H)(hlt:∀ p∈q,p.1<H'.next):(H'.puts u).pushs q=tP H' ((H.puts u).pushs q) (S++q.map (·.1)) (q.map (·.1)):=by
 have h1:=nW q (H'.puts u) (by rw [tL];exact hlt)
 have h2:=qI q (H'.puts u)
 have h3:=Ic q (H'.puts u) (H.puts u)
 have h4:=l7 q (H'.puts u)
 have h5:=qI q (H.puts u)
 rw [tL] at h1
 simp only [JM] at h2 h5
 generalize (H'.puts u).pushs q=X at h1 h2 h3 h4
 obtain ⟨n,al,g⟩:=X
 simp only [tP,AHeap.mk.injEq]
 refine ⟨h1,funext fun i=>propext ?_,funext fun i=>?_⟩
 ·rw [show al i↔_ from h2 i]
  exact ⟨fun h=>h.imp (fun x=>x) fun h=>⟨h,(h5 i).2 (.inr h)⟩,fun h=>h.imp (fun x=>x) fun h=>h.1⟩
 ·by_cases hi:i∈S++q.map (·.1)
  ·rw [if_pos hi]
   exact h3 i (.inr (LF u _ _ i (hF i hi)))
  ·rw [if_neg hi]
   refine (h4 i fun h=>hi (by simp only [bD];exact .inr h)).trans (uU u _ i fun p hp he=>hi ?_)
   simp only [bD];exact .inl (he ▸ hu p hp)
structure Txt (P:Program) (md:Nat→Bool) (ops:Array Oper) (m nid:Nat) (o:Oper) (e:Nat→D) (H:AHeap) (v:D) (H1:AHeap) (F N:List Nat):Prop where
 self:H1=tP H H1 F N
 new:∀ id∈N,¬ H.al id∧(id=nid∨(id<m∧H1.al id))
 still:kZ md o=false→H1=H
 foot:oS o.op=false→F=[]
 any:∀ e' H',(∀ t∈o.looksAt ops,e' t=e t)→fC F H' H→nid<H'.next→¬ H'.al nid→(∀ id∈N,id<H'.next∧¬ H'.al id) →
  nC P md (some m) nid ops e' o H' fun v' H2 _=>v'=v∧H2=tP H' H1 F N
theorem LV {o:Op}(h:oS o=false):Fj o=false:=by
 cases o<;>first|rfl|(simp [oS] at h;done)|(simp only [oS] at h;simp only [Fj];exact h)
theorem Mh {e:Nat→D}{o:Op}(h:oS o=false):foot nid e o=[]:=by simp [foot,h,LV h]
theorem Bk {e e':Nat→D}{o:Oper}(h:∀ t∈o.looksAt ops,e' t=e t):∀ x∈o.op.operands,eX e' x=eX e x:=by
 intro x hx
 cases x with
 | tmp t=>exact h t (Fq hx)
 | _=>rfl
theorem zW {e e':Nat→D}{o:Oper}(h:∀ t∈o.looksAt ops,e' t=e t):∀ x∈o.op.operands,eX (gE e' o.op) x=eX (gE e o.op) x:=by
 intro x hx
 cases x with
 | tmp t =>
  have ht:=h t (Fq hx)
  simp only [eX]
  cases o.op<;>simp only [gE,CW,ht]
  rename_i c _ _
  cases c<;>simp only [ht]
 | _=>rfl
theorem Ii {e e':Nat→D}:∀ (l:List Operand),(∀ x∈l,og e' x=og e x)→Rd e' l=Rd e l
 | [],_=>rfl
 | x :: l,h=>by simp only [Rd,h x (by simp),Ii l fun y hy=>h y (by simp [hy])]
theorem Loc.self {r:AOut}{H:AHeap}{F:List Nat}(h:Loc r r H F nid):r.heap=jG H r.heap F nid:=h.heap
theorem Ra {m : Nat} {e : Nat → D} {o : Oper} {H : AHeap} {K : D → AHeap → List Nat → Prop} (h : nC P md (some m) nid ops e o H K) (hn : ¬ H.al nid) (hlt : nid < H.next) (hmn : m ≤ H.next) :
    ∃ v H1 F N, Txt P md ops m nid o e H v H1 F N ∧ K v H1 F := by
  unfold nC at h
  have hself : ∀ F : List Nat, H = tP H H F [nid] := fun F => (Ig (fun _ _ => rfl) (by simpa using hn)).symm
  have hone : ∀ id ∈ [nid], ¬ H.al id ∧ ∀ H1 : AHeap, (id = nid ∨ (id < m ∧ H1.al id)) := fun id hid => by
    have : id = nid := by simpa using hid
    subst this; exact ⟨hn, fun _ => .inl rfl⟩
  have hnid : ∀ {H' : AHeap}, fC [] H' H → ∀ {F : List Nat}, fC F H' H → tP H' H F [nid] = H' := fun _ _ hF => Ig hF (by simpa using hn)
  cases hg : o.guard with
  | none =>
    simp only [hg] at h
    cases hc : f7 e o with
    | some fa =>
      obtain ⟨f, args⟩ := fa
      simp only [hc] at h
      have hh : oS o.op = true ∧ D3 md o = Df md o.dst := by
        unfold f7 at hc
        split at hc
        · rename_i hop; unfold D3; rw [hop]; exact ⟨rfl, rfl⟩
        · cases hc
      rcases h with ⟨r, S, h1, h2⟩ | ⟨hmd, r, S, u, q, hu, hq, h1, h2⟩
      · refine ⟨r, H, S, [nid], ⟨hself S, fun id hid => ⟨(hone id hid).1, (hone id hid).2 _⟩, fun _ => rfl, fun h => (by rw [hh.1] at h; cases h), fun e' H' he hF hlt' hn' hN => ?_⟩, h2⟩
        unfold nC
        simp only [hg]
        rw [nA (Bk he), hc]
        exact .inl ⟨r, S, fun H'' hF' => h1 H'' fun i hi => (hF' i hi).trans (hF i hi), rfl, (hnid (fun _ h => by cases h) hF).symm⟩
      · have hal := qI q (H.puts u)
        refine ⟨r, (H.puts u).pushs q, S ++ q.map (·.1), q.map (·.1), ⟨EY hu (fun _ _ => rfl) (fun p hp => cT (hq p hp).1 hmn), fun id hid => ?_, fun hw => ?_, fun h => (by rw [hh.1] at h; cases h), fun e' H' he hF hlt' hn' hN => ?_⟩, h2⟩
        · obtain ⟨p, hp, rfl⟩ := aU.1 hid
          exact ⟨(hq p hp).2, .inr ⟨(hq p hp).1, (hal _).2 (.inr hid)⟩⟩
        · unfold kZ at hw
          rw [hh.2, hmd] at hw
          simp at hw
        · unfold nC
          simp only [hg]
          rw [nA (Bk he), hc]
          refine .inr ⟨hmd, r, S, u, q, hu, fun p hp => ⟨(hq p hp).1, (hN p.1 (aU.2 ⟨p, hp, rfl⟩)).2⟩, fun H'' hF' hn'' => h1 H'' (fun i hi => (hF' i hi).trans (hF i (by simp [hi]))) hn'', rfl, ?_⟩
          exact EY hu hF fun p hp => (hN p.1 (aU.2 ⟨p, hp, rfl⟩)).1
    | none =>
      simp only [hc] at h
      obtain ⟨h1, h2⟩ := h
      have hl := CN (P := P) (md := md) (e := e) (o := o) (H := H) (H' := H) (nid := nid) (fun _ _ => rfl) hn hlt
      refine ⟨_, _, _, [nid], ⟨(LN _ _ _ _) ▸ hl.heap, fun id hid => ⟨(hone id hid).1, (hone id hid).2 _⟩, fun hw => SJ (by unfold kZ at hw; simp at hw; exact hw.1), fun hh => Mh hh, fun e' H' he hF hlt' hn' hN => ?_⟩, h2 (fun h => by cases h)⟩
      unfold nC
      simp only [hg]
      rw [nA (Bk he), hc]
      simp only
      rw [CO (Bk he)]
      have hl' := CN (P := P) (md := md) (e := e) (o := o) (H := H) (H' := H') (nid := nid) hF hn hlt'
      exact ⟨hl'.cond h1, fun _ => ⟨hl'.val, (LN _ _ _ _) ▸ hl'.heap⟩⟩
  | some jb =>
    obtain ⟨j, b⟩ := jb
    simp only [hg] at h
    cases hgd : gD ops e j with
    | none => simp [hgd] at h
    | some gc =>
      obtain ⟨g, c⟩ := gc
      simp only [hgd] at h
      obtain ⟨hog, h⟩ := h
      have hgd' : ∀ e', (∀ t ∈ o.looksAt ops, e' t = e t) → gD ops e' j = some (g, c) := by
        intro e' he
        rw [← hgd]
        unfold gD
        cases ht : (ops[j]?).bind (·.dst) with
        | none => rfl
        | some t => simp only [he t (L1 hg ht)]
      have hog' : ∀ e', (∀ t ∈ o.looksAt ops, e' t = e t) → Rd e' (gO o.op) = Rd e (gO o.op) := by
        intro e' he
        refine Ii _ fun x hx => ?_
        cases x with
        | tmp t => simp only [og, he t (Fq (UY hx))]
        | _ => rfl
      cases hc : f7 (gE e o.op) o with
      | some fa =>
        obtain ⟨f, args⟩ := fa
        simp only [hc] at h
        obtain ⟨r, S, h1, h2⟩ := h
        have hh : oS o.op = true := by
          unfold f7 at hc
          split at hc
          · rename_i hop; rw [hop]; rfl
          · cases hc
        refine ⟨_, H, S, [nid], ⟨hself S, fun id hid => ⟨(hone id hid).1, (hone id hid).2 _⟩, fun _ => rfl, fun h => (by rw [hh] at h; cases h), fun e' H' he hF hlt' hn' hN => ?_⟩, h2⟩
        unfold nC
        simp only [hg, hgd' e' he, hog' e' he]
        rw [nA (zW he), hc]
        exact ⟨hog, r, S, fun hq H'' hF' => h1 hq H'' fun i hi => (hF' i hi).trans (hF i hi), rfl, (hnid (fun _ h => by cases h) hF).symm⟩
      | none =>
        simp only [hc] at h
        obtain ⟨h1, h2⟩ := h
        refine ⟨_, H, _, [nid], ⟨hself _, fun id hid => ⟨(hone id hid).1, (hone id hid).2 _⟩, fun hw => rfl, fun hh => Mh hh, fun e' H' he hF hlt' hn' hN => ?_⟩, h2 (fun h => by cases h)⟩
        unfold nC
        simp only [hg, hgd' e' he, hog' e' he]
        rw [nA (zW he), hc]
        simp only
        rw [CO (zW he)]
        have hl' := CN (P := P) (md := md) (e := gE e o.op) (o := o) (H := H) (H' := H') (nid := nid) hF hn hlt'
        refine ⟨hog, fun hq => ⟨hl'.cond (h1 hq).1, ?_⟩, fun _ => ⟨by rw [hl'.val], (hnid (fun _ h => by cases h) hF).symm⟩⟩
        rw [hl'.heap, (h1 hq).2, gG hF hn]
end
structure Run (P:Program) (md:Nat→Bool) (ops:Array Oper) (sp:List (Nat × Nat)) (n0:Nat) (es:Nat→Nat→D) (Hs:Nat→AHeap) (vs:Nat→D) (Fs Ns:Nat→List Nat) (i0:Nat) (l:List Oper):Prop where
 step:∀ (j:Nat) (o:Oper),l[j]?=some o→es (i0+j+1)=oW (es (i0+j)) o.dst (vs (i0+j))∧Txt P md ops n0 (n0+(i0+j)) o (es (i0+j)) (Hs (i0+j)) (vs (i0+j)) (Hs (i0+j+1)) (Fs (i0+j)) (Ns (i0+j))
 apart:∀ (k j:Nat),k<j→j<l.length→(i0+k,i0+j)∈sp→∀ x∈Fs (i0+k),x∉Fs (i0+j)
theorem Je {P : Program} {md : Nat → Bool} {ops : Array Oper} {sp : List (Nat × Nat)} {n0 nn : Nat} : ∀ (l : List Oper) (i : Nat) (acc : List (Nat × List Nat)) (e : Nat → D) (H : AHeap) (K : (Nat → D) → AHeap → Prop),
    iS P md ops sp n0 i l acc e H K → (∀ id, H.al id → id < n0 + i) → H.next = nn → n0 + i + l.length ≤ nn →
    ∃ (es : Nat → Nat → D) (Hs : Nat → AHeap) (vs : Nat → D) (Fs Ns : Nat → List Nat), es i = e ∧ Hs i = H ∧ K (es (i + l.length)) (Hs (i + l.length)) ∧ Run P md ops sp n0 es Hs vs Fs Ns i l ∧
      (∀ (j : Nat), j < l.length → ∀ p ∈ acc, (p.1, i + j) ∈ sp → ∀ x ∈ p.2, x ∉ Fs (i + j))
  | [], i, acc, e, H, K, h, hal, hnn, hle => by
    refine ⟨fun _ => e, fun _ => H, fun _ => .junk, fun _ => [], fun _ => [], rfl, rfl, h, ⟨fun j o h => by simp at h, fun k j _ h => by simp at h⟩, fun j h => by simp at h⟩
  | o :: l, i, acc, e, H, K, h, hal, hnn, hle => by
    unfold iS at h
    simp only [eU] at hle
    have hn : ¬ H.al (n0 + i) := fun h => by have := hal _ h; omega
    have hlt : n0 + i < H.next := by omega
    obtain ⟨v, H1, F, N, hT, hchk, hrest⟩ := Ra h hn hlt (by omega)
    have hal1 : ∀ id, H1.al id → id < n0 + (i + 1) := fun id hid => by
      rw [hT.self] at hid
      rcases hid with hid | ⟨hid, _⟩
      · have := hal id hid; omega
      · rcases (hT.new id hid).2 with h | ⟨h, _⟩ <;> omega
    have hnn1 : H1.next = nn := by rw [hT.self]; exact hnn
    obtain ⟨es, Hs, vs, Fs, Ns, he, hH, hK, hrun, hacc⟩ := Je l (i + 1) _ _ _ _ hrest hal1 hnn1 (by omega)
    refine ⟨fun k => if k = i then e else es k, fun k => if k = i then H else Hs k, fun k => if k = i then v else vs k, fun k => if k = i then F else Fs k, fun k => if k = i then N else Ns k, by simp, by simp, ?_, ⟨fun j o' ho' => ?_, fun k j hkj hj hsp => ?_⟩, fun j hj p hp hsp => ?_⟩
    · have : i + (o :: l).length ≠ i := by simp
      simp only [this, if_false]
      rw [show i + (o :: l).length = i + 1 + l.length by simp; omega]
      exact hK
    · cases j with
      | zero =>
        simp only [jN, bH] at ho'
        subst ho'
        have : i + 0 + 1 ≠ i := by omega
        simp only [this, if_false, rJ, if_true]
        rw [show i + 1 = i + 1 from rfl, he, hH]
        exact ⟨rfl, hT⟩
      | succ j =>
        have h1 : i + (j + 1) ≠ i := by omega
        have h2 : i + (j + 1) + 1 ≠ i := by omega
        simp only [h1, h2, if_false]
        have := hrun.step j o' (by simpa using ho')
        rw [show i + 1 + j = i + (j + 1) by omega] at this
        exact this
    · have hj0 : i + j ≠ i := by omega
      simp only [hj0, if_false]
      cases j with
      | zero => omega
      | succ j =>
        simp only [eU] at hj
        by_cases hk : k = 0
        · subst hk
          simp only [rJ, if_true] at hsp ⊢
          have := hacc j (by omega) (i, F) (by simp)
          rw [show i + 1 + j = i + (j + 1) by omega] at this
          exact this hsp
        · have hk0 : i + k ≠ i := by omega
          simp only [hk0, if_false]
          have := hrun.apart (k - 1) j (by omega) (by omega)
          rw [show i + 1 + (k - 1) = i + k by omega, show i + 1 + j = i + (j + 1) by omega] at this
          exact this hsp
    · cases j with
      | zero =>
        simp only [rJ, if_true] at hsp ⊢
        unfold Ke at hchk
        cases sp with
        | nil => simp at hsp
        | cons a sp => exact hchk p hp hsp
      | succ j =>
        have h1 : i + (j + 1) ≠ i := by omega
        simp only [h1, if_false]
        simp only [eU] at hj
        have := hacc j (by omega) p (by simp [hp])
        rw [show i + 1 + j = i + (j + 1) by omega] at this
        exact this hsp
end Go.Abs
end
section
namespace Go.Abs
theorem Cj {p:Nat→Bool}{i:Nat}:∀ (n:Nat),i<n→p i=true→(∀ k,i<k→k<n→p k=false)→fR p n=some i
 | 0,h,_,_=>by omega
 | n+1,h,hp,hk=>by
  by_cases hi:i=n
  ·subst hi;simp [fR,hp]
  ·simp only [fR,hk n (by omega) (by omega),eM,if_false]
   exact Cj n (by omega) hp fun k h1 h2=>hk k h1 (by omega)
section
variable (md:Nat→Bool) (ops:Array Oper) (n0:Nat) (e0:Nat→D) (H0:AHeap) (Hs:Nat→AHeap) (vs:Nat→D) (Fs Ns:Nat→List Nat)
def lI (i:Nat):Option Tmp:=(ops[i]?).bind (·.dst)
def oH (i:Nat):Bool:=match ops[i]? with|some o=>kZ md o|none=>false
def eS (S:Nat→Bool)(m:Nat):Nat→D:=fun t =>
 match fR (fun k=>S k&&(lI ops k==some t)) m with
 | some k=>vs k
 | none=>e0 t
def HS (S:Nat→Bool)(m:Nat):AHeap where
 next:=n0+ops.size
 al:=fun id=>H0.al id∨∃ k,k<m∧S k=true∧id∈Ns k∧(Hs (k+1)).al id
 get:=fun id=>match fR (fun k=>S k&&(oH md ops k&&(Fs k).contains id)) m with
  | some k=>(Hs (k+1)).get id
  | none=>H0.get id
end
section
variable {P:Program} {md:Nat→Bool} {ops:Array Oper} {sp:List (Nat × Nat)} {n0:Nat} {es:Nat→Nat→D} {Hs:Nat→AHeap} {vs:Nat→D} {Fs Ns:Nat→List Nat}
theorem kL (i:Nat):ops.toList[i]?=ops[i]?:=by simp
theorem uQ (hr : Run P md ops sp n0 es Hs vs Fs Ns 0 ops.toList) (hn : (Hs 0).next = n0 + ops.size) : ∀ i, i ≤ ops.size → es i = eS ops (es 0) vs (fun _ => true) i ∧ Hs i = HS md ops n0 (Hs 0) Hs Fs Ns (fun _ => true) i
  | 0, _ => ⟨by funext t; rfl, by
      generalize hH : Hs 0 = X at hn
      obtain ⟨nx, al, g⟩ := X
      simp only [HS, AHeap.mk.injEq]
      refine ⟨hn, funext fun id => propext ⟨.inl, fun h => h.elim (fun h => h) fun ⟨k, hk, _⟩ => by omega⟩, funext fun id => rfl⟩⟩
  | i + 1, hi => by
    obtain ⟨ih1, ih2⟩ := uQ hr hn i (by omega)
    have hlt : i < ops.size := by omega
    have ho : ops[i]? = some ops[i] := bI hlt
    obtain ⟨h1, hT⟩ := hr.step i ops[i] (by rw [kL, ho])
    simp only [e8] at h1 hT
    refine ⟨?_, ?_⟩
    · rw [h1, ih1]
      funext t
      simp only [eS, fR, dU]
      have hd : lI ops i = ops[i].dst := by simp [lI, ho]
      cases hdd : ops[i].dst with
      | none => simp [oW, hd, hdd, eS]
      | some d =>
        by_cases ht : t = d
        · subst ht; simp [oW, hd, hdd]
        · have ht' : ¬ d = t := fun h => ht h.symm
          simp [oW, hd, hdd, ht, ht', eS]
    · have hself := hT.self
      have hw : oH md ops i = kZ md ops[i] := by simp [oH, ho]
      have hget : ∀ id, (Hs (i + 1)).get id = if (oH md ops i && (Fs i).contains id) = true then (Hs (i + 1)).get id else (Hs i).get id := by
        intro id
        split
        · rfl
        · rename_i hc
          by_cases hwr : oH md ops i = true
          · have hnc : id ∉ Fs i := fun h => hc (by simp [hwr, h])
            rw [hself]; simp [tP, hnc]
          · rw [hT.still (by rw [← hw]; simpa using hwr)]
      have hnext : (Hs (i + 1)).next = n0 + ops.size := by rw [hself, ih2]; rfl
      have halq : ∀ id, (Hs (i + 1)).al id ↔ (Hs i).al id ∨ (id ∈ Ns i ∧ (Hs (i + 1)).al id) := fun id => by
        constructor
        · intro h; rw [hself] at h; exact h
        · intro h; rw [hself]; exact h
      generalize hH : Hs (i + 1) = X at hget hnext halq
      obtain ⟨nx, al, g⟩ := X
      simp only [HS, AHeap.mk.injEq]
      refine ⟨hnext, funext fun id => propext ?_, funext fun id => ?_⟩
      · rw [show al id ↔ _ from halq id, ih2]
        simp only [HS]
        constructor
        · rintro ((h | ⟨k, hk, _, hm, h⟩) | ⟨hm, h⟩)
          · exact .inl h
          · exact .inr ⟨k, by omega, trivial, hm, h⟩
          · exact .inr ⟨i, by omega, trivial, hm, by rw [hH]; exact h⟩
        · rintro (h | ⟨k, hk, _, hm, h⟩)
          · exact .inl (.inl h)
          · by_cases hki : k = i
            · subst hki; rw [hH] at h; exact .inr ⟨hm, h⟩
            · exact .inl (.inr ⟨k, by omega, trivial, hm, h⟩)
      · have := hget id
        simp only at this
        rw [this, ih2]
        simp only [HS, fR, dU]
        split
        · simp only [hH]
        · rfl
theorem pT (h:uM md ops sp=true){i j:Nat}(hij:i<j)(hj:j<ops.size) :
  ((MQ ops.toList []).getD j 0).testBit i=true∨(Kb ops (ops[i]'(by omega)) ops[j]=false∧(Ge md (ops[i]'(by omega)) ops[j]=false∨(i,j)∈sp)):=by
 unfold uM at h
 simp only [cQ,aZ] at h
 have h1:=h j hj
 rw [bI hj] at h1
 simp only [aL,cQ,aZ] at h1
 have h2:=h1.2 i hij
 rw [bI (by omega)] at h2
 simp only [bT,aL,cV,wB] at h2
 exact h2
theorem PX (h:uM md ops sp=true){j:Nat}{o:Oper}(ho:ops[j]?=some o):∀ e∈o.after.toList,Region.binds .any e=true→e.on<j:=by
 have hj:j<ops.size:=(iD.1 ho).1
 unfold uM at h
 simp only [cQ,aZ] at h
 have h1:=h j hj
 rw [ho] at h1
 simp only [aL,cQ,bT,cV,decide_eq_true_eq] at h1
 intro e he hb
 rcases h1.1.1 e he with h2|h2
 ·rw [hb] at h2;cases h2
 ·exact h2
variable {S:Nat→Bool} {i:Nat}
def lD (S:Nat→Bool)(i:Nat):Nat→Bool:=fun k=>k==i||S k
theorem Jh {o:Op}(h:uG o=true):oS o=true:=by
 cases o<;>first|rfl|(simp [uG] at h;done)|exact h
theorem n5 {md:Nat→Bool}{o:Oper}(h:kZ md o=true):oS o.op=true:=by
 unfold kZ at h
 rw [bT] at h
 rcases h with h|h
 ·exact Jh h
 ·unfold D3 at h
  split at h
  ·rename_i hop;rw [hop];rfl
  ·cases h
theorem xU {x y:Oper}(h:Kb ops x y=false):(∀ t,x.dst=some t→t∉y.looksAt ops∧y.dst≠some t)∧(∀ t,y.dst=some t→t∉x.looksAt ops):=by
 have:=Oper.apart_spec (by simpa [Kb] using h)
 exact ⟨fun t ht=>⟨this.1 t ht,this.2.1 t ht⟩,this.2.2⟩
theorem De (hs:uM md ops sp=true)(hD:Ks ops S)(hD':Ks ops (lD S i))(hi:i<ops.size)(hSi:S i=false) :
  (∀ k,k<i→(((MQ ops.toList []).getD i 0).testBit k=true)→S k=true)∧(∀ k,i<k→k<ops.size→((MQ ops.toList []).getD k 0).testBit i=true→S k=false):=by
 refine ⟨fun k hk hb=>?_,fun k hk hk2 hb=>?_⟩
 ·have:=IZ hD' i k (by simp [lD]) hb
  simp only [lD,bT,beq_iff_eq] at this
  rcases this with h|h
  ·omega
  ·exact h
 ·cases hSk:S k with
  | false=>rfl
  | true=>have:=IZ hD k i hSk hb;rw [hSi] at this;cases this
theorem Ib (hr : Run P md ops sp n0 es Hs vs Fs Ns 0 ops.toList) (hn : (Hs 0).next = n0 + ops.size) (hs : uM md ops sp = true) (hD : Ks ops S) (hD' : Ks ops (lD S i)) (hi : i < ops.size) (hSi : S i = false) :
    (∀ t ∈ (ops[i]).looksAt ops, eS ops (es 0) vs S ops.size t = es i t) ∧ fC (Fs i) (HS md ops n0 (Hs 0) Hs Fs Ns S ops.size) (Hs i) := by
  obtain ⟨o1, o2⟩ := De hs hD hD' hi hSi
  obtain ⟨e1, e2⟩ := uQ hr hn i (by omega)
  have hgetk : ∀ k, k < ops.size → lI ops k = (ops[k]?).bind (·.dst) := fun k _ => rfl
  obtain ⟨_, hT⟩ := hr.step i ops[i] (by rw [kL, bI hi])
  simp only [e8] at hT
  refine ⟨fun t ht => ?_, fun id hid => ?_⟩
  · rw [e1]
    simp only [eS, dU]
    have hl : fR (fun k => S k && (lI ops k == some t)) ops.size = fR (fun k => lI ops k == some t) i := by
      rw [Aa (p := fun k => S k && (lI ops k == some t)) i ops.size (by omega) (fun k hk hk2 => ?_)]
      · refine i7 i fun k hk => ?_
        cases hd : (lI ops k == some t) with
        | false => simp
        | true =>
          have hks : k < ops.size := by omega
          have hdk : ops[k].dst = some t := by simpa [lI, bI hks] using hd
          rcases pT hs hk hi with h | ⟨h, _⟩
          · simp [o1 k hk h]
          · exact absurd ht ((xU h).1 t hdk).1
      · by_cases hki : k = i
        · subst hki; simp [hSi]
        · cases hd : (lI ops k == some t) with
          | false => simp
          | true =>
            have hdk : ops[k].dst = some t := by simpa [lI, bI hk2] using hd
            rcases pT hs (show i < k by omega) hk2 with h | ⟨h, _⟩
            · simp [o2 k (by omega) hk2 h]
            · exact absurd ht ((xU h).2 t hdk)
    rw [hl]
  · rw [e2]
    have hheap : oS ops[i].op = true := by
      cases hh : oS ops[i].op with
      | true => rfl
      | false => rw [hT.foot hh] at hid; cases hid
    simp only [HS, dU]
    have hl : fR (fun k => S k && (oH md ops k && (Fs k).contains id)) ops.size = fR (fun k => oH md ops k && (Fs k).contains id) i := by
      rw [Aa (p := fun k => S k && (oH md ops k && (Fs k).contains id)) i ops.size (by omega) (fun k hk hk2 => ?_)]
      · refine i7 i fun k hk => ?_
        cases hd : (oH md ops k && (Fs k).contains id) with
        | false => simp
        | true =>
          have hks : k < ops.size := by omega
          simp only [aL, wB] at hd
          have hwk : kZ md ops[k] = true := by simpa [oH, bI hks] using hd.1
          rcases pT hs hk hi with h | ⟨_, h | h⟩
          · simp [o1 k hk h]
          · simp [Ge, hheap, n5 hwk, hwk] at h
          · have hap := hr.apart k i hk (by simpa using hi)
            simp only [e8] at hap
            exact absurd hid (hap h id hd.2)
      · by_cases hki : k = i
        · subst hki; simp [hSi]
        · cases hd : (oH md ops k && (Fs k).contains id) with
          | false => simp
          | true =>
            simp only [aL, wB] at hd
            have hwk : kZ md ops[k] = true := by simpa [oH, bI hk2] using hd.1
            rcases pT hs (show i < k by omega) hk2 with h | ⟨_, h | h⟩
            · simp [o2 k (by omega) hk2 h]
            · simp [Ge, hheap, n5 hwk, hwk] at h
            · have hap := hr.apart i k (by omega) (by simpa using hk2)
              simp only [e8] at hap
              exact absurd hd.2 (hap h id hid)
    rw [hl]
theorem Q9 (hr : Run P md ops sp n0 es Hs vs Fs Ns 0 ops.toList) (hn : (Hs 0).next = n0 + ops.size) (hs : uM md ops sp = true) (hD : Ks ops S) (hD' : Ks ops (lD S i)) (hi : i < ops.size) (hSi : S i = false) :
    oW (eS ops (es 0) vs S ops.size) ops[i].dst (vs i) = eS ops (es 0) vs (lD S i) ops.size ∧
    tP (HS md ops n0 (Hs 0) Hs Fs Ns S ops.size) (Hs (i + 1)) (Fs i) (Ns i) = HS md ops n0 (Hs 0) Hs Fs Ns (lD S i) ops.size := by
  obtain ⟨o1, o2⟩ := De hs hD hD' hi hSi
  obtain ⟨_, hT⟩ := hr.step i ops[i] (by rw [kL, bI hi])
  simp only [e8] at hT
  have hag := (Ib hr hn hs hD hD' hi hSi).2
  have hio : ops[i]? = some ops[i] := bI hi
  refine ⟨?_, ?_⟩
  · funext t
    by_cases ht : ops[i].dst = some t
    · have hl : fR (fun k => lD S i k && (lI ops k == some t)) ops.size = some i := by
        refine Cj ops.size hi (by simp [lD, lI, hio, ht]) fun k hk hk2 => ?_
        cases hd : (lI ops k == some t) with
        | false => simp
        | true =>
          have hdk : ops[k].dst = some t := by simpa [lI, bI hk2] using hd
          rcases pT hs hk hk2 with h | ⟨h, _⟩
          · have hki : (k == i) = false := by simp; omega
            simp [lD, hki, o2 k hk hk2 h]
          · exact absurd hdk ((xU h).1 t ht).2
      simp only [eS, hl, oW, ht, if_true]
    · have hl : fR (fun k => lD S i k && (lI ops k == some t)) ops.size = fR (fun k => S k && (lI ops k == some t)) ops.size := by
        refine i7 _ fun k hk => ?_
        by_cases hki : k = i
        · subst hki
          have : (lI ops k == some t) = false := by simp [lI, hio]; exact ht
          simp [this]
        · have : (k == i) = false := by simpa using hki
          simp [lD, this]
      simp only [eS, hl]
      cases hdd : ops[i].dst with
      | none => rfl
      | some d =>
        have : ¬ t = d := fun h => ht (by rw [hdd, h])
        simp only [oW, this, if_false]
        rfl
  · simp only [tP, HS, AHeap.mk.injEq, true_and]
    refine ⟨funext fun id => propext ?_, funext fun id => ?_⟩
    · constructor
      · rintro ((h | ⟨k, hk, hSk, hm, h⟩) | ⟨hm, h⟩)
        · exact .inl h
        · exact .inr ⟨k, hk, by simp [lD, hSk], hm, h⟩
        · exact .inr ⟨i, hi, by simp [lD], hm, h⟩
      · rintro (h | ⟨k, hk, hSk, hm, h⟩)
        · exact .inl (.inl h)
        · by_cases hki : k = i
          · subst hki; exact .inr ⟨hm, h⟩
          · have : (k == i) = false := by simpa using hki
            exact .inl (.inr ⟨k, hk, by simpa [lD, this] using hSk, hm, h⟩)
    · by_cases hw : kZ md ops[i] = true
      · by_cases hid : id ∈ Fs i
        · rw [if_pos hid]
          have hl : fR (fun k => lD S i k && (oH md ops k && (Fs k).contains id)) ops.size = some i := by
            refine Cj ops.size hi (by simp [lD, oH, hio, hw, hid]) fun k hk hk2 => ?_
            cases hd : (oH md ops k && (Fs k).contains id) with
            | false => simp
            | true =>
              simp only [aL, wB] at hd
              have hwk : kZ md ops[k] = true := by simpa [oH, bI hk2] using hd.1
              rcases pT hs hk hk2 with h | ⟨_, h | h⟩
              · have hki : (k == i) = false := by simp; omega
                simp [lD, hki, o2 k hk hk2 h]
              · simp [Ge, n5 hw, n5 hwk, hwk] at h
              · have hap := hr.apart i k hk (by simpa using hk2)
                simp only [e8] at hap
                exact absurd hd.2 (hap h id hid)
          rw [hl]
        · rw [if_neg hid]
          have hl : fR (fun k => lD S i k && (oH md ops k && (Fs k).contains id)) ops.size = fR (fun k => S k && (oH md ops k && (Fs k).contains id)) ops.size := by
            refine i7 _ fun k hk => ?_
            by_cases hki : k = i
            · subst hki; simp [hid]
            · have : (k == i) = false := by simpa using hki
              simp [lD, this]
          rw [hl]
      · have hl : fR (fun k => lD S i k && (oH md ops k && (Fs k).contains id)) ops.size = fR (fun k => S k && (oH md ops k && (Fs k).contains id)) ops.size := by
          refine i7 _ fun k hk => ?_
          by_cases hki : k = i
          · subst hki
            have : oH md ops k = false := by simp [oH, hio]; simpa using hw
            simp [this]
          · have : (k == i) = false := by simpa using hki
            simp [lD, this]
        rw [hl]
        by_cases hid : id ∈ Fs i
        · rw [if_pos hid, hT.still (by simpa using hw), ← hag id hid]
          rfl
        · rw [if_neg hid]
theorem AC (hr:Run P md ops sp n0 es Hs vs Fs Ns 0 ops.toList){id:Nat}:∀ (j k:Nat),k≤j→j≤ops.size→(Hs k).al id→(Hs j).al id
 | 0,k,hk,_,h=>by rw [show (0:Nat)=k by omega];exact h
 | j+1,k,hk,hj,h=>by
  by_cases he:k=j+1
  ·rw [← he];exact h
  ·have ih:=AC hr j k (by omega) (by omega) h
   obtain ⟨_,hT⟩:=hr.step j ops[j] (by rw [kL,bI (by omega)])
   simp only [e8] at hT
   rw [hT.self]
   exact .inl ih
theorem Qh (hr:Run P md ops sp n0 es Hs vs Fs Ns 0 ops.toList)(hi:i<ops.size)(hSi:S i=false):∀ id∈Ns i,¬ (HS md ops n0 (Hs 0) Hs Fs Ns S ops.size).al id:=by
 intro id hid
 obtain ⟨_,hT⟩:=hr.step i ops[i] (by rw [kL,bI hi])
 simp only [e8] at hT
 obtain ⟨h1,h2⟩:=hT.new id hid
 simp only [HS]
 rintro (h|⟨k,hk,hSk,hm,h⟩)
 ·exact h1 (AC hr i 0 (by omega) (by omega) h)
 ·obtain ⟨_,hTk⟩:=hr.step k ops[k] (by rw [kL,bI hk])
  simp only [e8] at hTk
  obtain ⟨k1,k2⟩:=hTk.new id hm
  have hne:k≠i:=fun e=>by subst e;rw [hSi] at hSk;cases hSk
  rcases Nat.lt_or_gt_of_ne hne with hlt|hgt
  ·exact h1 (AC hr i (k+1) (by omega) (by omega) h)
  ·rcases h2 with h2|⟨h2,h3⟩
   ·rcases k2 with k2|⟨k2,_⟩<;>omega
   ·exact k1 (AC hr k (i+1) (by omega) (by omega) h3)
end
end Go.Abs
end
section
namespace Go.Abs
def Came (n:Nat)(M0:Nat→Prop)(H0:AHeap)(σ0:Nat→Option Ow)(w0:World)(K:(Nat→D)→AHeap→Prop)(a:Act)(w:World):Prop :=
 ∃ e H σ,K e H∧St n M0 H σ w e a∧Stp σ0 w0 σ w∧Keeps (c7 M0 H0 σ0) σ0 H0.al w0 (c7 M0 H σ) σ H.al w
theorem Came.mono {n:Nat}{M0:Nat→Prop}{H0:AHeap}{σ0:Nat→Option Ow}{w0:World}{K K':(Nat→D)→AHeap→Prop}{a:Act}{w:World}(h:Came n M0 H0 σ0 w0 K a w)
  (hk:∀ e H,K e H→K' e H):Came n M0 H0 σ0 w0 K' a w:=let ⟨e,H,σ,a,b⟩:=h;⟨e,H,σ,hk _ _ a,b⟩
theorem Came.trans {n:Nat}{M0:Nat→Prop}{H0 H1:AHeap}{σ0 σ1:Nat→Option Ow}{w0 w1:World}{K:(Nat→D)→AHeap→Prop}{a:Act}{w:World}
  (hs:Stp σ0 w0 σ1 w1) (hk:Keeps (c7 M0 H0 σ0) σ0 H0.al w0 (c7 M0 H1 σ1) σ1 H1.al w1) (h:Came n M0 H1 σ1 w1 K a w):Came n M0 H0 σ0 w0 K a w :=
 let ⟨e,H,σ,a,b,c,d⟩:=h;⟨e,H,σ,a,b,hs.trans c,hk.trans d⟩
section
variable {P:Program} {md:Nat→Bool} {n:Nat} {M0:Nat→Prop}
theorem Rel.bump {H:AHeap}{σ:Nat→Option Ow}{w:World}(h:Rel M0 H σ w){m:Nat}(hm:H.next≤m):Rel M0 { H with next:=m } σ w :=
 ⟨h.top,fun id hid=>cT (h.nxt id hid) hm,fun id k hk=>h.lies id k hk,h.inj,h.lt,h.m0⟩
theorem StepC.mono {ops:Array Oper}{Q:Exit→Act→World→Prop}{o:Oper}{K K':Act→World→Prop}{a:Act}{w:World}(h:∀ a w,K a w→K' a w)(hh:StepC P ops Q o K a w):StepC P ops Q o K' a w:=by
 unfold StepC at *
 split
 ·rename_i hw;rw [if_pos hw] at hh;exact hh.imp (Oper.wp_mono h) id
 ·rename_i hw;rw [if_neg hw] at hh;exact h _ _ hh
def lR (P:Program)(md:Nat→Bool)(ops:Array Oper):List Oper→(Nat→D)→AHeap→((Nat→D)→AHeap→Prop)→Prop
 | [],e,H,K=>K e H
 | o :: rest,e,H,K=>nC P md none H.next ops e o H fun v H' _=>lR P md ops rest (oW e o.dst v) H' K
theorem Gz {ops:Array Oper}{Q:Exit→Act→World→Prop}:∀ (l:List Oper) (e:Nat→D) (H:AHeap) (K:(Nat→D)→AHeap→Prop),lR P md ops l e H K→(∀ o∈l,zK n o.dst=true) →
  ∀ (σ:Nat→Option Ow) (w:World) (a:Act),St n M0 H σ w e a→(∀ a' w',Came n M0 H σ w K a' w'→Q .normal a' w')→wpList P ops Q l a w
 | [],e,H,K,h,hd,σ,w,a,hS,hQ=>wpList_nil (hQ a w ⟨e,H,σ,h,hS,.refl _ _,.refl _ _ _ _⟩)
 | o :: l,e,H,K,h,hd,σ,w,a,hS,hQ=>by
  unfold lR at h
  have hs:=xV (Q:=Q) h hS (fun hn=>mD _ (hS.rel.nxt _ hn)) (hd o (by simp))
  have:=StepC.mono (K':=wpList P ops Q l) (fun a' w' ⟨v,H',F,σ',hk,hS',hst,hkp⟩ =>
   Gz l _ _ _ hk (fun o' ho'=>hd o' (by simp [ho'])) σ' w' a' hS' fun a'' w'' hc=>hQ a'' w'' (hc.trans hst hkp)) hs
  unfold StepC at this
  unfold wpList
  exact this
theorem TA {ops:Array Oper}{e0:Nat→D}{vs:Nat→D}{S T:Nat→Bool}{m:Nat}(h:∀ k,k<m→S k=T k):eS ops e0 vs S m=eS ops e0 vs T m:=by
 funext t
 unfold eS
 rw [i7 (p:=fun k=>S k&&(lI ops k==some t)) (q:=fun k=>T k&&(lI ops k==some t)) m fun k hk=>by rw [h k hk]]
theorem PL {ops:Array Oper}{n0:Nat}{H0:AHeap}{Hs:Nat→AHeap}{Fs Ns:Nat→List Nat}{S T:Nat→Bool}{m:Nat}(h:∀ k,k<m→S k=T k):HS md ops n0 H0 Hs Fs Ns S m=HS md ops n0 H0 Hs Fs Ns T m:=by
 unfold HS
 congr 1
 ·funext id
  refine propext ⟨fun h'=>h'.imp (fun x=>x) fun ⟨k,hk,a,b⟩=>⟨k,hk,(h k hk) ▸ a,b⟩,fun h'=>h'.imp (fun x=>x) fun ⟨k,hk,a,b⟩=>⟨k,hk,(h k hk).symm ▸ a,b⟩⟩
 ·funext id
  rw [i7 (p:=fun k=>S k&&(oH md ops k&&(Fs k).contains id)) (q:=fun k=>T k&&(oH md ops k&&(Fs k).contains id)) m fun k hk=>by rw [h k hk]]
def Cy (S:Nat→Bool):Nat→Nat
 | 0=>0
 | m+1=>(if S m then 0 else 1)+Cy S m
theorem Mz {S:Nat→Bool}:∀ {m:Nat},Cy S m=0→∀ k,k<m→S k=true
 | 0,_,k,hk=>by omega
 | m+1,h,k,hk=>by
  simp only [Cy] at h
  by_cases hk':k=m
  ·subst hk';cases hS:S k<;>simp [hS] at h ⊢
  ·exact Mz (m:=m) (by omega) k (by omega)
theorem Gb {S T:Nat→Bool}:∀ {m:Nat},(∀ k,k<m→S k=T k)→Cy S m=Cy T m
 | 0,_=>rfl
 | m+1,h=>by simp only [Cy,h m (by omega),Gb (m:=m) fun k hk=>h k (by omega)]
theorem PA {S:Nat→Bool}{i:Nat}(hS:S i=false):∀ {m:Nat},i<m→Cy (lD S i) m+1=Cy S m
 | 0,h=>by omega
 | m+1,h=>by
  simp only [Cy]
  by_cases hi:i=m
  ·subst hi
   have h1:lD S i i=true:=by simp [lD]
   have h2:Cy (lD S i) i=Cy S i:=Gb fun k hk=>by
    have:(k==i)=false:=by simp;omega
    simp [lD,this]
   rw [h1,hS,h2];simp;omega
  ·have h1:lD S i m=S m:=by
    have:(m==i)=false:=by simp;omega
    simp [lD,this]
   have:=PA hS (m:=m) (by omega)
   rw [h1];omega
theorem Ov {ops : Array Oper} {sp : List (Nat × Nat)} {id : Nat} {e : Nat → D} {H : AHeap} {σ : Nat → Option Ow} {w : World} {a : Act} {K : (Nat → D) → AHeap → Prop} {Q : Exit → Act → World → Prop}
    (hm : P.follows .mixedOrders = true) (hs : uM md ops sp = true) (hd : ∀ o ∈ ops.toList, zK n o.dst = true)
    (h : iS P md ops sp H.next 0 ops.toList [] e { H with next := H.next + ops.size } K) (hS : St n M0 H σ w e a) (hQ : ∀ a' w', Came n M0 H σ w K a' w' → Q .normal a' w') :
    (Code.region id ops true).wp P Q a w := by
  refine wp_region_any hm ?_
  obtain ⟨hR1, hst1, hk1⟩ := hS.rel.drew
  have hRb := hR1.bump (m := H.next + ops.size) (by omega)
  have hSb : St n M0 { H with next := H.next + ops.size } σ w.drew e a := ⟨hRb, fun t => (hS.env t).keep hk1, hS.defers, hS.size⟩
  obtain ⟨es, Hs, vs, Fs, Ns, he, hH, hK, hrun, _⟩ := Je (nn := H.next + ops.size) ops.toList 0 [] e _ K h (fun i hi => hS.rel.nxt i hi) rfl (by simp)
  simp only [e8, dV] at hK
  have hn : (Hs 0).next = H.next + ops.size := by rw [hH]
  have key : ∀ (fuel : Nat) (listed : Array Bool) (a' : Act) (w' : World), listed.size = ops.size → Cy (fun k => listed.getD k false) ops.size ≤ fuel → Ks ops (fun k => listed.getD k false) →
      (∃ σ', St n M0 (HS md ops H.next (Hs 0) Hs Fs Ns (fun k => listed.getD k false) ops.size) σ' w' (eS ops (es 0) vs (fun k => listed.getD k false) ops.size) a' ∧ Stp σ w σ' w' ∧
        Keeps (c7 M0 H σ) σ H.al w (c7 M0 (HS md ops H.next (Hs 0) Hs Fs Ns (fun k => listed.getD k false) ops.size) σ') σ' (HS md ops H.next (Hs 0) Hs Fs Ns (fun k => listed.getD k false) ops.size).al w') →
      wpAny P .any ops Q fuel listed a' w' := by
    intro fuel
    induction fuel with
    | zero =>
      intro listed a' w' hl hc hD ⟨σ', hS', hst', hk'⟩
      have hall := Mz (S := fun k => listed.getD k false) (m := ops.size) (by omega)
      refine ⟨?_, ?_⟩
      · unfold Region.ready
        rw [List.filter_eq_nil_iff]
        intro i hi
        have hi' : i < ops.size := by simpa using hi
        have hg : listed.getD i true = true := by
          have := hall i hi'
          simp only [gW] at this ⊢
          rw [bI (by omega)] at this ⊢
          simpa using this
        simp [hg]
      · refine hQ a' w' ⟨es ops.size, Hs ops.size, σ', hK, ?_, hst', ?_⟩
        · obtain ⟨r1, r2⟩ := uQ hrun hn ops.size (bQ _)
          rw [r1, r2, TA (T := fun k => listed.getD k false) fun k hk => (hall k hk).symm, PL (T := fun k => listed.getD k false) fun k hk => (hall k hk).symm]
          exact hS'
        · obtain ⟨r1, r2⟩ := uQ hrun hn ops.size (bQ _)
          rw [r2, PL (T := fun k => listed.getD k false) fun k hk => (hall k hk).symm]
          exact hk'
    | succ fuel ih =>
      intro listed a' w' hl hc hD ⟨σ', hS', hst', hk'⟩
      have hready : ∀ i, i ∈ Region.ready .any ops listed → i < ops.size ∧ listed.getD i false = false ∧ ∀ o, ops[i]? = some o → ∀ ed ∈ o.after.toList, Region.binds .any ed = true → listed.getD ed.on false = true := by
        intro i hi
        unfold Region.ready at hi
        simp only [cO, aZ, aL, cV] at hi
        obtain ⟨h1, h2, h3⟩ := hi
        refine ⟨h1, ?_, fun o ho ed hed hb => ?_⟩
        · simp only [gW] at h2 ⊢
          rw [bI (by omega)] at h2 ⊢
          simpa using h2
        · rw [ho] at h3
          simp only [fD, aD, Array.all_eq_true_iff_forall_mem] at h3
          have := h3 ed (by simpa using hed)
          rw [hb] at this
          simpa using this
      refine ⟨fun hnil => ?_, fun i hi => ?_⟩
      · -- nothing is ready: all is done
        have hall : ∀ k, k < ops.size → listed.getD k false = true := by
          intro k
          induction k using Nat.strongRecOn with
          | _ k ihk =>
            intro hk
            cases hlk : listed.getD k false with
            | true => rfl
            | false =>
              exfalso
              have hmem : k ∈ Region.ready .any ops listed := by
                unfold Region.ready
                simp only [cO, aZ, aL, cV]
                refine ⟨hk, ?_, ?_⟩
                · simp only [gW] at hlk ⊢
                  rw [bI (by omega)] at hlk ⊢
                  simpa using hlk
                · have ho : ops[k]? = some ops[k] := bI hk
                  rw [ho]
                  simp only [fD, aD, Array.all_eq_true_iff_forall_mem]
                  intro ed hed
                  cases hb : Region.binds .any ed with
                  | false => simp
                  | true =>
                    have hlt := PX hs ho ed (by simpa using hed) hb
                    simp [ihk ed.on hlt (by omega)]
              rw [hnil] at hmem; cases hmem
        have := (ih listed a' w' hl (by
          have : Cy (fun k => listed.getD k false) ops.size = Cy (fun _ => true) ops.size := Gb hall
          have h0 : ∀ m, Cy (fun _ => true) m = 0 := fun m => by induction m with
            | zero => rfl
            | succ m ih => simp [Cy, ih]
          rw [this, h0]; omega) hD ⟨σ', hS', hst', hk'⟩)
        cases fuel with
        | zero => exact this.2
        | succ f => exact this.1 hnil
      · obtain ⟨hi1, hi2, hi3⟩ := hready i hi
        have ho : ops[i]? = some ops[i] := bI hi1
        have hD' : Ks ops (lD (fun k => listed.getD k false) i) := by
          intro j o hj hSj ed hed hb
          simp only [lD, bT, beq_iff_eq] at hSj
          simp only [lD, bT]
          rcases hSj with rfl | hSj
          · exact .inr (hi3 o hj ed hed hb)
          · exact .inr (hD j o hj hSj ed hed hb)
        have hset : (fun k => (listed.setIfInBounds i true).getD k false) = lD (fun k => listed.getD k false) i := by
          funext k
          simp only [lD, gW, Array.getElem?_setIfInBounds]
          by_cases hki : k = i
          · subst hki; simp [hl, hi1]
          · have : ¬ i = k := fun h => hki h.symm
            have h2 : (k == i) = false := by simpa using hki
            simp [this, h2]
        obtain ⟨henv, hag⟩ := Ib hrun hn hs hD hD' hi1 hi2
        obtain ⟨ha1, ha2⟩ := Q9 hrun hn hs hD hD' hi1 hi2
        obtain ⟨_, hT⟩ := hrun.step i ops[i] (by rw [kL, ho])
        simp only [e8] at hT
        have hnewi := Qh hrun (S := fun k => listed.getD k false) hi1 hi2
        have hNlt : ∀ id ∈ Ns i, id < H.next + ops.size := fun id hid => by rcases (hT.new id hid).2 with h | ⟨h, _⟩ <;> omega
        have hnal : ¬ (HS md ops H.next (Hs 0) Hs Fs Ns (fun k => listed.getD k false) ops.size).al (H.next + i) := by
          simp only [HS]
          rintro (h | ⟨k, hk, hSk, hkk, _⟩)
          · rw [hH] at h
            have := hS.rel.nxt _ h; omega
          · obtain ⟨_, hTk⟩ := hrun.step k ops[k] (by rw [kL, bI hk])
            simp only [e8] at hTk
            have : k = i := by rcases (hTk.new _ hkk).2 with h | ⟨h, _⟩ <;> omega
            subst this
            rw [hi2] at hSk; cases hSk
        have hstep := hT.any _ _ henv hag (by simp only [HS]; omega) hnal (fun id hid => ⟨by simp only [HS]; exact hNlt id hid, hnewi id hid⟩)
        have hc := xV (Q := Q) hstep hS' hnal (hd ops[i] (by simp)) (fun m hm => by cases hm; simp only [HS]; omega)
        have hgoal : StepC P ops Q ops[i] (wpAny P .any ops Q fuel (listed.setIfInBounds i true)) a' w' := by
          refine StepC.mono (fun a'' w'' ⟨v, H', F, σ'', ⟨hv, hH'⟩, hS'', hst'', hk''⟩ => ?_) hc
          subst hv; subst hH'
          refine ih _ a'' w'' (by simpa using hl) ?_ (by rw [hset]; exact hD') ⟨σ'', ?_, hst'.trans hst'', ?_⟩
          · rw [hset]
            have := PA (S := fun k => listed.getD k false) hi2 hi1
            omega
          · rw [hset, ← ha1, ← ha2]; exact hS''
          · rw [hset, ← ha2]; exact hk'.trans hk''
        unfold wpOp
        rw [ho]
        exact hgoal
  refine key ops.size _ a _ (by simp) ?_ ?_ ⟨σ, ?_, hst1, ?_⟩
  · have : ∀ S : Nat → Bool, ∀ m, Cy S m ≤ m := fun S m => by
      induction m with
      | zero => simp [Cy]
      | succ m ih => simp only [Cy]; split <;> omega
    exact this _ _
  · intro j o ho hSj
    exfalso
    have hj : j < ops.size := (iD.1 ho).1
    simp [hj] at hSj
  · have hS0 : (fun k => (Array.replicate ops.size false).getD k false) = fun _ => false := by
      funext k
      by_cases hk : k < ops.size <;> simp [hk]
    have hl0 : ∀ (p : Nat → Bool) m, fR (fun k => false && p k) m = none := fun p m => by
      induction m with
      | zero => rfl
      | succ m ih => simp only [fR, nF, eM, if_false]; exact ih
    have e1 : eS ops (es 0) vs (fun k => (Array.replicate ops.size false).getD k false) ops.size = e := by
      rw [hS0]; funext t; simp only [eS, hl0 (fun k => lI ops k == some t)]; rw [he]
    have e2 : HS md ops H.next (Hs 0) Hs Fs Ns (fun k => (Array.replicate ops.size false).getD k false) ops.size = { H with next := H.next + ops.size } := by
      rw [hS0]
      simp only [HS, AHeap.mk.injEq, true_and]
      refine ⟨funext fun id => propext ⟨fun h => h.elim (fun h => by rw [hH] at h; exact h) fun ⟨_, _, h, _⟩ => (by cases h), fun h => .inl (by rw [hH]; exact h)⟩, funext fun id => ?_⟩
      rw [hl0 (fun k => oH md ops k && (Fs k).contains id), hH]
    rw [e1, e2]; exact hSb
  · have hS0 : (fun k => (Array.replicate ops.size false).getD k false) = fun _ => false := by
      funext k
      by_cases hk : k < ops.size <;> simp [hk]
    have hl0 : ∀ (p : Nat → Bool) m, fR (fun k => false && p k) m = none := fun p m => by
      induction m with
      | zero => rfl
      | succ m ih => simp only [fR, nF, eM, if_false]; exact ih
    have e2 : HS md ops H.next (Hs 0) Hs Fs Ns (fun k => (Array.replicate ops.size false).getD k false) ops.size = { H with next := H.next + ops.size } := by
      rw [hS0]
      simp only [HS, AHeap.mk.injEq, true_and]
      refine ⟨funext fun id => propext ⟨fun h => h.elim (fun h => by rw [hH] at h; exact h) fun ⟨_, _, h, _⟩ => (by cases h), fun h => .inl (by rw [hH]; exact h)⟩, funext fun id => ?_⟩
      rw [hl0 (fun k => oH md ops k && (Fs k).contains id), hH]
    rw [e2]; exact hk1
end
end Go.Abs
end
