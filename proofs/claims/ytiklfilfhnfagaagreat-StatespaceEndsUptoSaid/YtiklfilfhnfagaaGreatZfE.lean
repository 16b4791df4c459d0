/- The abstraction layer, part Q: the theorem on regions that d -/
import Derived.Test.YtiklfilfhnfagaaGreatZfD
set_option linter.unusedVariables false
set_option linter.unusedSimpArgs false
section
namespace Go.Abs
theorem B1 {p:Nat→Bool}{i:Nat}:∀ (n:Nat),i<n→p i=true→(∀ k,i<k→k<n→p k=false)→fV p n=some i
 | 0,h,_,_=>by omega
 | n+1,h,hp,hk=>by
  by_cases hi:i=n
  ·subst hi;simp [fV,hp]
  ·simp only [fV,hk n (by omega) (by omega),dV,if_false]
   exact B1 n (by omega) hp fun k h1 h2=>hk k h1 (by omega)
section
variable (md:Nat→Bool) (ops:Array Oper) (n0:Nat) (e0:Nat→D) (H0:AHeap) (Hs:Nat→AHeap) (vs:Nat→D) (Fs Ns:Nat→List Nat)
def mA (i:Nat):Option Tmp:=(ops[i]?).bind (·.dst)
def o6 (i:Nat):Bool:=match ops[i]? with|some o=>lU md o|none=>false
def eS (S:Nat→Bool)(m:Nat):Nat→D:=fun t =>
 match fV (fun k=>S k&&(mA ops k==some t)) m with
 | some k=>vs k
 | none=>e0 t
def HS (S:Nat→Bool)(m:Nat):AHeap where
 next:=n0+ops.size
 al:=fun id=>H0.al id∨∃ k,k<m∧S k=true∧id∈Ns k∧(Hs (k+1)).al id
 get:=fun id=>match fV (fun k=>S k&&(o6 md ops k&&(Fs k).contains id)) m with
  | some k=>(Hs (k+1)).get id
  | none=>H0.get id
end
section
variable {P:Program} {md:Nat→Bool} {ops:Array Oper} {sp:List (Nat × Nat)} {n0:Nat} {es:Nat→Nat→D} {Hs:Nat→AHeap} {vs:Nat→D} {Fs Ns:Nat→List Nat}
theorem lA (i:Nat):ops.toList[i]?=ops[i]?:=by simp
theorem uL (hr : Run P md ops sp n0 es Hs vs Fs Ns 0 ops.toList) (hn : (Hs 0).next = n0 + ops.size) : ∀ i, i ≤ ops.size → es i = eS ops (es 0) vs (fun _ => true) i ∧ Hs i = HS md ops n0 (Hs 0) Hs Fs Ns (fun _ => true) i
  | 0, _ => ⟨by funext t; rfl, by
      generalize hH : Hs 0 = X at hn
      obtain ⟨nx, al, g⟩ := X
      simp only [HS, AHeap.mk.injEq]
      refine ⟨hn, funext fun id => propext ⟨.inl, fun h => h.elim (fun h => h) fun ⟨k, hk, _⟩ => by omega⟩, funext fun id => rfl⟩⟩
  | i + 1, hi => by
    obtain ⟨ih1, ih2⟩ := uL hr hn i (by omega)
    have hlt : i < ops.size := by omega
    have ho : ops[i]? = some ops[i] := aZ hlt
    obtain ⟨h1, hT⟩ := hr.step i ops[i] (by rw [lA, ho])
    simp only [dR] at h1 hT
    refine ⟨?_, ?_⟩
    · rw [h1, ih1]
      funext t
      simp only [eS, fV, gL]
      have hd : mA ops i = ops[i].dst := by simp [mA, ho]
      cases hdd : ops[i].dst with
      | none => simp [kY, hd, hdd, eS]
      | some d =>
        by_cases ht : t = d
        · subst ht; simp [kY, hd, hdd]
        · have ht' : ¬ d = t := fun h => ht h.symm
          simp [kY, hd, hdd, ht, ht', eS]
    · have hself := hT.self
      have hw : o6 md ops i = lU md ops[i] := by simp [o6, ho]
      have hget : ∀ id, (Hs (i + 1)).get id = if (o6 md ops i && (Fs i).contains id) = true then (Hs (i + 1)).get id else (Hs i).get id := by
        intro id
        split
        · rfl
        · rename_i hc
          by_cases hwr : o6 md ops i = true
          · have hnc : id ∉ Fs i := fun h => hc (by simp [hwr, h])
            rw [hself]; simp [tL, hnc]
          · rw [hT.still (by rw [← hw]; simpa using hwr)]
      have hnext : (Hs (i + 1)).next = n0 + ops.size := by rw [hself, ih2]; rfl
      have halq : ∀ id, (Hs (i + 1)).al id ↔ (Hs i).al id ∨ (id ∈ Ns i ∧ (Hs (i + 1)).al id) := fun id => by
        constructor
        · intro h; rw [hself] at h; exact h
        · intro h; rw [hself]; exact h
      generalize hH : Hs (i + 1) = X at hget hnext halq
      obtain ⟨nx, al, g⟩ := X
      simp only [HS, AHeap.mk.injEq]
      refine ⟨hnext, funext fun id => propext ?_, funext fun id => ?_⟩
      · rw [show al id ↔ _ from halq id, ih2]
        simp only [HS]
        constructor
        · rintro ((h | ⟨k, hk, _, hm, h⟩) | ⟨hm, h⟩)
          · exact .inl h
          · exact .inr ⟨k, by omega, trivial, hm, h⟩
          · exact .inr ⟨i, by omega, trivial, hm, by rw [hH]; exact h⟩
        · rintro (h | ⟨k, hk, _, hm, h⟩)
          · exact .inl (.inl h)
          · by_cases hki : k = i
            · subst hki; rw [hH] at h; exact .inr ⟨hm, h⟩
            · exact .inl (.inr ⟨k, by omega, trivial, hm, h⟩)
      · have := hget id
        simp only at this
        rw [this, ih2]
        simp only [HS, fV, gL]
        split
        · simp only [hH]
        · rfl
theorem qC (h:uJ md ops sp=true){i j:Nat}(hij:i<j)(hj:j<ops.size) :
  ((Lh ops.toList []).getD j 0).testBit i=true∨(IZ ops (ops[i]'(by omega)) ops[j]=false∧(FL md (ops[i]'(by omega)) ops[j]=false∨(i,j)∈sp)):=by
 unfold uJ at h
 simp only [dJ,b7] at h
 have h1:=h j hj
 rw [aZ hj] at h1
 simp only [aQ,dJ,b7] at h1
 have h2:=h1.2 i hij
 rw [aZ (by omega)] at h2
 simp only [cK,aQ,cH,wB] at h2
 exact h2
theorem Oo (h:uJ md ops sp=true){j:Nat}{o:Oper}(ho:ops[j]?=some o):∀ e∈o.after.toList,Region.binds .any e=true→e.on<j:=by
 have hj:j<ops.size:=(kT.1 ho).1
 unfold uJ at h
 simp only [dJ,b7] at h
 have h1:=h j hj
 rw [ho] at h1
 simp only [aQ,dJ,cK,cH,decide_eq_true_eq] at h1
 intro e he hb
 rcases h1.1.1 e he with h2|h2
 ·rw [hb] at h2;cases h2
 ·exact h2
variable {S:Nat→Bool} {i:Nat}
def l8 (S:Nat→Bool)(i:Nat):Nat→Bool:=fun k=>k==i||S k
theorem H4 {o:Op}(h:uD o=true):pD o=true:=by
 cases o<;>first|rfl|(simp [uD] at h;done)|exact h
theorem oV {md:Nat→Bool}{o:Oper}(h:lU md o=true):pD o.op=true:=by
 unfold lU at h
 rw [cK] at h
 rcases h with h|h
 ·exact H4 h
 ·unfold DC at h
  split at h
  ·rename_i hop;rw [hop];rfl
  ·cases h
theorem xT {x y:Oper}(h:IZ ops x y=false):(∀ t,x.dst=some t→t∉y.looksAt ops∧y.dst≠some t)∧(∀ t,y.dst=some t→t∉x.looksAt ops):=by
 have:=Oper.apart_spec (by simpa [IZ] using h)
 exact ⟨fun t ht=>⟨this.1 t ht,this.2.1 t ht⟩,this.2.2⟩
theorem CP (hs:uJ md ops sp=true)(hD:Jm ops S)(hD':Jm ops (l8 S i))(hi:i<ops.size)(hSi:S i=false) :
  (∀ k,k<i→(((Lh ops.toList []).getD i 0).testBit k=true)→S k=true)∧(∀ k,i<k→k<ops.size→((Lh ops.toList []).getD k 0).testBit i=true→S k=false):=by
 refine ⟨fun k hk hb=>?_,fun k hk hk2 hb=>?_⟩
 ·have:=HO hD' i k (by simp [l8]) hb
  simp only [l8,cK,beq_iff_eq] at this
  rcases this with h|h
  ·omega
  ·exact h
 ·cases hSk:S k with
  | false=>rfl
  | true=>have:=HO hD k i hSk hb;rw [hSi] at this;cases this
theorem G7 (hr : Run P md ops sp n0 es Hs vs Fs Ns 0 ops.toList) (hn : (Hs 0).next = n0 + ops.size) (hs : uJ md ops sp = true) (hD : Jm ops S) (hD' : Jm ops (l8 S i)) (hi : i < ops.size) (hSi : S i = false) :
    (∀ t ∈ (ops[i]).looksAt ops, eS ops (es 0) vs S ops.size t = es i t) ∧ fD (Fs i) (HS md ops n0 (Hs 0) Hs Fs Ns S ops.size) (Hs i) := by
  obtain ⟨o1, o2⟩ := CP hs hD hD' hi hSi
  obtain ⟨e1, e2⟩ := uL hr hn i (by omega)
  have hgetk : ∀ k, k < ops.size → mA ops k = (ops[k]?).bind (·.dst) := fun k _ => rfl
  obtain ⟨_, hT⟩ := hr.step i ops[i] (by rw [lA, aZ hi])
  simp only [dR] at hT
  refine ⟨fun t ht => ?_, fun id hid => ?_⟩
  · rw [e1]
    simp only [eS, gL]
    have hl : fV (fun k => S k && (mA ops k == some t)) ops.size = fV (fun k => mA ops k == some t) i := by
      rw [z6 (p := fun k => S k && (mA ops k == some t)) i ops.size (by omega) (fun k hk hk2 => ?_)]
      · refine jE i fun k hk => ?_
        cases hd : (mA ops k == some t) with
        | false => simp
        | true =>
          have hks : k < ops.size := by omega
          have hdk : ops[k].dst = some t := by simpa [mA, aZ hks] using hd
          rcases qC hs hk hi with h | ⟨h, _⟩
          · simp [o1 k hk h]
          · exact absurd ht ((xT h).1 t hdk).1
      · by_cases hki : k = i
        · subst hki; simp [hSi]
        · cases hd : (mA ops k == some t) with
          | false => simp
          | true =>
            have hdk : ops[k].dst = some t := by simpa [mA, aZ hk2] using hd
            rcases qC hs (show i < k by omega) hk2 with h | ⟨h, _⟩
            · simp [o2 k (by omega) hk2 h]
            · exact absurd ht ((xT h).2 t hdk)
    rw [hl]
  · rw [e2]
    have hheap : pD ops[i].op = true := by
      cases hh : pD ops[i].op with
      | true => rfl
      | false => rw [hT.foot hh] at hid; cases hid
    simp only [HS, gL]
    have hl : fV (fun k => S k && (o6 md ops k && (Fs k).contains id)) ops.size = fV (fun k => o6 md ops k && (Fs k).contains id) i := by
      rw [z6 (p := fun k => S k && (o6 md ops k && (Fs k).contains id)) i ops.size (by omega) (fun k hk hk2 => ?_)]
      · refine jE i fun k hk => ?_
        cases hd : (o6 md ops k && (Fs k).contains id) with
        | false => simp
        | true =>
          have hks : k < ops.size := by omega
          simp only [aQ, wB] at hd
          have hwk : lU md ops[k] = true := by simpa [o6, aZ hks] using hd.1
          rcases qC hs hk hi with h | ⟨_, h | h⟩
          · simp [o1 k hk h]
          · simp [FL, hheap, oV hwk, hwk] at h
          · have hap := hr.apart k i hk (by simpa using hi)
            simp only [dR] at hap
            exact absurd hid (hap h id hd.2)
      · by_cases hki : k = i
        · subst hki; simp [hSi]
        · cases hd : (o6 md ops k && (Fs k).contains id) with
          | false => simp
          | true =>
            simp only [aQ, wB] at hd
            have hwk : lU md ops[k] = true := by simpa [o6, aZ hk2] using hd.1
            rcases qC hs (show i < k by omega) hk2 with h | ⟨_, h | h⟩
            · simp [o2 k (by omega) hk2 h]
            · simp [FL, hheap, oV hwk, hwk] at h
            · have hap := hr.apart i k (by omega) (by simpa using hk2)
              simp only [dR] at hap
              exact absurd hd.2 (hap h id hid)
    rw [hl]
theorem PV (hr : Run P md ops sp n0 es Hs vs Fs Ns 0 ops.toList) (hn : (Hs 0).next = n0 + ops.size) (hs : uJ md ops sp = true) (hD : Jm ops S) (hD' : Jm ops (l8 S i)) (hi : i < ops.size) (hSi : S i = false) :
    kY (eS ops (es 0) vs S ops.size) ops[i].dst (vs i) = eS ops (es 0) vs (l8 S i) ops.size ∧
    tL (HS md ops n0 (Hs 0) Hs Fs Ns S ops.size) (Hs (i + 1)) (Fs i) (Ns i) = HS md ops n0 (Hs 0) Hs Fs Ns (l8 S i) ops.size := by
  obtain ⟨o1, o2⟩ := CP hs hD hD' hi hSi
  obtain ⟨_, hT⟩ := hr.step i ops[i] (by rw [lA, aZ hi])
  simp only [dR] at hT
  have hag := (G7 hr hn hs hD hD' hi hSi).2
  have hio : ops[i]? = some ops[i] := aZ hi
  refine ⟨?_, ?_⟩
  · funext t
    by_cases ht : ops[i].dst = some t
    · have hl : fV (fun k => l8 S i k && (mA ops k == some t)) ops.size = some i := by
        refine B1 ops.size hi (by simp [l8, mA, hio, ht]) fun k hk hk2 => ?_
        cases hd : (mA ops k == some t) with
        | false => simp
        | true =>
          have hdk : ops[k].dst = some t := by simpa [mA, aZ hk2] using hd
          rcases qC hs hk hk2 with h | ⟨h, _⟩
          · have hki : (k == i) = false := by simp; omega
            simp [l8, hki, o2 k hk hk2 h]
          · exact absurd hdk ((xT h).1 t ht).2
      simp only [eS, hl, kY, ht, if_true]
    · have hl : fV (fun k => l8 S i k && (mA ops k == some t)) ops.size = fV (fun k => S k && (mA ops k == some t)) ops.size := by
        refine jE _ fun k hk => ?_
        by_cases hki : k = i
        · subst hki
          have : (mA ops k == some t) = false := by simp [mA, hio]; exact ht
          simp [this]
        · have : (k == i) = false := by simpa using hki
          simp [l8, this]
      simp only [eS, hl]
      cases hdd : ops[i].dst with
      | none => rfl
      | some d =>
        have : ¬ t = d := fun h => ht (by rw [hdd, h])
        simp only [kY, this, if_false]
        rfl
  · simp only [tL, HS, AHeap.mk.injEq, true_and]
    refine ⟨funext fun id => propext ?_, funext fun id => ?_⟩
    · constructor
      · rintro ((h | ⟨k, hk, hSk, hm, h⟩) | ⟨hm, h⟩)
        · exact .inl h
        · exact .inr ⟨k, hk, by simp [l8, hSk], hm, h⟩
        · exact .inr ⟨i, hi, by simp [l8], hm, h⟩
      · rintro (h | ⟨k, hk, hSk, hm, h⟩)
        · exact .inl (.inl h)
        · by_cases hki : k = i
          · subst hki; exact .inr ⟨hm, h⟩
          · have : (k == i) = false := by simpa using hki
            exact .inl (.inr ⟨k, hk, by simpa [l8, this] using hSk, hm, h⟩)
    · by_cases hw : lU md ops[i] = true
      · by_cases hid : id ∈ Fs i
        · rw [if_pos hid]
          have hl : fV (fun k => l8 S i k && (o6 md ops k && (Fs k).contains id)) ops.size = some i := by
            refine B1 ops.size hi (by simp [l8, o6, hio, hw, hid]) fun k hk hk2 => ?_
            cases hd : (o6 md ops k && (Fs k).contains id) with
            | false => simp
            | true =>
              simp only [aQ, wB] at hd
              have hwk : lU md ops[k] = true := by simpa [o6, aZ hk2] using hd.1
              rcases qC hs hk hk2 with h | ⟨_, h | h⟩
              · have hki : (k == i) = false := by simp; omega
                simp [l8, hki, o2 k hk hk2 h]
              · simp [FL, oV hw, oV hwk, hwk] at h
              · have hap := hr.apart i k hk (by simpa using hk2)
                simp only [dR] at hap
                exact absurd hd.2 (hap h id hid)
          rw [hl]
        · rw [if_neg hid]
          have hl : fV (fun k => l8 S i k && (o6 md ops k && (Fs k).contains id)) ops.size = fV (fun k => S k && (o6 md ops k && (Fs k).contains id)) ops.size := by
            refine jE _ fun k hk => ?_
            by_cases hki : k = i
            · subst hki; simp [hid]
            · have : (k == i) = false := by simpa using hki
              simp [l8, this]
          rw [hl]
      · have hl : fV (fun k => l8 S i k && (o6 md ops k && (Fs k).contains id)) ops.size = fV (fun k => S k && (o6 md ops k && (Fs k).contains id)) ops.size := by
          refine jE _ fun k hk => ?_
          by_cases hki : k = i
          · subst hki
            have : o6 md ops k = false := by simp [o6, hio]; simpa using hw
            simp [this]
          · have : (k == i) = false := by simpa using hki
            simp [l8, this]
        rw [hl]
        by_cases hid : id ∈ Fs i
        · rw [if_pos hid, hT.still (by simpa using hw), ← hag id hid]
          rfl
        · rw [if_neg hid]
theorem AF (hr:Run P md ops sp n0 es Hs vs Fs Ns 0 ops.toList){id:Nat}:∀ (j k:Nat),k≤j→j≤ops.size→(Hs k).al id→(Hs j).al id
 | 0,k,hk,_,h=>by rw [show (0:Nat)=k by omega];exact h
 | j+1,k,hk,hj,h=>by
  by_cases he:k=j+1
  ·rw [← he];exact h
  ·have ih:=AF hr j k (by omega) (by omega) h
   obtain ⟨_,hT⟩:=hr.step j ops[j] (by rw [lA,aZ (by omega)])
   simp only [dR] at hT
   rw [hT.self]
   exact .inl ih
theorem OP (hr:Run P md ops sp n0 es Hs vs Fs Ns 0 ops.toList)(hi:i<ops.size)(hSi:S i=false):∀ id∈Ns i,¬ (HS md ops n0 (Hs 0) Hs Fs Ns S ops.size).al id:=by
 intro id hid
 obtain ⟨_,hT⟩:=hr.step i ops[i] (by rw [lA,aZ hi])
 simp only [dR] at hT
 obtain ⟨h1,h2⟩:=hT.new id hid
 simp only [HS]
 rintro (h|⟨k,hk,hSk,hm,h⟩)
 ·exact h1 (AF hr i 0 (by omega) (by omega) h)
 ·obtain ⟨_,hTk⟩:=hr.step k ops[k] (by rw [lA,aZ hk])
  simp only [dR] at hTk
  obtain ⟨k1,k2⟩:=hTk.new id hm
  have hne:k≠i:=fun e=>by subst e;rw [hSi] at hSk;cases hSk
  rcases Nat.lt_or_gt_of_ne hne with hlt|hgt
  ·exact h1 (AF hr i (k+1) (by omega) (by omega) h)
  ·rcases h2 with h2|⟨h2,h3⟩
   ·rcases k2 with k2|⟨k2,_⟩<;>omega
   ·exact k1 (AF hr k (i+1) (by omega) (by omega) h3)
end
end Go.Abs
end
section
namespace Go.Abs
def Came (n:Nat)(M0:Nat→Prop)(H0:AHeap)(σ0:Nat→Option Ow)(w0:World)(K:(Nat→D)→AHeap→Prop)(a:Act)(w:World):Prop :=
 ∃ e H σ,K e H∧St n M0 H σ w e a∧Stp σ0 w0 σ w∧Keeps (cF M0 H0 σ0) σ0 H0.al w0 (cF M0 H σ) σ H.al w
theorem Came.mono {n:Nat}{M0:Nat→Prop}{H0:AHeap}{σ0:Nat→Option Ow}{w0:World}{K K':(Nat→D)→AHeap→Prop}{a:Act}{w:World}(h:Came n M0 H0 σ0 w0 K a w)
  (hk:∀ e H,K e H→K' e H):Came n M0 H0 σ0 w0 K' a w:=let ⟨e,H,σ,a,b⟩:=h;⟨e,H,σ,hk _ _ a,b⟩
theorem Came.trans {n:Nat}{M0:Nat→Prop}{H0 H1:AHeap}{σ0 σ1:Nat→Option Ow}{w0 w1:World}{K:(Nat→D)→AHeap→Prop}{a:Act}{w:World}
  (hs:Stp σ0 w0 σ1 w1) (hk:Keeps (cF M0 H0 σ0) σ0 H0.al w0 (cF M0 H1 σ1) σ1 H1.al w1) (h:Came n M0 H1 σ1 w1 K a w):Came n M0 H0 σ0 w0 K a w :=
 let ⟨e,H,σ,a,b,c,d⟩:=h;⟨e,H,σ,a,b,hs.trans c,hk.trans d⟩
section
variable {P:Program} {md:Nat→Bool} {n:Nat} {M0:Nat→Prop}
theorem Rel.bump {H:AHeap}{σ:Nat→Option Ow}{w:World}(h:Rel M0 H σ w){m:Nat}(hm:H.next≤m):Rel M0 { H with next:=m } σ w :=
 ⟨h.top,fun id hid=>b8 (h.nxt id hid) hm,fun id k hk=>h.lies id k hk,h.inj,h.lt,h.m0⟩
theorem StepC.mono {ops:Array Oper}{Q:Exit→Act→World→Prop}{o:Oper}{K K':Act→World→Prop}{a:Act}{w:World}(h:∀ a w,K a w→K' a w)(hh:StepC P ops Q o K a w):StepC P ops Q o K' a w:=by
 unfold StepC at *
 split
 ·rename_i hw;rw [if_pos hw] at hh;exact hh.imp (Oper.wp_mono h) id
 ·rename_i hw;rw [if_neg hw] at hh;exact h _ _ hh
def lQ (P:Program)(md:Nat→Bool)(ops:Array Oper):List Oper→(Nat→D)→AHeap→((Nat→D)→AHeap→Prop)→Prop
 | [],e,H,K=>K e H
 | o :: rest,e,H,K=>oB P md none H.next ops e o H fun v H' _=>lQ P md ops rest (kY e o.dst v) H' K
theorem F3 {ops:Array Oper}{Q:Exit→Act→World→Prop}:∀ (l:List Oper) (e:Nat→D) (H:AHeap) (K:(Nat→D)→AHeap→Prop),lQ P md ops l e H K→(∀ o∈l,pG n o.dst=true) →
  ∀ (σ:Nat→Option Ow) (w:World) (a:Act),St n M0 H σ w e a→(∀ a' w',Came n M0 H σ w K a' w'→Q .normal a' w')→wpList P ops Q l a w
 | [],e,H,K,h,hd,σ,w,a,hS,hQ=>wpList_nil (hQ a w ⟨e,H,σ,h,hS,.refl _ _,.refl _ _ _ _⟩)
 | o :: l,e,H,K,h,hd,σ,w,a,hS,hQ=>by
  unfold lQ at h
  have hs:=xX (Q:=Q) h hS (fun hn=>iX _ (hS.rel.nxt _ hn)) (hd o (by simp))
  have:=StepC.mono (K':=wpList P ops Q l) (fun a' w' ⟨v,H',F,σ',hk,hS',hst,hkp⟩ =>
   F3 l _ _ _ hk (fun o' ho'=>hd o' (by simp [ho'])) σ' w' a' hS' fun a'' w'' hc=>hQ a'' w'' (hc.trans hst hkp)) hs
  unfold StepC at this
  unfold wpList
  exact this
theorem SL {ops:Array Oper}{e0:Nat→D}{vs:Nat→D}{S T:Nat→Bool}{m:Nat}(h:∀ k,k<m→S k=T k):eS ops e0 vs S m=eS ops e0 vs T m:=by
 funext t
 unfold eS
 rw [jE (p:=fun k=>S k&&(mA ops k==some t)) (q:=fun k=>T k&&(mA ops k==some t)) m fun k hk=>by rw [h k hk]]
theorem Oc {ops:Array Oper}{n0:Nat}{H0:AHeap}{Hs:Nat→AHeap}{Fs Ns:Nat→List Nat}{S T:Nat→Bool}{m:Nat}(h:∀ k,k<m→S k=T k):HS md ops n0 H0 Hs Fs Ns S m=HS md ops n0 H0 Hs Fs Ns T m:=by
 unfold HS
 congr 1
 ·funext id
  refine propext ⟨fun h'=>h'.imp (fun x=>x) fun ⟨k,hk,a,b⟩=>⟨k,hk,(h k hk) ▸ a,b⟩,fun h'=>h'.imp (fun x=>x) fun ⟨k,hk,a,b⟩=>⟨k,hk,(h k hk).symm ▸ a,b⟩⟩
 ·funext id
  rw [jE (p:=fun k=>S k&&(o6 md ops k&&(Fs k).contains id)) (q:=fun k=>T k&&(o6 md ops k&&(Fs k).contains id)) m fun k hk=>by rw [h k hk]]
def v7 (S:Nat→Bool):Nat→Nat
 | 0=>0
 | m+1=>(if S m then 0 else 1)+v7 S m
theorem KZ {S:Nat→Bool}:∀ {m:Nat},v7 S m=0→∀ k,k<m→S k=true
 | 0,_,k,hk=>by omega
 | m+1,h,k,hk=>by
  simp only [v7] at h
  by_cases hk':k=m
  ·subst hk';cases hS:S k<;>simp [hS] at h ⊢
  ·exact KZ (m:=m) (by omega) k (by omega)
theorem FE {S T:Nat→Bool}:∀ {m:Nat},(∀ k,k<m→S k=T k)→v7 S m=v7 T m
 | 0,_=>rfl
 | m+1,h=>by simp only [v7,h m (by omega),FE (m:=m) fun k hk=>h k (by omega)]
theorem NV {S:Nat→Bool}{i:Nat}(hS:S i=false):∀ {m:Nat},i<m→v7 (l8 S i) m+1=v7 S m
 | 0,h=>by omega
 | m+1,h=>by
  simp only [v7]
  by_cases hi:i=m
  ·subst hi
   have h1:l8 S i i=true:=by simp [l8]
   have h2:v7 (l8 S i) i=v7 S i:=FE fun k hk=>by
    have:(k==i)=false:=by simp;omega
    simp [l8,this]
   rw [h1,hS,h2];simp;omega
  ·have h1:l8 S i m=S m:=by
    have:(m==i)=false:=by simp;omega
    simp [l8,this]
   have:=NV hS (m:=m) (by omega)
   rw [h1];omega
theorem ME {ops : Array Oper} {sp : List (Nat × Nat)} {id : Nat} {e : Nat → D} {H : AHeap} {σ : Nat → Option Ow} {w : World} {a : Act} {K : (Nat → D) → AHeap → Prop} {Q : Exit → Act → World → Prop}
    (hm : P.follows .mixedOrders = true) (hs : uJ md ops sp = true) (hd : ∀ o ∈ ops.toList, pG n o.dst = true)
    (h : jL P md ops sp H.next 0 ops.toList [] e { H with next := H.next + ops.size } K) (hS : St n M0 H σ w e a) (hQ : ∀ a' w', Came n M0 H σ w K a' w' → Q .normal a' w') :
    (Code.region id ops true).wp P Q a w := by
  refine wp_region_any hm ?_
  obtain ⟨hR1, hst1, hk1⟩ := hS.rel.drew
  have hRb := hR1.bump (m := H.next + ops.size) (by omega)
  have hSb : St n M0 { H with next := H.next + ops.size } σ w.drew e a := ⟨hRb, fun t => (hS.env t).keep hk1, hS.defers, hS.size⟩
  obtain ⟨es, Hs, vs, Fs, Ns, he, hH, hK, hrun, _⟩ := HY (nn := H.next + ops.size) ops.toList 0 [] e _ K h (fun i hi => hS.rel.nxt i hi) rfl (by simp)
  simp only [dR, fL] at hK
  have hn : (Hs 0).next = H.next + ops.size := by rw [hH]
  have key : ∀ (fuel : Nat) (listed : Array Bool) (a' : Act) (w' : World), listed.size = ops.size → v7 (fun k => listed.getD k false) ops.size ≤ fuel → Jm ops (fun k => listed.getD k false) →
      (∃ σ', St n M0 (HS md ops H.next (Hs 0) Hs Fs Ns (fun k => listed.getD k false) ops.size) σ' w' (eS ops (es 0) vs (fun k => listed.getD k false) ops.size) a' ∧ Stp σ w σ' w' ∧
        Keeps (cF M0 H σ) σ H.al w (cF M0 (HS md ops H.next (Hs 0) Hs Fs Ns (fun k => listed.getD k false) ops.size) σ') σ' (HS md ops H.next (Hs 0) Hs Fs Ns (fun k => listed.getD k false) ops.size).al w') →
      wpAny P .any ops Q fuel listed a' w' := by
    intro fuel
    induction fuel with
    | zero =>
      intro listed a' w' hl hc hD ⟨σ', hS', hst', hk'⟩
      have hall := KZ (S := fun k => listed.getD k false) (m := ops.size) (by omega)
      refine ⟨?_, ?_⟩
      · unfold Region.ready
        rw [List.filter_eq_nil_iff]
        intro i hi
        have hi' : i < ops.size := by simpa using hi
        have hg : listed.getD i true = true := by
          have := hall i hi'
          simp only [kF] at this ⊢
          rw [aZ (by omega)] at this ⊢
          simpa using this
        simp [hg]
      · refine hQ a' w' ⟨es ops.size, Hs ops.size, σ', hK, ?_, hst', ?_⟩
        · obtain ⟨r1, r2⟩ := uL hrun hn ops.size (aL _)
          rw [r1, r2, SL (T := fun k => listed.getD k false) fun k hk => (hall k hk).symm, Oc (T := fun k => listed.getD k false) fun k hk => (hall k hk).symm]
          exact hS'
        · obtain ⟨r1, r2⟩ := uL hrun hn ops.size (aL _)
          rw [r2, Oc (T := fun k => listed.getD k false) fun k hk => (hall k hk).symm]
          exact hk'
    | succ fuel ih =>
      intro listed a' w' hl hc hD ⟨σ', hS', hst', hk'⟩
      have hready : ∀ i, i ∈ Region.ready .any ops listed → i < ops.size ∧ listed.getD i false = false ∧ ∀ o, ops[i]? = some o → ∀ ed ∈ o.after.toList, Region.binds .any ed = true → listed.getD ed.on false = true := by
        intro i hi
        unfold Region.ready at hi
        simp only [dM, b7, aQ, cH] at hi
        obtain ⟨h1, h2, h3⟩ := hi
        refine ⟨h1, ?_, fun o ho ed hed hb => ?_⟩
        · simp only [kF] at h2 ⊢
          rw [aZ (by omega)] at h2 ⊢
          simpa using h2
        · rw [ho] at h3
          simp only [dK, aF, Array.all_eq_true_iff_forall_mem] at h3
          have := h3 ed (by simpa using hed)
          rw [hb] at this
          simpa using this
      refine ⟨fun hnil => ?_, fun i hi => ?_⟩
      · -- nothing is ready: all is done
        have hall : ∀ k, k < ops.size → listed.getD k false = true := by
          intro k
          induction k using Nat.strongRecOn with
          | _ k ihk =>
            intro hk
            cases hlk : listed.getD k false with
            | true => rfl
            | false =>
              exfalso
              have hmem : k ∈ Region.ready .any ops listed := by
                unfold Region.ready
                simp only [dM, b7, aQ, cH]
                refine ⟨hk, ?_, ?_⟩
                · simp only [kF] at hlk ⊢
                  rw [aZ (by omega)] at hlk ⊢
                  simpa using hlk
                · have ho : ops[k]? = some ops[k] := aZ hk
                  rw [ho]
                  simp only [dK, aF, Array.all_eq_true_iff_forall_mem]
                  intro ed hed
                  cases hb : Region.binds .any ed with
                  | false => simp
                  | true =>
                    have hlt := Oo hs ho ed (by simpa using hed) hb
                    simp [ihk ed.on hlt (by omega)]
              rw [hnil] at hmem; cases hmem
        have := (ih listed a' w' hl (by
          have : v7 (fun k => listed.getD k false) ops.size = v7 (fun _ => true) ops.size := FE hall
          have h0 : ∀ m, v7 (fun _ => true) m = 0 := fun m => by induction m with
            | zero => rfl
            | succ m ih => simp [v7, ih]
          rw [this, h0]; omega) hD ⟨σ', hS', hst', hk'⟩)
        cases fuel with
        | zero => exact this.2
        | succ f => exact this.1 hnil
      · obtain ⟨hi1, hi2, hi3⟩ := hready i hi
        have ho : ops[i]? = some ops[i] := aZ hi1
        have hD' : Jm ops (l8 (fun k => listed.getD k false) i) := by
          intro j o hj hSj ed hed hb
          simp only [l8, cK, beq_iff_eq] at hSj
          simp only [l8, cK]
          rcases hSj with rfl | hSj
          · exact .inr (hi3 o hj ed hed hb)
          · exact .inr (hD j o hj hSj ed hed hb)
        have hset : (fun k => (listed.setIfInBounds i true).getD k false) = l8 (fun k => listed.getD k false) i := by
          funext k
          simp only [l8, kF, Array.getElem?_setIfInBounds]
          by_cases hki : k = i
          · subst hki; simp [hl, hi1]
          · have : ¬ i = k := fun h => hki h.symm
            have h2 : (k == i) = false := by simpa using hki
            simp [this, h2]
        obtain ⟨henv, hag⟩ := G7 hrun hn hs hD hD' hi1 hi2
        obtain ⟨ha1, ha2⟩ := PV hrun hn hs hD hD' hi1 hi2
        obtain ⟨_, hT⟩ := hrun.step i ops[i] (by rw [lA, ho])
        simp only [dR] at hT
        have hnewi := OP hrun (S := fun k => listed.getD k false) hi1 hi2
        have hNlt : ∀ id ∈ Ns i, id < H.next + ops.size := fun id hid => by rcases (hT.new id hid).2 with h | ⟨h, _⟩ <;> omega
        have hnal : ¬ (HS md ops H.next (Hs 0) Hs Fs Ns (fun k => listed.getD k false) ops.size).al (H.next + i) := by
          simp only [HS]
          rintro (h | ⟨k, hk, hSk, hkk, _⟩)
          · rw [hH] at h
            have := hS.rel.nxt _ h; omega
          · obtain ⟨_, hTk⟩ := hrun.step k ops[k] (by rw [lA, aZ hk])
            simp only [dR] at hTk
            have : k = i := by rcases (hTk.new _ hkk).2 with h | ⟨h, _⟩ <;> omega
            subst this
            rw [hi2] at hSk; cases hSk
        have hstep := hT.any _ _ henv hag (by simp only [HS]; omega) hnal (fun id hid => ⟨by simp only [HS]; exact hNlt id hid, hnewi id hid⟩)
        have hc := xX (Q := Q) hstep hS' hnal (hd ops[i] (by simp)) (fun m hm => by cases hm; simp only [HS]; omega)
        have hgoal : StepC P ops Q ops[i] (wpAny P .any ops Q fuel (listed.setIfInBounds i true)) a' w' := by
          refine StepC.mono (fun a'' w'' ⟨v, H', F, σ'', ⟨hv, hH'⟩, hS'', hst'', hk''⟩ => ?_) hc
          subst hv; subst hH'
          refine ih _ a'' w'' (by simpa using hl) ?_ (by rw [hset]; exact hD') ⟨σ'', ?_, hst'.trans hst'', ?_⟩
          · rw [hset]
            have := NV (S := fun k => listed.getD k false) hi2 hi1
            omega
          · rw [hset, ← ha1, ← ha2]; exact hS''
          · rw [hset, ← ha2]; exact hk'.trans hk''
        unfold wpOp
        rw [ho]
        exact hgoal
  refine key ops.size _ a _ (by simp) ?_ ?_ ⟨σ, ?_, hst1, ?_⟩
  · have : ∀ S : Nat → Bool, ∀ m, v7 S m ≤ m := fun S m => by
      induction m with
      | zero => simp [v7]
      | succ m ih => simp only [v7]; split <;> omega
    exact this _ _
  · intro j o ho hSj
    exfalso
    have hj : j < ops.size := (kT.1 ho).1
    simp [hj] at hSj
  · have hS0 : (fun k => (Array.replicate ops.size false).getD k false) = fun _ => false := by
      funext k
      by_cases hk : k < ops.size <;> simp [hk]
    have hl0 : ∀ (p : Nat → Bool) m, fV (fun k => false && p k) m = none := fun p m => by
      induction m with
      | zero => rfl
      | succ m ih => simp only [fV, Bool.false_and, dV, if_false]; exact ih
    have e1 : eS ops (es 0) vs (fun k => (Array.replicate ops.size false).getD k false) ops.size = e := by
      rw [hS0]; funext t; simp only [eS, hl0 (fun k => mA ops k == some t)]; rw [he]
    have e2 : HS md ops H.next (Hs 0) Hs Fs Ns (fun k => (Array.replicate ops.size false).getD k false) ops.size = { H with next := H.next + ops.size } := by
      rw [hS0]
      simp only [HS, AHeap.mk.injEq, true_and]
      refine ⟨funext fun id => propext ⟨fun h => h.elim (fun h => by rw [hH] at h; exact h) fun ⟨_, _, h, _⟩ => (by cases h), fun h => .inl (by rw [hH]; exact h)⟩, funext fun id => ?_⟩
      rw [hl0 (fun k => o6 md ops k && (Fs k).contains id), hH]
    rw [e1, e2]; exact hSb
  · have hS0 : (fun k => (Array.replicate ops.size false).getD k false) = fun _ => false := by
      funext k
      by_cases hk : k < ops.size <;> simp [hk]
    have hl0 : ∀ (p : Nat → Bool) m, fV (fun k => false && p k) m = none := fun p m => by
      induction m with
      | zero => rfl
      | succ m ih => simp only [fV, Bool.false_and, dV, if_false]; exact ih
    have e2 : HS md ops H.next (Hs 0) Hs Fs Ns (fun k => (Array.replicate ops.size false).getD k false) ops.size = { H with next := H.next + ops.size } := by
      rw [hS0]
      simp only [HS, AHeap.mk.injEq, true_and]
      refine ⟨funext fun id => propext ⟨fun h => h.elim (fun h => by rw [hH] at h; exact h) fun ⟨_, _, h, _⟩ => (by cases h), fun h => .inl (by rw [hH]; exact h)⟩, funext fun id => ?_⟩
      rw [hl0 (fun k => o6 md ops k && (Fs k).contains id), hH]
    rw [e2]; exact hk1
end
end Go.Abs
end
section
namespace Go.Abs
abbrev c7:=Nat→D
structure Cfg where
 own:Nat→Bool
 sp:Nat→List (Nat × Nat)
def nD (H:AHeap)(id i off:Nat)(ty sz:Nat):AHeap :=
 match H.get id with
 | some k=>(H.put id { k with es:=k.es.set i ((k.es[i]?.getD []).set off (.own H.next 0)) }).push H.next ⟨ty,sz,[],false⟩
 | none=>H
def AHeap.drop (H:AHeap)(id:Nat):AHeap:=⟨H.next,H.al,fun i=>if i=id then none else H.get i⟩
def z8 (H:AHeap)(id i off q hi:Nat):AHeap :=
 match H.get id,H.get q with
 | some k,some kq=>(((H.drop q).push H.next ⟨kq.ty,kq.sz,kq.es.take hi,false⟩).put id { k with es:=k.es.set i ((k.es[i]?.getD []).set off (.own H.next hi)) })
 | _,_=>H
inductive Ghosts:AHeap→AHeap→Prop
 | refl (H:AHeap):Ghosts H H
 | trunc {H H1:AHeap} (h:Ghosts H H1) (id i off q hi:Nat) (k kq:Blk) (c:List D) (hk:H1.get id=some k) (hf:k.fz=false) (hc:k.es[i]?=some c) (hq:H1.get q=some kq) (hn:c[off]?=some (.win q kq.es.length 0 hi)) (hqf:kq.fz=false) (hne:id≠q):Ghosts H (z8 H1 id i off q hi)
 | step {H H1:AHeap} (h:Ghosts H H1) (id i off ty sz:Nat) (k:Blk) (c:List D) (hk:H1.get id=some k) (hf:k.fz=false) (hc:k.es[i]?=some c) (hn:c[off]?=some .nil):Ghosts H (nD H1 id i off ty sz)
inductive GhE:c7→AHeap→c7→AHeap→Prop
 | gh {e:c7} {H H':AHeap} (h:Ghosts H H'):GhE e H e H'
 | frz {e e1:c7} {H H1:AHeap} (h:GhE e H e1 H1) (t id n:Nat) (k:Blk) (he:e1 t=.own id n) (hk:H1.get id=some k) (hn:k.es.length=n):GhE e H (kY e1 (some t) (.list k.es)) (H1.frz id)
 | trv {e e1:c7} {H H1:AHeap} (h:GhE e H e1 H1) (t q hi:Nat) (k:Blk) (he:e1 t=.win q k.es.length 0 hi) (hk:H1.get q=some k) (hf:k.fz=false):GhE e H (kY e1 (some t) (.own H1.next hi)) ((H1.drop q).push H1.next ⟨k.ty,k.sz,k.es.take hi,false⟩)
def qL (next:c7→AHeap→Prop)(Q:Exit→c7→AHeap→Prop):Exit→c7→AHeap→Prop
 | .normal,e,H=>next e H
 | ex,e,H=>Q ex e H
def Ak (id:Nat)(Q:Exit→c7→AHeap→Prop):Exit→c7→AHeap→Prop
 | .exit id',e,H=>if id'=id then Q .normal e H else Q (.exit id') e H
 | ex,e,H=>Q ex e H
def mZ (P:Program)(c:Cfg):Code→(Exit→c7→AHeap→Prop)→c7→AHeap→Prop
 | .skip,Q,e,H=>Q .normal e H
 | .region id ops dr,Q,e,H =>
  if dr then jL P c.own ops (c.sp id) H.next 0 ops.toList [] e { H with next:=H.next+ops.size } (Q .normal)
  else lQ P c.own ops ops.toList e H (Q .normal)
 | .seq a b,Q,e,H=>mZ P c a (qL (mZ P c b Q) Q) e H
 | .cond x a b,Q,e,H=>match eK e x with
  | .bool t=>(t=true→mZ P c a Q e H)∧(t=false→mZ P c b Q e H)
  | _=>False
 | .block id b,Q,e,H=>mZ P c b (Ak id Q) e H
 | .loop b,Q,e,H=>∃ I:Nat→c7→AHeap→Prop,(∃ e' H',GhE e H e' H'∧∃ k,I k e' H')∧∀ k e' H',I k e' H'→mZ P c b (qL (fun e'' H''=>∃ e3 H3,GhE e'' H'' e3 H3∧∃ k',k'<k∧I k' e3 H3) Q) e' H'
 | .exit id,Q,e,H=>Q (.exit id) e H
 | .ret,Q,e,H=>Q .ret e H
 | _,_,_,_=>False
def nW (c:Cfg)(n:Nat):Code→Bool
 | .region id ops dr=>(ops.toList.all fun o=>pG n o.dst)&&(!dr||uJ c.own ops (c.sp id))
 | .seq a b=>nW c n a&&nW c n b
 | .cond _ a b=>nW c n a&&nW c n b
 | .block _ b=>nW c n b
 | .loop b=>nW c n b
 | _=>true
section
variable {P:Program} {c:Cfg} {n:Nat} {M0:Nat→Prop}
theorem g9 {x:Code}{Q Q':Exit→Act→World→Prop}{a:Act}{w:World}(h:x.wp P Q a w)(hq:∀ e a w,Q e a w→Q' e a w):x.wp P Q' a w:=wp_mono h hq
theorem fE {p:Nat→Prop}(h:∃ k,p k):∃ k,p k∧∀ j,j<k→¬ p j:=by
 obtain ⟨k,hk⟩:=h
 induction k using Nat.strongRecOn with
 | _ k ih =>
  by_cases hj:∃ j,j<k∧p j
  ·obtain ⟨j,hlt,hp⟩:=hj
   exact ih j hlt hp
  ·exact ⟨k,hk,fun j hlt hp=>hj ⟨j,hlt,hp⟩⟩
def Oe (n:Nat)(M0:Nat→Prop)(H0:AHeap)(σ0:Nat→Option Ow)(w0:World)(Q:Exit→c7→AHeap→Prop)(ex:Exit)(a:Act)(w:World):Prop:=Came n M0 H0 σ0 w0 (Q ex) a w
theorem uU {sz:Nat}(d:D)(off:Nat)(c:List D):∀ (es:List (List D)) (i:Nat),(∀ c∈es,c.length=sz)→es[i]?=some c→off<sz→(es.set i (c.set off d)).flatten=es.flatten.set (i * sz+off) d
 | [],i,_,h,_=>by simp at h
 | a :: es,0,hl,h,ho=>by
  simp at h;subst h
  have:=hl a (by simp)
  simp only [kX,dZ,Nat.zero_mul,dR]
  rw [List.set_append_left _ _ (by omega)]
 | a :: es,i+1,hl,h,ho=>by
  have ha:=hl a (by simp)
  simp at h
  have ih:=uU d off c es i (fun c hc=>hl c (by simp [hc])) h ho
  simp only [sZ,dZ,ih]
  rw [v8 _ _ (by rw [Nat.add_mul];omega)]
  congr 2
  rw [ha,Nat.add_mul];omega
theorem KK {H:AHeap}{σ:Nat→Option Ow}{w:World}(hR:Rel M0 H σ w){id i off ty sz:Nat}{k:Blk}{c0:List D}(hk:H.get id=some k)(hf:k.fz=false)(hc:k.es[i]?=some c0)(hn:c0[off]?=some .nil) :
  ∃ σ',Rel M0 (nD H id i off ty sz) σ' w∧Stp σ w σ' w∧Keeps (cF M0 H σ) σ H.al w (cF M0 (nD H id i off ty sz) σ') σ' (nD H id i off ty sz).al w:=by
 have hal:¬ H.al H.next:=fun h=>iX _ (hR.nxt _ h)
 have hid:H.al id:=bJ fun hn=>by rw [(hR.top id hn).2] at hk;cases hk
 have hne:id≠H.next:=fun h=>hal (h ▸ hid)
 obtain ⟨p1,p2,p3⟩:=Rel.push hR H.next hal (w':=w) rfl rfl rfl (aL _) (fun _ _=>rfl) ⟨ty,sz,[],false⟩ ⟨0,.slice none 0 0,sz,ty⟩ (fun b hb=>by simp [Ow.block,Value.ownBlock] at hb) rfl rfl rfl (fun c hc=>by simp at hc) []
  ⟨by simp,.inl ⟨rfl,rfl⟩⟩ (by simp) ⟨rfl,fun j u d hu=>by simp at hu⟩
 obtain ⟨o,ho,l⟩:=hR.lies id k hk
 obtain ⟨xs,hrow,hx1,hrep⟩:=l.row
 have hk1:(H.push H.next ⟨ty,sz,[],false⟩).get id=some k:=by simp [AHeap.push,hne,hk]
 have ho1:(fun i=>if i=H.next then some (⟨0,.slice none 0 0,sz,ty⟩:Ow) else σ i) id=some o:=by simp [hne,ho]
 have hlen0:=l.esz c0 (aJ hc)
 have hoff:off<o.esz:=by rw [← hlen0];exact (aI.1 hn).1
 have hesz':∀ c∈k.es.set i (c0.set off (.own H.next 0)),c.length=o.esz:=fun c hc'=>by
  rcases iY hc' with h|h
  ·exact l.esz c h
  ·subst h;simp [hlen0]
 have hfl:=uU (D.own H.next 0) off c0 k.es i l.esz hc hoff
 obtain ⟨q1,q2,q3⟩:=Rel.put p1 hk1 hf ho1 { k with es:=k.es.set i (c0.set off (.own H.next 0)) } o ⟨rfl,rfl,rfl,aL _,fun _ _ _=>rfl⟩ (fun b hb=>.inl hb) (.inl rfl) (by simp [l.ver]) l.ty l.sz hesz' xs (by simpa using hrow) hx1 (by
   have hrep':=hrep.keep p3
   simp only
   rw [hfl]
   refine ⟨by simpa using hrep'.len,fun j u d hu hd=>?_⟩
   rw [bR] at hd
   split at hd
   ·rename_i hj
    split at hd
    ·cases hd
     have hold:k.es.flatten[j]?=some .nil:=by
      rw [← hj,jQ k.es i c0 l.esz hc off hoff];exact hn
     have hv:=hrep'.rep j u _ hu hold
     cases hv
     exact .own _ _ _ (.inl rfl) rfl fun o' ho'=>by simp at ho';subst ho';exact .inr ⟨rfl,rfl⟩
    ·cases hd
   ·exact hrep'.rep j u d hu hd)
 have hg:nD H id i off ty sz=(H.push H.next ⟨ty,sz,[],false⟩).put id { k with es:=k.es.set i (c0.set off (.own H.next 0)) }:=by
  simp only [nD,hk,hc,aF]
  unfold AHeap.push AHeap.put
  congr 1
  funext j
  by_cases h1:j=H.next
  ·simp [h1,Ne.symm hne]
  ·simp [h1]
 rw [hg]
 exact ⟨_,q1,p2.trans q2,p3.trans q3⟩
theorem BH {sz:Nat}:∀ (es:List (List D)) (n:Nat),(∀ c∈es,c.length=sz)→(es.take n).flatten=es.flatten.take (n * sz)
 | [],n,_=>by simp
 | a :: es,0,_=>by simp
 | a :: es,n+1,h=>by
  have ha:=h a (by simp)
  rw [nG,dZ,dZ,BH es n fun c hc=>h c (by simp [hc]),Nat.add_mul,vS,Nat.add_comm,← ha,List.take_length_add_append]
theorem GU {H:AHeap}{σ:Nat→Option Ow}{w:World}(hR:Rel M0 H σ w){q hi n:Nat}{kq:Blk}{oq:Ow}(hq:H.get q=some kq)(hqf:kq.fz=false)(hoq:σ q=some oq)(hn:¬ H.al n){v:Value}(hh:hi≤kq.es.length)(hv:M7 oq v kq.es.length 0 hi) :
  let σ':Nat→Option Ow:=fun i=>if i=n then some ⟨hi,v,oq.esz,oq.ty⟩ else if i=q then none else σ i
  Rel M0 ((H.drop q).push n ⟨kq.ty,kq.sz,kq.es.take hi,false⟩) σ' w∧Stp σ w σ' w∧Keeps (cF M0 H σ) σ H.al w (cF M0 ((H.drop q).push n ⟨kq.ty,kq.sz,kq.es.take hi,false⟩) σ') σ' ((H.drop q).push n ⟨kq.ty,kq.sz,kq.es.take hi,false⟩).al w:=by
 intro σ'
 have hqal:H.al q:=bJ fun h=>by rw [(hR.top q h).1] at hoq;cases hoq
 have hqn:q≠n:=fun e=>hn (e ▸ hqal)
 have hblk:∀ b,v.ownBlock=some b→oq.block=some b:=fun b hb=>by
  rcases hv with ⟨_,rfl,_⟩|⟨b',cap,h1,h2,rfl⟩
  ·simp [Value.ownBlock] at hb
  ·simp only [Value.ownBlock] at hb
   simp only [Ow.block,h1,Value.ownBlock]
   rw [← hb];split<;>rfl
 have hmut:∀ b,cF M0 ((H.drop q).push n ⟨kq.ty,kq.sz,kq.es.take hi,false⟩) σ' b→cF M0 H σ b:=by
  rintro b (hm|⟨i,k',o',hk',hf,ho',hb'⟩)
  ·exact .inl hm
  ·by_cases h1:i=n
   ·simp only [σ',h1,if_true,aY] at ho'
    subst ho'
    exact .inr ⟨q,kq,oq,hq,hqf,hoq,hblk b hb'⟩
   ·by_cases h2:i=q
    ·simp only [σ',h1,h2,if_false,if_true,hqn] at ho';cases ho'
    ·simp only [σ',h1,h2,if_false] at ho'
     simp only [AHeap.push,AHeap.drop,h1,h2,if_false] at hk'
     exact .inr ⟨i,k',o',hk',hf,ho',hb'⟩
 have hkeep:Keeps (cF M0 H σ) σ H.al w (cF M0 ((H.drop q).push n ⟨kq.ty,kq.sz,kq.es.take hi,false⟩) σ') σ' ((H.drop q).push n ⟨kq.ty,kq.sz,kq.es.take hi,false⟩).al w:=by
  refine ⟨fun ad u hm hu=>⟨fun h=>hm (hmut _ h),hu⟩,fun i o' hi' ho'=>?_,fun i hi'=>.inr hi'⟩
  have h1:i≠n:=fun e=>hn (e ▸ hi')
  by_cases h2:i=q
  ·simp only [σ',h2,if_true,hqn,if_false] at ho';cases ho'
  ·simp only [σ',h1,h2,if_false] at ho'
   exact ⟨o',ho',.inl rfl⟩
 have hold:∀ {i o'},i≠n→σ' i=some o'→i≠q∧σ i=some o':=fun {i o'} h1 ho'=>by
  by_cases h2:i=q
  ·simp only [σ',h2,if_true,hqn,if_false] at ho';cases ho'
  ·simp only [σ',h1,h2,if_false] at ho';exact ⟨h2,ho'⟩
 obtain ⟨o2,ho2,l⟩:=hR.lies q kq hq
 rw [hoq] at ho2;cases ho2
 obtain ⟨xs,hrow,hx1,hrep⟩:=l.row
 refine ⟨⟨fun i hi'=>?_,fun i hi'=>?_,fun i k' hk'=>?_,fun i j oi oj b hi' hj' hbi hbj=>?_,fun i oi b hi' hbi=>?_,hR.m0⟩,⟨rfl,rfl,rfl,aL _,fun _ _ _=>rfl,fun i o' b ho' hb'=>?_⟩,hkeep⟩
 ·have hi2:¬ (i=n∨H.al i):=hi'
  have h1:i≠n:=fun e=>hi2 (.inl e)
  have h2:i≠q:=fun e=>hi2 (.inr (e ▸ hqal))
  simp only [σ',AHeap.push,AHeap.drop,h1,h2,if_false]
  exact hR.top i fun e=>hi2 (.inr e)
 ·have hi2:i=n∨H.al i:=hi'
  have he:((H.drop q).push n ⟨kq.ty,kq.sz,kq.es.take hi,false⟩).next=if n<H.next then H.next else n+1:=rfl
  rw [he]
  rcases hi2 with rfl|hi2
  ·by_cases h:i<H.next
   ·rw [if_pos h];exact h
   ·rw [if_neg h];omega
  ·have:=hR.nxt i hi2
   by_cases h:n<H.next
   ·rw [if_pos h];exact this
   ·rw [if_neg h];omega
 ·by_cases h1:i=n
  ·simp only [AHeap.push,h1,if_true,aY] at hk'
   subst hk'
   refine ⟨⟨hi,v,oq.esz,oq.ty⟩,by simp [σ',h1],by simp;omega,l.ty,l.sz,fun c hc=>l.esz c (bN hc),xs.take (hi * oq.esz),⟨?_,?_⟩,fun u hu=>hx1 u (bN hu),?_⟩
   ·have:=hrow.1
    have h2:hi * oq.esz≤kq.es.length * oq.esz:=bZ _ hh
    simp only [bL]
    rw [sX hh,sX (by omega)]
   ·have hm:(kq.es.take hi).length=hi:=by simp;omega
    simp only [hm]
    rcases hv with ⟨h1,h2,h3⟩|⟨b',cap,h1,h2,h3⟩
    ·exact .inl ⟨h2,h3⟩
    ·rcases hrow.2 with ⟨hn0,_⟩|⟨g,cap',cur,e1,e2,e3,e4,e5,e6,e7⟩
     ·rw [h1] at hn0;cases hn0
     ·rw [h1] at e1;cases e1
      refine .inr ⟨b',cap,cur,?_,dE _,e3,by omega,e5,e6,?_⟩
      ·rw [h3];simp
      ·rw [← e7,List.take_take,sX (bZ _ hh)]
   ·have hr:=hrep.keep hkeep
    refine ⟨?_,fun j u d hu hd=>?_⟩
    ·simp only
     rw [BH kq.es hi l.esz]
     simp [hr.len]
    ·simp only at hd
     rw [BH kq.es hi l.esz,bI] at hd
     rw [bI] at hu
     split at hd
     ·rename_i hj;rw [if_pos hj] at hu;exact hr.rep j u d hu hd
     ·cases hd
  ·by_cases h2:i=q
   ·simp only [AHeap.push,AHeap.drop,h1,h2,if_false,if_true,hqn] at hk';cases hk'
   ·simp only [AHeap.push,AHeap.drop,h1,h2,if_false] at hk'
    obtain ⟨o',ho',l'⟩:=hR.lies i k' hk'
    obtain ⟨xs',a1,a2,a3⟩:=l'.row
    exact ⟨o',by simp [σ',h1,h2,ho'],l'.ver,l'.ty,l'.sz,l'.esz,xs',a1,a2,a3.keep hkeep⟩
 ·by_cases h1:i=n<;>by_cases h2:j=n
  ·rw [h1,h2]
  ·simp only [σ',h1,if_true,aY] at hi'
   subst hi'
   obtain ⟨h3,h4⟩:=hold h2 hj'
   exact absurd (hR.inj j q oj oq b h4 hoq hbj (hblk b hbi)) h3
  ·simp only [σ',h2,if_true,aY] at hj'
   subst hj'
   obtain ⟨h3,h4⟩:=hold h1 hi'
   exact absurd (hR.inj i q oi oq b h4 hoq hbi (hblk b hbj)) h3
  ·exact hR.inj i j oi oj b (hold h1 hi').2 (hold h2 hj').2 hbi hbj
 ·by_cases h1:i=n
  ·simp only [σ',h1,if_true,aY] at hi'
   subst hi'
   exact hR.lt q oq b hoq (hblk b hbi)
  ·exact hR.lt i oi b (hold h1 hi').2 hbi
 ·by_cases h1:i=n
  ·simp only [σ',h1,if_true,aY] at ho'
   subst ho'
   exact .inr ⟨q,oq,hoq,hblk b hb'⟩
  ·exact .inr ⟨i,o',(hold h1 ho').2,hb'⟩
theorem IN {H:AHeap}{σ:Nat→Option Ow}{w:World}(hR:Rel M0 H σ w){id i off q hi:Nat}{k kq:Blk}{c0:List D}(hk:H.get id=some k)(hf:k.fz=false)(hc:k.es[i]?=some c0)(hq:H.get q=some kq)
  (hn:c0[off]?=some (.win q kq.es.length 0 hi)) (hqf:kq.fz=false) (hne:id≠q) :
  ∃ σ',Rel M0 (z8 H id i off q hi) σ' w∧Stp σ w σ' w∧Keeps (cF M0 H σ) σ H.al w (cF M0 (z8 H id i off q hi) σ') σ' (z8 H id i off q hi).al w:=by
 have hal:¬ H.al H.next:=fun h=>iX _ (hR.nxt _ h)
 have hid:H.al id:=bJ fun hn=>by rw [(hR.top id hn).2] at hk;cases hk
 have hidn:id≠H.next:=fun h=>hal (h ▸ hid)
 obtain ⟨oq,hoq,lq⟩:=hR.lies q kq hq
 obtain ⟨o,ho,l⟩:=hR.lies id k hk
 obtain ⟨xs,hrow,hx1,hrep⟩:=l.row
 have hlen0:=l.esz c0 (aJ hc)
 have hoff:off<o.esz:=by rw [← hlen0];exact (aI.1 hn).1
 have hold:k.es.flatten[i * o.esz+off]?=some (.win q kq.es.length 0 hi):=by rw [jQ k.es i c0 l.esz hc off hoff];exact hn
 have hlt:i * o.esz+off<xs.length:=by rw [hrep.len];exact (aI.1 hold).1
 obtain ⟨v,hv⟩:∃ v,xs[i * o.esz+off]?=some v:=⟨_,aA hlt⟩
 have hrv:=hrep.rep _ v _ hv hold
 have hone:v.oneCell'=true:=hx1 v (aJ hv)
 obtain ⟨hh,hw⟩:hi≤kq.es.length∧M7 oq v kq.es.length 0 hi:=by
  cases hrv
  rename_i _ _ hlh h
  refine ⟨hlh.2,?_⟩
  rcases h oq hoq with h'|⟨_,h'⟩
  ·have:=lq.ver;omega
  ·exact h'
 obtain ⟨p1,p2,p3⟩:=GU hR hq hqf hoq hal hh hw
 have hk1:((H.drop q).push H.next ⟨kq.ty,kq.sz,kq.es.take hi,false⟩).get id=some k:=by simp [AHeap.push,AHeap.drop,hidn,hne,hk]
 have ho1:(fun i=>if i=H.next then some (⟨hi,v,oq.esz,oq.ty⟩:Ow) else if i=q then none else σ i) id=some o:=by simp [hidn,hne,ho]
 have hesz':∀ c∈k.es.set i (c0.set off (.own H.next hi)),c.length=o.esz:=fun c hc'=>by
  rcases iY hc' with h|h
  ·exact l.esz c h
  ·subst h;simp [hlen0]
 have hfl:=uU (D.own H.next hi) off c0 k.es i l.esz hc hoff
 obtain ⟨q1,q2,q3⟩:=Rel.put p1 hk1 hf ho1 { k with es:=k.es.set i (c0.set off (.own H.next hi)) } o ⟨rfl,rfl,rfl,aL _,fun _ _ _=>rfl⟩ (fun b hb=>.inl hb) (.inl rfl) (by simp [l.ver]) l.ty l.sz hesz' xs (by simpa using hrow) hx1 (by
   have hrep':=hrep.keep p3
   simp only
   rw [hfl]
   refine ⟨by simpa using hrep'.len,fun j u d hu hd=>?_⟩
   rw [bR] at hd
   split at hd
   ·rename_i hj
    split at hd
    ·cases hd
     rw [← hj,hv] at hu
     cases hu
     exact .own _ _ _ (.inl rfl) hone fun o' ho'=>by simp at ho';subst ho';exact .inr ⟨rfl,rfl⟩
    ·cases hd
   ·exact hrep'.rep j u d hu hd)
 have hg:z8 H id i off q hi=((H.drop q).push H.next ⟨kq.ty,kq.sz,kq.es.take hi,false⟩).put id { k with es:=k.es.set i (c0.set off (.own H.next hi)) }:=by
  simp only [z8,hk,hq,hc,aF]
 rw [hg]
 exact ⟨_,q1,p2.trans q2,p3.trans q3⟩
theorem A0 {H H':AHeap}(hg:Ghosts H H'){σ:Nat→Option Ow}{w:World}(hR:Rel M0 H σ w):∃ σ',Rel M0 H' σ' w∧Stp σ w σ' w∧Keeps (cF M0 H σ) σ H.al w (cF M0 H' σ') σ' H'.al w:=by
 induction hg with
 | refl=>exact ⟨σ,hR,.refl _ _,.refl _ _ _ _⟩
 | trunc h id i off q hi k kq c hk hf hc hq hn hqf hne ih =>
  obtain ⟨σ1,h1,h2,h3⟩:=ih
  obtain ⟨σ2,h4,h5,h6⟩:=IN h1 hk hf hc hq hn hqf hne
  exact ⟨σ2,h4,h2.trans h5,h3.trans h6⟩
 | step h id i off ty sz k c hk hf hc hn ih =>
  obtain ⟨σ1,h1,h2,h3⟩:=ih
  obtain ⟨σ2,h4,h5,h6⟩:=KK (ty:=ty) (sz:=sz) h1 hk hf hc hn
  exact ⟨σ2,h4,h2.trans h5,h3.trans h6⟩
theorem St.keeps {H H':AHeap}{σ σ':Nat→Option Ow}{w:World}{e:c7}{a:Act}(hS:St n M0 H σ w e a)(hR:Rel M0 H' σ' w)(hk:Keeps (cF M0 H σ) σ H.al w (cF M0 H' σ') σ' H'.al w):St n M0 H' σ' w e a :=
 ⟨hR,fun t=>(hS.env t).keep hk,hS.defers,hS.size⟩
theorem Hu {e e':c7}{H H':AHeap}(hg:GhE e H e' H'){σ:Nat→Option Ow}{w:World}{a:Act}(hS:St n M0 H σ w e a) :
  ∃ σ',St n M0 H' σ' w e' a∧Stp σ w σ' w∧Keeps (cF M0 H σ) σ H.al w (cF M0 H' σ') σ' H'.al w:=by
 induction hg with
 | gh h =>
  obtain ⟨σ',g1,g2,g3⟩:=A0 h hS.rel
  exact ⟨σ',hS.keeps g1 g3,g2,g3⟩
 | frz h t id n k he hk hn ih =>
  obtain ⟨σ1,h1,h2,h3⟩:=ih hS
  obtain ⟨g1,g2,_,g4⟩:=Hv h1.rel id
  obtain ⟨k',b1,b2,b3⟩:=(g4 id).2 k hk (.inr rfl)
  have hS2:=h1.keeps g1 g2
  refine ⟨σ1,⟨hS2.rel,fun u=>?_,hS2.defers,hS2.size⟩,h2,h3.trans g2⟩
  have hu:=hS2.env u
  rename_i e1 _ _ _
  by_cases hut:u=t
  ·subst hut
   have hx:kY e1 (some u) (D.list k.es) u=.list k.es:=by simp [kY]
   rw [he] at hu
   rw [hx,← b3]
   exact Aa g1 hu b1 b2 (by rw [b3];exact hn)
  ·have hx:kY e1 (some t) (D.list k.es) u=e1 u:=by simp [kY,hut]
   rw [hx];exact hu
 | trv h t q hi k he hk hf ih =>
  obtain ⟨σ1,h1,h2,h3⟩:=ih hS
  obtain ⟨oq,hoq,lq⟩:=h1.rel.lies q k hk
  have ht:=h1.env t
  rename_i e1 _ H1
  rw [he] at ht
  obtain ⟨hone,hh,hw⟩:(a.tmps.getD t undef).oneCell'=true∧hi≤k.es.length∧M7 oq (a.tmps.getD t undef) k.es.length 0 hi:=by
   generalize a.tmps.getD t undef=v at ht ⊢
   cases ht
   rename_i h1 hN hlh h
   refine ⟨by first|exact h1|exact hN,hlh.2,?_⟩
   rcases h oq hoq with h'|⟨_,h'⟩
   ·have:=lq.ver;omega
   ·exact h'
  have hal:¬ H1.al H1.next:=fun h=>iX _ (h1.rel.nxt _ h)
  obtain ⟨p1,p2,p3⟩:=GU h1.rel hk hf hoq hal hh hw
  have hS2:=h1.keeps p1 p3
  refine ⟨_,⟨p1,fun u=>?_,hS2.defers,hS2.size⟩,h2.trans p2,h3.trans p3⟩
  by_cases hut:u=t
  ·subst hut
   have hx:kY e1 (some u) (D.own H1.next hi) u=.own H1.next hi:=by simp [kY]
   rw [hx]
   exact .own _ _ _ (.inl rfl) hone fun o' ho'=>by rw [if_pos rfl] at ho';cases ho';exact .inr ⟨rfl,rfl⟩
  ·have hx:kY e1 (some t) (D.own H1.next hi) u=e1 u:=by simp [kY,hut]
   rw [hx];exact hS2.env u
theorem nF (hm : P.follows .mixedOrders = true) : ∀ (x : Code) (Q : Exit → c7 → AHeap → Prop) (e : c7) (H : AHeap), mZ P c x Q e H → nW c n x = true →
    ∀ (σ : Nat → Option Ow) (w : World) (a : Act), St n M0 H σ w e a → x.wp P (Oe n M0 H σ w Q) a w
  | .skip, Q, e, H, h, _, σ, w, a, hS => wp_skip ⟨e, H, σ, h, hS, .refl _ _, .refl _ _ _ _⟩
  | .region id ops dr, Q, e, H, h, hok, σ, w, a, hS => by
    simp only [nW, aQ, dJ, cK, cH] at hok
    unfold mZ at h
    cases dr with
    | false =>
      simp only [dV, if_false] at h
      exact wp_region_list (F3 ops.toList e H _ h hok.1 σ w a hS fun a' w' hc => hc)
    | true =>
      simp only [if_true] at h
      exact ME hm (hok.2.resolve_left (by simp)) hok.1 h hS fun a' w' hc => hc
  | .seq x y, Q, e, H, h, hok, σ, w, a, hS => by
    simp only [nW, aQ] at hok
    unfold mZ at h
    refine wp_seq (g9 (nF hm x _ e H h hok.1 σ w a hS) fun ex a' w' hc => ?_)
    cases ex <;> first | exact hc | skip
    obtain ⟨e', H', σ', hq, hS', hst, hk⟩ := hc
    exact g9 (nF hm y Q e' H' hq hok.2 σ' w' a' hS') fun ex a'' w'' hc' => Came.trans hst hk hc'
  | .cond x y z, Q, e, H, h, hok, σ, w, a, hS => by
    simp only [nW, aQ] at hok
    unfold mZ at h
    have hx := hS.envR.ev x
    cases hv : eK e x <;> simp only [hv] at h <;> try (exact h.elim)
    rename_i t
    rw [hv] at hx
    have hc : a.eval x = .bool t := by generalize a.eval x = v at hx; cases hx; rfl
    exact wp_cond_split hc (fun ht => nF hm y Q e H (h.1 ht) hok.1 σ w a hS) fun ht => nF hm z Q e H (h.2 ht) hok.2 σ w a hS
  | .block id b, Q, e, H, h, hok, σ, w, a, hS => by
    unfold mZ at h
    refine wp_block (g9 (nF hm b _ e H h hok σ w a hS) fun ex a' w' hc => ?_)
    cases ex <;> first | exact hc | skip
    rename_i id'
    by_cases hid : id' = id
    · subst hid
      show (if id' = id' then Oe n M0 H σ w Q .normal a' w' else _)
      rw [if_pos rfl]
      exact Came.mono hc fun e' H' h => by
        have h' : (if id' = id' then Q .normal e' H' else Q (.exit id') e' H') := h
        rw [if_pos rfl] at h'; exact h'
    · show (if id' = id then Oe n M0 H σ w Q .normal a' w' else Oe n M0 H σ w Q (.exit id') a' w')
      rw [if_neg hid]
      exact Came.mono hc fun e' H' h => by
        have h' : (if id' = id then Q .normal e' H' else Q (.exit id') e' H') := h
        rw [if_neg hid] at h'; exact h'
  | .loop b, Q, e, H, h, hok, σ, w, a, hS => by
    unfold mZ at h
    obtain ⟨I, ⟨e1, H1, hgh, k0, h0⟩, hI⟩ := h
    obtain ⟨σ1, hS1, g2, g3⟩ := Hu hgh hS
    let J : Nat → Act → World → Prop := fun k a' w' => Came n M0 H σ w (I k) a' w'
    have hJ0 : J k0 a w := ⟨e1, H1, σ1, h0, hS1, g2, g3⟩
    classical
    let μ : Act → World → Nat := fun a' w' => if hx : ∃ k, J k a' w' then Classical.choose (fE hx) else 0
    refine wp_loop (fun a' w' => ∃ k, J k a' w') μ ⟨k0, hJ0⟩ fun a' w' hx => ?_
    have hμ : μ a' w' = Classical.choose (fE hx) := by simp only [μ, dif_pos hx]
    obtain ⟨e', H', σ', hi, hS', hst, hk⟩ := (wC (fE hx)).1
    refine g9 (nF hm b _ e' H' (hI _ e' H' hi) hok σ' w' a' hS') fun ex a'' w'' hc => ?_
    have hc' := Came.trans hst hk hc
    cases ex <;> first | exact hc' | skip
    obtain ⟨e20, H20, σ20, ⟨e2, H2, hgh2, k', hlt, hk'⟩, hS2, hst2, hk2⟩ := hc'
    obtain ⟨σ2, j1, j2, j3⟩ := Hu hgh2 hS2
    have rest := And.intro j1 (And.intro (hst2.trans j2) (hk2.trans j3))
    have hx2 : ∃ k, J k a'' w'' := ⟨k', e2, H2, σ2, hk', rest⟩
    refine ⟨hx2, ?_⟩
    have : μ a'' w'' = Classical.choose (fE hx2) := by simp only [μ, dif_pos hx2]
    rw [this, hμ]
    refine Nat.lt_of_le_of_lt ?_ hlt
    rcases bQ k' (Classical.choose (fE hx2)) with hlt' | hge
    · exact absurd ⟨e2, H2, σ2, hk', rest⟩ ((wC (fE hx2)).2 k' hlt')
    · exact hge
  | .exit id, Q, e, H, h, _, σ, w, a, hS => wp_exit ⟨e, H, σ, h, hS, .refl _ _, .refl _ _ _ _⟩
  | .ret, Q, e, H, h, _, σ, w, a, hS => wp_ret ⟨e, H, σ, h, hS, .refl _ _, .refl _ _ _ _⟩
  | .rangeFunc .., Q, e, H, h, _, _, _, _, _ => h.elim
  | .scope .., Q, e, H, h, _, _, _, _, _ => h.elim
  | .label .., Q, e, H, h, _, _, _, _, _ => h.elim
  | .goto .., Q, e, H, h, _, _, _, _, _ => h.elim
  | .refuse .., Q, e, H, h, _, _, _, _, _ => h.elim
end
end Go.Abs
end
section
namespace Go.Abs
def Bt (P:Program):List ResultVar→c7→AHeap→(List D→Prop)→Prop
 | [],_,_,K=>K []
 | .tmp t :: r,e,H,K=>Bt P r e H fun l=>K (e t :: l)
 | .cell a ty :: r,e,H,K=>(mO P ty (e a) H).cond∧Bt P r e H fun l=>K ((mO P ty (e a) H).val :: l)
def D0:List D→D
 | [d]=>d
 | l=>.tup l
def OJ (P:Program)(rs:List ResultVar)(Q:D→AHeap→Prop):Exit→c7→AHeap→Prop
 | .normal,e,H=>Bt P rs e H fun l=>Q (D0 l) H
 | .ret,e,H=>Bt P rs e H fun l=>Q (D0 l) H
 | _,_,_=>False
def A7 (args:List D):c7:=fun t=>args.getD t .junk
def BR (tmps:Array Value):ResultVar→Sem Value
 | .tmp t=>Pure.pure (tmps.getD t undef)
 | .cell x t=>do loadVar t (← asAddr (tmps.getD x undef))
section
variable {P:Program} {M0:Nat→Prop} {H:AHeap} {σ:Nat→Option Ow} {w:World} {n:Nat} {e:c7} {a:Act}
theorem vA (hS : St n M0 H σ w e a) : ∀ (rs : List ResultVar) (K : List D → Prop), Bt P rs e H K →
    ∃ vs l, Sem.run P (rs.mapM (BR a.tmps)) w = Result.ok vs w ∧ RepL (cF M0 H σ) σ H.al w vs l ∧ K l
  | [], K, h => ⟨[], [], by simp, ⟨rfl, fun j u d hu => by simp at hu⟩, h⟩
  | .tmp t :: rs, K, h => by
    obtain ⟨vs, l, h1, h2, h3⟩ := vA hS rs _ h
    refine ⟨a.tmps.getD t undef :: vs, e t :: l, by simp [List.mapM_cons, BR, h1], ⟨by simp [h2.len], fun j u d hu hd => ?_⟩, h3⟩
    cases j with
    | zero => simp only [jX, aY] at hu hd; subst hu; subst hd; exact hS.env t
    | succ j => exact h2.rep j u d (by simpa using hu) (by simpa using hd)
  | .cell x t :: rs, K, h => by
    obtain ⟨vs, l, h1, h2, h3⟩ := vA hS rs _ h.2
    obtain ⟨_, _, v, hr, hv⟩ := Kq (P := P) hS.rel (hS.env x) h.1
    have hld : Sem.run P (BR a.tmps (.cell x t)) w = .ok v w := by
      simp only [BR]
      unfold Instr.loadAt at hr
      generalize a.tmps.getD x undef = q at hr ⊢
      cases q with
      | pointer p => cases p with
        | some ad => simpa [Instr.sureAddr, asAddr] using hr
        | none => simp [Instr.sureAddr, stuck] at hr
      | _ => simp [Instr.sureAddr, stuck] at hr
    refine ⟨v :: vs, _ :: l, by simp [List.mapM_cons, hld, h1], ⟨by simp [h2.len], fun j u d hu hd => ?_⟩, h3⟩
    cases j with
    | zero => simp only [jX, aY] at hu hd; subst hu; subst hd; exact hv
    | succ j => exact h2.rep j u d (by simpa using hu) (by simpa using hd)
theorem CM {fn : Func} {vs : List Value} {l : List D} (h : Sem.run P (fn.results.toList.mapM (BR a.tmps)) w = .ok vs w) (hrep : RepL (cF M0 H σ) σ H.al w vs l) :
    ∃ v, (results fn a.tmps).run P w = .ok v w ∧ RepV (cF M0 H σ) σ H.al w v (D0 l) := by
  have hres : results fn a.tmps = (do let vs ← fn.results.mapM (BR a.tmps); Pure.pure (if h : vs.size = 1 then vs[0] else .tuple vs)) := rfl
  rw [hres, Array.mapM_eq_mapM_toList]
  refine ⟨if h : vs.toArray.size = 1 then vs.toArray[0] else .tuple vs.toArray, by simp [h], ?_⟩
  by_cases h1 : vs.length = 1
  · match vs, h1, hrep with
    | [v], _, hrep =>
      match l, hrep with
      | [d], hrep => simpa [D0] using hrep.rep 0 v d rfl rfl
      | [], hrep => have := hrep.len; simp at this
      | _ :: _ :: _, hrep => have := hrep.len; simp at this
  · have hsz : ¬ vs.toArray.size = 1 := by simpa using h1
    rw [dif_neg hsz]
    have hl : D0 l = .tup l := by
      match l, hrep with
      | [], _ => rfl
      | [d], hrep => have := hrep.len; simp at this; exact absurd this h1
      | _ :: _ :: _, _ => rfl
    rw [hl]
    exact .tup vs l hrep.len hrep.rep
theorem S8 {n:Nat}{vals:List Value}{args:List D}(hR:Rel M0 H σ w)(ha:RepL (cF M0 H σ) σ H.al w vals args)(hlen:args.length≤n):St n M0 H σ w (A7 args) { tmps:=vals.toArray++Array.replicate (n - vals.toArray.size) undef,defers:=[] }:=by
 refine ⟨hR,fun t=>?_,rfl,by simp [ha.len];omega⟩
 simp only [A7]
 by_cases ht:t<vals.length
 ·have h1:vals[t]?=some vals[t]:=aA ht
  have h2:args[t]?=some (args[t]'(by rw [← ha.len];exact ht)):=aA _
  have:=ha.rep t _ _ h1 h2
  rw [List.getD_eq_getElem?_getD,h2]
  simp only [aF,kF]
  rw [Array.getElem?_append_left (by simpa using ht)]
  simpa [h1] using this
 ·rw [List.getD_eq_getElem?_getD,bA (by rw [← ha.len];omega)]
  exact .junk _
theorem Sd {l r:List ResultVar}(h:l=r:=by first|exact @rfl (List Go.ResultVar) [.tmp _]|exact @rfl (List Go.ResultVar) []|exact @rfl (List Go.ResultVar) [.tmp _,.tmp _]|exact @rfl (List Go.ResultVar) [.cell _ _,.tmp _]|exact @rfl (List Go.ResultVar) [.cell _ _]|exact @rfl (List Go.ResultVar) [.cell _ _,.cell _ _,.tmp _]|exact @rfl (List Go.ResultVar) [.cell _ _,.cell _ _]|exact @rfl (List Go.ResultVar) [.tmp _,.cell _ _,.tmp _]|exact @rfl (List Go.ResultVar) [.tmp _,.tmp _,.tmp _]|exact @rfl (List Go.ResultVar) [.cell _ _,.tmp _,.tmp _]|exact @rfl (List Go.ResultVar) [.cell _ _,.cell _ _,.cell _ _]|exact @rfl (List Go.ResultVar) [.cell _ _,.cell _ _,.cell _ _,.tmp _]|exact @rfl (List Go.ResultVar) [.tmp _,.tmp _,.tmp _,.tmp _]):l=r:=h
theorem aH {f:FuncId}{fn:Func}{x:Code}{rs:List ResultVar}{cfg:Cfg}{args:List D}{Q:D→AHeap→Prop}(hm:P.follows .mixedOrders=true)(hf:P.funcs[f]?=some fn)(hb:fn.body=some x)
  (hnm:(fn.name=="runtime.NumGoroutine")=false) (hlen:args.length≤fn.ntmps) (hok:nW cfg fn.ntmps x=true)
  (h:mZ P cfg x (OJ P rs Q) (A7 args) H) (hr:fn.results.toList=rs:=by exact Sd):ACalls P f args H Q:=by
 subst hr
 refine ⟨⟨fn,hf,hnm,by simp [hb]⟩,fun M0 σ w vals hR ha=>calls_of_wp hf hb ?_⟩
 have hS:=S8 hR ha hlen
 refine g9 (nF hm x _ _ H h hok σ w _ hS) fun ex a' w' hc=>?_
 obtain ⟨e',H',σ',hq,hS',hst,hk⟩:=hc
 have fin:Bt P fn.results.toList e' H' (fun l=>Q (D0 l) H')→a'.defers=[]∧∃ v,(results fn a'.tmps).run P w'=.ok v w' ∧
   ∃ v2 d H2 σ2,Ending.returned v=.returned v2∧Rel M0 H2 σ2 w'∧RepV (cF M0 H2 σ2) σ2 H2.al w' v2 d∧Stp σ w σ2 w'∧Keeps (cF M0 H σ) σ H.al w (cF M0 H2 σ2) σ2 H2.al w'∧Q d H2:=by
  intro hq
  obtain ⟨vs,l,h1,h2,h3⟩:=vA hS' _ _ hq
  obtain ⟨v,hv1,hv2⟩:=CM (fn:=fn) h1 h2
  exact ⟨hS'.defers,v,hv1,v,_,H',σ',rfl,hS'.rel,hv2,hst,hk,h3⟩
 cases ex<;>first|exact fin hq|exact hq.elim
end
/-! ### pure contracts -/
theorem Bw {l:List D}(h:∀ d∈l,d.cl=true):D.clL l=true:=by
 induction l with
 | nil=>rfl
 | cons a l ih=>simp [D.clL,h a (by simp),ih fun d hd=>h d (by simp [hd])]
def fG:Nat→Option Ow:=fun _=>none
def mV:Nat→Prop:=fun _=>False
def Pure (P:Program)(f:FuncId)(args:List D)(r:D):Prop :=
 RQ P f∧∀ (M:Nat→Prop) (w:World) (vals:List Value),(∀ b,M b→b<w.heap.size)→RepL M fG mV w vals args →
  Calls P f vals.toArray w fun e w'=>∃ v,e=.returned v∧RepV M fG mV w' v r∧RowKit.Below w.heap.size w w'
def Own (P:Program)(f:FuncId)(args:List D)(ty:TypeId)(sz:Nat)(es:List (List D)):Prop :=
 RQ P f∧∀ (M:Nat→Prop) (w:World) (vals:List Value),(∀ b,M b→b<w.heap.size)→RepL M fG mV w vals args →
  Calls P f vals.toArray w fun e w'=>∃ v xs,e=.returned v∧w'.ownsRow w.heap.size ty sz v es.length xs∧(∀ u∈xs,u.oneCell'=true)∧RepL (fun b=>M b∨v.ownBlock=some b) fG mV w' xs es.flatten∧D.clLL es=true∧(∀ c∈es,c.length=sz) ∧
   RowKit.Below w.heap.size w w'
def o9 (H:AHeap):D→D
 | .tup vs=>.tup (vs.map (iE H))
 | d=>iE H d
def BW:D→List Nat
 | .tup vs=>vs.flatMap dC
 | d=>dC d
section
variable {P:Program} {M0:Nat→Prop} {H:AHeap} {σ:Nat→Option Ow} {w:World}
theorem rX {v:Value}{d:D}(hR:Rel M0 H σ w)(hx:RepV (cF M0 H σ) σ H.al w v d)(ids:List Nat)(hi:∀ i∈BW d,i∈ids) :
  RepV (cF M0 (eT ids H) σ) σ (eT ids H).al w v (o9 H d):=by
 cases d with
 | tup vs =>
  cases hx
  rename_i xs hl hr
  refine .tup xs _ (by simpa using hl) fun j u x hu hx=>?_
  rw [aN,bC] at hx
  obtain ⟨y,hy,rfl⟩:=hx
  exact lE hR (hr j u y hu hy) ids fun i hii=>hi i (by simp only [BW,bK];exact ⟨y,aJ hy,hii⟩)
 | _=>exact lE hR hx ids hi
theorem DE (M:Nat→Prop):cF M .emp fG=M:=by
 funext b
 exact propext ⟨fun h=>h.elim (fun h=>h) fun ⟨_,_,_,h,_⟩=>by simp [AHeap.emp] at h,.inl⟩
theorem DB (M:Nat→Prop)(w:World)(hM:∀ b,M b→b<w.heap.size):Rel M .emp fG w :=
 ⟨fun _ _=>⟨rfl,rfl⟩,fun _ h=>h.elim,fun _ _ h=>by simp [AHeap.emp] at h,fun _ _ _ _ _ h=>by simp [fG] at h,fun _ _ _ h=>by simp [fG] at h,hM⟩
theorem x9 {σ':Nat→Option Ow}{w':World}(h:Stp fG w σ' w'):RowKit.Below w.heap.size w w' :=
 ⟨h.os,h.tape,h.output,h.size,fun b hb=>h.old b hb fun _ _ h=>by simp [fG] at h⟩
theorem aU {f:FuncId}{args:List D}{r:D}(h:ACalls P f args .emp fun d H'=>o9 H' d=r∧r.cl=true):Pure P f args r:=by
 refine ⟨h.1,fun M w vals hM ha=>(h.2 M fG w vals (DB M w hM) (by rw [DE];exact ha)).mono fun e w' ⟨v,d,H',σ',he,hR,hv,hst,hk,hr,hcl⟩=>⟨v,he,?_,x9 hst⟩⟩
 have h1:=rX hR hv (BW d) fun i hi=>hi
 rw [hr] at h1
 exact h1.closed (fun ad u hm hc=>⟨fun h=>hm (.inl h),hc⟩) hcl
theorem AP {f:FuncId}{args:List D}{ty:TypeId}{sz:Nat}{es:List (List D)}
  (h:ACalls P f args .emp fun d H'=>∃ id k,d=.own id es.length∧H'.get id=some k∧k.es=es∧k.ty=ty∧k.sz=sz∧k.fz=false∧D.clLL es=true):Own P f args ty sz es:=by
 refine ⟨h.1,fun M w vals hM ha=>(h.2 M fG w vals (DB M w hM) (by rw [DE];exact ha)).mono fun e w' ⟨v,d,H',σ',he,hR,hv,hst,hk,id,k,hd,hget,h1,h2,h3,hfz,hcl⟩=>?_⟩
 subst hd;subst h1;subst h2;subst h3
 obtain ⟨o,ho,l⟩:=hR.lies id k hget
 obtain ⟨xs,hrow,hx1,hrep⟩:=l.row
 cases hv
 rename_i _ _ hval
 rcases hval o ho with hlt|⟨_,rfl⟩
 ·have:=l.ver;omega
 ·refine ⟨o.val,xs,he,?_,hx1,⟨hrep.len,fun j u d hu hd=>(hrep.rep j u d hu hd).closed (fun ad u hm hc=>⟨fun h=>hm (h.elim .inl fun h=>.inr ⟨id,k,o,hget,hfz,ho,h⟩),hc⟩) ?_⟩,hcl,fun c hc=>(l.esz c hc).trans l.sz,x9 hst⟩
  ·rw [← l.sz]
   refine ⟨hrow.1,?_⟩
   rcases hrow.2 with hn|⟨g,cap,cur,h1,_,h3⟩
   ·exact .inl hn
   ·refine .inr ⟨g,cap,cur,h1,?_,h3⟩
    rcases hst.new id o g ho (by simp [Ow.block,h1,Value.ownBlock]) with h|⟨_,o',h,_⟩
    ·exact h
    ·simp [fG] at h
  ·obtain ⟨c,hcm,hxm⟩:=fQ.1 (aJ hd)
   exact gF (mY hcl c hcm) d hxm
theorem sB {M:Nat→Prop}{N:Nat→Prop}:Keeps M fG mV w M σ N w:=⟨fun _ _ h k=>⟨h,k⟩,fun _ _ h=>h.elim,fun _ h=>h.elim⟩
theorem fM {M M':Nat→Prop}{N N':Nat→Prop}{σ':Nat→Option Ow}(hM:∀ b,¬ M b→¬ M' b){vs:List Value}{ds:List D}(h:RepL M σ N w vs ds)(hc:D.clL ds=true):RepL M' σ' N' w vs ds :=
 ⟨h.len,fun j u d hu hd=>(h.rep j u d hu hd).closed (fun ad u hm hc=>⟨hM _ hm,hc⟩) (gF hc d (aJ hd))⟩
theorem oO (hR:Rel M0 H σ w):∀ b,cF M0 H σ b→b<w.heap.size:=by
 rintro b (h|⟨i,k,o,_,_,ho,hb⟩)
 ·exact hR.m0 b h
 ·exact (hR.lt i o b ho hb).1
theorem qB {f:FuncId}{args:List D}{r:D}{Q:D→AHeap→Prop}(hp:Pure P f args r)(hcl:D.clL args=true)(hQ:Q r H):ACalls P f args H Q:=by
 refine ⟨hp.1,fun M0 σ w vals hR ha=>(hp.2 (cF M0 H σ) w vals (oO hR) (fM (fun _ h=>h) ha hcl)).mono fun e w' ⟨v,he,hv,hb⟩=>?_⟩
 obtain ⟨h1,h2,h3⟩:=hR.grow hb.os hb.tape hb.output hb.size hb.block
 exact ⟨v,r,H,σ,he,h1,hv.keep sB,h2,h3,hQ⟩
theorem AI {M0:Nat→Prop}(hR:Rel M0 H σ w){vals:List Value}{args:List D}(ha:RepL (cF M0 H σ) σ H.al w vals args)(ids:List Nat)(hi:∀ i∈args.flatMap dC,i∈ids) :
  RepL (cF M0 (eT ids H) σ) σ (eT ids H).al w vals (args.map (iE H)) :=
 ⟨by simpa using ha.len,fun j u d hu hd=>by
  rw [aN,bC] at hd
  obtain ⟨y,hy,rfl⟩:=hd
  exact lE hR (ha.rep j u y hu hy) ids fun i hii=>hi i (bK.2 ⟨y,aJ hy,hii⟩)⟩
def D.flat1:D→Bool
 | .int .. | .bool _ | .str _ | .nil | .nilp | .nilf=>true
 | _=>false
def D.flat:D→Bool
 | .tup vs=>vs.all D.flat1
 | d=>d.flat1
theorem HB {M M':Nat→Prop}{N N':Nat→Prop}{σ σ':Nat→Option Ow}{w w':World}{v:Value}{d:D}(h:RepV M σ N w v d)(hf:d.flat1=true):RepV M' σ' N' w' v d:=by
 cases h<;>first|(simp [D.flat1] at hf;done)|constructor
theorem tS {M M':Nat→Prop}{N N':Nat→Prop}{σ σ':Nat→Option Ow}{w w':World}{v:Value}{d:D}(h:RepV M σ N w v d)(hf:d.flat=true):RepV M' σ' N' w' v d:=by
 cases d with
 | tup vs =>
  cases h
  rename_i xs hl hr
  simp only [D.flat,dJ] at hf
  exact .tup xs vs hl fun j u x hu hx=>HB (hr j u x hu hx) (hf x (aJ hx))
 | _=>exact HB h hf
theorem vC {f:FuncId}{args:List D}{r:D}{Q:D→AHeap→Prop}(hp:Pure P f (args.map (iE H)) r)(hcl:D.clL (args.map (iE H))=true)(hf:r.flat=true)(hQ:Q r H):ACalls P f args H Q:=by
 refine ⟨hp.1,fun M0 σ w vals hR ha=>?_⟩
 obtain ⟨f1,f2,f3,f4⟩:=eP (args.flatMap dC) hR
 refine (hp.2 (cF M0 (eT (args.flatMap dC) H) σ) w vals (oO f1) (fM (fun _ h=>h) (AI hR ha _ fun i h=>h) hcl)).mono fun e w' ⟨v,he,hv,hb⟩=>?_
 obtain ⟨h1,h2,h3⟩:=hR.grow hb.os hb.tape hb.output hb.size hb.block
 exact ⟨v,r,H,σ,he,h1,tS hv hf,h2,h3,hQ⟩
theorem Jo {f:FuncId}{args:List D}{r:D}{Q:D→AHeap→Prop}(hp:Pure P f (args.map (iE H)) r)(hcl:D.clL (args.map (iE H))=true)(hQ:Q r (eT (args.flatMap dC) H)):ACalls P f args H Q:=by
 refine ⟨hp.1,fun M0 σ w vals hR ha=>?_⟩
 obtain ⟨f1,f2,f3,f4⟩:=eP (args.flatMap dC) hR
 refine (hp.2 (cF M0 (eT (args.flatMap dC) H) σ) w vals (oO f1) (fM (fun _ h=>h) (AI hR ha _ fun i h=>h) hcl)).mono fun e w' ⟨v,he,hv,hb⟩=>?_
 obtain ⟨h1,h2,h3⟩:=f1.grow hb.os hb.tape hb.output hb.size hb.block
 exact ⟨v,r,_,σ,he,h1,hv.keep sB,h2,f2.trans h3,hQ⟩
theorem Ly {f:FuncId}{args:List D}{ty:TypeId}{sz:Nat}{es:List (List D)}{Q:D→AHeap→Prop}(hp:Own P f args ty sz es)(hcl:D.clL args=true)
  (hQ:Q (.own H.next es.length) (H.push H.next ⟨ty,sz,es,false⟩)):ACalls P f args H Q:=by
 refine ⟨hp.1,fun M0 σ w vals hR ha=>(hp.2 (cF M0 H σ) w vals (oO hR) (fM (fun _ h=>h) ha hcl)).mono fun e w' ⟨v,xs,he,hrow,h1,hrep,hcll,hsz,hb⟩=>?_⟩
 have hrow0:w'.ownsRow 0 ty sz v es.length xs:=⟨hrow.1,hrow.2.imp (fun x=>x) fun ⟨g,cap,cur,a,b,c⟩=>⟨g,cap,cur,a,dE _,c⟩⟩
 have hbk:∀ b,v.ownBlock=some b→w.heap.size≤b:=fun b hb'=>by
  rcases hrow.2 with hn|⟨g,cap,cur,h1,h2,h3⟩
  ·rw [hn.1] at hb';simp [Value.ownBlock] at hb'
  ·rw [h1] at hb';simp only [Value.ownBlock,aY] at hb';omega
 have hG:∀ ad,¬ (cF M0 H σ ad∨v.ownBlock=some ad)→¬ cF M0 (H.push H.next ⟨ty,sz,es,false⟩) (fun i=>if i=H.next then some ⟨es.length,v,sz,ty⟩ else σ i) ad:=by
  intro ad hm h
  rcases h with h|⟨i,k',o',hk',hf,ho',hb'⟩
  ·exact hm (.inl (.inl h))
  ·by_cases hii:i=H.next
   ·simp only [hii,if_true,aY] at ho'
    subst ho'
    exact hm (.inr hb')
   ·simp only [hii,if_false] at ho'
    simp only [AHeap.push,hii,if_false] at hk'
    exact hm (.inl (.inr ⟨i,k',o',hk',hf,ho',hb'⟩))
 have hclF:D.clL es.flatten=true:=Bw fun d hd=>by
  obtain ⟨c,hcm,hxm⟩:=fQ.1 hd
  exact gF (mY hcll c hcm) d hxm
 obtain ⟨p1,p2,p3⟩:=Rel.pushG hR H.next (fun h=>iX _ (hR.nxt _ h)) (w':=w') hb.os hb.tape hb.output hb.size hb.block ⟨ty,sz,es,false⟩ ⟨es.length,v,sz,ty⟩
  hbk rfl rfl rfl hsz xs hrow0 h1 (fun hk=>fM hG hrep hclF)
 exact ⟨v,_,_,_,he,p1,.own v _ _ (.inl rfl) (by rcases hrow.2 with ⟨hn,_⟩|⟨g,cap,cur,hn,_⟩<;>simp [hn,Value.oneCell']) (fun o ho=>by simp at ho;subst ho;exact .inr ⟨rfl,rfl⟩),p2,p3,hQ⟩
end
end Go.Abs
end
