/- The abstraction layer: callees that turn one borrowed slice  -/
import Derived.Test.YtiklfilfhnfagaaGreatZfF
import Derived.Test.YtiklfilfhnfagaaGreatZfA
import Derived.Test.YtiklfilfhnfagaaGreatProg
import Derived.Laws.Externs
import Derived.WalkKit
set_option linter.unusedVariables false
set_option linter.unusedSimpArgs false
section
namespace Go.Abs
def XZ (id:Nat):D→D
 | .own 0 n=>.own id n
 | d=>d
section
variable {P:Program} {M0:Nat→Prop} {H:AHeap} {σ:Nat→Option Ow} {w:World}
theorem Sf (id n:Nat):XZ id (.own 0 n)=.own id n:=rfl
theorem OW (k:Blk):(AHeap.emp.push 0 k).get 0=some k:=rfl
theorem TJ {f : FuncId} {args : List D} {k k' : Blk} {r : D} {id : Nat} {Q : D → AHeap → Prop}
    (h : ACalls P f args (AHeap.emp.push 0 k) fun d H' => o9 H' d = r ∧ r.cl = true ∧ 0 ∉ BW d ∧ H'.get 0 = some k')
    (hargs : ∀ d ∈ args, d.cl = true ∨ d = .own 0 k.es.length) (hk : k.fz = false) (hk' : k'.fz = false) (hcl : D.clLL k.es = true) (hfl : ∀ d ∈ k'.es.flatten, d.flat = true) (hg : H.get id = some k) (hQ : Q r (H.put id k')) :
    ACalls P f (args.map (XZ id)) H Q := by
  refine ⟨h.1, fun M0 σ w vals hR ha => ?_⟩
  obtain ⟨o, ho, l⟩ := hR.lies id k hg
  obtain ⟨xs, hrow, hx1, hrep⟩ := l.row
  obtain ⟨σ0, hσ0⟩ : ∃ s : Nat → Option Ow, s = fun i => if i = 0 then some o else none := ⟨_, rfl⟩
  obtain ⟨M1, hM1⟩ : ∃ m : Nat → Prop, m = fun b => cF M0 H σ b ∧ o.block ≠ some b := ⟨_, rfl⟩
  have s0 : σ0 0 = some o := by rw [hσ0]; rfl
  have sn : ∀ i o', σ0 i = some o' → i = 0 ∧ o' = o := fun i o' hi => by
    rw [hσ0] at hi
    by_cases h0 : i = 0
    · simp only [h0, if_true, aY] at hi; exact ⟨h0, hi.symm⟩
    · simp only [h0, if_false] at hi; cases hi
  have g0 : ∀ i k1, (AHeap.emp.push 0 k).get i = some k1 → i = 0 ∧ k1 = k := fun i k1 hi => by
    by_cases h0 : i = 0
    · subst h0; rw [OW] at hi; exact ⟨rfl, (Option.some.inj hi).symm⟩
    · simp [AHeap.push, AHeap.emp, h0] at hi
  have hob : ∀ b, o.block = some b → cF M0 H σ b := fun b hb => .inr ⟨id, k, o, hg, hk, ho, hb⟩
  have hmut : ∀ b, cF M1 (AHeap.emp.push 0 k) σ0 b → cF M0 H σ b := by
    rintro b (hb | ⟨i, k1, o1, hk1, hf, ho1, hb⟩)
    · rw [hM1] at hb; exact hb.1
    · obtain ⟨_, rfl⟩ := sn i o1 ho1
      exact hob b hb
  have hcF : ∀ {es : List (List D)}, D.clLL es = true → D.clL es.flatten = true := fun {es} hc => Bw fun d hd => by
    obtain ⟨c, hcm, hxm⟩ := fQ.1 hd
    exact gF (mY hc c hcm) d hxm
  have hR0 : Rel M1 (AHeap.emp.push 0 k) σ0 w := by
    refine ⟨fun i hi => ?_, fun i hi => ?_, fun i k1 hk1 => ?_, fun i j oi oj b hi hj hbi hbj => ?_, fun i oi b hi hbi => ?_, fun b hb => ?_⟩
    · have h0 : i ≠ 0 := fun e => hi (.inl e)
      exact ⟨by rw [hσ0]; simp [h0], by simp [AHeap.push, AHeap.emp, h0]⟩
    · rcases hi with hi | hi
      · subst hi; simp [AHeap.push, AHeap.emp]
      · exact hi.elim
    · obtain ⟨h0, h1⟩ := g0 i k1 hk1
      subst h0; subst h1
      exact ⟨o, s0, l.ver, l.ty, l.sz, l.esz, xs, hrow, hx1, fM (fun b hb hb' => hb (hmut b hb')) hrep (hcF hcl)⟩
    · rw [(sn i oi hi).1, (sn j oj hj).1]
    · obtain ⟨_, rfl⟩ := sn i oi hi
      exact ⟨(hR.lt id oi b ho hbi).1, fun hb => by rw [hM1] at hb; exact hb.2 hbi⟩
    · rw [hM1] at hb; exact oO hR b hb.1
  have ha0 : RepL (cF M1 (AHeap.emp.push 0 k) σ0) σ0 (AHeap.emp.push 0 k).al w vals args := by
    refine ⟨by simpa using ha.len, fun j u d hu hd => ?_⟩
    have hj := ha.rep j u (XZ id d) hu (by rw [aN, hd]; rfl)
    rcases hargs d (aJ hd) with hc | rfl
    · have hren : XZ id d = d := by cases d <;> first | rfl | (simp [D.cl] at hc)
      rw [hren] at hj
      exact hj.closed (fun ad u hm hu => ⟨fun hm' => hm (hmut _ hm'), hu⟩) hc
    · rw [Sf] at hj
      cases hj
      rename_i h1 hN hv
      exact .own u _ _ (.inl rfl) (by first | exact h1 | exact hN) fun o1 ho1 => by
        obtain ⟨_, rfl⟩ := sn 0 o1 ho1
        exact hv o1 ho
  refine (h.2 M1 σ0 w vals hR0 ha0).mono fun e w' ⟨v, d, H', σ', he, hR', hv, hst, hkp, hr, hrcl, hr0, hg'⟩ => ?_
  obtain ⟨o', ho', l'⟩ := hR'.lies 0 k' hg'
  obtain ⟨xs', hrow', hx1', hrep'⟩ := l'.row
  obtain ⟨o2, ho2, hle⟩ := hkp.own 0 o' (.inl rfl) ho'
  rw [s0] at ho2
  cases ho2
  have hgr : w.grownBy w' o.block := ⟨hst.os, hst.tape, hst.output, hst.size, fun b hb hne => hst.old b hb fun i o1 hi => by
    obtain ⟨_, rfl⟩ := sn i o1 hi
    exact fun hb' => hne (by first | simpa using hb' | exact hb'.symm | exact hb')⟩
  have hnew : ∀ b, o'.block = some b → o.block = some b ∨ w.heap.size ≤ b := fun b hb => by
    rcases hst.new 0 o' b ho' hb with h1 | ⟨j1, o1, h1, h2⟩
    · exact .inr h1
    · obtain ⟨_, rfl⟩ := sn j1 o1 h1; exact .inl h2
  obtain ⟨p1, p2, p3⟩ := Rel.put hR hg hk ho k' o' hgr hnew hle l'.ver l'.ty l'.sz l'.esz xs' hrow' hx1'
    ⟨hrep'.len, fun j u d hu hd => tS (hrep'.rep j u d hu hd) (hfl d (aJ hd))⟩
  have hv' := rX hR' hv (BW d) fun i hi => hi
  rw [hr] at hv'
  obtain ⟨_, _, _, f4⟩ := eP (BW d) hR'
  refine ⟨v, r, _, _, he, p1, hv'.closed (fun ad u hm hu => ⟨fun hm' => hm ?_, hu⟩) hrcl, p2, p3, hQ⟩
  rcases hm' with h0 | ⟨i, k1, o1, hk1, hf, ho1, hb⟩
  · left
    rw [hM1]
    exact ⟨.inl h0, fun hb => (hR.lt id o _ ho hb).2 h0⟩
  · by_cases hi : i = id
    · simp only [hi, if_true, aY] at ho1
      subst ho1
      right
      obtain ⟨f41, f42⟩ := f4 0
      rw [hg'] at f41
      cases hq : (eT (BW d) H').get 0 with
      | none => rw [hq] at f41; cases f41
      | some kq =>
        refine ⟨0, kq, o', hq, ?_, ho', hb⟩
        rw [Fj _ _ 0 hr0, hg'] at hq
        cases hq
        exact hk'
    · simp only [hi, if_false] at ho1
      simp only [AHeap.put, hi, if_false] at hk1
      left
      rw [hM1]
      exact ⟨.inr ⟨i, k1, o1, hk1, hf, ho1, hb⟩, fun hb' => hi (hR.inj i id o1 o _ ho1 ho hb hb')⟩
end
section
variable {P:Program} {M0:Nat→Prop} {H:AHeap} {σ:Nat→Option Ow} {w:World}
end
section
variable {P:Program} {md:Nat→Bool} {ops:Array Oper} {sp:List (Nat × Nat)} {n0 i:Nat} {rest:List Oper} {acc:List (Nat × List Nat)} {e:c7} {dst:Option Tmp} {K:c7→AHeap→Prop} {f:FuncId} {args args':List D} {H:AHeap}
end
theorem ACalls.ghosts {P:Program}{f:FuncId}{args:List D}{H H':AHeap}{Q:D→AHeap→Prop}(hg:Ghosts H H')(h:ACalls P f args H' Q):ACalls P f args H Q :=
 ⟨h.1,fun M0 σ w vals hR ha=>by
  obtain ⟨σ1,g1,g2,g3⟩:=A0 hg hR
  exact (h.2 M0 σ1 w vals g1 (ha.keep g3)).mono fun e w' ⟨v,d,H1,σ2,he,h1,hv,hs,hk,hq⟩=>⟨v,d,H1,σ2,he,h1,hv,g2.trans hs,g3.trans hk,hq⟩⟩
theorem Bk {P:Program}{md:Nat→Bool}{ops:Array Oper}{rest:List Oper}{e:c7}{dst:Option Tmp}{K:c7→AHeap→Prop}{f:FuncId}{args:List D}{H H':AHeap}(hg:Ghosts H H')(h:dO P md ops rest e dst K f args H'):dO P md ops rest e dst K f args H:=by
 unfold dO at h ⊢;exact ACalls.ghosts hg h
end Go.Abs
end
section
namespace Go.Abs
mutual
def jY:D→D
 | .nil=>.list []
 | .agg cs=>.agg (fW cs)
 | .tup cs=>.tup (fW cs)
 | .list es=>.list (dX es)
 | d=>d
def fW:List D→List D
 | []=>[]
 | d :: l=>jY d :: fW l
def dX:List (List D)→List (List D)
 | []=>[]
 | c :: l=>fW c :: dX l
end
theorem wV (l:List D):fW l=l.map jY:=by
 induction l with
 | nil=>rfl
 | cons a l ih=>simp [fW,ih]
theorem nB (l:List (List D)):dX l=l.map fW:=by
 induction l with
 | nil=>rfl
 | cons a l ih=>simp [dX,ih]
theorem zX (l:List (List D)):(dX l).flatten=l.flatten.map jY:=by
 induction l with
 | nil=>rfl
 | cons a l ih=>simp only [dX,dZ,ih,List.map_append,wV]
theorem AR {M:Nat→Prop}{σ:Nat→Option Ow}{N:Nat→Prop}{w:World}{v:Value}{d:D}(h:RepV M σ N w v d):RepV M σ N w v (jY d):=by
 have hm:∀ {vs:List Value} {ds:List D},(∀ (j:Nat) (u:Value) (d:D),vs[j]?=some u→ds[j]?=some d→RepV M σ N w u (jY d)) →
   ∀ (j:Nat) (u:Value) (d:D),vs[j]?=some u→(ds.map jY)[j]?=some d→RepV M σ N w u d:=by
  intro vs ds ih j u d hu hd
  rw [aN,bC] at hd
  obtain ⟨y,hy,rfl⟩:=hd
  exact ih j u y hu hy
 induction h with
 | int=>simp only [jY];exact .int _ _
 | bool=>simp only [jY];exact .bool _
 | str=>simp only [jY];exact .str _
 | agg vs ds hl h1 _ ih =>
  simp only [jY,wV]
  exact .agg vs _ (by simp [hl]) h1 (hm ih)
 | tup vs ds hl _ ih =>
  simp only [jY,wV]
  exact .tup vs _ (by simp [hl]) (hm ih)
 | nil=>simp only [jY];exact .listN
 | listN=>simp only [jY,dX];exact .listN
 | list ad cap sz xs es hc hm' hsz hl h1 hcell _ ih =>
  simp only [jY]
  have hlen:(dX es).length=es.length:=by rw [nB,bM]
  have:=RepV.list (M:=M) (σ:=σ) (N:=N) (w:=w) ad cap sz xs (dX es) (by rw [hlen];exact hc) hm' (fun c hc'=>by
   rw [nB,aS] at hc'
   obtain ⟨y,hy,rfl⟩:=hc'
   rw [wV,bM];exact hsz y hy) (by rw [zX,bM];exact hl) h1 hcell (by rw [zX];exact hm ih)
  rwa [hlen] at this
 | adr ad xs ds hl h1 hcell hr ih=>simp only [jY];exact .adr ad xs ds hl h1 hcell hr
 | ne ad cap hm=>simp only [jY];exact .ne ad cap hm
 | nilp=>simp only [jY];exact .nilp
 | ptr v id ver i off hN h1 h=>simp only [jY];exact .ptr v id ver i off hN h1 h
 | own v id n hN h1 h=>simp only [jY];exact .own v id n hN h1 h
 | win v id ver lo hi hN h1 hlh h=>simp only [jY];exact .win v id ver lo hi hN h1 hlh h
 | fn f vs ds hl hr ih=>simp only [jY];exact .fn f vs ds hl hr
 | nilf=>simp only [jY];exact .nilf
 | opt v g d hf h ih=>simp only [jY];exact .opt v g d hf h
 | cst v=>simp only [jY];exact .cst v
 | junk v=>simp only [jY];exact .junk v
theorem qR {P:Program}{f:FuncId}{args:List D}{r:D}(hcl:r.cl=true)(h:∀ Q:D→AHeap→Prop,(∀ d H',jY (o9 H' d)=r→Q d H')→ACalls P f args .emp Q):Pure P f args r:=by
 have h:=h (fun d H'=>jY (o9 H' d)=r) fun _ _ h=>h
 refine ⟨h.1,fun M w vals hM ha=>(h.2 M fG w vals (DB M w hM) (by rw [DE];exact ha)).mono fun e w' ⟨v,d,H',σ',he,hR,hv,hst,hk,hr⟩=>⟨v,he,?_,x9 hst⟩⟩
 have h1:RepV (cF M (eT (BW d) H') σ') σ' (eT (BW d) H').al w' v r:=by
  have h0:=AR (rX hR hv (BW d) fun i hi=>hi)
  rw [hr] at h0;exact h0
 exact h1.closed (fun ad u hm hc=>⟨fun h=>hm (.inl h),hc⟩) hcl
attribute [go_sem] jY fW dX
end Go.Abs
end
section
namespace Go.Abs
def L2 (H:AHeap)(d:D):D :=
 match d with
 | .ptr id ver i off=>match fU H (.ptr id ver i off) with
  | some (c :: cs)=>.adr ((c :: cs).map (eQ H))
  | _=>.ptr id ver i off
 | d=>iE H d
def KI (H:AHeap)(d:D):List Nat :=
 match d with
 | .ptr id ver i off=>id :: (match fU H (.ptr id ver i off) with|some cs=>cs.flatMap jZ|none=>[])
 | d=>dC d
section
variable {P:Program} {M0:Nat→Prop} {H:AHeap} {σ:Nat→Option Ow} {w:World}
theorem JQ {v : Value} {d : D} (hR : Rel M0 H σ w) (hx : RepV (cF M0 H σ) σ H.al w v d) (ids : List Nat) (hi : ∀ i ∈ KI H d, i ∈ ids) :
    RepV (cF M0 (eT ids H) σ) σ (eT ids H).al w v (L2 H d) := by
  obtain ⟨h1, h2, h3, h4⟩ := eP ids hR
  have hx' := hx.keep h2
  have hfr : ∀ i ∈ ids, ∀ k, (eT ids H).get i = some k → k.fz = true := fun i hi k hk => by
    have he := (h4 i).1
    rw [hk] at he
    cases hk0 : H.get i with
    | none => rw [hk0] at he; cases he
    | some k0 =>
      obtain ⟨k', a1, a2, a3⟩ := (h4 i).2 k0 hk0 (.inr hi)
      rw [hk] at a1; cases a1; exact a2
  cases d with
  | ptr id ver i off =>
    have hs := Bh (fun i => (h4 i).1) (.ptr id ver i off)
    simp only [L2]
    cases hc : fU H (.ptr id ver i off) with
    | none => exact hx'
    | some cs =>
      cases cs with
      | nil => exact hx'
      | cons c cs =>
        rw [hc] at hs
        have hin : ∀ y ∈ c :: cs, ∀ q ∈ jZ y, q ∈ ids := fun y hy q hq => hi q (by simp only [KI, hc, aO, bK]; exact .inr ⟨y, aO.1 hy, hq⟩)
        have hid : id ∈ ids := hi id (by simp only [KI]; exact dA ..)
        obtain ⟨ad, xs, hv, hrep, hone, hcell⟩ := oY h1 hx' hs (by simp)
        have hP := wM h1 hx' fun q hq k hk => hfr q (by simp only [QY, aR] at hq; subst hq; exact hid) k hk
        simp only [BQ, hs] at hP
        cases hP with
        | adr ad' xs' ds hl' hone' hcell' hrep' =>
          refine .adr ad' xs' _ (by simpa using hl') hone' hcell' fun j u x hu hx => ?_
          rw [aN, bC] at hx
          obtain ⟨y, hy, rfl⟩ := hx
          rw [← oL (fun i => (h4 i).1) y]
          exact lF h1 (hrep' j u y hu hy) fun q hq k hk => hfr q (hin y (aJ hy) q hq) k hk
  | _ => exact lE hR hx ids hi
theorem ON {vals:List Value}{args:List D}(hR:Rel M0 H σ w)(ha:RepL (cF M0 H σ) σ H.al w vals args)(ids:List Nat)(hi:∀ i∈args.flatMap (KI H),i∈ids) :
  RepL (cF M0 (eT ids H) σ) σ (eT ids H).al w vals (args.map (L2 H)) :=
 ⟨by simpa using ha.len,fun j u d hu hd=>by
  rw [aN,bC] at hd
  obtain ⟨y,hy,rfl⟩:=hd
  exact JQ hR (ha.rep j u y hu hy) ids fun i hii=>hi i (bK.2 ⟨y,aJ hy,hii⟩)⟩
theorem Jp {f:FuncId}{args:List D}{r:D}{Q:D→AHeap→Prop}(hp:Pure P f (args.map (L2 H)) r)(hcl:D.clL (args.map (L2 H))=true)(hf:r.flat=true)(hQ:Q r H):ACalls P f args H Q:=by
 refine ⟨hp.1,fun M0 σ w vals hR ha=>?_⟩
 obtain ⟨f1,f2,f3,f4⟩:=eP (args.flatMap (KI H)) hR
 refine (hp.2 (cF M0 (eT (args.flatMap (KI H)) H) σ) w vals (oO f1) (fM (fun _ h=>h) (ON hR ha _ fun i h=>h) hcl)).mono fun e w' ⟨v,he,hv,hb⟩=>?_
 obtain ⟨h1,h2,h3⟩:=hR.grow hb.os hb.tape hb.output hb.size hb.block
 exact ⟨v,r,H,σ,he,h1,tS hv hf,h2,h3,hQ⟩
theorem C6 {md:Nat→Bool}{ops:Array Oper}{rest:List Oper}{e:c7}{dst:Option Tmp}{K:c7→AHeap→Prop}{f:FuncId}{args args':List D}{r:D}(hp:Pure P f args' r)(ha:args.map (L2 H)=args')(hcl:D.clL args'=true)(hf:r.flat=true)
  (h:lQ P md ops rest (kY e dst r) H K):dO P md ops rest e dst K f args H:=by subst ha;unfold dO;exact Jp hp hcl hf h
end
attribute [go_sem] KI
end Go.Abs
end
section
namespace Go.Abs
def mK (H:AHeap)(d:D):D :=
 match d with
 | .own id n=>match H.get id with
  | some k=>if k.es.length=n then .list (k.es.map (·.map (eQ H))) else .own id n
  | none=>.own id n
 | d=>eQ H d
def Gw (H:AHeap)(d:D):List Nat :=
 match d with
 | .own id n=>id :: (match H.get id with|some k=>k.es.flatten.flatMap jZ|none=>[])
 | d=>jZ d
def jV (H:AHeap):D→D
 | .agg cs=>.agg (cs.map (mK H))
 | d=>mK H d
def KH (H:AHeap):D→List Nat
 | .agg cs=>cs.flatMap (Gw H)
 | d=>Gw H d
def jB (H:AHeap):D→D
 | .tup vs=>.tup (vs.map (jV H))
 | d=>jV H d
def Hn (H:AHeap):D→List Nat
 | .tup vs=>vs.flatMap (KH H)
 | d=>KH H d
section
variable {P:Program} {M0:Nat→Prop} {H:AHeap} {σ:Nat→Option Ow} {w:World}
theorem RepV.list_map {M:Nat→Prop}{N:Nat→Prop}{v:Value}{es:List (List D)}{f:D→D}(h:RepV M σ N w v (.list es))(hf:∀ y∈es.flatten,∀ u,RepV M σ N w u y→RepV M σ N w u (f y)) :
  RepV M σ N w v (.list (es.map (·.map f))):=by
 have hfl:(es.map (·.map f)).flatten=es.flatten.map f:=List.map_flatten.symm
 cases h with
 | listN=>exact .listN
 | list ad cap sz xs es hc hm hsz hl h1 hcell hr =>
  have:=RepV.list (M:=M) (σ:=σ) (N:=N) (w:=w) ad cap sz xs (es.map (·.map f)) (by simpa using hc) hm (fun c hc'=>by
   rw [aS] at hc';obtain ⟨y,hy,rfl⟩:=hc';rw [bM];exact hsz y hy) (by rw [hfl,bM];exact hl) h1 hcell (fun j u d hu hd=>by
   rw [hfl,aN,bC] at hd
   obtain ⟨y,hy,rfl⟩:=hd
   exact hf y (aJ hy) u (hr j u y hu hy))
  rw [bM] at this
  exact this
theorem R9 {d:D}(h:∀ a b,d≠.own a b):mK H d=eQ H d:=by cases d<;>first|rfl|exact absurd rfl (h _ _)
theorem SA {d:D}(h:∀ a b,d≠.own a b):Gw H d=jZ d:=by cases d<;>first|rfl|exact absurd rfl (h _ _)
theorem wL {v : Value} {d : D} (hR : Rel M0 H σ w) (hx : RepV (cF M0 H σ) σ H.al w v d) (ids : List Nat) (hi : ∀ i ∈ Gw H d, i ∈ ids) :
    RepV (cF M0 (eT ids H) σ) σ (eT ids H).al w v (mK H d) := by
  obtain ⟨h1, h2, h3, h4⟩ := eP ids hR
  have hx' := hx.keep h2
  have hfr : ∀ i ∈ ids, ∀ k, (eT ids H).get i = some k → k.fz = true := fun i hi k hk => by
    have he := (h4 i).1
    rw [hk] at he
    cases hk0 : H.get i with
    | none => rw [hk0] at he; cases he
    | some k0 =>
      obtain ⟨k', a1, a2, a3⟩ := (h4 i).2 k0 hk0 (.inr hi)
      rw [hk] at a1; cases a1; exact a2
  by_cases ho : ∀ a b, d ≠ .own a b
  · rw [R9 ho, ← oL (fun i => (h4 i).1) d]
    rw [SA ho] at hi
    exact lF h1 hx' fun i hii k hk => hfr i (hi i hii) k hk
  · obtain ⟨id, n, rfl⟩ : ∃ a b, d = .own a b := by
      refine bJ fun hn => ho fun a b he => hn ⟨a, b, he⟩
    have hL := lF h1 hx' fun i hii k hk => hfr i (hi i (by
      simp only [jZ, aR] at hii; subst hii; simp only [Gw]; exact dA ..)) k hk
    rw [oL (fun i => (h4 i).1)] at hL
    simp only [mK, eQ] at hL ⊢
    cases hk : H.get id with
    | none => rw [hk] at hL; exact hL
    | some k =>
      rw [hk] at hL
      simp only at hL ⊢
      split
      · rename_i hn
        rw [if_pos hn] at hL
        refine hL.list_map fun y hy u hu => ?_
        rw [← oL (fun i => (h4 i).1) y]
        exact lF h1 hu fun i hii k' hk' => hfr i (hi i (by
          simp only [Gw, hk, aO, bK]; exact .inr ⟨y, hy, hii⟩)) k' hk'
      · rename_i hn
        rw [if_neg hn] at hL; exact hL
theorem AG {v : Value} {d : D} (hR : Rel M0 H σ w) (hx : RepV (cF M0 H σ) σ H.al w v d) (ids : List Nat) (hi : ∀ i ∈ KH H d, i ∈ ids) :
    RepV (cF M0 (eT ids H) σ) σ (eT ids H).al w v (jV H d) := by
  cases d with
  | agg cs =>
    obtain ⟨h1, h2, h3, h4⟩ := eP ids hR
    cases hx with
    | agg vs ds hl h1 hr =>
      refine .agg vs _ (by simpa using hl) h1 fun j u x hu hd => ?_
      rw [aN, bC] at hd
      obtain ⟨y, hy, rfl⟩ := hd
      exact wL hR (hr j u y hu hy) ids fun i hii => hi i (by simp only [KH, bK]; exact ⟨y, aJ hy, hii⟩)
  | _ => exact wL hR hx ids hi
theorem Iq {v : Value} {d : D} (hR : Rel M0 H σ w) (hx : RepV (cF M0 H σ) σ H.al w v d) (ids : List Nat) (hi : ∀ i ∈ Hn H d, i ∈ ids) :
    RepV (cF M0 (eT ids H) σ) σ (eT ids H).al w v (jB H d) := by
  cases d with
  | tup cs =>
    cases hx with
    | tup vs ds hl hr =>
      refine .tup vs _ (by simpa using hl) fun j u x hu hd => ?_
      rw [aN, bC] at hd
      obtain ⟨y, hy, rfl⟩ := hd
      exact AG hR (hr j u y hu hy) ids fun i hii => hi i (by simp only [Hn, bK]; exact ⟨y, aJ hy, hii⟩)
  | _ => exact AG hR hx ids hi
theorem ACalls.deep {f:FuncId}{args:List D}{Q:D→AHeap→Prop}(h:ACalls P f args H fun d H'=>Q (jB H' d) (eT (Hn H' d) H')):ACalls P f args H Q :=
 ⟨h.1,fun M0 σ w vals hR ha=>(h.2 M0 σ w vals hR ha).mono fun e w' ⟨v,d,H',σ',he,hR',hv,hst,hk,hq⟩=>by
  obtain ⟨f1,f2,_,_⟩:=eP (Hn H' d) hR'
  exact ⟨v,_,_,σ',he,f1,Iq hR' hv _ fun _ h=>h,hst,hk.trans f2,hq⟩⟩
end
end Go.Abs
end
section
namespace Go.Abs
theorem wa {a b:Prop}(x:a)(y:b):a∧b:=⟨x,y⟩
section
variable {P:Program} {c:Cfg} {a b:Code} {Q:Exit→c7→AHeap→Prop} {e:c7} {H:AHeap}
theorem wq {t:Bool}{A B:Prop}(h1:A→mZ P c a Q e H)(h2:B→mZ P c b Q e H)
  (k1:t=true→A:=by (intro h;first|(simp [go_sem] at h;exact h)|exact h)) (k2:t=false→B:=by (intro h;first|(simp [go_sem] at h;exact h)|exact h)) :
  vK P c a b Q e H (.bool t):=aP (fun h=>h1 (k1 h)) (fun h=>h2 (k2 h))
theorem cD (I:Nat→c7→AHeap→Prop)(μ:Nat→Nat)(x0:Nat)(h0:I x0 e H)
  (hs:∀ J:Nat→c7→AHeap→Prop,(∀ x e H,J x e H↔I x e H)→∀ x e H,I x e H→mZ P c b (qL (AT J μ x) Q) e H):w4 P c b Q e H :=
 qV I μ x0 h0 (hs I fun _ _ _=>Iff.rfl)
theorem sP {H':AHeap}(hg:Ghosts H H')(I:Nat→c7→AHeap→Prop)(μ:Nat→Nat)(x0:Nat)(h0:I x0 e H')
  (hs:∀ J:Nat→c7→AHeap→Prop,(∀ x e H,J x e H↔I x e H)→∀ x e H,I x e H→mZ P c b (qL (AT J μ x) Q) e H):w4 P c b Q e H :=
 Ue hg I μ x0 h0 (hs I fun _ _ _=>Iff.rfl)
end
section
variable {p q:Prop}
structure Wh (q:Prop):Prop where
 h:q
theorem wv (k:q→p:=by (intro h;first|(simp [go_sem,seval,Y];exact h)|exact h))(h:q):p:=k h
theorem Zm (k:q→p:=by (intro h;first|(simp -implicitDefEqProofs [go_sem,seval,Y];exact h)|exact h))(h:q):p:=k h
theorem wo (k:Wh q→p:=by (intro h;(try simp [go_sem,seval,Y]);(repeat first|intro _|refine ⟨oW,?_⟩);exact h.1))(h:q):p:=k ⟨h⟩
theorem wp (k:Wh q→p:=by (intro h;(try simp [go_sem,seval,Y]);(repeat first|intro _|refine ⟨fT,?_⟩);exact h.1))(h:q):p:=k ⟨h⟩
theorem TL (k:Wh q→p:=by (intro h;(try simp -implicitDefEqProofs [go_sem,seval,Y]);(repeat first|intro _|refine ⟨fT,?_⟩);exact h.1))(h:q):p:=k ⟨h⟩
theorem wl (h:p:=by first|rfl|(simp [go_sem,← List.map_take,← List.map_drop,Y];done)):p:=h
theorem wr (h:p:=by simp [Dg,BQ,fU,go_sem,← List.map_take,← List.map_drop,Y]):p:=h
theorem Zn (h:p:=by simp [Dg,BQ,L2,KI,fU,go_sem,← List.map_take,← List.map_drop,Y]):p:=h
theorem Zx (h:p:=by simp [go_sem,Y]):p:=h
theorem wz (h:p:=by (simp [go_sem,Y])<;>rfl):p:=h
theorem wn (h:p:=by first|omega|(simp [go_sem,seval,Y]<;>omega)):p:=h
theorem wg (h:p:=by and_intros<;>first|omega|(simp [go_sem,seval,Y]<;>omega)):p:=h
theorem wi (h:p:=by first|assumption|omega|(simp [go_sem,Y];done)|(simp_all;done)):p:=h
theorem wj (h:p:=by first|assumption|omega|(simp [go_sem,Y];done)|(simp_all<;>omega)):p:=h
theorem wy (h:p:=by simp [go_sem,Y]<;>first|omega|(rw [bF];simp<;>omega)|(simp_all<;>omega)):p:=h
end
section
variable {P:Program} {c:Cfg} {a b:Code} {Q:Exit→c7→AHeap→Prop} {e:c7} {H:AHeap} {p:Prop}
theorem dU {t:Bool}{A B:Prop}(h1:A→mZ P c a Q e H)(h2:B→mZ P c b Q e H)(k:vK P c a b Q e H (.bool t)→p:=by (intro h;first|(simp [go_sem,seval,Y];exact h)|exact h))
  (k1:t=true→A:=by (intro h;first|(simp [go_sem] at h;exact h)|exact h)) (k2:t=false→B:=by (intro h;first|(simp [go_sem] at h;exact h)|exact h)):p:=k (aP (fun h=>h1 (k1 h)) (fun h=>h2 (k2 h)))
theorem mP {t:Bool}{A B:Prop}(h1:A→mZ P c a Q e H)(h2:B→mZ P c b Q e H)(k:Wh (vK P c a b Q e H (.bool t))→p:=by (intro h;(try simp [go_sem,seval,Y]);(repeat first|intro _|refine ⟨oW,?_⟩);exact h.1))
  (k1:t=true→A:=by (intro h;first|(simp [go_sem] at h;exact h)|exact h)) (k2:t=false→B:=by (intro h;first|(simp [go_sem] at h;exact h)|exact h)):p:=k ⟨aP (fun h=>h1 (k1 h)) (fun h=>h2 (k2 h))⟩
theorem qJ {t:Bool}{A B:Prop}(h1:A→mZ P c a Q e H)(h2:B→mZ P c b Q e H)(k:Wh (vK P c a b Q e H (.bool t))→p:=by (intro h;(try simp [go_sem,seval,Y]);(repeat first|intro _|refine ⟨fT,?_⟩);exact h.1))
  (k1:t=true→A:=by (intro h;first|(simp [go_sem] at h;exact h)|exact h)) (k2:t=false→B:=by (intro h;first|(simp [go_sem] at h;exact h)|exact h)):p:=k ⟨aP (fun h=>h1 (k1 h)) (fun h=>h2 (k2 h))⟩
theorem wx {I J:Nat→c7→AHeap→Prop}{m:Nat→Nat}{x:Nat}(hJ:∀ x e H,J x e H↔I x e H)(x':Nat)(hI:I x' e H)(hm:m x'<m x:=by omega):AT J m x e H:=fN x' hm ((hJ _ _ _).2 hI)
end
end Go.Abs
end
section
namespace Go.Abs
theorem RepV.both {M : Nat → Prop} {σ : Nat → Option Ow} {N : Nat → Prop} {w : World} {M' : Nat → Prop} {σ' : Nat → Option Ow} {N' : Nat → Prop} {w' : World} {v : Value} {d : D} (h : RepV M σ N w v d) :
    ∀ v', RepV M' σ' N' w' v' d → RepV M σ (fun i => N i ∧ N' i) w v d := by
  induction h with
  | int => exact fun _ _ => .int _ _
  | bool => exact fun _ _ => .bool _
  | str => exact fun _ _ => .str _
  | agg vs ds hl h1 hr ih =>
    intro v' h'
    cases h' with
    | agg vs' _ hl' h1' hr' =>
      exact .agg vs ds hl h1 fun j u x hu hx => by
        have hj : j < vs'.length := by rw [hl']; exact (aI.1 hx).1
        exact ih j u x hu hx vs'[j] (hr' j _ x (aA hj) hx)
  | tup vs ds hl hr ih =>
    intro v' h'
    cases h' with
    | tup vs' _ hl' hr' =>
      exact .tup vs ds hl fun j u x hu hx => by
        have hj : j < vs'.length := by rw [hl']; exact (aI.1 hx).1
        exact ih j u x hu hx vs'[j] (hr' j _ x (aA hj) hx)
  | nil => exact fun _ _ => .nil
  | listN => exact fun _ _ => .listN
  | list ad cap sz xs es hc hm hsz hl h1 hcell hr ih =>
    intro v' h'
    cases h' with
    | listN => exact .list ad cap sz xs [] hc hm hsz hl h1 hcell fun j u x hu hx => by simp at hx
    | list ad' cap' sz' xs' _ hc' hm' hsz' hl' h1' hcell' hr' =>
      exact .list ad cap sz xs es hc hm hsz hl h1 hcell fun j u x hu hx => by
        have hj : j < xs'.length := by rw [hl']; exact (aI.1 hx).1
        exact ih j u x hu hx xs'[j] (hr' j _ x (aA hj) hx)
  | adr ad xs ds hl h1 hcell hr ih =>
    intro v' h'
    cases h' with
    | adr ad' xs' _ hl' h1' hcell' hr' =>
      exact .adr ad xs ds hl h1 hcell fun j u x hu hx => by
        have hj : j < xs'.length := by rw [hl']; exact (aI.1 hx).1
        exact ih j u x hu hx xs'[j] (hr' j _ x (aA hj) hx)
  | ne ad cap hm => exact fun _ _ => .ne ad cap hm
  | nilp => exact fun _ _ => .nilp
  | ptr v id ver i off hN h1 h =>
    intro v' h'
    cases h' with
    | ptr _ _ _ _ _ hN' _ _ => exact .ptr v id ver i off ⟨hN, hN'⟩ h1 h
  | own v id n hN h1 h =>
    intro v' h'
    cases h' with
    | own _ _ _ hN' _ _ => exact .own v id n ⟨hN, hN'⟩ h1 h
  | win v id ver lo hi hN h1 hlh h =>
    intro v' h'
    cases h' with
    | win _ _ _ _ _ hN' _ _ _ => exact .win v id ver lo hi ⟨hN, hN'⟩ h1 hlh h
  | fn f vs ds hl hr ih =>
    intro v' h'
    cases h' with
    | fn _ vs' _ hl' hr' =>
      exact .fn f vs ds hl fun j u x hu hx => by
        have hj : j < vs'.length := by rw [hl']; exact (aI.1 hx).1
        exact ih j u x hu hx vs'[j] (hr' j _ x (aA hj) hx)
  | nilf => exact fun _ _ => .nilf
  | opt v g d hf h ih =>
    intro v' h'
    cases h' with
    | opt _ _ _ hf' h'' => exact .opt v g d hf fun hg => ih hg v' (h'' hg)
  | cst v => exact fun _ _ => .cst v
  | junk v => exact fun _ _ => .junk v
def tI (τ:Nat→Nat):D→D
 | .own id n=>.own (τ id) n
 | d=>d
def Ua (A:Nat→Prop):D→Prop
 | .own id _=>A id
 | d=>d.cl=true
def Qq (τ:Nat→Nat):D→D
 | .agg cs=>.agg (cs.map (tI τ))
 | d=>tI τ d
def X3 (A:Nat→Prop):D→Prop
 | .agg cs=>∀ c∈cs,Ua A c
 | d=>Ua A d
theorem RepV.unren {M M':Nat→Prop}{σ1 σE:Nat→Option Ow}{N1 A:Nat→Prop}{w:World}{τ:Nat→Nat}{v:Value}{d:D}(h:RepV M σ1 N1 w v (tI τ d))(ho:Ua A d)(hs:∀ j,A j→σE j=σ1 (τ j))(hM:∀ b,¬ M b→¬ M' b):RepV M' σE A w v d:=by
 by_cases hd:∃ id n,d=.own id n
 ·obtain ⟨id,n,rfl⟩:=hd
  cases h with
  | own _ _ _ hN h1 h=>exact .own v id n ho h1 fun o he=>h o (by rw [← hs id ho];exact he)
 ·have e:tI τ d=d:=by cases d<;>first|rfl|exact absurd ⟨_,_,rfl⟩ hd
  have hc:d.cl=true:=by cases d<;>first|exact ho|exact absurd ⟨_,_,rfl⟩ hd
  rw [e] at h
  exact h.closed (fun ad u hm hu=>⟨hM _ hm,hu⟩) hc
theorem RepV.unrenC {M M' : Nat → Prop} {σ1 σE : Nat → Option Ow} {N1 A : Nat → Prop} {w : World} {τ : Nat → Nat} {v : Value} {d : D} (h : RepV M σ1 N1 w v (Qq τ d)) (ho : X3 A d) (hs : ∀ j, A j → σE j = σ1 (τ j)) (hM : ∀ b, ¬ M b → ¬ M' b) : RepV M' σE A w v d := by
  by_cases hd : ∃ cs, d = .agg cs
  · obtain ⟨cs, rfl⟩ := hd
    cases h with
    | agg vs _ hl h1 hr =>
      exact .agg vs cs (by simpa using hl) h1 fun j u x hu hx => (hr j u (tI τ x) hu (by rw [aN, hx]; rfl)).unren (ho x (aJ hx)) hs hM
  · have e : Qq τ d = tI τ d := by cases d <;> first | rfl | exact absurd ⟨_, rfl⟩ hd
    have e2 : X3 A d = Ua A d := by cases d <;> first | rfl | exact absurd ⟨_, rfl⟩ hd
    rw [e] at h; rw [e2] at ho
    exact h.unren ho hs hM
structure Exact (H H1 E:AHeap) (τ:Nat→Nat):Prop where
 nx:∀ j,E.al j→j<E.next
 inj:∀ i j,E.al i→E.al j→τ i=τ j→i=j
 old:∀ j,H.al j→E.al j∧τ j=j
 non:∀ j,¬ E.al j→E.get j=none
 blk:∀ j k,E.get j=some k→(H.al j∧H.get j=some k∧H1.get j=some k) ∨
  (∃ k0,H1.get (τ j)=some k0∧k0.ty=k.ty∧k0.sz=k.sz∧k0.fz=k.fz∧k0.es=k.es.map (·.map (tI τ))∧∀ c∈k.es,∀ y∈c,Ua E.al y)
theorem ACalls.exact {P:Program}{f:FuncId}{args:List D}{H E:AHeap}{r:D}{Q:D→AHeap→Prop}(h:ACalls P f args H Q)
  (hQ:(∀ j,H.al j→j<H.next)→(∀ j,¬ H.al j→H.get j=none)→∀ d H1,Q d H1→∃ τ,Exact H H1 E τ∧d=Qq τ r∧X3 E.al r):ACalls P f args H fun d H1=>d=r∧H1=E :=
 ⟨h.1,fun M0 σ w vals hR ha=>(h.2 M0 σ w vals hR ha).mono fun e w' ⟨v,d,H1,σ1,he,hR1,hv,hst,hk,hq⟩=>by
  obtain ⟨τ,X,rfl,hok⟩:=hQ hR.nxt (fun j hj=>(hR.top j hj).2) d H1 hq
  classical
  obtain ⟨σE,hσ⟩:∃ σE:Nat→Option Ow,∀ j,σE j=if E.al j then σ1 (τ j) else none:=⟨fun j=>if E.al j then σ1 (τ j) else none,fun _=>rfl⟩
  have hs:∀ j,E.al j→σE j=σ1 (τ j):=fun j hj=>by rw [hσ,if_pos hj]
  have hsn:∀ j,¬ E.al j→σE j=none:=fun j hj=>by rw [hσ,if_neg hj]
  have hal:∀ j o,σE j=some o→E.al j:=fun j o ho=>bJ fun hn=>by rw [hsn j hn] at ho;cases ho
  have halg:∀ j k,E.get j=some k→E.al j:=fun j k ho=>bJ fun hn=>by rw [X.non j hn] at ho;cases ho
  have hmut:∀ b,¬ cF M0 H1 σ1 b→¬ cF M0 E σE b:=by
   rintro b hm (h0|⟨j,k,o,hk',hf,ho,hb⟩)
   ·exact hm (.inl h0)
   ·rw [hs j (halg j k hk')] at ho
    rcases X.blk j k hk' with ⟨h1,h2,h3⟩|⟨k0,h1,h2,h3,h4,_⟩
    ·rw [(X.old j h1).2] at ho
     exact hm (.inr ⟨j,k,o,h3,hf,ho,hb⟩)
    ·exact hm (.inr ⟨τ j,k0,o,h1,h4.trans hf,ho,hb⟩)
  have hkE:Keeps (cF M0 H σ) σ H.al w (cF M0 E σE) σE E.al w':=by
   refine ⟨fun ad u hm hu=>?_,fun id o' hid ho'=>?_,fun id hid=>(X.old id hid).1⟩
   ·obtain ⟨a1,a2⟩:=hk.cell ad u hm hu;exact ⟨hmut _ a1,a2⟩
   ·rw [hs id (X.old id hid).1,(X.old id hid).2] at ho';exact hk.own id o' hid ho'
  have hkS:Keeps (cF M0 H1 σ1) σ1 (fun i=>H1.al i∧H.al i) w' (cF M0 E σE) σE E.al w':=by
   refine ⟨fun ad u hm hu=>⟨hmut _ hm,hu⟩,fun id o' hid ho'=>?_,fun id hid=>(X.old id hid.2).1⟩
   rw [hs id (X.old id hid.2).1,(X.old id hid.2).2] at ho';exact ⟨o',ho',.inl rfl⟩
  have hRE:Rel M0 E σE w':=by
   refine ⟨fun j hj=>⟨hsn j hj,X.non j hj⟩,X.nx,fun j k hk'=>?_,fun i j o o' b hi hj hb hb'=>?_,fun i o b hi hb=>?_,hR1.m0⟩
   ·have hj:=halg j k hk'
    rcases X.blk j k hk' with ⟨h1,h2,h3⟩|⟨k0,h1,h2,h3,h4,h5,h6⟩
    ·obtain ⟨o,ho,l⟩:=hR1.lies j k h3
     obtain ⟨o0,ho0,l0⟩:=hR.lies j k h2
     obtain ⟨xs,a1,a2,a3⟩:=l.row
     obtain ⟨ys,b1,b2,b3⟩:=l0.row
     refine ⟨o,by rw [hs j hj,(X.old j h1).2];exact ho,l.ver,l.ty,l.sz,l.esz,xs,a1,a2,a3.len,fun q u d hu hd=>?_⟩
     have hq':q<ys.length:=by rw [b3.len];exact (aI.1 hd).1
     exact ((a3.rep q u d hu hd).both _ (b3.rep q ys[q] d (aA hq') hd)).keep hkS
    ·obtain ⟨o,ho,l⟩:=hR1.lies (τ j) k0 h1
     obtain ⟨xs,a1,a2,a3⟩:=l.row
     have hlen:k0.es.length=k.es.length:=by rw [h5,bM]
     have hfl:k0.es.flatten=k.es.flatten.map (tI τ):=by rw [h5];exact List.map_flatten.symm
     refine ⟨o,by rw [hs j hj];exact ho,by rw [l.ver,hlen],by rw [l.ty,h2],by rw [l.sz,h3],fun c hc=>?_,xs,by rw [← h2,← hlen];exact a1,a2,by rw [a3.len,hfl,bM],fun q u d hu hd=>?_⟩
     ·have:=l.esz (c.map (tI τ)) (by rw [h5];exact List.mem_map_of_mem hc)
      rwa [bM] at this
     ·have hd2:k0.es.flatten[q]?=some (tI τ d):=by rw [hfl,aN,hd];rfl
      obtain ⟨c,hc,hdc⟩:=fQ.1 (aJ hd)
      exact (a3.rep q u _ hu hd2).unren (h6 c hc d hdc) hs hmut
   ·have hi':=hal i o hi
    have hj':=hal j o' hj
    rw [hs i hi'] at hi;rw [hs j hj'] at hj
    exact X.inj i j hi' hj' (hR1.inj _ _ o o' b hi hj hb hb')
   ·rw [hs i (hal i o hi)] at hi
    exact hR1.lt (τ i) o b hi hb
  refine ⟨v,r,E,σE,he,hRE,hv.unrenC hok hs hmut,⟨hst.os,hst.tape,hst.output,hst.size,hst.old,fun i o' b ho hb=>?_⟩,hkE,rfl,rfl⟩
  rw [hs i (hal i o' ho)] at ho
  exact hst.new (τ i) o' b ho hb⟩
end Go.Abs
end
section
set_option maxRecDepth 100000
open Go Go.Proofs Go.Abs
namespace Go.Abs.Tz
abbrev BE (t:Nat)(z:D):Prop:=tk Tryz.prog t=.one∧zd Tryz.prog t=some [z]∧(Tryz.prog.info? t).isSome=true∧Tryz.prog.cellsOf t=1
abbrev DY (t:Nat):Prop:=BE t .nil
abbrev y7 (t:Nat):Prop:=tk Tryz.prog t=.one∧(Tryz.prog.info? t).isSome=true∧Tryz.prog.cellsOf t=1
abbrev ZB (t n k s:Nat)(z:List D):Prop:=tk Tryz.prog t=.agg n∧zd Tryz.prog t=some z∧bk Tryz.prog t=some (.ar s)∧Rx Tryz.prog t=some (k,s)∧(Tryz.prog.info? t).isSome=true∧Tryz.prog.cellsOf t=n
abbrev RJ (t:Nat)(k:IntKind)(z:D):Prop:=BE t z∧Mn Tryz.prog t=some k
abbrev Aq (t n:Nat)(z:List D)(l:List (Nat × Nat)):Prop:=tk Tryz.prog t=.agg n∧zd Tryz.prog t=some z∧bk Tryz.prog t=some (.st l)∧(Tryz.prog.info? t).isSome=true∧Tryz.prog.cellsOf t=n
abbrev DX (t e s b:Nat)(z:List D):Prop:=sl Tryz.prog t=some ⟨e,s,b,z⟩
abbrev Va (t n:Nat):Prop:=QU Tryz.prog t=some n
@[go_sem] theorem ZQ:RJ 3 .i64 (.int .i64 0)∧BE 4 (.bool false)∧RJ 5 .u8 (.int .u8 0)∧BE 9 (.str ⟨#[]⟩)∧RJ 22 .u16 (.int .u16 0)∧DY 23∧DY 25∧DY 26:=by and_intros<;>rfl
@[go_sem] theorem ZP:Aq 28 2 [.nil,.nil] [(0,1),(1,1)]∧RJ 29 .i16 (.int .i16 0)∧ZB 30 2 2 1 [.int .i16 0,.int .i16 0]∧DY 31∧Aq 33 2 [.nil,.nil] [(0,1),(1,1)]∧Aq 35 3 [.nil,.nil,.nil] [(0,2),(2,1)]∧Aq 37 6 [.int .i64 0,.int .i64 0,.int .i64 0,.nil,.nil,.nil] [(0,1),(1,1),(2,1),(3,3)]∧RJ 38 .i64 (.int .i64 0):=by and_intros<;>rfl
@[go_sem] theorem ZM:y7 39∧BE 41 .nilf∧DY 42∧DY 45∧Aq 47 2 [.nil,.nil] [(0,1),(1,1)]∧DY 48∧Aq 50 3 [.nil,.nil,.nil] [(0,2),(2,1)]∧y7 51:=by and_intros<;>rfl
@[go_sem] theorem ZL:DY 53∧DY 54∧Aq 56 2 [.nil,.nil] [(0,1),(1,1)]∧DY 58∧DY 59∧Aq 61 5 [.nil,.nil,.nil,.int .i64 0,.nil] [(0,2),(2,1),(3,1),(4,1)]∧Aq 62 2 [.nil,.nil] [(0,1),(1,1)]∧DY 63:=by and_intros<;>rfl
@[go_sem] theorem ZK:Aq 65 9 [.int .i64 0,.nil,.nil,.nil,.nil,.nil,.nil,.int .i64 0,.nil] [(0,1),(1,1),(2,2),(4,5)]∧Aq 67 25 [.str ⟨#[]⟩,.nil,.nil,.nil,.int .i64 0,.nil,.nil,.nil,.nil,.int .i64 0,.nil,.nil,.nil,.nil,.nil,.bool false,.int .i64 0,.nil,.nil,.nil,.nil,.nil,.nil,.int .i64 0,.nil] [(0,1),(1,5),(6,5),(11,2),(13,2),(15,1),(16,9)]∧DY 69∧DY 73∧y7 75∧y7 77∧BE 82 .nilf∧BE 83 .nilf:=by and_intros<;>rfl
@[go_sem] theorem ZJ:BE 84 .nilf∧DY 86∧Aq 88 4 [.str ⟨#[]⟩,.int .i64 0,.bool false,.nil] [(0,1),(1,1),(2,1),(3,1)]∧RJ 89 .u64 (.int .u64 0)∧y7 90∧DY 92∧y7 93∧DY 95:=by and_intros<;>rfl
@[go_sem] theorem ZI:Aq 97 4 [.nil,.nil,.nil,.nil] [(0,3),(3,1)]∧y7 98∧Aq 103 3 [.int .i64 0,.int .i64 0,.int .i64 0] [(0,1),(1,1),(2,1)]∧BE 106 .nilp∧Aq 108 8 [.nil,.nil,.nil,.nil,.nil,.nil,.nil,.bool false] [(0,3),(3,1),(4,1),(5,1),(6,1),(7,1)]∧DY 111∧y7 112∧Aq 115 38 [.str ⟨#[]⟩,.nil,.nil,.nil,.int .i64 0,.nil,.nil,.nil,.nil,.int .i64 0,.nil,.nil,.nil,.nil,.nil,.bool false,.int .i64 0,.nil,.nil,.nil,.nil,.nil,.nil,.int .i64 0,.nil,.nil,.nil,.nil,.nil,.nil,.nil,.nil,.nil,.nil,.nil,.nil,.nil,.nil] [(0,25),(25,3),(28,3),(31,3),(34,2),(36,2)]:=by and_intros<;>rfl
@[go_sem] theorem ZH:y7 116∧BE 120 .nilf∧BE 123 .nilf∧RJ 126 .u32 (.int .u32 0)∧y7 127∧RJ 129 .u64 (.int .u64 0)∧y7 130∧Aq 134 4 [.int .i64 0,.nil,.nil,.nil] [(0,1),(1,3)]:=by and_intros<;>rfl
@[go_sem] theorem ZG:Aq 138 7 [.str ⟨#[]⟩,.int .i64 0,.int .i64 0,.int .i64 0,.int .i64 0,.int .i64 0,.int .i64 0] [(0,1),(1,1),(2,1),(3,1),(4,1),(5,1),(6,1)]∧BE 141 .nilf∧BE 144 .nilf∧y7 145∧DY 147∧Aq 149 4 [.str ⟨#[]⟩,.int .i64 0,.int .i64 0,.nil] [(0,1),(1,1),(2,1),(3,1)]∧BE 155 .nilf∧y7 157:=by and_intros<;>rfl
@[go_sem] theorem ZF:RJ 163 .i64 (.int .i64 0)∧y7 164∧y7 168∧BE 175 .nilf∧BE 179 .nilf∧DY 188∧y7 189∧y7 193:=by and_intros<;>rfl
@[go_sem] theorem ZE:y7 195∧y7 197∧BE 204 .nilp∧RJ 206 .u64 (.int .u64 0)∧BE 210 .nilp∧y7 214∧y7 218∧Aq 221 3 [.int .i64 0,.str ⟨#[]⟩,.int .i64 0] [(0,1),(1,1),(2,1)]:=by and_intros<;>rfl
@[go_sem] theorem ZD:BE 224 .nilf∧Aq 233 2 [.int .i64 0,.int .i64 0] [(0,1),(1,1)]∧Aq 235 4 [.int .i64 0,.int .i64 0,.int .i64 0,.int .i64 0] [(0,1),(1,1),(2,2)]∧Aq 238 5 [.int .i64 0,.int .i64 0,.int .i64 0,.int .i64 0,.int .i64 0] [(0,1),(1,2),(3,2)]∧Aq 245 8 [.nil,.nil,.nil,.nil,.nil,.nil,.nil,.nil] [(0,2),(2,2),(4,2),(6,2)]∧DY 247∧y7 248∧DY 252:=by and_intros<;>rfl
@[go_sem] theorem ZC:Aq 254 5 [.int .i64 0,.nil,.nil,.nil,.nil] [(0,1),(1,3),(4,1)]∧y7 255∧y7 258∧y7 259∧Aq 262 2 [.int .i64 0,.int .i64 0] [(0,1),(1,1)]∧BE 263 .nilp∧y7 264∧y7 267:=by and_intros<;>rfl
@[go_sem] theorem Zs:y7 273∧y7 278∧DY 283∧y7 285∧BE 287 .nilf∧y7 288∧Aq 296 6 [.nil,.nil,.nil,.nil,.nil,.bool false] [(0,2),(2,3),(5,1)]∧BE 302 .nilf:=by and_intros<;>rfl
@[go_sem] theorem Zr:BE 304 .nilf∧BE 307 .nilf∧BE 317 .nilp∧Aq 319 12 [.nil,.nil,.nil,.nil,.nil,.nil,.nil,.bool false,.int .i64 0,.nil,.nil,.nil] [(0,2),(2,2),(4,1),(5,2),(7,1),(8,1),(9,1),(10,1),(11,1)]∧BE 324 .nilf∧Aq 328 2 [.int .i64 0,.int .i64 0] [(0,1),(1,1)]∧y7 339:=by and_intros<;>rfl
@[go_sem] theorem Zz:DX 23 30 2 4 [.int .i16 0,.int .i16 0]∧DX 25 50 3 72 [.nil,.nil,.nil]∧DX 26 37 6 96 [.int .i64 0,.int .i64 0,.int .i64 0,.nil,.nil,.nil]∧DX 31 3 1 8 [.int .i64 0]∧DX 42 4 1 1 [.bool false]∧DX 45 103 3 24 [.int .i64 0,.int .i64 0,.int .i64 0]∧DX 48 31 1 24 [.nil]∧DX 53 88 4 56 [.str ⟨#[]⟩,.int .i64 0,.bool false,.nil]∧DX 54 138 7 64 [.str ⟨#[]⟩,.int .i64 0,.int .i64 0,.int .i64 0,.int .i64 0,.int .i64 0,.int .i64 0]∧DX 58 235 4 32 [.int .i64 0,.int .i64 0,.int .i64 0,.int .i64 0]∧DX 59 238 5 40 [.int .i64 0,.int .i64 0,.int .i64 0,.int .i64 0,.int .i64 0]∧DX 63 65 9 184 [.int .i64 0,.nil,.nil,.nil,.nil,.nil,.nil,.int .i64 0,.nil]:=by and_intros<;>rfl
@[go_sem] theorem Zq:DX 69 67 25 512 [.str ⟨#[]⟩,.nil,.nil,.nil,.int .i64 0,.nil,.nil,.nil,.nil,.int .i64 0,.nil,.nil,.nil,.nil,.nil,.bool false,.int .i64 0,.nil,.nil,.nil,.nil,.nil,.nil,.int .i64 0,.nil]∧DX 73 42 1 24 [.nil]∧DX 86 149 4 56 [.str ⟨#[]⟩,.int .i64 0,.int .i64 0,.nil]∧DX 92 115 38 824 [.str ⟨#[]⟩,.nil,.nil,.nil,.int .i64 0,.nil,.nil,.nil,.nil,.int .i64 0,.nil,.nil,.nil,.nil,.nil,.bool false,.int .i64 0,.nil,.nil,.nil,.nil,.nil,.nil,.int .i64 0,.nil,.nil,.nil,.nil,.nil,.nil,.nil,.nil,.nil,.nil,.nil,.nil,.nil,.nil]∧DX 95 134 4 80 [.int .i64 0,.nil,.nil,.nil]∧DX 111 35 3 72 [.nil,.nil,.nil]∧DX 147 9 1 16 [.str ⟨#[]⟩]∧DX 188 33 2 48 [.nil,.nil]∧DX 247 328 2 16 [.int .i64 0,.int .i64 0]∧DX 252 254 5 104 [.int .i64 0,.nil,.nil,.nil,.nil]∧DX 283 47 2 48 [.nil,.nil]:=by and_intros<;>rfl
@[go_sem] theorem ZA:Va 103 3∧Va 233 2∧Va 235 4∧Va 238 5∧Va 262 2∧Va 328 2:=by and_intros<;>(show _=_;kernel_rfl)
attribute [go_sem] Tryz.underlying3 Tryz.underlying4 Tryz.underlying5 Tryz.underlying9 Tryz.underlying22 Tryz.underlying23 Tryz.underlying25 Tryz.underlying26 Tryz.underlying28 Tryz.underlying29 Tryz.underlying30 Tryz.underlying31 Tryz.underlying33 Tryz.underlying35 Tryz.underlying37 Tryz.underlying38 Tryz.underlying39 Tryz.underlying41 Tryz.underlying42 Tryz.underlying45
attribute [go_sem] Tryz.underlying47 Tryz.underlying48 Tryz.underlying50 Tryz.underlying51 Tryz.underlying53 Tryz.underlying54 Tryz.underlying56 Tryz.underlying58 Tryz.underlying59 Tryz.underlying61 Tryz.underlying62 Tryz.underlying63 Tryz.underlying65 Tryz.underlying67 Tryz.underlying69 Tryz.underlying73 Tryz.underlying75 Tryz.underlying77 Tryz.underlying82 Tryz.underlying83
attribute [go_sem] Tryz.underlying84 Tryz.underlying86 Tryz.underlying88 Tryz.underlying89 Tryz.underlying90 Tryz.underlying92 Tryz.underlying93 Tryz.underlying95 Tryz.underlying97 Tryz.underlying98 Tryz.underlying103 Tryz.underlying106 Tryz.underlying108 Tryz.underlying111 Tryz.underlying112 Tryz.underlying115 Tryz.underlying116 Tryz.underlying120 Tryz.underlying123 Tryz.underlying126
attribute [go_sem] Tryz.underlying127 Tryz.underlying129 Tryz.underlying130 Tryz.underlying134 Tryz.underlying138 Tryz.underlying141 Tryz.underlying144 Tryz.underlying145 Tryz.underlying147 Tryz.underlying149 Tryz.underlying155 Tryz.underlying157 Tryz.underlying163 Tryz.underlying164 Tryz.underlying168 Tryz.underlying175 Tryz.underlying179 Tryz.underlying188 Tryz.underlying189 Tryz.underlying193
attribute [go_sem] Tryz.underlying195 Tryz.underlying197 Tryz.underlying204 Tryz.underlying206 Tryz.underlying210 Tryz.underlying214 Tryz.underlying218 Tryz.underlying221 Tryz.underlying224 Tryz.underlying233 Tryz.underlying235 Tryz.underlying238 Tryz.underlying245 Tryz.underlying247 Tryz.underlying248 Tryz.underlying252 Tryz.underlying254 Tryz.underlying255 Tryz.underlying258 Tryz.underlying259
attribute [go_sem] Tryz.underlying262 Tryz.underlying263 Tryz.underlying264 Tryz.underlying267 Tryz.underlying273 Tryz.underlying278 Tryz.underlying283 Tryz.underlying285 Tryz.underlying287 Tryz.underlying288 Tryz.underlying296 Tryz.underlying302 Tryz.underlying304 Tryz.underlying307 Tryz.underlying317 Tryz.underlying319 Tryz.underlying324 Tryz.underlying328 Tryz.underlying339
theorem mixed:Tryz.prog.follows .mixedOrders=true:=rfl
theorem pK {f:FuncId}{fn:Func}{x:Code}{rs:List ResultVar}{args:List D}{r:D}(cfg:Cfg)(hf:Tryz.prog.funcs[f]?=some fn)(hb:fn.body=some x)
  (h:∀ Q:D→AHeap→Prop,(∀ d H',(o9 H' d=r∨P1 (o9 H' d)=r)→Q d H')→mZ Tryz.prog cfg x (OJ Tryz.prog rs Q) (A7 args) .emp)
  (hcl:r.cl=true:=by first|rfl|(simp [go_sem];done)) (hnm:(fn.name=="runtime.NumGoroutine")=false:=by rfl) (hlen:args.length≤fn.ntmps:=by exact aD rfl) (hok:nW cfg fn.ntmps x=true:=by kernel_rfl) (hr:fn.results.toList=rs:=by exact Sd):Pure Tryz.prog f args r :=
 Qs hcl fun Q hQ=>aH mixed hf hb hnm hlen hok (h Q hQ) hr
theorem oK {f:FuncId}{fn:Func}{x:Code}{rs:List ResultVar}{args:List D}{ty:TypeId}{sz:Nat}{es:List (List D)}(cfg:Cfg)(hf:Tryz.prog.funcs[f]?=some fn)(hb:fn.body=some x)
  (h:∀ Q:D→AHeap→Prop,(∀ id n H',n=es.length→H'.get id=some ⟨ty,sz,es,false⟩→Q (.own id n) H')→mZ Tryz.prog cfg x (OJ Tryz.prog rs Q) (A7 args) .emp)
  (hcl:D.clLL es=true:=by first|rfl|(simp [go_sem];done)) (hnm:(fn.name=="runtime.NumGoroutine")=false:=by rfl) (hlen:args.length≤fn.ntmps:=by exact aD rfl) (hok:nW cfg fn.ntmps x=true:=by kernel_rfl) (hr:fn.results.toList=rs:=by exact Sd):Own Tryz.prog f args ty sz es :=
 YW hcl fun Q hQ=>aH mixed hf hb hnm hlen hok (h Q hQ) hr
end Go.Abs.Tz
end
section
namespace Go.Abs
variable {P:Program} {md:Nat→Bool} {ops:Array Oper} {sp:List (Nat × Nat)} {n0 i:Nat} {rest:List Oper} {acc:List (Nat × List Nat)} {e:c7} {dst:Option Tmp} {K:c7→AHeap→Prop} {f:FuncId} {args:List D} {H:AHeap} {r:D}
end Go.Abs
end
section
set_option maxRecDepth 4000
open Go Go.Proofs
namespace Go.Abs
def qZ (c:Int):Bool:=decide (97≤c)&&decide (c≤122)||(decide (65≤c)&&decide (c≤90))
def sC (c:Int):Bool:=decide (48≤c)&&decide (c≤57)
def sQ (c:Int):Bool:=qZ c||sC c||c==95
theorem Ar (c:Int):Pure Tryz.prog 201 [.int .u8 c] (.bool (qZ c)):=by
 refine aU (aH (cfg:=⟨fun _=>false,fun _=>[]⟩) Tz.mixed Tryz.func201 rfl rfl (aD rfl) (by kernel_rfl) ?_)
 simp [go_sem,seval,qZ,D.cl]
 omega
theorem wH (c:Int):Pure Tryz.prog 204 [.int .u8 c] (.bool (sC c)):=by
 refine aU (aH (cfg:=⟨fun _=>false,fun _=>[]⟩) Tz.mixed Tryz.func204 rfl rfl (aD rfl) (by kernel_rfl) ?_)
 simp [go_sem,seval,sC,D.cl]
theorem LJ (c:Int):Pure Tryz.prog 203 [.int .u8 c] (.bool (sQ c)):=by
 refine aU (aH (cfg:=⟨fun _=>false,fun _=>[]⟩) Tz.mixed Tryz.func203 rfl rfl (aD rfl) (by kernel_rfl) ?_)
 simp [go_sem,seval]
 refine aB (Ar c) rfl ?_
 simp [go_sem,seval]
 refine bD (fun _=>wH c) (fun _=>rfl) ?_
 simp [go_sem,seval,sQ,D.cl]
def HT (s:ByteArray)(i:Nat):Int:=((s.data[i]?.getD 0).toNat:Int)
def lD (p:Int→Bool)(s:ByteArray):Nat:=(s.data.toList.takeWhile fun b=>p (b.toNat:Int)).length
theorem sL {α:Type}(p:α→Bool):∀ (l:List α) (n:Nat),(∀ j x,j<n→l[j]?=some x→p x=true)→n≤l.length→(∀ x,l[n]?=some x→p x=false)→(l.takeWhile p).length=n
 | [],n,_,h,_=>by simp at h;subst h;rfl
 | a :: l,0,_,_,h=>by have:=h a rfl;simp [List.takeWhile,this]
 | a :: l,n+1,h1,h2,h3=>by
  have ha:=h1 0 a (by omega) rfl
  simp only [List.takeWhile,ha,bW]
  rw [sL p l n (fun j x hj hx=>h1 (j+1) x (by omega) hx) (by simpa using h2) fun x hx=>h3 x hx]
theorem OC (p:Int→Bool)(s:ByteArray)(n:Nat)(h1:∀ j,j<n→p (HT s j)=true)(h2:n≤s.size)(h3:n<s.size→p (HT s n)=false):lD p s=n:=by
 have hl:s.data.toList.length=s.size:=rfl
 have hb:∀ j x,s.data.toList[j]?=some x→HT s j=(x.toNat:Int):=fun j x hx=>by
  simp only [Array.getElem?_toList] at hx
  simp [HT,hx]
 refine sL _ _ _ (fun j x hj hx=>by rw [← hb j x hx];exact h1 j hj) (by rw [hl];exact h2) fun x hx=>?_
 rw [← hb n x hx]
 refine h3 ?_
 rw [← hl]
 exact (aI.1 hx).1
theorem PP (s:ByteArray)(i:Nat):0≤HT s i∧HT s i≤255:=by
 unfold HT
 have:=(s.data[i]?.getD 0).toNat_lt
 omega
theorem BF (s:ByteArray)(g:FuncId)(p:Int→Bool)(hs:s.size≤1000000)(hg:∀ c,0≤c→c≤255→Pure Tryz.prog g [.int .u8 c] (.bool (p c))) :
  Pure Tryz.prog 202 [.str s,.fn g []] (dI (lD p s)):=by
 refine aU (aH (cfg:=⟨fun _=>false,fun _=>[]⟩) Tz.mixed Tryz.func202 rfl rfl (aD rfl) (by kernel_rfl) ?_)
 simp [go_sem,seval]
 refine f9 (ι:=Nat) (fun n e H=>H=.emp∧n≤s.size∧e 0=.str s∧e 1=.fn g []∧e 5=dI n∧(∀ j,j<n→p (HT s j)=true)) (fun n=>s.size - n) 0 (by simp [go_sem,seval,dI]) ?_
 intro n e H ⟨hH,hn,h0,h1,h5,hp⟩
 subst hH
 simp [go_sem,seval,h0,h1,h5,dI]
 have hb:=PP s n
 refine bD (r:=.bool (p (HT s n))) (fun _=>hg _ hb.1 hb.2) (fun _=>rfl) ?_
 simp [go_sem,seval,h0,h1,h5,dI]
 refine aP (fun h=>?_) (fun h=>?_)
 ·simp at h
  simp [go_sem,seval,h0,h1,h5,dI]
  refine ⟨eO (by omega) (by omega),n+1,by omega,by omega,by omega,fun j hj=>?_⟩
  rcases bQ j n with hj'|hj'
  ·exact hp j hj'
  ·have:j=n:=by omega
   subst this;exact h.2
 ·simp at h
  simp [go_sem,seval,h0,h1,h5,dI,D.cl]
  rw [OC p s n hp hn h]
def KF {α:Type}[DecidableEq α](xs:List α)(v:α):Int:=match xs.findIdx? (fun x=>decide (x=v)) with|some i=>i|none=>-1
def mem {α:Type}[DecidableEq α](xs:List α)(v:α):Bool:=decide (0≤KF xs v)
theorem xE {α:Type}[DecidableEq α]{xs:List α}{v:α}{i:Nat}(h:∀ j,j<i→xs[j]?≠some v)(hi:xs[i]?=some v):KF xs v=i:=by
 have:xs.findIdx? (fun x=>decide (x=v))=some i:=by
  have hlt:=(aI.1 hi).1
  rw [fC]
  refine ⟨hlt,by simpa using (aI.1 hi).2,fun j hj=>?_⟩
  have:=h j hj
  rw [aA (by omega)] at this
  simpa using this
 simp [KF,this]
theorem Fg {α:Type}[DecidableEq α]{xs:List α}{v:α}(h:∀ j,j<xs.length→xs[j]?≠some v):KF xs v = -1:=by
 have:xs.findIdx? (fun x=>decide (x=v))=none:=by
  rw [qG]
  intro x hx
  obtain ⟨j,hj,rfl⟩:=aM hx
  have:=h j hj
  rw [aA hj] at this
  simpa using this
 simp [KF,this]
theorem Sz {α:Type}[DecidableEq α](xs:List α)(v:α):0≤KF xs v↔v∈xs:=by
 unfold KF
 cases h:xs.findIdx? (fun x=>decide (x=v)) with
 | none =>
  rw [qG] at h
  constructor
  ·intro h';simp at h'
  ·intro hv;have:=h v hv;simp at this
 | some i =>
  rw [fC] at h
  obtain ⟨hi,hv,_⟩:=h
  have:xs[i]=v:=by simpa using hv
  constructor
  ·intro _;rw [← this];exact aC hi
  ·intro _;simp
theorem mem_iff {α:Type}[DecidableEq α](xs:List α)(v:α):mem xs v=true↔v∈xs:=by simp [mem,Sz]
theorem Pn (xs:List ByteArray)(v:ByteArray):Pure Tryz.prog 208 [yV xs,.str v] (dI (KF xs v)):=by
 refine aU (aH (cfg:=⟨fun _=>false,fun _=>[]⟩) Tz.mixed Tryz.func208 rfl rfl (aD rfl) (by kernel_rfl) ?_)
 simp [go_sem,seval,dI,yV]
 intro hlen
 refine f9 (ι:=Nat) (fun i e H=>H=.emp∧i≤xs.length∧e 0=yV xs∧e 1=.str v∧e 7=dI xs.length∧e 8=dI i∧(∀ j,j<i→xs[j]?≠some v)) (fun i=>xs.length - i) 0 (by simp [go_sem,seval,dI,yV]) ?_
 intro i e H ⟨hH,hi,h0,h1,h7,h8,hn⟩
 subst hH
 simp [go_sem,seval,h0,h1,h7,h8,dI,yV]
 refine gB (fun hlt=>?_) (fun hge=>?_)
 ·simp [go_sem,seval,h0,h1,h7,h8,dI,yV,cS,hlt]
  refine aP (fun h=>?_) (fun h=>?_)
  ·simp at h
   simp [go_sem,seval,h0,h1,h7,h8,dI,yV,D.cl]
   rw [xE hn (by rw [aA hlt,h])]
  ·simp at h
   simp [go_sem,seval,h0,h1,h7,h8,dI,yV,D.cl]
   refine ⟨eO (by omega) (by omega),i+1,by omega,by omega,by omega,fun j hj=>?_⟩
   rcases bQ j i with hj'|hj'
   ·exact hn j hj'
   ·have:j=i:=by omega
    subst this;rw [aA hlt];simpa using fun e=>h e.symm
 ·simp [go_sem,seval,h0,h1,h7,h8,dI,yV,D.cl]
  rw [Fg fun j hj=>hn j (by omega)]
theorem A9 (xs:List ByteArray)(v:ByteArray):Pure Tryz.prog 173 [yV xs,.str v] (.bool (mem xs v)):=by
 refine aU (aH (cfg:=⟨fun _=>false,fun _=>[]⟩) Tz.mixed Tryz.func173 rfl rfl (aD rfl) (by kernel_rfl) ?_)
 simp [go_sem,seval]
 refine aB (Pn xs v) (by simp [D.clL,go_sem,D.cl,dI]) ?_
 simp [go_sem,seval,D.cl,dI,mem]
theorem Po (xs:List Int)(v:Int):Pure Tryz.prog 100 [dLI xs,dI v] (dI (KF xs v)):=by
 refine aU (aH (cfg:=⟨fun _=>false,fun _=>[]⟩) Tz.mixed Tryz.func100 rfl rfl (aD rfl) (by kernel_rfl) ?_)
 simp [go_sem,seval,dI,dLI]
 intro hlen
 refine f9 (ι:=Nat) (fun i e H=>H=.emp∧i≤xs.length∧e 0=dLI xs∧e 1=dI v∧e 7=dI xs.length∧e 8=dI i∧(∀ j,j<i→xs[j]?≠some v)) (fun i=>xs.length - i) 0 (by simp [go_sem,seval,dI,dLI]) ?_
 intro i e H ⟨hH,hi,h0,h1,h7,h8,hn⟩
 subst hH
 simp [go_sem,seval,h0,h1,h7,h8,dI,dLI]
 refine gB (fun hlt=>?_) (fun hge=>?_)
 ·simp [go_sem,seval,h0,h1,h7,h8,dI,dLI,cI,hlt]
  refine aP (fun h=>?_) (fun h=>?_)
  ·simp at h
   simp [go_sem,seval,h0,h1,h7,h8,dI,dLI,D.cl]
   rw [xE hn (by rw [aA hlt,h])]
  ·simp at h
   simp [go_sem,seval,h0,h1,h7,h8,dI,dLI,D.cl]
   refine ⟨eO (by omega) (by omega),i+1,by omega,by omega,by omega,fun j hj=>?_⟩
   rcases bQ j i with hj'|hj'
   ·exact hn j hj'
   ·have:j=i:=by omega
    subst this;rw [aA hlt];simpa using fun e=>h e.symm
 ·simp [go_sem,seval,h0,h1,h7,h8,dI,dLI,D.cl]
  rw [Fg fun j hj=>hn j (by omega)]
theorem fF (xs:List Int)(v:Int):Pure Tryz.prog 64 [dLI xs,dI v] (.bool (mem xs v)):=by
 refine aU (aH (cfg:=⟨fun _=>false,fun _=>[]⟩) Tz.mixed Tryz.func64 rfl rfl (aD rfl) (by kernel_rfl) ?_)
 simp [go_sem,seval]
 refine aB (Po xs v) (by simp [D.clL,go_sem,D.cl,dI]) ?_
 simp [go_sem,seval,D.cl,dI,mem]
def wW (c:Int):Bool:=decide (32≤c)&&decide (c≤126)&&c != 34
theorem Gd (c:Int):Pure Tryz.prog 235 [.int .u8 c] (.bool (wW c)):=by
 refine aU (aH (cfg:=⟨fun _=>false,fun _=>[]⟩) Tz.mixed Tryz.func235 rfl rfl (aD rfl) (by kernel_rfl) ?_)
 simp [go_sem,seval,wW,D.cl]
def uM (s:ByteArray):Int × Int :=
 let n:=lD wW (s.extract 1 s.size)
 if (1+(n:Int)=s.size)∨HT s (1+n)≠34 then (0,2) else if 60<n then (0,3) else (n+2,0)
theorem OB (p:Int→Bool)(s:ByteArray):lD p s≤s.size:=by
 have:=(List.takeWhile_sublist (l:=s.data.toList) (fun b:UInt8=>p (b.toNat:Int))).length_le
 exact this
theorem H9 (s:ByteArray)(h1:1≤s.size)(h2:s.size≤100000):Pure Tryz.prog 205 [.str s] (.tup [dI (uM s).1,dI (uM s).2]):=by
 refine aU (aH (cfg:=⟨fun _=>false,fun _=>[]⟩) Tz.mixed Tryz.func205 rfl rfl (aD rfl) (by kernel_rfl) ?_)
 simp [go_sem,seval,h1]
 have hx:(s.extract 1 s.size).size≤1000000:=by rw [ByteArray.size_extract];omega
 refine ⟨by omega,aB (BF (s.extract 1 s.size) _ _ hx (fun c _ _=>Gd c)) rfl ?_⟩
 have hl:=OB wW (s.extract 1 s.size)
 rw [ByteArray.size_extract] at hl
 simp [go_sem,seval,dI]
 unfold uM
 generalize lD wW (s.extract 1 s.size)=n at *
 have hb:((s.data[(1+(n:Int)).toNat]?.getD 0).toNat:Int)=HT s (1+n):=by
  unfold HT;congr 3
 rw [hb]
 refine ⟨eO (by omega) (by omega),fun _=>eO (by omega) (by omega),fun h=>by omega,aP (fun h=>?_) (fun h=>?_)⟩
 ·simp at h
  simp [go_sem,seval,h]
 ·simp at h
  simp [go_sem,seval,h]
  refine aP (fun h6=>?_) (fun h6=>?_)
  ·simp at h6
   simp [go_sem,seval,show 60<n by omega]
  ·simp at h6
   simp [go_sem,seval,show ¬ 60<n by omega]
   exact eO (by omega) (by omega)
def Nx:List ByteArray:=[⟨#[45,62]⟩,⟨#[60,61]⟩,⟨#[62,61]⟩,⟨#[61,61]⟩,⟨#[33,61]⟩]
theorem LK (s:ByteArray):Pure Tryz.prog 206 [.str s] (.bool (decide ((2:Int)≤s.size)&&mem Nx (s.extract 0 2))):=by
 refine aU (aH (cfg:=⟨fun _=>false,fun _=>[]⟩) Tz.mixed Tryz.func206 rfl rfl (aD rfl) (by kernel_rfl) ?_)
 simp [go_sem,seval]
 refine bD (r:=.bool (mem Nx (s.extract 0 2))) (fun _=>A9 Nx (s.extract 0 2)) (fun _=>rfl) ?_
 simp [go_sem,seval]
def Ng:ByteArray:=⟨#[123,125,40,41,91,93,44,59,58,61,43,45,42,60,62,33,38,124,46,63]⟩
def IH (s:ByteArray)(c:Int):Int:=firstIdx s c.toNat.toUInt8
theorem Lc (s:ByteArray)(c:Int)(w:World):(callFunc 249 #[.string s,.int .u8 c]).run Tryz.prog w=.ok (.value (.int .i64 (firstIdx s c.toNat.toUInt8))) w:=by
 rw [run_callFunc_extern Tryz.func249 (by kernel_rfl) (by kernel_rfl) (by kernel_rfl) (e:=Extern.BytealgIndexByte.indexByte) (by kernel_rfl),run_indexByte_string]
 rfl
set_option maxHeartbeats 400000 in
open RowKit in
theorem Av (s:ByteArray)(c:Int)(w:World) :
  Calls Tryz.prog 236 #[.string s,.int .u8 c] w fun e w'=>e=.returned (.int .i64 (firstIdx s c.toNat.toUInt8))∧w'=w:=by
 have h:=Lc s c
 go_enter Tryz.func236,Tryz.ntmps236
 go_wp2
 go_ret
 exact ⟨rfl,rfl⟩
theorem vV (s : ByteArray) (c : Int) : Pure Tryz.prog 236 [.str s, .int .u8 c] (dI (IH s c)) := by
  refine ⟨⟨Tryz.f236, Tryz.func236, rfl, rfl⟩, fun M w vals hM ha => ?_⟩
  have hv : vals = [.string s, .int .u8 c] := by
    obtain ⟨hl, hr⟩ := ha
    match vals, hl with
    | [a, b], _ =>
      have h0 := hr 0 a _ rfl rfl
      have h1 := hr 1 b _ rfl rfl
      cases h0
      cases h1
      rfl
  subst hv
  exact (Av s c w).mono fun e w' ⟨h1, h2⟩ => ⟨_, h1, .int _ _, by subst h2; exact ⟨rfl, rfl, rfl, aL _, fun _ _ => rfl⟩⟩
theorem Aw (s:ByteArray)(c:Int):Pure Tryz.prog 207 [.str s,.int .u8 c] (dI (IH s c)):=by
 refine aU (aH (cfg:=⟨fun _=>false,fun _=>[]⟩) Tz.mixed Tryz.func207 rfl rfl (aD rfl) (by kernel_rfl) ?_)
 simp [go_sem,seval]
 refine aB (vV s c) rfl ?_
 simp [go_sem,seval,dI]
def pS (s:ByteArray):Int × Int × Int :=
 if qZ (HT s 0)=true then (if 20<lD sQ s then (0,0,3) else (1,lD sQ s,0))
 else if sC (HT s 0)=true then (if 9<lD sC s then (0,0,3) else (2,lD sC s,0))
 else if HT s 0=34 then (3,(uM s).1,(uM s).2)
 else if (decide ((2:Int)≤s.size)&&mem Nx (s.extract 0 2))=true then (4,2,0)
 else if 0≤IH Ng (HT s 0) then (4,1,0) else (0,0,2)
theorem LL (s:ByteArray)(h1:1≤s.size)(h2:s.size≤100000):Pure Tryz.prog 171 [.str s] (.tup [dI (pS s).1,dI (pS s).2.1,dI (pS s).2.2]):=by
 refine aU (aH (cfg:=⟨fun _=>false,fun _=>[]⟩) Tz.mixed Tryz.func171 rfl rfl (aD rfl) (by kernel_rfl) ?_)
 simp [go_sem,seval]
 have hb:((s.data[0]?.getD 0).toNat:Int)=HT s 0:=rfl
 simp only [hb]
 refine ⟨by omega,aB (Ar _) rfl ?_⟩
 simp [go_sem,seval]
 refine aP (fun hl=>?_) (fun hl=>?_)
 ·simp [go_sem,seval]
  refine aB (BF s _ _ (by omega) (fun c _ _=>LJ c)) rfl ?_
  simp [go_sem,seval,dI]
  refine aP (fun h=>?_) (fun h=>?_)
  ·simp at h
   simp [go_sem,seval,pS,hl,show 20<lD sQ s by omega]
  ·simp at h
   simp [go_sem,seval,pS,hl,show ¬ 20<lD sQ s by omega]
 ·simp [go_sem,seval]
  refine aB (wH _) rfl ?_
  simp [go_sem,seval]
  refine aP (fun hd=>?_) (fun hd=>?_)
  ·simp [go_sem,seval]
   refine aB (BF s _ _ (by omega) (fun c _ _=>wH c)) rfl ?_
   simp [go_sem,seval,dI]
   refine aP (fun h=>?_) (fun h=>?_)
   ·simp at h
    simp [go_sem,seval,pS,hl,hd,show 9<lD sC s by omega]
   ·simp at h
    simp [go_sem,seval,pS,hl,hd,show ¬ 9<lD sC s by omega]
  ·simp [go_sem,seval]
   refine aP (fun hq=>?_) (fun hq=>?_)
   ·simp at hq
    simp [go_sem,seval]
    refine aB (H9 s h1 h2) rfl ?_
    have e:pS s=(3,(uM s).1,(uM s).2):=by unfold pS;rw [if_neg (by simp [hl]),if_neg (by simp [hd]),if_pos hq]
    simp [go_sem,seval,dI,e]
   ·simp at hq
    simp [go_sem,seval]
    refine aB (LK s) rfl ?_
    simp [go_sem,seval]
    refine aP (fun hp=>?_) (fun hp=>?_)
    ·simp [go_sem,seval,pS,hl,hd,hq,hp,dI]
    ·simp [go_sem,seval]
     refine aB (Aw Ng _) rfl ?_
     simp [go_sem,seval,dI]
     refine gB (fun hi=>?_) (fun hi=>?_)
     ·simp [go_sem,seval,pS,hl,hd,hq,hp,hi]
     ·simp [go_sem,seval,pS,hl,hd,hq,hp,hi]
def pM (s:ByteArray):Bool:=decide (s.size≠0)&&qZ (HT s 0)&&decide (lD sQ s≤20)&&decide (lD sQ s=s.size)
theorem zA (s:ByteArray):s=⟨#[]⟩↔s.size=0:=by
 constructor
 ·intro h;subst h;rfl
 ·intro h
  cases s with
  | mk d=>congr 1;exact Array.size_eq_zero_iff.1 h
theorem O6 (s:ByteArray)(hz:¬ s.size=0):(decide ((pS s).2.2=0)&&decide ((pS s).1=1)&&(pS s).2.1==(s.size:Int))=pM s:=by
 unfold pS pM
 by_cases hl:qZ (HT s 0)=true
 ·simp only [if_pos hl,hl]
  by_cases h:20<lD sQ s
  ·simp [h];intros;omega
  ·simp [h,hz,show lD sQ s≤20 by omega]
   rw [bF];simp;omega
 ·simp only [if_neg hl]
  have hl':qZ (HT s 0)=false:=by simpa using hl
  simp only [hl']
  repeat' split
  all_goals simp
theorem JD (s:ByteArray)(h2:s.size≤100000):∃ s',Pure Tryz.prog 128 [.agg [dI 1,.str s,dI 0]] (.tup [.str s',.bool (pM s)]):=by
 by_cases hz:s.size=0
 ·refine ⟨⟨#[]⟩,aU (aH (cfg:=⟨fun _=>false,fun _=>[]⟩) Tz.mixed Tryz.func128 rfl rfl (aD rfl) (by kernel_rfl) ?_)⟩
  simp [go_sem,seval,dI]
  refine aP (fun h=>?_) (fun h=>?_)
  ·simp [go_sem,seval,pM,hz]
  ·simp [zA,hz] at h
 ·refine ⟨s,aU (aH (cfg:=⟨fun _=>false,fun _=>[]⟩) Tz.mixed Tryz.func128 rfl rfl (aD rfl) (by kernel_rfl) ?_)⟩
  simp [go_sem,seval,dI]
  refine aP (fun h=>?_) (fun h=>?_)
  ·simp [zA,hz] at h
  ·simp [go_sem,seval]
   refine aB (LL s (by omega) h2) rfl ?_
   simp [go_sem,seval,dI]
   exact O6 s hz
theorem nJ (s:ByteArray)(h2:s.size≤100000):Pure Tryz.prog 86 [.str s] (.bool (pM s)):=by
 obtain ⟨s',hw⟩:=JD s h2
 refine aU (aH (cfg:=⟨fun _=>false,fun _=>[]⟩) Tz.mixed Tryz.func86 rfl rfl (aD rfl) (by kernel_rfl) ?_)
 simp [go_sem,seval,dI]
 refine aB hw rfl ?_
 simp [go_sem,seval,dI]
end Go.Abs
end
