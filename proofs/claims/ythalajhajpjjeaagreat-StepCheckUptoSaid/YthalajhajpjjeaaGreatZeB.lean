/- The abstraction layer, part E: operations that write or make -/
import Derived.Test.YthalajhajpjjeaaGreatZeA
import Derived.Lib.AppendZerosOnto
set_option linter.unusedVariables false
set_option linter.unusedSimpArgs false
section
namespace Go.Abs
section
variable {P:Program} {M0:Nat→Prop} {H:AHeap} {σ:Nat→Option Ow} {w:World}
theorem DW (o:Ow)(id:Nat)(h:σ id=some o):(fun i=>if i=id then some o else σ i)=σ:=by
 funext i;by_cases hi:i=id
 ·simp [hi,h]
 ·simp [hi]
theorem Cg {n:Nat}:∀ (es:List (List D)) (i:Nat) (c c':List D),(∀ c∈es,c.length=n)→es[i]?=some c→c'.length=n →
  (es.set i c').flatten=es.flatten.take (i * n)++c'++es.flatten.drop (i * n+n)
 | [],i,c,c',_,h,_=>by simp at h
 | e :: es,0,c,c',hl,h,hc'=>by
  have he:=hl e (by simp)
  simp [he]
 | e :: es,i+1,c,c',hl,h,hc'=>by
  have he:=hl e (by simp)
  simp at h
  have ih:=Cg es i c c' (fun c hc=>hl c (by simp [hc])) h hc'
  simp only [BH,dU,ih]
  have e1:(i+1) * n=e.length+i * n:=by rw [Nat.add_mul,he];omega
  rw [e1,xI,List.drop_append]
  simp only [List.append_assoc]
  rw [show List.take (e.length+i * n) e=e by rw [aH];omega,show e.length+i * n - e.length=i * n by omega,
   show List.drop (e.length+i * n+n) e=[] by rw [fX];omega,show e.length+i * n+n - e.length=i * n+n by omega]
  simp
theorem gY {α:Type}(a b c:List α)(j:Nat):(a++b++c)[j]?=if j<a.length then a[j]? else if j<a.length+b.length then b[j - a.length]? else c[j - a.length - b.length]?:=by
 by_cases h1:j<a.length
 ·rw [if_pos h1,List.append_assoc,aS h1]
 ·rw [if_neg h1,List.append_assoc,aZ (by omega)]
  by_cases h2:j<a.length+b.length
  ·rw [if_pos h2,aS (by omega)]
  ·rw [if_neg h2,aZ (by omega)]
theorem xD {M : Nat → Prop} {N : Nat → Prop} {v : Value} {d : D} (h : RepV M σ N w v d) (hd : d.cells.all D.cell = true) :
    RepL M σ N w v.cells.toList d.cells ∧ ∀ u ∈ v.cells.toList, u.oneCell' = true := by
  cases d with
  | agg ds =>
    cases h
    rename_i vs h1 hl hr
    exact ⟨⟨by simpa [Value.cells, D.cells] using hl, fun j u x hu hx => hr j u x (by simpa [Value.cells] using hu) (by simpa [D.cells] using hx)⟩, by simpa [Value.cells] using h1⟩
  | _ =>
    first
    | (simp [D.cells, D.cell] at hd; done)
    | (have h1 := h.oneCell rfl
       have hv : v.cells = #[v] := by cases v <;> first | rfl | (simp [Value.oneCell'] at h1)
       rw [hv]
       refine ⟨⟨by simp [D.cells], fun j u x hu hx => ?_⟩, by simpa using h1⟩
       cases j with
       | zero => simp [D.cells] at hu hx; subst hu; subst hx; exact h
       | succ j => simp at hu)
theorem G4 {M:Nat→Prop}{N:Nat→Prop}{v:Value}{d:D}(h:RepV M σ N w v d)(hd:d.cells.all D.cell=true):v.cells.size=d.cells.length:=by
 have:=(xD h hd).1.len;simpa using this
def OpU (P:Program)(x:Sem Unit)(M0:Nat→Prop)(H:AHeap)(σ:Nat→Option Ow)(w:World)(H':AHeap):Prop :=
 ∃ w' σ',x.run P w=.ok () w'∧Rel M0 H' σ' w'∧Stp σ w σ' w'∧Keeps (cF M0 H σ) σ H.al w (cF M0 H' σ') σ' H'.al w'
theorem IT {t : TypeId} {va vv : Value} {x v : D} (hR : Rel M0 H σ w) (hx : RepV (cF M0 H σ) σ H.al w va x) (hv : RepV (cF M0 H σ) σ H.al w vv v) (hc : (kH P t x v H).cond) :
    OpU P (Instr.storeAt t va vv) M0 H σ w (kH P t x v H).heap := by
  unfold kH at *
  cases x <;> try (simp [AOut.bad] at hc; done)
  rename_i id ver i off
  cases hk : H.get id with
  | none => simp [hk, AOut.bad] at hc
  | some k =>
    cases hci : k.es[i]? with
    | none => simp [hk, hci, AOut.bad] at hc
    | some c =>
      simp only [hk, hci] at hc ⊢
      obtain ⟨hfz, hver, hsz, hinfo, hcell, hoff⟩ := hc
      obtain ⟨ti, hti⟩ := jI.1 hinfo
      obtain ⟨o, ho, l⟩ := hR.lies id k hk
      obtain ⟨xs, hrow, hx1, hrep⟩ := l.row
      have hlt : i < k.es.length := (aL.1 hci).1
      have hclen : c.length = o.esz := l.esz c (aJ hci)
      cases hx
      rename_i hN h1 h
      rcases h o ho with h' | ⟨hv', b, hb, rfl⟩
      · have := l.ver; omega
      · obtain ⟨hrv, hu1⟩ := xD hv hcell
        have hvl := G4 hv hcell
        have hxl : xs.length = k.es.length * o.esz := hrep.len.trans (j4 k.es l.esz)
        have hbound : i * o.esz + o.esz ≤ xs.length := by
          rw [hxl]
          have : (i + 1) * o.esz ≤ k.es.length * o.esz := eG _ hlt
          rw [Nat.add_mul] at this; omega
        rcases hrow.2 with ⟨hnil, _⟩ | ⟨g, cap, cur, hval, hb0, hg, hnc, hcm, hcs, htake⟩
        · simp [Ow.block, hnil, Value.ownBlock] at hb
        · have hgb : g = b := by simpa [Ow.block, hval, Value.ownBlock] using hb
          subst hgb
          have hcur : k.es.length * o.esz ≤ cur.size := by rw [hcs]; exact eG _ hnc
          have hst := run_storeCells_at (P := P) g (i * o.esz + off) k.ty vv.cells.toList 0 cur w hg (by simp; omega) hu1
          simp only [qW] at hst
          have hsize : vv.cells.size = ti.size := by rw [hvl, hsz]; simp [Program.cellsOf, hti]
          refine ⟨w.setRow g (cur.toList.take (i * o.esz + off) ++ vv.cells.toList ++ cur.toList.drop (i * o.esz + off + vv.cells.toList.length)).toArray, σ, ?_, ?_⟩
          · simp [Instr.storeAt, Instr.sureAddr, storeVar, sizeOf, typeInfo, hti, hsize]
            simpa [hsize] using hst
          · have hlc : (pW c off v.cells).length = o.esz := by simp [pW]; omega
            have hp := Rel.put hR hk hfz ho { k with es := k.es.set i (pW c off v.cells) } o (w' := w.setRow g (cur.toList.take (i * o.esz + off) ++ vv.cells.toList ++ cur.toList.drop (i * o.esz + off + vv.cells.toList.length)).toArray)
              ⟨rfl, rfl, rfl, by simp, fun q _ hq => setRow_other w g q _ (fun e => hq (by rw [e, hb]))⟩ (fun b' hb' => .inl hb') (.inl rfl) (by simpa using l.ver) l.ty l.sz
              (fun d hd => by
                rcases lA hd with h' | h'
                · exact l.esz d h'
                · rw [h', hlc])
              (xs.take (i * o.esz + off) ++ vv.cells.toList ++ xs.drop (i * o.esz + off + vv.cells.toList.length))
              ⟨by simp [hxl]; omega, .inr ⟨g, cap, _, by simpa using hval, hb0, setRow_heap w g cur _ k.ty _ hg, by simpa using hnc, hcm, by simp; omega, by
                have hcl : vv.cells.toList.length = vv.cells.size := by simp
                simp only [i5]
                rw [← htake]
                apply fP
                intro j
                simp only [bM, gY, cN, bR, eW]
                by_cases hj : j < k.es.length * o.esz
                · rw [if_pos hj]
                  have m1 : min (i * o.esz + off) cur.size = i * o.esz + off := by omega
                  have m2 : min (i * o.esz + off) (min (k.es.length * o.esz) cur.size) = i * o.esz + off := by omega
                  rw [m1, m2]
                  split
                  · first | rfl | rw [if_pos hj]
                  · split
                    · rfl
                    · first | rfl | rw [if_pos (by omega)]
                · rw [if_neg hj]
                  have m2 : min (i * o.esz + off) (min (k.es.length * o.esz) cur.size) = i * o.esz + off := by omega
                  rw [m2, if_neg (by omega), if_neg (by omega), if_neg (by omega)]⟩⟩
              (fun u hu => by
                simp only [aY] at hu
                rcases hu with (hu | hu) | hu
                · exact hx1 u (b9 hu)
                · exact hu1 u hu
                · exact hx1 u (eH hu))
              ⟨by rw [j4 _ (fun d hd => by
                    rcases lA hd with h' | h'
                    · exact l.esz d h'
                    · rw [h', hlc])]; simp [hxl]; omega, fun j u d hu hd => by
                simp only at hd
                rw [Cg k.es i c _ l.esz hci hlc] at hd
                have hfl : k.es.flatten.length = xs.length := hrep.len.symm
                simp only [gY, cN, bM, bR, hfl, hlc, eW] at hu hd
                have m1 : min (i * o.esz + off) xs.length = i * o.esz + off := by omega
                have m2 : min (i * o.esz) xs.length = i * o.esz := by omega
                rw [m1] at hu
                rw [m2] at hd
                split at hd
                · rename_i hj1
                  rw [if_pos (by omega), if_pos (by omega)] at hu
                  try rw [if_pos hj1] at hd
                  exact hrep.rep j u d hu hd
                · rename_i hj1
                  split at hd
                  · rename_i hj2
                    simp only [pW, gY, cN, bM, bR] at hd
                    have m3 : min off c.length = off := by omega
                    rw [m3] at hd
                    split at hd
                    · rename_i hj3
                      rw [if_pos (by omega), if_pos (by omega)] at hu
                      try rw [if_pos hj3] at hd
                      refine hrep.rep j u d hu ?_
                      have := kX k.es i c l.esz hci (j - i * o.esz) (by omega)
                      rw [show i * o.esz + (j - i * o.esz) = j by omega] at this
                      rw [this, hd]
                    · rename_i hj3
                      split at hd
                      · rename_i hj4
                        rw [if_neg (by omega), if_pos (by omega)] at hu
                        refine hrv.rep (j - (i * o.esz + off)) u d hu ?_
                        rw [← hd]; congr 1; omega
                      · rename_i hj4
                        rw [if_neg (by omega), if_neg (by omega)] at hu
                        have e1 : i * o.esz + off + vv.cells.size + (j - (i * o.esz + off) - vv.cells.size) = j := by omega
                        rw [e1] at hu
                        refine hrep.rep j u d hu ?_
                        have := kX k.es i c l.esz hci (j - i * o.esz) (by omega)
                        rw [show i * o.esz + (j - i * o.esz) = j by omega] at this
                        rw [this, ← hd]; congr 1; omega
                  · rename_i hj2
                    rw [if_neg (by omega), if_neg (by omega)] at hu
                    have e1 : i * o.esz + off + vv.cells.size + (j - (i * o.esz + off) - vv.cells.size) = j := by omega
                    rw [e1] at hu
                    refine hrep.rep j u d hu ?_
                    rw [← hd]; congr 1; omega⟩
            simp only [DW o id ho] at hp
            exact hp
end
end Go.Abs
end
section
namespace Go.Abs
section
variable {P:Program} {M0:Nat→Prop} {H:AHeap} {σ:Nat→Option Ow} {w:World}
theorem pA {t : TypeId} {s : SlI} (h : sl P t = some s) :
    P.underlying t = some (.slice s.e) ∧ ∃ i z, P.info? s.e = some i ∧ i.zero = some z ∧ i.size = s.sz ∧ i.bytes = s.by_ ∧ 0 < s.sz ∧ s.by_ ≤ 4096 ∧ s.z = z.cells.toList.map nT ∧ s.z.length = s.sz ∧ z.cells.size = s.sz ∧ s.z.all D.cell = true := by
  unfold sl at h
  split at h
  · rename_i e hu
    split at h
    · rename_i i hi
      split at h
      · rename_i hc
        obtain ⟨h0, hb, hz, hcell⟩ := hc
        cases h
        cases hz' : i.zero with
        | none => simp [vD, hz'] at hz; omega
        | some z =>
          refine ⟨hu, i, z, hi, hz', rfl, rfl, h0, hb, by simp [vD, hz'], hz, ?_, hcell⟩
          simpa [vD, hz'] using hz
      · cases h
    · cases h
  · cases h
theorem EJ {M:Nat→Prop}{N:Nat→Prop}(v:Value):RepV M σ N w v (nT v):=by
 unfold nT
 split
 ·exact .int _ _
 ·exact .bool _
 ·exact .str _
 ·exact .nil
 ·exact .nilp
 ·exact .nilf
 ·exact .junk _
theorem L3 {v:Value}(h:(nT v).cell=true):v.oneCell'=true:=by
 cases v<;>first|rfl|(simp [nT,D.cell] at h)
theorem Db {M:Nat→Prop}{N:Nat→Prop}(zs:List Value)(h:(zs.map nT).all D.cell=true):RepL M σ N w zs (zs.map nT)∧∀ u∈zs,u.oneCell'=true:=by
 refine ⟨⟨by simp,fun j u d hu hd=>?_⟩,fun u hu=>?_⟩
 ·rw [aR,hu] at hd
  simp at hd;subst hd
  exact EJ u
 ·simp only [List.all_map,bX,Function.comp] at h
  exact L3 (h u hu)
theorem qA {M:Nat→Prop}{N:Nat→Prop}{v:Value}{es:List (List D)}(h:RepV M σ N w v (.list es)) :
  (v=.slice none 0 0∧es=[])∨∃ ad cap sz xs,v=.slice (some ad) es.length cap∧RepL M σ N w xs es.flatten∧(∀ u∈xs,u.oneCell'=true) ∧
   (∀ j u,xs[j]?=some u→¬ M ad.block∧w.cell? (ad.add j)=some u)∧es.length≤cap∧cap≤maxLen∧∀ c∈es,c.length=sz:=by
 generalize hd:D.list es=d at h
 cases h with
 | listN=>cases hd;exact .inl ⟨rfl,rfl⟩
 | list ad cap sz xs es hc hm hsz hl h1 hcell hr=>cases hd;exact .inr ⟨ad,cap,sz,xs,rfl,⟨hl,hr⟩,h1,hcell,hc,hm,hsz⟩
 | _=>cases hd
theorem Kk {v : Value} {x : D} {es : List (List D)} (hR : Rel M0 H σ w) (hx : RepV (cF M0 H σ) σ H.al w v x) (he : mU H x = some es) :
    (v = .slice none 0 0 ∧ es = []) ∨ ∃ ad cap xs, v = .slice (some ad) es.length cap ∧ RepL (cF M0 H σ) σ H.al w xs es.flatten ∧ (∀ u ∈ xs, u.oneCell' = true) ∧
      (∀ j u, xs[j]? = some u → w.cell? (ad.add j) = some u) ∧ es.length ≤ cap ∧ cap ≤ maxLen := by
  cases x <;> simp only [mU] at he <;> try (cases he; done)
  case nil => cases he; cases hx; exact .inl ⟨rfl, rfl⟩
  case ne =>
    cases he; cases hx; rename_i ad cap hm
    exact .inr ⟨ad, cap, [], rfl, ⟨rfl, fun j u d hu => by simp at hu⟩, by simp, fun j u hu => by simp at hu, dF _, hm⟩
  case list es' =>
    cases he
    rcases qA hx with h | ⟨ad, cap, sz, xs, h1, h2, h3, h4, h5, h6, _⟩
    · exact .inl h
    · exact .inr ⟨ad, cap, xs, h1, h2, h3, fun j u hu => (h4 j u hu).2, h5, h6⟩
  case own id n =>
    cases hk : H.get id with
    | none => simp [hk] at he
    | some k =>
      simp only [hk] at he
      split at he
      · rename_i hn
        cases he
        obtain ⟨o, ho, l⟩ := hR.lies id k hk
        obtain ⟨xs, hrow, hx1, hrep⟩ := l.row
        cases hx
        rename_i hN h1 h
        rcases h o ho with h' | ⟨_, rfl⟩
        · have := l.ver; omega
        · rcases hrow.2 with ⟨hnil, h0⟩ | ⟨g, cap, cur, hval, _, _, hnc, hcm, _⟩
          · exact .inl ⟨hnil, bF h0⟩
          · exact .inr ⟨⟨g, 0, none⟩, cap, xs, hval, hrep, hx1, hrow.cells (g := g) (by simp [hval, Value.ownBlock]), hnc, hcm⟩
      · cases he
theorem Io {nid : Nat} (hn : ¬ H.al nid) {t t' ty : TypeId} {va vb : Value} {x y : D} (hR : Rel M0 H σ w) (hx : RepV (cF M0 H σ) σ H.al w va x) (hy : RepV (cF M0 H σ) σ H.al w vb y)
    (he0 : (mU H y).isSome = true) (hc : (jC P nid t t' x y H).cond) : (jC P nid t t' x y H).fact ∧ OpS P (Builtin.append_ #[t, t'] ty #[va, vb]) M0 H σ w (jC P nid t t' x y H).val (jC P nid t t' x y H).heap := by
  unfold jC at *
  cases hs : sl P t with
  | none => simp [hs, AOut.bad] at hc
  | some s =>
    cases he : mU H y with
    | none => rw [he] at he0; cases he0
    | some ys =>
      simp only [hs, he] at hc ⊢
      obtain ⟨hu, i, z, hi, hz, hisz, hiby, hsz, hby, hsz', hszl, hzs, hzc⟩ := pA hs
      have hfit : ∀ m : Nat, m ≤ 4294967296 → m ≤ maxLen ∧ m * s.by_ ≤ 140737488355328 := fun m hm => by
        refine ⟨by simp only [maxLen]; omega, ?_⟩
        have := iY hm hby
        omega
      have main : ∀ (v : Value) (n : Nat) (xs : List Value), w.ownsRow 0 s.e s.sz v n xs → n + ys.length ≤ 4294967296 → (∀ c ∈ ys, c.length = s.sz) → ys.flatten.all D.cell = true →
          ∃ v' w' news, (Builtin.append_ #[t, t] ty #[v, vb]).run P w = .ok v' w' ∧ w'.ownsRow 0 s.e s.sz v' (n + ys.length) (xs ++ news) ∧ w.grownBy w' v.ownBlock ∧
            RepL (cF M0 H σ) σ H.al w news ys.flatten ∧ (∀ u ∈ news, u.oneCell' = true) ∧ (ys.length = 0 → v' = v) ∧ (∀ b, v'.ownBlock = some b → v.ownBlock = some b ∨ w.heap.size ≤ b) := by
        intro v n xs hown hle hlen hcell
        rcases Kk hR hy he with ⟨rfl, hnil⟩ | ⟨ad, cap, news, rfl, hrep, h1, hcl, hec, hem⟩
        · subst hnil
          exact ⟨v, w, [], run_append_owned_none w 0 t ty s.e i s.sz hu hi v n xs hown, by simpa using hown, ⟨rfl, rfl, rfl, bC _, fun _ _ _ => rfl⟩, ⟨rfl, fun j u d hu => by simp at hu⟩, by simp, fun _ => rfl, fun b hb => .inl hb⟩
        · have hnl : news.length = ys.length * s.sz := hrep.len.trans (j4 ys hlen)
          by_cases h0 : ys.length = 0
          · have hn0 : news = [] := bF (by rw [hnl, h0]; simp)
            subst hn0
            have hrun : (Builtin.append_ #[t, t] ty #[v, .slice (some ad) ys.length cap]).run P w = .ok v w := by
              rw [h0]
              rcases hown.2 with ⟨rfl, rfl⟩ | ⟨g, cap', cur, rfl, _, _, hnc, _⟩
              · simp [Builtin.append_, run_underlying hu, sizeOf, typeInfo, hi, Builtin.lenOf, Builtin.firstCells, loadCells, loadCellsFrom]
              · simp [Builtin.append_, run_underlying hu, sizeOf, typeInfo, hi, Builtin.lenOf, Builtin.firstCells, loadCells, loadCellsFrom, hnc, storeCells]
            exact ⟨v, w, [], hrun, by simpa [h0] using hown, ⟨rfl, rfl, rfl, bC _, fun _ _ _ => rfl⟩, hrep, by simp, fun _ => rfl, fun b hb => .inl hb⟩
          · obtain ⟨hm1, hm2⟩ := hfit _ hle
            obtain ⟨v', w', hrun, hown', hg, _⟩ := run_append_own (P := P) w 0 t ty s.e i z s.sz s.by_ hu hi hz hisz hiby hzs hsz v n xs hown ad ys.length cap news hnl hcl h1 hm1 hm2 (dF _)
            refine ⟨v', w', news, hrun, hown', hg, hrep, h1, fun h => absurd h h0, fun b hb => ?_⟩
            rcases bN b w.heap.size with hlt | hge
            · left
              rcases hown.2 with ⟨hnil, hn⟩ | ⟨g, cap', cur, hv, _, hgk, hnc, hcm, hcs, htake⟩
              · subst hnil; subst hn
                have hx0 : xs = [] := bF (by simpa using hown.1)
                subst hx0
                have hr := run_append_nil (P := P) w t ty s.e i z hu hi hz ad ys.length cap news (by rw [hnl, hisz]) hcl (by omega) (by simp only [maxLen] at hm1; omega) (by rw [hiby]; have := hm2; simp only [dQ] at this; omega)
                rw [hr] at hrun
                cases hrun
                simp [Value.ownBlock] at hb
                omega
              · subst hv
                by_cases hroom : n + ys.length ≤ cap'
                · have hfit' : n * i.size + news.length ≤ cur.size := by rw [hnl, hcs, hisz, ← Nat.add_mul]; exact eG _ hroom
                  have hr := run_append_room (P := P) w t ty s.e i hu hi g n cap' cur hgk ad ys.length cap news (by rw [hnl, hisz]) hcl h1 hroom hfit'
                  rw [hr] at hrun
                  cases hrun
                  exact hb
                · have holds : ∀ j u, xs[j]? = some u → w.cell? ((⟨g, 0, none⟩ : Addr).add j) = some u := hown.cells (g := g) rfl
                  have hr := run_append_grow (P := P) w t ty s.e i z hu hi hz ⟨g, 0, none⟩ n cap' xs (by rw [hown.1, hisz]) holds ad ys.length cap news (by rw [hnl, hisz]) hcl (by omega) (by simp only [maxLen] at hm1; omega) (growslice_fits (by omega) (by rw [hiby]; exact hm2))
                  rw [hr] at hrun
                  cases hrun
                  simp [Value.ownBlock] at hb
                  omega
            · exact .inr hge
      cases x <;> try (simp [AOut.bad] at hc; done)
      case nil =>
        obtain ⟨rfl, hle, hlen, hcell⟩ := hc
        cases hx
        obtain ⟨v', w', news, hrun, hown', hg, hrep, h1, _, hblk⟩ := main _ 0 [] (World.ownsRow_nil w 0 s.e s.sz) (by omega) hlen hcell
        have hp := Rel.push hR nid hn (w' := w') hg.os hg.tape hg.output hg.size (fun b hb => hg.block b hb (by simp [Value.ownBlock])) ⟨s.e, s.sz, ys, false⟩ ⟨ys.length, v', s.sz, s.e⟩
          (fun b hb => by
            rcases hblk b hb with h | h
            · simp [Value.ownBlock] at h
            · exact h) rfl rfl rfl hlen news (by simpa using hown') h1 hrep
        refine ⟨trivial, v', w', _, hrun, hp.1, .own v' nid ys.length (.inl rfl) ?_ fun o ho => ?_, hp.2.1, hp.2.2⟩
        · rcases hown'.2 with ⟨rfl, _⟩ | ⟨g, c, cu, rfl, _⟩ <;> rfl
        · simp at ho; subst ho; exact .inr ⟨rfl, rfl⟩
      case own id n =>
        cases hk : H.get id with
        | none => simp [hk, AOut.bad] at hc
        | some k =>
          simp only [hk] at hc ⊢
          obtain ⟨rfl, hfz, hty, hnn0, hle, hkl, hlen, hcell⟩ := hc
          obtain ⟨o, ho, l⟩ := hR.lies id k hk
          obtain ⟨xs, hrow, hx1, hrepx⟩ := l.row
          cases hx
          rename_i h1' hN h
          rcases h o ho with h' | ⟨_, rfl⟩
          · have := l.ver; omega
          · have hesz : o.esz = s.sz := l.sz.trans hkl
            have hrow' : w.ownsRow 0 s.e s.sz o.val k.es.length xs := by rw [← hty, ← hesz]; exact hrow
            obtain ⟨v', w', news, hrun, hown', hg, hrep, h1, hsame, hblk⟩ := main o.val k.es.length xs hrow' (by omega) hlen hcell
            have hp := Rel.put hR (w' := w') hk hfz ho { k with es := k.es ++ ys } ⟨k.es.length + ys.length, v', s.sz, s.e⟩ hg hblk
              (by
                by_cases h0 : ys.length = 0
                · left
                  have := l.ver; have hs' := hsame h0
                  obtain ⟨ov, oval, oe, ot⟩ := o
                  simp only at this hs' hesz ⊢
                  have ht := l.ty
                  simp only at ht
                  subst this; subst hs'; subst hesz
                  rw [ht, hty]; simp [h0]
                · right; have := l.ver; simp only; omega)
              (by simp) (by simp [hty]) (by simp [hkl])
              (fun c hc => by
                rcases aY.1 hc with h' | h'
                · simpa [← hesz] using l.esz c h'
                · exact hlen c h')
              (xs ++ news) (by simpa [hty] using hown') (fun u hu => by
                rcases aY.1 hu with h' | h'
                · exact hx1 u h'
                · exact h1 u h')
              ⟨by simp only [aV, j8, hrepx.len, hrep.len], fun j u d hu hd => by
                simp only [j8] at hd
                by_cases hj : j < xs.length
                · rw [aS hj] at hu
                  rw [aS (by rw [← hrepx.len]; exact hj)] at hd
                  exact hrepx.rep j u d hu hd
                · rw [aZ (by omega)] at hu
                  rw [aZ (by rw [← hrepx.len]; omega), ← hrepx.len] at hd
                  exact hrep.rep _ u d hu hd⟩
            have hnn : n = k.es.length := hnn0.symm
            subst hnn
            refine ⟨trivial, v', w', _, hrun, hp.1, .own v' id _ hN ?_ fun o' ho' => ?_, hp.2.1, hp.2.2⟩
            · rcases hown'.2 with ⟨rfl, _⟩ | ⟨g, c, cu, rfl, _⟩ <;> rfl
            · simp at ho'; subst ho'; exact .inr ⟨rfl, rfl⟩
end
end Go.Abs
end
section
namespace Go.Abs
section
variable {P:Program} {M0:Nat→Prop} {H:AHeap} {σ:Nat→Option Ow} {w:World}
theorem kJ (z:List D)(n:Nat):((List.replicate n z).flatten).length=n * z.length:=by
 rw [j4 (n:=z.length) _ (fun c hc=>by rw [jJ hc])];simp
theorem u4 (z:List D)(n j:Nat)(h0:0<z.length)(hj:j<n * z.length):((List.replicate n z).flatten)[j]?=z[j % z.length]?:=by
 have h1:=kX (n:=z.length) (List.replicate n z) (j / z.length) z (fun c hc=>by rw [jJ hc])
  (by rw [sC,if_pos (Nat.div_lt_of_lt_mul (by rw [Nat.mul_comm];exact hj))]) (j % z.length) (Nat.mod_lt _ h0)
 rw [show j / z.length * z.length+j % z.length=j by rw [Nat.mul_comm];exact Nat.div_add_mod _ _] at h1
 exact h1
theorem n6 {M:Nat→Prop}{N:Nat→Prop}(z:Value)(n:Nat)(h0:0<z.cells.size)(h:(z.cells.toList.map nT).all D.cell=true) :
  RepL M σ N w (madeCells z.cells (n * z.cells.size)).toList (List.replicate n (z.cells.toList.map nT)).flatten∧∀ u∈(madeCells z.cells (n * z.cells.size)).toList,u.oneCell'=true:=by
 obtain ⟨hr,h1⟩:=Db (M:=M) (σ:=σ) (N:=N) (w:=w) z.cells.toList h
 have hget:∀ j u,(madeCells z.cells (n * z.cells.size)).toList[j]?=some u→j<n * z.cells.size∧z.cells.toList[j % z.cells.size]?=some u:=by
  intro j u hu
  have hj:j<n * z.cells.size:=by
   have:=(aL.1 hu).1
   simpa [size_madeCells] using this
  refine ⟨hj,?_⟩
  have hm:j % z.cells.size<z.cells.size:=Nat.mod_lt _ h0
  simp [madeCells,hj] at hu
  subst hu
  simp [hm]
 refine ⟨⟨by rw [kJ];simp [size_madeCells],fun j u d hu hd=>?_⟩,fun u hu=>?_⟩
 ·obtain ⟨hj,hz⟩:=hget j u hu
  rw [u4 _ n j (by simpa using h0) (by simpa using hj)] at hd
  exact hr.rep _ u d hz (by simpa using hd)
 ·obtain ⟨j,hj⟩:=List.mem_iff_getElem?.1 hu
  exact h1 u (aJ (hget j u hj).2)
theorem LL {nid:Nat}(hn:¬ H.al nid){t:TypeId}{vl vc:Value}{l c:D}(hR:Rel M0 H σ w)(hl:RepV (cF M0 H σ) σ H.al w vl l)(hcp:RepV (cF M0 H σ) σ H.al w vc c)
  (hc:(AS P nid t l c H).cond):(AS P nid t l c H).fact∧OpS P (Instr.makeSlice t vl vc) M0 H σ w (AS P nid t l c H).val (AS P nid t l c H).heap:=by
 unfold AS at *
 split at hc
 ·rename_i s _ n _ m hs
  obtain ⟨rfl,hn0,hn1⟩:=hc
  cases hl;cases hcp
  obtain ⟨hu,i,z,hi,hz,hisz,hiby,hsz,hby,hsz',hszl,hzs,hzc⟩:=pA hs
  obtain ⟨k,rfl⟩:=dX hn0
  simp only [Int.toNat_natCast]
  have hk:k≤4294967296:=by omega
  have hb:i.bytes * k≤281474976710656:=by
   rw [hiby]
   have:=iY hby hk
   omega
  obtain ⟨w',hrun,hown,hg⟩:=run_make_full (P:=P) w 0 t s.e i z s.sz hu hi hz hisz _ _ k hb (by simp only [maxLen];omega) (dF _)
  rw [← hzs] at hown
  obtain ⟨hr,h1⟩:=n6 (M:=cF M0 H σ) (σ:=σ) (N:=H.al) (w:=w) z k (by omega) (by rw [← hsz'];exact hzc)
  have hp:=Rel.push hR nid hn (w':=w') hg.os hg.tape hg.output hg.size (fun b hb=>hg.block b hb (by simp)) ⟨s.e,s.sz,List.replicate k s.z,false⟩ ⟨k,.slice (some ⟨w.heap.size,0,none⟩) k k,s.sz,s.e⟩
   (fun b hb=>by simp [Ow.block,Value.ownBlock] at hb;omega) (by simp) rfl rfl (fun c hc=>by rw [jJ hc,hszl])
   _ (by simpa [hzs] using hown) h1 (by simpa [hsz'] using hr)
  refine ⟨trivial,_,w',_,hrun,hp.1,.own _ nid k (.inl rfl) rfl fun o ho=>?_,hp.2.1,hp.2.2⟩
  simp at ho;subst ho;exact .inr ⟨rfl,rfl⟩
 ·exact hc.elim
theorem vK {t tn ty e:TypeId}{i:TypeInfo}{z:Value}{kq kn:IntKind}(ht:P.underlying t=some (.slice e))(htn:P.underlying tn=some (.int kn))(hi:P.info? e=some i)(hz:i.zero=some z)
  (hzs:z.cells.size=i.size) (hsz:0<i.size) (v:Value) (n:Nat) (xs:List Value) (hown:w.ownsRow 0 e i.size v n xs) (m:Nat) (hone:∀ u∈(madeCells z.cells (m * z.cells.size)).toList,u.oneCell'=true) (hm:n+m≤4294967296) (h63:n+m≤maxLen) (hbytes:(n+m) * i.bytes≤140737488355328) :
  ∃ v' w',(Builtin.append_ #[t,tn] ty #[v,.int kq m]).run P w=.ok v' w'∧w'.ownsRow 0 e i.size v' (n+m) (xs++(madeCells z.cells (m * z.cells.size)).toList)∧w.grownBy w' v.ownBlock ∧
   (m=0→v'=v)∧(∀ b,v'.ownBlock=some b→v.ownBlock=some b∨w.heap.size≤b):=by
 have hmz:∀ k,madeCells z.cells (k * z.cells.size)=Builtin.zeroCells z.cells k:=fun k=>rfl
 have hnl:(madeCells z.cells (m * z.cells.size)).toList.length=m * i.size:=by simp [size_madeCells,hzs]
 obtain ⟨news,hnews⟩:∃ x,x=(madeCells z.cells (m * z.cells.size)).toList:=⟨_,rfl⟩
 rw [← hnews] at hnl ⊢
 have hlen:(xs++news).length=(n+m) * i.size:=by rw [aV,hown.1,hnl,Nat.add_mul]
 have hw:IntKind.i64.wrap (m:Int)=m:=by rw [IntKind.wrap_i64];omega
 have hneg:¬ ((m:Int)<0):=by omega
 have hmb:m * i.bytes≤281474976710656:=by have:=eG i.bytes (show m≤n+m by omega);omega
 have h48i:¬ (281474976710656<(m:Int) * (i.bytes:Int)):=by rw [← Int.natCast_mul];omega
 have MW:∀ (old:Nat),old<n+m→∀ (row:Option Nat),
   (w.drew.alloc (.cells (xs.toArray++Builtin.zeroCells z.cells m++Builtin.zeroCells z.cells (grownCap w (n+m) old e - (n+m))) e)).ownsRow 0 e i.size
    (.slice (some ⟨w.heap.size,0,none⟩) (n+m) (grownCap w (n+m) old e)) (n+m) (xs++news) ∧
   w.grownBy (w.drew.alloc (.cells (xs.toArray++Builtin.zeroCells z.cells m++Builtin.zeroCells z.cells (grownCap w (n+m) old e - (n+m))) e)) row:=by
  intro old ho row
  have hge:=grownCap_ge w (n+m) old e
  have hcm:grownCap w (n+m) old e≤maxLen:=grownCap_le_maxLen w (n+m) old e h63
  have hza:Builtin.zeroCells z.cells m=news.toArray:=by rw [hnews,← hmz]
  rw [hza]
  refine ⟨⟨hlen,.inr ⟨w.heap.size,_,_,rfl,dF _,heap_alloc_new w.drew _,hge,hcm,?_,?_⟩⟩,⟨rfl,rfl,rfl,by simp,fun k hk _=>heap_alloc_old w.drew _ hk⟩⟩
  ·simp only [Array.size_append,lM,size_zeroCells,hzs,hown.1,hnl,← Nat.add_mul]
   congr 1
   omega
  ·simp only [Array.toList_append,List.append_assoc]
   rw [← List.append_assoc,← hlen]
   exact List.take_left
 by_cases hm0:m=0
 ·subst hm0
  have hn0:news=[]:=bF (by rw [hnl];simp)
  subst hn0
  have hrun:(Builtin.append_ #[t,tn] ty #[v,.int kq (0:Nat)]).run P w=.ok v w:=by
   rcases hown.2 with ⟨rfl,rfl⟩|⟨g,cap',cur,rfl,_,_,hnc,_⟩
   ·simp [Builtin.append_,run_underlying ht,run_underlying htn,sizeOf,typeInfo,hi,asInt,asIntOf,hw,IntKind.wrap_i64]
   ·simp [Builtin.append_,run_underlying ht,run_underlying htn,sizeOf,typeInfo,hi,asInt,asIntOf,hw,IntKind.wrap_i64,hnc,storeCells]
  exact ⟨v,w,hrun,by simpa using hown,⟨rfl,rfl,rfl,bC _,fun _ _ _=>rfl⟩,fun _=>rfl,fun b hb=>.inl hb⟩
 ·rcases hown.2 with ⟨rfl,rfl⟩|⟨g,cap,cur,rfl,hbg,hg,hnc,hcm,hcs,htake⟩
  ·have hx:xs=[]:=bF (by simpa using hown.1)
   subst hx
   have hr:=Lib.run_append_nil_zeros (P:=P) w t tn ty e i z kq kn ht htn hi hz m (by omega) hsz (by omega) hmb
   have hgr:=MW 0 (by omega) (Value.ownBlock (.slice none 0 0))
   simp only [dQ,eN,Array.empty_append] at hgr ⊢
   exact ⟨_,_,hr,hgr.1,hgr.2,fun h=>absurd h hm0,fun b hb=>.inr (by simp [Value.ownBlock] at hb;omega)⟩
  ·by_cases hroom:n+m≤cap
   ·have hfit:n * i.size+news.length≤cur.size:=by rw [hnl,hcs,← Nat.add_mul];exact eG _ hroom
    have hst:=run_storeCells_at P g (n * i.size) e news 0 cur w hg (by simpa using hfit) (fun u hu=>by
     rw [hnews] at hu
     exact hone u hu)
    have hnz:(Builtin.zeroCells z.cells m).toList=news:=by rw [hnews,hmz]
    have hns:¬ (m * i.size=0):=Nat.mul_ne_zero hm0 (by omega)
    simp only [qW] at hst
    have hr:(Builtin.append_ #[t,tn] ty #[.slice (some ⟨g,0,none⟩) n cap,.int kq m]).run P w=.ok (.slice (some ⟨g,0,none⟩) (n+m) cap) (w.setRow g (cur.toList.take (n * i.size)++news++cur.toList.drop (n * i.size+news.length)).toArray):=by
     simp [Builtin.append_,run_underlying ht,run_underlying htn,sizeOf,typeInfo,zeroValue,hi,hz,asInt,asIntOf,hw,hneg,hns,h48i,hroom,Addr.add_lit,hnz,hst]
    refine ⟨_,_,hr,⟨hlen,.inr ⟨g,cap,_,rfl,hbg,setRow_heap w g cur _ e _ hg,hroom,hcm,?_,?_⟩⟩,⟨rfl,rfl,rfl,by simp,fun k _ hk=>setRow_other w g k _ (fun e=>hk (by simp [Value.ownBlock,e]))⟩,fun h=>absurd h hm0,fun b hb=>.inl hb⟩
    ·simp only [lM,aV,cN,fK,eW]
     omega
    ·rw [htake,← hlen]
     exact List.take_left
   ·have hold:(Builtin.firstCells i.size n (.slice (some ⟨g,0,none⟩) n cap)).run P w.drew=.ok xs.toArray w.drew :=
     run_firstCells_some (P:=P) w.drew i.size n ⟨g,0,none⟩ n cap xs hown.1 (hown.cells (g:=g) rfl)
    have hr:=Lib.run_append_grow_zeros (P:=P) w t tn ty e i z kq kn ht htn hi hz (some ⟨g,0,none⟩) n cap xs hold m (by omega) hsz (by omega) (by omega) hmb (growslice_fits (by omega) hbytes)
    have hgr:=MW cap (by omega) (Value.ownBlock (.slice (some ⟨g,0,none⟩) n cap))
    exact ⟨_,_,hr,hgr.1,hgr.2,fun h=>absurd h hm0,fun b hb=>.inr (by simp [Value.ownBlock] at hb;omega)⟩
theorem FU {t t' ty : TypeId} {s : SlI} {va vb : Value} {x y : D} (hs : sl P t = some s) (hR : Rel M0 H σ w) (hx : RepV (cF M0 H σ) σ H.al w va x) (hy : RepV (cF M0 H σ) σ H.al w vb y)
    (hc : (nA P s t' x y H).cond) : (nA P s t' x y H).fact ∧ OpS P (Builtin.append_ #[t, t'] ty #[va, vb]) M0 H σ w (nA P s t' x y H).val (nA P s t' x y H).heap := by
  unfold nA at *
  obtain ⟨hu, i, z, hi, hz, hisz, hiby, hsz, hby, hsz', hszl, hzs, hzc⟩ := pA hs
  cases y <;> try (simp [AOut.bad] at hc; done)
  rename_i kq m
  cases x <;> try (simp [AOut.bad] at hc; done)
  rename_i id n
  cases hk' : yY P t' with
  | none => simp [hk', AOut.bad] at hc
  | some kn =>
    simp only [hk'] at hc ⊢
    cases hk : H.get id with
    | none => simp [hk, AOut.bad] at hc
    | some k =>
      simp only [hk] at hc ⊢
      obtain ⟨hm0, hfz, hty, hnn0, hle, hkl⟩ := hc
      obtain ⟨m, rfl⟩ := dX hm0
      simp only [Int.toNat_natCast] at hle ⊢
      have htn : P.underlying t' = some (.int kn) := by
        unfold yY at hk'
        split at hk'
        · rename_i h; cases hk'; exact h
        · cases hk'
      obtain ⟨o, ho, l⟩ := hR.lies id k hk
      obtain ⟨xs, hrow, hx1, hrepx⟩ := l.row
      cases hx
      rename_i h1' hN h
      cases hy
      rcases h o ho with h' | ⟨_, rfl⟩
      · have := l.ver; omega
      · have hesz : o.esz = s.sz := l.sz.trans hkl
        rw [← hisz] at hsz hszl hzs hesz hkl
        have hrow' : w.ownsRow 0 s.e i.size o.val k.es.length xs := by rw [← hty]; rw [hesz] at hrow; exact hrow
        have hb : (n + m) * i.bytes ≤ 140737488355328 := by
          have := iY hle (show i.bytes ≤ 4096 by omega)
          omega
        obtain ⟨hr, h1⟩ := n6 (M := cF M0 H σ) (σ := σ) (N := H.al) (w := w) z m (by omega) (by rw [← hsz']; exact hzc)
        subst hnn0
        obtain ⟨v', w', hrun, hown', hg, hsame, hblk⟩ := vK (P := P) (ty := ty) (kq := kq) hu htn hi hz hzs hsz o.val k.es.length xs hrow' m h1 hle (by simp only [maxLen]; omega) hb
        have hzl : ∀ c ∈ List.replicate m s.z, c.length = i.size := fun c hc => by rw [jJ hc, hszl]
        have hp := Rel.put hR (w' := w') hk hfz ho { k with es := k.es ++ List.replicate m s.z } ⟨k.es.length + m, v', i.size, s.e⟩ hg hblk
          (by
            by_cases h0 : m = 0
            · left
              have := l.ver; have hs' := hsame h0
              obtain ⟨ov, oval, oe, ot⟩ := o
              simp only at this hs' hesz ⊢
              have ht := l.ty
              simp only at ht
              subst this; subst hs'; subst hesz
              rw [ht, hty]; simp [h0]
            · right; have := l.ver; simp only; omega)
          (by simp) (by simp [hty]) (by simp [hkl])
          (fun c hc => by
            rcases aY.1 hc with h' | h'
            · simpa [← hesz] using l.esz c h'
            · exact hzl c h')
          (xs ++ (madeCells z.cells (m * z.cells.size)).toList) (by simpa [hty] using hown') (fun u hu => by
            rcases aY.1 hu with h' | h'
            · exact hx1 u h'
            · exact h1 u h')
          ⟨by simp only [aV, j8, hrepx.len]; rw [hr.len, hsz'], fun j u d hu hd => by
            simp only [j8] at hd
            by_cases hj : j < xs.length
            · rw [aS hj] at hu
              rw [aS (by rw [← hrepx.len]; exact hj)] at hd
              exact hrepx.rep j u d hu hd
            · rw [aZ (by omega)] at hu
              rw [aZ (by rw [← hrepx.len]; omega), ← hrepx.len, hsz'] at hd
              exact hr.rep _ u d hu hd⟩
        refine ⟨trivial, v', w', _, hrun, hp.1, .own v' id _ hN ?_ fun o' ho' => ?_, hp.2.1, hp.2.2⟩
        · rcases hown'.2 with ⟨rfl, _⟩ | ⟨g, c, cu, rfl, _⟩ <;> rfl
        · simp at ho'; subst ho'; exact .inr ⟨rfl, rfl⟩
theorem FT {nid : Nat} (hn : ¬ H.al nid) {t t' ty : TypeId} {va vb : Value} {x y : D} (hR : Rel M0 H σ w) (hx : RepV (cF M0 H σ) σ H.al w va x) (hy : RepV (cF M0 H σ) σ H.al w vb y)
    (hc : (jC P nid t t' x y H).cond) : (jC P nid t t' x y H).fact ∧ OpS P (Builtin.append_ #[t, t'] ty #[va, vb]) M0 H σ w (jC P nid t t' x y H).val (jC P nid t t' x y H).heap := by
  cases he : mU H y with
  | some ys => exact Io hn hR hx hy (by rw [he]; rfl) hc
  | none =>
    cases hs : sl P t with
    | none => unfold jC at hc; simp [hs, he, AOut.bad] at hc
    | some s =>
      have hA : jC P nid t t' x y H = nA P s t' x y H := by unfold jC; simp only [hs, he]
      rw [hA] at hc ⊢
      exact FU hs hR hx hy hc
theorem ET (w:World)(cs:Array Value)(t:TypeId)(j:Nat):(w.alloc (.cells cs t)).cell? ⟨w.heap.size,j,none⟩=cs[j]?:=by
 rw [cell_of_row (w.alloc (.cells cs t)) w.heap.size j cs t (0,0) (heap_alloc_new w _)]
theorem JU {M0:Nat→Prop}{nid:Nat}(hn:¬ H.al nid)(hR:Rel M0 H σ w)(m:Bool)(t:TypeId)(cs:Array Value)(ds:List D)(hrep:RepL (cF M0 H σ) σ H.al w cs.toList ds)(h1:∀ u∈cs.toList,u.oneCell'=true) :
  let d:D:=if m then .ptr nid 1 0 0 else .adr ds
  let H':=if m then H.push nid ⟨t,ds.length,[ds],false⟩ else H
  ∃ σ',Rel M0 H' σ' (w.alloc (.cells cs t))∧RepV (cF M0 H' σ') σ' H'.al (w.alloc (.cells cs t)) (.pointer (some ⟨w.heap.size,0,none⟩)) d∧Stp σ w σ' (w.alloc (.cells cs t)) ∧
   Keeps (cF M0 H σ) σ H.al w (cF M0 H' σ') σ' H'.al (w.alloc (.cells cs t)):=by
 have hold:∀ b,b<w.heap.size→(w.alloc (.cells cs t)).heap[b]?=w.heap[b]?:=fun _ hb=>heap_alloc_old _ _ hb
 have hl:cs.size=ds.length:=by simpa using hrep.len
 cases m with
 | false =>
  obtain ⟨hR',hS,hK⟩:=Rel.grow hR (w':=w.alloc (.cells cs t)) rfl rfl rfl (by simp) hold
  refine ⟨σ,hR',.adr _ cs.toList ds hrep.len h1 (fun j u hu=>⟨?_,?_⟩) fun j u d hu hd=>(hrep.rep j u d hu hd).keep hK,hS,hK⟩
  ·rintro (hm|⟨i,k,o,_,_,ho,hb⟩)
   ·exact absurd (hR.m0 _ hm) (mC _)
   ·exact absurd (hR.lt i o _ ho hb).1 (mC _)
  ·rw [iF,dQ,ET];simpa using hu
 | true =>
  simp only [if_true]
  have hp:=Rel.push hR nid hn (w':=w.alloc (.cells cs t)) rfl rfl rfl (by simp) hold ⟨t,ds.length,[ds],false⟩ ⟨1,.slice (some ⟨w.heap.size,0,none⟩) 1 1,ds.length,t⟩
   (fun b hb=>by simp [Ow.block,Value.ownBlock] at hb;omega) rfl rfl rfl (by simp) cs.toList
   (World.ownsRow_lit w cs 1 (dF _) (by simp [maxLen]) (by simp [hl])) h1 (by simpa using hrep)
  refine ⟨_,hp.1,.ptr _ nid 1 0 0 (.inl rfl) rfl fun o ho=>?_,hp.2.1,hp.2.2⟩
  simp at ho;subst ho
  exact .inr ⟨rfl,_,rfl,by simp⟩
theorem Oh {nid:Nat}(hn:¬ H.al nid){m:Bool}{t:TypeId}{vx:Value}{x:D}(hR:Rel M0 H σ w)(hx:RepV (cF M0 H σ) σ H.al w vx x)(hc:(Iw P nid m t x H).cond) :
  (Iw P nid m t x H).fact∧OpS P (Instr.box t vx) M0 H σ w (Iw P nid m t x H).val (Iw P nid m t x H).heap:=by
 have hcell:x.cells.all D.cell=true:=by unfold Iw at hc;cases m<;>exact hc
 obtain ⟨hr,h1⟩:=xD hx hcell
 obtain ⟨σ',h2,h3,h4,h5⟩:=JU hn hR m t vx.cells x.cells hr h1
 have hrun:(Instr.box t vx).run P w=.ok (.pointer (some ⟨w.heap.size,0,none⟩)) (w.alloc (.cells vx.cells t)):=by
  simp [Instr.box,newVar,newRow]
 cases m with
 | false=>exact ⟨trivial,_,_,σ',hrun,h2,h3,h4,h5⟩
 | true=>exact ⟨trivial,_,_,σ',hrun,h2,h3,h4,h5⟩
theorem Mq {t:TypeId}{z:List D}(h:zd P t=some z):∃ de i v,P.underlying t=some de∧P.info? t=some i∧i.zero=some v∧z=v.cells.toList.map nT∧z.length=i.size∧0<i.size∧z.all D.cell=true:=by
 unfold zd at h
 split at h
 ·rename_i de i hu hi
  split at h
  ·rename_i hc
   cases h
   cases hz:i.zero with
   | none=>simp [vD,hz] at hc;omega
   | some v=>exact ⟨de,i,v,hu,hi,hz,by simp [vD,hz],hc.1,hc.2.1,hc.2.2⟩
  ·cases h
 ·cases h
theorem KJ {nid:Nat}(hn:¬ H.al nid){m:Bool}{t:TypeId}(hR:Rel M0 H σ w)(hc:(uH P nid m t H).cond) :
  (uH P nid m t H).fact∧OpS P (Instr.alloc t true (.tuple #[])) M0 H σ w (uH P nid m t H).val (uH P nid m t H).heap:=by
 unfold uH at *
 cases hz:zd P t with
 | none=>simp [hz,AOut.bad] at hc
 | some z =>
  simp only [hz] at hc ⊢
  obtain ⟨de,i,v,hu,hi,hv,rfl,hl,h0,hcell⟩:=Mq hz
  obtain ⟨hr,h1⟩:=Db (M:=cF M0 H σ) (σ:=σ) (N:=H.al) (w:=w) v.cells.toList hcell
  obtain ⟨σ',h2,h3,h4,h5⟩:=JU hn hR m t v.cells _ hr h1
  have hrun:(Instr.alloc t true (.tuple #[])).run P w=.ok (.pointer (some ⟨w.heap.size,0,none⟩)) (w.alloc (.cells v.cells t)):=by
   simp [Instr.alloc,zeroValue,typeInfo,hi,hv,newVar,newRow]
  cases m with
  | false=>exact ⟨trivial,_,_,σ',hrun,h2,h3,h4,h5⟩
  | true=>exact ⟨trivial,_,_,σ',hrun,h2,h3,h4,h5⟩
theorem Kh (cs:List Value):∀ (off j0:Nat) (zs:Array Value),off+j0+cs.length≤zs.size →
  ((cs.zipIdx j0).foldl (fun a (p:Value × Nat)=>a.setIfInBounds (off+p.2) p.1) zs).toList=zs.toList.take (off+j0)++cs++zs.toList.drop (off+j0+cs.length):=by
 induction cs with
 | nil=>intro off j0 zs h;simp
 | cons c cs ih =>
  intro off j0 zs h
  simp only [List.zipIdx_cons,List.foldl_cons]
  have h':off+j0+(cs.length+1)≤zs.size:=by simpa using h
  rw [ih off (j0+1) _ (by simp;omega)]
  apply fP
  intro q
  simp only [Array.toList_setIfInBounds,gY,cN,i5,eW,bM,bR,dN,eK]
  have m1:min (off+(j0+1)) zs.size=off+(j0+1):=by omega
  have m2:min (off+j0) zs.size=off+j0:=by omega
  rw [m1,m2]
  by_cases hq1:q<off+j0
  ·rw [if_pos (by omega),if_pos (by omega),if_pos hq1,if_pos hq1,if_neg (by omega)]
  ·rw [if_neg hq1]
   by_cases hq2:q=off+j0
   ·subst hq2
    rw [if_pos (by omega),if_pos (by omega),if_pos rfl,if_pos (by omega),if_pos (by omega)]
    simp
   ·rw [if_neg (by omega)]
    by_cases hq3:q<off+j0+(cs.length+1)
    ·rw [if_pos (by omega),if_pos hq3]
     rw [show q - (off+j0)=(q - (off+(j0+1)))+1 by omega,Fe]
    ·rw [if_neg (by omega),if_neg hq3,if_neg (by omega)]
     congr 1;omega
theorem y6 {M : Nat → Prop} {N : Nat → Prop} (places : Nat → Option (Nat × Nat)) : ∀ (pv : List (Nat × Value)) (pd : List (Nat × D)) (zs : Array Value) (ds out : List D),
    pv.map (·.1) = pd.map (·.1) → (∀ (j : Nat) (v : Value) (d : D), (pv.map (·.2))[j]? = some v → (pd.map (·.2))[j]? = some d → RepV M σ N w v d) → (∀ p ∈ pd, p.2.cells.all D.cell = true) →
    RepL M σ N w zs.toList ds → (∀ u ∈ zs.toList, u.oneCell' = true) → yG places ds pd = some out →
    ∃ cs, Instr.fill places zs pv = some cs ∧ RepL M σ N w cs.toList out ∧ (∀ u ∈ cs.toList, u.oneCell' = true) ∧ out.length = ds.length
  | [], pd, zs, ds, out, hk, hr, hcl, hz, h1, hf => by
    cases pd with
    | cons p pd => simp at hk
    | nil => simp [yG] at hf; subst hf; exact ⟨zs, rfl, hz, h1, rfl⟩
  | (i, v) :: pv, pd, zs, ds, out, hk, hr, hcl, hz, h1, hf => by
    cases pd with
    | nil => simp at hk
    | cons p pd =>
      obtain ⟨i', d⟩ := p
      simp at hk
      obtain ⟨rfl, hk⟩ := hk
      unfold yG at hf
      unfold Instr.fill
      cases hp : places i with
      | none => simp [hp] at hf
      | some q =>
        obtain ⟨off, size⟩ := q
        simp only [hp] at hf ⊢
        split at hf
        · rename_i hc
          obtain ⟨hc1, hc2⟩ := hc
          have hvd := hr 0 v d rfl rfl
          obtain ⟨hrv, hv1⟩ := xD hvd (hcl (i, d) (by simp))
          have hvl : v.cells.size = d.cells.length := G4 hvd (hcl (i, d) (by simp))
          have hzl : zs.size = ds.length := by simpa using hz.len
          have hcond : (v.cells.size ≠ size || off + v.cells.size > zs.size) = false := by simp; omega
          have hs := Kh v.cells.toList off 0 zs (by simp; omega)
          simp only [qW] at hs
          have hfold : v.cells.zipIdx.foldl (fun cs (x : Value × Nat) => cs.setIfInBounds (off + x.2) x.1) zs = (v.cells.toList.zipIdx 0).foldl (fun cs (x : Value × Nat) => cs.setIfInBounds (off + x.2) x.1) zs := by
            rw [← Array.foldl_toList, Array.toList_zipIdx]
          obtain ⟨cs, hfill, hrep, h1', hlen⟩ := y6 places pv pd (v.cells.zipIdx.foldl (fun cs (x : Value × Nat) => cs.setIfInBounds (off + x.2) x.1) zs) (pW ds off d.cells) out hk
            (fun j u x hu hx => hr (j + 1) u x hu hx) (fun p hp => hcl p (by simp [hp]))
            (by
              rw [hfold, hs]
              have hvl' : v.cells.toList.length = d.cells.length := by simpa using hvl
              refine ⟨by simp [pW]; omega, fun j u x hu hx => ?_⟩
              simp only [pW, gY, cN, bM, bR, eW, hvl', hzl] at hu hx
              split at hx
              · rename_i hj
                rw [if_pos hj] at hu
                split at hx
                · rename_i hj'; rw [if_pos hj'] at hu; exact hz.rep j u x hu hx
                · cases hx
              · rename_i hj
                rw [if_neg hj] at hu
                split at hx
                · rename_i hj'; rw [if_pos hj'] at hu; exact hrv.rep _ u x hu hx
                · rename_i hj'; rw [if_neg hj'] at hu; exact hz.rep _ u x hu hx)
            (by
              rw [hfold, hs]
              intro u hu
              simp only [aY] at hu
              rcases hu with (hu | hu) | hu
              · exact h1 u (b9 hu)
              · exact hv1 u hu
              · exact h1 u (eH hu)) hf
          refine ⟨cs, ?_, hrep, h1', by rw [hlen]; simp [pW]; omega⟩
          simp only [hcond, dY, if_false]
          exact hfill
        · cases hf
end
end Go.Abs
end
section
namespace Go.Abs
section
variable {P:Program} {M0:Nat→Prop} {H:AHeap} {σ:Nat→Option Ow} {w:World}
structure Parts (M:Nat→Prop) (σ:Nat→Option Ow) (N:Nat→Prop) (w:World) (pv:List (Nat × Value)) (pd:List (Nat × D)):Prop where
 keys:pv.map (·.1)=pd.map (·.1)
 rep:∀ (j:Nat) (v:Value) (d:D),(pv.map (·.2))[j]?=some v→(pd.map (·.2))[j]?=some d→RepV M σ N w v d
theorem KC {t : TypeId} {pv : List (Nat × Value)} {pd : List (Nat × D)} (hR : Rel M0 H σ w) (hp : Parts (cF M0 H σ) σ H.al w pv pd)
    (hc : (qO P t pd H).cond) : (qO P t pd H).fact ∧ OpS P (Instr.build t pv.toArray) M0 H σ w (qO P t pd H).val (qO P t pd H).heap := by
  unfold qO at *
  cases hz : zd P t with
  | none => simp [hz, AOut.bad] at hc
  | some z =>
    cases hb : bk P t with
    | none => simp [hz, hb, AOut.bad] at hc
    | some b =>
      simp only [hz, hb] at hc ⊢
      cases hf : yG b.place z pd with
      | none => simp [hf, AOut.bad] at hc
      | some out =>
        simp only [hf] at hc ⊢
        refine ⟨trivial, ?_⟩
        obtain ⟨de, i, v, hu, hi, hv, rfl, hl, h0, hcell⟩ := Mq hz
        obtain ⟨hr, h1⟩ := Db (M := cF M0 H σ) (σ := σ) (N := H.al) (w := w) v.cells.toList hcell
        obtain ⟨cs, hfill, hrep, h1', _⟩ := y6 _ pv pd v.cells _ out hp.keys hp.rep (by simpa using hc) hr h1 hf
        refine .pure hR (run_build w t pv.toArray cs ?_) (.agg cs.toList out hrep.len h1' hrep.rep)
        unfold Program.built
        unfold bk at hb
        rw [hu] at hb
        cases de <;> simp at hb
        case array n' e =>
          obtain ⟨ie, hie, rfl⟩ := hb
          simp only [hi, hu, hv, hie]
          exact hfill
        case struct fs =>
          obtain ⟨l, hm, rfl⟩ := hb
          simp only [hi, hu, hv, hm]
          have he : (BK.st l).place = fun x => l[x]? := rfl
          rw [he] at hfill
          simpa using hfill
theorem qF (sz:Nat):∀ (n:Nat) (l:List D),(oV sz n l).length=n
 | 0,_=>rfl
 | n+1,l=>by simp [oV,qF sz n]
theorem Cl (sz:Nat):∀ (n:Nat) (l:List D),l.length=n * sz→(oV sz n l).flatten=l
 | 0,l,h=>by simp at h;subst h;rfl
 | n+1,l,h=>by
  simp only [oV,dU]
  rw [Cl sz n _ (by rw [fK,h,Nat.add_mul];omega),List.take_append_drop]
theorem Bv (sz:Nat):∀ (n:Nat) (l:List D),l.length=n * sz→∀ c∈oV sz n l,c.length=sz
 | 0,l,h,c,hc=>by cases hc
 | n+1,l,h,c,hc=>by
  simp only [oV,aT] at hc
  rw [Nat.add_mul] at h
  rcases hc with rfl|hc
  ·rw [cN];omega
  ·exact Bv sz n _ (by rw [fK];omega) c hc
theorem Bw {nid : Nat} (hnid : ¬ H.al nid) {m : Bool} {t : TypeId} {n : Nat} {pv : List (Nat × Value)} {pd : List (Nat × D)} (hR : Rel M0 H σ w) (hp : Parts (cF M0 H σ) σ H.al w pv pd)
    (hc : (gM P nid m t n pd H).cond) : (gM P nid m t n pd H).fact ∧ OpS P (Instr.buildSlice t n pv.toArray) M0 H σ w (gM P nid m t n pd H).val (gM P nid m t n pd H).heap := by
  unfold gM at *
  cases hs : sl P t with
  | none => simp [hs, AOut.bad] at hc
  | some s =>
    simp only [hs] at hc ⊢
    cases hf : yG (fun i => some (i * s.sz, s.sz)) (List.replicate n s.z).flatten pd with
    | none => simp [hf, AOut.bad] at hc
    | some out =>
      simp only [hf] at hc ⊢
      obtain ⟨hu, i, z, hi, hz, hisz, hiby, hsz, hby, hsz', hszl, hzs, hzc⟩ := pA hs
      have hcond : n ≤ 1000 ∧ s.sz ≤ 1000 ∧ (pd.all fun p => p.2.cells.all D.cell) = true := by cases m <;> exact hc
      obtain ⟨hn, hs1, hcl⟩ := hcond
      obtain ⟨hr, h1⟩ := n6 (M := cF M0 H σ) (σ := σ) (N := H.al) (w := w) z n (by omega) (by rw [← hsz']; exact hzc)
      rw [← hsz'] at hr
      obtain ⟨cs, hfill, hrep, h1', hlen⟩ := y6 (fun i => some (i * s.sz, s.sz)) pv pd (madeCells z.cells (n * z.cells.size)) _ out hp.keys hp.rep (by simpa using hcl) hr h1 hf
      have hol : out.length = n * s.sz := by rw [hlen, kJ, hszl]
      have hcsz : cs.size = n * s.sz := by have := hrep.len; simp at this; omega
      have hsmall : ¬ n * s.sz > 2 ^ 24 := by
        have := iY hn hs1
        omega
      have hrun : (Instr.buildSlice t n pv.toArray).run P w = .ok (.slice (some ⟨w.heap.size, 0, none⟩) n n) (w.alloc (.cells cs s.e)) := by
        by_cases h0 : n * s.sz = 0
        · have hmade : (Array.range (n * s.sz)).map (fun x => (#[] : Array Value)[x % (#[] : Array Value).size]!) = madeCells z.cells (n * z.cells.size) := by
            rw [hzs]; simp [madeCells, h0, Array.range_zero']
          rw [← hmade] at hfill
          simp [Instr.buildSlice, run_underlying hu, sizeOf, typeInfo, hi, hisz, h0] at hfill ⊢
          simp [hfill, newRow]
        · have hmade : (Array.range (n * s.sz)).map (fun x => z.cells[x % z.cells.size]!) = madeCells z.cells (n * z.cells.size) := by
            simp [madeCells, hzs]
          rw [← hmade] at hfill
          have hsmall' : ¬ 16777216 < n * s.sz := by omega
          simp [Instr.buildSlice, run_underlying hu, sizeOf, typeInfo, hi, hisz, h0, hsmall', zeroValue, hz, hfill, newRow]
      have hfl := Cl s.sz n out hol
      have hold : ∀ b, b < w.heap.size → (w.alloc (.cells cs s.e)).heap[b]? = w.heap[b]? := fun _ hb => heap_alloc_old _ _ hb
      cases m with
      | false =>
        simp only [dY, if_false]
        obtain ⟨hR', hS, hK⟩ := Rel.grow hR (w' := w.alloc (.cells cs s.e)) rfl rfl rfl (by simp) hold
        refine ⟨trivial, _, _, σ, hrun, hR', ?_, hS, hK⟩
        have hv := RepV.list (M := cF M0 H σ) (σ := σ) (N := H.al) (w := w.alloc (.cells cs s.e)) ⟨w.heap.size, 0, none⟩ n s.sz cs.toList (oV s.sz n out) (by simp [qF]) (by simp only [maxLen]; omega)
          (Bv s.sz n out hol) (by rw [hfl]; exact hrep.len) h1' (fun j u hu => ⟨by
            rintro (hm | ⟨i, k, o, _, _, ho, hb⟩)
            · exact absurd (hR.m0 _ hm) (mC _)
            · exact absurd (hR.lt i o _ ho hb).1 (mC _), by
            rw [iF, dQ, ET]; simpa using hu⟩) (fun j u d hu hd => by rw [hfl] at hd; exact (hrep.rep j u d hu hd).keep hK)
        rw [qF] at hv
        exact hv
      | true =>
        simp only [if_true]
        have hp' := Rel.push hR nid hnid (w' := w.alloc (.cells cs s.e)) rfl rfl rfl (by simp) hold ⟨s.e, s.sz, oV s.sz n out, false⟩ ⟨n, .slice (some ⟨w.heap.size, 0, none⟩) n n, s.sz, s.e⟩
          (fun b hb => by simp [Ow.block, Value.ownBlock] at hb; omega) (by simp [qF]) rfl rfl (Bv s.sz n out hol) cs.toList
          (by simp only [qF]; exact World.ownsRow_lit w cs n (dF _) (by simp only [maxLen]; omega) hcsz) h1' (by simp only; rw [hfl]; exact hrep)
        refine ⟨trivial, _, _, _, hrun, hp'.1, .own _ nid n (.inl rfl) rfl fun o ho => ?_, hp'.2.1, hp'.2.2⟩
        simp at ho; subst ho; exact .inr ⟨rfl, rfl⟩
theorem MH {v:Value}{id n:Nat}{k:Blk}(hR:Rel M0 H σ w)(hx:RepV (cF M0 H σ) σ H.al w v (.own id n))(hk:H.get id=some k)(hn:k.es.length=n) :
  (v=.slice none 0 0∧n=0)∨∃ b cap,v=.slice (some ⟨b,0,none⟩) n cap∧n≤cap∧cap≤maxLen∧∃ o,σ id=some o∧o.block=some b∧o.esz=k.sz∧o.ver=n:=by
 obtain ⟨o,ho,l⟩:=hR.lies id k hk
 obtain ⟨xs,hrow,hx1,hrep⟩:=l.row
 cases hx
 rename_i h1 hN h
 rcases h o ho with h'|⟨h2,rfl⟩
 ·have:=l.ver;omega
 ·rcases hrow.2 with ⟨hnil,h0⟩|⟨g,cap,cur,hval,_,_,hnc,hcm,_⟩
  ·exact .inl ⟨hnil,by omega⟩
  ·exact .inr ⟨g,cap,by rw [hval,hn],by omega,hcm,o,ho,by simp [Ow.block,hval,Value.ownBlock],l.sz,h2.symm⟩
theorem N2 {t ty:TypeId}{vx:Value}{x:D}(hR:Rel M0 H σ w)(hx:RepV (cF M0 H σ) σ H.al w vx x)(hc:(CW P t x H).cond) :
  (CW P t x H).fact∧OpS P (Builtin.len_ #[t] ty #[vx]) M0 H σ w (CW P t x H).val (CW P t x H).heap:=by
 unfold CW at *
 split at hc
 ·rename_i e hu
  split at hc
  ·cases hx
   exact ⟨trivial,.pure hR (by simp [Builtin.len_,run_underlying hu,goInt]) (.int _ _)⟩
  ·rename_i es
   rcases qA hx with ⟨rfl,rfl⟩|⟨ad,cap,sz,xs,rfl,_,_,_,hle,hm,_⟩
   ·exact ⟨by simp,.pure hR (by simp [Builtin.len_,run_underlying hu,goInt]) (.int _ _)⟩
   ·refine ⟨?_,.pure hR (by simp [Builtin.len_,run_underlying hu,goInt]) (.int _ _)⟩
    simp only [maxLen] at hm;simp only;omega
  ·rename_i id n
   split at hc
   ·rename_i k hk
    rcases MH hR hx hk hc with ⟨rfl,rfl⟩|⟨b,cap,rfl,hle,hm,_⟩
    ·exact ⟨by simp,.pure hR (by simp [Builtin.len_,run_underlying hu,goInt]) (.int _ _)⟩
    ·refine ⟨?_,.pure hR (by simp [Builtin.len_,run_underlying hu,goInt]) (.int _ _)⟩
     simp only [maxLen] at hm;simp only;omega
   ·exact hc.elim
  ·exact hc.elim
 ·rename_i hu
  split at hc
  ·cases hx
   exact ⟨trivial,.pure hR (by simp [Builtin.len_,run_underlying hu,goInt]) (.int _ _)⟩
  ·exact hc.elim
 ·rename_i n e hu
  refine ⟨trivial,.pure hR ?_ (.int _ _)⟩
  simp [Builtin.len_,run_underlying hu,goInt]
 ·exact hc.elim
end
end Go.Abs
end
section
namespace Go.Abs
section
variable {P:Program} {M0:Nat→Prop} {H:AHeap} {σ:Nat→Option Ow} {w:World}
theorem PI {M:Nat→Prop}{N:Nat→Prop}{v:Value}{cs:List D}(off:Nat)(h:RepV M σ N w v (.adr cs)) :
  ∃ a,v=.pointer (some a)∧RepV M σ N w (.pointer (some (a.add off))) (.adr (cs.drop off)):=by
 obtain ⟨ad,xs,rfl,hrep,h1,hcell⟩:=Is h
 refine ⟨ad,rfl,.adr _ (xs.drop off) _ (by simp [hrep.len]) (fun u hu=>h1 u (eH hu)) (fun j u hu=>?_) fun j u d hu hd=>?_⟩
 ·rw [bR] at hu
  obtain ⟨h2,h3⟩:=hcell _ u hu
  rw [gA,AO]
  exact ⟨h2,h3⟩
 ·rw [bR] at hu hd
  exact hrep.rep _ u d hu hd
theorem MD {v:Value}{id ver i off:Nat}{k:Blk}(hR:Rel M0 H σ w)(hx:RepV (cF M0 H σ) σ H.al w v (.ptr id ver i off))(hk:H.get id=some k)(hv:k.es.length=ver) :
  ∃ b o,σ id=some o∧o.block=some b∧v=.pointer (some ⟨b,i * o.esz+off,none⟩)∧H.al id∧o.ver=ver:=by
 obtain ⟨o,ho,l⟩:=hR.lies id k hk
 cases hx
 rename_i h1 hN h
 have hov:o.ver=k.es.length:=l.ver
 rcases h o ho with h'|⟨h2,b,hb,rfl⟩
 ·omega
 ·exact ⟨b,o,ho,hb,rfl,by assumption,h2.symm⟩
theorem Cq {v : Value} {x : D} {off : Nat} (hR : Rel M0 H σ w) (hx : RepV (cF M0 H σ) σ H.al w v x) (hc : (dM x off H).cond) :
    ∃ a, v = .pointer (some a) ∧ RepV (cF M0 H σ) σ H.al w (.pointer (some (a.add off))) (dM x off H).val ∧ (dM x off H).heap = H ∧ (dM x off H).fact := by
  unfold dM at *
  cases x <;> try (exact hc.elim)
  case adr cs =>
    obtain ⟨a, h1, h2⟩ := PI off hx
    exact ⟨a, h1, h2, rfl, trivial⟩
  case ptr id ver i o =>
    cases hk : H.get id with
    | none => simp [hk, AOut.bad] at hc
    | some k =>
      simp only [hk] at hc ⊢
      obtain ⟨b, ow, ho, hb, rfl, hN, hver⟩ := MD hR hx hk hc
      refine ⟨_, rfl, ?_, trivial, trivial⟩
      rw [iF]
      refine .ptr _ id ver i (o + off) hN rfl fun o' ho' => ?_
      rw [ho] at ho'; cases ho'
      exact .inr ⟨hver.symm, b, hb, by rw [yK]⟩
theorem CL {t : TypeId} {vx : Value} {x : D} {f : Nat} (hR : Rel M0 H σ w) (hx : RepV (cF M0 H σ) σ H.al w vx x) (hc : (gC P t x f H).cond) :
    (gC P t x f H).fact ∧ OpS P (Instr.fieldAt t vx f) M0 H σ w (gC P t x f H).val (gC P t x f H).heap := by
  unfold gC at *
  cases hb : bk P t with
  | none => simp [hb, AOut.bad] at hc
  | some b =>
    cases b with
    | ar sz => simp [hb, AOut.bad] at hc
    | st l =>
      simp only [hb] at hc ⊢
      cases hf : l[f]? with
      | none => simp [hf, AOut.bad] at hc
      | some q =>
        obtain ⟨off, sz⟩ := q
        simp only [hf] at hc ⊢
        obtain ⟨a, rfl, hrep, hh, hfact⟩ := Cq hR hx hc.1
        refine ⟨hfact, ?_⟩
        rw [hh]
        unfold bk at hb
        cases hu : P.underlying t with
        | none => simp [hu] at hb
        | some de =>
          rw [hu] at hb
          cases de <;> simp at hb
          rename_i fs
          have hq : ∃ fl, fs[f]? = some fl ∧ ∃ i, P.info? fl.type = some i ∧ off = fl.offset ∧ sz = i.size := by
            have key : ∀ (fl : List Field) (l : List (Nat × Nat)) (f : Nat), fl.mapM (fun f => (P.info? f.type).map fun i => (f.offset, i.size)) = some l → l[f]? = some (off, sz) →
                ∃ x, fl[f]? = some x ∧ ∃ i, P.info? x.type = some i ∧ off = x.offset ∧ sz = i.size := by
              intro fl
              induction fl with
              | nil => intro l f h hl; simp at h; subst h; simp at hl
              | cons a fl ih =>
                intro l f h hl
                simp only [List.mapM_cons, Option.bind_eq_bind, Option.pure_def] at h
                cases hi : P.info? a.type with
                | none => simp [hi] at h
                | some i =>
                  cases hr : fl.mapM (fun f => (P.info? f.type).map fun i => (f.offset, i.size)) with
                  | none => simp [hi, hr] at h
                  | some rest =>
                    simp [hi, hr] at h
                    subst h
                    cases f with
                    | zero => simp at hl; exact ⟨a, rfl, i, hi, hl.1.symm, hl.2.symm⟩
                    | succ f => simp at hl; obtain ⟨x, hx, h'⟩ := ih rest f hr hl; exact ⟨x, by simpa using hx, h'⟩
            obtain ⟨x, hx, h'⟩ := key fs.toList l f hb hf
            exact ⟨x, by simpa using hx, h'⟩
          obtain ⟨fl, hfl, i, hi, rfl, rfl⟩ := hq
          have hne : i.size ≠ 0 := by have := hc.2; omega
          exact .pure hR (by simp [Instr.fieldAt, run_underlying hu, hfl, Instr.sureAddr, fieldPlace, sizeOf, typeInfo, hi, hne]) hrep
theorem KH {t:TypeId}{n sz:Nat}(h:Mn P t=some (n,sz)):∃ e i,P.underlying t=some (.array n e)∧P.info? e=some i∧i.size=sz:=by
 unfold Mn at h
 split at h
 ·rename_i n' e hu
  split at h
  ·rename_i i hi;simp at h;obtain ⟨rfl,rfl⟩:=h;exact ⟨e,i,hu,hi,rfl⟩
  ·cases h
 ·cases h
theorem CJ {t : TypeId} {vx vi : Value} {x i : D} (hR : Rel M0 H σ w) (hx : RepV (cF M0 H σ) σ H.al w vx x) (hi : RepV (cF M0 H σ) σ H.al w vi i) (hc : (gB P t x i H).cond) :
    (gB P t x i H).fact ∧ OpS P (Instr.indexAt t vx vi) M0 H σ w (gB P t x i H).val (gB P t x i H).heap := by
  unfold gB at *
  cases i <;> try (exact hc.elim)
  rename_i kd n
  cases hi
  have other : ∀ (x : D), RepV (cF M0 H σ) σ H.al w vx x → (match Mn P t with
      | some (len, sz) => (⟨(dM x (n.toNat * sz) H).cond ∧ 0 ≤ n ∧ n < len, (dM x (n.toNat * sz) H).fact, (dM x (n.toNat * sz) H).val, (dM x (n.toNat * sz) H).heap⟩ : AOut)
      | none => AOut.bad H).cond → (match Mn P t with
      | some (len, sz) => (⟨(dM x (n.toNat * sz) H).cond ∧ 0 ≤ n ∧ n < len, (dM x (n.toNat * sz) H).fact, (dM x (n.toNat * sz) H).val, (dM x (n.toNat * sz) H).heap⟩ : AOut)
      | none => AOut.bad H).fact ∧ OpS P (Instr.indexAt t vx (.int kd n)) M0 H σ w (match Mn P t with
      | some (len, sz) => (⟨(dM x (n.toNat * sz) H).cond ∧ 0 ≤ n ∧ n < len, (dM x (n.toNat * sz) H).fact, (dM x (n.toNat * sz) H).val, (dM x (n.toNat * sz) H).heap⟩ : AOut)
      | none => AOut.bad H).val (match Mn P t with
      | some (len, sz) => (⟨(dM x (n.toNat * sz) H).cond ∧ 0 ≤ n ∧ n < len, (dM x (n.toNat * sz) H).fact, (dM x (n.toNat * sz) H).val, (dM x (n.toNat * sz) H).heap⟩ : AOut)
      | none => AOut.bad H).heap := by
    intro x hx hc
    cases ha : Mn P t with
    | none => simp [ha, AOut.bad] at hc
    | some q =>
      obtain ⟨len, sz⟩ := q
      simp only [ha] at hc ⊢
      obtain ⟨h1, h2, h3⟩ := hc
      obtain ⟨a, rfl, hrep, hh, hfact⟩ := Cq hR hx h1
      refine ⟨hfact, ?_⟩
      rw [hh]
      obtain ⟨e, i, hu, hie, hisz⟩ := KH ha
      exact .pure hR (by simp [Instr.indexAt, run_underlying hu, asIntOf, Instr.sureAddr, h2, h3, sizeOf, typeInfo, hie, hisz]) hrep
  cases x <;> try (exact other _ hx hc)
  case list es =>
    cases hs : sl P t with
    | none => simp [hs, AOut.bad] at hc
    | some s =>
      simp only [hs] at hc ⊢
      obtain ⟨⟨h0, h1⟩, h2⟩ := hc
      obtain ⟨hu, ti, z, hti, hz, hisz, _, hsz, _⟩ := pA hs
      obtain ⟨q, rfl⟩ := dX h0
      simp only [Int.toNat_natCast] at h2 ⊢
      have hq : q < es.length := by omega
      have hget : es[q]? = some es[q] := aA hq
      rw [hget] at h2 ⊢
      simp only [aD] at h2 ⊢
      refine ⟨trivial, ?_⟩
      rcases qA hx with ⟨rfl, rfl⟩ | ⟨ad, cap, sz, xs, rfl, hrep, hx1, hcell, hle, hm, hszs⟩
      · simp at hq
      · have hsz' : sz = s.sz := (hszs _ (aC hq)).symm.trans h2
        subst hsz'
        have hfl := j4 es hszs
        have hbound : q * s.sz + s.sz ≤ xs.length := by
          rw [hrep.len, hfl]
          have : (q + 1) * s.sz ≤ es.length * s.sz := eG _ hq
          rw [Nat.add_mul] at this; omega
        refine .pure hR (v := .pointer (some (ad.add (q * s.sz)))) (by simp [Instr.indexAt, run_underlying hu, asIntOf, hq, sizeOf, typeInfo, hti, hisz]) ?_
        refine .adr _ ((xs.drop (q * s.sz)).take s.sz) _ (by simp only [cN, fK]; omega) (fun u hu => hx1 u (eH (b9 hu))) (fun j u hu => ?_) fun j u d hu hd => ?_
        · rw [bM] at hu
          split at hu
          · rw [bR] at hu
            obtain ⟨h5, h6⟩ := hcell _ u hu
            rw [gA, AO]
            exact ⟨h5, h6⟩
          · cases hu
        · rw [bM] at hu
          split at hu
          · rename_i hj
            rw [bR] at hu
            exact hrep.rep _ u d hu (by rw [kX es q _ hszs hget j hj]; exact hd)
          · cases hu
  case own id m =>
    cases hs : sl P t with
    | none => simp [hs, AOut.bad] at hc
    | some s =>
      cases hk : H.get id with
      | none => simp [hs, hk, AOut.bad] at hc
      | some k =>
        simp only [hs, hk] at hc ⊢
        obtain ⟨⟨h0, h1⟩, h2, h3⟩ := hc
        obtain ⟨hu, ti, z, hti, hz, hisz, _, hsz, _⟩ := pA hs
        obtain ⟨q, rfl⟩ := dX h0
        simp only [Int.toNat_natCast] at h3 ⊢
        have hq : q < k.es.length := by omega
        have hqm : q < m := by omega
        refine ⟨trivial, ?_⟩
        obtain ⟨o, ho, l⟩ := hR.lies id k hk
        have hesz : o.esz = s.sz := by
          rw [aA hq] at h3
          simp only [aD] at h3
          exact (l.esz _ (aC hq)).symm.trans h3
        have hN : H.al id := by cases hx; assumption
        rcases MH hR hx hk h2 with ⟨rfl, rfl⟩ | ⟨b, cap, rfl, hle, hm, o', ho', hb, _, hver⟩
        · omega
        · rw [ho] at ho'; cases ho'
          refine .pure hR (v := .pointer (some ⟨b, q * s.sz, none⟩)) (by simp [Instr.indexAt, run_underlying hu, asIntOf, hqm, sizeOf, typeInfo, hti, hisz, iF]) ?_
          refine .ptr _ id m q 0 hN rfl fun o' ho' => ?_
          rw [ho] at ho'; cases ho'
          exact .inr ⟨hver.symm, b, hb, by rw [hesz]; simp⟩
theorem JN {vc va vb:Value}{c a b:D}(hR:Rel M0 H σ w)(hcv:RepV (cF M0 H σ) σ H.al w vc c)(ha:RepV (cF M0 H σ) σ H.al w va a)(hb:RepV (cF M0 H σ) σ H.al w vb b)
  (hc:(r9 c a b H).cond):(r9 c a b H).fact∧OpS P (do pure (if ← asBool vc then va else vb)) M0 H σ w (r9 c a b H).val (r9 c a b H).heap:=by
 unfold r9 at *
 split at hc
 ·cases hcv;cases ha
  exact ⟨trivial,.pure hR (by simp [asBool]) (.bool _)⟩
 ·cases hcv;cases ha
  rename_i h
  have:=h hc
  cases this
  exact ⟨trivial,.pure hR (by simp [asBool]) (.bool _)⟩
 ·cases hcv;cases hb
  exact ⟨trivial,.pure hR (by simp [asBool]) (.bool _)⟩
 ·cases hcv;cases hb
  rename_i h
  have:=h hc
  cases this
  exact ⟨trivial,.pure hR (by simp [asBool]) (.bool _)⟩
 ·exact hc.elim
theorem LD {vc va vb : Value} {c a b : D} (hR : Rel M0 H σ w) (hcv : RepV (cF M0 H σ) σ H.al w vc c) (ha : RepV (cF M0 H σ) σ H.al w va a) (hb : RepV (cF M0 H σ) σ H.al w vb b)
    (hc : (wT c a b H).cond) : (wT c a b H).fact ∧ OpS P (do pure (if ← asBool vc then va else vb)) M0 H σ w (wT c a b H).val (wT c a b H).heap := by
  unfold wT at *
  split at hc
  · rename_i c a b
    cases hcv; cases ha; cases hb
    cases c <;> exact ⟨trivial, .pure hR (by simp [asBool]) (.bool _)⟩
  · rename_i c a g b
    cases hcv; cases ha; cases hb
    rename_i h
    cases c with
    | true => exact ⟨trivial, .pure hR (by simp [asBool]) (.bool _)⟩
    | false =>
      have := h (hc rfl)
      cases this
      exact ⟨trivial, .pure hR (by simp [asBool]) (.bool _)⟩
  · rename_i c g a b
    cases hcv; cases ha; cases hb
    rename_i h
    cases c with
    | false => exact ⟨trivial, .pure hR (by simp [asBool]) (.bool _)⟩
    | true =>
      have := h (hc rfl)
      cases this
      exact ⟨trivial, .pure hR (by simp [asBool]) (.bool _)⟩
  · rename_i c g a g' b
    cases hcv; cases ha; cases hb
    rename_i hf1 h hf2 h'
    cases c with
    | false =>
      have := h' (hc.2 rfl)
      cases this
      exact ⟨trivial, .pure hR (by simp [asBool]) (.bool _)⟩
    | true =>
      have := h (hc.1 rfl)
      cases this
      exact ⟨trivial, .pure hR (by simp [asBool]) (.bool _)⟩
  · exact JN hR hcv ha hb hc
theorem GD {mx:Bool}{b:Builtin}(hb:b=if mx then .max else .min){t:TypeId}{ts:Array TypeId}{vx vy:Value}{x y:D}(hR:Rel M0 H σ w)(hx:RepV (cF M0 H σ) σ H.al w vx x)(hy:RepV (cF M0 H σ) σ H.al w vy y)
  (hc:(AR mx x y H).cond):(AR mx x y H).fact∧OpS P (if mx then Builtin.max_ ts t #[vx,vy] else Builtin.min_ ts t #[vx,vy]) M0 H σ w (AR mx x y H).val (AR mx x y H).heap:=by
 unfold AR at *
 split at hc
 ·obtain rfl:=hc
  cases hx;cases hy
  cases mx with
  | true=>exact ⟨trivial,.pure hR (by simp [Builtin.max_,Builtin.max2]) (.int _ _)⟩
  | false=>exact ⟨trivial,.pure hR (by simp [Builtin.min_,Builtin.min2]) (.int _ _)⟩
 ·exact hc.elim
theorem FO {s d:TypeId}{vx:Value}{x:D}(hR:Rel M0 H σ w)(hx:RepV (cF M0 H σ) σ H.al w vx x)(hc:(k9 P s d x H).cond) :
  (k9 P s d x H).fact∧OpS P (convert s d vx) M0 H σ w (k9 P s d x H).val (k9 P s d x H).heap:=by
 unfold k9 at *
 split at hc
 ·rename_i k0 n
  split at hc
  ·rename_i k hk
   cases hx
   obtain ⟨h1,h2⟩:=hc
   obtain ⟨ds,hds⟩:=jI.1 h1
   unfold yY at hk
   split at hk
   ·rename_i k' hu
    cases hk
    exact ⟨trivial,.pure hR (by simp [convert,run_underlying hds,run_underlying hu,Conv.intToInt,pU h2]) (.int _ _)⟩
   ·cases hk
  ·exact hc.elim
 ·split at hc
  ·rename_i hu1 hu2
   cases hx
   exact ⟨trivial,.pure hR (by simp [convert,run_underlying hu1,run_underlying hu2]) (.str _)⟩
  ·exact hc.elim
 ·exact hc.elim
theorem OF {op:UnOp}{vx:Value}{x:D}(hR:Rel M0 H σ w)(hx:RepV (cF M0 H σ) σ H.al w vx x)(hc:(PJ op x H).cond) :
  (PJ op x H).fact∧OpS P (Op.unary op vx) M0 H σ w (PJ op x H).val (PJ op x H).heap:=by
 unfold PJ at *
 split at hc
 ·cases hx;exact ⟨trivial,.pure hR (by simp [Op.unary]) (.bool _)⟩
 ·cases hx;exact ⟨trivial,.pure hR (by simp [Op.unary,Op.intArith];rw [pU (by simpa using hc)]) (by simpa using RepV.int _ _)⟩
 ·exact hc.elim
theorem FI {vx:Value}{x:D}{i:Nat}(hR:Rel M0 H σ w)(hx:RepV (cF M0 H σ) σ H.al w vx x)(hc:(k8 x i H).cond) :
  (k8 x i H).fact∧OpS P (Instr.extract vx i) M0 H σ w (k8 x i H).val (k8 x i H).heap:=by
 unfold k8 at *
 cases x<;>try (exact hc.elim)
 rename_i vs
 cases hx
 rename_i xs hl hr
 simp only at hc ⊢
 have hi:i<xs.length:=by rw [hl];exact hc
 refine ⟨trivial,.pure hR (v:=xs[i]) (by simp [Instr.extract,hi]) ?_⟩
 rw [aA hc]
 exact hr i _ _ (aA hi) (aA hc)
theorem Gx {nid : Nat} (hn : ¬ H.al nid) {m : Bool} {t : TypeId} {x : Sem Value} (hR : Rel M0 H σ w) (hx : x.run P w = .ok (.slice none 0 0) w) (hc : (BE P nid m t H).cond) :
    (BE P nid m t H).fact ∧ OpS P x M0 H σ w (BE P nid m t H).val (BE P nid m t H).heap := by
  unfold BE at *
  cases m with
  | false => exact ⟨trivial, .pure hR hx .nil⟩
  | true =>
    simp only [if_true] at hc ⊢
    cases hs : sl P t with
    | none => simp [hs, AOut.bad] at hc
    | some s =>
      simp only
      have hp := Rel.push hR nid hn (w' := w) rfl rfl rfl (bC _) (fun _ _ => rfl) ⟨s.e, s.sz, [], false⟩ ⟨0, .slice none 0 0, s.sz, s.e⟩ (fun b hb => by simp [Ow.block, Value.ownBlock] at hb) rfl rfl rfl (by simp)
        [] (World.ownsRow_nil w 0 s.e s.sz) (by simp) ⟨rfl, fun j u d hu => by simp at hu⟩
      refine ⟨trivial, _, w, _, hx, hp.1, .own _ nid 0 (.inl rfl) rfl fun o ho => ?_, hp.2.1, hp.2.2⟩
      simp at ho; subst ho; exact .inr ⟨rfl, rfl⟩
theorem D3 {vx : Value} {x : D} (hR : Rel M0 H σ w) (hx : RepV (cF M0 H σ) σ H.al w vx x) (hc : (iI x H).cond) :
    ∃ a, vx = .pointer (some a) ∧ (iI x H).fact ∧ RepV (cF M0 H σ) σ H.al w vx (iI x H).val ∧ (iI x H).heap = H := by
  unfold iI at *
  cases x <;> try (exact hc.elim)
  case adr cs =>
    obtain ⟨ad, xs, rfl, _⟩ := Is hx
    exact ⟨ad, rfl, trivial, hx, rfl⟩
  case ptr id ver i o =>
    cases hk : H.get id with
    | none => simp [hk, AOut.bad] at hc
    | some k =>
      simp only [hk] at hc ⊢
      obtain ⟨b, ow, ho, hb, rfl, hN, hver⟩ := MD hR hx hk hc
      exact ⟨_, rfl, trivial, hx, trivial⟩
end
end Go.Abs
end
