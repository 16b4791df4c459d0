/- The abstraction layer, part E: operations that write or make -/
import Derived.Test.YtiklfilfhnfagaaGreatZfA
import Derived.Lib.AppendZerosOnto
set_option linter.unusedVariables false
set_option linter.unusedSimpArgs false
section
namespace Go.Abs
section
variable {P:Program} {M0:Nat→Prop} {H:AHeap} {σ:Nat→Option Ow} {w:World}
theorem EE (o:Ow)(id:Nat)(h:σ id=some o):(fun i=>if i=id then some o else σ i)=σ:=by
 funext i;by_cases hi:i=id
 ·simp [hi,h]
 ·simp [hi]
theorem CY {n:Nat}:∀ (es:List (List D)) (i:Nat) (c c':List D),(∀ c∈es,c.length=n)→es[i]?=some c→c'.length=n →
  (es.set i c').flatten=es.flatten.take (i * n)++c'++es.flatten.drop (i * n+n)
 | [],i,c,c',_,h,_=>by simp at h
 | e :: es,0,c,c',hl,h,hc'=>by
  have he:=hl e (by simp)
  simp [he]
 | e :: es,i+1,c,c',hl,h,hc'=>by
  have he:=hl e (by simp)
  simp at h
  have ih:=CY es i c c' (fun c hc=>hl c (by simp [hc])) h hc'
  simp only [sZ,dZ,ih]
  have e1:(i+1) * n=e.length+i * n:=by rw [Nat.add_mul,he];omega
  rw [e1,yR,List.drop_append]
  simp only [List.append_assoc]
  rw [show List.take (e.length+i * n) e=e by rw [aK];omega,show e.length+i * n - e.length=i * n by omega,
   show List.drop (e.length+i * n+n) e=[] by rw [iR];omega,show e.length+i * n+n - e.length=i * n+n by omega]
  simp
theorem iH {α:Type}(a b c:List α)(j:Nat):(a++b++c)[j]?=if j<a.length then a[j]? else if j<a.length+b.length then b[j - a.length]? else c[j - a.length - b.length]?:=by
 by_cases h1:j<a.length
 ·rw [if_pos h1,List.append_assoc,aX h1]
 ·rw [if_neg h1,List.append_assoc,bE (by omega)]
  by_cases h2:j<a.length+b.length
  ·rw [if_pos h2,aX (by omega)]
  ·rw [if_neg h2,bE (by omega)]
theorem yO {M : Nat → Prop} {N : Nat → Prop} {v : Value} {d : D} (h : RepV M σ N w v d) (hd : d.cells.all D.cell = true) :
    RepL M σ N w v.cells.toList d.cells ∧ ∀ u ∈ v.cells.toList, u.oneCell' = true := by
  cases d with
  | agg ds =>
    cases h
    rename_i vs h1 hl hr
    exact ⟨⟨by simpa [Value.cells, D.cells] using hl, fun j u x hu hx => hr j u x (by simpa [Value.cells] using hu) (by simpa [D.cells] using hx)⟩, by simpa [Value.cells] using h1⟩
  | _ =>
    first
    | (simp [D.cells, D.cell] at hd; done)
    | (have h1 := h.oneCell rfl
       have hv : v.cells = #[v] := by cases v <;> first | rfl | (simp [Value.oneCell'] at h1)
       rw [hv]
       refine ⟨⟨by simp [D.cells], fun j u x hu hx => ?_⟩, by simpa using h1⟩
       cases j with
       | zero => simp [D.cells] at hu hx; subst hu; subst hx; exact h
       | succ j => simp at hu)
theorem HM {M:Nat→Prop}{N:Nat→Prop}{v:Value}{d:D}(h:RepV M σ N w v d)(hd:d.cells.all D.cell=true):v.cells.size=d.cells.length:=by
 have:=(yO h hd).1.len;simpa using this
def OpU (P:Program)(x:Sem Unit)(M0:Nat→Prop)(H:AHeap)(σ:Nat→Option Ow)(w:World)(H':AHeap):Prop :=
 ∃ w' σ',x.run P w=.ok () w'∧Rel M0 H' σ' w'∧Stp σ w σ' w'∧Keeps (cF M0 H σ) σ H.al w (cF M0 H' σ') σ' H'.al w'
theorem JH {t : TypeId} {va vv : Value} {x v : D} (hR : Rel M0 H σ w) (hx : RepV (cF M0 H σ) σ H.al w va x) (hv : RepV (cF M0 H σ) σ H.al w vv v) (hc : (kP P t x v H).cond) :
    OpU P (Instr.storeAt t va vv) M0 H σ w (kP P t x v H).heap := by
  unfold kP at *
  cases x <;> try (simp [AOut.bad] at hc; done)
  rename_i id ver i off
  cases hk : H.get id with
  | none => simp [hk, AOut.bad] at hc
  | some k =>
    cases hci : k.es[i]? with
    | none => simp [hk, hci, AOut.bad] at hc
    | some c =>
      simp only [hk, hci] at hc ⊢
      obtain ⟨hfz, hver, hsz, hinfo, hcell, hoff⟩ := hc
      obtain ⟨ti, hti⟩ := jR.1 hinfo
      obtain ⟨o, ho, l⟩ := hR.lies id k hk
      obtain ⟨xs, hrow, hx1, hrep⟩ := l.row
      have hlt : i < k.es.length := (aI.1 hci).1
      have hclen : c.length = o.esz := l.esz c (aJ hci)
      cases hx
      rename_i hN h1 h
      rcases h o ho with h' | ⟨hv', b, hb, rfl⟩
      · have := l.ver; omega
      · obtain ⟨hrv, hu1⟩ := yO hv hcell
        have hvl := HM hv hcell
        have hxl : xs.length = k.es.length * o.esz := hrep.len.trans (jG k.es l.esz)
        have hbound : i * o.esz + o.esz ≤ xs.length := by
          rw [hxl]
          have : (i + 1) * o.esz ≤ k.es.length * o.esz := bZ _ hlt
          rw [Nat.add_mul] at this; omega
        rcases hrow.2 with ⟨hnil, _⟩ | ⟨g, cap, cur, hval, hb0, hg, hnc, hcm, hcs, htake⟩
        · simp [Ow.block, hnil, Value.ownBlock] at hb
        · have hgb : g = b := by simpa [Ow.block, hval, Value.ownBlock] using hb
          subst hgb
          have hcur : k.es.length * o.esz ≤ cur.size := by rw [hcs]; exact bZ _ hnc
          have hst := run_storeCells_at (P := P) g (i * o.esz + off) k.ty vv.cells.toList 0 cur w hg (by simp; omega) hu1
          simp only [o4] at hst
          have hsize : vv.cells.size = ti.size := by rw [hvl, hsz]; simp [Program.cellsOf, hti]
          refine ⟨w.setRow g (cur.toList.take (i * o.esz + off) ++ vv.cells.toList ++ cur.toList.drop (i * o.esz + off + vv.cells.toList.length)).toArray, σ, ?_, ?_⟩
          · simp [Instr.storeAt, Instr.sureAddr, storeVar, sizeOf, typeInfo, hti, hsize]
            simpa [hsize] using hst
          · have hlc : (qO c off v.cells).length = o.esz := by simp [qO]; omega
            have hp := Rel.put hR hk hfz ho { k with es := k.es.set i (qO c off v.cells) } o (w' := w.setRow g (cur.toList.take (i * o.esz + off) ++ vv.cells.toList ++ cur.toList.drop (i * o.esz + off + vv.cells.toList.length)).toArray)
              ⟨rfl, rfl, rfl, by simp, fun q _ hq => setRow_other w g q _ (fun e => hq (by rw [e, hb]))⟩ (fun b' hb' => .inl hb') (.inl rfl) (by simpa using l.ver) l.ty l.sz
              (fun d hd => by
                rcases iY hd with h' | h'
                · exact l.esz d h'
                · rw [h', hlc])
              (xs.take (i * o.esz + off) ++ vv.cells.toList ++ xs.drop (i * o.esz + off + vv.cells.toList.length))
              ⟨by simp [hxl]; omega, .inr ⟨g, cap, _, by simpa using hval, hb0, setRow_heap w g cur _ k.ty _ hg, by simpa using hnc, hcm, by simp; omega, by
                have hcl : vv.cells.toList.length = vv.cells.size := by simp
                simp only [fI]
                rw [← htake]
                apply eD
                intro j
                simp only [bI, iH, bL, bG, fL]
                by_cases hj : j < k.es.length * o.esz
                · rw [if_pos hj]
                  have m1 : min (i * o.esz + off) cur.size = i * o.esz + off := by omega
                  have m2 : min (i * o.esz + off) (min (k.es.length * o.esz) cur.size) = i * o.esz + off := by omega
                  rw [m1, m2]
                  split
                  · first | rfl | rw [if_pos hj]
                  · split
                    · rfl
                    · first | rfl | rw [if_pos (by omega)]
                · rw [if_neg hj]
                  have m2 : min (i * o.esz + off) (min (k.es.length * o.esz) cur.size) = i * o.esz + off := by omega
                  rw [m2, if_neg (by omega), if_neg (by omega), if_neg (by omega)]⟩⟩
              (fun u hu => by
                simp only [aW] at hu
                rcases hu with (hu | hu) | hu
                · exact hx1 u (bN hu)
                · exact hu1 u hu
                · exact hx1 u (dL hu))
              ⟨by rw [jG _ (fun d hd => by
                    rcases iY hd with h' | h'
                    · exact l.esz d h'
                    · rw [h', hlc])]; simp [hxl]; omega, fun j u d hu hd => by
                simp only at hd
                rw [CY k.es i c _ l.esz hci hlc] at hd
                have hfl : k.es.flatten.length = xs.length := hrep.len.symm
                simp only [iH, bL, bI, bG, hfl, hlc, fL] at hu hd
                have m1 : min (i * o.esz + off) xs.length = i * o.esz + off := by omega
                have m2 : min (i * o.esz) xs.length = i * o.esz := by omega
                rw [m1] at hu
                rw [m2] at hd
                split at hd
                · rename_i hj1
                  rw [if_pos (by omega), if_pos (by omega)] at hu
                  try rw [if_pos hj1] at hd
                  exact hrep.rep j u d hu hd
                · rename_i hj1
                  split at hd
                  · rename_i hj2
                    simp only [qO, iH, bL, bI, bG] at hd
                    have m3 : min off c.length = off := by omega
                    rw [m3] at hd
                    split at hd
                    · rename_i hj3
                      rw [if_pos (by omega), if_pos (by omega)] at hu
                      try rw [if_pos hj3] at hd
                      refine hrep.rep j u d hu ?_
                      have := jQ k.es i c l.esz hci (j - i * o.esz) (by omega)
                      rw [show i * o.esz + (j - i * o.esz) = j by omega] at this
                      rw [this, hd]
                    · rename_i hj3
                      split at hd
                      · rename_i hj4
                        rw [if_neg (by omega), if_pos (by omega)] at hu
                        refine hrv.rep (j - (i * o.esz + off)) u d hu ?_
                        rw [← hd]; congr 1; omega
                      · rename_i hj4
                        rw [if_neg (by omega), if_neg (by omega)] at hu
                        have e1 : i * o.esz + off + vv.cells.size + (j - (i * o.esz + off) - vv.cells.size) = j := by omega
                        rw [e1] at hu
                        refine hrep.rep j u d hu ?_
                        have := jQ k.es i c l.esz hci (j - i * o.esz) (by omega)
                        rw [show i * o.esz + (j - i * o.esz) = j by omega] at this
                        rw [this, ← hd]; congr 1; omega
                  · rename_i hj2
                    rw [if_neg (by omega), if_neg (by omega)] at hu
                    have e1 : i * o.esz + off + vv.cells.size + (j - (i * o.esz + off) - vv.cells.size) = j := by omega
                    rw [e1] at hu
                    refine hrep.rep j u d hu ?_
                    rw [← hd]; congr 1; omega⟩
            simp only [EE o id ho] at hp
            exact hp
end
end Go.Abs
end
section
namespace Go.Abs
section
variable {P:Program} {M0:Nat→Prop} {H:AHeap} {σ:Nat→Option Ow} {w:World}
theorem pZ {t : TypeId} {s : SlI} (h : sl P t = some s) :
    P.underlying t = some (.slice s.e) ∧ ∃ i z, P.info? s.e = some i ∧ i.zero = some z ∧ i.size = s.sz ∧ i.bytes = s.by_ ∧ 0 < s.sz ∧ s.by_ ≤ 4096 ∧ s.z = z.cells.toList.map oT ∧ s.z.length = s.sz ∧ z.cells.size = s.sz ∧ s.z.all D.cell = true := by
  unfold sl at h
  split at h
  · rename_i e hu
    split at h
    · rename_i i hi
      split at h
      · rename_i hc
        obtain ⟨h0, hb, hz, hcell⟩ := hc
        cases h
        cases hz' : i.zero with
        | none => simp [wE, hz'] at hz; omega
        | some z =>
          refine ⟨hu, i, z, hi, hz', rfl, rfl, h0, hb, by simp [wE, hz'], hz, ?_, hcell⟩
          simpa [wE, hz'] using hz
      · cases h
    · cases h
  · cases h
theorem FB {M:Nat→Prop}{N:Nat→Prop}(v:Value):RepV M σ N w v (oT v):=by
 unfold oT
 split
 ·exact .int _ _
 ·exact .bool _
 ·exact .str _
 ·exact .nil
 ·exact .nilp
 ·exact .nilf
 ·exact .junk _
theorem MF {v:Value}(h:(oT v).cell=true):v.oneCell'=true:=by
 cases v<;>first|rfl|(simp [oT,D.cell] at h)
theorem DP {M:Nat→Prop}{N:Nat→Prop}(zs:List Value)(h:(zs.map oT).all D.cell=true):RepL M σ N w zs (zs.map oT)∧∀ u∈zs,u.oneCell'=true:=by
 refine ⟨⟨by simp,fun j u d hu hd=>?_⟩,fun u hu=>?_⟩
 ·rw [aN,hu] at hd
  simp at hd;subst hd
  exact FB u
 ·simp only [List.all_map,dJ,Function.comp] at h
  exact MF (h u hu)
theorem qW {M:Nat→Prop}{N:Nat→Prop}{v:Value}{es:List (List D)}(h:RepV M σ N w v (.list es)) :
  (v=.slice none 0 0∧es=[])∨∃ ad cap sz xs,v=.slice (some ad) es.length cap∧RepL M σ N w xs es.flatten∧(∀ u∈xs,u.oneCell'=true) ∧
   (∀ j u,xs[j]?=some u→¬ M ad.block∧w.cell? (ad.add j)=some u)∧es.length≤cap∧cap≤maxLen∧∀ c∈es,c.length=sz:=by
 generalize hd:D.list es=d at h
 cases h with
 | listN=>cases hd;exact .inl ⟨rfl,rfl⟩
 | list ad cap sz xs es hc hm hsz hl h1 hcell hr=>cases hd;exact .inr ⟨ad,cap,sz,xs,rfl,⟨hl,hr⟩,h1,hcell,hc,hm,hsz⟩
 | _=>cases hd
theorem nS {n:Nat}:∀ (es:List (List D)) (i:Nat),(∀ c∈es,c.length=n)→(es.take i).flatten=es.flatten.take (i * n)
 | [],i,_=>by simp
 | e :: es,0,_=>by simp
 | e :: es,i+1,hl=>by
  have he:=hl e (by simp)
  simp only [nG,dZ,nS es i (fun c hc=>hl c (by simp [hc])),yR,Nat.add_mul,he]
  rw [aK (by omega:e.length≤i * n+1 * n)]
  congr 2;omega
theorem nT {n:Nat}:∀ (es:List (List D)) (i:Nat),(∀ c∈es,c.length=n)→(es.drop i).flatten=es.flatten.drop (i * n)
 | [],i,_=>by simp
 | e :: es,0,_=>by simp
 | e :: es,i+1,hl=>by
  have he:=hl e (by simp)
  simp only [List.drop_succ_cons,dZ,nT es i (fun c hc=>hl c (by simp [hc])),List.drop_append,Nat.add_mul,he]
  rw [iR (by omega:e.length≤i * n+1 * n)]
  simp only [eX]
  congr 1;omega
theorem KT {v : Value} {x : D} {es : List (List D)} (hR : Rel M0 H σ w) (hx : RepV (cF M0 H σ) σ H.al w v x) (he : mR H x = some es) :
    (v = .slice none 0 0 ∧ es = []) ∨ ∃ ad cap xs, v = .slice (some ad) es.length cap ∧ RepL (cF M0 H σ) σ H.al w xs es.flatten ∧ (∀ u ∈ xs, u.oneCell' = true) ∧
      (∀ j u, xs[j]? = some u → w.cell? (ad.add j) = some u) ∧ es.length ≤ cap ∧ cap ≤ maxLen := by
  cases x <;> simp only [mR] at he <;> try (cases he; done)
  case nil => cases he; cases hx; exact .inl ⟨rfl, rfl⟩
  case ne =>
    cases he; cases hx; rename_i ad cap hm
    exact .inr ⟨ad, cap, [], rfl, ⟨rfl, fun j u d hu => by simp at hu⟩, by simp, fun j u hu => by simp at hu, dE _, hm⟩
  case list es' =>
    cases he
    rcases qW hx with h | ⟨ad, cap, sz, xs, h1, h2, h3, h4, h5, h6, _⟩
    · exact .inl h
    · exact .inr ⟨ad, cap, xs, h1, h2, h3, fun j u hu => (h4 j u hu).2, h5, h6⟩
  case own id n =>
    cases hk : H.get id with
    | none => simp [hk] at he
    | some k =>
      simp only [hk] at he
      split at he
      · rename_i hn
        cases he
        obtain ⟨o, ho, l⟩ := hR.lies id k hk
        obtain ⟨xs, hrow, hx1, hrep⟩ := l.row
        cases hx
        rename_i hN h1 h
        rcases h o ho with h' | ⟨_, rfl⟩
        · have := l.ver; omega
        · rcases hrow.2 with ⟨hnil, h0⟩ | ⟨g, cap, cur, hval, _, _, hnc, hcm, _⟩
          · exact .inl ⟨hnil, aV h0⟩
          · exact .inr ⟨⟨g, 0, none⟩, cap, xs, hval, hrep, hx1, hrow.cells (g := g) (by simp [hval, Value.ownBlock]), hnc, hcm⟩
      · cases he
  case win id n lo hi =>
    cases hk : H.get id with
    | none => simp [hk] at he
    | some k =>
      simp only [hk] at he
      split at he
      · rename_i hn
        cases he
        obtain ⟨o, ho, l⟩ := hR.lies id k hk
        obtain ⟨xs, hrow, hx1, hrep⟩ := l.row
        have hver := l.ver
        cases hx
        rename_i h1 hN hlh h
        have hw : M7 o v n lo hi := by
          rcases h o ho with h' | ⟨_, h2⟩
          · omega
          · exact h2
        rcases hw with ⟨_, h3, h4⟩ | ⟨b, cap2, h2, hc, h3⟩
        · subst h3 h4; exact .inl ⟨rfl, by simp⟩
        · have hlen : ((k.es.take hi).drop lo).length = hi - lo := by simp; omega
          have hflat : ((k.es.take hi).drop lo).flatten = (k.es.flatten.take (hi * o.esz)).drop (lo * o.esz) := by
            rw [nT _ lo (fun c hc => l.esz c (bN hc)), nS _ hi l.esz]
          rcases hrow.2 with ⟨hnil, _⟩ | ⟨g, cap, cur, hval, _, _, hnc, hcm, _⟩
          · rw [h2] at hnil; cases hnil
          · rw [h2] at hval
            cases hval
            have hcells := hrow.cells (g := b) (by rw [h2]; simp [Value.ownBlock])
            by_cases hcp : cap2 = lo
            · have hba : hi = lo := by omega
              refine .inr ⟨⟨b, 0, none⟩, cap2 - lo, [], ?_, ⟨?_, fun j u d hu => by simp at hu⟩, by simp, fun j u hu => by simp at hu, ?_, by omega⟩
              · rw [h3, hlen, if_pos hcp]
              · rw [hflat]; subst hba; simp
              · rw [hlen]; omega
            · refine .inr ⟨⟨b, lo * o.esz, none⟩, cap2 - lo, (xs.take (hi * o.esz)).drop (lo * o.esz), ?_, ⟨?_, fun j u d hu hd => ?_⟩, fun u hu => hx1 u (bN (dL hu)), fun j u hu => ?_, ?_, by omega⟩
              · rw [h3, hlen, if_neg hcp]
              · rw [hflat]; simp [hrep.len]
              · rw [hflat, bG, bI] at hd
                rw [bG, bI] at hu
                split at hu
                · rename_i hj; rw [if_pos hj] at hd; exact hrep.rep _ u d hu hd
                · cases hu
              · rw [bG, bI] at hu
                split at hu
                · have h5 := hcells _ u hu
                  have e : (Addr.add ⟨b, 0, none⟩ (lo * o.esz)) = ⟨b, lo * o.esz, none⟩ := by simp [gX]
                  rw [← e, xW]
                  exact h5
                · cases hu
              · rw [hlen]; omega
      · cases he
theorem Jc {nid : Nat} (hn : ¬ H.al nid) {t t' ty : TypeId} {va vb : Value} {x y : D} (hR : Rel M0 H σ w) (hx : RepV (cF M0 H σ) σ H.al w va x) (hy : RepV (cF M0 H σ) σ H.al w vb y)
    (he0 : (mR H y).isSome = true) (hc : (jM P nid t t' x y H).cond) : (jM P nid t t' x y H).fact ∧ OpS P (Builtin.append_ #[t, t'] ty #[va, vb]) M0 H σ w (jM P nid t t' x y H).val (jM P nid t t' x y H).heap := by
  unfold jM at *
  cases hs : sl P t with
  | none => simp [hs, AOut.bad] at hc
  | some s =>
    cases he : mR H y with
    | none => rw [he] at he0; cases he0
    | some ys =>
      simp only [hs, he] at hc ⊢
      obtain ⟨hu, i, z, hi, hz, hisz, hiby, hsz, hby, hsz', hszl, hzs, hzc⟩ := pZ hs
      have hfit : ∀ m : Nat, m ≤ 4294967296 → m ≤ maxLen ∧ m * s.by_ ≤ 140737488355328 := fun m hm => by
        refine ⟨by simp only [maxLen]; omega, ?_⟩
        have := lT hm hby
        omega
      have main : ∀ (v : Value) (n : Nat) (xs : List Value), w.ownsRow 0 s.e s.sz v n xs → n + ys.length ≤ 4294967296 → (∀ c ∈ ys, c.length = s.sz) → ys.flatten.all D.cell = true →
          ∃ v' w' news, (Builtin.append_ #[t, t] ty #[v, vb]).run P w = .ok v' w' ∧ w'.ownsRow 0 s.e s.sz v' (n + ys.length) (xs ++ news) ∧ w.grownBy w' v.ownBlock ∧
            RepL (cF M0 H σ) σ H.al w news ys.flatten ∧ (∀ u ∈ news, u.oneCell' = true) ∧ (ys.length = 0 → v' = v) ∧ (∀ b, v'.ownBlock = some b → v.ownBlock = some b ∨ w.heap.size ≤ b) := by
        intro v n xs hown hle hlen hcell
        rcases KT hR hy he with ⟨rfl, hnil⟩ | ⟨ad, cap, news, rfl, hrep, h1, hcl, hec, hem⟩
        · subst hnil
          exact ⟨v, w, [], run_append_owned_none w 0 t ty s.e i s.sz hu hi v n xs hown, by simpa using hown, ⟨rfl, rfl, rfl, aL _, fun _ _ _ => rfl⟩, ⟨rfl, fun j u d hu => by simp at hu⟩, by simp, fun _ => rfl, fun b hb => .inl hb⟩
        · have hnl : news.length = ys.length * s.sz := hrep.len.trans (jG ys hlen)
          by_cases h0 : ys.length = 0
          · have hn0 : news = [] := aV (by rw [hnl, h0]; simp)
            subst hn0
            have hrun : (Builtin.append_ #[t, t] ty #[v, .slice (some ad) ys.length cap]).run P w = .ok v w := by
              rw [h0]
              rcases hown.2 with ⟨rfl, rfl⟩ | ⟨g, cap', cur, rfl, _, _, hnc, _⟩
              · simp [Builtin.append_, run_underlying hu, sizeOf, typeInfo, hi, Builtin.lenOf, Builtin.firstCells, loadCells, loadCellsFrom]
              · simp [Builtin.append_, run_underlying hu, sizeOf, typeInfo, hi, Builtin.lenOf, Builtin.firstCells, loadCells, loadCellsFrom, hnc, storeCells]
            exact ⟨v, w, [], hrun, by simpa [h0] using hown, ⟨rfl, rfl, rfl, aL _, fun _ _ _ => rfl⟩, hrep, by simp, fun _ => rfl, fun b hb => .inl hb⟩
          · obtain ⟨hm1, hm2⟩ := hfit _ hle
            obtain ⟨v', w', hrun, hown', hg, _⟩ := run_append_own (P := P) w 0 t ty s.e i z s.sz s.by_ hu hi hz hisz hiby hzs hsz v n xs hown ad ys.length cap news hnl hcl h1 hm1 hm2 (dE _)
            refine ⟨v', w', news, hrun, hown', hg, hrep, h1, fun h => absurd h h0, fun b hb => ?_⟩
            rcases bQ b w.heap.size with hlt | hge
            · left
              rcases hown.2 with ⟨hnil, hn⟩ | ⟨g, cap', cur, hv, _, hgk, hnc, hcm, hcs, htake⟩
              · subst hnil; subst hn
                have hx0 : xs = [] := aV (by simpa using hown.1)
                subst hx0
                have hr := run_append_nil (P := P) w t ty s.e i z hu hi hz ad ys.length cap news (by rw [hnl, hisz]) hcl (by omega) (by simp only [maxLen] at hm1; omega) (by rw [hiby]; have := hm2; simp only [dR] at this; omega)
                rw [hr] at hrun
                cases hrun
                simp [Value.ownBlock] at hb
                omega
              · subst hv
                by_cases hroom : n + ys.length ≤ cap'
                · have hfit' : n * i.size + news.length ≤ cur.size := by rw [hnl, hcs, hisz, ← Nat.add_mul]; exact bZ _ hroom
                  have hr := run_append_room (P := P) w t ty s.e i hu hi g n cap' cur hgk ad ys.length cap news (by rw [hnl, hisz]) hcl h1 hroom hfit'
                  rw [hr] at hrun
                  cases hrun
                  exact hb
                · have holds : ∀ j u, xs[j]? = some u → w.cell? ((⟨g, 0, none⟩ : Addr).add j) = some u := hown.cells (g := g) rfl
                  have hr := run_append_grow (P := P) w t ty s.e i z hu hi hz ⟨g, 0, none⟩ n cap' xs (by rw [hown.1, hisz]) holds ad ys.length cap news (by rw [hnl, hisz]) hcl (by omega) (by simp only [maxLen] at hm1; omega) (growslice_fits (by omega) (by rw [hiby]; exact hm2))
                  rw [hr] at hrun
                  cases hrun
                  simp [Value.ownBlock] at hb
                  omega
            · exact .inr hge
      cases x <;> try (simp [AOut.bad] at hc; done)
      case nil =>
        obtain ⟨rfl, hle, hlen, hcell⟩ := hc
        cases hx
        obtain ⟨v', w', news, hrun, hown', hg, hrep, h1, _, hblk⟩ := main _ 0 [] (World.ownsRow_nil w 0 s.e s.sz) (by omega) hlen hcell
        have hp := Rel.push hR nid hn (w' := w') hg.os hg.tape hg.output hg.size (fun b hb => hg.block b hb (by simp [Value.ownBlock])) ⟨s.e, s.sz, ys, false⟩ ⟨ys.length, v', s.sz, s.e⟩
          (fun b hb => by
            rcases hblk b hb with h | h
            · simp [Value.ownBlock] at h
            · exact h) rfl rfl rfl hlen news (by simpa using hown') h1 hrep
        refine ⟨trivial, v', w', _, hrun, hp.1, .own v' nid ys.length (.inl rfl) ?_ fun o ho => ?_, hp.2.1, hp.2.2⟩
        · rcases hown'.2 with ⟨rfl, _⟩ | ⟨g, c, cu, rfl, _⟩ <;> rfl
        · simp at ho; subst ho; exact .inr ⟨rfl, rfl⟩
      case own id n =>
        cases hk : H.get id with
        | none => simp [hk, AOut.bad] at hc
        | some k =>
          simp only [hk] at hc ⊢
          obtain ⟨rfl, hfz, hty, hnn0, hle, hkl, hlen, hcell⟩ := hc
          obtain ⟨o, ho, l⟩ := hR.lies id k hk
          obtain ⟨xs, hrow, hx1, hrepx⟩ := l.row
          cases hx
          rename_i h1' hN h
          rcases h o ho with h' | ⟨_, rfl⟩
          · have := l.ver; omega
          · have hesz : o.esz = s.sz := l.sz.trans hkl
            have hrow' : w.ownsRow 0 s.e s.sz o.val k.es.length xs := by rw [← hty, ← hesz]; exact hrow
            obtain ⟨v', w', news, hrun, hown', hg, hrep, h1, hsame, hblk⟩ := main o.val k.es.length xs hrow' (by omega) hlen hcell
            have hp := Rel.put hR (w' := w') hk hfz ho { k with es := k.es ++ ys } ⟨k.es.length + ys.length, v', s.sz, s.e⟩ hg hblk
              (by
                by_cases h0 : ys.length = 0
                · left
                  have := l.ver; have hs' := hsame h0
                  obtain ⟨ov, oval, oe, ot⟩ := o
                  simp only at this hs' hesz ⊢
                  have ht := l.ty
                  simp only at ht
                  subst this; subst hs'; subst hesz
                  rw [ht, hty]; simp [h0]
                · right; have := l.ver; simp only; omega)
              (by simp) (by simp [hty]) (by simp [hkl])
              (fun c hc => by
                rcases aW.1 hc with h' | h'
                · simpa [← hesz] using l.esz c h'
                · exact hlen c h')
              (xs ++ news) (by simpa [hty] using hown') (fun u hu => by
                rcases aW.1 hu with h' | h'
                · exact hx1 u h'
                · exact h1 u h')
              ⟨by simp only [aT, kD, hrepx.len, hrep.len], fun j u d hu hd => by
                simp only [kD] at hd
                by_cases hj : j < xs.length
                · rw [aX hj] at hu
                  rw [aX (by rw [← hrepx.len]; exact hj)] at hd
                  exact hrepx.rep j u d hu hd
                · rw [bE (by omega)] at hu
                  rw [bE (by rw [← hrepx.len]; omega), ← hrepx.len] at hd
                  exact hrep.rep _ u d hu hd⟩
            have hnn : n = k.es.length := hnn0.symm
            subst hnn
            refine ⟨trivial, v', w', _, hrun, hp.1, .own v' id _ hN ?_ fun o' ho' => ?_, hp.2.1, hp.2.2⟩
            · rcases hown'.2 with ⟨rfl, _⟩ | ⟨g, c, cu, rfl, _⟩ <;> rfl
            · simp at ho'; subst ho'; exact .inr ⟨rfl, rfl⟩
end
end Go.Abs
end
section
namespace Go.Abs
section
variable {P:Program} {M0:Nat→Prop} {H:AHeap} {σ:Nat→Option Ow} {w:World}
theorem kS (z:List D)(n:Nat):((List.replicate n z).flatten).length=n * z.length:=by
 rw [jG (n:=z.length) _ (fun c hc=>by rw [jS hc])];simp
theorem vY (z:List D)(n j:Nat)(h0:0<z.length)(hj:j<n * z.length):((List.replicate n z).flatten)[j]?=z[j % z.length]?:=by
 have h1:=jQ (n:=z.length) (List.replicate n z) (j / z.length) z (fun c hc=>by rw [jS hc])
  (by rw [eG,if_pos (Nat.div_lt_of_lt_mul (by rw [oZ];exact hj))]) (j % z.length) (Nat.mod_lt _ h0)
 rw [show j / z.length * z.length+j % z.length=j by rw [oZ];exact Nat.div_add_mod _ _] at h1
 exact h1
theorem oX {M:Nat→Prop}{N:Nat→Prop}(z:Value)(n:Nat)(h0:0<z.cells.size)(h:(z.cells.toList.map oT).all D.cell=true) :
  RepL M σ N w (madeCells z.cells (n * z.cells.size)).toList (List.replicate n (z.cells.toList.map oT)).flatten∧∀ u∈(madeCells z.cells (n * z.cells.size)).toList,u.oneCell'=true:=by
 obtain ⟨hr,h1⟩:=DP (M:=M) (σ:=σ) (N:=N) (w:=w) z.cells.toList h
 have hget:∀ j u,(madeCells z.cells (n * z.cells.size)).toList[j]?=some u→j<n * z.cells.size∧z.cells.toList[j % z.cells.size]?=some u:=by
  intro j u hu
  have hj:j<n * z.cells.size:=by
   have:=(aI.1 hu).1
   simpa [size_madeCells] using this
  refine ⟨hj,?_⟩
  have hm:j % z.cells.size<z.cells.size:=Nat.mod_lt _ h0
  simp [madeCells,hj] at hu
  subst hu
  simp [hm]
 refine ⟨⟨by rw [kS];simp [size_madeCells],fun j u d hu hd=>?_⟩,fun u hu=>?_⟩
 ·obtain ⟨hj,hz⟩:=hget j u hu
  rw [vY _ n j (by simpa using h0) (by simpa using hj)] at hd
  exact hr.rep _ u d hz (by simpa using hd)
 ·obtain ⟨j,hj⟩:=List.mem_iff_getElem?.1 hu
  exact h1 u (aJ (hget j u hj).2)
theorem Mi {nid:Nat}(hn:¬ H.al nid){t:TypeId}{vl vc:Value}{l c:D}(hR:Rel M0 H σ w)(hl:RepV (cF M0 H σ) σ H.al w vl l)(hcp:RepV (cF M0 H σ) σ H.al w vc c)
  (hc:(Bv P nid t l c H).cond):(Bv P nid t l c H).fact∧OpS P (Instr.makeSlice t vl vc) M0 H σ w (Bv P nid t l c H).val (Bv P nid t l c H).heap:=by
 unfold Bv at *
 split at hc
 ·rename_i s _ n _ m hs
  obtain ⟨rfl,hn0,hn1⟩:=hc
  cases hl;cases hcp
  obtain ⟨hu,i,z,hi,hz,hisz,hiby,hsz,hby,hsz',hszl,hzs,hzc⟩:=pZ hs
  obtain ⟨k,rfl⟩:=eI hn0
  simp only [Int.toNat_natCast]
  have hk:k≤4294967296:=by omega
  have hb:i.bytes * k≤281474976710656:=by
   rw [hiby]
   have:=lT hby hk
   omega
  obtain ⟨w',hrun,hown,hg⟩:=run_make_full (P:=P) w 0 t s.e i z s.sz hu hi hz hisz _ _ k hb (by simp only [maxLen];omega) (dE _)
  rw [← hzs] at hown
  obtain ⟨hr,h1⟩:=oX (M:=cF M0 H σ) (σ:=σ) (N:=H.al) (w:=w) z k (by omega) (by rw [← hsz'];exact hzc)
  have hp:=Rel.push hR nid hn (w':=w') hg.os hg.tape hg.output hg.size (fun b hb=>hg.block b hb (by simp)) ⟨s.e,s.sz,List.replicate k s.z,false⟩ ⟨k,.slice (some ⟨w.heap.size,0,none⟩) k k,s.sz,s.e⟩
   (fun b hb=>by simp [Ow.block,Value.ownBlock] at hb;omega) (by simp) rfl rfl (fun c hc=>by rw [jS hc,hszl])
   _ (by simpa [hzs] using hown) h1 (by simpa [hsz'] using hr)
  refine ⟨trivial,_,w',_,hrun,hp.1,.own _ nid k (.inl rfl) rfl fun o ho=>?_,hp.2.1,hp.2.2⟩
  simp at ho;subst ho;exact .inr ⟨rfl,rfl⟩
 ·exact hc.elim
theorem wK {t tn ty e:TypeId}{i:TypeInfo}{z:Value}{kq kn:IntKind}(ht:P.underlying t=some (.slice e))(htn:P.underlying tn=some (.int kn))(hi:P.info? e=some i)(hz:i.zero=some z)
  (hzs:z.cells.size=i.size) (hsz:0<i.size) (v:Value) (n:Nat) (xs:List Value) (hown:w.ownsRow 0 e i.size v n xs) (m:Nat) (hone:∀ u∈(madeCells z.cells (m * z.cells.size)).toList,u.oneCell'=true) (hm:n+m≤4294967296) (h63:n+m≤maxLen) (hbytes:(n+m) * i.bytes≤140737488355328) :
  ∃ v' w',(Builtin.append_ #[t,tn] ty #[v,.int kq m]).run P w=.ok v' w'∧w'.ownsRow 0 e i.size v' (n+m) (xs++(madeCells z.cells (m * z.cells.size)).toList)∧w.grownBy w' v.ownBlock ∧
   (m=0→v'=v)∧(∀ b,v'.ownBlock=some b→v.ownBlock=some b∨w.heap.size≤b):=by
 have hmz:∀ k,madeCells z.cells (k * z.cells.size)=Builtin.zeroCells z.cells k:=fun k=>rfl
 have hnl:(madeCells z.cells (m * z.cells.size)).toList.length=m * i.size:=by simp [size_madeCells,hzs]
 obtain ⟨news,hnews⟩:∃ x,x=(madeCells z.cells (m * z.cells.size)).toList:=⟨_,rfl⟩
 rw [← hnews] at hnl ⊢
 have hlen:(xs++news).length=(n+m) * i.size:=by rw [aT,hown.1,hnl,Nat.add_mul]
 have hw:IntKind.i64.wrap (m:Int)=m:=by rw [IntKind.wrap_i64];omega
 have hneg:¬ ((m:Int)<0):=by omega
 have hmb:m * i.bytes≤281474976710656:=by have:=bZ i.bytes (show m≤n+m by omega);omega
 have h48i:¬ (281474976710656<(m:Int) * (i.bytes:Int)):=by rw [← Int.natCast_mul];omega
 have NN:∀ (old:Nat),old<n+m→∀ (row:Option Nat),
   (w.drew.alloc (.cells (xs.toArray++Builtin.zeroCells z.cells m++Builtin.zeroCells z.cells (grownCap w (n+m) old e - (n+m))) e)).ownsRow 0 e i.size
    (.slice (some ⟨w.heap.size,0,none⟩) (n+m) (grownCap w (n+m) old e)) (n+m) (xs++news) ∧
   w.grownBy (w.drew.alloc (.cells (xs.toArray++Builtin.zeroCells z.cells m++Builtin.zeroCells z.cells (grownCap w (n+m) old e - (n+m))) e)) row:=by
  intro old ho row
  have hge:=grownCap_ge w (n+m) old e
  have hcm:grownCap w (n+m) old e≤maxLen:=grownCap_le_maxLen w (n+m) old e h63
  have hza:Builtin.zeroCells z.cells m=news.toArray:=by rw [hnews,← hmz]
  rw [hza]
  refine ⟨⟨hlen,.inr ⟨w.heap.size,_,_,rfl,dE _,heap_alloc_new w.drew _,hge,hcm,?_,?_⟩⟩,⟨rfl,rfl,rfl,by simp,fun k hk _=>heap_alloc_old w.drew _ hk⟩⟩
  ·simp only [Array.size_append,mF,size_zeroCells,hzs,hown.1,hnl,← Nat.add_mul]
   congr 1
   omega
  ·simp only [Array.toList_append,List.append_assoc]
   rw [← List.append_assoc,← hlen]
   exact List.take_left
 by_cases hm0:m=0
 ·subst hm0
  have hn0:news=[]:=aV (by rw [hnl];simp)
  subst hn0
  have hrun:(Builtin.append_ #[t,tn] ty #[v,.int kq (0:Nat)]).run P w=.ok v w:=by
   rcases hown.2 with ⟨rfl,rfl⟩|⟨g,cap',cur,rfl,_,_,hnc,_⟩
   ·simp [Builtin.append_,run_underlying ht,run_underlying htn,sizeOf,typeInfo,hi,asInt,asIntOf,hw,IntKind.wrap_i64]
   ·simp [Builtin.append_,run_underlying ht,run_underlying htn,sizeOf,typeInfo,hi,asInt,asIntOf,hw,IntKind.wrap_i64,hnc,storeCells]
  exact ⟨v,w,hrun,by simpa using hown,⟨rfl,rfl,rfl,aL _,fun _ _ _=>rfl⟩,fun _=>rfl,fun b hb=>.inl hb⟩
 ·rcases hown.2 with ⟨rfl,rfl⟩|⟨g,cap,cur,rfl,hbg,hg,hnc,hcm,hcs,htake⟩
  ·have hx:xs=[]:=aV (by simpa using hown.1)
   subst hx
   have hr:=Lib.run_append_nil_zeros (P:=P) w t tn ty e i z kq kn ht htn hi hz m (by omega) hsz (by omega) hmb
   have hgr:=NN 0 (by omega) (Value.ownBlock (.slice none 0 0))
   simp only [dR,eX,Array.empty_append] at hgr ⊢
   exact ⟨_,_,hr,hgr.1,hgr.2,fun h=>absurd h hm0,fun b hb=>.inr (by simp [Value.ownBlock] at hb;omega)⟩
  ·by_cases hroom:n+m≤cap
   ·have hfit:n * i.size+news.length≤cur.size:=by rw [hnl,hcs,← Nat.add_mul];exact bZ _ hroom
    have hst:=run_storeCells_at P g (n * i.size) e news 0 cur w hg (by simpa using hfit) (fun u hu=>by
     rw [hnews] at hu
     exact hone u hu)
    have hnz:(Builtin.zeroCells z.cells m).toList=news:=by rw [hnews,hmz]
    have hns:¬ (m * i.size=0):=Nat.mul_ne_zero hm0 (by omega)
    simp only [o4] at hst
    have hr:(Builtin.append_ #[t,tn] ty #[.slice (some ⟨g,0,none⟩) n cap,.int kq m]).run P w=.ok (.slice (some ⟨g,0,none⟩) (n+m) cap) (w.setRow g (cur.toList.take (n * i.size)++news++cur.toList.drop (n * i.size+news.length)).toArray):=by
     simp [Builtin.append_,run_underlying ht,run_underlying htn,sizeOf,typeInfo,zeroValue,hi,hz,asInt,asIntOf,hw,hneg,hns,h48i,hroom,Addr.add_lit,hnz,hst]
    refine ⟨_,_,hr,⟨hlen,.inr ⟨g,cap,_,rfl,hbg,setRow_heap w g cur _ e _ hg,hroom,hcm,?_,?_⟩⟩,⟨rfl,rfl,rfl,by simp,fun k _ hk=>setRow_other w g k _ (fun e=>hk (by simp [Value.ownBlock,e]))⟩,fun h=>absurd h hm0,fun b hb=>.inl hb⟩
    ·simp only [mF,aT,bL,dY,fL]
     omega
    ·rw [htake,← hlen]
     exact List.take_left
   ·have hold:(Builtin.firstCells i.size n (.slice (some ⟨g,0,none⟩) n cap)).run P w.drew=.ok xs.toArray w.drew :=
     run_firstCells_some (P:=P) w.drew i.size n ⟨g,0,none⟩ n cap xs hown.1 (hown.cells (g:=g) rfl)
    have hr:=Lib.run_append_grow_zeros (P:=P) w t tn ty e i z kq kn ht htn hi hz (some ⟨g,0,none⟩) n cap xs hold m (by omega) hsz (by omega) (by omega) hmb (growslice_fits (by omega) hbytes)
    have hgr:=NN cap (by omega) (Value.ownBlock (.slice (some ⟨g,0,none⟩) n cap))
    exact ⟨_,_,hr,hgr.1,hgr.2,fun h=>absurd h hm0,fun b hb=>.inr (by simp [Value.ownBlock] at hb;omega)⟩
theorem GL {t t' ty : TypeId} {s : SlI} {va vb : Value} {x y : D} (hs : sl P t = some s) (hR : Rel M0 H σ w) (hx : RepV (cF M0 H σ) σ H.al w va x) (hy : RepV (cF M0 H σ) σ H.al w vb y)
    (hc : (oC P s t' x y H).cond) : (oC P s t' x y H).fact ∧ OpS P (Builtin.append_ #[t, t'] ty #[va, vb]) M0 H σ w (oC P s t' x y H).val (oC P s t' x y H).heap := by
  unfold oC at *
  obtain ⟨hu, i, z, hi, hz, hisz, hiby, hsz, hby, hsz', hszl, hzs, hzc⟩ := pZ hs
  cases y <;> try (simp [AOut.bad] at hc; done)
  rename_i kq m
  cases x <;> try (simp [AOut.bad] at hc; done)
  rename_i id n
  cases hk' : Mn P t' with
  | none => simp [hk', AOut.bad] at hc
  | some kn =>
    simp only [hk'] at hc ⊢
    cases hk : H.get id with
    | none => simp [hk, AOut.bad] at hc
    | some k =>
      simp only [hk] at hc ⊢
      obtain ⟨hm0, hfz, hty, hnn0, hle, hkl⟩ := hc
      obtain ⟨m, rfl⟩ := eI hm0
      simp only [Int.toNat_natCast] at hle ⊢
      have htn : P.underlying t' = some (.int kn) := by
        unfold Mn at hk'
        split at hk'
        · rename_i h; cases hk'; exact h
        · cases hk'
      obtain ⟨o, ho, l⟩ := hR.lies id k hk
      obtain ⟨xs, hrow, hx1, hrepx⟩ := l.row
      cases hx
      rename_i h1' hN h
      cases hy
      rcases h o ho with h' | ⟨_, rfl⟩
      · have := l.ver; omega
      · have hesz : o.esz = s.sz := l.sz.trans hkl
        rw [← hisz] at hsz hszl hzs hesz hkl
        have hrow' : w.ownsRow 0 s.e i.size o.val k.es.length xs := by rw [← hty]; rw [hesz] at hrow; exact hrow
        have hb : (n + m) * i.bytes ≤ 140737488355328 := by
          have := lT hle (show i.bytes ≤ 4096 by omega)
          omega
        obtain ⟨hr, h1⟩ := oX (M := cF M0 H σ) (σ := σ) (N := H.al) (w := w) z m (by omega) (by rw [← hsz']; exact hzc)
        subst hnn0
        obtain ⟨v', w', hrun, hown', hg, hsame, hblk⟩ := wK (P := P) (ty := ty) (kq := kq) hu htn hi hz hzs hsz o.val k.es.length xs hrow' m h1 hle (by simp only [maxLen]; omega) hb
        have hzl : ∀ c ∈ List.replicate m s.z, c.length = i.size := fun c hc => by rw [jS hc, hszl]
        have hp := Rel.put hR (w' := w') hk hfz ho { k with es := k.es ++ List.replicate m s.z } ⟨k.es.length + m, v', i.size, s.e⟩ hg hblk
          (by
            by_cases h0 : m = 0
            · left
              have := l.ver; have hs' := hsame h0
              obtain ⟨ov, oval, oe, ot⟩ := o
              simp only at this hs' hesz ⊢
              have ht := l.ty
              simp only at ht
              subst this; subst hs'; subst hesz
              rw [ht, hty]; simp [h0]
            · right; have := l.ver; simp only; omega)
          (by simp) (by simp [hty]) (by simp [hkl])
          (fun c hc => by
            rcases aW.1 hc with h' | h'
            · simpa [← hesz] using l.esz c h'
            · exact hzl c h')
          (xs ++ (madeCells z.cells (m * z.cells.size)).toList) (by simpa [hty] using hown') (fun u hu => by
            rcases aW.1 hu with h' | h'
            · exact hx1 u h'
            · exact h1 u h')
          ⟨by simp only [aT, kD, hrepx.len]; rw [hr.len, hsz'], fun j u d hu hd => by
            simp only [kD] at hd
            by_cases hj : j < xs.length
            · rw [aX hj] at hu
              rw [aX (by rw [← hrepx.len]; exact hj)] at hd
              exact hrepx.rep j u d hu hd
            · rw [bE (by omega)] at hu
              rw [bE (by rw [← hrepx.len]; omega), ← hrepx.len, hsz'] at hd
              exact hr.rep _ u d hu hd⟩
        refine ⟨trivial, v', w', _, hrun, hp.1, .own v' id _ hN ?_ fun o' ho' => ?_, hp.2.1, hp.2.2⟩
        · rcases hown'.2 with ⟨rfl, _⟩ | ⟨g, c, cu, rfl, _⟩ <;> rfl
        · simp at ho'; subst ho'; exact .inr ⟨rfl, rfl⟩
theorem GK {nid : Nat} (hn : ¬ H.al nid) {t t' ty : TypeId} {va vb : Value} {x y : D} (hR : Rel M0 H σ w) (hx : RepV (cF M0 H σ) σ H.al w va x) (hy : RepV (cF M0 H σ) σ H.al w vb y)
    (hc : (jM P nid t t' x y H).cond) : (jM P nid t t' x y H).fact ∧ OpS P (Builtin.append_ #[t, t'] ty #[va, vb]) M0 H σ w (jM P nid t t' x y H).val (jM P nid t t' x y H).heap := by
  cases he : mR H y with
  | some ys => exact Jc hn hR hx hy (by rw [he]; rfl) hc
  | none =>
    cases hs : sl P t with
    | none => unfold jM at hc; simp [hs, he, AOut.bad] at hc
    | some s =>
      have hA : jM P nid t t' x y H = oC P s t' x y H := by unfold jM; simp only [hs, he]
      rw [hA] at hc ⊢
      exact GL hs hR hx hy hc
theorem FP (w:World)(cs:Array Value)(t:TypeId)(j:Nat):(w.alloc (.cells cs t)).cell? ⟨w.heap.size,j,none⟩=cs[j]?:=by
 rw [cell_of_row (w.alloc (.cells cs t)) w.heap.size j cs t (0,0) (heap_alloc_new w _)]
theorem Kl {M0:Nat→Prop}{nid:Nat}(hn:¬ H.al nid)(hR:Rel M0 H σ w)(m:Bool)(t:TypeId)(cs:Array Value)(ds:List D)(hrep:RepL (cF M0 H σ) σ H.al w cs.toList ds)(h1:∀ u∈cs.toList,u.oneCell'=true) :
  let d:D:=if m then .ptr nid 1 0 0 else .adr ds
  let H':=if m then H.push nid ⟨t,ds.length,[ds],false⟩ else H
  ∃ σ',Rel M0 H' σ' (w.alloc (.cells cs t))∧RepV (cF M0 H' σ') σ' H'.al (w.alloc (.cells cs t)) (.pointer (some ⟨w.heap.size,0,none⟩)) d∧Stp σ w σ' (w.alloc (.cells cs t)) ∧
   Keeps (cF M0 H σ) σ H.al w (cF M0 H' σ') σ' H'.al (w.alloc (.cells cs t)):=by
 have hold:∀ b,b<w.heap.size→(w.alloc (.cells cs t)).heap[b]?=w.heap[b]?:=fun _ hb=>heap_alloc_old _ _ hb
 have hl:cs.size=ds.length:=by simpa using hrep.len
 cases m with
 | false =>
  obtain ⟨hR',hS,hK⟩:=Rel.grow hR (w':=w.alloc (.cells cs t)) rfl rfl rfl (by simp) hold
  refine ⟨σ,hR',.adr _ cs.toList ds hrep.len h1 (fun j u hu=>⟨?_,?_⟩) fun j u d hu hd=>(hrep.rep j u d hu hd).keep hK,hS,hK⟩
  ·rintro (hm|⟨i,k,o,_,_,ho,hb⟩)
   ·exact absurd (hR.m0 _ hm) (iX _)
   ·exact absurd (hR.lt i o _ ho hb).1 (iX _)
  ·rw [gX,dR,FP];simpa using hu
 | true =>
  simp only [if_true]
  have hp:=Rel.push hR nid hn (w':=w.alloc (.cells cs t)) rfl rfl rfl (by simp) hold ⟨t,ds.length,[ds],false⟩ ⟨1,.slice (some ⟨w.heap.size,0,none⟩) 1 1,ds.length,t⟩
   (fun b hb=>by simp [Ow.block,Value.ownBlock] at hb;omega) rfl rfl rfl (by simp) cs.toList
   (World.ownsRow_lit w cs 1 (dE _) (by simp [maxLen]) (by simp [hl])) h1 (by simpa using hrep)
  refine ⟨_,hp.1,.ptr _ nid 1 0 0 (.inl rfl) rfl fun o ho=>?_,hp.2.1,hp.2.2⟩
  simp at ho;subst ho
  exact .inr ⟨rfl,_,rfl,by simp⟩
theorem PK {nid:Nat}(hn:¬ H.al nid){m:Bool}{t:TypeId}{vx:Value}{x:D}(hR:Rel M0 H σ w)(hx:RepV (cF M0 H σ) σ H.al w vx x)(hc:(Jj P nid m t x H).cond) :
  (Jj P nid m t x H).fact∧OpS P (Instr.box t vx) M0 H σ w (Jj P nid m t x H).val (Jj P nid m t x H).heap:=by
 have hcell:x.cells.all D.cell=true:=by unfold Jj at hc;cases m<;>exact hc
 obtain ⟨hr,h1⟩:=yO hx hcell
 obtain ⟨σ',h2,h3,h4,h5⟩:=Kl hn hR m t vx.cells x.cells hr h1
 have hrun:(Instr.box t vx).run P w=.ok (.pointer (some ⟨w.heap.size,0,none⟩)) (w.alloc (.cells vx.cells t)):=by
  simp [Instr.box,newVar,newRow]
 cases m with
 | false=>exact ⟨trivial,_,_,σ',hrun,h2,h3,h4,h5⟩
 | true=>exact ⟨trivial,_,_,σ',hrun,h2,h3,h4,h5⟩
theorem Na {t:TypeId}{z:List D}(h:zd P t=some z):∃ de i v,P.underlying t=some de∧P.info? t=some i∧i.zero=some v∧z=v.cells.toList.map oT∧z.length=i.size∧0<i.size∧z.all D.cell=true:=by
 unfold zd at h
 split at h
 ·rename_i de i hu hi
  split at h
  ·rename_i hc
   cases h
   cases hz:i.zero with
   | none=>simp [wE,hz] at hc;omega
   | some v=>exact ⟨de,i,v,hu,hi,hz,by simp [wE,hz],hc.1,hc.2.1,hc.2.2⟩
  ·cases h
 ·cases h
theorem Lm {nid:Nat}(hn:¬ H.al nid){m:Bool}{t:TypeId}(hR:Rel M0 H σ w)(hc:(vB P nid m t H).cond) :
  (vB P nid m t H).fact∧OpS P (Instr.alloc t true (.tuple #[])) M0 H σ w (vB P nid m t H).val (vB P nid m t H).heap:=by
 unfold vB at *
 cases hz:zd P t with
 | none=>simp [hz,AOut.bad] at hc
 | some z =>
  simp only [hz] at hc ⊢
  obtain ⟨de,i,v,hu,hi,hv,rfl,hl,h0,hcell⟩:=Na hz
  obtain ⟨hr,h1⟩:=DP (M:=cF M0 H σ) (σ:=σ) (N:=H.al) (w:=w) v.cells.toList hcell
  obtain ⟨σ',h2,h3,h4,h5⟩:=Kl hn hR m t v.cells _ hr h1
  have hrun:(Instr.alloc t true (.tuple #[])).run P w=.ok (.pointer (some ⟨w.heap.size,0,none⟩)) (w.alloc (.cells v.cells t)):=by
   simp [Instr.alloc,zeroValue,typeInfo,hi,hv,newVar,newRow]
  cases m with
  | false=>exact ⟨trivial,_,_,σ',hrun,h2,h3,h4,h5⟩
  | true=>exact ⟨trivial,_,_,σ',hrun,h2,h3,h4,h5⟩
theorem KN (cs:List Value):∀ (off j0:Nat) (zs:Array Value),off+j0+cs.length≤zs.size →
  ((cs.zipIdx j0).foldl (fun a (p:Value × Nat)=>a.setIfInBounds (off+p.2) p.1) zs).toList=zs.toList.take (off+j0)++cs++zs.toList.drop (off+j0+cs.length):=by
 induction cs with
 | nil=>intro off j0 zs h;simp
 | cons c cs ih =>
  intro off j0 zs h
  simp only [List.zipIdx_cons,c8]
  have h':off+j0+(cs.length+1)≤zs.size:=by simpa using h
  rw [ih off (j0+1) _ (by simp;omega)]
  apply eD
  intro q
  simp only [Array.toList_setIfInBounds,iH,bL,fI,fL,bI,bG,bR,bW]
  have m1:min (off+(j0+1)) zs.size=off+(j0+1):=by omega
  have m2:min (off+j0) zs.size=off+j0:=by omega
  rw [m1,m2]
  by_cases hq1:q<off+j0
  ·rw [if_pos (by omega),if_pos (by omega),if_pos hq1,if_pos hq1,if_neg (by omega)]
  ·rw [if_neg hq1]
   by_cases hq2:q=off+j0
   ·subst hq2
    rw [if_pos (by omega),if_pos (by omega),if_pos rfl,if_pos (by omega),if_pos (by omega)]
    simp
   ·rw [if_neg (by omega)]
    by_cases hq3:q<off+j0+(cs.length+1)
    ·rw [if_pos (by omega),if_pos hq3]
     rw [show q - (off+j0)=(q - (off+(j0+1)))+1 by omega,F9]
    ·rw [if_neg (by omega),if_neg hq3,if_neg (by omega)]
     congr 1;omega
theorem Ac {M : Nat → Prop} {N : Nat → Prop} (places : Nat → Option (Nat × Nat)) : ∀ (pv : List (Nat × Value)) (pd : List (Nat × D)) (zs : Array Value) (ds out : List D),
    pv.map (·.1) = pd.map (·.1) → (∀ (j : Nat) (v : Value) (d : D), (pv.map (·.2))[j]? = some v → (pd.map (·.2))[j]? = some d → RepV M σ N w v d) → (∀ p ∈ pd, p.2.cells.all D.cell = true) →
    RepL M σ N w zs.toList ds → (∀ u ∈ zs.toList, u.oneCell' = true) → zI places ds pd = some out →
    ∃ cs, Instr.fill places zs pv = some cs ∧ RepL M σ N w cs.toList out ∧ (∀ u ∈ cs.toList, u.oneCell' = true) ∧ out.length = ds.length
  | [], pd, zs, ds, out, hk, hr, hcl, hz, h1, hf => by
    cases pd with
    | cons p pd => simp at hk
    | nil => simp [zI] at hf; subst hf; exact ⟨zs, rfl, hz, h1, rfl⟩
  | (i, v) :: pv, pd, zs, ds, out, hk, hr, hcl, hz, h1, hf => by
    cases pd with
    | nil => simp at hk
    | cons p pd =>
      obtain ⟨i', d⟩ := p
      simp at hk
      obtain ⟨rfl, hk⟩ := hk
      unfold zI at hf
      unfold Instr.fill
      cases hp : places i with
      | none => simp [hp] at hf
      | some q =>
        obtain ⟨off, size⟩ := q
        simp only [hp] at hf ⊢
        split at hf
        · rename_i hc
          obtain ⟨hc1, hc2⟩ := hc
          have hvd := hr 0 v d rfl rfl
          obtain ⟨hrv, hv1⟩ := yO hvd (hcl (i, d) (by simp))
          have hvl : v.cells.size = d.cells.length := HM hvd (hcl (i, d) (by simp))
          have hzl : zs.size = ds.length := by simpa using hz.len
          have hcond : (v.cells.size ≠ size || off + v.cells.size > zs.size) = false := by simp; omega
          have hs := KN v.cells.toList off 0 zs (by simp; omega)
          simp only [o4] at hs
          have hfold : v.cells.zipIdx.foldl (fun cs (x : Value × Nat) => cs.setIfInBounds (off + x.2) x.1) zs = (v.cells.toList.zipIdx 0).foldl (fun cs (x : Value × Nat) => cs.setIfInBounds (off + x.2) x.1) zs := by
            rw [← Array.foldl_toList, Array.toList_zipIdx]
          obtain ⟨cs, hfill, hrep, h1', hlen⟩ := Ac places pv pd (v.cells.zipIdx.foldl (fun cs (x : Value × Nat) => cs.setIfInBounds (off + x.2) x.1) zs) (qO ds off d.cells) out hk
            (fun j u x hu hx => hr (j + 1) u x hu hx) (fun p hp => hcl p (by simp [hp]))
            (by
              rw [hfold, hs]
              have hvl' : v.cells.toList.length = d.cells.length := by simpa using hvl
              refine ⟨by simp [qO]; omega, fun j u x hu hx => ?_⟩
              simp only [qO, iH, bL, bI, bG, fL, hvl', hzl] at hu hx
              split at hx
              · rename_i hj
                rw [if_pos hj] at hu
                split at hx
                · rename_i hj'; rw [if_pos hj'] at hu; exact hz.rep j u x hu hx
                · cases hx
              · rename_i hj
                rw [if_neg hj] at hu
                split at hx
                · rename_i hj'; rw [if_pos hj'] at hu; exact hrv.rep _ u x hu hx
                · rename_i hj'; rw [if_neg hj'] at hu; exact hz.rep _ u x hu hx)
            (by
              rw [hfold, hs]
              intro u hu
              simp only [aW] at hu
              rcases hu with (hu | hu) | hu
              · exact h1 u (bN hu)
              · exact hv1 u hu
              · exact h1 u (dL hu)) hf
          refine ⟨cs, ?_, hrep, h1', by rw [hlen]; simp [qO]; omega⟩
          simp only [hcond, dV, if_false]
          exact hfill
        · cases hf
end
end Go.Abs
end
section
namespace Go.Abs
section
variable {P:Program} {M0:Nat→Prop} {H:AHeap} {σ:Nat→Option Ow} {w:World}
structure Parts (M:Nat→Prop) (σ:Nat→Option Ow) (N:Nat→Prop) (w:World) (pv:List (Nat × Value)) (pd:List (Nat × D)):Prop where
 keys:pv.map (·.1)=pd.map (·.1)
 rep:∀ (j:Nat) (v:Value) (d:D),(pv.map (·.2))[j]?=some v→(pd.map (·.2))[j]?=some d→RepV M σ N w v d
theorem Ld {t : TypeId} {pv : List (Nat × Value)} {pd : List (Nat × D)} (hR : Rel M0 H σ w) (hp : Parts (cF M0 H σ) σ H.al w pv pd)
    (hc : (rK P t pd H).cond) : (rK P t pd H).fact ∧ OpS P (Instr.build t pv.toArray) M0 H σ w (rK P t pd H).val (rK P t pd H).heap := by
  unfold rK at *
  cases hz : zd P t with
  | none => simp [hz, AOut.bad] at hc
  | some z =>
    cases hb : bk P t with
    | none => simp [hz, hb, AOut.bad] at hc
    | some b =>
      simp only [hz, hb] at hc ⊢
      cases hf : zI b.place z pd with
      | none => simp [hf, AOut.bad] at hc
      | some out =>
        simp only [hf] at hc ⊢
        refine ⟨trivial, ?_⟩
        obtain ⟨de, i, v, hu, hi, hv, rfl, hl, h0, hcell⟩ := Na hz
        obtain ⟨hr, h1⟩ := DP (M := cF M0 H σ) (σ := σ) (N := H.al) (w := w) v.cells.toList hcell
        obtain ⟨cs, hfill, hrep, h1', _⟩ := Ac _ pv pd v.cells _ out hp.keys hp.rep (by simpa using hc) hr h1 hf
        refine .pure hR (run_build w t pv.toArray cs ?_) (.agg cs.toList out hrep.len h1' hrep.rep)
        unfold Program.built
        unfold bk at hb
        rw [hu] at hb
        cases de <;> simp at hb
        case array n' e =>
          obtain ⟨ie, hie, rfl⟩ := hb
          simp only [hi, hu, hv, hie]
          exact hfill
        case struct fs =>
          obtain ⟨l, hm, rfl⟩ := hb
          simp only [hi, hu, hv, hm]
          have he : (BK.st l).place = fun x => l[x]? := rfl
          rw [he] at hfill
          simpa using hfill
theorem rD (sz:Nat):∀ (n:Nat) (l:List D),(pP sz n l).length=n
 | 0,_=>rfl
 | n+1,l=>by simp [pP,rD sz n]
theorem C5 (sz:Nat):∀ (n:Nat) (l:List D),l.length=n * sz→(pP sz n l).flatten=l
 | 0,l,h=>by simp at h;subst h;rfl
 | n+1,l,h=>by
  simp only [pP,dZ]
  rw [C5 sz n _ (by rw [dY,h,Nat.add_mul];omega),List.take_append_drop]
theorem Cm (sz:Nat):∀ (n:Nat) (l:List D),l.length=n * sz→∀ c∈pP sz n l,c.length=sz
 | 0,l,h,c,hc=>by cases hc
 | n+1,l,h,c,hc=>by
  simp only [pP,aO] at hc
  rw [Nat.add_mul] at h
  rcases hc with rfl|hc
  ·rw [bL];omega
  ·exact Cm sz n _ (by rw [dY];omega) c hc
theorem Co {nid : Nat} (hnid : ¬ H.al nid) {m : Bool} {t : TypeId} {n : Nat} {pv : List (Nat × Value)} {pd : List (Nat × D)} (hR : Rel M0 H σ w) (hp : Parts (cF M0 H σ) σ H.al w pv pd)
    (hc : (iD P nid m t n pd H).cond) : (iD P nid m t n pd H).fact ∧ OpS P (Instr.buildSlice t n pv.toArray) M0 H σ w (iD P nid m t n pd H).val (iD P nid m t n pd H).heap := by
  unfold iD at *
  cases hs : sl P t with
  | none => simp [hs, AOut.bad] at hc
  | some s =>
    simp only [hs] at hc ⊢
    cases hf : zI (fun i => some (i * s.sz, s.sz)) (List.replicate n s.z).flatten pd with
    | none => simp [hf, AOut.bad] at hc
    | some out =>
      simp only [hf] at hc ⊢
      obtain ⟨hu, i, z, hi, hz, hisz, hiby, hsz, hby, hsz', hszl, hzs, hzc⟩ := pZ hs
      have hcond : n ≤ 1000 ∧ s.sz ≤ 1000 ∧ (pd.all fun p => p.2.cells.all D.cell) = true := by cases m <;> exact hc
      obtain ⟨hn, hs1, hcl⟩ := hcond
      obtain ⟨hr, h1⟩ := oX (M := cF M0 H σ) (σ := σ) (N := H.al) (w := w) z n (by omega) (by rw [← hsz']; exact hzc)
      rw [← hsz'] at hr
      obtain ⟨cs, hfill, hrep, h1', hlen⟩ := Ac (fun i => some (i * s.sz, s.sz)) pv pd (madeCells z.cells (n * z.cells.size)) _ out hp.keys hp.rep (by simpa using hcl) hr h1 hf
      have hol : out.length = n * s.sz := by rw [hlen, kS, hszl]
      have hcsz : cs.size = n * s.sz := by have := hrep.len; simp at this; omega
      have hsmall : ¬ n * s.sz > 2 ^ 24 := by
        have := lT hn hs1
        omega
      have hrun : (Instr.buildSlice t n pv.toArray).run P w = .ok (.slice (some ⟨w.heap.size, 0, none⟩) n n) (w.alloc (.cells cs s.e)) := by
        by_cases h0 : n * s.sz = 0
        · have hmade : (Array.range (n * s.sz)).map (fun x => (#[] : Array Value)[x % (#[] : Array Value).size]!) = madeCells z.cells (n * z.cells.size) := by
            rw [hzs]; simp [madeCells, h0, Array.range_zero']
          rw [← hmade] at hfill
          simp [Instr.buildSlice, run_underlying hu, sizeOf, typeInfo, hi, hisz, h0] at hfill ⊢
          simp [hfill, newRow]
        · have hmade : (Array.range (n * s.sz)).map (fun x => z.cells[x % z.cells.size]!) = madeCells z.cells (n * z.cells.size) := by
            simp [madeCells, hzs]
          rw [← hmade] at hfill
          have hsmall' : ¬ 16777216 < n * s.sz := by omega
          simp [Instr.buildSlice, run_underlying hu, sizeOf, typeInfo, hi, hisz, h0, hsmall', zeroValue, hz, hfill, newRow]
      have hfl := C5 s.sz n out hol
      have hold : ∀ b, b < w.heap.size → (w.alloc (.cells cs s.e)).heap[b]? = w.heap[b]? := fun _ hb => heap_alloc_old _ _ hb
      cases m with
      | false =>
        simp only [dV, if_false]
        obtain ⟨hR', hS, hK⟩ := Rel.grow hR (w' := w.alloc (.cells cs s.e)) rfl rfl rfl (by simp) hold
        refine ⟨trivial, _, _, σ, hrun, hR', ?_, hS, hK⟩
        have hv := RepV.list (M := cF M0 H σ) (σ := σ) (N := H.al) (w := w.alloc (.cells cs s.e)) ⟨w.heap.size, 0, none⟩ n s.sz cs.toList (pP s.sz n out) (by simp [rD]) (by simp only [maxLen]; omega)
          (Cm s.sz n out hol) (by rw [hfl]; exact hrep.len) h1' (fun j u hu => ⟨by
            rintro (hm | ⟨i, k, o, _, _, ho, hb⟩)
            · exact absurd (hR.m0 _ hm) (iX _)
            · exact absurd (hR.lt i o _ ho hb).1 (iX _), by
            rw [gX, dR, FP]; simpa using hu⟩) (fun j u d hu hd => by rw [hfl] at hd; exact (hrep.rep j u d hu hd).keep hK)
        rw [rD] at hv
        exact hv
      | true =>
        simp only [if_true]
        have hp' := Rel.push hR nid hnid (w' := w.alloc (.cells cs s.e)) rfl rfl rfl (by simp) hold ⟨s.e, s.sz, pP s.sz n out, false⟩ ⟨n, .slice (some ⟨w.heap.size, 0, none⟩) n n, s.sz, s.e⟩
          (fun b hb => by simp [Ow.block, Value.ownBlock] at hb; omega) (by simp [rD]) rfl rfl (Cm s.sz n out hol) cs.toList
          (by simp only [rD]; exact World.ownsRow_lit w cs n (dE _) (by simp only [maxLen]; omega) hcsz) h1' (by simp only; rw [hfl]; exact hrep)
        refine ⟨trivial, _, _, _, hrun, hp'.1, .own _ nid n (.inl rfl) rfl fun o ho => ?_, hp'.2.1, hp'.2.2⟩
        simp at ho; subst ho; exact .inr ⟨rfl, rfl⟩
theorem Ny {v:Value}{id n:Nat}{k:Blk}(hR:Rel M0 H σ w)(hx:RepV (cF M0 H σ) σ H.al w v (.own id n))(hk:H.get id=some k)(hn:k.es.length=n) :
  (v=.slice none 0 0∧n=0)∨∃ b cap,v=.slice (some ⟨b,0,none⟩) n cap∧n≤cap∧cap≤maxLen∧∃ o,σ id=some o∧o.block=some b∧o.esz=k.sz∧o.ver=n:=by
 obtain ⟨o,ho,l⟩:=hR.lies id k hk
 obtain ⟨xs,hrow,hx1,hrep⟩:=l.row
 cases hx
 rename_i h1 hN h
 rcases h o ho with h'|⟨h2,rfl⟩
 ·have:=l.ver;omega
 ·rcases hrow.2 with ⟨hnil,h0⟩|⟨g,cap,cur,hval,_,_,hnc,hcm,_⟩
  ·exact .inl ⟨hnil,by omega⟩
  ·exact .inr ⟨g,cap,by rw [hval,hn],by omega,hcm,o,ho,by simp [Ow.block,hval,Value.ownBlock],l.sz,h2.symm⟩
theorem Pi {t ty:TypeId}{vx:Value}{x:D}(hR:Rel M0 H σ w)(hx:RepV (cF M0 H σ) σ H.al w vx x)(hc:(Dx P t x H).cond) :
  (Dx P t x H).fact∧OpS P (Builtin.len_ #[t] ty #[vx]) M0 H σ w (Dx P t x H).val (Dx P t x H).heap:=by
 unfold Dx at *
 split at hc
 ·rename_i e hu
  split at hc
  ·cases hx
   exact ⟨trivial,.pure hR (by simp [Builtin.len_,run_underlying hu,goInt]) (.int _ _)⟩
  ·rename_i es
   rcases qW hx with ⟨rfl,rfl⟩|⟨ad,cap,sz,xs,rfl,_,_,_,hle,hm,_⟩
   ·exact ⟨by simp,.pure hR (by simp [Builtin.len_,run_underlying hu,goInt]) (.int _ _)⟩
   ·refine ⟨?_,.pure hR (by simp [Builtin.len_,run_underlying hu,goInt]) (.int _ _)⟩
    simp only [maxLen] at hm;simp only;omega
  ·rename_i id n
   split at hc
   ·rename_i k hk
    rcases Ny hR hx hk hc with ⟨rfl,rfl⟩|⟨b,cap,rfl,hle,hm,_⟩
    ·exact ⟨by simp,.pure hR (by simp [Builtin.len_,run_underlying hu,goInt]) (.int _ _)⟩
    ·refine ⟨?_,.pure hR (by simp [Builtin.len_,run_underlying hu,goInt]) (.int _ _)⟩
     simp only [maxLen] at hm;simp only;omega
   ·exact hc.elim
  ·exact hc.elim
 ·rename_i hu
  split at hc
  ·cases hx
   exact ⟨trivial,.pure hR (by simp [Builtin.len_,run_underlying hu,goInt]) (.int _ _)⟩
  ·exact hc.elim
 ·rename_i n e hu
  refine ⟨trivial,.pure hR ?_ (.int _ _)⟩
  simp [Builtin.len_,run_underlying hu,goInt]
 ·exact hc.elim
end
end Go.Abs
end
