/- The abstraction layer, part J: slices of slices and strings; -/
import Derived.Test.YthalajhajpjjeaaGreatZeB
set_option linter.unusedVariables false
set_option linter.unusedSimpArgs false
section
namespace Go.Abs
section
variable {P:Program} {M0:Nat→Prop} {H:AHeap} {σ:Nat→Option Ow} {w:World}
theorem pC {n:Nat}:∀ (es:List (List D)) (i:Nat),(∀ c∈es,c.length=n)→(es.take i).flatten=es.flatten.take (i * n)
 | [],i,_=>by simp
 | e :: es,0,_=>by simp
 | e :: es,i+1,hl=>by
  have he:=hl e (by simp)
  simp only [qR,dU,pC es i (fun c hc=>hl c (by simp [hc])),xI,Nat.add_mul,he]
  rw [aH (by omega:e.length≤i * n+1 * n)]
  congr 2;omega
theorem pD {n:Nat}:∀ (es:List (List D)) (i:Nat),(∀ c∈es,c.length=n)→(es.drop i).flatten=es.flatten.drop (i * n)
 | [],i,_=>by simp
 | e :: es,0,_=>by simp
 | e :: es,i+1,hl=>by
  have he:=hl e (by simp)
  simp only [List.drop_succ_cons,dU,pD es i (fun c hc=>hl c (by simp [hc])),List.drop_append,Nat.add_mul,he]
  rw [fX (by omega:e.length≤i * n+1 * n)]
  simp only [eN]
  congr 1;omega
theorem wU {M : Nat → Prop} {N : Nat → Prop} {vo : Option Value} {xo : Option D} {dflt n : Int} (h : ∀ v x, vo = some v → xo = some x → RepV M σ N w v x) (hs : vo.isSome = xo.isSome) (hn : PR xo dflt = some n) :
    (vo = none ∧ n = dflt) ∨ ∃ k, vo = some (.int k n) := by
  cases xo with
  | none => cases vo with
    | none => simp [PR] at hn; exact .inl ⟨rfl, hn.symm⟩
    | some v => simp at hs
  | some x => cases vo with
    | none => simp at hs
    | some v =>
      have := h v x rfl rfl
      cases x <;> simp [PR] at hn
      subst hn
      cases this
      exact .inr ⟨_, rfl⟩
theorem wX {e:TypeId}{t:TypeId}(hu:P.underlying t=some (.slice e)){ti:TypeInfo}(hti:P.info? e=some ti)(a:Option Addr)(len cap:Nat)(hlc:len≤cap)(lo hi:Option Value)(l h:Int)
  (hl:(lo=none∧l=0)∨∃ k,lo=some (.int k l)) (hh:(hi=none∧h=len)∨∃ k,hi=some (.int k h)) (h0:0≤l) (h1:l≤h) (h2:h≤len) :
  (Instr.sliceAt t (.slice a len cap) lo hi none).run P w=.ok (.slice (if cap=l.toNat then a else a.map (·.add (l.toNat * ti.size))) (h.toNat - l.toNat) (cap - l.toNat)) w:=by
 have hcap:h≤(cap:Int):=by omega
 have hb:∀ (x:Nat) (k:IntKind) (i:Int) (code:BoundsCode),0≤i→i≤(x:Int)→(Instr.sliceBound (.int k i) x code).run P w=.ok i.toNat w:=by
  intro x k i code hi0 hi1
  simp [Instr.sliceBound,asIntOf,hi0,hi1]
 rcases hl with ⟨rfl,rfl⟩|⟨kl,rfl⟩<;>rcases hh with ⟨rfl,rfl⟩|⟨kh,rfl⟩
 ·simp [Instr.sliceAt,Instr.slice,run_underlying hu,Instr.sliceBounds,sizeOf,typeInfo,hti]
 ·simp [Instr.sliceAt,Instr.slice,run_underlying hu,Instr.sliceBounds,sizeOf,typeInfo,hti,hb _ _ _ _ (by omega:(0:Int)≤h) hcap]
 ·simp [Instr.sliceAt,Instr.slice,run_underlying hu,Instr.sliceBounds,sizeOf,typeInfo,hti,hb len _ _ _ h0 h1]
 ·have hlh:l≤(h.toNat:Int):=by omega
  simp [Instr.sliceAt,Instr.slice,run_underlying hu,Instr.sliceBounds,sizeOf,typeInfo,hti,hb _ _ _ _ (by omega:(0:Int)≤h) hcap,hb _ _ _ _ h0 hlh]
theorem Fn {t:TypeId}(hu:P.underlying t=some .string)(s:ByteArray)(lo hi:Option Value)(l h:Int)
  (hl:(lo=none∧l=0)∨∃ k,lo=some (.int k l)) (hh:(hi=none∧h=s.size)∨∃ k,hi=some (.int k h)) (h0:0≤l) (h1:l≤h) (h2:h≤s.size) :
  (Instr.sliceAt t (.string s) lo hi none).run P w=.ok (.string (s.extract l.toNat h.toNat)) w:=by
 have hb:∀ (x:Nat) (k:IntKind) (i:Int) (code:BoundsCode),0≤i→i≤(x:Int)→(Instr.sliceBound (.int k i) x code).run P w=.ok i.toNat w:=by
  intro x k i code hi0 hi1
  simp [Instr.sliceBound,asIntOf,hi0,hi1]
 rcases hl with ⟨rfl,rfl⟩|⟨kl,rfl⟩<;>rcases hh with ⟨rfl,rfl⟩|⟨kh,rfl⟩
 ·simp [Instr.sliceAt,Instr.slice,run_underlying hu,Instr.sliceBounds]
 ·simp [Instr.sliceAt,Instr.slice,run_underlying hu,Instr.sliceBounds,hb _ _ _ _ (by omega:(0:Int)≤h) h2]
 ·simp [Instr.sliceAt,Instr.slice,run_underlying hu,Instr.sliceBounds,hb s.size _ _ _ h0 h1]
 ·have hlh:l≤(h.toNat:Int):=by omega
  simp [Instr.sliceAt,Instr.slice,run_underlying hu,Instr.sliceBounds,hb _ _ _ _ (by omega:(0:Int)≤h) h2,hb _ _ _ _ h0 hlh]
theorem IW {t:TypeId}{vx:Value}{x:D}{vlo vhi:Option Value}{lo hi:Option D}(hR:Rel M0 H σ w)(hx:RepV (cF M0 H σ) σ H.al w vx x)
  (hlo:∀ v x,vlo=some v→lo=some x→RepV (cF M0 H σ) σ H.al w v x) (hlo':vlo.isSome=lo.isSome)
  (hhi:∀ v x,vhi=some v→hi=some x→RepV (cF M0 H σ) σ H.al w v x) (hhi':vhi.isSome=hi.isSome) (hc:(nZ P t x lo hi H).cond) :
  (nZ P t x lo hi H).fact∧OpS P (Instr.sliceAt t vx vlo vhi none) M0 H σ w (nZ P t x lo hi H).val (nZ P t x lo hi H).heap:=by
 unfold nZ at *
 split at hc
 ·rename_i es
  split at hc
  ·rename_i s l h hs hl hh
   obtain ⟨h0,h1,h2,h3⟩:=hc
   obtain ⟨hu,ti,z,hti,hz,hisz,_,hsz,_,_,hszl,_⟩:=pA hs
   have rl:=wU hlo hlo' hl
   have rh:=wU hhi hhi' hh
   obtain ⟨a,rfl⟩:=dX h0
   obtain ⟨b,rfl⟩:=dX (Int.le_trans h0 h1)
   simp only [Int.toNat_natCast]
   have hab:a≤b:=by omega
   have hbl:b≤es.length:=by omega
   refine ⟨trivial,?_⟩
   rcases qA hx with ⟨rfl,rfl⟩|⟨ad,cap,sz,xs,rfl,hrep,hx1,hcell,hle,hm,hszs⟩
   ·have hrun:=wX (P:=P) (w:=w) hu hti none 0 0 (bC _) vlo vhi a b rl rh h0 h1 (by simpa using h2)
    simp at hbl
    subst hbl
    have:a=0:=by omega
    subst this
    refine .pure hR hrun ?_
    simpa using RepV.listN
   ·have hrun:=wX (P:=P) (w:=w) hu hti (some ad) es.length cap hle vlo vhi a b rl rh h0 h1 h2
    simp only [Int.toNat_natCast,eM] at hrun
    have hlen:((es.take b).drop a).length=b - a:=by simp;omega
    have hsz':es≠[]→sz=s.sz:=fun hne=>by
     cases es with
     | nil=>exact absurd rfl hne
     | cons e es=>simp at h3;exact (hszs e (by simp)).symm.trans h3
    rw [hisz] at hrun
    refine .pure hR hrun ?_
    have hmem:∀ c∈(es.take b).drop a,c.length=sz:=fun c hc=>hszs c (b9 (eH hc))
    have hflat:((es.take b).drop a).flatten=(es.flatten.take (b * sz)).drop (a * sz):=by
     rw [pD _ a (fun c hc=>hszs c (b9 hc)),pC _ b hszs]
    by_cases hcp:cap=a
    ·have hba:b=a:=by omega
     subst hba
     simp only [hcp,if_true]
     have hnil:(es.take b).drop b=[]:=fX (by simp;omega)
     rw [hnil]
     have:=RepV.list (M:=cF M0 H σ) (σ:=σ) (N:=H.al) (w:=w) ad (b - b) 0 [] [] (by simp) (by simp) (by simp) rfl (by simp) (fun j u hu=>by simp at hu) (fun j u d hu=>by simp at hu)
     simpa using this
    ·rw [if_neg hcp]
     have hv:=RepV.list (M:=cF M0 H σ) (σ:=σ) (N:=H.al) (w:=w) (ad.add (a * s.sz)) (cap - a) sz ((xs.take (b * sz)).drop (a * sz)) ((es.take b).drop a) (by rw [hlen];omega) (by omega) hmem
      (by rw [hflat];simp [hrep.len]) (fun u hu=>hx1 u (b9 (eH hu))) (fun j u hu=>by
       rw [bR,bM] at hu
       split at hu
       ·obtain ⟨h5,h6⟩:=hcell _ u hu
        rw [gA,AO]
        refine ⟨h5,?_⟩
        rw [← hsz' (fun e=>by subst e;simp at hbl;subst hbl;simp at *)]
        exact h6
       ·cases hu) (fun j u d hu hd=>by
       rw [hflat,bR,bM] at hd
       rw [bR,bM] at hu
       split at hu
       ·rename_i hj;rw [if_pos hj] at hd;exact hrep.rep _ u d hu hd
       ·cases hu)
     rw [hlen] at hv
     exact hv
  ·exact hc.elim
 ·rename_i id m
  split at hc
  ·rename_i s k l h hs hk hl hh
   obtain ⟨⟨h0,h1,h2⟩,hkm,hks⟩:=hc
   obtain ⟨hu,ti,z,hti,hz,hisz,_⟩:=pA hs
   have rl:=wU hlo hlo' hl
   have rh:=wU hhi hhi' hh
   obtain ⟨a,rfl⟩:=dX h0
   obtain ⟨b,rfl⟩:=dX (Int.le_trans h0 h1)
   simp only [Int.toNat_natCast]
   obtain ⟨o,ho,lz⟩:=hR.lies id k hk
   obtain ⟨xs,hrow,_,_⟩:=lz.row
   cases hx
   rename_i hone hN h
   refine ⟨trivial,?_⟩
   rcases h o ho with h'|⟨h2',rfl⟩
   ·have:=lz.ver;omega
   ·have hso:∀ o',σ id=some o'→o'=o:=fun o' ho'=>by rw [ho] at ho';exact (Option.some.inj ho').symm
    rcases hrow.2 with ⟨hnil,hz0⟩|⟨g,cap,cur,hval,hb0,hg,hnc,hcm,hcs,htake⟩
    ·have hrun:=wX (P:=P) (w:=w) hu hti none 0 0 (bC _) vlo vhi a b rl (by rw [show m=0 by omega] at rh;exact rh) h0 h1 (by omega)
     have ha:a=0:=by omega
     have hb:b=0:=by omega
     subst ha hb
     rw [hnil]
     refine .pure hR (by simpa using hrun) (.win _ id m 0 0 hN rfl ⟨bC _,dF _⟩ fun o' ho'=>.inr ⟨?_,.inl ⟨?_,rfl,rfl⟩⟩)
     ·rw [hso o' ho'];omega
     ·rw [hso o' ho'];exact hnil
    ·have hrun:=wX (P:=P) (w:=w) hu hti (some ⟨g,0,none⟩) k.es.length cap hnc vlo vhi a b rl (by rw [hkm];exact rh) h0 h1 (by omega)
     rw [hval]
     refine .pure hR hrun ?_
     refine .win _ id m a b hN rfl ⟨by omega,by omega⟩ fun o' ho'=>.inr ⟨?_,.inr ⟨g,cap,?_,by omega,?_⟩⟩
     ·rw [hso o' ho'];omega
     ·rw [hso o' ho',hval,hkm]
     ·rw [hso o' ho',lz.sz,hks,hisz]
      simp only [Int.toNat_natCast]
      split<;>simp [iF]
  ·exact hc.elim
 ·rename_i s
  split at hc
  ·rename_i l h hu hl hh
   obtain ⟨h0,h1,h2⟩:=hc
   cases hx
   have rl:=wU hlo hlo' hl
   have rh:=wU hhi hhi' hh
   exact ⟨trivial,.pure hR (Fn hu s vlo vhi l h rl rh h0 h1 h2) (.str _)⟩
  ·exact hc.elim
 ·exact hc.elim
theorem Rt {id:Nat}{k:Blk}(hk:H.get id=some k):H.put id k=H:=by
 unfold AHeap.put
 have:(fun i=>if i=id then some k else H.get i)=H.get:=by
  funext i
  by_cases h:i=id
  ·subst h;simp [hk]
  ·simp [h]
 rw [this]
theorem Nk {es:List (List D)}{lo hi:Nat}{z:List D}(hlh:lo≤hi)(hh:hi≤es.length):(es.take lo++List.replicate (hi - lo) z++es.drop hi).length=es.length:=by simp;omega
theorem IF {n:Nat}{es:List (List D)}{lo hi:Nat}{z:List D}(hsz:∀ c∈es,c.length=n)(hz:z.length=n)(hlh:lo≤hi)(hh:hi≤es.length) :
  (es.take lo++List.replicate (hi - lo) z++es.drop hi).flatten=es.flatten.take (lo * n)++(List.replicate (hi - lo) z).flatten++es.flatten.drop (lo * n+(List.replicate (hi - lo) z).flatten.length):=by
 rw [j8,j8,pC es lo hsz,pD es hi hsz,kJ,hz,← Nat.add_mul,show lo+(hi - lo)=hi by omega]
theorem Kz {t ty:TypeId}{vx:Value}{x:D}(hR:Rel M0 H σ w)(hx:RepV (cF M0 H σ) σ H.al w vx x)(hc:(sA P t x H).cond) :
  (sA P t x H).fact∧OpS P (Builtin.clear_ #[t] ty #[vx]) M0 H σ w (sA P t x H).val (sA P t x H).heap:=by
 unfold sA at *
 split at hc
 ·rename_i id ver lo hi
  split at hc
  ·rename_i s k hs hk
   obtain ⟨hfz,hver,hty,hsz⟩:=hc
   obtain ⟨hu,ti,z,hti,hz,hisz,_,hsp,_,hzs,hszl,hszs,hzc⟩:=pA hs
   obtain ⟨o,ho,l⟩:=hR.lies id k hk
   obtain ⟨xs,hrow,hx1,hrep⟩:=l.row
   have hlv:=l.ver
   cases hx
   rename_i hone hN hlh h
   have hw:PL o vx ver lo hi:=by
    rcases h o ho with h'|⟨_,h2⟩
    ·omega
    ·exact h2
   have hnone:lo=hi→(k.es.take lo++List.replicate (hi - lo) s.z++k.es.drop hi)=k.es:=fun e=>by subst e;simp
   have htup:RepV (cF M0 H σ) σ H.al w (.tuple #[]) (.tup []):=.tup [] [] rfl (fun j u d hu hd=>by simp at hu)
   refine ⟨trivial,?_⟩
   have hstay:lo=hi→(Builtin.clear_ #[t] ty #[vx]).run P w=.ok (.tuple #[]) w→OpS P (Builtin.clear_ #[t] ty #[vx]) M0 H σ w (.tup []) (H.put id { k with es:=k.es.take lo++List.replicate (hi - lo) s.z++k.es.drop hi }):=fun e hrun=>by
    rw [hnone e,Rt hk]
    exact .pure hR hrun htup
   rcases hw with ⟨h2,rfl,h4⟩|⟨b,cap,h2,hcap,rfl⟩
   ·exact hstay (by omega) (by simp [Builtin.clear_,run_underlying hu])
   ·by_cases he:lo=hi
    ·refine hstay he ?_
     subst he
     simp [Builtin.clear_,run_underlying hu]
    ·have hcl:cap≠lo:=by omega
     rw [if_neg hcl]
     rcases hrow.2 with ⟨hnil,_⟩|⟨g,cap',cur,hval,hb0,hg,hnc,hcm,hcs,htake⟩
     ·rw [h2] at hnil;cases hnil
     ·rw [h2] at hval
      cases hval
      have hoe:o.esz=s.sz:=l.sz.trans hsz
      have hxl:xs.length=k.es.length * o.esz:=hrep.len.trans (j4 k.es l.esz)
      have hcur:k.es.length * o.esz≤cur.size:=by rw [hcs];exact eG _ hnc
      obtain ⟨hr,h1⟩:=n6 (M:=cF M0 H σ) (σ:=σ) (N:=H.al) (w:=w) z (hi - lo) (by omega) (by rw [← hzs];exact hzc)
      rw [← hzs] at hr
      have hml:(madeCells z.cells ((hi - lo) * z.cells.size)).toList.length=(hi - lo) * o.esz:=by simp [size_madeCells,hszs,hoe]
      have hms:(madeCells z.cells ((hi - lo) * z.cells.size)).size=(hi - lo) * o.esz:=by rw [← hml,eW]
      have hmul:lo * o.esz+(hi - lo) * o.esz=hi * o.esz:=by rw [← Nat.add_mul,show lo+(hi - lo)=hi by omega]
      have hhle:hi * o.esz≤k.es.length * o.esz:=eG _ (by omega)
      have hst:=run_storeCells_at (P:=P) b (lo * o.esz) k.ty (madeCells z.cells ((hi - lo) * z.cells.size)).toList 0 cur w hg (by rw [hml];omega) h1
      simp only [qW] at hst
      have hzero:∀ w,(zeroValue s.e).run P w=.ok z w:=fun w=>by simp [zeroValue,typeInfo,hti,hz]
      obtain ⟨q,hq⟩:∃ q,hi - lo=q+1:=⟨hi - lo - 1,by omega⟩
      have hrun:(Builtin.clear_ #[t] ty #[.slice (some ⟨b,lo * o.esz,none⟩) (hi - lo) (cap - lo)]).run P w=.ok (.tuple #[]) (w.setRow b (cur.toList.take (lo * o.esz)++(madeCells z.cells ((hi - lo) * z.cells.size)).toList++cur.toList.drop (lo * o.esz+(madeCells z.cells ((hi - lo) * z.cells.size)).toList.length)).toArray):=by
       rw [hq] at hst ⊢
       simp only [Builtin.clear_]
       simp [run_underlying hu,hzero]
       have hmz:Builtin.zeroCells z.cells (q+1)=madeCells z.cells ((q+1) * z.cells.size):=rfl
       rw [hmz]
       simp at hst
       simp [hst]
      have hes:=Nk (z:=s.z) hlh.1 (show hi≤k.es.length by omega)
      have hfl:=IF (z:=s.z) l.esz (by rw [hszl,hoe]) hlh.1 (show hi≤k.es.length by omega)
      have hrl:(List.replicate (hi - lo) s.z).flatten.length=(hi - lo) * o.esz:=by rw [kJ,hszl,hoe]
      have hp:=Rel.put hR hk hfz ho { k with es:=k.es.take lo++List.replicate (hi - lo) s.z++k.es.drop hi } o (w':=w.setRow b (cur.toList.take (lo * o.esz)++(madeCells z.cells ((hi - lo) * z.cells.size)).toList++cur.toList.drop (lo * o.esz+(madeCells z.cells ((hi - lo) * z.cells.size)).toList.length)).toArray)
       ⟨rfl,rfl,rfl,by simp,fun q _ hq=>setRow_other w b q _ (fun e=>hq (by rw [e];simp [Ow.block,h2,Value.ownBlock]))⟩ (fun b' hb'=>.inl hb') (.inl rfl) (by rw [hes];exact l.ver) l.ty l.sz
       (fun d hd=>by
        simp only [aY] at hd
        rcases hd with (hd|hd)|hd
        ·exact l.esz d (b9 hd)
        ·rw [jJ hd,hszl,hoe]
        ·exact l.esz d (eH hd))
       (xs.take (lo * o.esz)++(madeCells z.cells ((hi - lo) * z.cells.size)).toList++xs.drop (lo * o.esz+(madeCells z.cells ((hi - lo) * z.cells.size)).toList.length))
       ⟨by simp only [aV,cN,fK,hml,hes];omega,.inr ⟨b,cap,_,by rw [hes];simpa [hver] using h2,hb0,setRow_heap w b cur _ k.ty _ hg,by rw [hes];exact hnc,hcm,by simp only [lM,aV,cN,fK,hml,eW];omega,by
        simp only [hes]
        rw [← htake]
        apply fP
        intro j
        simp only [bM,gY,cN,bR,eW]
        by_cases hj:j<k.es.length * o.esz
        ·rw [if_pos hj]
         have m1:min (lo * o.esz) cur.size=lo * o.esz:=by omega
         have m2:min (lo * o.esz) (min (k.es.length * o.esz) cur.size)=lo * o.esz:=by omega
         rw [m1,m2]
         split
         ·first|rfl|rw [if_pos hj]
         ·split
          ·rfl
          ·first|rfl|rw [if_pos (by omega)]
        ·rw [if_neg hj]
         have m2:min (lo * o.esz) (min (k.es.length * o.esz) cur.size)=lo * o.esz:=by omega
         rw [m2,if_neg (by omega),if_neg (by omega),if_neg (by omega)]⟩⟩
       (fun u hu=>by
        simp only [aY] at hu
        rcases hu with (hu|hu)|hu
        ·exact hx1 u (b9 hu)
        ·exact h1 u hu
        ·exact hx1 u (eH hu))
       ⟨by simp only [hfl,aV,cN,fK,hml,hrl,hrep.len],fun j u d hu hd=>by
        simp only [hfl] at hd
        have hflen:k.es.flatten.length=xs.length:=hrep.len.symm
        simp only [gY,cN,bM,bR,hflen,hml,hrl] at hu hd
        have m1:min (lo * o.esz) xs.length=lo * o.esz:=by omega
        rw [m1] at hu hd
        split at hd
        ·rename_i hj1
         rw [if_pos hj1] at hu
         try rw [if_pos hj1] at hu
         try rw [if_pos hj1] at hd
         exact hrep.rep j u d hu hd
        ·rename_i hj1
         rw [if_neg hj1] at hu
         split at hd
         ·rename_i hj2
          rw [if_pos hj2] at hu
          exact hr.rep _ u d hu hd
         ·rename_i hj2
          rw [if_neg hj2] at hu
          exact hrep.rep _ u d hu hd⟩
      simp only [DW o id ho] at hp
      exact ⟨_,_,σ,hrun,hp.1,.tup [] [] rfl (fun j u d hu hd=>by simp at hu),hp.2.1,hp.2.2⟩
  ·exact hc.elim
 ·exact hc.elim
theorem J9 {t:TypeId}{vx vi:Value}{x i:D}(hR:Rel M0 H σ w)(hx:RepV (cF M0 H σ) σ H.al w vx x)(hi:RepV (cF M0 H σ) σ H.al w vi i)(hc:(qN P t x i H).cond) :
  (qN P t x i H).fact∧OpS P (Instr.index t vx vi) M0 H σ w (qN P t x i H).val (qN P t x i H).heap:=by
 unfold qN at *
 split at hc
 ·rename_i s kd n
  split at hc
  ·rename_i hu
   obtain ⟨h0,h1⟩:=hc
   cases hx;cases hi
   obtain ⟨q,rfl⟩:=dX h0
   have hq:q<s.size:=by omega
   have hq':q<s.data.size:=hq
   refine ⟨trivial,.pure hR (v:=.int .u8 ((s.data[q]'hq').toNat:Int)) ?_ ?_⟩
   ·have:s[q]?=some (s[q]'hq):=by simp [hq]
    simp [Instr.index,asIntOf,run_underlying hu,this]
    rfl
   ·have e:s.data[q]?=some (s.data[q]'hq'):=bB hq'
    simp only [Int.toNat_natCast,e,aD]
    exact .int _ _
  ·exact hc.elim
 ·rename_i cs kd n
  split at hc
  ·rename_i len sz len' e ha hu
   split at hc
   ·rename_i htk
    obtain ⟨⟨h0,h1⟩,h2,h3⟩:=hc
    cases hx;cases hi
    rename_i xs hx1 hl hr
    obtain ⟨q,rfl⟩:=dX h0
    simp only [Int.toNat_natCast] at h3 ⊢
    obtain ⟨e',ti,hu',hie,hisz⟩:=KH ha
    rw [hu] at hu'
    simp at hu'
    obtain ⟨rfl,rfl⟩:=hu'
    have hA:=OI (w:=w) htk
    have hq:q<xs.length:=by omega
    have hqn:q<len':=by omega
    refine ⟨trivial,.pure hR (v:=xs[q]) ?_ ?_⟩
    ·simp [Instr.index,asIntOf,run_underlying hu,hqn,sizeOf,typeInfo,hie,hisz,h2,part,hA,hq]
    ·rw [aA h3]
     exact hr q _ _ (aA hq) (aA h3)
   ·exact hc.elim
  ·exact hc.elim
 ·exact hc.elim
end
end Go.Abs
end
section
namespace Go.Abs
section
variable {P:Program} {M0:Nat→Prop} {H:AHeap} {σ:Nat→Option Ow} {w:World}
def PY (P:Program)(x:Sem Next)(M0:Nat→Prop)(H:AHeap)(σ:Nat→Option Ow)(w:World)(d:D)(H':AHeap):Prop :=
 ∃ v w' σ',(x.run P w=.ok (.value v) w'∨(x.run P w=.ok .skip w'∧v=undef))∧Rel M0 H' σ' w'∧RepV (cF M0 H' σ') σ' H'.al w' v d∧Stp σ w σ' w' ∧
  Keeps (cF M0 H σ) σ H.al w (cF M0 H' σ') σ' H'.al w'
theorem OpS.next {x:Sem Value}{d:D}{H':AHeap}(h:OpS P x M0 H σ w d H'):PY P (do Pure.pure (Next.value (← x))) M0 H σ w d H':=by
 obtain ⟨v,w',σ',hr,h2,h3,h4,h5⟩:=h
 exact ⟨v,w',σ',.inl (by simp [hr]),h2,h3,h4,h5⟩
theorem OpU.next {x:Sem Unit}{H':AHeap}(h:OpU P x M0 H σ w H'):PY P (do x;Pure.pure Next.skip) M0 H σ w .junk H':=by
 obtain ⟨w',σ',hr,h2,h4,h5⟩:=h
 exact ⟨undef,w',σ',.inr ⟨by simp [hr],rfl⟩,h2,.junk _,h4,h5⟩
def EnvR (M:Nat→Prop)(σ:Nat→Option Ow)(N:Nat→Prop)(w:World)(ρ:Operand→Value)(e:Nat→D):Prop :=
 (∀ t,RepV M σ N w (ρ (.tmp t)) (e t))∧(∀ v,ρ (.const v)=v)∧∀ f,ρ (.func f)=.func (.func f) #[] #[]
theorem EnvR.ev {M:Nat→Prop}{N:Nat→Prop}{ρ:Operand→Value}{e:Nat→D}(h:EnvR M σ N w ρ e)(x:Operand):RepV M σ N w (ρ x) (eB e x):=by
 cases x with
 | tmp t=>exact h.1 t
 | const v=>rw [h.2.1];exact EJ v
 | func f=>rw [h.2.2];exact .fn f [] [] rfl (fun j u d hu=>by simp at hu)
 | global g=>exact .junk _
theorem EnvR.parts {M:Nat→Prop}{N:Nat→Prop}{ρ:Operand→Value}{e:Nat→D}(h:EnvR M σ N w ρ e)(ps:List (Nat × Operand)) :
  Parts M σ N w (ps.map fun p=>(p.1,ρ p.2)) (ps.map fun p=>(p.1,eB e p.2)):=by
 refine ⟨by simp [Function.comp_def],fun j v d hv hd=>?_⟩
 simp only [List.map_map,aR,bD] at hv hd
 obtain ⟨p,hp,rfl⟩:=hv
 obtain ⟨q,hq,rfl⟩:=hd
 rw [hp] at hq;cases hq
 exact h.ev p.2
theorem Ob (hR:Rel M0 H σ w)(id:Nat):Rel M0 (H.frz id) σ w∧Keeps (cF M0 H σ) σ H.al w (cF M0 (H.frz id) σ) σ (H.frz id).al w∧(H.frz id).al=H.al ∧
  ∀ i,((H.frz id).get i).map (·.es)=(H.get i).map (·.es)∧(∀ k,H.get i=some k→k.fz=true∨i=id→∃ k',(H.frz id).get i=some k'∧k'.fz=true∧k'.es=k.es):=by
 unfold AHeap.frz
 cases hk:H.get id with
 | none =>
  refine ⟨hR,.refl _ _ _ _,rfl,fun i=>⟨rfl,fun k hik h=>?_⟩⟩
  rcases h with h|rfl
  ·exact ⟨k,hik,h,rfl⟩
  ·rw [hk] at hik;cases hik
 | some k =>
  simp only
  have hget:∀ i,((H.put id { k with fz:=true }).get i).map (·.es)=(H.get i).map (·.es)∧(∀ k0,H.get i=some k0→k0.fz=true∨i=id→∃ k',(H.put id { k with fz:=true }).get i=some k'∧k'.fz=true∧k'.es=k0.es):=by
   intro i
   by_cases hi:i=id
   ·subst hi
    refine ⟨by simp [AHeap.put,hk],fun k0 h0 _=>⟨{ k with fz:=true },by simp [AHeap.put],rfl,?_⟩⟩
    rw [hk] at h0;cases h0;rfl
   ·refine ⟨by simp [AHeap.put,hi],fun k0 h0 h=>?_⟩
    rcases h with h|h
    ·exact ⟨k0,by simp [AHeap.put,hi,h0],h,rfl⟩
    ·exact absurd h hi
  by_cases hf:k.fz=false
  ·obtain ⟨o,ho,l⟩:=hR.lies id k hk
   obtain ⟨xs,hrow,h1,hrep⟩:=l.row
   have hp:=Rel.put hR (w':=w) hk hf ho { k with fz:=true } o ⟨rfl,rfl,rfl,bC _,fun _ _ _=>rfl⟩ (fun b hb=>.inl hb) (.inl rfl) l.ver l.ty l.sz l.esz xs hrow h1 hrep
   simp only [DW o id ho] at hp
   exact ⟨hp.1,hp.2.2,rfl,hget⟩
  ·have hH:H.put id { k with fz:=true } = H:=by
    have hf':k.fz=true:=by simpa using hf
    have hk':({ k with fz:=true }:Blk)=k:=by cases k;simp at hf';subst hf';rfl
    obtain ⟨n,al,g⟩:=H
    simp only [AHeap.put,hk',AHeap.mk.injEq,true_and]
    funext i
    by_cases hi:i=id
    ·simp only at hk;simp [hi,hk]
    ·simp [hi]
   rw [hH] at hget ⊢
   exact ⟨hR,.refl _ _ _ _,rfl,hget⟩
theorem fF (ids : List Nat) : ∀ {H : AHeap}, Rel M0 H σ w → Rel M0 (eV ids H) σ w ∧ Keeps (cF M0 H σ) σ H.al w (cF M0 (eV ids H) σ) σ (eV ids H).al w ∧ (eV ids H).al = H.al ∧
    ∀ i, ((eV ids H).get i).map (·.es) = (H.get i).map (·.es) ∧ (∀ k, H.get i = some k → k.fz = true ∨ i ∈ ids → ∃ k', (eV ids H).get i = some k' ∧ k'.fz = true ∧ k'.es = k.es) := by
  induction ids with
  | nil => intro H hR; exact ⟨hR, .refl _ _ _ _, rfl, fun i => ⟨rfl, fun k hk h => ⟨k, hk, by simpa using h, rfl⟩⟩⟩
  | cons id ids ih =>
    intro H hR
    obtain ⟨h1, h2, h3, h4⟩ := Ob hR id
    obtain ⟨g1, g2, g3, g4⟩ := ih h1
    refine ⟨g1, h2.trans g2, g3.trans h3, fun i => ⟨(g4 i).1.trans (h4 i).1, fun k hk h => ?_⟩⟩
    rcases h with h | h
    · obtain ⟨k1, a1, a2, a3⟩ := (h4 i).2 k hk (.inl h)
      obtain ⟨k2, b1, b2, b3⟩ := (g4 i).2 k1 a1 (.inl a2)
      exact ⟨k2, b1, b2, b3.trans a3⟩
    · rcases aT.1 h with rfl | h
      · obtain ⟨k1, a1, a2, a3⟩ := (h4 i).2 k hk (.inr rfl)
        obtain ⟨k2, b1, b2, b3⟩ := (g4 i).2 k1 a1 (.inl a2)
        exact ⟨k2, b1, b2, b3.trans a3⟩
      · have he := (h4 i).1
        rw [hk] at he
        cases hk1 : (H.frz id).get i with
        | none => rw [hk1] at he; cases he
        | some k1 =>
          rw [hk1] at he
          obtain ⟨k2, b1, b2, b3⟩ := (g4 i).2 k1 hk1 (.inr h)
          refine ⟨k2, b1, b2, b3.trans ?_⟩
          simpa using he
theorem Eu {v:Value}{id n:Nat}{k:Blk}(hR:Rel M0 H σ w)(hx:RepV (cF M0 H σ) σ H.al w v (.own id n))(hk:H.get id=some k)(hf:k.fz=true)(hn:k.es.length=n) :
  RepV (cF M0 H σ) σ H.al w v (.list k.es):=by
 obtain ⟨o,ho,l⟩:=hR.lies id k hk
 obtain ⟨xs,hrow,hx1,hrep⟩:=l.row
 cases hx
 rename_i h1 hN h
 rcases h o ho with h'|⟨h2,rfl⟩
 ·have:=l.ver;omega
 ·rcases hrow.2 with ⟨hnil,h0⟩|⟨g,cap,cur,hval,_,_,hnc,hcm,_⟩
  ·rw [hnil,bF h0];exact .listN
  ·have hob:o.block=some g:=by simp [Ow.block,hval,Value.ownBlock]
   rw [hval]
   refine .list ⟨g,0,none⟩ cap o.esz xs k.es hnc hcm l.esz hrep.len hx1 (fun j u hu=>⟨?_,hrow.cells (g:=g) (by simpa [Ow.block] using hob) j u hu⟩) hrep.rep
   rintro (hm|⟨i,k',o',hk',hf',ho',hb'⟩)
   ·exact (hR.lt id o g ho hob).2 hm
   ·have hi:=hR.inj i id o' o g ho' ho hb' hob
    subst hi
    rw [hk] at hk';cases hk'
    rw [hf] at hf';cases hf'
theorem J3 {M:Nat→Prop}{N:Nat→Prop}{ad:Addr}{cap sz:Nat}{es:List (List D)}{lo hi:Nat}(h:RepV M σ N w (.slice (some ad) es.length cap) (.list es))(hsz:∀ c∈es,c.length=sz)(hlh:lo≤hi)(hh:hi≤es.length) :
  RepV M σ N w (.slice (some (if cap=lo then ad else ad.add (lo * sz))) (hi - lo) (cap - lo)) (.list ((es.take hi).drop lo)):=by
 rcases qA h with ⟨h1,_⟩|⟨ad',cap',sz',xs,he,hrep,hx1,hcell,hle,hm,hszs⟩
 ·cases h1
 ·cases he
  have hlen:((es.take hi).drop lo).length=hi - lo:=by simp;omega
  have hmem:∀ c∈(es.take hi).drop lo,c.length=sz:=fun c hc=>hsz c (b9 (eH hc))
  have hflat:((es.take hi).drop lo).flatten=(es.flatten.take (hi * sz)).drop (lo * sz):=by
   rw [pD _ lo (fun c hc=>hsz c (b9 hc)),pC _ hi hsz]
  by_cases hcp:cap=lo
  ·have hba:hi=lo:=by omega
   subst hba
   simp only [hcp,if_true]
   have hnil:(es.take hi).drop hi=[]:=fX (by simp;omega)
   rw [hnil]
   have:=RepV.list (M:=M) (σ:=σ) (N:=N) (w:=w) ad (hi - hi) 0 [] [] (by simp) (by simp) (by simp) rfl (by simp) (fun j u hu=>by simp at hu) (fun j u d hu=>by simp at hu)
   simpa using this
  ·rw [if_neg hcp]
   have hv:=RepV.list (M:=M) (σ:=σ) (N:=N) (w:=w) (ad.add (lo * sz)) (cap - lo) sz ((xs.take (hi * sz)).drop (lo * sz)) ((es.take hi).drop lo) (by rw [hlen];omega) (by omega) hmem
    (by rw [hflat];simp [hrep.len]) (fun u hu=>hx1 u (b9 (eH hu))) (fun j u hu=>by
     rw [bR,bM] at hu
     split at hu
     ·obtain ⟨h5,h6⟩:=hcell _ u hu
      rw [gA,AO]
      exact ⟨h5,h6⟩
     ·cases hu) (fun j u d hu hd=>by
     rw [hflat,bR,bM] at hd
     rw [bR,bM] at hu
     split at hu
     ·rename_i hj;rw [if_pos hj] at hd;exact hrep.rep _ u d hu hd
     ·cases hu)
   rw [hlen] at hv
   exact hv
theorem LY {v:Value}{id n lo hi:Nat}{k:Blk}(hR:Rel M0 H σ w)(hx:RepV (cF M0 H σ) σ H.al w v (.win id n lo hi))(hk:H.get id=some k)(hf:k.fz=true)(hn:k.es.length=n) :
  RepV (cF M0 H σ) σ H.al w v (.list ((k.es.take hi).drop lo)):=by
 obtain ⟨o,ho,l⟩:=hR.lies id k hk
 have hver:=l.ver
 cases hx
 rename_i h1 hN hlh h
 have hw:PL o v n lo hi:=by
  rcases h o ho with h'|⟨_,h2⟩
  ·omega
  ·exact h2
 have hval:RepV (cF M0 H σ) σ H.al w o.val (.list k.es):=by
  refine Eu (n:=n) hR (.own o.val id n hN ?_ fun o' ho'=>?_) hk hf hn
  ·rcases hw with ⟨h2,_⟩|⟨b,cap,h2,_⟩<;>rw [h2]<;>rfl
  ·rw [ho] at ho';cases ho';exact .inr ⟨by omega,rfl⟩
 rcases hw with ⟨h2,h3,h4⟩|⟨b,cap,h2,hc,h3⟩
 ·subst h3 h4
  simpa using RepV.listN
 ·rw [h2,← hn] at hval
  have:=J3 hval (fun c hc=>l.esz c hc) hlh.1 (by omega)
  rw [h3]
  have e:(Addr.add ⟨b,0,none⟩ (lo * o.esz))=⟨b,lo * o.esz,none⟩:=by simp [iF]
  rw [e] at this
  exact this
theorem nJ {H H':AHeap}(h:∀ i,(H'.get i).map (·.es)=(H.get i).map (·.es))(d:D):eJ H' d=eJ H d:=by
 cases d<;>try rfl
 ·rename_i id n
  have:=h id
  simp only [eJ]
  cases h1:H.get id<;>cases h2:H'.get id<;>rw [h1,h2] at this<;>simp at this
  ·simp only [this]
 ·rename_i id n lo hi
  have:=h id
  simp only [eJ]
  cases h1:H.get id<;>cases h2:H'.get id<;>rw [h1,h2] at this<;>simp at this
  ·simp only [this]
theorem kS {v : Value} {d : D} (hR : Rel M0 H σ w) (hx : RepV (cF M0 H σ) σ H.al w v d) (hf : ∀ i ∈ jL d, ∀ k, H.get i = some k → k.fz = true) :
    RepV (cF M0 H σ) σ H.al w v (eJ H d) := by
  cases d <;> try exact hx
  · rename_i id n
    simp only [eJ]
    cases hk : H.get id with
    | none => exact hx
    | some k =>
      simp only
      split
      · rename_i hn
        exact Eu hR hx hk (hf id (by simp [jL]) k hk) hn
      · exact hx
  · rename_i id n lo hi
    simp only [eJ]
    cases hk : H.get id with
    | none => exact hx
    | some k =>
      simp only
      split
      · rename_i hn
        exact LY hR hx hk (hf id (by simp [jL]) k hk) hn
      · exact hx
theorem kQ {v : Value} {d : D} (hR : Rel M0 H σ w) (hx : RepV (cF M0 H σ) σ H.al w v d) (ids : List Nat) (hi : ∀ i ∈ dE d, i ∈ ids) :
    RepV (cF M0 (eV ids H) σ) σ (eV ids H).al w v (g6 H d) := by
  obtain ⟨h1, h2, h3, h4⟩ := fF ids hR
  have hx' := hx.keep h2
  have hfr : ∀ i ∈ ids, ∀ k, (eV ids H).get i = some k → k.fz = true := fun i hi k hk => by
    have he := (h4 i).1
    rw [hk] at he
    cases hk0 : H.get i with
    | none => rw [hk0] at he; cases he
    | some k0 =>
      obtain ⟨k', a1, a2, a3⟩ := (h4 i).2 k0 hk0 (.inr hi)
      rw [hk] at a1; cases a1; exact a2
  cases d with
  | agg cs =>
    cases hx'
    rename_i vs hv1 hl hr
    refine .agg vs _ (by simpa using hl) hv1 fun j u x hu hx => ?_
    rw [aR, bD] at hx
    obtain ⟨y, hy, rfl⟩ := hx
    rw [← nJ (fun i => (h4 i).1) y]
    refine kS h1 (hr j u y hu hy) fun i hii k hk => hfr i (hi i ?_) k hk
    simp only [dE, bT]
    exact ⟨y, aJ hy, hii⟩
  | _ =>
    simp only [g6]
    rw [← nJ (fun i => (h4 i).1)]
    exact kS h1 hx' fun i hii k hk => hfr i (hi i hii) k hk
theorem Mh {md:Nat→Bool}{v:Value}{d:D}(hR:Rel M0 H σ w)(hx:RepV (cF M0 H σ) σ H.al w v d)(ids:List Nat)(hi:∀ i∈Il md d,i∈ids) :
  RepV (cF M0 (eV ids H) σ) σ (eV ids H).al w v (Nf md H d):=by
 unfold Nf;unfold Il at hi
 split
 ·exact hx.keep (fF ids hR).2.1
 ·rename_i h;rw [if_neg h] at hi;exact kQ hR hx ids hi
theorem Ca {x:Operand}(h:iC x=true):x=.const (.slice none 0 0):=by
 unfold iC at h
 split at h
 ·rfl
 ·cases h
theorem D0 {nid : Nat} (hnid : ¬ H.al nid) {md : Nat → Bool} {e : Nat → D} {o : Oper} {ρ : Operand → Value} (hR : Rel M0 H σ w) (hE : EnvR (cF M0 H σ) σ H.al w ρ e) (hc : (CU P nid md e o H).cond) :
    (CU P nid md e o H).fact ∧ PY P (execOp ρ o) M0 H σ w (CU P nid md e o H).val (CU P nid md e o H).heap := by
  obtain ⟨dst, op, type, pos, after, guard⟩ := o
  unfold CU execOp at *
  simp only at hc ⊢
  cases op <;> try (exact hc.elim)
  case move x =>
    simp only at hc ⊢
    by_cases hn : iC x = true
    · rw [if_pos hn] at hc ⊢
      have hx := Ca hn; subst hx
      obtain ⟨h1, h2⟩ := Gx (P := P) hnid (x := (Pure.pure (ρ (.const (.slice none 0 0))) : Sem Value)) hR (by show Result.ok (ρ _) w = _; rw [hE.2.1]) hc
      obtain ⟨v, w', σ', hr, h3⟩ := h2
      have hr' : Result.ok (ρ (.const (.slice none 0 0))) w = Result.ok v w' := hr
      injection hr' with e1 e2
      subst e1; subst e2
      exact ⟨h1, _, _, σ', .inl rfl, h3⟩
    · rw [if_neg hn] at hc ⊢
      exact ⟨trivial, ρ x, w, σ, .inl rfl, hR, hE.ev x, .refl _ _, .refl _ _ _ _⟩
  case assign x =>
    simp only at hc ⊢
    by_cases hn : iC x = true
    · rw [if_pos hn] at hc ⊢
      have hx := Ca hn; subst hx
      obtain ⟨h1, h2⟩ := Gx (P := P) hnid (x := (Pure.pure (ρ (.const (.slice none 0 0))) : Sem Value)) hR (by show Result.ok (ρ _) w = _; rw [hE.2.1]) hc
      obtain ⟨v, w', σ', hr, h3⟩ := h2
      have hr' : Result.ok (ρ (.const (.slice none 0 0))) w = Result.ok v w' := hr
      injection hr' with e1 e2
      subst e1; subst e2
      exact ⟨h1, _, _, σ', .inl rfl, h3⟩
    · rw [if_neg hn] at hc ⊢
      exact ⟨trivial, ρ x, w, σ, .inl rfl, hR, hE.ev x, .refl _ _, .refl _ _ _ _⟩
  case pick c a b =>
    obtain ⟨h1, h2⟩ := LD hR (hE.ev c) (hE.ev a) (hE.ev b) hc
    exact ⟨h1, by simpa using h2.next⟩
  case alloc t =>
    obtain ⟨h1, h2⟩ := KJ (P := P) hnid hR hc
    exact ⟨h1, h2.next⟩
  case box t x =>
    obtain ⟨h1, h2⟩ := Oh (P := P) hnid hR (hE.ev x) hc
    exact ⟨h1, h2.next⟩
  case build t ps =>
    obtain ⟨h1, h2⟩ := KC (P := P) hR (hE.parts ps.toList) hc
    refine ⟨h1, ?_⟩
    have := h2.next
    rw [show (List.map (fun p => (p.1, ρ p.2)) ps.toList).toArray = ps.map (fun p => (p.1, ρ p.2)) by rw [← Array.toList_map]] at this
    exact this
  case buildSlice t n ps =>
    obtain ⟨f1, f2, f3, f4⟩ := fF (ps.toList.flatMap fun p => Il md (eB e p.2)) hR
    have hparts : Parts (cF M0 (eV (ps.toList.flatMap fun p => Il md (eB e p.2)) H) σ) σ (eV (ps.toList.flatMap fun p => Il md (eB e p.2)) H).al w
        (ps.toList.map fun p => (p.1, ρ p.2)) (ps.toList.map fun p => (p.1, Nf md H (eB e p.2))) := by
      refine ⟨by simp [Function.comp_def], fun j v d hv hd => ?_⟩
      simp only [List.map_map, aR, bD] at hv hd
      obtain ⟨p, hp, rfl⟩ := hv
      obtain ⟨q, hq, rfl⟩ := hd
      rw [hp] at hq; cases hq
      exact Mh hR (hE.ev p.2) _ fun i hi => bT.2 ⟨p, aJ hp, hi⟩
    obtain ⟨h1, h2⟩ := Bw (P := P) (by rw [f3]; exact hnid) f1 hparts hc
    refine ⟨h1, ?_⟩
    have := h2.next
    rw [show (List.map (fun p => (p.1, ρ p.2)) ps.toList).toArray = ps.map (fun p => (p.1, ρ p.2)) by rw [← Array.toList_map]] at this
    obtain ⟨v, w', σ', a1, a2, a3, a4, a5⟩ := this
    exact ⟨v, w', σ', a1, a2, a3, a4, f2.trans a5⟩
  case load t a =>
    obtain ⟨h1, h2⟩ := LN (P := P) hR (hE.ev a) hc
    exact ⟨h1, h2.next⟩
  case store t a v =>
    have key : ∀ (H1 : AHeap) (x1 v1 : D), Rel M0 H1 σ w → Keeps (cF M0 H σ) σ H.al w (cF M0 H1 σ) σ H1.al w → RepV (cF M0 H1 σ) σ H1.al w (ρ a) x1 → RepV (cF M0 H1 σ) σ H1.al w (ρ v) v1 →
        (kH P t x1 v1 H1).cond → (kH P t x1 v1 H1).fact ∧ PY P (do Instr.storeAt t (ρ a) (ρ v); Pure.pure Next.skip) M0 H σ w (kH P t x1 v1 H1).val (kH P t x1 v1 H1).heap := by
      intro H1 x1 v1 hR1 hK1 hx1 hv1 hc1
      have h2 := IT (P := P) hR1 hx1 hv1 hc1
      have hf : (kH P t x1 v1 H1).fact ∧ (kH P t x1 v1 H1).val = .junk := by
        simp only [kH] at hc1 ⊢
        split at hc1
        · split at hc1
          · split at hc1
            · exact ⟨trivial, rfl⟩
            · exact hc1.elim
          · exact hc1.elim
        · exact hc1.elim
      refine ⟨hf.1, ?_⟩
      rw [hf.2]
      obtain ⟨v', w', σ', a1, a2, a3, a4, a5⟩ := h2.next
      exact ⟨v', w', σ', a1, a2, a3, a4, hK1.trans a5⟩
    simp only at hc ⊢
    by_cases hm : md 1000000 = true
    · rw [if_pos hm] at hc ⊢
      obtain ⟨f1, f2, f3, f4⟩ := fF (dE (eB e v)) hR
      exact key _ _ _ f1 f2 ((hE.ev a).keep f2) (kQ hR (hE.ev v) _ fun i hi => hi) hc
    · rw [if_neg hm] at hc ⊢
      exact key H _ _ hR (.refl _ _ _ _) (hE.ev a) (hE.ev v) hc
  case nilCheck x =>
    obtain ⟨a, h1, h2, h3, h4⟩ := D3 hR (hE.ev x) hc
    refine ⟨h2, ρ x, w, σ, .inl ?_, by rw [h4]; exact hR, by rw [h4]; exact h3, .refl _ _, by rw [h4]; exact .refl _ _ _ _⟩
    simp [h1]
  case binOp op t x y t' =>
    obtain ⟨h1, h2⟩ := Oe (P := P) (t := t) (ox := x) (oy := y) hR (hE.ev x) (hE.ev y) hc
    exact ⟨h1, h2.next⟩
  case unOp op t x =>
    obtain ⟨h1, h2⟩ := OF (P := P) hR (hE.ev x) hc
    exact ⟨h1, h2.next⟩
  case convert s d x =>
    obtain ⟨h1, h2⟩ := FO (P := P) hR (hE.ev x) hc
    exact ⟨h1, h2.next⟩
  case makeFunc fn first caps =>
    cases fn <;> try (exact hc.elim)
    rename_i f
    simp only at hc ⊢
    by_cases hf : first.isEmpty = true
    · rw [if_pos hf]
      have : first = #[] := by simpa using hf
      subst this
      refine ⟨trivial, ⟨.func (.func f) #[] (caps.toList.map ρ).toArray, w, σ, .inl (by simp [Instr.makeFunc]; rw [← Array.toList_map]), hR, .fn f _ _ (by simp) (fun j u d hu hd => ?_), .refl _ _, .refl _ _ _ _⟩⟩
      simp only [aR, bD] at hu hd
      obtain ⟨p, hp, rfl⟩ := hu
      obtain ⟨q, hq, rfl⟩ := hd
      rw [hp] at hq; cases hq
      exact hE.ev p
    · rw [if_neg hf] at hc; exact hc.elim
  case makeSlice t l c =>
    obtain ⟨h1, h2⟩ := LL (P := P) hnid hR (hE.ev l) (hE.ev c) hc
    exact ⟨h1, h2.next⟩
  case slice t x lo hi mx =>
    cases mx with
    | some m => exact hc.elim
    | none =>
      obtain ⟨h1, h2⟩ := IW (P := P) (vlo := lo.map ρ) (vhi := hi.map ρ) hR (hE.ev x) (fun v d hv hd => by
        cases lo with
        | none => cases hv
        | some o => cases hv; cases hd; exact hE.ev o) (by cases lo <;> rfl) (fun v d hv hd => by
        cases hi with
        | none => cases hv
        | some o => cases hv; cases hd; exact hE.ev o) (by cases hi <;> rfl) hc
      exact ⟨h1, h2.next⟩
  case fieldAddr t x f =>
    obtain ⟨h1, h2⟩ := CL (P := P) hR (hE.ev x) hc
    exact ⟨h1, h2.next⟩
  case indexAddr t x i =>
    obtain ⟨h1, h2⟩ := CJ (P := P) hR (hE.ev x) (hE.ev i) hc
    exact ⟨h1, h2.next⟩
  case index t x i =>
    obtain ⟨h1, h2⟩ := J9 (P := P) hR (hE.ev x) (hE.ev i) hc
    exact ⟨h1, h2.next⟩
  case extract t i =>
    obtain ⟨h1, h2⟩ := FI (P := P) hR (hE.ev t) hc
    exact ⟨h1, h2.next⟩
  case call c =>
    obtain ⟨callee, args, ts⟩ := c
    cases callee <;> try (exact hc.elim)
    rename_i b
    obtain ⟨args⟩ := args
    obtain ⟨ts⟩ := ts
    simp only [List.map_toArray, resolve, invoke, PY, Sem.run_bind, Sem.run_pure, Result.andThen_ok] at hc ⊢
    unfold tF at *
    split at hc
    · rename_i xd td ht
      match args, ht with
      | [ox], ht =>
        cases ht
        obtain ⟨h1, h2⟩ := N2 (P := P) (ty := type) hR (hE.ev ox) hc
        exact ⟨h1, by simpa [PY, builtin] using h2.next⟩
    · rename_i xd yd td td' ht
      match args, ht with
      | [ox, oy], ht =>
        cases ht
        obtain ⟨h1, h2⟩ := FT (P := P) hnid (ty := type) hR (hE.ev ox) (hE.ev oy) hc
        exact ⟨h1, by simpa [PY, builtin] using h2.next⟩
    · rename_i xd td ht
      match args, ht with
      | [ox], ht =>
        cases ht
        obtain ⟨h1, h2⟩ := Kz (P := P) (ty := type) hR (hE.ev ox) hc
        exact ⟨h1, by simpa [PY, builtin] using h2.next⟩
    · rename_i x y hx
      match args, hx with
      | [ox, oy], hx =>
        cases hx
        obtain ⟨h1, h2⟩ := GD (P := P) (b := .min) (mx := false) (t := type)  rfl hR (hE.ev ox) (hE.ev oy) hc
        exact ⟨h1, by simpa [PY, builtin] using h2.next⟩
    · rename_i x y hx
      match args, hx with
      | [ox, oy], hx =>
        cases hx
        obtain ⟨h1, h2⟩ := GD (P := P) (b := .max) (mx := true) (t := type)  rfl hR (hE.ev ox) (hE.ev oy) hc
        exact ⟨h1, by simpa [PY, builtin] using h2.next⟩
    · exact hc.elim
end
end Go.Abs
end
section
namespace Go.Abs
def Rg (P:Program)(f:FuncId):Prop:=∃ fn,P.funcs[f]?=some fn∧(fn.name=="runtime.NumGoroutine")=false∧fn.body.isSome=true
def ACalls (P:Program)(f:FuncId)(args:List D)(H:AHeap)(Q:D→AHeap→Prop):Prop :=
 Rg P f∧∀ (M0:Nat→Prop) (σ:Nat→Option Ow) (w:World) (vals:List Value),Rel M0 H σ w→RepL (cF M0 H σ) σ H.al w vals args →
  Calls P f vals.toArray w fun e w'=>∃ v d H' σ',e=.returned v∧Rel M0 H' σ' w'∧RepV (cF M0 H' σ') σ' H'.al w' v d∧Stp σ w σ' w' ∧
   Keeps (cF M0 H σ) σ H.al w (cF M0 H' σ') σ' H'.al w'∧Q d H'
theorem ACalls.mono {P:Program}{f:FuncId}{args:List D}{H:AHeap}{Q Q':D→AHeap→Prop}(h:ACalls P f args H Q)(hq:∀ d H',Q d H'→Q' d H'):ACalls P f args H Q' :=
 ⟨h.1,fun M0 σ w vals hR ha=>(h.2 M0 σ w vals hR ha).mono fun _ _ ⟨v,d,H',σ',a,b,c,s,k,q⟩=>⟨v,d,H',σ',a,b,c,s,k,hq _ _ q⟩⟩
def mJ (e:Nat→D)(dst:Option Tmp)(v:D):Nat→D :=
 match dst with
 | some d=>fun t=>if t=d then v else e t
 | none=>e
structure St (n:Nat) (M0:Nat→Prop) (H:AHeap) (σ:Nat→Option Ow) (w:World) (e:Nat→D) (a:Act):Prop where
 rel:Rel M0 H σ w
 env:∀ t,RepV (cF M0 H σ) σ H.al w (a.tmps.getD t undef) (e t)
 defers:a.defers=[]
 size:a.tmps.size=n
section
variable {P:Program} {M0:Nat→Prop} {H:AHeap} {σ:Nat→Option Ow} {w:World} {n:Nat} {e:Nat→D} {a:Act}
theorem St.envR (h:St n M0 H σ w e a):EnvR (cF M0 H σ) σ H.al w a.eval e:=⟨h.env,fun _=>rfl,fun _=>rfl⟩
def oP (n:Nat):Option Tmp→Bool
 | some d=>decide (d<n)
 | none=>true
theorem St.put {H':AHeap}{σ':Nat→Option Ow}{w':World}(h:St n M0 H σ w e a)(hR:Rel M0 H' σ' w')(hk:Keeps (cF M0 H σ) σ H.al w (cF M0 H' σ') σ' H'.al w')
  {dst:Option Tmp} (hd:oP n dst=true) {v:Value} {d:D} (hv:RepV (cF M0 H' σ') σ' H'.al w' v d):St n M0 H' σ' w' (mJ e dst d) (a.put dst v):=by
 cases dst with
 | none=>exact ⟨hR,fun t=>(h.env t).keep hk,h.defers,h.size⟩
 | some q =>
  have hq:q<a.tmps.size:=by rw [h.size];simpa [oP] using hd
  refine ⟨hR,fun t=>?_,h.defers,by simpa [Act.put] using h.size⟩
  by_cases ht:t=q
  ·subst ht
   simpa [mJ,Act.put,hq] using hv
  ·have ht':¬ q=t:=fun e=>ht e.symm
   have:=(h.env t).keep hk
   simpa [mJ,Act.put,ht,ht',Array.getElem?_setIfInBounds] using this
theorem BD {nid:Nat}{md:Nat→Bool}{e e':Nat→D}{o:Oper}(h:∀ x∈o.op.operands,eB e x=eB e' x):CU P nid md e o H=CU P nid md e' o H:=by
 obtain ⟨dst,op,type,pos,after,guard⟩:=o
 have hmap:∀ (l:List (Nat × Operand)),(∀ p∈l,eB e p.2=eB e' p.2)→(l.map fun p=>(p.1,eB e p.2))=l.map fun p=>(p.1,eB e' p.2):=fun l hl =>
  bU fun p hp=>by rw [hl p hp]
 unfold CU
 cases op<;>simp only [Op.operands] at h ⊢<;>first|rfl|skip
 case move x=>rw [h x (by simp)]
 case assign x=>rw [h x (by simp)]
 case pick c a b=>rw [h c (by simp),h a (by simp),h b (by simp)]
 case box t x=>rw [h x (by simp)]
 case build t ps =>
  rw [hmap ps.toList fun p hp=>h p.2 (by simpa using ⟨p.1,by simpa using hp⟩)]
 case buildSlice t n ps =>
  have hl:∀ p∈ps.toList,eB e p.2=eB e' p.2:=fun p hp=>h p.2 (by simpa using ⟨p.1,by simpa using hp⟩)
  have h1:(ps.toList.map fun p=>(p.1,Nf md H (eB e p.2)))=ps.toList.map fun p=>(p.1,Nf md H (eB e' p.2)):=bU fun p hp=>by rw [hl p hp]
  have h2:(ps.toList.flatMap fun p=>Il md (eB e p.2))=ps.toList.flatMap fun p=>Il md (eB e' p.2):=by
   rw [List.flatMap_def,List.flatMap_def,bU fun p hp=>by rw [hl p hp]]
  rw [h1,h2]
 case load t a=>rw [h a (by simp)]
 case store t a v=>rw [h a (by simp),h v (by simp)]
 case nilCheck x=>rw [h x (by simp)]
 case binOp op t x y t'=>rw [h x (by simp),h y (by simp)]
 case unOp op t x=>rw [h x (by simp)]
 case convert s d x=>rw [h x (by simp)]
 case makeFunc fn first caps =>
  cases fn<;>simp only
  have:caps.toList.map (eB e)=caps.toList.map (eB e'):=bU fun x hx=>h x (by simp;exact .inr (by simpa using hx))
  rw [this]
 case makeSlice t l c=>rw [h l (by simp),h c (by simp)]
 case slice t x lo hi mx =>
  cases mx<;>simp only
  rw [h x (by simp)]
  cases lo<;>cases hi<;>simp only [Option.map_none,eM]
  ·rename_i y;rw [h y (by simp)]
  ·rename_i y;rw [h y (by simp)]
  ·rename_i y z;rw [h y (by simp),h z (by simp)]
 case fieldAddr t x f=>rw [h x (by simp)]
 case indexAddr t x i=>rw [h x (by simp),h i (by simp)]
 case index t x i=>rw [h x (by simp),h i (by simp)]
 case extract t i=>rw [h t (by simp)]
 case call c =>
  obtain ⟨callee,args,ts⟩:=c
  cases callee<;>simp only
  have:args.toList.map (eB e)=args.toList.map (eB e'):=bU fun x hx=>h x (by simpa [Call.operands] using hx)
  rw [this]
theorem mX {e e':Nat→D}{o:Oper}(h:∀ x∈o.op.operands,eB e x=eB e' x):fU e o=fU e' o:=by
 obtain ⟨dst,op,type,pos,after,guard⟩:=o
 unfold fU
 cases op<;>simp only
 rename_i c
 obtain ⟨callee,args,ts⟩:=c
 cases callee<;>simp only
 rename_i f
 have hf:eB e f=eB e' f:=h f (by simp [Op.operands,Call.operands])
 have:args.toList.map (eB e)=args.toList.map (eB e'):=bU fun x hx=>h x (by simp [Op.operands,Call.operands];exact .inr (by simpa using hx))
 rw [hf,this]
/-! ### guards -/
def gD (ops:Array Oper)(e:Nat→D)(j:Nat):Option (Bool × Bool) :=
 match (ops[j]?).bind (·.dst) with
 | some t=>match e t with
  | .bool c=>some (true,c)
  | .opt g (.bool c)=>some (g,c)
  | _=>none
 | none=>none
def BL (e:Nat→D):Nat→D:=fun t=>match e t with | .opt _ d=>d|d=>d
def gE (e:Nat→D)(op:Op):Nat→D :=
 match op with
 | .pick (.tmp c) _ _=>fun t=>if t=c then BL e t else e t
 | .pick _ _ _=>e
 | _=>BL e
def gO (op:Op):List Operand :=
 match op with
 | .pick c _ _=>[c]
 | op=>op.operands.toList
theorem R4 {op:Op}{x:Operand}(h:x∈gO op):x∈op.operands:=by
 cases op<;>simp only [gO] at h<;>first|(simpa using h)|(simp only [bL] at h;subst h;simp [Op.operands])
def og (e:Nat→D):Operand→Bool
 | .tmp t=>match e t with
  | .opt g _=>g
  | _=>true
 | _=>true
def Ox (e:Nat→D):List Operand→Bool
 | []=>true
 | x :: l=>og e x&&Ox e l
theorem Qf {l:List Operand}(h:Ox e l=true):∀ x∈l,og e x=true:=by
 induction l with
 | nil=>simp
 | cons a l ih =>
  simp only [Ox,aM] at h
  intro x hx
  cases hx with
  | head=>exact h.1
  | tail _ hm=>exact ih h.2 x hm
theorem Hi (hS : St n M0 H σ w e a) {ops : Array Oper} {o : Oper} {j : Nat} {b g c : Bool} (hg : o.guard = some (j, b)) (h : gD ops e j = some (g, c)) :
    Region.wanted o (yielded ops a.tmps) = (g && (c == b)) := by
  unfold gD at h
  cases ht : (ops[j]?).bind (·.dst) with
  | none => simp [ht] at h
  | some t =>
    simp only [ht] at h
    have hget : a.tmps.getD t undef = (a.tmps[t]?).getD undef := by simp
    have henv := hS.env t
    rw [hget] at henv
    have key : ∀ b' : Bool, (a.tmps[t]?).getD undef = .bool b' → yielded ops a.tmps j = some b' := by
      intro b' hb
      cases hx : a.tmps[t]? with
      | none => rw [hx] at hb; simp [undef] at hb
      | some x => rw [hx] at hb; simp at hb; subst hb; simp [yielded, ht, hx]
    simp only [Region.wanted, hg]
    split at h
    · rename_i c' hc
      cases h
      rw [hc] at henv
      have hb : (a.tmps[t]?).getD undef = .bool c := by generalize (a.tmps[t]?).getD undef = v at henv; cases henv; rfl
      rw [key c hb]
      cases c <;> cases b <;> rfl
    · rename_i g' c' hc
      cases h
      rw [hc] at henv
      generalize hv : (a.tmps[t]?).getD undef = v at henv
      cases henv
      rename_i hf ht'
      cases g with
      | true =>
        have := ht' rfl
        cases this
        rw [key c hv]
        cases c <;> cases b <;> rfl
      | false =>
        have hu := hf rfl
        have : yielded ops a.tmps j = none := by
          cases hx : a.tmps[t]? with
          | none => simp [yielded, ht, hx]
          | some x => rw [hx] at hv; simp at hv; rw [hu] at hv; subst hv; simp [yielded, ht, hx]
        rw [this]
        simp
    · cases h
/-! ### one operation -/
def fA (S:List Nat)(H' H:AHeap):Prop:=∀ i∈S,H'.get i=H.get i
def dG:D→List Nat
 | .own id _=>[id]
 | .win id _ _ _=>[id]
 | .ptr id _ _ _=>[id]
 | .agg cs=>cs.flatMap jL
 | _=>[]
def D6:Op→Bool
 | .alloc _ | .box .. | .buildSlice .. | .makeSlice ..=>true
 | .call { callee:=.builtin .append,.. }=>true
 | .move x | .assign x=>iC x
 | _=>false
def oN:Op→Bool
 | .load .. | .store .. | .nilCheck _ | .fieldAddr .. | .indexAddr .. | .slice .. | .alloc _ | .box .. | .buildSlice .. | .makeSlice ..=>true
 | .call _=>true
 | .move x | .assign x=>iC x
 | _=>false
def foot (nid:Nat)(e:Nat→D)(o:Op):List Nat :=
 (if D6 o then [nid] else [])++(if oN o then o.operands.toList.flatMap fun x=>dG (eB e x) else [])
def AHeap.pushs (H:AHeap):List (Nat × Blk)→AHeap
 | []=>H
 | p :: l=>AHeap.pushs (H.push p.1 p.2) l
def AHeap.puts (H:AHeap):List (Nat × Blk)→AHeap
 | []=>H
 | p :: l=>AHeap.puts (H.put p.1 p.2) l
def mZ (P : Program) (md : Nat → Bool) (dr : Option Nat) (nid : Nat) (ops : Array Oper) (e : Nat → D) (o : Oper) (H : AHeap) (K : D → AHeap → List Nat → Prop) : Prop :=
  match o.guard with
  | none => match fU e o with
    | some (f, args) =>
      match dr with
      | some m => (∃ r S, (∀ H', fA S H' H → ACalls P f args H' fun v H1 => v = r ∧ H1 = H') ∧ K r H S) ∨
          (Bh md o.dst = true ∧ ∃ r S u q, (∀ p ∈ u, p.1 ∈ S) ∧ (∀ p ∈ q, p.1 < m ∧ ¬ H.al p.1) ∧
            (∀ H', fA S H' H → (∀ p ∈ q, p.1 < H'.next ∧ ¬ H'.al p.1) → ACalls P f args H' fun v H1 => v = r ∧ H1 = (H'.puts u).pushs q) ∧ K r ((H.puts u).pushs q) (S ++ q.map (·.1)))
      | none => ACalls P f args H fun v H1 => K v H1 []
    | none => (CU P nid md e o H).cond ∧ ((dr = none → (CU P nid md e o H).fact) → K (CU P nid md e o H).val (CU P nid md e o H).heap (foot nid e o.op))
  | some (j, b) => match gD ops e j with
    | some (g, c) => ((g && (c == b)) = true → Ox e (gO o.op) = true) ∧
      match fU (gE e o.op) o with
      | some (f, args) =>
        match dr with
        | some _ => ∃ r S, ((g && (c == b)) = true → ∀ H', fA S H' H → ACalls P f args H' fun v H1 => v = r ∧ H1 = H') ∧ K (.opt (g && (c == b)) r) H S
        | none => (∃ r S, ((g && (c == b)) = true → ∀ H', fA S H' H → ACalls P f args H' fun v H1 => v = r ∧ H1 = H') ∧ K (.opt (g && (c == b)) r) H S) ∨
          (((g && (c == b)) = true → ACalls P f args H fun v H1 => K (.opt true v) H1 []) ∧ ((g && (c == b)) = false → ∃ r, K (.opt false r) H []))
      | none => ((g && (c == b)) = true → (CU P nid md (gE e o.op) o H).cond ∧ (CU P nid md (gE e o.op) o H).heap = H) ∧
          ((dr = none → (g && (c == b)) = true → (CU P nid md (gE e o.op) o H).fact) → K (.opt (g && (c == b)) (CU P nid md (gE e o.op) o H).val) H (foot nid (gE e o.op) o.op))
    | none => False
theorem zC {o:Oper}{f:FuncId}{args:List D}{ρ:Operand→Value}{e:Nat→D}(hE:∀ x∈o.op.operands,RepV (cF M0 H σ) σ H.al w (ρ x) (eB e x))(hc:fU e o=some (f,args))(he:Rg P f) :
  ∃ vals,(execOp ρ o).run P w=.ok (.enter f vals.toArray) w∧RepL (cF M0 H σ) σ H.al w vals args:=by
 obtain ⟨dst,op,type,pos,after,guard⟩:=o
 unfold fU at hc
 cases op<;>simp only at hc<;>try (cases hc;done)
 rename_i c
 obtain ⟨callee,az,ts⟩:=c
 cases callee<;>simp only at hc<;>try (cases hc;done)
 rename_i fo
 split at hc
 ·rename_i g caps hg
  simp at hc
  obtain ⟨rfl,rfl⟩:=hc
  have hfo:=hE fo (by simp [Op.operands,Call.operands])
  rw [hg] at hfo
  generalize hv:ρ fo=v at hfo
  cases hfo
  rename_i vs hl hr
  obtain ⟨fn,hfn,hnm,hb⟩:=he
  refine ⟨az.toList.map ρ++vs,?_,⟨by simp [hl],fun j u d hu hd=>?_⟩⟩
  ·have hb':fn.body.isNone=false:=by cases hh:fn.body<;>simp [hh] at hb ⊢
   have hprog:Sem.run P program w=.ok P w:=rfl
   simp only [execOp,resolve,hv,Deferred.ofValue,invoke,callFunc,Sem.run_bind,Sem.run_pure,Result.andThen_ok,hprog,hfn,hnm,hb',dY,if_false]
   congr 2
   apply Array.ext'
   simp
  ·by_cases hj:j<az.size
   ·rw [aS (by simpa using hj)] at hu hd
    simp only [aR,bD] at hu hd
    obtain ⟨p,hp,rfl⟩:=hu
    obtain ⟨q,hq,rfl⟩:=hd
    rw [hp] at hq;cases hq
    exact hE p (by simp [Op.operands,Call.operands];exact .inr (by simpa using aJ hp))
   ·rw [aZ (by simp;omega)] at hu hd
    simp only [bW,eW] at hu hd
    exact hr _ u d hu hd
 ·cases hc
def StepC (P:Program)(ops:Array Oper)(Q:Exit→Act→World→Prop)(o:Oper)(Kc:Act→World→Prop)(a:Act)(w:World):Prop :=
 if Region.wanted o (yielded ops a.tmps) then o.wp P a w Kc Q∨(o.asks P a w∧LetsOut Q) else Kc (a.put o.dst undef) w
theorem yN {o:Oper}{f:FuncId}{args:List D}{vals:List Value}{Kc:Act→World→Prop}{Q:Exit→Act→World→Prop}(hrun:(execOp a.eval o).run P w=.ok (.enter f vals.toArray) w)
  (h:Calls P f vals.toArray w fun e w'=>∃ v,e=.returned v∧Kc (a.put o.dst v) w'):o.wp P a w Kc Q:=by
 unfold Oper.wp
 rw [hrun,Oper.upon_enter]
 exact h.mono fun e w' ⟨v,he,hk⟩=>by subst he;exact hk
theorem wS {md : Nat → Bool} {dr : Option Nat} {nid : Nat} {ops : Array Oper} {o : Oper} {K : D → AHeap → List Nat → Prop} {Q : Exit → Act → World → Prop}
    (h : mZ P md dr nid ops e o H K) (hS : St n M0 H σ w e a) (hn : ¬ H.al nid) (hd : oP n o.dst = true) (hm : ∀ m, dr = some m → m ≤ H.next := by intro _ h; cases h) :
    StepC P ops Q o (fun a' w' => ∃ v H' F σ', K v H' F ∧ St n M0 H' σ' w' (mJ e o.dst v) a' ∧ Stp σ w σ' w' ∧ Keeps (cF M0 H σ) σ H.al w (cF M0 H' σ') σ' H'.al w') a w := by
  unfold mZ at h
  unfold StepC
  cases hg : o.guard with
  | none =>
    simp only [hg] at h
    have hw : Region.wanted o (yielded ops a.tmps) = true := by simp [Region.wanted, hg]
    rw [if_pos hw]
    left
    cases hc : fU e o with
    | none =>
      simp only [hc] at h
      obtain ⟨h1, v, w', σ', h2, h3, h4, h5, h6⟩ := D0 (P := P) hn hS.rel hS.envR h.1
      unfold Oper.wp
      rcases h2 with h2 | ⟨h2, rfl⟩
      · rw [h2, Oper.upon_value]
        exact ⟨_, _, _, σ', h.2 (fun _ => h1), hS.put h3 h6 hd h4, h5, h6⟩
      · rw [h2, Oper.upon_skip]
        exact ⟨_, _, _, σ', h.2 (fun _ => h1), hS.put h3 h6 hd h4, h5, h6⟩
    | some fa =>
      obtain ⟨f, args⟩ := fa
      simp only [hc] at h
      have hgen : ∀ Q' : D → AHeap → Prop, ACalls P f args H Q' → (∀ v H', Q' v H' → ∃ F, K v H' F) →
          o.wp P a w (fun a' w' => ∃ v H' F σ', K v H' F ∧ St n M0 H' σ' w' (mJ e o.dst v) a' ∧ Stp σ w σ' w' ∧ Keeps (cF M0 H σ) σ H.al w (cF M0 H' σ') σ' H'.al w') Q := by
        intro Q' hA hQ
        obtain ⟨vals, hrun, hrep⟩ := zC (P := P) (fun x _ => hS.envR.ev x) hc hA.1
        refine yN (args := args) hrun ((hA.2 M0 σ w vals hS.rel hrep).mono fun e' w' ⟨v, d, H', σ', he, hR', hv, hst, hk, hq⟩ => ?_)
        obtain ⟨F, hF⟩ := hQ _ _ hq
        exact ⟨v, he, d, H', F, σ', hF, hS.put hR' hk hd hv, hst, hk⟩
      cases dr with
      | none => exact hgen _ h fun v H' hk => ⟨[], hk⟩
      | some m =>
        rcases h with ⟨r, S, h1, h2⟩ | ⟨_, r, S, u, q, hu, hq, h1, h2⟩
        · exact hgen _ (h1 H fun _ _ => rfl) fun v H' ⟨e1, e2⟩ => ⟨S, by rw [e1, e2]; exact h2⟩
        · exact hgen _ (h1 H (fun _ _ => rfl) fun p hp => ⟨bQ (hq p hp).1 (hm m rfl), (hq p hp).2⟩) fun v H' ⟨e1, e2⟩ => ⟨S ++ q.map (·.1), by rw [e1, e2]; exact h2⟩
  | some jb =>
    obtain ⟨j, b⟩ := jb
    simp only [hg] at h
    cases hgd : gD ops e j with
    | none => simp [hgd] at h
    | some gc =>
      obtain ⟨g, c⟩ := gc
      simp only [hgd] at h
      have hw := Hi (n := n) hS hg hgd
      rw [hw]
      generalize hq : (g && (c == b)) = q at h
      obtain ⟨hog, h⟩ := h
      cases q with
      | false =>
        simp only [dY, if_false]
        have hput : ∀ d, St n M0 H σ w (mJ e o.dst (.opt false d)) (a.put o.dst undef) := fun d =>
          hS.put hS.rel (.refl _ _ _ _) hd (.opt _ _ _ (fun _ => rfl) (fun h => by cases h))
        cases hc : fU (gE e o.op) o with
        | none =>
          simp only [hc] at h
          exact ⟨_, H, _, σ, h.2 (fun _ h => by cases h), hput _, .refl _ _, .refl _ _ _ _⟩
        | some fa =>
          obtain ⟨f, args⟩ := fa
          simp only [hc] at h
          have h' : ∃ r S, K (.opt false r) H S := by
            cases dr with
            | some _ => obtain ⟨r, S, h1, h2⟩ := h; exact ⟨r, S, h2⟩
            | none =>
              rcases h with ⟨r, S, h1, h2⟩ | ⟨h1, h2⟩
              · exact ⟨r, S, h2⟩
              · obtain ⟨r, h2⟩ := h2 trivial; exact ⟨r, [], h2⟩
          obtain ⟨r, S, h2⟩ := h'
          exact ⟨_, H, S, σ, h2, hput _, .refl _ _, .refl _ _ _ _⟩
      | true =>
        simp only [if_true]
        left
        have hogm := Qf (hog rfl)
        have hS1 : ∀ t, og e (.tmp t) = true → RepV (cF M0 H σ) σ H.al w (a.eval (.tmp t)) (BL e t) := by
          intro t h2
          have h1 := hS.envR.ev (.tmp t)
          simp only [eB] at h1
          simp only [og] at h2
          simp only [BL]
          split
          · rename_i g' d' hd'
            rw [hd'] at h1 h2
            generalize a.eval (.tmp t) = v at h1
            cases h1
            rename_i _ h1
            exact h1 h2
          · exact h1
        have hE : ∀ x ∈ o.op.operands, RepV (cF M0 H σ) σ H.al w (a.eval x) (eB (gE e o.op) x) := by
          intro x hx
          have h0 := hS.envR.ev x
          cases x with
          | tmp t =>
            simp only [eB] at h0 ⊢
            by_cases hpk : ∃ c' x' y', o.op = .pick c' x' y'
            · obtain ⟨c', x', y', hop⟩ := hpk
              rw [hop]
              have hc' := hogm c' (by simp [gO, hop])
              cases c' with
              | tmp c' =>
                simp only [gE]
                split
                · rename_i hct; subst hct; exact hS1 _ hc'
                · exact h0
              | _ => exact h0
            · have h3 : gE e o.op = BL e ∧ gO o.op = o.op.operands.toList := by
                cases hop : o.op <;> first | exact ⟨rfl, rfl⟩ | exact absurd ⟨_, _, _, hop⟩ hpk
              rw [h3.1]
              exact hS1 t (hogm _ (by rw [h3.2]; simpa using hx))
          | _ => exact h0
        classical
        let e2 : Nat → D := fun t => if (Operand.tmp t) ∈ o.op.operands then gE e o.op t else .junk
        have hcong : ∀ x ∈ o.op.operands, eB (gE e o.op) x = eB e2 x := by
          intro x hx
          cases x with
          | tmp t => simp [eB, e2, hx]
          | _ => rfl
        have hS2 : EnvR (cF M0 H σ) σ H.al w a.eval e2 := by
          refine ⟨fun t => ?_, fun _ => rfl, fun _ => rfl⟩
          by_cases ht : (Operand.tmp t) ∈ o.op.operands
          · have := hE _ ht
            simp only [e2, if_pos ht]
            exact this
          · simp only [e2, if_neg ht]; exact .junk _
        cases hc : fU (gE e o.op) o with
        | none =>
          simp only [hc] at h
          obtain ⟨h1, h2⟩ := h
          obtain ⟨hcond, hheap⟩ := h1 trivial
          rw [BD hcong] at hcond hheap h2
          obtain ⟨h1, v, w', σ', hr, h3, h4, h5, h6⟩ := D0 (P := P) hn hS.rel hS2 hcond
          rw [hheap] at h3 h4 h6
          unfold Oper.wp
          rcases hr with hr | ⟨hr, rfl⟩
          · rw [hr, Oper.upon_value]
            exact ⟨_, _, _, σ', h2 fun _ _ => h1, hS.put h3 h6 hd (.opt _ _ _ (fun h => by cases h) fun _ => h4), h5, h6⟩
          · rw [hr, Oper.upon_skip]
            exact ⟨_, _, _, σ', h2 fun _ _ => h1, hS.put h3 h6 hd (.opt _ _ _ (fun h => by cases h) fun _ => h4), h5, h6⟩
        | some fa =>
          obtain ⟨f, args⟩ := fa
          simp only [hc] at h
          have h' : ACalls P f args H fun v H1 => ∃ S, K (.opt true v) H1 S := by
            have hl : (∃ r S, ((true : Bool) = true → ∀ H', fA S H' H → ACalls P f args H' fun v H1 => v = r ∧ H1 = H') ∧ K (.opt true r) H S) → ACalls P f args H fun v H1 => ∃ S, K (.opt true v) H1 S := by
              rintro ⟨r, S, h1, h2⟩
              exact (h1 rfl H fun _ _ => rfl).mono fun v H1 ⟨e1, e2⟩ => ⟨S, by rw [e1, e2]; exact h2⟩
            cases dr with
            | some _ => exact hl (by simpa using h)
            | none =>
              rcases h with h | ⟨h1, h2⟩
              · exact hl (by simpa using h)
              · exact ACalls.mono (by simpa using h1) fun v H1 hk => ⟨[], hk⟩
          obtain ⟨vals, hrun, hrep⟩ := zC (P := P) hE hc h'.1
          refine yN (args := args) hrun ((h'.2 M0 σ w vals hS.rel hrep).mono fun e' w' ⟨v, d, H', σ', he, hR', hv, hst, hk, S, h2⟩ => ?_)
          exact ⟨v, he, _, _, S, σ', h2, hS.put hR' hk hd (.opt _ _ _ (fun h => by cases h) fun _ => hv), hst, hk⟩
end
end Go.Abs
end
section
namespace Go.Abs
def Fd (sp:List (Nat × Nat))(i:Nat)(F:List Nat)(acc:List (Nat × List Nat)):Prop :=
 match sp with
 | []=>True
 | _=>∀ p∈acc,(p.1,i)∈sp→∀ x∈p.2,x∉F
def iX (P:Program)(md:Nat→Bool)(ops:Array Oper)(sp:List (Nat × Nat))(n0:Nat):Nat→List Oper→List (Nat × List Nat)→(Nat→D)→AHeap→((Nat→D)→AHeap→Prop)→Prop
 | _,[],_,e,H,K=>K e H
 | i,o :: rest,acc,e,H,K=>mZ P md (some n0) (n0+i) ops e o H fun v H' F=>Fd sp i F acc∧iX P md ops sp n0 (i+1) rest ((i,F) :: acc) (mJ e o.dst v) H' K
/-! ### which operations come ahead of which -/
def KF:List Oper→List Nat→List Nat
 | [],acc=>acc
 | o :: rest,acc=>KF rest (acc++[o.after.toList.foldl (fun s e=>if Region.binds .any e then s ||| 2 ^ e.on ||| acc.getD e.on 0 else s) 0])
def tH:Op→Bool
 | .store .. | .alloc _ | .box .. | .buildSlice .. | .makeSlice ..=>true
 | .call { callee:=.builtin .append,.. } | .call { callee:=.builtin .clear,.. }=>true
 | .move x | .assign x=>iC x
 | _=>false
def C2 (md:Nat→Bool)(o:Oper):Bool:=match o.op with
 | .call { callee:=.value _,.. }=>Bh md o.dst
 | _=>false
def lB (md:Nat→Bool)(o:Oper):Bool:=tH o.op||C2 md o
def Ik (ops:Array Oper)(x y:Oper):Bool:=!(x.apart ops y)
def ES (md:Nat→Bool)(x y:Oper):Bool:=oN x.op&&oN y.op&&(lB md x||lB md y)
def tK (md : Nat → Bool) (ops : Array Oper) (sp : List (Nat × Nat)) : Bool :=
  let b := KF ops.toList []
  (List.range ops.size).all fun j => match ops[j]? with
    | none => true
    | some y => (y.after.toList.all fun e => !Region.binds .any e || decide (e.on < j)) &&
      (match y.guard with | none => true | some (g, _) => decide (g < ops.size)) &&
      (List.range j).all fun i => match ops[i]? with
        | none => true
        | some x => (b.getD j 0).testBit i || (!Ik ops x y && (!ES md x y || sp.contains (i, j)))
def IA (ops:Array Oper)(S:Nat→Bool):Prop:=∀ j o,ops[j]?=some o→S j=true→∀ e∈o.after.toList,Region.binds .any e=true→S e.on=true
theorem GQ (S:Nat→Bool)(acc:List Nat)(hacc:∀ k i,S k=true→(acc.getD k 0).testBit i=true→S i=true) :
  ∀ (es:List Edge) (s:Nat),(∀ e∈es,Region.binds .any e=true→S e.on=true)→(∀ i,s.testBit i=true→S i=true) →
   ∀ i,(es.foldl (fun s e=>if Region.binds .any e then s ||| 2 ^ e.on ||| acc.getD e.on 0 else s) s).testBit i=true→S i=true
 | [],s,_,hs,i,h=>hs i h
 | e :: es,s,he,hs,i,h=>by
  simp only [List.foldl_cons] at h
  refine GQ S acc hacc es _ (fun e' h'=>he e' (by simp [h'])) (fun i hi=>?_) i h
  split at hi
  ·rename_i hb
   have hSe:=he e (by simp) hb
   rw [Nat.testBit_or,Nat.testBit_or,b7,b7] at hi
   rcases hi with (hi|hi)|hi
   ·exact hs i hi
   ·rw [Nat.testBit_two_pow] at hi
    have:e.on=i:=by simpa using hi
    rw [← this];exact hSe
   ·exact hacc e.on i hSe hi
  ·exact hs i hi
theorem G6 {ops : Array Oper} {S : Nat → Bool} (hD : IA ops S) : ∀ j i, S j = true → ((KF ops.toList []).getD j 0).testBit i = true → S i = true := by
  have key : ∀ (l : List Oper) (acc : List Nat), (∀ (k : Nat), (ops.toList.drop acc.length)[k]? = l[k]?) → (∀ k i, S k = true → (acc.getD k 0).testBit i = true → S i = true) →
      ∀ j i, S j = true → ((KF l acc).getD j 0).testBit i = true → S i = true := by
    intro l
    induction l with
    | nil => intro acc _ hacc j i hj hb; exact hacc j i hj hb
    | cons o l ih =>
      intro acc hl hacc j i hj hb
      simp only [KF] at hb
      refine ih _ (fun k => ?_) (fun k i hk hi => ?_) j i hj hb
      · have := hl (k + 1)
        simp only [bR, Fe, aV, eK, oB] at this ⊢
        rw [← this]; congr 1; omega
      · rw [List.getD_eq_getElem?_getD] at hi
        by_cases hlt : k < acc.length
        · rw [aS hlt, ← List.getD_eq_getElem?_getD] at hi
          exact hacc k i hk hi
        · by_cases heq : k = acc.length
          · subst heq
            rw [aZ (bC _), u7] at hi
            simp only [jS, aD] at hi
            have ho := hl 0
            simp only [bR, qW, jS] at ho
            have ho' : ops[acc.length]? = some o := by simpa using ho
            exact GQ S acc hacc o.after.toList 0 (fun e he hb => hD _ o ho' hk e he hb) (fun i h => by simp at h) i hi
          · rw [aZ (by omega), bP (by simp; omega)] at hi
            simp at hi
  exact fun j i hj hb => key ops.toList [] (fun k => by simp) (fun k i hk hi => by simp at hi) j i hj hb
def fM (p:Nat→Bool):Nat→Option Nat
 | 0=>none
 | n+1=>if p n then some n else fM p n
theorem i7 {p q:Nat→Bool}:∀ (n:Nat),(∀ k,k<n→p k=q k)→fM p n=fM q n
 | 0,_=>rfl
 | n+1,h=>by simp only [fM,h n (by omega),i7 n (fun k hk=>h k (by omega))]
theorem yW {p:Nat→Bool}(m:Nat):∀ (n:Nat),m≤n→(∀ k,m≤k→k<n→p k=false)→fM p n=fM p m
 | 0,h,_=>by rw [Nat.le_zero.1 h]
 | n+1,h,hp=>by
  by_cases hm:m=n+1
  ·rw [hm]
  ·simp only [fM,hp n (by omega) (by omega),dY,if_false]
   exact yW m n (by omega) fun k h1 h2=>hp k h1 (by omega)
end Go.Abs
end
