/- slices.Collect of slices.Values at integers, in the world; s -/
import Derived.Test.YthalajhajpjjeaaGreatZeF
import Derived.Test.YthalajhajpjjeaaGreatZeQ
import Derived.Test.YthalajhajpjjeaaGreatZeR
import Derived.Test.YthalajhajpjjeaaGreatZeA
import Derived.RangeFuncBox
import Derived.RangeFuncLeaves
import Derived.Shelf.Abstract
import Derived.WalkKit
import Derived.OwnWalkIn
import Derived.TacticsInMore
import Derived.LoopNIn
import Derived.LoopIn
import Derived.Maps.AppendAt
import Derived.Shelf.Spec.SlicesInsert
import Derived.Lib.AppendZerosOnto
import Derived.Shelf.Bits.Mul64
import Derived.Deep.OwnRows
import Derived.Laws.NewBlocks
import Derived.Laws.CopyOwn
set_option linter.unusedVariables false
set_option linter.unusedSimpArgs false
section
set_option maxRecDepth 100000
set_option maxHeartbeats 4000000
namespace Go.Abs
open Go Go.Proofs Go.RowKit Go.Shelf
attribute [local go_sem] Oper.semAt_some
theorem Dr:(Tryz.prog.info? 3).map (fun i=>(i.zero,i.size,i.bytes))=some (some (.int .i64 0),1,8):=by kernel_rfl
theorem KV (F:Fence)(n:Nat)(h7:F.fn 436)(hro:F.round=none)(hn:1≤n)(l n₀:Nat)(a ad:Addr)(cap:Nat)(zs:List Int)(hreach:zs.length≤1000000)(hb:zs≠[]→ad.block<n₀)(J Jx:List Int→World→Prop)
  (hY:∀ pre x W,J pre W→pre.length<zs.length→YieldAt F (n - 1) Tryz.prog l #[.int .i64 x] W fun e W' =>
   (e=.returned (.bool true)∧J (pre++[x]) W'∧Below n₀ W W')∨(e=.returned (.bool false)∧Jx (pre++[x]) W'))
  (W:World) (hBs:W.cell? a=some (.slice (some ad) zs.length cap)) (hc:∀ j x,zs[j]?=some x→W.cell? (ad.add j)=some (.int .i64 x)) (h0:J [] W) :
  CallsIn F n Tryz.prog 436 #[.func (.yield l) #[] #[],.pointer (some a)] W fun e W'=>(∃ v,e=.returned v) ∧
   ((∃ ys,ys=zs∧J ys W')∨(∃ pre,True∧Jx pre W')):=by
 refine callsIn_of_wp Tryz.func436 rfl h7 ?_ hro
 simp only [Tryz.ntmps436,lM,eK,oB,Nat.reduceAdd,Nat.reduceSub,xS,xQ,C7,zG,eN,eL]
 gi_wp2
 gi_loopw [7] (fun i wr=>∃ k:Nat,k≤zs.length∧i=.int .i64 k∧J (zs.take k) wr∧Below n₀ W wr)
  (fun i _=>zs.length - (RowKit.intOf i).toNat)
 case atStart=>exact ⟨0,dF _,rfl,h0,Below.refl _ _⟩
 case round =>
  obtain ⟨k,hk,rfl,hJs,hnx⟩:=hrel
  by_cases hlt:k<zs.length
  ·have hcx':wr.cell? (ad.add k)=some (.int .i64 zs[k]):=(hnx.cell (p:=ad.add k) (by rw [gA];exact hb (fun e=>by rw [e] at hlt;cases hlt))).trans (hc k _ (aA hlt))
   obtain ⟨fn,tmps,assign,body,hy,hR⟩:=hY _ zs[k] wr hJs (by simp;omega)
   gi_wp2
   refine hR.mono ?_
   rintro e W3 (⟨rfl,hJ3,hk3⟩|⟨rfl,hJx3⟩)
   ·gi_wp2
    go_roundw
    case rel=>exact ⟨k+1,by omega,by simp,by rw [aE hlt];exact hJ3,hnx.trans hk3⟩
    case measure=>simp [RowKit.intOf];omega
   ·gi_wp2
    refine bodyPost_ret (results_none rfl _ _ _) rfl ?_
    exact ⟨⟨_,rfl⟩,.inr ⟨_,trivial,hJx3⟩⟩
  ·obtain rfl:k=zs.length:=by omega
   gi_wp2
   go_end0
   exact ⟨⟨_,rfl⟩,.inl ⟨_,rfl,by rw [List.take_length] at hJs;exact hJs⟩⟩
theorem Dc (F:Fence)(n:Nat)(h7:F.fn 436)(hro:F.round=none)(l:Nat)(a:Addr)(J:List Int→World→Prop)(W:World)(hBs:W.cell? a=some (.slice none 0 0))(h0:J [] W) :
  CallsIn F n Tryz.prog 436 #[.func (.yield l) #[] #[],.pointer (some a)] W fun e W'=>(∃ v,e=.returned v)∧J [] W':=by
 refine callsIn_of_wp Tryz.func436 rfl h7 ?_ hro
 simp only [Tryz.ntmps436,lM,eK,oB,Nat.reduceAdd,Nat.reduceSub,xS,xQ,C7,zG,eN,eL]
 gi_wp2
 gi_loopw [7] (fun i wr=>i=.int .i64 0∧J [] wr) (fun _ _=>0)
 case atStart=>exact ⟨rfl,h0⟩
 case round =>
  obtain ⟨rfl,hJs⟩:=hrel
  gi_wp2
  go_end0
  exact ⟨⟨_,rfl⟩,hJs⟩
def IntsB (n₀:Nat)(W:World)(sv:Value)(zs:List Int):Prop :=
 (sv=.slice none 0 0∧zs=[])∨∃ ad cap,sv=.slice (some ad) zs.length cap∧(zs≠[]→ad.block<n₀)∧∀ j x,zs[j]?=some x→W.cell? (ad.add j)=some (.int .i64 x)
theorem IntsB.below {n₀:Nat}{A B:World}(h:Below n₀ A B){sv:Value}{zs:List Int}:IntsB n₀ A sv zs→IntsB n₀ B sv zs
 | .inl e=>.inl e
 | .inr ⟨ad,cap,e,hb,hc⟩=>.inr ⟨ad,cap,e,hb,fun j x hj=>(h.cell (p:=ad.add j) (by rw [gA];exact hb (fun e=>by rw [e] at hj;cases hj))).trans (hc j x hj)⟩
theorem Hj (F:Fence)(n:Nat)(h7:F.fn 436)(hro:F.round=none)(hn:1≤n)(a:Addr)(n₀:Nat)(sv:Value)(zs:List Int)(hreach:zs.length≤1000000)(w:World)(hBs:a.block<w.heap.size)(hn₀:n₀≤w.heap.size)
  (hc:w.cell? a=some sv) (hI:IntsB n₀ w sv zs) :
  SeqStopsK F n Tryz.prog 436 #[.pointer (some a)] (fun x:Int=>#[Value.int .i64 x]) (Below n₀) (fun ys=>ys=zs) (fun _=>True) zs.length w:=fun l J Jx W hW _ _ hY h0=>by
 have hc':=(hW.cell (p:=a) hBs).trans hc
 rcases hI.below (hW.mono hn₀) with ⟨rfl,rfl⟩|⟨ad,cap,rfl,hb,hcs⟩
 ·exact (Dc F n h7 hro l a J W hc' h0).mono fun e W' ⟨he,hj⟩=>⟨he,.inl ⟨_,rfl,hj⟩⟩
 ·exact KV F n h7 hro hn l n₀ a ad cap zs hreach hb J Jx hY W hc' hcs h0
theorem Ip (F:Fence)(n:Nat)(h3:F.fn 456)(h5:F.fn 436)(hro:F.round=none)(hn:3≤n)(a:Addr)(sv:Value)(zs:List Int)(hlen:zs.length≤1000000)(w:World)
  (hBs:a.block<w.heap.size) (hc:w.cell? a=some sv) (hI:IntsB w.heap.size w sv zs) :
  CallsIn F n Tryz.prog 456 #[.slice none 0 0,.func (.func 436) #[] #[.pointer (some a)]] w fun e W'=>∃ v,e=.returned v∧W'.ownsRow w.heap.size 3 1 v zs.length (zs.map (Value.int .i64))∧Below w.heap.size w W':=by
 have h1:1≤n:=by omega
 obtain ⟨i0,hi,hz0,hz1,hz2⟩:=info_parts Dr
 refine callsIn_of_wp_marks Tryz.func456 rfl h3 ?_ hro
 simp only [Tryz.ntmps456,lM,eK,oB,Nat.reduceAdd,Nat.reduceSub,xS,xQ,C7,zG,eN,eL]
 gi_wp2
 have bO:=Boxed.new w 26 (.slice none 0 0)
 have hB0:Below w.heap.size w (w.alloc (.cells #[.slice none 0 0] 26)):=(Below.refl _ w).alloc (bC _) _
 refine wpIn_rangeFunc_ownG hro h1 (gf:=436) (lb:=#[.pointer (some a)]) rfl h5 (enters_of Tryz.func436 (by kernel_rfl) rfl)
  (Hj F (n - 1) h5 hro (by omega) a w.heap.size sv zs hlen _ (by simp;omega) (by simp) ((hB0.cell (p:=a) hBs).trans hc) (hI.below hB0)) belowK_t (belowK_b (by simp)) (Below.refl _ _) (fun _=>rfl)
  (fun pre W=>(∃ v,Boxed W w.heap.size 26 v∧W.ownsRow w.heap.size 3 1 v pre.length (pre.map (Value.int .i64))∧True)∧Below w.heap.size w W)
  (fun _ _ _=>False)
  (OwnFrom.and (Own.from (holdsRow_own w.heap.size w.heap.size 26 3 1 (fun pre=>pre.length) (fun pre:List Int=>pre.map (Value.int .i64)) (fun _ _=>True)) _) (ownFrom_below (bC _) (by simp)))
  (fun _ _ _ _ _ hs _ _=>hs)
  ⟨⟨_,bO,World.ownsRow_nil _ _ _ _,trivial⟩,hB0⟩
  (fun x=>{ tmps:=#[.slice none 0 0,.func (.func 436) #[] #[.pointer (some a)],.pointer (some ⟨w.heap.size,0,none⟩),undef,.slice none 0 0,.int .i64 x,.func (.func 436) #[] #[.pointer (some a)],.int .i64 x,undef,undef,undef,undef,undef],defers:=[] }) ?assign ?body ?done ?stop
 case assign =>
  intro l x W K hK
  gi_wp2
  exact hK
 case body =>
  rintro l pre x W ⟨⟨v,hv,hrow,_⟩,hB⟩ hlt
  have hc:=hv.cell
  gi_wp2_with (gi_at_builtin;refine wpListIn_append_own _ rfl _ _ 26 rfl w.heap.size 3 i0 (.int .i64 0) 1 8 Tryz.underlying26 hi hz0 hz1 hz2 rfl (by decide) _ _ _ rfl (hrow.alloc _) ⟨W.heap.size,0,none⟩ 1 1 [.int .i64 x] rfl rfl (cell_one_new _ _ _) (by simp [Value.oneCell']) (by simp only [maxLen];omega) (by omega) (by have:=hB.size;simp;omega) ?_;intro v' w1 hown' hgrow _;obtain ⟨g',cap',rfl⟩:=ownsRow_succ hown';obtain ⟨hv1,hv2,hr2,hk2,hb2⟩:=hv.appended (by decide) hrow hB.size (bC _) hown' hgrow;have hc1:=hv1.cell;have hf1:=hv1.frozen)
  exact ⟨hk2.from _,hb2,⟨_,hv2,by simpa using hr2,trivial⟩,hB.trans hb2⟩
 case done =>
  rintro D ys W hD rfl ⟨⟨v,hv,hrow,_⟩,hB⟩ hK
  have hc:=hv.cell
  gi_wp2
  refine ⟨by simp,.inl ⟨_,_,rfl,run_takeDeferred hK,?_⟩⟩
  exact ⟨_,results_tmp rfl _ _ _,v,rfl,ownsRow_putObj hrow _ hK rfl,hB.trans (belowK_b (w:=w) (bC _) W D _ _ (by simp at hD;omega) hK rfl rfl)⟩
 case stop =>
  rintro D c pre W _ _ h _
  exact h.elim
theorem L4 (F:Fence)(n:Nat)(h2:F.fn 435)(h3:F.fn 456)(h5:F.fn 436)(hro:F.round=none)(hn:4≤n)(a:Addr)(sv:Value)(zs:List Int)(hlen:zs.length≤1000000)(w:World)
  (hBs:a.block<w.heap.size) (hc:w.cell? a=some sv) (hI:IntsB w.heap.size w sv zs) :
  CallsIn F n Tryz.prog 435 #[.func (.func 436) #[] #[.pointer (some a)]] w fun e W'=>∃ v,e=.returned v∧W'.ownsRow w.heap.size 3 1 v zs.length (zs.map (Value.int .i64))∧Below w.heap.size w W':=by
 refine callsIn_of_wp Tryz.func435 rfl h2 ?_ hro
 simp only [Tryz.ntmps435,lM,eK,oB,Nat.reduceAdd,Nat.reduceSub,xS,xQ,C7,zG,eN,eL]
 gi_wp2_with (refine ⟨fun _=>by omega,(Ip F (n - 1) h3 h5 hro (by omega) a sv zs hlen _ hBs hc hI).mono ?_⟩;rintro e w' ⟨v,rfl,hrow,hb⟩)
 go_ret
 exact ⟨v,rfl,hrow,hb⟩
theorem Kr (l : List Int) (hl : l.length ≤ 1000000) : Own Tryz.prog 435 [.fn 436 [.adr [dLI l]]] 3 1 (l.map cI) := by
  refine ⟨⟨Tryz.f435, Tryz.func435, rfl, rfl⟩, fun M w vals hM ha => ?_⟩
  obtain ⟨hlen, hr⟩ := ha
  match vals, hlen with
  | [v], _ =>
    have h0 := hr 0 v _ rfl rfl
    obtain ⟨p, rfl, h1⟩ : ∃ p, v = .func (.func 436) #[] #[p] ∧ RepV M gS p7 w p (.adr [dLI l]) := by
      cases h0 with
      | fn _ vs _ hl hr => match vs, hl with
        | [p], _ => exact ⟨p, rfl, hr 0 p _ rfl rfl⟩
    obtain ⟨a, sv, rfl, hxc, hsv⟩ : ∃ a sv, p = .pointer (some a) ∧ (¬ M a.block ∧ w.cell? (a.add 0) = some sv) ∧ RepV M gS p7 w sv (dLI l) := by
      cases h1 with
      | adr a xs _ hl h1 hc hr => match xs, hl with
        | [sv], _ => exact ⟨a, sv, rfl, hc 0 sv rfl, hr 0 sv _ rfl rfl⟩
    have hca := hxc.2
    have hca0 : w.cell? a = some sv := by rw [show a.add 0 = a by unfold Addr.add; simp] at hca; exact hca
    have hab := World.block_lt_of_cell? w _ hca0
    have hI : IntsB w.heap.size w sv l := by
      unfold dLI at hsv
      rcases qA hsv with ⟨rfl, he⟩ | ⟨ad, cap, sz, xs, rfl, hrep, _, hcell, _, _, _⟩
      · exact .inl ⟨rfl, by simpa using he⟩
      · have hcl : ∀ j x, l[j]? = some x → w.cell? (ad.add j) = some (.int .i64 x) := fun j x hj => by
          have hlen2 := hrep.len
          rw [w9, bW] at hlen2
          have hjl : j < l.length := (aL.1 hj).1
          have hu : xs[j]? = some xs[j] := aA (by omega)
          have hd := hrep.rep j _ (D.int .i64 x) hu (by rw [w9, aR, hj]; rfl)
          generalize hq : xs[j] = q at hu hd
          cases hd
          exact (hcell j _ hu).2
        refine .inr ⟨ad, cap, by simp, fun hl0 => ?_, hcl⟩
        have hp : 0 < l.length := List.length_pos_iff.2 hl0
        have := World.block_lt_of_cell? w _ (hcl 0 _ (aA hp))
        rwa [gA] at this
    refine (CallsIn.calls (L4 Fence.wide 4 trivial trivial trivial rfl (bC _) a sv l hl w hab hca0 hI) (fun k => room_wide k)).mono fun e w' ⟨v, he, hrow, hb⟩ => ?_
    exact ⟨v, _, he, by simpa using hrow, fun u hu => by obtain ⟨x, _, rfl⟩ := bG.1 hu; rfl, wY l, n7 l, fun c hc => by obtain ⟨x, _, rfl⟩ := bG.1 hc; rfl, hb⟩
theorem IH (l:List Int):Pure Tryz.prog 383 [dLI l] (.fn 436 [.adr [dLI l]]):=by
 refine Tz.pK ⟨fun _=>false,fun _=>[]⟩ Tryz.func383 rfl (fun Q hQ=>?_)
 have Y:=trivial
 exact wv (h:=hQ _ _ wy)
theorem Le (l:List Int)(hl:l.length≤1000000):Own Tryz.prog 382 [.fn 436 [.adr [dLI l]]] 3 1 ((nI l).map cI):=by
 refine Tz.oK ⟨fun t=>t==5||t==3||t==2,fun _=>[]⟩ Tryz.func382 rfl (fun Q hQ=>?_)
 have Y:=trivial
 refine wv (h:=l4 (Kr l hl) wl ?_)
 refine wv (h:=?_)
 unfold fE;refine IV (ty:=3) (xs:=l) (by simp [go_sem]) hl ?_
 refine wv (h:=?_)
 exact hQ _ _ _ (by simp [go_sem,Y,kP]) (by simp [go_sem,Y,kP])
end Go.Abs
end
section
set_option maxRecDepth 100000
set_option maxHeartbeats 4000000
open Go Go.Proofs
namespace Go.Abs
theorem zS (l:List Int)(hl:l.length≤1000):Pure Tryz.prog 325 [dLI l] (.bool (decide (¬ l.Nodup))):=by
 have hlen:=kP l
 have hI:decide (imagesN l<l.length)=decide (¬ l.Nodup):=by
  have h1:=Ce l
  have h2:imagesN l≤l.length:=by unfold imagesN;have:=EL (nI l);omega
  rw [aQ];simp only [decide_eq_true_eq]
  constructor
  ·intro h hn;have:=h1.2 hn;omega
  ·intro hn;have:imagesN l≠l.length:=fun he=>hn (h1.1 he);omega
 unfold imagesN at hI
 refine Tz.pK ⟨fun _=>false,fun _=>[]⟩ Tryz.func325 rfl (fun Q hQ=>?_)
 have Y:=trivial
 refine wo (h:=aB (IH l) wl ?_)
 refine wo (h:=l4 (Le l (by omega)) wl ?_)
 refine wo (h:=?_)
 unfold fE;refine Ck (ty:=3) (xs:=nI l) (by simp [go_sem]) (by omega) fun k=>?_
 exact wo (h:=hQ _ _ (by simp [go_sem,hI]))
theorem LJ (t:Types)(p g:Graph)(m:Part)(inj:Bool):gX t p g m inj=if gX t p g m false≠0 then gX t p g m false else if inj=true∧(¬ m.nodes.Nodup∨¬ m.edges.Nodup) then 5 else 0:=by
 unfold gX
 split
 ·simp
 ·split
  ·simp_all
  ·split
   ·simp_all
   ·simp
theorem tO (t:Types)(ht:t.ok)(p g:Graph)(m:Part)(inj:Bool):Pure Tryz.prog 230 [t.d,p.d,g.d,m.d,.bool inj] (dI (eR t p g m inj)):=by
 refine Tz.pK ⟨fun _=>false,fun _=>[]⟩ Tryz.func230 rfl (fun Q hQ=>?_)
 have Y:=trivial
 refine wv (h:=aB (pB t ht p g) wl ?_)
 refine c4 (fun h2=>?_) fun h2=>?_
 ·have hC:eR t p g m inj=eP t p g:=by unfold eR;rw [if_pos (by simpa using h2)]
  exact wv (h:=hQ _ _ (by simp [go_sem,hC]))
 ·have hG:=l3 (by simpa using h2)
  have hv:=w8 (by simpa using h2)
  have hla:=bK hG.gp
  have hC:eR t p g m inj=gX t p g m inj:=by unfold eR;rw [if_neg (by simpa using h2)]
  rw [LJ] at hC
  refine wv (h:=aB (zT t ht p g hG hv m) wl ?_)
  refine c4 (fun h5=>?_) fun h5=>?_
  ·rw [if_pos (by simpa using h5)] at hC
   exact wv (h:=hQ _ _ (by simp [go_sem,hC]))
  ·rw [if_neg (by simpa using h5)] at hC
   have hML:=(w4 (show gX t p g m false=0 by simpa using h5)).1
   refine wo (h:=aG (fun hg=>zS m.nodes (by omega)) (fun hg=>wl) ?_)
   refine wo (h:=aG (fun hg=>zS m.edges (by omega)) (fun hg=>wl) ?_)
   refine eF (fun h7=>?_) fun h7=>?_
   ·rw [if_pos (by simpa using h7)] at hC
    exact wv (h:=hQ _ _ (by simp [go_sem,hC]))
   ·rw [if_neg (by simpa using h7)] at hC
    exact wv (h:=hQ _ _ (by simp [go_sem,hC]))
theorem uT (p:Pattern)(h:Host)(m:Part)(hO:SOk p h m):Pure Tryz.prog 178 [p.d,h.d,m.d] (.tup [dLI (d8 p h m []).1,dI (d8 p h m []).2]):=by
 have hv:=hO.vars
 have h0:=IU (vs:=[]) hv.1 (by simp) (by simp)
 rw [CZ] at h0
 refine Tz.pK ⟨fun t=>t==11||t==15,fun r=>match r with|1=>[(2,3),(2,4),(0,5),(1,5),(2,5)]|_=>[]⟩ Tryz.func178 rfl (fun Q hQ=>?_)
 have Y:=wa @Pattern.d.eq_1 (wa @Pattern.c.eq_1 (wa @Host.d.eq_1 (wa @Host.c.eq_1 (wa @Part.d.eq_1 (wa @Part.c.eq_1 @Term.c.eq_1)))))
 refine wv (h:=?_)
 repeat first|intro _|refine ⟨eZ,?_⟩
 refine bA (fun i e H=>∃ st:List Int × List Bool,(e 3=.adr p.c∧e 4=.adr h.c∧e 5=.adr m.c∧e 8=.own 2 p.vars.toNat∧e 9=.own 5 p.vars.toNat∧e 23=.list (p.slots.map Slot.c)∧e 24=dI p.slots.length∧e 25=dI i)∧(H.get 2=some ⟨3,1,st.1.map cI,false⟩)∧(2<H.next)∧(H.get 5=some ⟨4,1,st.2.map cB,false⟩)∧(5<H.next)∧(i≤p.slots.length)∧(StOk p.vars.toNat st)∧(g9 h m (Ho p []) (p.slots.take i)=some st)) (fun i=>p.slots.length - i) 0 ⟨((List.replicate p.vars.toNat 0,List.replicate p.vars.toNat false)),wg,(by (simp [go_sem,cI])),wn,(by (simp [go_sem,cB])),wn,wi,(by exact h0),(by (rw [CZ];rfl))⟩ fun I0 hI0 i e H hi0=>?_
 obtain ⟨st,E0,g2_0,n2_0,g5_0,n5_0,hi,hst,hsl⟩:=hi0
 have Y:=wa Y (wa E0 (wa g2_0 (wa (bZ n2_0) (wa g5_0 (bZ n5_0)))))
 refine c4 (fun h3=>?_) fun h3=>?_
 ·obtain ⟨x,hx⟩:∃ x,x=p.slots[i]:=⟨_,rfl⟩
  have hxm:x∈p.slots:=hx ▸ aC h3
  have hn:=hO.node x hxm
  have hn2:x.node.toNat<m.nodes.length:=by omega
  have hk:=hO.img _ (aC hn2)
  have hk2:(m.nodes[x.node.toNat]).toNat<h.values.length:=by omega
  have ha:=hO.attr x hxm
  rw [aA hn2,aD,aA hk2,aD] at ha
  have ha2:x.attr.toNat<(h.values[(m.nodes[x.node.toNat]).toNat]).length:=by omega
  have hV:jZ h m x=h.values[(m.nodes[x.node.toNat]).toNat][x.attr.toNat]:=by unfold jZ;rw [aA hn2,aD,aA hk2,aD,aA ha2];rfl
  have hb:=hO.have_ hxm
  have hT:=hO.term x hxm
  have hl1:=hst.l1
  have hl2:=hst.l2
  have hTv:=hT.1
  have hTa:=hT.2
  have hSt:=qZ h3 hsl
  rw [← hx] at hSt
  obtain ⟨s2,hs2e⟩:∃ y,y=j9 h m st x:=⟨_,rfl⟩
  have hs2:StOk p.vars.toNat s2:=hs2e ▸ vJ hst hb hT
  rw [← hs2e] at hSt
  have hs2n:¬ 0≤x.term.var→s2=st:=fun hn=>by rw [hs2e];unfold j9 jH;rw [if_neg (by simp [hn])]
  have vlt:0≤x.term.var→x.term.var.toNat<st.2.length:=fun hn=>by omega
  obtain ⟨kb,hkb⟩:∃ kb,kb=st.2[x.term.var.toNat]?.getD false:=⟨_,rfl⟩
  have hcase:0≤x.term.var∨(¬ 0≤x.term.var∧st.2[x.term.var.toNat]?=none)∨(¬ 0≤x.term.var∧st.2[x.term.var.toNat]?=some kb):=by
   by_cases hsp:0≤x.term.var
   ·exact .inl hsp
   ·right
    cases ho:st.2[x.term.var.toNat]? with
    | none=>exact .inl ⟨hsp,rfl⟩
    | some b=>rw [ho] at hkb;exact .inr ⟨hsp,by rw [hkb];rfl⟩
  rcases hcase with hc|hc|hc
  ·have Y:=wa Y (wa h3 (wa (aA h3) (wa (Eq.symm hx) (wa (aA hn2) (wa (aA hk2) (wa (aA ha2) (wa (Eq.symm hV) (wa @Slot.c.eq_1 (wa @cL.eq_1 (wa hl1 (wa hl2 (wa @i4 (wa @cB.eq_1 (wa hc ((aA (vlt hc)))))))))))))))))
   refine wv (h:=?_)
   repeat first|intro _|refine ⟨eZ,?_⟩
   refine wq (fun h7=>?_) fun h7=>?_
   ·have hF:jH st x=true:=by simp only [jH,aM,decide_eq_true_eq,cE];exact ⟨hc,by simpa [aA (vlt hc)] using h7⟩
    unfold j9 at hs2e
    rw [if_pos hF] at hs2e
    have hvl:x.term.var.toNat<st.1.length:=by omega
    have e1:s2.1.map cI=(st.1.map cI).set x.term.var.toNat (cI (jZ h m x - x.term.add)):=by rw [hs2e,c8]
    have e2:s2.2.map cB=(st.2.map cB).set x.term.var.toNat (cB true):=by rw [hs2e,c8]
    have ecl:D.clLL ((st.1.map cI).set x.term.var.toNat [D.int .i64 (jZ h m x - x.term.add)])=true:=by have:=n7 s2.1;rw [e1] at this;exact this
    have Y:=wa Y (wa e1 (wa e2 (wa @dLI.eq_1 (wa @cI.eq_1 (wa (aA hvl) ecl)))))
    refine wv (h:=?_)
    repeat first|intro _|refine ⟨eZ,?_⟩
    refine c9 (kA x.term s2.1 (by rw [hs2.l1];exact hT) hs2.big) wr wl rfl ?_
    refine wv (h:=?_)
    repeat first|intro _|refine ⟨eZ,?_⟩
    refine wq (fun h9=>?_) fun h9=>?_
    ·have hR:=dL (hSt.2 (by first|simpa using h9|simpa [hs2n hc.1] using h9|simpa [hs2e] using h9))
     exact wv (h:=hQ _ _ (by simp [go_sem,hR]))
    ·have hstep:=hSt.1 (by first|simpa using h9|simpa [hs2n hc.1] using h9|simpa [hs2e] using h9)
     refine wv (h:=?_)
     repeat first|intro _|refine ⟨eZ,?_⟩
     exact wx hI0 (i+1) ⟨s2,wg,(by (simp [go_sem,Y])),wn,(by (simp [go_sem,Y])),wn,wj,(by exact hs2),(by exact hstep)⟩
   ·have hF:¬ jH st x=true:=by simp only [jH,aM,decide_eq_true_eq,cE];rintro ⟨_,hk⟩;simp [aA (vlt hc)] at hk;simp [hk] at h7
    unfold j9 at hs2e
    rw [if_neg hF] at hs2e
    have Y:=wa Y hs2e
    refine wv (h:=c9 (kA x.term s2.1 (by rw [hs2.l1];exact hT) hs2.big) wr wl rfl ?_)
    refine c4 (fun h9=>?_) fun h9=>?_
    ·have hR:=dL (hSt.2 (by first|simpa using h9|simpa [hs2n hc.1] using h9|simpa [hs2e] using h9))
     exact wv (h:=hQ _ _ (by simp [go_sem,hR]))
    ·have hstep:=hSt.1 (by first|simpa using h9|simpa [hs2n hc.1] using h9|simpa [hs2e] using h9)
     refine wv (h:=?_)
     repeat first|intro _|refine ⟨eZ,?_⟩
     exact wx hI0 (i+1) ⟨s2,wg,(by (simp [go_sem,Y])),wn,(by (simp [go_sem,Y])),wn,wj,(by exact hs2),(by exact hstep)⟩
  ·have Y:=wa Y (wa h3 (wa (aA h3) (wa (Eq.symm hx) (wa (aA hn2) (wa (aA hk2) (wa (aA ha2) (wa (Eq.symm hV) (wa @Slot.c.eq_1 (wa @cL.eq_1 (wa hl1 (wa hl2 (wa @i4 (wa @cB.eq_1 (wa hc.1 (wa hc.2 (hs2n hc.1))))))))))))))))
   refine wv (h:=?_)
   repeat first|intro _|refine ⟨eZ,?_⟩
   refine c9 (kA x.term s2.1 (by rw [hs2.l1];exact hT) hs2.big) wr wl rfl ?_
   refine wv (h:=?_)
   repeat first|intro _|refine ⟨eZ,?_⟩
   refine wq (fun h9=>?_) fun h9=>?_
   ·have hR:=dL (hSt.2 (by first|simpa using h9|simpa [hs2n hc.1] using h9|simpa [hs2e] using h9))
    exact wv (h:=hQ _ _ (by simp [go_sem,hR]))
   ·have hstep:=hSt.1 (by first|simpa using h9|simpa [hs2n hc.1] using h9|simpa [hs2e] using h9)
    refine wv (h:=?_)
    repeat first|intro _|refine ⟨eZ,?_⟩
    exact wx hI0 (i+1) ⟨s2,wg,(by (simp [go_sem,Y])),wn,(by (simp [go_sem,Y])),wn,wj,(by exact hs2),(by exact hstep)⟩
  ·have Y:=wa Y (wa h3 (wa (aA h3) (wa (Eq.symm hx) (wa (aA hn2) (wa (aA hk2) (wa (aA ha2) (wa (Eq.symm hV) (wa @Slot.c.eq_1 (wa @cL.eq_1 (wa hl1 (wa hl2 (wa @i4 (wa @cB.eq_1 (wa hc.1 (wa hc.2 (hs2n hc.1))))))))))))))))
   refine wv (h:=?_)
   repeat first|intro _|refine ⟨eZ,?_⟩
   refine c9 (kA x.term s2.1 (by rw [hs2.l1];exact hT) hs2.big) wr wl rfl ?_
   refine wv (h:=?_)
   repeat first|intro _|refine ⟨eZ,?_⟩
   refine wq (fun h9=>?_) fun h9=>?_
   ·have hR:=dL (hSt.2 (by first|simpa using h9|simpa [hs2n hc.1] using h9|simpa [hs2e] using h9))
    exact wv (h:=hQ _ _ (by simp [go_sem,hR]))
   ·have hstep:=hSt.1 (by first|simpa using h9|simpa [hs2n hc.1] using h9|simpa [hs2e] using h9)
    refine wv (h:=?_)
    repeat first|intro _|refine ⟨eZ,?_⟩
    exact wx hI0 (i+1) ⟨s2,wg,(by (simp [go_sem,Y])),wn,(by (simp [go_sem,Y])),wn,wj,(by exact hs2),(by exact hstep)⟩
 ·rw [aH (by omega)] at hsl
  have hR0:=mI hsl
  have hl1:=hst.l1
  have Y:=wa Y hl1
  refine wv (h:=?_)
  repeat first|intro _|refine ⟨eZ,?_⟩
  refine bA (fun k e H=>(e 3=.adr p.c∧e 4=.adr h.c∧e 5=.adr m.c∧e 8=.own 2 p.vars.toNat∧e 74=.list (p.tests.map Test.c)∧e 75=dI p.tests.length∧e 76=dI k)∧(H.get 2=some ⟨3,1,st.1.map cI,false⟩)∧(2<H.next)∧(k≤p.tests.length)∧((p.tests.take k).all (fun x=>xK x st.1)=true)) (fun k=>p.tests.length - k) 0 ⟨wg,wn,wn,wi,(by rfl)⟩ fun I2 hI2 k e H hi2=>?_
  obtain ⟨E2,g2_2,n2_2,hk,hall⟩:=hi2
  have Y:=wa Y (wa E2 (wa g2_2 (bZ n2_2)))
  refine c4 (fun h13=>?_) fun h13=>?_
  ·have Y:=wa Y (wa h13 (wa (aA h13) @Test.c.eq_1))
   refine wv (h:=?_)
   repeat first|intro _|refine ⟨eZ,?_⟩
   refine c9 (tA p.tests[k] st.1 (by rw [hst.l1];exact hO.test _ (aC h13)) hst.big) wr wl rfl ?_
   refine wv (h:=?_)
   repeat first|intro _|refine ⟨eZ,?_⟩
   refine wq (fun h15=>?_) fun h15=>?_
   ·have hR:d8 p h m []=([],16):=by
     rw [hR0,if_neg]
     intro ha
     rw [bX] at ha
     have:=ha _ (aC h13)
     simp [this] at h15
    exact wv (h:=hQ _ _ (by simp [go_sem,hR]))
   ·refine wv (h:=?_)
    repeat first|intro _|refine ⟨eZ,?_⟩
    exact wx hI2 (k+1) ⟨wg,wn,wn,wj,(by (rw [aE h13,zI,hall];simp;simpa using h15))⟩
  ·rw [aH (by omega)] at hall
   rw [if_pos hall] at hR0
   exact wv (h:=hQ _ _ (by simp [go_sem,Y,hR0,dLI]))
theorem uU (t:Types)(ht:t.ok)(p:Pattern)(h:Host):Pure Tryz.prog 176 [t.d,p.d,h.d] (dI (r3 t p h)):=by
 refine Tz.pK ⟨fun _=>false,fun _=>[]⟩ Tryz.func176 rfl (fun Q hQ=>?_)
 have Y:=wa @Host.d.eq_1 @Host.c.eq_1
 refine wv (h:=aB (lS t ht p) wl ?_)
 refine c4 (fun h2=>?_) fun h2=>?_
 ·exact wv (h:=hQ _ _ (by simp [go_sem,r3,h2]))
 ·refine wv (h:=aB (y0 t ht h) wl ?_)
  exact wv (h:=hQ _ _ (by simp [go_sem,r3,h2,fW]))
theorem uV (t:Types)(ht:t.ok)(p:Pattern)(h:Host)(m:Part):Pure Tryz.prog 231 [t.d,p.d,h.d,m.d] (.tup [dLI (dD t p h m).1,dI (dD t p h m).2]):=by
 refine Tz.pK ⟨fun _=>false,fun _=>[]⟩ Tryz.func231 rfl (fun Q hQ=>?_)
 have Y:=wa @Pattern.d.eq_1 (wa @Pattern.c.eq_1 (wa @Host.d.eq_1 @Host.c.eq_1))
 refine wv (h:=aB (uU t ht p h) wl ?_)
 refine c4 (fun h2=>?_) fun h2=>?_
 ·have hS:dD t p h m=([],r3 t p h):=by
   unfold dD r3
   unfold r3 at h2
   by_cases hp:bV t p=0
   ·rw [if_neg (by omega)] at h2 ⊢
    rw [if_pos h2,if_neg (by omega)]
   ·rw [if_pos hp,if_pos hp]
  exact wv (h:=hQ _ _ (by simp [go_sem,hS]))
 ·have hp0:bV t p=0:=by
   unfold r3 at h2
   refine bE fun hp=>?_
   rw [if_pos hp] at h2;exact hp h2
  have hh0:fW t h=0:=by unfold r3 at h2;rw [if_neg (by omega)] at h2;exact h2
  refine wv (h:=aB (tO t ht p.graph h.graph m false) wl ?_)
  refine c4 (fun h5=>?_) fun h5=>?_
  ·have hS:dD t p h m=([],eR t p.graph h.graph m false):=by unfold dD;rw [if_neg (by omega),if_neg (by omega),if_pos h5]
   exact wv (h:=hQ _ _ (by simp [go_sem,hS]))
  ·have h5':eR t p.graph h.graph m false=0:=by omega
   have hS:dD t p h m=d8 p h m []:=by unfold dD;rw [if_neg (by omega),if_neg (by omega),if_neg (by omega)]
   refine wv (h:=aB (uT p h m (QM (Gn (.inr hp0)) (tZ hh0) (p9 (pR h5').2))) wl ?_)
   exact wv (h:=hQ _ _ (by simp [go_sem,hS]))
theorem AM (t:Types)(ht:t.ok)(p:Pattern)(h:Host)(inj:Bool):Pure Tryz.prog 79 [t.d,p.d,h.d,.bool inj] (.tup [.list ((g7 t p h inj).1.map Mat.c),dI (g7 t p h inj).2]):=by
 refine Tz.pK ⟨fun t=>t==13||t==15,fun _=>[]⟩ Tryz.func79 rfl (fun Q hQ=>?_)
 have Y:=wa @Pattern.d.eq_1 (wa @Pattern.c.eq_1 (wa @Host.d.eq_1 @Host.c.eq_1))
 refine wv (h:=aB (uU t ht p h) wl ?_)
 refine c4 (fun h2=>?_) fun h2=>?_
 ·have hS:g7 t p h inj=([],r3 t p h):=by
   unfold g7 r3
   unfold r3 at h2
   by_cases hp:bV t p=0
   ·rw [if_neg (by omega)] at h2 ⊢
    rw [if_pos h2,if_neg (by omega)]
   ·rw [if_pos hp,if_pos hp]
  exact wv (h:=hQ _ _ (by simp [go_sem,hS]))
 ·have hp0:bV t p=0:=by
   unfold r3 at h2
   refine bE fun hp=>?_
   rw [if_pos hp] at h2;exact hp h2
  have hh0:fW t h=0:=by unfold r3 at h2;rw [if_neg (by omega)] at h2;exact h2
  have hLm0:∀ x∈(oQ t p.graph h.graph inj).1,MOk t p.graph h.graph x:=fun x hx=>Om hx
  refine wv (h:=aB (Lf t ht p.graph h.graph inj) wl ?_)
  refine c4 (fun h5=>?_) fun h5=>?_
  ·have hS:g7 t p h inj=([],(oQ t p.graph h.graph inj).2):=by unfold g7;rw [if_neg (by omega),if_neg (by omega),if_pos h5]
   exact wv (h:=hQ _ _ (by simp [go_sem,hS]))
  ·have hS:g7 t p h inj=(sE p h [] (oQ t p.graph h.graph inj).1,0):=by unfold g7;rw [if_neg (by omega),if_neg (by omega),if_neg (by omega)]
   obtain ⟨L,hL⟩:∃ L,L=(oQ t p.graph h.graph inj).1:=⟨_,rfl⟩
   have hL5a:=KL t p.graph h.graph inj
   rw [← hL] at hS hLm0 hL5a
   have hLm:=hLm0
   have Y:=wa Y (Eq.symm hL)
   refine wp (h:=bA (fun i e H=>∃ ms:List Mat,(e 4=.adr t.c∧e 5=.adr p.c∧e 6=.adr h.c∧e 3=.bool inj∧e 38=.list (L.map Part.c)∧e 39=dI L.length∧e 13=.own 0 ms.length∧e 40=dI i)∧(H.get 0=some ⟨46,3,ms.map Mat.c,false⟩)∧(0<H.next)∧(i≤L.length)∧(ms=sE p h [] (L.take i))∧(ms.length≤i)∧(L.length≤5000)) (fun i=>L.length - i) 0 ⟨([]),wg,wn,wn,wi,(by rfl),(by (simp)),(by (exact hL5a))⟩ fun I0 hI0 i e H hi0=>?_)
   obtain ⟨ms,E0,g0_0,n0_0,hi,hms,hml,hL5⟩:=hi0
   have Y:=wa Y (wa E0 (wa g0_0 (bZ n0_0)))
   refine c4 (fun h9=>?_) fun h9=>?_
   ·obtain ⟨v,hv⟩:∃ v,v=d8 p h L[i] []:=⟨_,rfl⟩
    obtain ⟨ms2,hms2⟩:∃ y,y=ms++if v.2=0 then [(⟨L[i],v.1⟩:Mat)] else []:=⟨_,rfl⟩
    have Y:=wa Y (wa h9 (wa (aA h9) @Part.c.eq_1))
    refine wp (h:=aB ((by have hq:=uT p h L[i] (QM (Gn (.inr hp0)) (tZ hh0) (hLm _ (aC h9)));rw [← hv] at hq;unfold Pattern.d Pattern.c Host.d Host.c Part.d Part.c dLI dI at hq;exact hq)) wl ?_)
    refine tG (fun h12=>?_) fun h12=>?_
    ·have hm3:ms2=ms++[⟨L[i],v.1⟩]:=by rw [hms2,if_pos (by simpa using h12)]
     have Y:=wa Y (wa hm3 @Mat.c.eq_1)
     exact wp (h:=wx hI0 (i+1) ⟨ms2,wg,wn,wn,wj,(by (rw [aE h9,nH,← hms,← hv];exact hms2)),(by (rw [hms2];split<;>simp<;>omega)),(by exact hL5)⟩)
    ·have hm3:ms2=ms:=by rw [hms2,if_neg (by simpa using h12),dJ]
     have Y:=wa Y hm3
     exact wp (h:=wx hI0 (i+1) ⟨ms2,wg,wn,wn,wj,(by (rw [aE h9,nH,← hms,← hv];exact hms2)),(by (rw [hms2];split<;>simp<;>omega)),(by exact hL5)⟩)
   ·rw [aH (by omega)] at hms
    exact wv (h:=hQ _ _ (by simp [go_sem,Y,hS,← hms]))
end Go.Abs
end
section
set_option maxRecDepth 100000
set_option maxHeartbeats 4000000
open Go Go.Proofs Go.RowKit Go.Shelf Go.Lib
namespace Go.Abs
theorem NB (x y:Nat)(hx:x<18446744073709551616)(hy:y<18446744073709551616)(w:World) :
  Calls Tryz.prog 391 #[.int .u64 x,.int .u64 y] w fun e w'=>e=.returned (.tuple #[.int .u64 ((x * y / 18446744073709551616:Nat):Int),.int .u64 ((x * y % 18446744073709551616:Nat):Int)])∧w'=w:=by
 obtain ⟨bd,bt,bw,hhi⟩:=Lib.mul64_hi x y hx hy
 have ba:=Lib.half_mul_le (a:=x / 4294967296) (b:=y / 4294967296) (by omega) (by omega)
 have bb:=Lib.half_mul_le (a:=x / 4294967296) (b:=y % 4294967296) (by omega) (by omega)
 have bc:=Lib.half_mul_le (a:=x % 4294967296) (b:=y / 4294967296) (by omega) (by omega)
 have ba':x / 4294967296 * (y / 4294967296)<18446744073709551616:=by omega
 have bb':x / 4294967296 * (y % 4294967296)<18446744073709551616:=by omega
 have bc':x % 4294967296 * (y / 4294967296)<18446744073709551616:=by omega
 have bh1:x / 4294967296 * (y / 4294967296)+(x / 4294967296 * (y % 4294967296)+x % 4294967296 * (y % 4294967296) / 4294967296) / 4294967296<18446744073709551616:=by omega
 have bh:x / 4294967296 * (y / 4294967296)+(x / 4294967296 * (y % 4294967296)+x % 4294967296 * (y % 4294967296) / 4294967296) / 4294967296+((x / 4294967296 * (y % 4294967296)+x % 4294967296 * (y % 4294967296) / 4294967296) % 4294967296+x % 4294967296 * (y / 4294967296)) / 4294967296<18446744073709551616:=by omega
 go_enter Tryz.func391,Tryz.ntmps391
 go_wp2
 simp only [Mul64.maskN x hx,Mul64.maskN y hy,Mul64.divN,Mul64.mulN,Mul64.addN,Mul64.wrapN _ bd,Mul64.wrapN _ bb',Mul64.wrapN _ bt,Mul64.maskN _ bt,Mul64.wrapN _ bc',Mul64.wrapN _ bw,Mul64.wrapN _ ba',Mul64.wrapN _ bh1,Mul64.wrapN _ bh,Mul64.wrapM (x * y)]
 rw [hhi]
 go_ret2
 exact ⟨rfl,rfl⟩
theorem Qa (x y:Nat)(hx:x<18446744073709551616)(hy:y<18446744073709551616)(w:World) :
  Calls Tryz.prog 335 #[.int .u64 x,.int .u64 y] w fun e w'=>e=.returned (.tuple #[.int .u64 ((x * y / 18446744073709551616:Nat):Int),.int .u64 ((x * y % 18446744073709551616:Nat):Int)])∧w'=w:=by
 have c64:=NB x y hx hy w
 have e264:∀ args w,(callFunc 391 args).run Tryz.prog w=.ok (.enter 391 args) w:=enters_of Tryz.func391 (by kernel_rfl) rfl
 go_enter Tryz.func335,Tryz.ntmps335
 go_wp2_with (go_at_fn 391;refine c64.mono ?_;rintro e w' ⟨rfl,hw⟩;rw [hw])
 go_ret2
 exact ⟨rfl,rfl⟩
def lV (v:Int)(n k:Nat):List Value:=List.replicate k (.int .i64 v)++List.replicate (n - k) (.int .i64 0)
theorem Jd {v:Int}{n k m:Nat}(h:k+m≤n):(lV v n k).take k++List.replicate m (.int .i64 v)++(lV v n k).drop (k+m)=lV v n (k+m):=by
 unfold lV
 rw [List.take_left' (by simp),List.drop_append,u9,iL (by simp),eN,List.drop_replicate,← List.replicate_append_replicate]
 congr 2
 omega
theorem HF (v:Int)(n:Nat)(hn:n≤1000)(ad:Addr)(cap:Nat)(w:World)(hc:w.cell? ad=some (.int .i64 v)) :
  Calls Tryz.prog 242 #[.slice (some ad) 1 cap,.int .i64 n] w fun e w'=>∃ v',e=.returned v'∧w'.ownsRow w.heap.size 3 1 v' n (List.replicate n (.int .i64 v))∧Below w.heap.size w w':=by
 have hsz:(Tryz.prog.info? 3).map (·.size)=some 1:=by kernel_rfl
 have cM:=fun w=>Qa 1 n (by omega) (by omega) w
 have e1:∀ args w,(callFunc 335 args).run Tryz.prog w=.ok (.enter 335 args) w:=enters_of Tryz.func335 (by kernel_rfl) rfl
 have hmk:=fun w=>run_make_row' (P:=Tryz.prog) 26 3 (.int .i64 0) 8 Tryz.underlying26 Dr rfl .i64 .i64 n (by omega) (by omega) w
 have hq1:(1 * n) / 18446744073709551616=0:=by omega
 have hq2:(1 * n) % 18446744073709551616=n:=by omega
 have hn0:¬ ((n:Int)<0):=by omega
 have hn1:¬ ((9223372036854775807:Int)<n):=by omega
 have cpy:∀ (k m:Nat) (W:World) (ty dl dc:Nat) (a:Addr) (sl sc:Nat),k+m≤n→m=Nat.min sl dl→W.heap[w.heap.size]?=some (.cells (lV v n k).toArray 3 (0,0))→(∀ (j:Nat) (u:Value),(List.replicate m (Value.int .i64 v))[j]?=some u→W.cell? (a.add j)=some u) →
   (Builtin.copy_ #[26,26] ty #[.slice (some ⟨w.heap.size,k,none⟩) dl dc,.slice (some a) sl sc]).run Tryz.prog W=.ok (goInt m) (W.setRow w.heap.size (lV v n (k+m)).toArray):=fun k m W ty dl dc a sl sc hkm hm hb hs=>by
  rw [← Jd hkm]
  have:=Ft (P:=Tryz.prog) W 26 26 ty 3 1 w.heap.size k dl dc a sl sc m (lV v n k).toArray 3 (List.replicate m (.int .i64 v)) Tryz.underlying26 hsz hb hm (by simp) hs (by simp [lV];omega) (by simp [Value.oneCell'])
  simpa using this
 have h0:(w.alloc (.cells (madeCells #[.int .i64 0] n) 3)).heap[w.heap.size]?=some (.cells (lV v n 0).toArray 3 (0,0)):=by
  rw [(MapKept.heap_alloc w _).1]
  congr 2
  apply Array.toList_inj.1
  rw [toList_madeCells_one];simp [lV]
 obtain ⟨m0,hm0⟩:∃ m,m=Nat.min 1 n:=⟨_,rfl⟩
 have hm1:m0≤1∧m0≤n∧(m0=1∨n=0):=by rw [hm0];simp only [Nat.min_def];split<;>omega
 have hbad:ad.block<w.heap.size:=World.block_lt_of_cell? w _ hc
 have hcp0:=fun ty=>cpy 0 m0 (w.alloc (.cells (madeCells #[.int .i64 0] n) 3)) ty n n ad 1 cap (by omega) hm0 h0 (fun j u hj=>by
  have hj0:j=0:=by have:=(aL.1 hj).1;simp at this;omega
  subst hj0
  rw [sC] at hj
  split at hj
  ·cases hj
   rw [show ad.add 0=ad by unfold Addr.add;simp]
   exact ((Below.refl _ w).alloc (bC _) _).cell (p:=ad) hbad |>.trans hc
  ·cases hj)
 simp only [dQ] at hcp0
 clear hm0
 have mixed:=Tz.mixed
 go_enter Tryz.func242,Tryz.ntmps242
 go_wp2_with (first|(go_at_fn 335;refine (cM _).mono ?_;rintro e w' ⟨rfl,hw⟩;rw [hw,hq1,hq2])|(at_builtin;refine wpList_copy_runI _ rfl _ _ 26 26 rfl _ _ rfl rfl (hcp0 _) ?_))
 go_loopw [8] (fun i wr=>∃ k:Nat,k≤n∧(0<k∨n=0)∧i=.int .i64 k∧wr.heap[w.heap.size]?=some (.cells (lV v n k).toArray 3 (0,0))∧Below w.heap.size w wr)
  (fun i _=>n - (RowKit.intOf i).toNat)
 case atStart =>
  refine ⟨m0,hm1.2.1,by omega,by simp [goInt],setRow_heap _ _ _ _ _ _ h0,?_⟩
  exact below_setRow ((Below.refl _ w).alloc (bC _) _) (bC _) _
 case round =>
  obtain ⟨k,hk,hk0,rfl,hb,hbl⟩:=hrel
  by_cases hlt:k<n
  ·have hkn:¬ (n=k):=by omega
   have hcp1:=fun ty dc sc=>cpy k (Nat.min k (n - k)) wr.drew ty (n - k) dc ⟨w.heap.size,0,none⟩ k sc (by simp only [Nat.min_def];split<;>omega) rfl hb (fun j u hj=>by
    have hjk:=(aL.1 hj).1
    rw [u9] at hjk
    rw [sC,if_pos hjk] at hj
    cases hj
    have hjk2:j<k:=by simp only [Nat.min_def] at hjk;split at hjk<;>omega
    rw [iF]
    show wr.cell? _=_
    simp [World.cell?,hb,lV,aS,hjk2])
   go_wp2
   go_region_law_o (refine step_copy_runI rfl _ _ 26 26 rfl _ _ (by simp [Act.eval,Act.put]) (by simp [Act.eval,Act.put]) (hcp1 _ _ _) ?_)
   have hmn:k+Nat.min k (n - k)≤n∧0<Nat.min k (n - k):=by simp only [Nat.min_def];split<;>omega
   simp only [Act.put,List.getElem_toArray,List.getElem_cons_succ,List.getElem_cons_zero,List.setIfInBounds_toArray,BH,sB]
   go_roundw
   case rel =>
    refine ⟨_,_,_,_,_,_,_,_,_,_,_,_,_,_,⟨k+Nat.min k (n - k),hmn.1,by omega,?_,setRow_heap wr.drew _ _ _ _ _ hb,below_setRow (w:=wr.drew) ⟨hbl.os,hbl.tape,hbl.output,hbl.size,hbl.block⟩ (bC _) _⟩,rfl⟩
    congr 1
    rw [IntKind.wrap_i64];omega
   case measure=>simp [RowKit.intOf,goInt,IntKind.wrap_i64];omega
  ·obtain rfl:k=n:=by omega
   go_wp2
   go_ret
   refine ⟨_,rfl,⟨by simp,.inr ⟨w.heap.size,k,(lV v k k).toArray,rfl,bC _,hb,bC _,by simp only [maxLen];omega,by simp [lV],?_⟩⟩,hbl⟩
   simp [lV]
theorem DF (v:Int)(n:Nat)(hn:n≤1000):Own Tryz.prog 242 [.list [[dI v]],dI n] 3 1 ((List.replicate n v).map cI):=by
 refine ⟨⟨Tryz.f242,Tryz.func242,rfl,rfl⟩,fun M w vals hM ha=>?_⟩
 obtain ⟨hlen,hr⟩:=ha
 match vals,hlen with
 | [s,y],_ =>
  have h0:=hr 0 s _ rfl rfl
  have h1:=hr 1 y _ rfl rfl
  cases h1
  rcases qA h0 with ⟨rfl,he⟩|⟨ad,cap,sz,xs,rfl,hrep,_,hcell,_,_,_⟩
  ·cases he
  ·have hx:∃ u,xs[0]?=some u:=by
    have hl:=hrep.len
    simp at hl
    exact ⟨xs[0]'(by omega),aA (by omega)⟩
   obtain ⟨u,hu⟩:=hx
   have hd:=hrep.rep 0 u (D.int .i64 v) hu rfl
   cases hd
   have hca:=(hcell 0 _ hu).2
   rw [show ad.add 0=ad by unfold Addr.add;simp] at hca
   refine (HF v n hn ad cap w hca).mono fun e w' ⟨v',he,hrow,hb⟩=>?_
   have hml:((List.replicate n v).map cI).length=n:=by simp
   exact ⟨v',_,he,by rw [hml];exact hrow,fun u hu=>by rw [jJ hu];rfl,by
    have:=wY (M:=fun b=>M b∨v'.ownBlock=some b) (σ:=gS) (N:=p7) (w:=w') (List.replicate n v)
    simpa using this,n7 _,fun c hc=>by obtain ⟨x,_,rfl⟩:=bG.1 hc;rfl,hb⟩
end Go.Abs
end
section
set_option maxRecDepth 100000
set_option maxHeartbeats 4000000
open Go Go.Proofs
namespace Go.Abs
def scnC (t:Types)(h:Host)(inj:Bool):List D:=[.list (t.nodes.map NodeTy.c),.list (t.edges.map EdgeTy.c),dLI h.graph.nodes,.list (h.graph.edges.map Edge.c),.list (h.values.map cL),.bool inj]
def OH (n i:Nat):List Bool:=List.replicate i true++List.replicate (n - i) false
theorem P4 {n i:Nat}(h:i≤n):(OH n i).length=n:=by simp [OH];omega
theorem P3 {n i:Nat}(h:i<n):(OH n i).set i true=OH n (i+1):=by
 unfold OH
 rw [oA _ _ (by simp),u9,u7,show n - i=(n - (i+1))+1 by omega,qS,sB,List.replicate_succ',List.append_assoc];rfl
theorem tB (n:Nat)(hn:n≤1000)(at_ im:List Int)(h1:∀ x∈at_,0≤x∧x<n)(h2:at_.length≤im.length):Pure Tryz.prog 457 [dI n,dLI at_,dLI im] (dLI (vZ n at_ im)):=by
 refine Tz.pK ⟨fun t=>t==12,fun _=>[]⟩ Tryz.func457 rfl (fun Q hQ=>?_)
 have Y:=trivial
 refine wv (h:=l4 (DF (-1) n hn) wl ?_)
 refine wv (h:=?_)
 repeat first|intro _|refine ⟨eZ,?_⟩
 refine bA (fun k e H=>(e 0=dI n∧e 1=dLI at_∧e 2=dLI im∧e 7=.own 0 n∧e 13=dLI at_∧e 14=dI at_.length∧e 15=dI k)∧(H.get 0=some ⟨3,1,(JM at_ im n k).map cI,false⟩)∧(0<H.next)∧(k≤at_.length)∧((JM at_ im n k).length=n)) (fun k=>at_.length - k) 0 ⟨wg,(by (simp [go_sem,Y,JM,cI])),wn,wi,(by (exact Ab _ _ _ _))⟩ fun I0 hI0 k e H hi0=>?_
 obtain ⟨E0,g0_0,n0_0,hk,hpl⟩:=hi0
 have Y:=wa Y (wa E0 (wa g0_0 (wa (bZ n0_0) hpl)))
 refine c4 (fun h3=>?_) fun h3=>?_
 ·have hki:k<im.length:=by omega
  have ha:=h1 _ (aC h3)
  have ha0:at_[k]?.getD 0=at_[k]:=by rw [aA h3];rfl
  have hi0:im[k]?.getD 0=im[k]:=by rw [aA hki];rfl
  have hal:at_[k].toNat<(JM at_ im n k).length:=by omega
  have Y:=wa Y (wa h3 (wa (aA h3) (wa (aA hki) (aA hal))))
  refine wv (h:=?_)
  repeat first|intro _|refine ⟨eZ,?_⟩
  exact wx hI0 (k+1) ⟨wg,(by (simp [go_sem,Y,DZ,c8,ha0,hi0,cI])),wn,wj,(by (exact Ab _ _ _ _))⟩
 ·have hP:vZ n at_ im=JM at_ im n k:=by unfold vZ JM;rw [show k=at_.length by omega]
  exact wv (h:=hQ _ _ (by simp [go_sem,Y,hP,dLI]))
theorem HA (t:Types)(inj:Bool)(p:Pattern)(h:Host)(m:Part)(hO:SOk p h m)(vs:List Int)(hl:vs.length≤p.vars.toNat)(hs:∀ v∈vs,-2000000≤v∧v≤2000000) :
  Pure Tryz.prog 459 [.agg (scnC t h inj),p.d,m.d,dLI vs] (.tup [dLI (d8 p h m vs).1,.bool (decide ((d8 p h m vs).2=0))]):=by
 have hv:=hO.vars
 have h0:=IU hv.1 hl hs
 have hst0:Ho p vs=(Fc vs p.vars.toNat,HZ vs.length p.vars.toNat):=by unfold Ho;rw [HY _ _ hl];rfl
 have hsub:(p.vars - (vs.length:Int)).toNat=p.vars.toNat - vs.length:=by omega
 have hsum:vs.length+(p.vars.toNat - vs.length)=p.vars.toNat:=by omega
 have hva:(vs.map cI++List.replicate (p.vars.toNat - vs.length) [D.int .i64 0])=(Fc vs p.vars.toNat).map cI:=by simp [Fc,cI]
 refine MC (by first|rfl|(simp [go_sem];done)) (fun Q hQ=>ACalls.bump 1 (aI (cfg:=⟨fun t=>t==22||t==11||t==14||t==20,fun r=>match r with|1=>[(1,2),(1,3),(1,5)]|_=>[]⟩) Tz.mixed Tryz.func459 rfl rfl (aF rfl) (by kernel_rfl) ?_))
 have Y:=wa hsub (wa hsum (wa @Pattern.d.eq_1 (wa @Pattern.c.eq_1 (wa @scnC.eq_1 (wa @Part.d.eq_1 (wa @Part.c.eq_1 @Term.c.eq_1))))))
 refine wv (h:=?_)
 repeat first|intro _|refine ⟨eZ,?_⟩
 refine Cj 0 (kC vs (by omega)) (by first|rfl|(simp [go_sem];done)) rfl (by first|omega|simp [go_sem]) (by simp [mY,qM,Hc,EZ]) (by first|trivial|(simp [go_sem];done)|simp [go_sem,Fd]) ?_
 refine wv (h:=?_)
 repeat first|intro _|refine ⟨eZ,?_⟩
 refine bA (fun i e H=>(e 4=.adr (scnC t h inj)∧e 5=.adr p.c∧e 6=.adr m.c∧e 3=dLI vs∧e 10=.own 0 p.vars.toNat∧e 11=.own 10 p.vars.toNat∧e 33=dI vs.length∧e 34=dI i)∧(H.get 0=some ⟨3,1,(Fc vs p.vars.toNat).map cI,false⟩)∧(0<H.next)∧(H.get 10=some ⟨4,1,(OH p.vars.toNat i).map cB,false⟩)∧(10<H.next)∧(i≤vs.length)) (fun i=>vs.length - i) 0 ⟨wg,(by (simp [go_sem,Y,hva])),wn,(by (simp [go_sem,OH,cB])),wn,wi⟩ fun I0 hI0 i e H hi0=>?_
 obtain ⟨E0,g0_0,n0_0,g10_0,n10_0,hi⟩:=hi0
 have Y:=wa Y (wa E0 (wa g0_0 (wa (bZ n0_0) (wa g10_0 (bZ n10_0)))))
 refine c4 (fun h4=>?_) fun h4=>?_
 ·have hTl:=P4 (n:=p.vars.toNat) (i:=i) (by omega)
  have hTi:i<(OH p.vars.toNat i).length:=by omega
  have hTs:((OH p.vars.toNat i).map cB).set i [.bool true]=(OH p.vars.toNat (i+1)).map cB:=by rw [← P3 (by omega),c8];rfl
  have Y:=wa Y (wa h4 (wa hTl (wa (aA hTi) hTs)))
  refine wv (h:=?_)
  repeat first|intro _|refine ⟨eZ,?_⟩
  exact wx hI0 (i+1) ⟨wg,wn,wn,(by (simp [go_sem,Y])),wn,wj⟩
 ·have hie:i=vs.length:=by omega
  have hTe:OH p.vars.toNat i=HZ vs.length p.vars.toNat:=by rw [hie,HY _ _ hl];rfl
  have Y:=wa Y hTe
  refine wv (h:=?_)
  repeat first|intro _|refine ⟨eZ,?_⟩
  refine bA (fun i e H=>∃ st:List Int × List Bool,(e 4=.adr (scnC t h inj)∧e 5=.adr p.c∧e 6=.adr m.c∧e 3=dLI vs∧e 10=.own 0 p.vars.toNat∧e 11=.own 10 p.vars.toNat∧e 42=.list (p.slots.map Slot.c)∧e 43=dI p.slots.length∧e 44=dI i)∧(H.get 0=some ⟨3,1,st.1.map cI,false⟩)∧(0<H.next)∧(H.get 10=some ⟨4,1,st.2.map cB,false⟩)∧(10<H.next)∧(i≤p.slots.length)∧(StOk p.vars.toNat st)∧(g9 h m (Ho p vs) (p.slots.take i)=some st)) (fun i=>p.slots.length - i) 0 ⟨((Fc vs p.vars.toNat,HZ vs.length p.vars.toNat)),wg,(by (simp [go_sem,Y])),wn,(by (simp [go_sem,Y])),wn,wi,(by (rw [← hst0];exact h0)),(by (rw [hst0];rfl))⟩ fun I2 hI2 i e H hi2=>?_
  obtain ⟨st,E2,g0_2,n0_2,g10_2,n10_2,hi,hst,hsl⟩:=hi2
  have Y:=wa Y (wa E2 (wa g0_2 (wa (bZ n0_2) (wa g10_2 (bZ n10_2)))))
  refine c4 (fun h9=>?_) fun h9=>?_
  ·obtain ⟨x,hx⟩:∃ x,x=p.slots[i]:=⟨_,rfl⟩
   have hxm:x∈p.slots:=hx ▸ aC h9
   have hn:=hO.node x hxm
   have hn2:x.node.toNat<m.nodes.length:=by omega
   have hk:=hO.img _ (aC hn2)
   have hk2:(m.nodes[x.node.toNat]).toNat<h.values.length:=by omega
   have ha:=hO.attr x hxm
   rw [aA hn2,aD,aA hk2,aD] at ha
   have ha2:x.attr.toNat<(h.values[(m.nodes[x.node.toNat]).toNat]).length:=by omega
   have hV:jZ h m x=h.values[(m.nodes[x.node.toNat]).toNat][x.attr.toNat]:=by unfold jZ;rw [aA hn2,aD,aA hk2,aD,aA ha2];rfl
   have hb:=hO.have_ hxm
   have hT:=hO.term x hxm
   have hl1:=hst.l1
   have hl2:=hst.l2
   have hTv:=hT.1
   have hTa:=hT.2
   have hSt:=qZ h9 hsl
   rw [← hx] at hSt
   obtain ⟨s2,hs2e⟩:∃ y,y=j9 h m st x:=⟨_,rfl⟩
   have hs2:StOk p.vars.toNat s2:=hs2e ▸ vJ hst hb hT
   rw [← hs2e] at hSt
   have hs2n:¬ 0≤x.term.var→s2=st:=fun hn=>by rw [hs2e];unfold j9 jH;rw [if_neg (by simp [hn])]
   have vlt:0≤x.term.var→x.term.var.toNat<st.2.length:=fun hn=>by omega
   obtain ⟨kb,hkb⟩:∃ kb,kb=st.2[x.term.var.toNat]?.getD false:=⟨_,rfl⟩
   have hcase:0≤x.term.var∨(¬ 0≤x.term.var∧st.2[x.term.var.toNat]?=none)∨(¬ 0≤x.term.var∧st.2[x.term.var.toNat]?=some kb):=by
    by_cases hsp:0≤x.term.var
    ·exact .inl hsp
    ·right
     cases ho:st.2[x.term.var.toNat]? with
     | none=>exact .inl ⟨hsp,rfl⟩
     | some b=>rw [ho] at hkb;exact .inr ⟨hsp,by rw [hkb];rfl⟩
   rcases hcase with hc|hc|hc
   ·have Y:=wa Y (wa h9 (wa (aA h9) (wa (Eq.symm hx) (wa (aA hn2) (wa (aA hk2) (wa (aA ha2) (wa (Eq.symm hV) (wa @Slot.c.eq_1 (wa @cL.eq_1 (wa hl1 (wa hl2 (wa @i4 (wa @cB.eq_1 (wa hc ((aA (vlt hc)))))))))))))))))
    refine wv (h:=?_)
    repeat first|intro _|refine ⟨eZ,?_⟩
    refine wq (fun h13=>?_) fun h13=>?_
    ·have hF:jH st x=true:=by simp only [jH,aM,decide_eq_true_eq,cE];exact ⟨hc,by simpa [aA (vlt hc)] using h13⟩
     unfold j9 at hs2e
     rw [if_pos hF] at hs2e
     have hvl:x.term.var.toNat<st.1.length:=by omega
     have e1:s2.1.map cI=(st.1.map cI).set x.term.var.toNat (cI (jZ h m x - x.term.add)):=by rw [hs2e,c8]
     have e2:s2.2.map cB=(st.2.map cB).set x.term.var.toNat (cB true):=by rw [hs2e,c8]
     have ecl:D.clLL ((st.1.map cI).set x.term.var.toNat [D.int .i64 (jZ h m x - x.term.add)])=true:=by have:=n7 s2.1;rw [e1] at this;exact this
     have Y:=wa Y (wa e1 (wa e2 (wa @dLI.eq_1 (wa @cI.eq_1 (wa (aA hvl) ecl)))))
     refine wv (h:=?_)
     repeat first|intro _|refine ⟨eZ,?_⟩
     refine c9 (k7 x.term s2.1 (by rw [hs2.l1];exact hT) hs2.big) wr wl rfl ?_
     refine wv (h:=?_)
     repeat first|intro _|refine ⟨eZ,?_⟩
     refine wq (fun h16=>?_) fun h16=>?_
     ·have hR:=dL (hSt.2 (by first|simpa using h16|simpa [hs2n hc.1] using h16|simpa [hs2e] using h16))
      exact wv (h:=hQ _ _ (by simp [go_sem,hR]))
     ·have hstep:=hSt.1 (by first|simpa using h16|simpa [hs2n hc.1] using h16|simpa [hs2e] using h16)
      refine wv (h:=?_)
      repeat first|intro _|refine ⟨eZ,?_⟩
      exact wx hI2 (i+1) ⟨s2,wg,(by (simp [go_sem,Y])),wn,(by (simp [go_sem,Y])),wn,wj,(by exact hs2),(by exact hstep)⟩
    ·have hF:¬ jH st x=true:=by simp only [jH,aM,decide_eq_true_eq,cE];rintro ⟨_,hk⟩;simp [aA (vlt hc)] at hk;simp [hk] at h13
     unfold j9 at hs2e
     rw [if_neg hF] at hs2e
     have Y:=wa Y hs2e
     refine wv (h:=c9 (k7 x.term s2.1 (by rw [hs2.l1];exact hT) hs2.big) wr wl rfl ?_)
     refine wv (h:=?_)
     repeat first|intro _|refine ⟨eZ,?_⟩
     refine wq (fun h16=>?_) fun h16=>?_
     ·have hR:=dL (hSt.2 (by first|simpa using h16|simpa [hs2n hc.1] using h16|simpa [hs2e] using h16))
      exact wv (h:=hQ _ _ (by simp [go_sem,hR]))
     ·have hstep:=hSt.1 (by first|simpa using h16|simpa [hs2n hc.1] using h16|simpa [hs2e] using h16)
      refine wv (h:=?_)
      repeat first|intro _|refine ⟨eZ,?_⟩
      exact wx hI2 (i+1) ⟨s2,wg,(by (simp [go_sem,Y])),wn,(by (simp [go_sem,Y])),wn,wj,(by exact hs2),(by exact hstep)⟩
   ·have Y:=wa Y (wa h9 (wa (aA h9) (wa (Eq.symm hx) (wa (aA hn2) (wa (aA hk2) (wa (aA ha2) (wa (Eq.symm hV) (wa @Slot.c.eq_1 (wa @cL.eq_1 (wa hl1 (wa hl2 (wa @i4 (wa @cB.eq_1 (wa hc.1 (wa hc.2 (hs2n hc.1))))))))))))))))
    refine wv (h:=?_)
    repeat first|intro _|refine ⟨eZ,?_⟩
    refine c9 (k7 x.term s2.1 (by rw [hs2.l1];exact hT) hs2.big) wr wl rfl ?_
    refine wv (h:=?_)
    repeat first|intro _|refine ⟨eZ,?_⟩
    refine wq (fun h16=>?_) fun h16=>?_
    ·have hR:=dL (hSt.2 (by first|simpa using h16|simpa [hs2n hc.1] using h16|simpa [hs2e] using h16))
     exact wv (h:=hQ _ _ (by simp [go_sem,hR]))
    ·have hstep:=hSt.1 (by first|simpa using h16|simpa [hs2n hc.1] using h16|simpa [hs2e] using h16)
     refine wv (h:=?_)
     repeat first|intro _|refine ⟨eZ,?_⟩
     exact wx hI2 (i+1) ⟨s2,wg,(by (simp [go_sem,Y])),wn,(by (simp [go_sem,Y])),wn,wj,(by exact hs2),(by exact hstep)⟩
   ·have Y:=wa Y (wa h9 (wa (aA h9) (wa (Eq.symm hx) (wa (aA hn2) (wa (aA hk2) (wa (aA ha2) (wa (Eq.symm hV) (wa @Slot.c.eq_1 (wa @cL.eq_1 (wa hl1 (wa hl2 (wa @i4 (wa @cB.eq_1 (wa hc.1 (wa hc.2 (hs2n hc.1))))))))))))))))
    refine wv (h:=?_)
    repeat first|intro _|refine ⟨eZ,?_⟩
    refine c9 (k7 x.term s2.1 (by rw [hs2.l1];exact hT) hs2.big) wr wl rfl ?_
    refine wv (h:=?_)
    repeat first|intro _|refine ⟨eZ,?_⟩
    refine wq (fun h16=>?_) fun h16=>?_
    ·have hR:=dL (hSt.2 (by first|simpa using h16|simpa [hs2n hc.1] using h16|simpa [hs2e] using h16))
     exact wv (h:=hQ _ _ (by simp [go_sem,hR]))
    ·have hstep:=hSt.1 (by first|simpa using h16|simpa [hs2n hc.1] using h16|simpa [hs2e] using h16)
     refine wv (h:=?_)
     repeat first|intro _|refine ⟨eZ,?_⟩
     exact wx hI2 (i+1) ⟨s2,wg,(by (simp [go_sem,Y])),wn,(by (simp [go_sem,Y])),wn,wj,(by exact hs2),(by exact hstep)⟩
  ·rw [aH (by omega)] at hsl
   have hR0:=mI hsl
   have hl1:=hst.l1
   have Y:=wa Y hl1
   refine wv (h:=?_)
   repeat first|intro _|refine ⟨eZ,?_⟩
   refine bA (fun k e H=>(e 4=.adr (scnC t h inj)∧e 5=.adr p.c∧e 6=.adr m.c∧e 3=dLI vs∧e 10=.own 0 p.vars.toNat∧e 102=.list (p.tests.map Test.c)∧e 103=dI p.tests.length∧e 104=dI k)∧(H.get 0=some ⟨3,1,st.1.map cI,false⟩)∧(0<H.next)∧(k≤p.tests.length)∧((p.tests.take k).all (fun x=>xK x st.1)=true)) (fun k=>p.tests.length - k) 0 ⟨wg,wn,wn,wi,(by rfl)⟩ fun I4 hI4 k e H hi4=>?_
   obtain ⟨E4,g0_4,n0_4,hk,hall⟩:=hi4
   have Y:=wa Y (wa E4 (wa g0_4 (bZ n0_4)))
   refine c4 (fun h20=>?_) fun h20=>?_
   ·have hX:=hO.test _ (aC h20)
    have Y:=wa Y (wa h20 (wa (aA h20) @Test.c.eq_1))
    refine wv (h:=?_)
    repeat first|intro _|refine ⟨eZ,?_⟩
    refine c9 (tA p.tests[k] st.1 (by rw [hst.l1];exact hX) hst.big) wr wl rfl ?_
    refine wv (h:=?_)
    repeat first|intro _|refine ⟨eZ,?_⟩
    refine wq (fun h22=>?_) fun h22=>?_
    ·have hR:d8 p h m vs=([],16):=by
      rw [hR0,if_neg]
      intro ha
      rw [bX] at ha
      have:=ha _ (aC h20)
      simp [this] at h22
     exact wv (h:=hQ _ _ (by simp [go_sem,hR]))
    ·refine wv (h:=?_)
     repeat first|intro _|refine ⟨eZ,?_⟩
     exact wx hI4 (k+1) ⟨wg,wn,wn,wj,(by (rw [aE h20,zI,hall];simp;simpa using h22))⟩
   ·rw [aH (by omega)] at hall
    rw [if_pos hall] at hR0
    exact wv (h:=hQ _ _ (by simp [go_sem,Y,hR0,dLI]))
theorem A6 (t:Types)(ht:t.ok)(p:Pattern)(c:Cond)(hE:ExOk t p c.map c.pattern)(h:Host)(ho:HostOk t h)(m:Mat)(hm:MatOk t p h m)(inj:Bool) :
  Pure Tryz.prog 439 [.agg (scnC t h inj),.agg c.c,m.d] (.tup [.list ((u5 t c.map c.pattern h m inj).1.map Mat.c),dI (u5 t c.map c.pattern h m inj).2]):=by
 obtain ⟨⟨hl1,hl2⟩,hi1,hi2⟩:=hE.img
 have hq:=bK hE.pq.gg
 have hn1:=hm.mok.len
 have hn2:=hm.mok.elen
 refine Tz.pK ⟨fun t=>t==8||t==9||t==12||t==14,fun r=>match r with|2=>[(0,21),(1,21),(2,21),(3,21),(4,21),(5,21),(6,21),(7,21),(8,21),(9,21),(10,21),(11,21),(12,21),(13,21),(14,21),(15,21),(16,21),(17,21),(18,21),(19,21)]|_=>[]⟩ Tryz.func439 rfl (fun Q hQ=>?_)
 obtain ⟨X,hX⟩:∃ X,X=lK t c.pattern.graph h.graph (mP c.map c.pattern m.m) inj:=⟨_,rfl⟩
 have hXm:∀ x∈X.1,MOk t c.pattern.graph h.graph x:=fun x hx=>Ey (hX ▸ hx)
 have hX5:X.1.length≤5000:=hX ▸ MZ _ _ _ _ _
 have hvl:m.vars.length≤c.pattern.vars.toNat:=by have:=hm.vl;have:=hE.pv;have:=hE.p0;omega
 have hXE:u5 t c.map c.pattern h m inj=if X.2≠0 then ([],X.2) else (sE c.pattern h m.vars X.1,0):=by unfold u5;rw [← hX]
 have Y:=wa @Cond.c_eq (wa @scnC.eq_1 (wa @Mat.d.eq_1 @Mat.c.eq_1))
 refine wp (h:=aK (tB c.pattern.graph.nodes.length (by omega) c.map.nodes m.m.nodes hi1 (by omega)) wl ?_)
 refine wp (h:=aK (tB c.pattern.graph.edges.length (by omega) c.map.edges m.m.edges hi2 (by omega)) wl ?_)
 refine wp (h:=aB ((by have hq:=Fq t ht c.pattern.graph h.graph (mP c.map c.pattern m.m) inj;rw [← hX] at hq;unfold mP Types.d Types.c Graph.d Graph.c Part.d Part.c dLI at hq;exact hq)) wl ?_)
 refine tG (fun h4=>?_) fun h4=>?_
 ·rw [if_pos h4] at hXE
  exact wv (h:=hQ _ _ (by simp [go_sem,hXE]))
 ·rw [if_neg (by omega)] at hXE
  refine wp (h:=bA (fun i e H=>∃ ms:List Mat,(e 3=.adr (scnC t h inj)∧e 4=.adr c.c∧e 5=.adr m.c∧e 57=.list (X.1.map Part.c)∧e 58=dI X.1.length∧e 12=.own 24 ms.length∧e 59=dI i)∧(H.get 24=some ⟨46,3,ms.map Mat.c,false⟩)∧(24<H.next)∧(i≤X.1.length)∧(ms=sE c.pattern h m.vars (X.1.take i))∧(ms.length≤i)) (fun i=>X.1.length - i) 0 ⟨([]),wg,wn,wn,wi,(by rfl),(by (simp))⟩ fun I0 hI0 i e H hi0=>?_)
  obtain ⟨ms,E0,g24_0,n24_0,hi,hms,hml⟩:=hi0
  have Y:=wa Y (wa E0 (wa g24_0 (bZ n24_0)))
  refine c4 (fun h8=>?_) fun h8=>?_
  ·obtain ⟨v,hv⟩:∃ v,v=d8 c.pattern h X.1[i] m.vars:=⟨_,rfl⟩
   obtain ⟨ms2,hms2⟩:∃ y,y=ms++if v.2=0 then [(⟨X.1[i],v.1⟩:Mat)] else []:=⟨_,rfl⟩
   have Y:=wa Y (wa h8 (wa (aA h8) (wa @Part.c.eq_1 @Pattern.c.eq_1)))
   refine wp (h:=aB ((by have hq:=HA t inj c.pattern h X.1[i] (QM hE.pq ho (hXm _ (aC h8))) m.vars hvl hm.vs;rw [← hv] at hq;unfold scnC Pattern.d Pattern.c Part.d Part.c dLI at hq;exact hq)) wl ?_)
   refine tG (fun h11=>?_) fun h11=>?_
   ·have hm3:ms2=ms++[⟨X.1[i],v.1⟩]:=by rw [hms2,if_pos (by simpa using h11)]
    have Y:=wa Y hm3
    exact wp (h:=wx hI0 (i+1) ⟨ms2,wg,wn,wn,wj,(by (rw [aE h8,nH,← hms,← hv];exact hms2)),(by (rw [hms2];split<;>simp<;>omega))⟩)
   ·have hm3:ms2=ms:=by rw [hms2,if_neg (by simpa using h11),dJ]
    have Y:=wa Y hm3
    exact wp (h:=wx hI0 (i+1) ⟨ms2,wg,wn,wn,wj,(by (rw [aE h8,nH,← hms,← hv];exact hms2)),(by (rw [hms2];split<;>simp<;>omega))⟩)
  ·rw [aH (by omega)] at hms
   exact wv (h:=hQ _ _ (by simp [go_sem,Y,hXE,← hms]))
def KT (t:Types)(h:Host)(inj:Bool)(c:Cond)(m:Mat):Prf × Int:=if (mF t h inj c m).2=0 then mF t h inj c m else (iN,(mF t h inj c m).2)
def Fg (W:Prf × Int):Prf × Int:=if W.2=0 then W else (iN,W.2)
theorem OA (t:Types)(h:Host)(inj:Bool)(c:Cond)(m:Mat):KT t h inj c m=Fg (mF t h inj c m):=rfl
theorem AX (t : Types) (h : Host) (inj : Bool) (c : Cond) (m : Mat) : ∃ wc wm wk we, KT t h inj c m = (Prf.mk wc wm wk, we) ∧ (mF t h inj c m).2 = we ∧ (we = 0 → mF t h inj c m = (Prf.mk wc wm wk, we)) := by
  cases hh : KT t h inj c m with
  | mk a b =>
    cases a with
    | mk wc wm wk =>
      refine ⟨wc, wm, wk, b, rfl, ?_, ?_⟩
      · unfold KT at hh
        split at hh
        · rw [hh]
        · exact congrArg Prod.snd hh
      · intro h0
        unfold KT at hh
        split at hh
        · exact hh
        · rename_i h1
          have := congrArg Prod.snd hh
          simp only at this
          exact absurd (this.trans h0) h1
theorem Dx (t:Types)(ht:t.ok)(h:Host)(ho:HostOk t h)(inj:Bool)(c:Cond)(p:Pattern)(hC:CondV t p c)(hp:PatOk t p)(h5:c.kind=5)
  (ih:∀ k∈c.kids,∀ m:Mat,MatOk t c.pattern h m→Pure Tryz.prog 332 [.agg (scnC t h inj),.agg k.c,m.d] (.tup [.agg (KT t h inj k m).1.c,dI (KT t h inj k m).2])) (m:Mat) (hm:MatOk t p h m) :
  Pure Tryz.prog 388 [.agg (scnC t h inj),.agg c.c,m.d] (.tup [.agg (KT t h inj c m).1.c,dI (KT t h inj c m).2]):=by
 obtain ⟨hK1,hK2⟩:=hC.kinds
 have hW:=Hh t h inj c m
 rw [OA]
 obtain ⟨W,hWW⟩:∃ W,W=mF t h inj c m:=⟨_,rfl⟩
 rw [← hWW] at hW ⊢
 obtain ⟨hE,hCk⟩:=hC.ex h5 hp
 have hl:0<c.kids.length:=by have:=hK1 (.inr h5);omega
 obtain ⟨k0,hk0e⟩:∃ k,k=c.kids[0]:=⟨_,rfl⟩
 have hk0:k0∈c.kids:=hk0e ▸ aC hl
 obtain ⟨X,hX⟩:∃ X,X=u5 t c.map c.pattern h m inj:=⟨_,rfl⟩
 have hXm:∀ x∈X.1,MatOk t c.pattern h x:=hX ▸ M2 hE ho hm
 rw [if_neg (by omega),if_neg (by omega),if_neg (by omega),if_pos h5,w5 hl,← hk0e,← hX] at hW
 refine vY (by first|rfl|(simp [go_sem];done)) (fun Q hQ=>(aI (cfg:=⟨fun t=>t==6||t==11||t==12,fun r=>match r with|7=>[(0,10),(1,10),(2,10),(3,10),(4,10),(5,10),(6,10)]|_=>[]⟩) Tz.mixed Tryz.func388 rfl rfl (aF rfl) (by kernel_rfl) ?_))
 have Y:=wa @Cond.c_eq (wa @scnC.eq_1 (wa @Mat.d.eq_1 (wa @Mat.c.eq_1 (wa @Prf.c_eq (wa (aA hl) (wa (Eq.symm hk0e) h5))))))
 refine wv (h:=aB ((by have hq:=A6 t ht p c hE h ho m hm inj;rw [← hX,Cond.c_eq,h5] at hq;unfold scnC Mat.d Mat.c dLI dI at hq;exact hq)) wl ?_)
 refine c4 (fun h2=>?_) fun h2=>?_
 ·rw [if_pos (by simpa using h2)] at hW
  have hR:Fg W=(iN,X.2):=by rw [hW];unfold Fg;rw [if_neg (by simpa using h2)]
  refine wv (h:=?_)
  exact hQ _ _ (by simp [go_sem,Y,hR,iN,iB,Prf.c_eq,lR,jE,eO,dLI,eT,e8])
 ·rw [if_neg (by simpa using h2)] at hW
  refine wv (h:=?_)
  repeat first|intro _|refine ⟨eZ,?_⟩
  refine bA (fun i e H=>(e 3=.adr (scnC t h inj)∧e 4=.adr c.c∧e 5=.adr m.c∧e 6=.ptr 0 1 0 0∧e 25=.list (X.1.map Mat.c)∧e 26=dI X.1.length∧e 27=dI i)∧(H.get 0=some ⟨282,5,[[dI 0,.nil,.nil,.nil,.nil]],false⟩)∧(0<H.next)∧(i≤X.1.length)∧(Qw ((X.1.drop i).map fun x=>(x,mF t h inj k0 x))=W)) (fun i=>X.1.length - i) 0 ⟨wg,wn,wn,wi,(by (exact hW.symm))⟩ fun I0 hI0 i e H hi0=>?_
  obtain ⟨E0,g0_0,n0_0,hi,hA⟩:=hi0
  have Y:=wa Y (wa E0 (wa g0_0 (bZ n0_0)))
  refine c4 (fun h5=>?_) fun h5=>?_
  ·obtain ⟨wc,wm,wk,we,hw,hw2,hw3⟩:=AX t h inj k0 X.1[i]
   have h5':i<X.1.length:=h5
   have hst:=hA
   rw [s9 _ h5'] at hst
   simp only [Qw] at hst
   have nx:=VK H.next
   have Y:=wa Y (wa h5 (wa (aA h5') nx))
   refine wv (h:=?_)
   repeat first|intro _|refine ⟨eZ,?_⟩
   refine aK ((by have hq:=ih k0 hk0 X.1[i] (hXm _ (aC h5'));simp only [hw,Prf.c_eq,Cond.c_eq] at hq;unfold scnC Mat.d Mat.c dLI dI at hq;exact hq)) wl ?_
   refine wv (h:=?_)
   repeat first|intro _|refine ⟨eZ,?_⟩
   refine wq (fun h8=>?_) fun h8=>?_
   ·have h8':we=0:=by simpa using h8
    rw [hw3 h8'] at hst
    simp only at hst
    rw [if_pos (by omega)] at hst
    have hR:Fg W=(Prf.mk 0 X.1[i] [Prf.mk wc wm wk],0):=by rw [← hst,h8'];rfl
    refine wv (h:=?_)
    exact hQ _ _ (by simp [go_sem,Y,hR,iN,iB,Prf.c_eq,lR,jE,eO,dLI,eT,e8])
   ·have h8':we≠0:=by simpa using h8
    refine c4 (fun h10=>?_) fun h10=>?_
    ·have h10':we≠10:=by simpa using h10
     rw [hw2,if_pos h10'] at hst
     have hR:Fg W=(iN,we):=by rw [← hst];unfold Fg;rw [if_neg h8']
     refine wv (h:=?_)
     exact hQ _ _ (by simp [go_sem,Y,hR,iN,iB,Prf.c_eq,lR,jE,eO,dLI,eT,e8])
    ·have h10':we=10:=by simpa using h10
     rw [hw2,if_neg (by omega)] at hst
     refine wv (h:=?_)
     repeat first|intro _|refine ⟨eZ,?_⟩
     exact wx hI0 (i+1) ⟨wg,wn,wn,wj,(by (exact hst))⟩
  ·rw [iL (by omega)] at hA
   simp only [iE,Qw] at hA
   have hR:Fg W=(iN,10):=by rw [← hA];rfl
   have Y:=wa Y h5
   refine wv (h:=?_)
   exact hQ _ _ (by simp [go_sem,Y,hR,iN,iB,Prf.c_eq,lR,jE,eO,dLI,eT,e8])
theorem Fr (t:Types)(ht:t.ok)(h:Host)(ho:HostOk t h)(inj:Bool):∀ (c:Cond) (p:Pattern),CondV t p c→PatOk t p→∀ m:Mat,MatOk t p h m →
  Pure Tryz.prog 332 [.agg (scnC t h inj),.agg c.c,m.d] (.tup [.agg (KT t h inj c m).1.c,dI (KT t h inj c m).2]):=by
 refine iP fun c ih p hC hp m hm=>?_
 obtain ⟨hK1,hK2⟩:=hC.kinds
 have hkl0:c.kids.length≤1000000:=by have:=J7 c.kids;have:=tM c;have:=hC.sz;omega
 have hex:c.kind=5→Pure Tryz.prog 388 [.agg (scnC t h inj),.agg c.c,m.d] (.tup [.agg (KT t h inj c m).1.c,dI (KT t h inj c m).2]):=fun h5=>by
  obtain ⟨hE,hCk⟩:=hC.ex h5 hp
  exact Dx t ht h ho inj c p hC hp h5 (fun k hk m' hm'=>ih k hk c.pattern (hCk k hk) hE.pq m' hm') m hm
 have hW:=Hh t h inj c m
 rw [OA] at hex ⊢
 obtain ⟨W,hWW⟩:∃ W,W=mF t h inj c m:=⟨_,rfl⟩
 rw [← hWW] at hW hex ⊢
 refine vY (by first|rfl|(simp [go_sem];done)) (fun Q hQ=>(aI (cfg:=⟨fun t=>t==6||t==8||t==10||t==12||t==13||t==16||t==17,fun r=>match r with|3=>[(0,10),(1,10),(2,10),(3,10),(4,10),(5,10),(6,10)]|_=>[]⟩) Tz.mixed Tryz.func332 rfl rfl (aF rfl) (by kernel_rfl) ?_))
 have Y:=wa @Cond.c_eq (wa @scnC.eq_1 (wa @Mat.d.eq_1 (wa @Mat.c.eq_1 @Prf.c_eq)))
 refine c4 (fun h2=>?_) fun h2=>?_
 ·have h2':c.kind=2:=by simpa using h2
  have hl:0<c.kids.length:=by have:=hK1 (.inl h2');omega
  obtain ⟨k0,hk0e⟩:∃ k,k=c.kids[0]:=⟨_,rfl⟩
  have hk0:k0∈c.kids:=hk0e ▸ aC hl
  have hC0:=hC.kid (by omega) k0 hk0
  obtain ⟨wc,wm,wk,we,hw,hw2,hw3⟩:=AX t h inj k0 m
  rw [if_pos h2',w5 hl,← hk0e,hw2] at hW
  unfold Qi at hW
  have Y:=wa Y (wa (aA hl) (wa (Eq.symm hk0e) h2'))
  refine wp (h:=aK ((by have hq:=ih k0 hk0 p hC0 hp m hm;simp only [hw,Prf.c_eq,Cond.c_eq] at hq;unfold scnC Mat.d Mat.c dLI dI at hq;exact hq)) wl ?_)
  refine tG (fun h5=>?_) fun h5=>?_
  ·rw [if_pos (by simpa using h5)] at hW
   have hR:Fg W=(iN,10):=by rw [hW];rfl
   refine wv (h:=?_)
   exact hQ _ _ (by simp [go_sem,Y,hR,iN,iB,Prf.c_eq,lR,jE,eO,dLI,eT,e8])
  ·rw [if_neg (by simpa using h5)] at hW
   refine c4 (fun h7=>?_) fun h7=>?_
   ·rw [if_pos (by simpa using h7)] at hW
    have hR:Fg W=(iN,0):=by rw [hW];rfl
    refine wv (h:=?_)
    exact hQ _ _ (by simp [go_sem,Y,hR,iN,iB,Prf.c_eq,lR,jE,eO,dLI,eT,e8])
   ·rw [if_neg (by simpa using h7)] at hW
    have hR:Fg W=(iN,we):=by rw [hW];unfold Fg;rw [if_neg (by simpa using h5)]
    refine wv (h:=?_)
    exact hQ _ _ (by simp [go_sem,Y,hR,iN,iB,Prf.c_eq,lR,jE,eO,dLI,eT,e8])
 ·have h2':c.kind≠2:=by simpa using h2
  rw [if_neg h2'] at hW
  refine c4 (fun h10=>?_) fun h10=>?_
  ·have h10':c.kind=3:=by simpa using h10
   have hCk:=hC.kid (by omega)
   rw [if_pos h10'] at hW
   have Y:=wa Y h10'
   refine wp (h:=wB (Ghosts.step (Ghosts.refl _) 1 0 4 282 5 _ _ ((by simp [go_sem];rfl)) rfl rfl rfl) (fun i e H=>∃ ps:List Prf,(e 3=.adr (scnC t h inj)∧e 4=.adr c.c∧e 5=.adr m.c∧e 6=.ptr 0 1 0 0∧e 20=dI c.kind∧e 10=.ptr 1 1 0 0∧e 45=.list (c.kids.map Cond.c)∧e 46=dI c.kids.length∧e 47=dI i)∧(H.get 0=some ⟨282,5,[[dI 0,.nil,.nil,.nil,.nil]],false⟩)∧(0<H.next)∧(H.get 1=some ⟨282,5,[[dI 0,.nil,.nil,.nil,.own 2 ps.length]],false⟩)∧(1<H.next)∧(H.get 2=some ⟨282,5,ps.map Prf.c,false⟩)∧(2<H.next)∧(i≤c.kids.length)∧(Iq ((c.kids.drop i).map fun k=>mF t h inj k m) ps=W)∧(ps.length≤i)∧(c.kids.length≤1000000)) (fun i=>c.kids.length - i) 0 ⟨([]),wg,wn,wn,wn,wn,wn,wn,wi,(by (exact hW.symm)),(by simp),(by (exact hkl0))⟩ fun I2 hI2 i e H hi2=>?_)
   obtain ⟨ps,E2,g0_2,n0_2,g1_2,n1_2,g2_2,n2_2,hi,hA,hpl,hkl⟩:=hi2
   have Y:=wa Y (wa E2 (wa g0_2 (wa (bZ n0_2) (wa g1_2 (wa (bZ n1_2) (wa g2_2 (bZ n2_2)))))))
   refine c4 (fun h13=>?_) fun h13=>?_
   ·obtain ⟨k1,hk1e⟩:∃ k,k=c.kids[i]:=⟨_,rfl⟩
    have hk1:k1∈c.kids:=hk1e ▸ aC h13
    obtain ⟨wc,wm,wk,we,hw,hw2,hw3⟩:=AX t h inj k1 m
    have hst:=hA
    rw [s9 _ h13,← hk1e] at hst
    simp only [Iq] at hst
    have Y:=wa Y (wa h13 (wa (aA h13) (Eq.symm hk1e)))
    refine wp (h:=aB ((by have hq:=ih k1 hk1 p (hCk k1 hk1) hp m hm;simp only [hw,Prf.c_eq,Cond.c_eq] at hq;unfold scnC Mat.d Mat.c dLI dI at hq;exact hq)) wl ?_)
    refine tG (fun h16=>?_) fun h16=>?_
    ·have h16':we≠0:=by simpa using h16
     rw [hw2,if_pos h16'] at hst
     have hR:Fg W=(iN,we):=by rw [← hst];unfold Fg;rw [if_neg h16']
     refine wv (h:=?_)
     exact hQ _ _ (by simp [go_sem,Y,hR,iN,iB,Prf.c_eq,lR,jE,eO,dLI,eT,e8])
    ·have h16':we=0:=by simpa using h16
     rw [hw2,if_neg (by omega),hw3 h16'] at hst
     exact wp (h:=wx hI2 (i+1) ⟨(ps++[.mk wc wm wk]),wg,wn,wn,wn,wn,wn,wn,wj,(by (exact hst)),(by (simp;omega)),(by exact hkl)⟩)
   ·rw [iL (by omega)] at hA
    simp only [iE,Iq] at hA
    have hR:Fg W=(.mk 0 iB ps,0):=by rw [← hA];rfl
    refine wv (h:=?_)
    exact hQ _ _ (by simp [go_sem,Y,hR,iN,iB,Prf.c_eq,lR,jE,eO,dLI,eT,e8])
  ·have h10':c.kind≠3:=by simpa using h10
   rw [if_neg h10'] at hW
   refine c4 (fun h21=>?_) fun h21=>?_
   ·have h21':c.kind=4:=by simpa using h21
    have hCk:=hC.kid (by omega)
    rw [if_pos h21'] at hW
    have Y:=wa Y h21'
    refine wp (h:=bA (fun i e H=>(e 3=.adr (scnC t h inj)∧e 4=.adr c.c∧e 5=.adr m.c∧e 6=.ptr 0 1 0 0∧e 20=dI c.kind∧e 73=.list (c.kids.map Cond.c)∧e 74=dI c.kids.length∧e 75=dI i)∧(H.get 0=some ⟨282,5,[[dI 0,.nil,.nil,.nil,.nil]],false⟩)∧(0<H.next)∧(i≤c.kids.length)∧(Qe ((c.kids.drop i).map fun k=>mF t h inj k m) i=W)) (fun i=>c.kids.length - i) 0 ⟨wg,wn,wn,wi,(by (exact hW.symm))⟩ fun I4 hI4 i e H hi4=>?_)
    obtain ⟨E4,g0_4,n0_4,hi,hA⟩:=hi4
    have Y:=wa Y (wa E4 (wa g0_4 (bZ n0_4)))
    refine c4 (fun h23=>?_) fun h23=>?_
    ·obtain ⟨k1,hk1e⟩:∃ k,k=c.kids[i]:=⟨_,rfl⟩
     have hk1:k1∈c.kids:=hk1e ▸ aC h23
     obtain ⟨wc,wm,wk,we,hw,hw2,hw3⟩:=AX t h inj k1 m
     have hst:=hA
     rw [s9 _ h23,← hk1e] at hst
     simp only [Qe] at hst
     have Y:=wa Y (wa h23 (wa (aA h23) (Eq.symm hk1e)))
     refine wp (h:=aB ((by have hq:=ih k1 hk1 p (hCk k1 hk1) hp m hm;simp only [hw,Prf.c_eq,Cond.c_eq] at hq;unfold scnC Mat.d Mat.c dLI dI at hq;exact hq)) wl ?_)
     refine tG (fun GM=>?_) fun GM=>?_
     ·have h26':we=0:=by simpa using GM
      rw [hw3 h26'] at hst
      simp only at hst
      rw [if_pos (by omega)] at hst
      have hR:Fg W=(.mk i iB [.mk wc wm wk],0):=by rw [← hst,h26'];rfl
      refine wv (h:=?_)
      exact hQ _ _ (by simp [go_sem,Y,hR,iN,iB,Prf.c_eq,lR,jE,eO,dLI,eT,e8])
     ·have h26':we≠0:=by simpa using GM
      refine c4 (fun h28=>?_) fun h28=>?_
      ·have h28':we≠10:=by simpa using h28
       rw [hw2,if_pos h28'] at hst
       have hR:Fg W=(iN,we):=by rw [← hst];unfold Fg;rw [if_neg h26']
       refine wv (h:=?_)
       exact hQ _ _ (by simp [go_sem,Y,hR,iN,iB,Prf.c_eq,lR,jE,eO,dLI,eT,e8])
      ·have h28':we=10:=by simpa using h28
       rw [hw2,if_neg (by omega)] at hst
       exact wp (h:=wx hI4 (i+1) ⟨wg,wn,wn,wj,(by (exact hst))⟩)
    ·rw [iL (by omega)] at hA
     simp only [iE,Qe] at hA
     have hR:Fg W=(iN,10):=by rw [← hA];rfl
     refine wv (h:=?_)
     exact hQ _ _ (by simp [go_sem,Y,hR,iN,iB,Prf.c_eq,lR,jE,eO,dLI,eT,e8])
   ·have h21':c.kind≠4:=by simpa using h21
    rw [if_neg h21'] at hW
    refine c4 (fun h32=>?_) fun h32=>?_
    ·have h32':c.kind=5:=by simpa using h32
     obtain ⟨vc,vm,vk,ve,hV⟩:∃ vc vm vk ve,Fg W=(Prf.mk vc vm vk,ve):=by
      cases hh:Fg W with
      | mk a b=>cases a;exact ⟨_,_,_,_,rfl⟩
     have Y:=wa Y h32'
     refine wv (h:=aB ((by have hq:=hex h32';simp only [hV,Prf.c_eq,Cond.c_eq,h32'] at hq;unfold scnC Mat.d Mat.c dLI dI at hq;exact hq)) wl ?_)
     refine wv (h:=?_)
     exact hQ _ _ (by simp [go_sem,Y,hV,iN,iB,Prf.c_eq,lR,jE,eO,dLI,eT,e8])
    ·have h32':c.kind≠5:=by simpa using h32
     rw [if_neg h32'] at hW
     have hR:Fg W=(iN,0):=by rw [hW];rfl
     refine wv (h:=?_)
     exact hQ _ _ (by simp [go_sem,Y,hR,iN,iB,Prf.c_eq,lR,jE,eO,dLI,eT,e8])
end Go.Abs
end
