/- slices.Collect of slices.Values at integers, in the world; s -/
import Derived.Test.YthalajhajpjjeaaGreatZhF
import Derived.Test.YthalajhajpjjeaaGreatZhP
import Derived.Test.YthalajhajpjjeaaGreatZhQ
import Derived.Test.YthalajhajpjjeaaGreatZhA
import Derived.RangeFuncBox
import Derived.RangeFuncLeaves
import Derived.Shelf.Abstract
import Derived.WalkKit
import Derived.OwnWalkIn
import Derived.TacticsInMore
import Derived.LoopNIn
import Derived.LoopIn
import Derived.Maps.AppendAt
import Derived.Shelf.Spec.SlicesInsert
import Derived.Lib.AppendZerosOnto
import Derived.Shelf.Bits.Mul64
import Derived.Deep.OwnRows
import Derived.Laws.NewBlocks
import Derived.Laws.CopyOwn
set_option linter.unusedVariables false
set_option linter.unusedSimpArgs false
section
set_option maxRecDepth 100000
set_option maxHeartbeats 4000000
namespace Go.Abs
open Go Go.Proofs Go.RowKit Go.Shelf
attribute [local go_sem] Oper.semAt_some
theorem FC:(Tryz.prog.info? 3).map (λi=>(i.zero,i.size,i.bytes))=some (some (.int .i64 0),1,8):=by kernel_rfl
theorem N7 (F:Fence)(n:Nat)(h7:F.fn 436)(hro:F.round=none)(hn:1<=n)(l n₀:Nat)(a ad:Addr)(cap:Nat)(zs:List Int)(hreach:zs.length<=1000000)(hb:zs≠[]->ad.block<n₀)(J Jx:List Int->World->Prop)
  (hY:∀ pre x W,J pre W->pre.length<zs.length->YieldAt F (n - 1) Tryz.prog l #[.int .i64 x] W λe W' =>
   (e=.returned (.bool true)/\J (pre++[x]) W'/\Below n₀ W W')\/(e=.returned (.bool false)/\Jx (pre++[x]) W'))
  (W:World) (hBs:W.cell? a=some (.slice (some ad) zs.length cap)) (hc:∀ j x,zs[j]?=some x->W.cell? (ad.add j)=some (.int .i64 x)) (h0:J [] W) :
  CallsIn F n Tryz.prog 436 #[.func (.yield l) #[] #[],.pointer (some a)] W λe W'=>(∃ v,e=.returned v) /\
   ((∃ ys,ys=zs/\J ys W')\/(∃ pre,True/\Jx pre W')):=by
 refine callsIn_of_wp Tryz.func436 rfl h7 ?_ hro
 simp only [Tryz.ntmps436,mP,eV,pQ,Nat.reduceAdd,Nat.reduceSub,AC,AB,Fd,Bo,fR,gU]
 gi_wp2
 gi_loopw [7] (λi wr=>∃ k:Nat,k<=zs.length/\i=.int .i64 k/\J (zs.take k) wr/\Below n₀ W wr)
  (λi _=>zs.length - (RowKit.intOf i).toNat)
 case atStart=>exact ⟨0,eJ _,rfl,h0,Below.refl _ _⟩
 case round =>
  obtain ⟨k,hk,rfl,hJs,hnx⟩:=hrel
  by_cases hlt:k<zs.length
  .have hcx':wr.cell? (ad.add k)=some (.int .i64 zs[k]):=(hnx.cell (p:=ad.add k) (by rw [gX];exact hb (λe=>by rw [e] at hlt;cases hlt))).trans (hc k _ (aA hlt))
   obtain ⟨fn,tmps,assign,body,hy,hR⟩:=hY _ zs[k] wr hJs (by simp;omega)
   gi_wp2
   refine hR.mono ?_
   rintro e W3 (⟨rfl,hJ3,hk3⟩|⟨rfl,hJx3⟩)
   .gi_wp2
    go_roundw
    case rel=>exact ⟨k+1,aD,by simp,by rw [List.take_succ_eq_append_getElem hlt];exact hJ3,hnx.trans hk3⟩
    case measure=>simp [RowKit.intOf];omega
   .gi_wp2
    refine bodyPost_ret (results_none rfl _ _ _) rfl ?_
    exact ⟨⟨_,rfl⟩,.inr ⟨_,trivial,hJx3⟩⟩
  .obtain rfl:k=zs.length:=aD
   gi_wp2
   go_end0
   exact ⟨⟨_,rfl⟩,.inl ⟨_,rfl,by rw [nY] at hJs;exact hJs⟩⟩
theorem Fi (F:Fence)(n:Nat)(g:F.fn 436)(b:F.round=none)(l:Nat)(a:Addr)(J:List Int->World->Prop)(W:World)(f:W.cell? a=some (.slice none 0 0))(h:J [] W) :
  CallsIn F n Tryz.prog 436 #[.func (.yield l) #[] #[],.pointer (some a)] W λe W'=>(∃ v,e=.returned v)/\J [] W':=by
 refine callsIn_of_wp Tryz.func436 rfl g ?_ b
 simp only [Tryz.ntmps436,mP,eV,pQ,Nat.reduceAdd,Nat.reduceSub,AC,AB,Fd,Bo,fR,gU]
 gi_wp2
 gi_loopw [7] (λi d=>i=.int .i64 0/\J [] d) (λ_ _=>0)
 case atStart=>exact ⟨rfl,h⟩
 case round =>
  obtain ⟨rfl,c⟩:=hrel
  gi_wp2
  go_end0
  exact ⟨⟨_,rfl⟩,c⟩
def IntsB (n₀:Nat)(W:World)(sv:Value)(zs:List Int):Prop :=
 (sv=.slice none 0 0/\zs=[])\/∃ ad cap,sv=.slice (some ad) zs.length cap/\(zs≠[]->ad.block<n₀)/\∀ j x,zs[j]?=some x->W.cell? (ad.add j)=some (.int .i64 x)
theorem IntsB.below {n₀:Nat}{A B:World}(h:Below n₀ A B){sv:Value}{zs:List Int}:IntsB n₀ A sv zs->IntsB n₀ B sv zs
 | .inl e=>.inl e
 | .inr ⟨ad,cap,e,hb,hc⟩=>.inr ⟨ad,cap,e,hb,λj x hj=>(h.cell (p:=ad.add j) (by rw [gX];exact hb (λe=>by rw [e] at hj;cases hj))).trans (hc j x hj)⟩
theorem JP (F:Fence)(n:Nat)(h7:F.fn 436)(hro:F.round=none)(hn:1<=n)(a:Addr)(n₀:Nat)(sv:Value)(zs:List Int)(hreach:zs.length<=1000000)(w:World)(hBs:a.block<w.heap.size)(hn₀:n₀<=w.heap.size)
  (hc:w.cell? a=some sv) (hI:IntsB n₀ w sv zs) :
  SeqStopsK F n Tryz.prog 436 #[.pointer (some a)] (λx:Int=>#[Value.int .i64 x]) (Below n₀) (λys=>ys=zs) (λ_=>True) zs.length w:=λl J Jx W hW _ _ hY h0=>by
 have hc':=(hW.cell (p:=a) hBs).trans hc
 rcases hI.below (hW.mono hn₀) with ⟨rfl,rfl⟩|⟨ad,cap,rfl,hb,hcs⟩
 .exact (Fi F n h7 hro l a J W hc' h0).mono λe W' ⟨he,hj⟩=>⟨he,.inl ⟨_,rfl,hj⟩⟩
 .exact N7 F n h7 hro hn l n₀ a ad cap zs hreach hb J Jx hY W hc' hcs h0
theorem KU (F:Fence)(n:Nat)(S:F.fn 456)(H:F.fn 436)(g:F.round=none)(Z:3<=n)(a:Addr)(t:Value)(zs:List Int)(m:zs.length<=1000000)(w:World)
  (G:a.block<w.heap.size) (E:w.cell? a=some t) (Q:IntsB w.heap.size w t zs) :
  CallsIn F n Tryz.prog 456 #[.slice none 0 0,.func (.func 436) #[] #[.pointer (some a)]] w λe W'=>∃ v,e=.returned v/\W'.ownsRow w.heap.size 3 1 v zs.length (zs.map (Value.int .i64))/\Below w.heap.size w W':=by
 have T:1<=n:=aD
 obtain ⟨J,N,z,y,u⟩:=info_parts FC
 refine callsIn_of_wp_marks Tryz.func456 rfl S ?_ g
 simp only [Tryz.ntmps456,mP,eV,pQ,Nat.reduceAdd,Nat.reduceSub,AC,AB,Fd,Bo,fR,gU]
 gi_wp2
 have U:=Boxed.new w 26 (.slice none 0 0)
 have j:Below w.heap.size w (w.alloc (.cells #[.slice none 0 0] 26)):=(Below.refl _ w).alloc (bC _) _
 refine wpIn_rangeFunc_ownG g T (gf:=436) (lb:=#[.pointer (some a)]) rfl H (enters_of Tryz.func436 (by kernel_rfl) rfl)
  (JP F (n - 1) H g aD a w.heap.size t zs m _ (by simp;omega) aF ((j.cell (p:=a) G).trans E) (Q.below j)) belowK_t (belowK_b aF) (Below.refl _ _) (λ_=>rfl)
  (λb W=>(∃ v,Boxed W w.heap.size 26 v/\W.ownsRow w.heap.size 3 1 v b.length (b.map (Value.int .i64))/\True)/\Below w.heap.size w W)
  (λ_ _ _=>False)
  (OwnFrom.and (Own.from (holdsRow_own w.heap.size w.heap.size 26 3 1 (λb=>b.length) (λb:List Int=>b.map (Value.int .i64)) (λ_ _=>True)) _) (ownFrom_below (bC _) aF))
  (λ_ _ _ _ _ L _ _=>L)
  ⟨⟨_,U,World.ownsRow_nil _ _ _ _,trivial⟩,j⟩
  (λx=>{ tmps:=#[.slice none 0 0,.func (.func 436) #[] #[.pointer (some a)],.pointer (some ⟨w.heap.size,0,none⟩),undef,.slice none 0 0,.int .i64 x,.func (.func 436) #[] #[.pointer (some a)],.int .i64 x,undef,undef,undef,undef,undef],defers:=[] }) ?assign ?body ?done ?stop
 case assign =>
  intro l x W K q
  gi_wp2
  exact q
 case body =>
  rintro l b x W ⟨⟨v,s,d,_⟩,r⟩ M
  have E:=s.cell
  gi_wp2_with (gi_at_builtin;refine wpListIn_append_own _ rfl _ _ 26 rfl w.heap.size 3 J (.int .i64 0) 1 8 Tryz.underlying26 N z y u rfl (by decide) _ _ _ rfl (d.alloc _) ⟨W.heap.size,0,none⟩ 1 1 [.int .i64 x] rfl rfl (cell_one_new _ _ _) (by simp [Value.oneCell']) (by simp only [maxLen];omega) aD (by have:=r.size;simp;omega) ?_;intro Y X f i _;obtain ⟨g',I,rfl⟩:=ownsRow_succ f;obtain ⟨k,A,B,C,o⟩:=s.appended (by decide) d r.size (bC _) f i;have P:=k.cell;have O:=k.frozen)
  exact ⟨C.from _,o,⟨_,A,by simpa using B,trivial⟩,r.trans o⟩
 case done =>
  rintro D V W R rfl ⟨⟨v,s,d,_⟩,r⟩ q
  have E:=s.cell
  gi_wp2
  refine ⟨by simp,.inl ⟨_,_,rfl,run_takeDeferred q,?_⟩⟩
  exact ⟨_,results_tmp rfl _ _ _,v,rfl,ownsRow_putObj d _ q rfl,r.trans (belowK_b (w:=w) (bC _) W D _ _ (by simp at R;omega) q rfl rfl)⟩
 case stop =>
  rintro D c b W _ _ h _
  exact h.elim
theorem Pt (F:Fence)(n:Nat)(m:F.fn 435)(l:F.fn 456)(k:F.fn 436)(c:F.round=none)(p:4<=n)(a:Addr)(f:Value)(zs:List Int)(d:zs.length<=1000000)(w:World)
  (g:a.block<w.heap.size) (h:w.cell? a=some f) (j:IntsB w.heap.size w f zs) :
  CallsIn F n Tryz.prog 435 #[.func (.func 436) #[] #[.pointer (some a)]] w λe W'=>∃ v,e=.returned v/\W'.ownsRow w.heap.size 3 1 v zs.length (zs.map (Value.int .i64))/\Below w.heap.size w W':=by
 refine callsIn_of_wp Tryz.func435 rfl m ?_ c
 simp only [Tryz.ntmps435,mP,eV,pQ,Nat.reduceAdd,Nat.reduceSub,AC,AB,Fd,Bo,fR,gU]
 gi_wp2_with (refine ⟨λ_=>by omega,(KU F (n - 1) l k c aD a f zs d _ g h j).mono ?_⟩;rintro e o ⟨v,rfl,b,i⟩)
 go_ret
 exact ⟨v,rfl,b,i⟩
theorem Nu (l:List Int)(y:l.length<=1000000):Own Tryz.prog 435 [.fn 436 [.adr [dLI l]]] 3 1 (l.map cI):=by
 refine ⟨⟨Tryz.f435,Tryz.func435,rfl,rfl⟩,λM w m V P=>?_⟩
 obtain ⟨t,s⟩:=P
 match m,t with
 | [v],_ =>
  have R:=s 0 v _ rfl rfl
  obtain ⟨p,rfl,J⟩:∃ p,v=.func (.func 436) #[] #[p]/\RepV M gQ p5 w p (.adr [dLI l]):=by
   cases R with
   | fn _ vs _ y s=>match vs,y with
    | [p],_=>exact ⟨p,rfl,s 0 p _ rfl rfl⟩
  obtain ⟨a,b,rfl,A,o⟩:∃ a b,p=.pointer (some a)/\(¬ M a.block/\w.cell? (a.add 0)=some b)/\RepV M gQ p5 w b (dLI l):=by
   cases J with
   | adr a i _ y J E s=>match i,y with
    | [b],_=>exact ⟨a,b,rfl,E 0 b rfl,s 0 b _ rfl rfl⟩
  have z:=A.2
  have f:w.cell? a=some b:=by rw [show a.add 0=a by unfold Addr.add;simp] at z;exact z
  have F:=World.block_lt_of_cell? w _ f
  have Q:IntsB w.heap.size w b l:=by
   unfold dLI at o
   rcases rT o with ⟨rfl,C⟩|⟨K,G,T,i,rfl,d,_,h,_,_,_⟩
   .exact .inl ⟨rfl,by simpa using C⟩
   .have hcl:∀ j x,l[j]?=some x->w.cell? (K.add j)=some (.int .i64 x):=λj x H=>by
     have g:=d.len
     rw [z7,aS] at g
     have N:j<l.length:=(aL.1 H).1
     have n:i[j]?=some i[j]:=aA aD
     have I:=d.rep j _ (D.int .i64 x) n (by rw [z7,aH,H];rfl)
     generalize U:i[j]=q at n I
     cases I
     exact (h j _ n).2
    refine .inr ⟨K,G,by simp,λB=>?_,hcl⟩
    have L:0<l.length:=jN.2 B
    have:=World.block_lt_of_cell? w _ (hcl 0 _ (aA L))
    rwa [gX] at this
  refine (CallsIn.calls (Pt Fence.wide 4 trivial trivial trivial rfl (bC _) a b l y w F f Q) (λk=>room_wide k)).mono λe S ⟨v,C,r,O⟩=>?_
  exact ⟨v,_,C,by simpa using r,λu n=>by obtain ⟨x,_,rfl⟩:=aQ.1 n;rfl,zM l,qX l,λc E=>by obtain ⟨x,_,rfl⟩:=aQ.1 E;rfl,O⟩
theorem Lm (l:List Int):Pure Tryz.prog 383 [dLI l] (.fn 436 [.adr [dLI l]]):=by
 refine Tz.pK ⟨λ_=>false,λ_=>[]⟩ Tryz.func383 rfl (λQ a=>?_)
 have Y:=trivial
 exact wv (h:=a _ _ wy)
theorem Om (l:List Int)(a:l.length<=1000000):Own Tryz.prog 382 [.fn 436 [.adr [dLI l]]] 3 1 ((lC l).map cI):=by
 refine Tz.oK ⟨λt=>t==5||t==3||t==2,λ_=>[]⟩ Tryz.func382 rfl (λQ b=>?_)
 have Y:=trivial
 refine wv (h:=kY (Nu l a) wl ?_)
 refine wv (h:=?_)
 unfold g5;refine Fx (ty:=3) (xs:=l) (by simp [go_sem]) a ?_
 refine wv (h:=?_)
 exact b _ _ _ (by simp [go_sem,Y,kU]) (by simp [go_sem,Y,kU])
end Go.Abs
end
section
set_option maxRecDepth 100000
set_option maxHeartbeats 4000000
open Go Go.Proofs
namespace Go.Abs
theorem Bz (l:List Int)(f:l.length<=1000):Pure Tryz.prog 325 [dLI l] (.bool (decide (¬ l.Nodup))):=by
 have a:=kU l
 have b:decide (imagesN l<l.length)=decide (¬ l.Nodup):=by
  have c:=Ee l
  have g:imagesN l<=l.length:=by unfold imagesN;have:=G7 (lC l);omega
  rw [aX];simp only [decide_eq_true_eq]
  constructor
  .intro h hn;have:=c.2 hn;omega
  .intro hn;have:imagesN l≠l.length:=λd=>hn (c.1 d);omega
 unfold imagesN at b
 refine Tz.pK ⟨λ_=>false,λ_=>[]⟩ Tryz.func325 rfl (λQ e=>?_)
 have Y:=trivial
 refine wo (h:=aB (Lm l) wl ?_)
 refine wo (h:=kY (Om l aD) wl ?_)
 refine wo (h:=?_)
 unfold g5;refine En (ty:=3) (xs:=lC l) (by simp [go_sem]) aD λk=>?_
 exact wo (h:=e _ _ (by simp [go_sem,b]))
theorem OV (t:Types)(p g:Graph)(m:Part)(a:Bool):matchE t p g m a=if matchE t p g m false≠0 then matchE t p g m false else if a=true/\(¬ m.nodes.Nodup\/¬ m.edges.Nodup) then 5 else 0:=by
 unfold matchE
 split
 .simp
 .split
  .simp_all
  .split
   .simp_all
   .simp
theorem vQ (t:Types)(k:t.ok)(p g:Graph)(m:Part)(a:Bool):Pure Tryz.prog 230 [t.d,p.d,g.d,m.d,.bool a] (dI (checkE t p g m a)):=by
 refine Tz.pK ⟨λ_=>false,λ_=>[]⟩ Tryz.func230 rfl (λQ e=>?_)
 have Y:=trivial
 refine wv (h:=aB (qV t k p g) wl ?_)
 refine d7 (λc=>?_) λc=>?_
 .have b:checkE t p g m a=dM t p g:=by unfold checkE;rw [if_pos (bS c)]
  exact wv (h:=e _ _ (by simp [go_sem,b]))
 .have hG:=o8 (bS c)
  have l:=zX (bS c)
  have n:=cJ hG.gp
  have b:checkE t p g m a=matchE t p g m a:=by unfold checkE;rw [if_neg (bS c)]
  rw [OV] at b
  refine wv (h:=aB (BA t k p g hG l m) wl ?_)
  refine d7 (λf=>?_) λf=>?_
  .rw [if_pos (bS f)] at b
   exact wv (h:=e _ _ (by simp [go_sem,b]))
  .rw [if_neg (bS f)] at b
   have o:=(Dd (show matchE t p g m false=0 by simpa using f)).1
   refine wo (h:=aO (λi=>Bz m.nodes aD) (λi=>wl) ?_)
   refine wo (h:=aO (λi=>Bz m.edges aD) (λi=>wl) ?_)
   refine f9 (λj=>?_) λj=>?_
   .rw [if_pos (bS j)] at b
    exact wv (h:=e _ _ (by simp [go_sem,b]))
   .rw [if_neg (bS j)] at b
    exact wv (h:=e _ _ (by simp [go_sem,b]))
theorem xB (p:Pattern)(h:Host)(m:Part)(N:SOk p h m):Pure Tryz.prog 178 [p.d,h.d,m.d] (.tup [dLI (fB p h m []).1,dI (fB p h m []).2]):=by
 have hv:=N.vars
 have h0:=Sz (vs:=[]) hv.1 aF aF
 rw [PX] at h0
 refine Tz.pK ⟨λt=>t==11||t==15,λr=>match r with|1=>[(2,3),(2,4),(0,5),(1,5),(2,5)]|_=>[]⟩ Tryz.func178 rfl (λQ P=>?_)
 have Y:=wa @Pattern.d.eq_1 (wa @Pattern.c.eq_1 (wa @Host.d.eq_1 (wa @Host.c.eq_1 (wa @Part.d.eq_1 (wa @Part.c.eq_1 @Term.c.eq_1)))))
 refine wv (h:=?_)
 repeat first|intro _|refine ⟨eK,?_⟩
 refine bV (λi e H=>∃ l:List Int × List Bool,(e 3=.adr p.c/\e 4=.adr h.c/\e 5=.adr m.c/\e 8=.own 2 p.vars.toNat/\e 9=.own 5 p.vars.toNat/\e 23=.list (p.slots.map Slot.c)/\e 24=dI p.slots.length/\e 25=dI i)/\(H.get 2=some ⟨3,1,l.1.map cI,false⟩)/\(2<H.next)/\(H.get 5=some ⟨4,1,l.2.map cB,false⟩)/\(5<H.next)/\(i<=p.slots.length)/\(StOk p.vars.toNat l)/\(slotsV h m (Ok p []) (p.slots.take i)=some l)) (λi=>p.slots.length - i) 0 ⟨((List.replicate p.vars.toNat 0,List.replicate p.vars.toNat false)),wg,(by simp [go_sem,cI]),wn,(by simp [go_sem,cB]),wn,wi,(by exact h0),(by rw [PX];rfl)⟩ λI0 C i e H a2=>?_
 obtain ⟨l,E0,Z,T,W,R,hi,q,I⟩:=a2
 have Y:=wa Y (wa E0 (wa Z (wa (b8 T) (wa W (b8 R)))))
 refine d7 (λE=>?_) λE=>?_
 .obtain ⟨x,U⟩:=cC (p.slots[i])
  have A:x∈p.slots:=U ▸ aC E
  have hn:=N.node x A
  have s:x.node.toNat<m.nodes.length:=aD
  have hk:=N.img _ (aC s)
  have w:(m.nodes[x.node.toNat]).toNat<h.values.length:=aD
  have ha:=N.attr x A
  rw [aA s,Option.getD_some,aA w,Option.getD_some] at ha
  have B:x.attr.toNat<(h.values[(m.nodes[x.node.toNat]).toNat]).length:=aD
  have hV:haveV h m x=h.values[(m.nodes[x.node.toNat]).toNat][x.attr.toNat]:=by unfold haveV;rw [aA s,Option.getD_some,aA w,Option.getD_some,aA B];rfl
  have hb:=N.have_ A
  have L:=N.term x A
  have v:=q.l1
  have J:=q.l2
  have a5:=L.1
  have a6:=L.2
  have n:=DM E I
  rw [<- U] at n
  obtain ⟨o,a⟩:∃ y,y=nE h m l x:=⟨_,rfl⟩
  have j:StOk p.vars.toNat o:=a ▸ FB q hb L
  rw [<- a] at n
  have f:¬ 0<=x.term.var->o=l:=λhn=>by rw [a];unfold nE rZ;rw [if_neg (by simp [hn])]
  have F:0<=x.term.var->x.term.var.toNat<l.2.length:=λhn=>by omega
  obtain ⟨kb,V⟩:=cC (l.2[x.term.var.toNat]?.getD false)
  have K:0<=x.term.var\/(¬ 0<=x.term.var/\l.2[x.term.var.toNat]?=none)\/(¬ 0<=x.term.var/\l.2[x.term.var.toNat]?=some kb):=by
   by_cases G:0<=x.term.var
   .exact .inl G
   .right
    cases ho:l.2[x.term.var.toNat]? with
    | none=>exact .inl ⟨G,rfl⟩
    | some b=>rw [ho] at V;exact .inr ⟨G,by rw [V];rfl⟩
  rcases K with hc|hc|hc
  .have Y:=wa Y (wa E (wa (aA E) (wa (Eq.symm U) (wa (aA s) (wa (aA w) (wa (aA B) (wa (Eq.symm hV) (wa @Slot.c.eq_1 (wa @cL.eq_1 (wa v (wa J (wa @rG (wa @cB.eq_1 (wa hc ((aA (F hc)))))))))))))))))
   refine wv (h:=?_)
   repeat first|intro _|refine ⟨eK,?_⟩
   refine wq (λh7=>?_) λh7=>?_
   .have hF:rZ l x=true:=by simp only [rZ,aN,decide_eq_true_eq,cG];exact ⟨hc,by simpa [aA (F hc)] using h7⟩
    unfold nE at a
    rw [if_pos hF] at a
    have a0:x.term.var.toNat<l.1.length:=aD
    have e1:o.1.map cI=(l.1.map cI).set x.term.var.toNat (cI (haveV h m x - x.term.add)):=by rw [a,dU]
    have e2:o.2.map cB=(l.2.map cB).set x.term.var.toNat (cB true):=by rw [a,dU]
    have a4:D.clLL ((l.1.map cI).set x.term.var.toNat [D.int .i64 (haveV h m x - x.term.add)])=true:=by have:=qX o.1;rw [e1] at this;exact this
    have Y:=wa Y (wa e1 (wa e2 (wa @dLI.eq_1 (wa @cI.eq_1 (wa (aA a0) a4)))))
    refine wv (h:=?_)
    repeat first|intro _|refine ⟨eK,?_⟩
    refine iG (k6 x.term o.1 (by rw [j.l1];exact L) j.big) wr wl rfl ?_
    refine wv (h:=?_)
    repeat first|intro _|refine ⟨eK,?_⟩
    refine wq (λg=>?_) λg=>?_
    .have hR:=i4 (n.2 (by first|simpa using g|simpa [f hc.1] using g|simpa [a] using g))
     exact wv (h:=P _ _ (by simp [go_sem,hR]))
    .have hstep:=n.1 (by first|simpa using g|simpa [f hc.1] using g|simpa [a] using g)
     refine wv (h:=?_)
     repeat first|intro _|refine ⟨eK,?_⟩
     exact wx C (i+1) ⟨o,wg,(by simp [go_sem,Y]),wn,(by simp [go_sem,Y]),wn,wj,(by exact j),(by exact hstep)⟩
   .have hF:¬ rZ l x=true:=by simp only [rZ,aN,decide_eq_true_eq,cG];rintro ⟨_,hk⟩;simp [aA (F hc)] at hk;simp [hk] at h7
    unfold nE at a
    rw [if_neg hF] at a
    have Y:=wa Y a
    refine wv (h:=iG (k6 x.term o.1 (by rw [j.l1];exact L) j.big) wr wl rfl ?_)
    refine d7 (λg=>?_) λg=>?_
    .have hR:=i4 (n.2 (by first|simpa using g|simpa [f hc.1] using g|simpa [a] using g))
     exact wv (h:=P _ _ (by simp [go_sem,hR]))
    .have hstep:=n.1 (by first|simpa using g|simpa [f hc.1] using g|simpa [a] using g)
     refine wv (h:=?_)
     repeat first|intro _|refine ⟨eK,?_⟩
     exact wx C (i+1) ⟨o,wg,(by simp [go_sem,Y]),wn,(by simp [go_sem,Y]),wn,wj,(by exact j),(by exact hstep)⟩
  .have Y:=wa Y (wa E (wa (aA E) (wa (Eq.symm U) (wa (aA s) (wa (aA w) (wa (aA B) (wa (Eq.symm hV) (wa @Slot.c.eq_1 (wa @cL.eq_1 (wa v (wa J (wa @rG (wa @cB.eq_1 (wa hc.1 (wa hc.2 (f hc.1))))))))))))))))
   refine wv (h:=?_)
   repeat first|intro _|refine ⟨eK,?_⟩
   refine iG (k6 x.term o.1 (by rw [j.l1];exact L) j.big) wr wl rfl ?_
   refine wv (h:=?_)
   repeat first|intro _|refine ⟨eK,?_⟩
   refine wq (λg=>?_) λg=>?_
   .have hR:=i4 (n.2 (by first|simpa using g|simpa [f hc.1] using g|simpa [a] using g))
    exact wv (h:=P _ _ (by simp [go_sem,hR]))
   .have hstep:=n.1 (by first|simpa using g|simpa [f hc.1] using g|simpa [a] using g)
    refine wv (h:=?_)
    repeat first|intro _|refine ⟨eK,?_⟩
    exact wx C (i+1) ⟨o,wg,(by simp [go_sem,Y]),wn,(by simp [go_sem,Y]),wn,wj,(by exact j),(by exact hstep)⟩
  .have Y:=wa Y (wa E (wa (aA E) (wa (Eq.symm U) (wa (aA s) (wa (aA w) (wa (aA B) (wa (Eq.symm hV) (wa @Slot.c.eq_1 (wa @cL.eq_1 (wa v (wa J (wa @rG (wa @cB.eq_1 (wa hc.1 (wa hc.2 (f hc.1))))))))))))))))
   refine wv (h:=?_)
   repeat first|intro _|refine ⟨eK,?_⟩
   refine iG (k6 x.term o.1 (by rw [j.l1];exact L) j.big) wr wl rfl ?_
   refine wv (h:=?_)
   repeat first|intro _|refine ⟨eK,?_⟩
   refine wq (λg=>?_) λg=>?_
   .have hR:=i4 (n.2 (by first|simpa using g|simpa [f hc.1] using g|simpa [a] using g))
    exact wv (h:=P _ _ (by simp [go_sem,hR]))
   .have hstep:=n.1 (by first|simpa using g|simpa [f hc.1] using g|simpa [a] using g)
    refine wv (h:=?_)
    repeat first|intro _|refine ⟨eK,?_⟩
    exact wx C (i+1) ⟨o,wg,(by simp [go_sem,Y]),wn,(by simp [go_sem,Y]),wn,wj,(by exact j),(by exact hstep)⟩
 .rw [aY aD] at I
  have M:=vM I
  have v:=q.l1
  have Y:=wa Y v
  refine wv (h:=?_)
  repeat first|intro _|refine ⟨eK,?_⟩
  refine bV (λk e H=>(e 3=.adr p.c/\e 4=.adr h.c/\e 5=.adr m.c/\e 8=.own 2 p.vars.toNat/\e 74=.list (p.tests.map Test.c)/\e 75=dI p.tests.length/\e 76=dI k)/\(H.get 2=some ⟨3,1,l.1.map cI,false⟩)/\(2<H.next)/\(k<=p.tests.length)/\((p.tests.take k).all (λx=>Oc x l.1)=true)) (λk=>p.tests.length - k) 0 ⟨wg,wn,wn,wi,(by rfl)⟩ λI2 a3 k e H a1=>?_
  obtain ⟨E2,X,S,hk,z⟩:=a1
  have Y:=wa Y (wa E2 (wa X (b8 S)))
  refine d7 (λu=>?_) λu=>?_
  .have Y:=wa Y (wa u (wa (aA u) @Test.c.eq_1))
   refine wv (h:=?_)
   repeat first|intro _|refine ⟨eK,?_⟩
   refine iG (vC p.tests[k] l.1 (by rw [q.l1];exact N.test _ (aC u)) q.big) wr wl rfl ?_
   refine wv (h:=?_)
   repeat first|intro _|refine ⟨eK,?_⟩
   refine wq (λO=>?_) λO=>?_
   .have hR:fB p h m []=([],16):=by
     rw [M,if_neg]
     intro ha
     rw [cD] at ha
     have:=ha _ (aC u)
     simp [this] at O
    exact wv (h:=P _ _ (by simp [go_sem,hR]))
   .refine wv (h:=?_)
    repeat first|intro _|refine ⟨eK,?_⟩
    exact wx a3 (k+1) ⟨wg,wn,wn,wj,(by rw [List.take_succ_eq_append_getElem u,List.all_append,z];simp;simpa using O)⟩
  .rw [aY aD] at z
   rw [if_pos z] at M
   exact wv (h:=P _ _ (by simp [go_sem,Y,M,dLI]))
theorem xC (t:Types)(b:t.ok)(p:Pattern)(h:Host):Pure Tryz.prog 176 [t.d,p.d,h.d] (dI (Dl t p h)):=by
 refine Tz.pK ⟨λ_=>false,λ_=>[]⟩ Tryz.func176 rfl (λQ e=>?_)
 have Y:=wa @Host.d.eq_1 @Host.c.eq_1
 refine wv (h:=aB (mW t b p) wl ?_)
 refine d7 (λa=>?_) λa=>?_
 .exact wv (h:=e _ _ (by simp [go_sem,Dl,a]))
 .refine wv (h:=aB (wB t b h) wl ?_)
  exact wv (h:=e _ _ (by simp [go_sem,Dl,a,fA]))
theorem xD (t:Types)(i:t.ok)(p:Pattern)(h:Host)(m:Part):Pure Tryz.prog 231 [t.d,p.d,h.d,m.d] (.tup [dLI (eL t p h m).1,dI (eL t p h m).2]):=by
 refine Tz.pK ⟨λ_=>false,λ_=>[]⟩ Tryz.func231 rfl (λQ g=>?_)
 have Y:=wa @Pattern.d.eq_1 (wa @Pattern.c.eq_1 (wa @Host.d.eq_1 @Host.c.eq_1))
 refine wv (h:=aB (xC t i p h) wl ?_)
 refine d7 (λa=>?_) λa=>?_
 .have e:eL t p h m=([],Dl t p h):=by
   unfold eL Dl
   unfold Dl at a
   by_cases b:bR t p=0
   .rw [if_neg aD] at a ⊢
    rw [if_pos a,if_neg aD]
   .rw [if_pos b,if_pos b]
  exact wv (h:=g _ _ (by simp [go_sem,e]))
 .have hp0:bR t p=0:=by
   unfold Dl at a
   refine bA λb=>?_
   rw [if_pos b] at a;exact b a
  have f:fA t h=0:=by unfold Dl at a;rw [if_neg aD] at a;exact a
  refine wv (h:=aB (vQ t i p.graph h.graph m false) wl ?_)
  refine d7 (λj=>?_) λj=>?_
  .have e:eL t p h m=([],checkE t p.graph h.graph m false):=by unfold eL;rw [if_neg aD,if_neg aD,if_pos j]
   exact wv (h:=g _ _ (by simp [go_sem,e]))
  .have h5':checkE t p.graph h.graph m false=0:=aD
   have e:eL t p h m=fB p h m []:=by unfold eL;rw [if_neg aD,if_neg aD,if_neg aD]
   refine wv (h:=aB (xB p h m (W4 (Mr (.inr hp0)) (hostOk f) (vY (Ae h5').2))) wl ?_)
   exact wv (h:=g _ _ (by simp [go_sem,e]))
theorem Cz (t:Types)(F:t.ok)(p:Pattern)(h:Host)(a:Bool):Pure Tryz.prog 79 [t.d,p.d,h.d,.bool a] (.tup [.list ((f6 t p h a).1.map Mat.c),dI (f6 t p h a).2]):=by
 refine Tz.pK ⟨λt=>t==13||t==15,λ_=>[]⟩ Tryz.func79 rfl (λQ D=>?_)
 have Y:=wa @Pattern.d.eq_1 (wa @Pattern.c.eq_1 (wa @Host.d.eq_1 @Host.c.eq_1))
 refine wv (h:=aB (xC t F p h) wl ?_)
 refine d7 (λf=>?_) λf=>?_
 .have hS:f6 t p h a=([],Dl t p h):=by
   unfold f6 Dl
   unfold Dl at f
   by_cases r:bR t p=0
   .rw [if_neg aD] at f ⊢
    rw [if_pos f,if_neg aD]
   .rw [if_pos r,if_pos r]
  exact wv (h:=D _ _ (by simp [go_sem,hS]))
 .have hp0:bR t p=0:=by
   unfold Dl at f
   refine bA λr=>?_
   rw [if_pos r] at f;exact r f
  have C:fA t h=0:=by unfold Dl at f;rw [if_neg aD] at f;exact f
  have l:∀ x∈(nO t p.graph h.graph a).1,MOk t p.graph h.graph x:=λx J=>Sa J
  refine wv (h:=aB (On t F p.graph h.graph a) wl ?_)
  refine d7 (λI=>?_) λI=>?_
  .have hS:f6 t p h a=([],(nO t p.graph h.graph a).2):=by unfold f6;rw [if_neg aD,if_neg aD,if_pos I]
   exact wv (h:=D _ _ (by simp [go_sem,hS]))
  .have hS:f6 t p h a=(rL p h [] (nO t p.graph h.graph a).1,0):=by unfold f6;rw [if_neg aD,if_neg aD,if_neg aD]
   obtain ⟨L,G⟩:=cC ((nO t p.graph h.graph a).1)
   have m:=NS t p.graph h.graph a
   rw [<- G] at hS l m
   have E:=l
   have Y:=wa Y (Eq.symm G)
   refine wp (h:=bV (λi e H=>∃ k:List Mat,(e 4=.adr t.c/\e 5=.adr p.c/\e 6=.adr h.c/\e 3=.bool a/\e 38=.list (L.map Part.c)/\e 39=dI L.length/\e 13=.own 0 k.length/\e 40=dI i)/\(H.get 0=some ⟨46,3,k.map Mat.c,false⟩)/\(0<H.next)/\(i<=L.length)/\(k=rL p h [] (L.take i))/\(k.length<=i)/\(L.length<=5000)) (λi=>L.length - i) 0 ⟨([]),wg,wn,wn,wi,(by rfl),(by simp),(by exact m)⟩ λO u i e H B=>?_)
   obtain ⟨k,M,w,q,N,j,K,s⟩:=B
   have Y:=wa Y (wa M (wa w (b8 q)))
   refine d7 (λo=>?_) λo=>?_
   .obtain ⟨v,z⟩:=cC (fB p h L[i] [])
    obtain ⟨g,b⟩:∃ y,y=k++if v.2=0 then [(⟨L[i],v.1⟩:Mat)] else []:=⟨_,rfl⟩
    have Y:=wa Y (wa o (wa (aA o) @Part.c.eq_1))
    refine wp (h:=aB ((by have A:=xB p h L[i] (W4 (Mr (.inr hp0)) (hostOk C) (E _ (aC o)));rw [<- z] at A;unfold Pattern.d Pattern.c Host.d Host.c Part.d Part.c dLI dI at A;exact A)) wl ?_)
    refine vJ (λn=>?_) λn=>?_
    .have hm3:g=k++[⟨L[i],v.1⟩]:=by rw [b,if_pos (bS n)]
     have Y:=wa Y (wa hm3 @Mat.c.eq_1)
     exact wp (h:=wx u (i+1) ⟨g,wg,wn,wn,wj,(by rw [List.take_succ_eq_append_getElem o,vL,<- j,<- z];exact b),(by rw [b];split<;>simp<;>omega),(by exact s)⟩)
    .have hm3:g=k:=by rw [b,if_neg (bS n),jV]
     have Y:=wa Y hm3
     exact wp (h:=wx u (i+1) ⟨g,wg,wn,wn,wj,(by rw [List.take_succ_eq_append_getElem o,vL,<- j,<- z];exact b),(by rw [b];split<;>simp<;>omega),(by exact s)⟩)
   .rw [aY aD] at j
    exact wv (h:=D _ _ (by simp [go_sem,Y,hS,<- j]))
end Go.Abs
end
section
set_option maxRecDepth 100000
set_option maxHeartbeats 4000000
open Go Go.Proofs Go.RowKit Go.Shelf Go.Lib
namespace Go.Abs
theorem Q2 (x y:Nat)(j:x<18446744073709551616)(i:y<18446744073709551616)(w:World) :
  Calls Tryz.prog 391 #[.int .u64 x,.int .u64 y] w λe w'=>e=.returned (.tuple #[.int .u64 ((x * y / 18446744073709551616:Nat):Int),.int .u64 ((x * y % 18446744073709551616:Nat):Int)])/\w'=w:=by
 obtain ⟨n,k,l,c⟩:=Lib.mul64_hi x y j i
 have q:=Lib.half_mul_le (a:=x / 4294967296) (b:=y / 4294967296) aD aD
 have p:=Lib.half_mul_le (a:=x / 4294967296) (b:=y % 4294967296) aD aD
 have o:=Lib.half_mul_le (a:=x % 4294967296) (b:=y / 4294967296) aD aD
 have h:x / 4294967296 * (y / 4294967296)<18446744073709551616:=aD
 have g:x / 4294967296 * (y % 4294967296)<18446744073709551616:=aD
 have f:x % 4294967296 * (y / 4294967296)<18446744073709551616:=aD
 have d:x / 4294967296 * (y / 4294967296)+(x / 4294967296 * (y % 4294967296)+x % 4294967296 * (y % 4294967296) / 4294967296) / 4294967296<18446744073709551616:=aD
 have m:x / 4294967296 * (y / 4294967296)+(x / 4294967296 * (y % 4294967296)+x % 4294967296 * (y % 4294967296) / 4294967296) / 4294967296+((x / 4294967296 * (y % 4294967296)+x % 4294967296 * (y % 4294967296) / 4294967296) % 4294967296+x % 4294967296 * (y / 4294967296)) / 4294967296<18446744073709551616:=aD
 go_enter Tryz.func391,Tryz.ntmps391
 go_wp2
 simp only [Mul64.maskN x j,Mul64.maskN y i,Mul64.divN,Mul64.mulN,Mul64.addN,Mul64.wrapN _ n,Mul64.wrapN _ g,Mul64.wrapN _ k,Mul64.maskN _ k,Mul64.wrapN _ f,Mul64.wrapN _ l,Mul64.wrapN _ h,Mul64.wrapN _ d,Mul64.wrapN _ m,Mul64.wrapM (x * y)]
 rw [c]
 go_ret2
 exact ⟨rfl,rfl⟩
theorem Ui (x y:Nat)(d:x<18446744073709551616)(c:y<18446744073709551616)(w:World) :
  Calls Tryz.prog 335 #[.int .u64 x,.int .u64 y] w λe w'=>e=.returned (.tuple #[.int .u64 ((x * y / 18446744073709551616:Nat):Int),.int .u64 ((x * y % 18446744073709551616:Nat):Int)])/\w'=w:=by
 have a:=Q2 x y d c w
 have b:∀ args w,(callFunc 391 args).run Tryz.prog w=.ok (.enter 391 args) w:=enters_of Tryz.func391 (by kernel_rfl) rfl
 go_enter Tryz.func335,Tryz.ntmps335
 go_wp2_with (go_at_fn 391;refine a.mono ?_;rintro e w' ⟨rfl,f⟩;rw [f])
 go_ret2
 exact ⟨rfl,rfl⟩
def mY (v:Int)(n k:Nat):List Value:=List.replicate k (.int .i64 v)++List.replicate (n - k) (.int .i64 0)
theorem LZ {v:Int}{n k m:Nat}(h:k+m<=n):(mY v n k).take k++List.replicate m (.int .i64 v)++(mY v n k).drop (k+m)=mY v n (k+m):=by
 unfold mY
 rw [List.take_left' aF,List.drop_append,jU,wR aF,fR,List.drop_replicate,<- List.replicate_append_replicate]
 congr 2
 omega
theorem Kb (v:Int)(n:Nat)(hn:n<=1000)(ad:Addr)(cap:Nat)(w:World)(hc:w.cell? ad=some (.int .i64 v)) :
  Calls Tryz.prog 242 #[.slice (some ad) 1 cap,.int .i64 n] w λe w'=>∃ v',e=.returned v'/\w'.ownsRow w.heap.size 3 1 v' n (List.replicate n (.int .i64 v))/\Below w.heap.size w w':=by
 have hsz:(Tryz.prog.info? 3).map (·.size)=some 1:=by kernel_rfl
 have cM:=λw=>Ui 1 n aD aD w
 have e1:∀ args w,(callFunc 335 args).run Tryz.prog w=.ok (.enter 335 args) w:=enters_of Tryz.func335 (by kernel_rfl) rfl
 have hmk:=λw=>run_make_row' (P:=Tryz.prog) 26 3 (.int .i64 0) 8 Tryz.underlying26 FC rfl .i64 .i64 n aD aD w
 have hq1:(1 * n) / 18446744073709551616=0:=aD
 have hq2:(1 * n) % 18446744073709551616=n:=aD
 have hn0:¬ ((n:Int)<0):=aD
 have hn1:¬ ((9223372036854775807:Int)<n):=aD
 have cpy:∀ (k m:Nat) (W:World) (ty dl dc:Nat) (a:Addr) (sl sc:Nat),k+m<=n->m=Nat.min sl dl->W.heap[w.heap.size]?=some (.cells (mY v n k).toArray 3 (0,0))->(∀ (j:Nat) (u:Value),(List.replicate m (Value.int .i64 v))[j]?=some u->W.cell? (a.add j)=some u) ->
   (Builtin.copy_ #[26,26] ty #[.slice (some ⟨w.heap.size,k,none⟩) dl dc,.slice (some a) sl sc]).run Tryz.prog W=.ok (goInt m) (W.setRow w.heap.size (mY v n (k+m)).toArray):=λk m W ty dl dc a sl sc hkm hm hb hs=>by
  rw [<- LZ hkm]
  have:=HN (P:=Tryz.prog) W 26 26 ty 3 1 w.heap.size k dl dc a sl sc m (mY v n k).toArray 3 (List.replicate m (.int .i64 v)) Tryz.underlying26 hsz hb hm aF hs (by simp [mY];omega) (by simp [Value.oneCell'])
  simpa using this
 have h0:(w.alloc (.cells (madeCells #[.int .i64 0] n) 3)).heap[w.heap.size]?=some (.cells (mY v n 0).toArray 3 (0,0)):=by
  rw [(MapKept.heap_alloc w _).1]
  congr 2
  apply Array.toList_inj.1
  rw [toList_madeCells_one];simp [mY]
 obtain ⟨m0,hm0⟩:∃ m,m=Nat.min 1 n:=⟨_,rfl⟩
 have hm1:m0<=1/\m0<=n/\(m0=1\/n=0):=by rw [hm0];simp only [Nat.min_def];split<;>omega
 have hbad:ad.block<w.heap.size:=World.block_lt_of_cell? w _ hc
 have hcp0:=λty=>cpy 0 m0 (w.alloc (.cells (madeCells #[.int .i64 0] n) 3)) ty n n ad 1 cap aD hm0 h0 (λj u hj=>by
  have hj0:j=0:=by have:=(aL.1 hj).1;simp at this;omega
  subst hj0
  rw [nT] at hj
  split at hj
  .cases hj
   rw [show ad.add 0=ad by unfold Addr.add;simp]
   exact ((Below.refl _ w).alloc (bC _) _).cell (p:=ad) hbad |>.trans hc
  .cases hj)
 simp only [d8] at hcp0
 clear hm0
 have mixed:=Tz.mixed
 go_enter Tryz.func242,Tryz.ntmps242
 go_wp2_with (first|(go_at_fn 335;refine (cM _).mono ?_;rintro e w' ⟨rfl,hw⟩;rw [hw,hq1,hq2])|(at_builtin;refine wpList_copy_runI _ rfl _ _ 26 26 rfl _ _ rfl rfl (hcp0 _) ?_))
 go_loopw [8] (λi wr=>∃ k:Nat,k<=n/\(0<k\/n=0)/\i=.int .i64 k/\wr.heap[w.heap.size]?=some (.cells (mY v n k).toArray 3 (0,0))/\Below w.heap.size w wr)
  (λi _=>n - (RowKit.intOf i).toNat)
 case atStart =>
  refine ⟨m0,hm1.2.1,aD,by simp [goInt],setRow_heap _ _ _ _ _ _ h0,?_⟩
  exact below_setRow ((Below.refl _ w).alloc (bC _) _) (bC _) _
 case round =>
  obtain ⟨k,hk,hk0,rfl,hb,hbl⟩:=hrel
  by_cases hlt:k<n
  .have hkn:¬ (n=k):=aD
   have hcp1:=λty dc sc=>cpy k (Nat.min k (n - k)) wr.drew ty (n - k) dc ⟨w.heap.size,0,none⟩ k sc (by simp only [Nat.min_def];split<;>omega) rfl hb (λj u hj=>by
    have hjk:=(aL.1 hj).1
    rw [jU] at hjk
    rw [nT,if_pos hjk] at hj
    cases hj
    have hjk2:j<k:=by simp only [Nat.min_def] at hjk;split at hjk<;>omega
    rw [jG]
    show wr.cell? _=_
    simp [World.cell?,hb,mY,aT,hjk2])
   go_wp2
   go_region_law_o (refine step_copy_runI rfl _ _ 26 26 rfl _ _ (by simp [Act.eval,Act.put]) (by simp [Act.eval,Act.put]) (hcp1 _ _ _) ?_)
   have hmn:k+Nat.min k (n - k)<=n/\0<Nat.min k (n - k):=by simp only [Nat.min_def];split<;>omega
   simp only [Act.put,List.getElem_toArray,List.getElem_cons_succ,List.getElem_cons_zero,List.setIfInBounds_toArray,DI,uF]
   go_roundw
   case rel =>
    refine ⟨_,_,_,_,_,_,_,_,_,_,_,_,_,_,⟨k+Nat.min k (n - k),hmn.1,aD,?_,setRow_heap wr.drew _ _ _ _ _ hb,below_setRow (w:=wr.drew) ⟨hbl.os,hbl.tape,hbl.output,hbl.size,hbl.block⟩ (bC _) _⟩,rfl⟩
    congr 1
    rw [IntKind.wrap_i64];omega
   case measure=>simp [RowKit.intOf,goInt,IntKind.wrap_i64];omega
  .obtain rfl:k=n:=aD
   go_wp2
   go_ret
   refine ⟨_,rfl,⟨by simp,.inr ⟨w.heap.size,k,(mY v k k).toArray,rfl,bC _,hb,bC _,by simp only [maxLen];omega,by simp [mY],?_⟩⟩,hbl⟩
   simp [mY]
theorem FQ (v:Int)(n:Nat)(z:n<=1000):Own Tryz.prog 242 [.list [[dI v]],dI n] 3 1 ((List.replicate n v).map cI):=by
 refine ⟨⟨Tryz.f242,Tryz.func242,rfl,rfl⟩,λM w f J F=>?_⟩
 obtain ⟨h,r⟩:=F
 match f,h with
 | [s,y],_ =>
  have H:=r 0 s _ rfl rfl
  have G:=r 1 y _ rfl rfl
  cases G
  rcases rT H with ⟨rfl,l⟩|⟨o,m,I,p,rfl,a,_,d,_,_,_⟩
  .cases l
  .have hx:∃ u,p[0]?=some u:=by
    have A:=a.len
    simp at A
    exact ⟨p[0]' aD,aA aD⟩
   obtain ⟨u,j⟩:=hx
   have B:=a.rep 0 u (D.int .i64 v) j rfl
   cases B
   have i:=(d 0 _ j).2
   rw [show o.add 0=o by unfold Addr.add;simp] at i
   refine (Kb v n z o m w i).mono λe t ⟨q,l,g,E⟩=>?_
   have k:((List.replicate n v).map cI).length=n:=aF
   exact ⟨q,_,l,by rw [k];exact g,λu j=>by rw [kC j];rfl,by
    have:=zM (M:=λb=>M b\/q.ownBlock=some b) (σ:=gQ) (N:=p5) (w:=t) (List.replicate n v)
    simpa using this,qX _,λc C=>by obtain ⟨x,_,rfl⟩:=aQ.1 C;rfl,E⟩
end Go.Abs
end
section
set_option maxRecDepth 100000
set_option maxHeartbeats 4000000
open Go Go.Proofs
namespace Go.Abs
def scnC (t:Types)(h:Host)(inj:Bool):List D:=[.list (t.nodes.map NodeTy.c),.list (t.edges.map EdgeTy.c),dLI h.graph.nodes,.list (h.graph.edges.map Edge.c),.list (h.values.map cL),.bool inj]
def Sv (n i:Nat):List Bool:=List.replicate i true++List.replicate (n - i) false
theorem Ub {n i:Nat}(h:i<=n):(Sv n i).length=n:=by simp [Sv];omega
theorem Ua {n i:Nat}(h:i<n):(Sv n i).set i true=Sv n (i+1):=by
 unfold Sv
 rw [List.set_append_right _ _ aF,jU,Nat.sub_self,show n - i=(n - (i+1))+1 by omega,sJ,uF,List.replicate_succ',List.append_assoc];rfl
theorem vD (n:Nat)(m:n<=1000)(at_ a:List Int)(p:∀ x∈at_,0<=x/\x<n)(u:at_.length<=a.length):Pure Tryz.prog 457 [dI n,dLI at_,dLI a] (dLI (lV n at_ a)):=by
 refine Tz.pK ⟨λt=>t==12,λ_=>[]⟩ Tryz.func457 rfl (λQ o=>?_)
 have Y:=trivial
 refine wv (h:=kY (FQ (-1) n m) wl ?_)
 refine wv (h:=?_)
 repeat first|intro _|refine ⟨eK,?_⟩
 refine bV (λk e H=>(e 0=dI n/\e 1=dLI at_/\e 2=dLI a/\e 7=.own 0 n/\e 13=dLI at_/\e 14=dI at_.length/\e 15=dI k)/\(H.get 0=some ⟨3,1,(SP at_ a n k).map cI,false⟩)/\(0<H.next)/\(k<=at_.length)/\((SP at_ a n k).length=n)) (λk=>at_.length - k) 0 ⟨wg,(by simp [go_sem,Y,SP,cI]),wn,wi,(by exact Ko _ _ _ _)⟩ λv l k e H b=>?_
 obtain ⟨q,f,c,r,g⟩:=b
 have Y:=wa Y (wa q (wa f (wa (b8 c) g)))
 refine d7 (λd=>?_) λd=>?_
 .have hki:k<a.length:=aD
  have s:=p _ (aC d)
  have j:at_[k]?.getD 0=at_[k]:=by rw [aA d];rfl
  have b:a[k]?.getD 0=a[k]:=by rw [aA hki];rfl
  have i:at_[k].toNat<(SP at_ a n k).length:=aD
  have Y:=wa Y (wa d (wa (aA d) (wa (aA hki) (aA i))))
  refine wv (h:=?_)
  repeat first|intro _|refine ⟨eK,?_⟩
  exact wx l (k+1) ⟨wg,(by simp [go_sem,Y,Mo,dU,j,b,cI]),wn,wj,(by exact Ko _ _ _ _)⟩
 .have hP:lV n at_ a=SP at_ a n k:=by unfold lV SP;rw [(aD:k=at_.length)]
  exact wv (h:=o _ _ (by simp [go_sem,Y,hP,dLI]))
theorem J6 (t:Types)(C:Bool)(p:Pattern)(h:Host)(m:Part)(U:SOk p h m)(vs:List Int)(hl:vs.length<=p.vars.toNat)(hs:∀ v∈vs,-2000000<=v/\v<=2000000) :
  Pure Tryz.prog 459 [.agg (scnC t h C),p.d,m.d,dLI vs] (.tup [dLI (fB p h m vs).1,.bool (decide ((fB p h m vs).2=0))]):=by
 have hv:=U.vars
 have h0:=Sz hv.1 hl hs
 have J:Ok p vs=(XL vs p.vars.toNat,Xo vs.length p.vars.toNat):=by unfold Ok;rw [Qi _ _ hl];rfl
 have a4:(p.vars - (vs.length:Int)).toNat=p.vars.toNat - vs.length:=aD
 have a3:vs.length+(p.vars.toNat - vs.length)=p.vars.toNat:=aD
 have b0:(vs.map cI++List.replicate (p.vars.toNat - vs.length) [D.int .i64 0])=(XL vs p.vars.toNat).map cI:=by simp [XL,cI]
 refine SM (by first|rfl|(simp [go_sem];done)) (λQ hQ=>ACalls.bump 1 (aG (cfg:=⟨λt=>t==22||t==11||t==14||t==20,λr=>match r with|1=>[(1,2),(1,3),(1,5)]|_=>[]⟩) Tz.mixed Tryz.func459 rfl rfl (aE rfl) (by kernel_rfl) ?_))
 have Y:=wa a4 (wa a3 (wa @Pattern.d.eq_1 (wa @Pattern.c.eq_1 (wa @scnC.eq_1 (wa @Part.d.eq_1 (wa @Part.c.eq_1 @Term.c.eq_1))))))
 refine wv (h:=?_)
 repeat first|intro _|refine ⟨eK,?_⟩
 refine Em 0 (kK vs aD) (by first|rfl|(simp [go_sem];done)) rfl (by first|omega|simp [go_sem]) (by simp [tN,zD,TN,TO]) (by first|trivial|(simp [go_sem];done)|simp [go_sem,KM]) ?_
 refine wv (h:=?_)
 repeat first|intro _|refine ⟨eK,?_⟩
 refine bV (λi e H=>(e 4=.adr (scnC t h C)/\e 5=.adr p.c/\e 6=.adr m.c/\e 3=dLI vs/\e 10=.own 0 p.vars.toNat/\e 11=.own 10 p.vars.toNat/\e 33=dI vs.length/\e 34=dI i)/\(H.get 0=some ⟨3,1,(XL vs p.vars.toNat).map cI,false⟩)/\(0<H.next)/\(H.get 10=some ⟨4,1,(Sv p.vars.toNat i).map cB,false⟩)/\(10<H.next)/\(i<=vs.length)) (λi=>vs.length - i) 0 ⟨wg,(by simp [go_sem,Y,b0]),wn,(by simp [go_sem,Sv,cB]),wn,wi⟩ λI0 b9 i e H b3=>?_
 obtain ⟨E0,a8,a2,Z,M,hi⟩:=b3
 have Y:=wa Y (wa E0 (wa a8 (wa (b8 a2) (wa Z (b8 M)))))
 refine d7 (λh4=>?_) λh4=>?_
 .have hTl:=Ub (n:=p.vars.toNat) (i:=i) aD
  have b5:i<(Sv p.vars.toNat i).length:=aD
  have b4:((Sv p.vars.toNat i).map cB).set i [.bool true]=(Sv p.vars.toNat (i+1)).map cB:=by rw [<- Ua aD,dU];rfl
  have Y:=wa Y (wa h4 (wa hTl (wa (aA b5) b4)))
  refine wv (h:=?_)
  repeat first|intro _|refine ⟨eK,?_⟩
  exact wx b9 (i+1) ⟨wg,wn,wn,(by simp [go_sem,Y]),wn,wj⟩
 .have hie:i=vs.length:=aD
  have b6:Sv p.vars.toNat i=Xo vs.length p.vars.toNat:=by rw [hie,Qi _ _ hl];rfl
  have Y:=wa Y b6
  refine wv (h:=?_)
  repeat first|intro _|refine ⟨eK,?_⟩
  refine bV (λi e H=>∃ l:List Int × List Bool,(e 4=.adr (scnC t h C)/\e 5=.adr p.c/\e 6=.adr m.c/\e 3=dLI vs/\e 10=.own 0 p.vars.toNat/\e 11=.own 10 p.vars.toNat/\e 42=.list (p.slots.map Slot.c)/\e 43=dI p.slots.length/\e 44=dI i)/\(H.get 0=some ⟨3,1,l.1.map cI,false⟩)/\(0<H.next)/\(H.get 10=some ⟨4,1,l.2.map cB,false⟩)/\(10<H.next)/\(i<=p.slots.length)/\(StOk p.vars.toNat l)/\(slotsV h m (Ok p vs) (p.slots.take i)=some l)) (λi=>p.slots.length - i) 0 ⟨((XL vs p.vars.toNat,Xo vs.length p.vars.toNat)),wg,(by simp [go_sem,Y]),wn,(by simp [go_sem,Y]),wn,wi,(by rw [<- J];exact h0),(by rw [J];rfl)⟩ λI2 G i e H b2=>?_
  obtain ⟨l,E2,a7,a1,X,L,hi,s,O⟩:=b2
  have Y:=wa Y (wa E2 (wa a7 (wa (b8 a1) (wa X (b8 L)))))
  refine d7 (λI=>?_) λI=>?_
  .obtain ⟨x,hx⟩:=cC (p.slots[i])
   have E:x∈p.slots:=hx ▸ aC I
   have hn:=U.node x E
   have u:x.node.toNat<m.nodes.length:=aD
   have hk:=U.img _ (aC u)
   have A:(m.nodes[x.node.toNat]).toNat<h.values.length:=aD
   have ha:=U.attr x E
   rw [aA u,Option.getD_some,aA A,Option.getD_some] at ha
   have F:x.attr.toNat<(h.values[(m.nodes[x.node.toNat]).toNat]).length:=aD
   have hV:haveV h m x=h.values[(m.nodes[x.node.toNat]).toNat][x.attr.toNat]:=by unfold haveV;rw [aA u,Option.getD_some,aA A,Option.getD_some,aA F];rfl
   have hb:=U.have_ E
   have S:=U.term x E
   have z:=s.l1
   have P:=s.l2
   have c1:=S.1
   have c2:=S.2
   have o:=DM I O
   rw [<- hx] at o
   obtain ⟨q,f⟩:∃ y,y=nE h m l x:=⟨_,rfl⟩
   have j:StOk p.vars.toNat q:=f ▸ FB s hb S
   rw [<- f] at o
   have g:¬ 0<=x.term.var->q=l:=λhn=>by rw [f];unfold nE rZ;rw [if_neg (by simp [hn])]
   have K:0<=x.term.var->x.term.var.toNat<l.2.length:=λhn=>by omega
   obtain ⟨kb,a5⟩:=cC (l.2[x.term.var.toNat]?.getD false)
   have R:0<=x.term.var\/(¬ 0<=x.term.var/\l.2[x.term.var.toNat]?=none)\/(¬ 0<=x.term.var/\l.2[x.term.var.toNat]?=some kb):=by
    by_cases N:0<=x.term.var
    .exact .inl N
    .right
     cases ho:l.2[x.term.var.toNat]? with
     | none=>exact .inl ⟨N,rfl⟩
     | some b=>rw [ho] at a5;exact .inr ⟨N,by rw [a5];rfl⟩
   rcases R with hc|hc|hc
   .have Y:=wa Y (wa I (wa (aA I) (wa (Eq.symm hx) (wa (aA u) (wa (aA A) (wa (aA F) (wa (Eq.symm hV) (wa @Slot.c.eq_1 (wa @cL.eq_1 (wa z (wa P (wa @rG (wa @cB.eq_1 (wa hc ((aA (K hc)))))))))))))))))
    refine wv (h:=?_)
    repeat first|intro _|refine ⟨eK,?_⟩
    refine wq (λW=>?_) λW=>?_
    .have hF:rZ l x=true:=by simp only [rZ,aN,decide_eq_true_eq,cG];exact ⟨hc,by simpa [aA (K hc)] using W⟩
     unfold nE at f
     rw [if_pos hF] at f
     have a9:x.term.var.toNat<l.1.length:=aD
     have e1:q.1.map cI=(l.1.map cI).set x.term.var.toNat (cI (haveV h m x - x.term.add)):=by rw [f,dU]
     have e2:q.2.map cB=(l.2.map cB).set x.term.var.toNat (cB true):=by rw [f,dU]
     have c0:D.clLL ((l.1.map cI).set x.term.var.toNat [D.int .i64 (haveV h m x - x.term.add)])=true:=by have:=qX q.1;rw [e1] at this;exact this
     have Y:=wa Y (wa e1 (wa e2 (wa @dLI.eq_1 (wa @cI.eq_1 (wa (aA a9) c0)))))
     refine wv (h:=?_)
     repeat first|intro _|refine ⟨eK,?_⟩
     refine iG (mA x.term q.1 (by rw [j.l1];exact S) j.big) wr wl rfl ?_
     refine wv (h:=?_)
     repeat first|intro _|refine ⟨eK,?_⟩
     refine wq (λa=>?_) λa=>?_
     .have hR:=i4 (o.2 (by first|simpa using a|simpa [g hc.1] using a|simpa [f] using a))
      exact wv (h:=hQ _ _ (by simp [go_sem,hR]))
     .have hstep:=o.1 (by first|simpa using a|simpa [g hc.1] using a|simpa [f] using a)
      refine wv (h:=?_)
      repeat first|intro _|refine ⟨eK,?_⟩
      exact wx G (i+1) ⟨q,wg,(by simp [go_sem,Y]),wn,(by simp [go_sem,Y]),wn,wj,(by exact j),(by exact hstep)⟩
    .have hF:¬ rZ l x=true:=by simp only [rZ,aN,decide_eq_true_eq,cG];rintro ⟨_,hk⟩;simp [aA (K hc)] at hk;simp [hk] at W
     unfold nE at f
     rw [if_neg hF] at f
     have Y:=wa Y f
     refine wv (h:=iG (mA x.term q.1 (by rw [j.l1];exact S) j.big) wr wl rfl ?_)
     refine wv (h:=?_)
     repeat first|intro _|refine ⟨eK,?_⟩
     refine wq (λa=>?_) λa=>?_
     .have hR:=i4 (o.2 (by first|simpa using a|simpa [g hc.1] using a|simpa [f] using a))
      exact wv (h:=hQ _ _ (by simp [go_sem,hR]))
     .have hstep:=o.1 (by first|simpa using a|simpa [g hc.1] using a|simpa [f] using a)
      refine wv (h:=?_)
      repeat first|intro _|refine ⟨eK,?_⟩
      exact wx G (i+1) ⟨q,wg,(by simp [go_sem,Y]),wn,(by simp [go_sem,Y]),wn,wj,(by exact j),(by exact hstep)⟩
   .have Y:=wa Y (wa I (wa (aA I) (wa (Eq.symm hx) (wa (aA u) (wa (aA A) (wa (aA F) (wa (Eq.symm hV) (wa @Slot.c.eq_1 (wa @cL.eq_1 (wa z (wa P (wa @rG (wa @cB.eq_1 (wa hc.1 (wa hc.2 (g hc.1))))))))))))))))
    refine wv (h:=?_)
    repeat first|intro _|refine ⟨eK,?_⟩
    refine iG (mA x.term q.1 (by rw [j.l1];exact S) j.big) wr wl rfl ?_
    refine wv (h:=?_)
    repeat first|intro _|refine ⟨eK,?_⟩
    refine wq (λa=>?_) λa=>?_
    .have hR:=i4 (o.2 (by first|simpa using a|simpa [g hc.1] using a|simpa [f] using a))
     exact wv (h:=hQ _ _ (by simp [go_sem,hR]))
    .have hstep:=o.1 (by first|simpa using a|simpa [g hc.1] using a|simpa [f] using a)
     refine wv (h:=?_)
     repeat first|intro _|refine ⟨eK,?_⟩
     exact wx G (i+1) ⟨q,wg,(by simp [go_sem,Y]),wn,(by simp [go_sem,Y]),wn,wj,(by exact j),(by exact hstep)⟩
   .have Y:=wa Y (wa I (wa (aA I) (wa (Eq.symm hx) (wa (aA u) (wa (aA A) (wa (aA F) (wa (Eq.symm hV) (wa @Slot.c.eq_1 (wa @cL.eq_1 (wa z (wa P (wa @rG (wa @cB.eq_1 (wa hc.1 (wa hc.2 (g hc.1))))))))))))))))
    refine wv (h:=?_)
    repeat first|intro _|refine ⟨eK,?_⟩
    refine iG (mA x.term q.1 (by rw [j.l1];exact S) j.big) wr wl rfl ?_
    refine wv (h:=?_)
    repeat first|intro _|refine ⟨eK,?_⟩
    refine wq (λa=>?_) λa=>?_
    .have hR:=i4 (o.2 (by first|simpa using a|simpa [g hc.1] using a|simpa [f] using a))
     exact wv (h:=hQ _ _ (by simp [go_sem,hR]))
    .have hstep:=o.1 (by first|simpa using a|simpa [g hc.1] using a|simpa [f] using a)
     refine wv (h:=?_)
     repeat first|intro _|refine ⟨eK,?_⟩
     exact wx G (i+1) ⟨q,wg,(by simp [go_sem,Y]),wn,(by simp [go_sem,Y]),wn,wj,(by exact j),(by exact hstep)⟩
  .rw [aY aD] at O
   have T:=vM O
   have z:=s.l1
   have Y:=wa Y z
   refine wv (h:=?_)
   repeat first|intro _|refine ⟨eK,?_⟩
   refine bV (λk e H=>(e 4=.adr (scnC t h C)/\e 5=.adr p.c/\e 6=.adr m.c/\e 3=dLI vs/\e 10=.own 0 p.vars.toNat/\e 102=.list (p.tests.map Test.c)/\e 103=dI p.tests.length/\e 104=dI k)/\(H.get 0=some ⟨3,1,l.1.map cI,false⟩)/\(0<H.next)/\(k<=p.tests.length)/\((p.tests.take k).all (λx=>Oc x l.1)=true)) (λk=>p.tests.length - k) 0 ⟨wg,wn,wn,wi,(by rfl)⟩ λI4 b7 k e H b1=>?_
   obtain ⟨E4,a6,a0,hk,B⟩:=b1
   have Y:=wa Y (wa E4 (wa a6 (b8 a0)))
   refine d7 (λw=>?_) λw=>?_
   .have hX:=U.test _ (aC w)
    have Y:=wa Y (wa w (wa (aA w) @Test.c.eq_1))
    refine wv (h:=?_)
    repeat first|intro _|refine ⟨eK,?_⟩
    refine iG (vC p.tests[k] l.1 (by rw [s.l1];exact hX) s.big) wr wl rfl ?_
    refine wv (h:=?_)
    repeat first|intro _|refine ⟨eK,?_⟩
    refine wq (λV=>?_) λV=>?_
    .have hR:fB p h m vs=([],16):=by
      rw [T,if_neg]
      intro ha
      rw [cD] at ha
      have:=ha _ (aC w)
      simp [this] at V
     exact wv (h:=hQ _ _ (by simp [go_sem,hR]))
    .refine wv (h:=?_)
     repeat first|intro _|refine ⟨eK,?_⟩
     exact wx b7 (k+1) ⟨wg,wn,wn,wj,(by rw [List.take_succ_eq_append_getElem w,List.all_append,B];simp;simpa using V)⟩
   .rw [aY aD] at B
    rw [if_pos B] at T
    exact wv (h:=hQ _ _ (by simp [go_sem,Y,T,dLI]))
theorem CX (t:Types)(L:t.ok)(p:Pattern)(c:Cond)(w:ExOk t p c.map c.pattern)(h:Host)(M:HostOk t h)(m:Mat)(z:MatOk t p h m)(b:Bool) :
  Pure Tryz.prog 439 [.agg (scnC t h b),.agg c.c,m.d] (.tup [.list ((t6 t c.map c.pattern h m b).1.map Mat.c),dI (t6 t c.map c.pattern h m b).2]):=by
 obtain ⟨⟨S,R⟩,E,D⟩:=w.img
 have l:=cJ w.pq.gg
 have O:=z.mok.len
 have N:=z.mok.elen
 refine Tz.pK ⟨λt=>t==8||t==9||t==12||t==14,λr=>match r with|2=>[(0,21),(1,21),(2,21),(3,21),(4,21),(5,21),(6,21),(7,21),(8,21),(9,21),(10,21),(11,21),(12,21),(13,21),(14,21),(15,21),(16,21),(17,21),(18,21),(19,21)]|_=>[]⟩ Tryz.func439 rfl (λQ I=>?_)
 obtain ⟨X,A⟩:=cC (mZ t c.pattern.graph h.graph (eO c.map c.pattern m.m) b)
 have G:∀ x∈X.1,MOk t c.pattern.graph h.graph x:=λx K=>Nf (A ▸ K)
 have T:X.1.length<=5000:=A ▸ UN _ _ _ _ _
 have B:m.vars.length<=c.pattern.vars.toNat:=by have:=z.vl;have:=w.pv;have:=w.p0;omega
 have j:t6 t c.map c.pattern h m b=if X.2≠0 then ([],X.2) else (rL c.pattern h m.vars X.1,0):=by unfold t6;rw [<- A]
 have Y:=wa @Cond.c_eq (wa @scnC.eq_1 (wa @Mat.d.eq_1 @Mat.c.eq_1))
 refine wp (h:=aM (vD c.pattern.graph.nodes.length aD c.map.nodes m.m.nodes E aD) wl ?_)
 refine wp (h:=aM (vD c.pattern.graph.edges.length aD c.map.edges m.m.edges D aD) wl ?_)
 refine wp (h:=aB ((by have l:=HL t L c.pattern.graph h.graph (eO c.map c.pattern m.m) b;rw [<- A] at l;unfold eO Types.d Types.c Graph.d Graph.c Part.d Part.c dLI at l;exact l)) wl ?_)
 refine vJ (λJ=>?_) λJ=>?_
 .rw [if_pos J] at j
  exact wv (h:=I _ _ (by simp [go_sem,j]))
 .rw [if_neg aD] at j
  refine wp (h:=bV (λi e H=>∃ k:List Mat,(e 3=.adr (scnC t h b)/\e 4=.adr c.c/\e 5=.adr m.c/\e 57=.list (X.1.map Part.c)/\e 58=dI X.1.length/\e 12=.own 24 k.length/\e 59=dI i)/\(H.get 24=some ⟨46,3,k.map Mat.c,false⟩)/\(24<H.next)/\(i<=X.1.length)/\(k=rL c.pattern h m.vars (X.1.take i))/\(k.length<=i)) (λi=>X.1.length - i) 0 ⟨([]),wg,wn,wn,wi,(by rfl),(by simp)⟩ λW u i e H F=>?_)
  obtain ⟨k,U,q,n,V,g,P⟩:=F
  have Y:=wa Y (wa U (wa q (b8 n)))
  refine d7 (λs=>?_) λs=>?_
  .obtain ⟨v,C⟩:=cC (fB c.pattern h X.1[i] m.vars)
   obtain ⟨f,a⟩:∃ y,y=k++if v.2=0 then [(⟨X.1[i],v.1⟩:Mat)] else []:=⟨_,rfl⟩
   have Y:=wa Y (wa s (wa (aA s) (wa @Part.c.eq_1 @Pattern.c.eq_1)))
   refine wp (h:=aB ((by have l:=J6 t b c.pattern h X.1[i] (W4 w.pq M (G _ (aC s))) m.vars B z.vs;rw [<- C] at l;unfold scnC Pattern.d Pattern.c Part.d Part.c dLI at l;exact l)) wl ?_)
   refine vJ (λo=>?_) λo=>?_
   .have hm3:f=k++[⟨X.1[i],v.1⟩]:=by rw [a,if_pos (bS o)]
    have Y:=wa Y hm3
    exact wp (h:=wx u (i+1) ⟨f,wg,wn,wn,wj,(by rw [List.take_succ_eq_append_getElem s,vL,<- g,<- C];exact a),(by rw [a];split<;>simp<;>omega)⟩)
   .have hm3:f=k:=by rw [a,if_neg (bS o),jV]
    have Y:=wa Y hm3
    exact wp (h:=wx u (i+1) ⟨f,wg,wn,wn,wj,(by rw [List.take_succ_eq_append_getElem s,vL,<- g,<- C];exact a),(by rw [a];split<;>simp<;>omega)⟩)
  .rw [aY aD] at g
   exact wv (h:=I _ _ (by simp [go_sem,Y,j,<- g]))
def N5 (t:Types)(h:Host)(inj:Bool)(c:Cond)(m:Mat):Prf × Int:=if (oU t h inj c m).2=0 then oU t h inj c m else (lE,(oU t h inj c m).2)
def HB (W:Prf × Int):Prf × Int:=if W.2=0 then W else (lE,W.2)
theorem Sj (t:Types)(h:Host)(inj:Bool)(c:Cond)(m:Mat):N5 t h inj c m=HB (oU t h inj c m):=rfl
theorem CL (t:Types)(h:Host)(d:Bool)(c:Cond)(m:Mat):∃ wc wm wk we,N5 t h d c m=(Prf.mk wc wm wk,we)/\(oU t h d c m).2=we/\(we=0->oU t h d c m=(Prf.mk wc wm wk,we)):=by
 cases e:N5 t h d c m with
 | mk a b =>
  cases a with
  | mk wc wm wk =>
   refine ⟨wc,wm,wk,b,rfl,?_,?_⟩
   .unfold N5 at e
    split at e
    .rw [e]
    .exact congrArg Prod.snd e
   .intro h0
    unfold N5 at e
    split at e
    .exact e
    .rename_i h1
     have:=congrArg Prod.snd e
     simp only at this
     exact absurd (this.trans h0) h1
theorem FI (t:Types)(ht:t.ok)(h:Host)(N:HostOk t h)(a:Bool)(c:Cond)(p:Pattern)(R:CondV t p c)(hp:PatOk t p)(g:c.kind=5)
  (Z:∀ k∈c.kids,∀ m:Mat,MatOk t c.pattern h m->Pure Tryz.prog 332 [.agg (scnC t h a),.agg k.c,m.d] (.tup [.agg (N5 t h a k m).1.c,dI (N5 t h a k m).2])) (m:Mat) (O:MatOk t p h m) :
  Pure Tryz.prog 388 [.agg (scnC t h a),.agg c.c,m.d] (.tup [.agg (N5 t h a c m).1.c,dI (N5 t h a c m).2]):=by
 obtain ⟨K,a0⟩:=R.kinds
 have q:=zG t h a c m
 rw [Sj]
 obtain ⟨W,J⟩:=cC (oU t h a c m)
 rw [<- J] at q ⊢
 obtain ⟨P,a1⟩:=R.ex g hp
 have D:0<c.kids.length:=by have:=K (.inr g);omega
 obtain ⟨y,f⟩:∃ k,k=c.kids[0]:=⟨_,rfl⟩
 have E:y∈c.kids:=f ▸ aC D
 obtain ⟨X,I⟩:=cC (t6 t c.map c.pattern h m a)
 have G:∀ x∈X.1,MatOk t c.pattern h x:=I ▸ UO P N O
 rw [if_neg aD,if_neg aD,if_neg aD,if_pos g,Jf D,<- f,<- I] at q
 refine tT (by first|rfl|(simp [go_sem];done)) (λQ z=>(aG (cfg:=⟨λt=>t==6||t==11||t==12,λr=>match r with|7=>[(0,10),(1,10),(2,10),(3,10),(4,10),(5,10),(6,10)]|_=>[]⟩) Tz.mixed Tryz.func388 rfl rfl (aE rfl) (by kernel_rfl) ?_))
 have Y:=wa @Cond.c_eq (wa @scnC.eq_1 (wa @Mat.d.eq_1 (wa @Mat.c.eq_1 (wa @Prf.c_eq (wa (aA D) (wa (Eq.symm f) g))))))
 refine wv (h:=aB ((by have j:=CX t ht p c P h N m O a;rw [<- I,Cond.c_eq,g] at j;unfold scnC Mat.d Mat.c dLI dI at j;exact j)) wl ?_)
 refine d7 (λB=>?_) λB=>?_
 .rw [if_pos (bS B)] at q
  have l:HB W=(lE,X.2):=by rw [q];unfold HB;rw [if_neg (bS B)]
  refine wv (h:=?_)
  exact z _ _ (by simp [go_sem,Y,l,lE,mO,Prf.c_eq,oM,kJ,eI,dLI,fZ,kW])
 .rw [if_neg (bS B)] at q
  refine wv (h:=?_)
  repeat first|intro _|refine ⟨eK,?_⟩
  refine bV (λi e H=>(e 3=.adr (scnC t h a)/\e 4=.adr c.c/\e 5=.adr m.c/\e 6=.ptr 0 1 0 0/\e 25=.list (X.1.map Mat.c)/\e 26=dI X.1.length/\e 27=dI i)/\(H.get 0=some ⟨282,5,[[dI 0,.nil,.nil,.nil,.nil]],false⟩)/\(0<H.next)/\(i<=X.1.length)/\(Wx ((X.1.drop i).map λx=>(x,oU t h a y x))=W)) (λi=>X.1.length - i) 0 ⟨wg,wn,wn,wi,(by exact q.symm)⟩ λI0 L i e H F=>?_
  obtain ⟨E0,w,u,hi,A⟩:=F
  have Y:=wa Y (wa E0 (wa w (b8 u)))
  refine d7 (λg=>?_) λg=>?_
  .obtain ⟨U,S,T,s,hw,v,C⟩:=CL t h a y X.1[i]
   have n:i<X.1.length:=g
   have b:=A
   rw [G0 _ n] at b
   simp only [Wx] at b
   have V:=Lf H.next
   have Y:=wa Y (wa g (wa (aA n) V))
   refine wv (h:=?_)
   repeat first|intro _|refine ⟨eK,?_⟩
   refine aM ((by have j:=Z y E X.1[i] (G _ (aC n));simp only [hw,Prf.c_eq,Cond.c_eq] at j;unfold scnC Mat.d Mat.c dLI dI at j;exact j)) wl ?_
   refine wv (h:=?_)
   repeat first|intro _|refine ⟨eK,?_⟩
   refine wq (λM=>?_) λM=>?_
   .have h8':s=0:=by simpa using M
    rw [C h8'] at b
    simp only at b
    rw [if_pos aD] at b
    have l:HB W=(Prf.mk 0 X.1[i] [Prf.mk U S T],0):=by rw [<- b,h8'];rfl
    refine wv (h:=?_)
    exact z _ _ (by simp [go_sem,Y,l,lE,mO,Prf.c_eq,oM,kJ,eI,dLI,fZ,kW])
   .have h8':s≠0:=by simpa using M
    refine d7 (λo=>?_) λo=>?_
    .have h10':s≠10:=by simpa using o
     rw [v,if_pos h10'] at b
     have l:HB W=(lE,s):=by rw [<- b];unfold HB;rw [if_neg h8']
     refine wv (h:=?_)
     exact z _ _ (by simp [go_sem,Y,l,lE,mO,Prf.c_eq,oM,kJ,eI,dLI,fZ,kW])
    .have h10':s=10:=by simpa using o
     rw [v,if_neg aD] at b
     refine wv (h:=?_)
     repeat first|intro _|refine ⟨eK,?_⟩
     exact wx L (i+1) ⟨wg,wn,wn,wj,(by exact b)⟩
  .rw [wR aD] at A
   simp only [lO,Wx] at A
   have l:HB W=(lE,10):=by rw [<- A];rfl
   have Y:=wa Y g
   refine wv (h:=?_)
   exact z _ _ (by simp [go_sem,Y,l,lE,mO,Prf.c_eq,oM,kJ,eI,dLI,fZ,kW])
theorem HM (t:Types)(ht:t.ok)(h:Host)(ho:HostOk t h)(g:Bool):∀ (c:Cond) (p:Pattern),CondV t p c->PatOk t p->∀ m:Mat,MatOk t p h m ->
  Pure Tryz.prog 332 [.agg (scnC t h g),.agg c.c,m.d] (.tup [.agg (N5 t h g c m).1.c,dI (N5 t h g c m).2]):=by
 refine k8 λc ih p F T m hm=>?_
 obtain ⟨a7,b2⟩:=F.kinds
 have U:c.kids.length<=1000000:=by have:=Td c.kids;have:=zK c;have:=F.sz;omega
 have E:c.kind=5->Pure Tryz.prog 388 [.agg (scnC t h g),.agg c.c,m.d] (.tup [.agg (N5 t h g c m).1.c,dI (N5 t h g c m).2]):=λG=>by
  obtain ⟨hE,w⟩:=F.ex G T
  exact FI t ht h ho g c p F T G (λk hk m' a2=>ih k hk c.pattern (w k hk) hE.pq m' a2) m hm
 have l:=zG t h g c m
 rw [Sj] at E ⊢
 obtain ⟨W,a6⟩:=cC (oU t h g c m)
 rw [<- a6] at l E ⊢
 refine tT (by first|rfl|(simp [go_sem];done)) (λQ z=>(aG (cfg:=⟨λt=>t==6||t==8||t==10||t==12||t==13||t==16||t==17,λr=>match r with|3=>[(0,10),(1,10),(2,10),(3,10),(4,10),(5,10),(6,10)]|_=>[]⟩) Tz.mixed Tryz.func332 rfl rfl (aE rfl) (by kernel_rfl) ?_))
 have Y:=wa @Cond.c_eq (wa @scnC.eq_1 (wa @Mat.d.eq_1 (wa @Mat.c.eq_1 @Prf.c_eq)))
 refine d7 (λh2=>?_) λh2=>?_
 .have h2':c.kind=2:=by simpa using h2
  have hl:0<c.kids.length:=by have:=a7 (.inl h2');omega
  obtain ⟨k0,v⟩:∃ k,k=c.kids[0]:=⟨_,rfl⟩
  have V:k0∈c.kids:=v ▸ aC hl
  have b0:=F.kid aD k0 V
  obtain ⟨wc,wm,wk,s,S,o,B⟩:=CL t h g k0 m
  rw [if_pos h2',Jf hl,<- v,o] at l
  unfold Ro at l
  have Y:=wa Y (wa (aA hl) (wa (Eq.symm v) h2'))
  refine wp (h:=aM ((by have q:=ih k0 V p b0 T m hm;simp only [S,Prf.c_eq,Cond.c_eq] at q;unfold scnC Mat.d Mat.c dLI dI at q;exact q)) wl ?_)
  refine vJ (λG=>?_) λG=>?_
  .rw [if_pos (bS G)] at l
   have n:HB W=(lE,10):=by rw [l];rfl
   refine wv (h:=?_)
   exact z _ _ (by simp [go_sem,Y,n,lE,mO,Prf.c_eq,oM,kJ,eI,dLI,fZ,kW])
  .rw [if_neg (bS G)] at l
   refine d7 (λh7=>?_) λh7=>?_
   .rw [if_pos (bS h7)] at l
    have n:HB W=(lE,0):=by rw [l];rfl
    refine wv (h:=?_)
    exact z _ _ (by simp [go_sem,Y,n,lE,mO,Prf.c_eq,oM,kJ,eI,dLI,fZ,kW])
   .rw [if_neg (bS h7)] at l
    have n:HB W=(lE,s):=by rw [l];unfold HB;rw [if_neg (bS G)]
    refine wv (h:=?_)
    exact z _ _ (by simp [go_sem,Y,n,lE,mO,Prf.c_eq,oM,kJ,eI,dLI,fZ,kW])
 .have h2':c.kind≠2:=by simpa using h2
  rw [if_neg h2'] at l
  refine d7 (λM=>?_) λM=>?_
  .have h10':c.kind=3:=by simpa using M
   have w:=F.kid aD
   rw [if_pos h10'] at l
   have Y:=wa Y h10'
   refine wp (h:=tX (Ghosts.step (Ghosts.refl _) 1 0 4 282 5 _ _ ((by simp [go_sem];rfl)) rfl rfl rfl) (λi e H=>∃ D:List Prf,(e 3=.adr (scnC t h g)/\e 4=.adr c.c/\e 5=.adr m.c/\e 6=.ptr 0 1 0 0/\e 20=dI c.kind/\e 10=.ptr 1 1 0 0/\e 45=.list (c.kids.map Cond.c)/\e 46=dI c.kids.length/\e 47=dI i)/\(H.get 0=some ⟨282,5,[[dI 0,.nil,.nil,.nil,.nil]],false⟩)/\(0<H.next)/\(H.get 1=some ⟨282,5,[[dI 0,.nil,.nil,.nil,.own 2 D.length]],false⟩)/\(1<H.next)/\(H.get 2=some ⟨282,5,D.map Prf.c,false⟩)/\(2<H.next)/\(i<=c.kids.length)/\(R8 ((c.kids.drop i).map λk=>oU t h g k m) D=W)/\(D.length<=i)/\(c.kids.length<=1000000)) (λi=>c.kids.length - i) 0 ⟨([]),wg,wn,wn,wn,wn,wn,wn,wi,(by exact l.symm),aF,(by exact U)⟩ λI2 a9 i e H a5=>?_)
   obtain ⟨D,E2,a1,R,Z,O,X,N,hi,C,b1,a3⟩:=a5
   have Y:=wa Y (wa E2 (wa a1 (wa (b8 R) (wa Z (wa (b8 O) (wa X (b8 N)))))))
   refine d7 (λy=>?_) λy=>?_
   .obtain ⟨A,j⟩:∃ k,k=c.kids[i]:=⟨_,rfl⟩
    have u:A∈c.kids:=j ▸ aC y
    obtain ⟨wc,wm,wk,s,S,o,B⟩:=CL t h g A m
    have f:=C
    rw [G0 _ y,<- j] at f
    simp only [R8] at f
    have Y:=wa Y (wa y (wa (aA y) (Eq.symm j)))
    refine wp (h:=aB ((by have q:=ih A u p (w A u) T m hm;simp only [S,Prf.c_eq,Cond.c_eq] at q;unfold scnC Mat.d Mat.c dLI dI at q;exact q)) wl ?_)
    refine vJ (λL=>?_) λL=>?_
    .have h16':s≠0:=by simpa using L
     rw [o,if_pos h16'] at f
     have n:HB W=(lE,s):=by rw [<- f];unfold HB;rw [if_neg h16']
     refine wv (h:=?_)
     exact z _ _ (by simp [go_sem,Y,n,lE,mO,Prf.c_eq,oM,kJ,eI,dLI,fZ,kW])
    .have h16':s=0:=by simpa using L
     rw [o,if_neg aD,B h16'] at f
     exact wp (h:=wx a9 (i+1) ⟨(D++[.mk wc wm wk]),wg,wn,wn,wn,wn,wn,wn,wj,(by exact f),(by simp;omega),(by exact a3)⟩)
   .rw [wR aD] at C
    simp only [lO,R8] at C
    have n:HB W=(.mk 0 mO D,0):=by rw [<- C];rfl
    refine wv (h:=?_)
    exact z _ _ (by simp [go_sem,Y,n,lE,mO,Prf.c_eq,oM,kJ,eI,dLI,fZ,kW])
  .have h10':c.kind≠3:=by simpa using M
   rw [if_neg h10'] at l
   refine d7 (λK=>?_) λK=>?_
   .have h21':c.kind=4:=by simpa using K
    have w:=F.kid aD
    rw [if_pos h21'] at l
    have Y:=wa Y h21'
    refine wp (h:=bV (λi e H=>(e 3=.adr (scnC t h g)/\e 4=.adr c.c/\e 5=.adr m.c/\e 6=.ptr 0 1 0 0/\e 20=dI c.kind/\e 73=.list (c.kids.map Cond.c)/\e 74=dI c.kids.length/\e 75=dI i)/\(H.get 0=some ⟨282,5,[[dI 0,.nil,.nil,.nil,.nil]],false⟩)/\(0<H.next)/\(i<=c.kids.length)/\(Xk ((c.kids.drop i).map λk=>oU t h g k m) i=W)) (λi=>c.kids.length - i) 0 ⟨wg,wn,wn,wi,(by exact l.symm)⟩ λI4 a8 i e H a4=>?_)
    obtain ⟨E4,a0,P,hi,C⟩:=a4
    have Y:=wa Y (wa E4 (wa a0 (b8 P)))
    refine d7 (λx=>?_) λx=>?_
    .obtain ⟨A,j⟩:∃ k,k=c.kids[i]:=⟨_,rfl⟩
     have u:A∈c.kids:=j ▸ aC x
     obtain ⟨wc,wm,wk,s,S,o,B⟩:=CL t h g A m
     have f:=C
     rw [G0 _ x,<- j] at f
     simp only [Xk] at f
     have Y:=wa Y (wa x (wa (aA x) (Eq.symm j)))
     refine wp (h:=aB ((by have q:=ih A u p (w A u) T m hm;simp only [S,Prf.c_eq,Cond.c_eq] at q;unfold scnC Mat.d Mat.c dLI dI at q;exact q)) wl ?_)
     refine vJ (λGO=>?_) λGO=>?_
     .have h26':s=0:=by simpa using GO
      rw [B h26'] at f
      simp only at f
      rw [if_pos aD] at f
      have n:HB W=(.mk i mO [.mk wc wm wk],0):=by rw [<- f,h26'];rfl
      refine wv (h:=?_)
      exact z _ _ (by simp [go_sem,Y,n,lE,mO,Prf.c_eq,oM,kJ,eI,dLI,fZ,kW])
     .have h26':s≠0:=by simpa using GO
      refine d7 (λJ=>?_) λJ=>?_
      .have h28':s≠10:=by simpa using J
       rw [o,if_pos h28'] at f
       have n:HB W=(lE,s):=by rw [<- f];unfold HB;rw [if_neg h26']
       refine wv (h:=?_)
       exact z _ _ (by simp [go_sem,Y,n,lE,mO,Prf.c_eq,oM,kJ,eI,dLI,fZ,kW])
      .have h28':s=10:=by simpa using J
       rw [o,if_neg aD] at f
       exact wp (h:=wx a8 (i+1) ⟨wg,wn,wn,wj,(by exact f)⟩)
    .rw [wR aD] at C
     simp only [lO,Xk] at C
     have n:HB W=(lE,10):=by rw [<- C];rfl
     refine wv (h:=?_)
     exact z _ _ (by simp [go_sem,Y,n,lE,mO,Prf.c_eq,oM,kJ,eI,dLI,fZ,kW])
   .have h21':c.kind≠4:=by simpa using K
    rw [if_neg h21'] at l
    refine d7 (λI=>?_) λI=>?_
    .have h32':c.kind=5:=by simpa using I
     obtain ⟨vc,vm,vk,ve,hV⟩:∃ vc vm vk ve,HB W=(Prf.mk vc vm vk,ve):=by
      cases hh:HB W with
      | mk a b=>cases a;exact ⟨_,_,_,_,rfl⟩
     have Y:=wa Y h32'
     refine wv (h:=aB ((by have q:=E h32';simp only [hV,Prf.c_eq,Cond.c_eq,h32'] at q;unfold scnC Mat.d Mat.c dLI dI at q;exact q)) wl ?_)
     refine wv (h:=?_)
     exact z _ _ (by simp [go_sem,Y,hV,lE,mO,Prf.c_eq,oM,kJ,eI,dLI,fZ,kW])
    .have h32':c.kind≠5:=by simpa using I
     rw [if_neg h32'] at l
     have n:HB W=(lE,0):=by rw [l];rfl
     refine wv (h:=?_)
     exact z _ _ (by simp [go_sem,Y,n,lE,mO,Prf.c_eq,oM,kJ,eI,dLI,fZ,kW])
end Go.Abs
end
