/- slices.Collect of slices.Values at integers, in the world; s -/
import Derived.Test.YtbgbahlipnaflaaGreatZuAG
import Derived.Test.YtbgbahlipnaflaaGreatZuAQ
import Derived.Test.YtbgbahlipnaflaaGreatZuAR
import Derived.Test.YtbgbahlipnaflaaGreatZuAA
import Derived.RangeFuncBox
import Derived.RangeFuncLeaves
import Derived.Shelf.Abstract
import Derived.WalkKit
import Derived.OwnWalkIn
import Derived.TacticsInMore
import Derived.LoopNIn
import Derived.LoopIn
import Derived.Maps.AppendAt
import Derived.Shelf.Spec.SlicesInsert
import Derived.Lib.AppendZerosOnto
import Derived.Shelf.Bits.Mul64
import Derived.Deep.OwnRows
import Derived.Laws.NewBlocks
import Derived.Laws.CopyOwn
set_option linter.unusedVariables false
set_option linter.unusedSimpArgs false
section
set_option maxRecDepth 100000
set_option maxHeartbeats 4000000
namespace Go.Abs
open Go Go.Proofs Go.RowKit Go.Shelf Tryz
attribute [local go_sem] Oper.semAt_some
theorem GW:(prog.info? 3).map (λi=>(i.zero,i.size,i.bytes))=some (some (.int .i64 0),1,8):=by kernel_rfl
theorem PW (F:Fence)(n:Nat)(h7:F.fn 407)(hro:F.round=none)(hn:1<=n)(l n₀:Nat)(a ad:Addr)(cap:Nat)(zs:V2)(hreach:zs.length<=1000000)(hb:zs≠[]->ad.block<n₀)(J Jx:V2->World->Prop)
  (hY:∀ pre x W,J pre W->pre.length<zs.length->YieldAt F (n - 1) prog l #[.int .i64 x] W λe W' =>
   (e=.returned (.bool true)/\J (pre++[x]) W'/\Below n₀ W W')\/(e=.returned (.bool false)/\Jx (pre++[x]) W'))
  (W:World) (hBs:W.cell? a=some (.slice (some ad) zs.length cap)) (hc:∀ j x,zs[j]?=some x->W.cell? (ad.add j)=some (.int .i64 x)) (h0:J [] W) :
  CallsIn F n prog 407 #[.func (.yield l) #[] #[],.pointer (some a)] W λe W'=>(∃ v,e=.returned v) /\
   ((∃ ys,ys=zs/\J ys W')\/(∃ pre,True/\Jx pre W')):=by
 refine callsIn_of_wp func407 rfl h7 ?_ hro;simp only [ntmps407,oT,eQ,jQ,Nat.reduceAdd,Nat.reduceSub,Bf,Be,Gw,Cm,dP,dN];gi_wp2;gi_loopw [7] (λi wr=>∃ k:Nat,k<=zs.length/\i=.int .i64 k/\J (zs.take k) wr/\Below n₀ W wr)
  (λi _=>zs.length - (RowKit.intOf i).toNat)
 case atStart=>exact ⟨0,eP _,rfl,h0,Below.refl _ _⟩
 case round =>
  obtain ⟨k,hk,rfl,hJs,hnx⟩:=hrel;by_cases hlt:k<zs.length
  .have hcx':wr.cell? (ad.add k)=some (.int .i64 zs[k]):=(hnx.cell (p:=ad.add k) (by rw [i6];exact hb (λe=>by rw [e] at hlt;cases hlt))).trans (hc k _ (aA hlt));obtain ⟨fn,tmps,assign,body,hy,hR⟩:=hY _ zs[k] wr hJs (by simp;omega);gi_wp2;refine hR.mono ?_;rintro e W3 (⟨rfl,hJ3,hk3⟩|⟨rfl,hJx3⟩)
   .gi_wp2;go_roundw;case rel=>exact ⟨k+1,aD,by simp,by rw [List.take_succ_eq_append_getElem hlt];exact hJ3,hnx.trans hk3⟩
    case measure=>simp [RowKit.intOf];omega
   .gi_wp2;refine bodyPost_ret (results_none rfl _ _ _) rfl ?_;exact ⟨⟨_,rfl⟩,.inr ⟨_,trivial,hJx3⟩⟩
  .obtain rfl:k=zs.length:=aD;gi_wp2;go_end0;exact ⟨⟨_,rfl⟩,.inl ⟨_,rfl,by rw [uN] at hJs;exact hJs⟩⟩
theorem GA (F:Fence)(n:Nat)(g:F.fn 407)(b:F.round=none)(l:Nat)(a:Addr)(J:V2->World->Prop)(W:World)(f:W.cell? a=some (.slice none 0 0))(h:J [] W) :
  CallsIn F n prog 407 #[.func (.yield l) #[] #[],.pointer (some a)] W λe W'=>(∃ v,e=.returned v)/\J [] W':=by
 refine callsIn_of_wp func407 rfl g ?_ b;simp only [ntmps407,oT,eQ,jQ,Nat.reduceAdd,Nat.reduceSub,Bf,Be,Gw,Cm,dP,dN];gi_wp2;gi_loopw [7] (λi d=>i=.int .i64 0/\J [] d) (λ_ _=>0);case atStart=>exact ⟨rfl,h⟩
 case round =>
  obtain ⟨rfl,c⟩:=hrel;gi_wp2;go_end0;exact ⟨⟨_,rfl⟩,c⟩
def IntsB (n₀:Nat)(W:World)(sv:Value)(zs:V2):Prop :=
 (sv=.slice none 0 0/\zs=[])\/∃ ad cap,sv=.slice (some ad) zs.length cap/\(zs≠[]->ad.block<n₀)/\∀ j x,zs[j]?=some x->W.cell? (ad.add j)=some (.int .i64 x)
theorem IntsB.below {n₀:Nat}{A B:World}(h:Below n₀ A B){sv:Value}{zs:V2}:IntsB n₀ A sv zs->IntsB n₀ B sv zs
 | .inl e=>.inl e
 | .inr ⟨ad,cap,e,hb,hc⟩=>.inr ⟨ad,cap,e,hb,λj x hj=>(h.cell (p:=ad.add j) (by rw [i6];exact hb (λe=>by rw [e] at hj;cases hj))).trans (hc j x hj)⟩
theorem Lw (F:Fence)(n:Nat)(h7:F.fn 407)(hro:F.round=none)(hn:1<=n)(a:Addr)(n₀:Nat)(sv:Value)(zs:V2)(hreach:zs.length<=1000000)(w:World)(hBs:a.block<w.heap.size)(hn₀:n₀<=w.heap.size)
  (hc:w.cell? a=some sv) (hI:IntsB n₀ w sv zs) :
  SeqStopsK F n prog 407 #[.pointer (some a)] (λx:Int=>#[Value.int .i64 x]) (Below n₀) (λys=>ys=zs) (λ_=>True) zs.length w:=λl J Jx W hW _ _ hY h0=>by
 have hc':=(hW.cell (p:=a) hBs).trans hc;rcases hI.below (hW.mono hn₀) with ⟨rfl,rfl⟩|⟨ad,cap,rfl,hb,hcs⟩
 .exact (GA F n h7 hro l a J W hc' h0).mono λe W' ⟨he,hj⟩=>⟨he,.inl ⟨_,rfl,hj⟩⟩
 .exact PW F n h7 hro hn l n₀ a ad cap zs hreach hb J Jx hY W hc' hcs h0
theorem MR (F:Fence)(n:Nat)(S:F.fn 415)(H:F.fn 407)(g:F.round=none)(Z:3<=n)(a:Addr)(t:Value)(zs:V2)(m:zs.length<=1000000)(w:World)
  (G:a.block<w.heap.size) (E:w.cell? a=some t) (Q:IntsB w.heap.size w t zs) :
  CallsIn F n prog 415 #[.slice none 0 0,.func (.func 407) #[] #[.pointer (some a)]] w λe W'=>∃ v,e=.returned v/\W'.ownsRow w.heap.size 3 1 v zs.length (zs.map (Value.int .i64))/\Below w.heap.size w W':=by
 have T:1<=n:=aD;obtain ⟨J,N,z,y,u⟩:=info_parts GW;refine callsIn_of_wp_marks func415 rfl S ?_ g;simp only [ntmps415,oT,eQ,jQ,Nat.reduceAdd,Nat.reduceSub,Bf,Be,Gw,Cm,dP,dN];gi_wp2;have U:=Boxed.new w 26 (.slice none 0 0);have j:Below w.heap.size w (w.alloc (.cells #[.slice none 0 0] 26)):=(Below.refl _ w).alloc (bF _) _;refine wpIn_rangeFunc_ownG g T (gf:=407) (lb:=#[.pointer (some a)]) rfl H (enters_of func407 (by kernel_rfl) rfl)
  (Lw F (n - 1) H g aD a w.heap.size t zs m _ (by simp;omega) aE ((j.cell (p:=a) G).trans E) (Q.below j)) belowK_t (belowK_b aE) (Below.refl _ _) (λ_=>rfl)
  (λb W=>(∃ v,Boxed W w.heap.size 26 v/\W.ownsRow w.heap.size 3 1 v b.length (b.map (Value.int .i64))/\True)/\Below w.heap.size w W)
  (λ_ _ _=>False)
  (OwnFrom.and (Own.from (holdsRow_own w.heap.size w.heap.size 26 3 1 (λb=>b.length) (λb:V2=>b.map (Value.int .i64)) (λ_ _=>True)) _) (ownFrom_below (bF _) aE))
  (λ_ _ _ _ _ L _ _=>L)
  ⟨⟨_,U,World.ownsRow_nil _ _ _ _,trivial⟩,j⟩
  (λx=>{ tmps:=#[.slice none 0 0,.func (.func 407) #[] #[.pointer (some a)],.pointer (some ⟨w.heap.size,0,none⟩),undef,.slice none 0 0,.int .i64 x,.func (.func 407) #[] #[.pointer (some a)],.int .i64 x,undef,undef,undef,undef,undef],defers:=[] }) ?assign ?body ?done ?stop
 case assign =>
  intro l x W K q;gi_wp2;exact q
 case body =>
  rintro l b x W ⟨⟨v,s,d,_⟩,r⟩ M;have E:=s.cell
  gi_wp2_with (gi_at_builtin;refine wpListIn_append_own _ rfl _ _ 26 rfl w.heap.size 3 J (.int .i64 0) 1 8 underlying26 N z y u rfl (by decide) _ _ _ rfl (d.alloc _) ⟨W.heap.size,0,none⟩ 1 1 [.int .i64 x] rfl rfl (cell_one_new _ _ _) (by simp [Value.oneCell']) (by simp only [maxLen];omega) aD (by have:=r.size;simp;omega) ?_;intro Y X f i _;obtain ⟨g',I,rfl⟩:=ownsRow_succ f;obtain ⟨k,A,B,C,o⟩:=s.appended (by decide) d r.size (bF _) f i;have P:=k.cell;have O:=k.frozen)
  exact ⟨C.from _,o,⟨_,A,by simpa using B,trivial⟩,r.trans o⟩
 case done =>
  rintro D V W R rfl ⟨⟨v,s,d,_⟩,r⟩ q;have E:=s.cell;gi_wp2;refine ⟨by simp,.inl ⟨_,_,rfl,run_takeDeferred q,?_⟩⟩;exact ⟨_,results_tmp rfl _ _ _,v,rfl,ownsRow_putObj d _ q rfl,r.trans (belowK_b (w:=w) (bF _) W D _ _ (by simp at R;omega) q rfl rfl)⟩
 case stop =>
  rintro D c b W _ _ h _;exact h.elim
theorem Q4 (F:Fence)(n:Nat)(m:F.fn 406)(l:F.fn 415)(k:F.fn 407)(c:F.round=none)(p:4<=n)(a:Addr)(f:Value)(zs:V2)(d:zs.length<=1000000)(w:World)
  (g:a.block<w.heap.size) (h:w.cell? a=some f) (j:IntsB w.heap.size w f zs) :
  CallsIn F n prog 406 #[.func (.func 407) #[] #[.pointer (some a)]] w λe W'=>∃ v,e=.returned v/\W'.ownsRow w.heap.size 3 1 v zs.length (zs.map (Value.int .i64))/\Below w.heap.size w W':=by
 refine callsIn_of_wp func406 rfl m ?_ c;simp only [ntmps406,oT,eQ,jQ,Nat.reduceAdd,Nat.reduceSub,Bf,Be,Gw,Cm,dP,dN]
 gi_wp2_with (refine ⟨λ_=>by omega,(MR F (n - 1) l k c aD a f zs d _ g h j).mono ?_⟩;rintro e o ⟨v,rfl,b,i⟩)
 go_ret;exact ⟨v,rfl,b,i⟩
theorem Po (l:V2)(y:l.length<=1000000):Own prog 406 [.fn 407 [.adr [dLI l]]] 3 1 (l.map cI):=by
 refine ⟨⟨Tryz.f406,func406,rfl,rfl⟩,λM w m V P=>?_⟩;obtain ⟨t,s⟩:=P;match m,t with
 | [v],_ =>
  have R:=s 0 v _ rfl rfl;obtain ⟨p,rfl,J⟩:∃ p,v=.func (.func 407) #[] #[p]/\RepV M jL t6 w p (.adr [dLI l]):=by
   cases R with
   | fn _ vs _ y s=>match vs,y with
    | [p],_=>exact ⟨p,rfl,s 0 p _ rfl rfl⟩
  obtain ⟨a,b,rfl,A,o⟩:∃ a b,p=.pointer (some a)/\(¬ M a.block/\w.cell? (a.add 0)=some b)/\RepV M jL t6 w b (dLI l):=by
   cases J with
   | adr a i _ y J E s=>match i,y with
    | [b],_=>exact ⟨a,b,rfl,E 0 b rfl,s 0 b _ rfl rfl⟩
  have z:=A.2;have f:w.cell? a=some b:=by rw [show a.add 0=a by unfold Addr.add;simp] at z;exact z
  have F:=World.block_lt_of_cell? w _ f;have Q:IntsB w.heap.size w b l:=by
   unfold dLI at o;rcases uA o with ⟨rfl,C⟩|⟨K,G,T,i,rfl,d,_,h,_,_,_⟩
   .exact .inl ⟨rfl,by simpa using C⟩
   .have hcl:∀ j x,l[j]?=some x->w.cell? (K.add j)=some (.int .i64 x):=λj x H=>by
     have g:=d.len;rw [AU,aR] at g;have N:j<l.length:=(aO.1 H).1;have n:i[j]?=some i[j]:=aA aD;have I:=d.Z j _ (D.int .i64 x) n (by rw [AU,aM,H];rfl);generalize U:i[j]=q at n I;cases I
     exact (h j _ n).2
    refine .inr ⟨K,G,by simp,λB=>?_,hcl⟩;have L:0<l.length:=List.length_pos_iff.2 B;have:=World.block_lt_of_cell? w _ (hcl 0 _ (aA L));rwa [i6] at this
  refine (CallsIn.calls (Q4 Fence.wide 4 trivial trivial trivial rfl (bF _) a b l y w F f Q) (λk=>room_wide k)).mono λe S ⟨v,C,r,O⟩=>?_;exact ⟨v,_,C,by simpa using r,λu n=>by obtain ⟨x,_,rfl⟩:=aX.1 n;rfl,AK l,rX l,λc E=>by obtain ⟨x,_,rfl⟩:=aX.1 E;rfl,O⟩
theorem Ni (l:V2):Pua 376 [dLI l] (.fn 407 [.adr [dLI l]]):=by
 refine Tz.p0 func376 rfl λQ a Y=>?_;exact wv (h:=a _ _ wy)
theorem Qa (l:V2)(a:l.length<=1000000):Own prog 375 [.fn 407 [.adr [dLI l]]] 3 1 ((iY l).map cI):=by
 refine Tz.oK ⟨λt=>t==5||t==3||t==2,λ_=>[]⟩ func375 rfl (λQ b=>?_);have Y:=trivial;refine wv (h:=lU (Po l a) wl ?_);refine wv (h:=?_);unfold f7;refine zS (ty:=3) (xs:=l) (by simp [go_sem]) a ?_;refine wv (h:=?_);exact b _ _ _ (by simp [go_sem,Y,kH]) (by simp [go_sem,Y,kH])
end Go.Abs
end
section
set_option maxRecDepth 100000
set_option maxHeartbeats 4000000
open Go Go.Proofs Tryz
namespace Go.Abs
theorem Cy (l:V2)(f:l.length<=1000):Pua 325 [dLI l] (.bool (decide (¬ l.Nodup))):=by
 have a:=kH l;have b:decide (imagesN l<l.length)=decide (¬ l.Nodup):=by
  have c:=Ap l;have g:imagesN l<=l.length:=by unfold imagesN;have:=Cd (iY l);omega
  rw [aT];simp only [decide_eq_true_eq];constructor
  .intro h hn;have:=c.2 hn;omega
  .intro hn;have:imagesN l≠l.length:=λd=>hn (c.1 d);omega
 unfold imagesN at b;refine Tz.p0 func325 rfl λQ e Y=>?_;refine wo (h:=aB (Ni l) wl ?_);refine wo (h:=lU (Qa l aD) wl ?_);refine wo (h:=?_);unfold f7;refine Az (ty:=3) (xs:=iY l) (by simp [go_sem]) aD λk=>?_;exact wo (h:=e _ _ (by simp [go_sem,b]))
theorem HI (t:Types)(p g:Graph)(m:Part)(inj:Bool):matchE t p g m inj=if matchE t p g m false≠0 then matchE t p g m false else if inj=true/\(¬ m.h.Nodup\/¬ m.j.Nodup) then 5 else 0:=by
 unfold matchE;split
 .simp
 .split
  .simp_all
  .split
   .simp_all
   .simp
theorem xW (t:Types)(j:t.ok)(p g:Graph)(m:Part)(inj:Bool):Pua 242 [t.d,p.d,g.d,m.d,.bool inj] (dI (checkE t p g m inj)):=by
 refine Tz.p0 func242 rfl λQ c Y=>?_;refine wv (h:=aB (s6 t j p g) wl ?_);refine dR (λb=>?_) λb=>?_
 .have a:checkE t p g m inj=eL t p g:=by unfold checkE;rw [if_pos (bZ b)]
  exact wv (h:=c _ _ (by simp [go_sem,a]))
 .have hG:=nX (bZ b);have k:=AT (bZ b);have l:=bI hG.gp;have a:checkE t p g m inj=matchE t p g m inj:=by unfold checkE;rw [if_neg (bZ b)]
  rw [HI] at a;refine wv (h:=aB (Cz t j p g hG k m) wl ?_);refine dR (λe=>?_) λe=>?_
  .rw [if_pos (bZ e)] at a;exact wv (h:=c _ _ (by simp [go_sem,a]))
  .rw [if_neg (bZ e)] at a;have n:=(AQ (show matchE t p g m false=0 by simpa using e)).1;refine wo (h:=aH (λf=>Cy m.h aD) (λf=>wl) ?_);refine wo (h:=aH (λf=>Cy m.j aD) (λf=>wl) ?_);refine eJ (λi=>?_) λi=>?_
   .rw [if_pos (bZ i)] at a;exact wv (h:=c _ _ (by simp [go_sem,a]))
   .rw [if_neg (bZ i)] at a;exact wv (h:=c _ _ (by simp [go_sem,a]))
theorem y6 (p:Pattern)(h:Host)(m:Part)(N:SOk p h m):Pua 152 [p.d,h.d,m.d] (.tup [dLI (eX p h m []).1,dI (eX p h m []).2]):=by
 have hv:=N.vars;have h0:=Nz (vs:=[]) hv.1 aE aE;rw [Gg] at h0;refine Tz.pK ⟨λt=>t==11||t==15,λr=>match r with|1=>[(2,3),(2,4),(0,5),(1,5),(2,5)]|_=>[]⟩ func152 rfl (λQ P=>?_);have Y:=xa5 @Pattern.d.eq_1 @Pattern.c.eq_1 @Host.d.eq_1 @Host.c.eq_1 @Part.d.eq_1 @Part.c.eq_1 @Term.c.eq_1;refine wv (h:=?_);repeat first|intro _|refine ⟨fS,?_⟩
 refine bC (λi e H=>∃ l:V2 × List Bool,(e 3=.adr p.c/\e 4=.adr h.c/\e 5=.adr m.c/\e 8=.own 2 p.vars.toNat/\e 9=.own 5 p.vars.toNat/\e 23=.list (p.o.map Slot.c)/\e 24=dI p.o.length/\e 25=dI i)/\(H.get 2=some ⟨3,1,l.1.map cI,false⟩)/\(2<H.next)/\(H.get 5=some ⟨4,1,l.2.map cB,false⟩)/\(5<H.next)/\(i<=p.o.length)/\(StOk p.vars.toNat l)/\(slotsV h m (LD p []) (p.o.take i)=some l)) (λi=>p.o.length - i) 0 ⟨((List.replicate p.vars.toNat 0,List.replicate p.vars.toNat false)),wg,(by simp [go_sem,cI]),wn,(by simp [go_sem,cB]),wn,wi,(by exact h0),(by rw [Gg];rfl)⟩ λI0 C i e H a2=>?_;obtain ⟨l,E0,Z,T,W,R,hi,q,I⟩:=a2;have Y:=xa4 Y E0 Z (cW T) W (cW R);refine dR (λE=>?_) λE=>?_
 .obtain ⟨x,U⟩:=c6 (p.o[i]);have A:x∈p.o:=U ▸ aC E;have hn:=N.node x A;have s:x.node.toNat<m.h.length:=aD;have hk:=N.bO _ (aC s);have w:(m.h[x.node.toNat]).toNat<h.k.length:=aD;have ha:=N.H x A;rw [aA s,Option.getD_some,aA w,Option.getD_some] at ha;have B:x.H.toNat<(h.k[(m.h[x.node.toNat]).toNat]).length:=aD;have hV:haveV h m x=h.k[(m.h[x.node.toNat]).toNat][x.H.toNat]:=by unfold haveV;rw [aA s,Option.getD_some,aA w,Option.getD_some,aA B];rfl
  have hb:=N.cA A;have L:=N.y x A;have v:=q.l1;have J:=q.l2;have a5:=L.1;have a6:=L.2;have n:=uY E I;rw [<- U] at n;obtain ⟨o,a⟩:∃ y,y=lX h m l x:=⟨_,rfl⟩;have j:StOk p.vars.toNat o:=a ▸ zU q hb L;rw [<- a] at n;have f:¬ 0<=x.y.O->o=l:=λhn=>by rw [a];unfold lX lT;rw [if_neg (by simp [hn])]
  have F:0<=x.y.O->x.y.O.toNat<l.2.length:=λhn=>by omega
  obtain ⟨kb,V⟩:=c6 (l.2[x.y.O.toNat]?.getD false);have K:0<=x.y.O\/(¬ 0<=x.y.O/\l.2[x.y.O.toNat]?=none)\/(¬ 0<=x.y.O/\l.2[x.y.O.toNat]?=some kb):=by
   by_cases G:0<=x.y.O
   .exact .inl G
   .right
    cases ho:l.2[x.y.O.toNat]? with
    | none=>exact .inl ⟨G,rfl⟩
    | some b=>rw [ho] at V;exact .inr ⟨G,by rw [V];rfl⟩
  rcases K with hc|hc|hc
  .have Y:=xa3 Y E (aA E) (Eq.symm U) (xb0 (aA s) (aA w) (aA B) (Eq.symm hV) @Slot.c.eq_1 @cL.eq_1 v J @lC @cB.eq_1 hc ((aA (F hc))));refine wv (h:=?_);repeat first|intro _|refine ⟨fS,?_⟩
   refine wq (λh7=>?_) λh7=>?_
   .have hF:lT l x=true:=by simp only [lT,aL,decide_eq_true_eq,cX];exact ⟨hc,by simpa [aA (F hc)] using h7⟩
    unfold lX at a;rw [if_pos hF] at a;have a0:x.y.O.toNat<l.1.length:=aD;have e1:o.1.map cI=(l.1.map cI).set x.y.O.toNat (cI (haveV h m x - x.y.add)):=by rw [a,dB]
    have e2:o.2.map cB=(l.2.map cB).set x.y.O.toNat (cB true):=by rw [a,dB]
    have a4:D.R ((l.1.map cI).set x.y.O.toNat [D.int .i64 (haveV h m x - x.y.add)])=true:=by have:=rX o.1;rw [e1] at this;exact this
    have Y:=xa5 Y e1 e2 @dLI.eq_1 @cI.eq_1 (aA a0) a4;refine wv (h:=?_);repeat first|intro _|refine ⟨fS,?_⟩
    refine eH (mY x.y o.1 (by rw [j.l1];exact L) j.bo) wr wl rfl ?_;refine wv (h:=?_);repeat first|intro _|refine ⟨fS,?_⟩
    refine wq (λg=>?_) λg=>?_
    .have hR:=eW (n.2 (by first|simpa using g|simpa [f hc.1] using g|simpa [a] using g));exact wv (h:=P _ _ (by simp [go_sem,hR]))
    .have hstep:=n.1 (by first|simpa using g|simpa [f hc.1] using g|simpa [a] using g);refine wv (h:=?_);repeat first|intro _|refine ⟨fS,?_⟩
     exact wx C (i+1) ⟨o,wg,(by simp [go_sem,Y]),wn,(by simp [go_sem,Y]),wn,wj,(by exact j),(by exact hstep)⟩
   .have hF:¬ lT l x=true:=by simp only [lT,aL,decide_eq_true_eq,cX];rintro ⟨_,hk⟩;simp [aA (F hc)] at hk;simp [hk] at h7
    unfold lX at a;rw [if_neg hF] at a;have Y:=wa Y a;refine wv (h:=eH (mY x.y o.1 (by rw [j.l1];exact L) j.bo) wr wl rfl ?_);refine dR (λg=>?_) λg=>?_
    .have hR:=eW (n.2 (by first|simpa using g|simpa [f hc.1] using g|simpa [a] using g));exact wv (h:=P _ _ (by simp [go_sem,hR]))
    .have hstep:=n.1 (by first|simpa using g|simpa [f hc.1] using g|simpa [a] using g);refine wv (h:=?_);repeat first|intro _|refine ⟨fS,?_⟩
     exact wx C (i+1) ⟨o,wg,(by simp [go_sem,Y]),wn,(by simp [go_sem,Y]),wn,wj,(by exact j),(by exact hstep)⟩
  .have Y:=xa4 Y E (aA E) (Eq.symm U) (aA s) (xb0 (aA w) (aA B) (Eq.symm hV) @Slot.c.eq_1 @cL.eq_1 v J @lC @cB.eq_1 hc.1 hc.2 (f hc.1));refine wv (h:=?_);repeat first|intro _|refine ⟨fS,?_⟩
   refine eH (mY x.y o.1 (by rw [j.l1];exact L) j.bo) wr wl rfl ?_;refine wv (h:=?_);repeat first|intro _|refine ⟨fS,?_⟩
   refine wq (λg=>?_) λg=>?_
   .have hR:=eW (n.2 (by first|simpa using g|simpa [f hc.1] using g|simpa [a] using g));exact wv (h:=P _ _ (by simp [go_sem,hR]))
   .have hstep:=n.1 (by first|simpa using g|simpa [f hc.1] using g|simpa [a] using g);refine wv (h:=?_);repeat first|intro _|refine ⟨fS,?_⟩
    exact wx C (i+1) ⟨o,wg,(by simp [go_sem,Y]),wn,(by simp [go_sem,Y]),wn,wj,(by exact j),(by exact hstep)⟩
  .have Y:=xa4 Y E (aA E) (Eq.symm U) (aA s) (xb0 (aA w) (aA B) (Eq.symm hV) @Slot.c.eq_1 @cL.eq_1 v J @lC @cB.eq_1 hc.1 hc.2 (f hc.1));refine wv (h:=?_);repeat first|intro _|refine ⟨fS,?_⟩
   refine eH (mY x.y o.1 (by rw [j.l1];exact L) j.bo) wr wl rfl ?_;refine wv (h:=?_);repeat first|intro _|refine ⟨fS,?_⟩
   refine wq (λg=>?_) λg=>?_
   .have hR:=eW (n.2 (by first|simpa using g|simpa [f hc.1] using g|simpa [a] using g));exact wv (h:=P _ _ (by simp [go_sem,hR]))
   .have hstep:=n.1 (by first|simpa using g|simpa [f hc.1] using g|simpa [a] using g);refine wv (h:=?_);repeat first|intro _|refine ⟨fS,?_⟩
    exact wx C (i+1) ⟨o,wg,(by simp [go_sem,Y]),wn,(by simp [go_sem,Y]),wn,wj,(by exact j),(by exact hstep)⟩
 .rw [aG aD] at I;have M:=p5 I;have v:=q.l1;have Y:=wa Y v;refine wv (h:=?_);repeat first|intro _|refine ⟨fS,?_⟩
  refine bC (λk e H=>(e 3=.adr p.c/\e 4=.adr h.c/\e 5=.adr m.c/\e 8=.own 2 p.vars.toNat/\e 74=.list (p.E.map Test.c)/\e 75=dI p.E.length/\e 76=dI k)/\(H.get 2=some ⟨3,1,l.1.map cI,false⟩)/\(2<H.next)/\(k<=p.E.length)/\((p.E.take k).all (λx=>A6 x l.1)=true)) (λk=>p.E.length - k) 0 ⟨wg,wn,wn,wi,(by rfl)⟩ λI2 a3 k e H a1=>?_;obtain ⟨E2,X,S,hk,z⟩:=a1;have Y:=xa2 Y E2 X (cW S);refine dR (λu=>?_) λu=>?_
  .have Y:=xa2 Y u (aA u) @Test.c.eq_1;refine wv (h:=?_);repeat first|intro _|refine ⟨fS,?_⟩
   refine eH (xG p.E[k] l.1 (by rw [q.l1];exact N.d2 _ (aC u)) q.bo) wr wl rfl ?_;refine wv (h:=?_);repeat first|intro _|refine ⟨fS,?_⟩
   refine wq (λO=>?_) λO=>?_
   .have hR:eX p h m []=([],16):=by
     rw [M,if_neg];intro ha;rw [b9] at ha;have:=ha _ (aC u);simp [this] at O
    exact wv (h:=P _ _ (by simp [go_sem,hR]))
   .refine wv (h:=?_);repeat first|intro _|refine ⟨fS,?_⟩
    exact wx a3 (k+1) ⟨wg,wn,wn,wj,(by rw [List.take_succ_eq_append_getElem u,oW,z];simp;simpa using O)⟩
  .rw [aG aD] at z;rw [if_pos z] at M;exact wv (h:=P _ _ (by simp [go_sem,Y,M,dLI]))
theorem y7 (t:Types)(b:t.ok)(p:Pattern)(h:Host):Pua 150 [t.d,p.d,h.d] (dI (sE t p h)):=by
 refine Tz.p0 func150 rfl λQ e _=>?_;have Y:=wa @Host.d.eq_1 @Host.c.eq_1;refine wv (h:=aB (pA t b p) wl ?_);refine dR (λa=>?_) λa=>?_
 .exact wv (h:=e _ _ (by simp [go_sem,sE,a]))
 .refine wv (h:=aB (BW t b h) wl ?_);exact wv (h:=e _ _ (by simp [go_sem,sE,a,fM]))
theorem y8 (t:Types)(i:t.ok)(p:Pattern)(h:Host)(m:Part):Pua 243 [t.d,p.d,h.d,m.d] (.tup [dLI (eF t p h m).1,dI (eF t p h m).2]):=by
 refine Tz.p0 func243 rfl λQ g _=>?_;have Y:=xa2 @Pattern.d.eq_1 @Pattern.c.eq_1 @Host.d.eq_1 @Host.c.eq_1;refine wv (h:=aB (y7 t i p h) wl ?_);refine dR (λa=>?_) λa=>?_
 .have e:eF t p h m=([],sE t p h):=by
   unfold eF sE;unfold sE at a;by_cases b:c8 t p=0
   .rw [if_neg aD] at a ⊢;rw [if_pos a,if_neg aD]
   .rw [if_pos b,if_pos b]
  exact wv (h:=g _ _ (by simp [go_sem,e]))
 .have hp0:c8 t p=0:=by
   unfold sE at a;refine aY λb=>?_;rw [if_pos b] at a;exact b a
  have f:fM t h=0:=by unfold sE at a;rw [if_neg aD] at a;exact a
  refine wv (h:=aB (xW t i p.i h.i m false) wl ?_);refine dR (λj=>?_) λj=>?_
  .have e:eF t p h m=([],checkE t p.i h.i m false):=by unfold eF;rw [if_neg aD,if_neg aD,if_pos j]
   exact wv (h:=g _ _ (by simp [go_sem,e]))
  .have h5':checkE t p.i h.i m false=0:=aD;have e:eF t p h m=eX p h m []:=by unfold eF;rw [if_neg aD,if_neg aD,if_neg aD]
   refine wv (h:=aB (y6 p h m (V3 (HA (.inr hp0)) (nB f) (rD (pS h5').2))) wl ?_);exact wv (h:=g _ _ (by simp [go_sem,e]))
theorem DD (t:Types)(E:t.ok)(p:Pattern)(h:Host)(inj:Bool):Pua 84 [t.d,p.d,h.d,.bool inj] (.tup [.list ((fE t p h inj).1.map Mat.c),dI (fE t p h inj).2]):=by
 refine Tz.pK ⟨λt=>t==13||t==15,λ_=>[]⟩ func84 rfl (λQ C=>?_);have Y:=xa2 @Pattern.d.eq_1 @Pattern.c.eq_1 @Host.d.eq_1 @Host.c.eq_1;refine wv (h:=aB (y7 t E p h) wl ?_);refine dR (λb=>?_) λb=>?_
 .have hS:fE t p h inj=([],sE t p h):=by
   unfold fE sE;unfold sE at b;by_cases q:c8 t p=0
   .rw [if_neg aD] at b ⊢;rw [if_pos b,if_neg aD]
   .rw [if_pos q,if_pos q]
  exact wv (h:=C _ _ (by simp [go_sem,hS]))
 .have hp0:c8 t p=0:=by
   unfold sE at b;refine aY λq=>?_;rw [if_pos q] at b;exact q b
  have B:fM t h=0:=by unfold sE at b;rw [if_neg aD] at b;exact b
  have k:∀ x∈(mJ t p.i h.i inj).1,MOk t p.i h.i x:=λx I=>Lo I;refine wv (h:=aB (Qb t E p.i h.i inj) wl ?_);refine dR (λG=>?_) λG=>?_
  .have hS:fE t p h inj=([],(mJ t p.i h.i inj).2):=by unfold fE;rw [if_neg aD,if_neg aD,if_pos G]
   exact wv (h:=C _ _ (by simp [go_sem,hS]))
  .have hS:fE t p h inj=(tP p h [] (mJ t p.i h.i inj).1,0):=by unfold fE;rw [if_neg aD,if_neg aD,if_neg aD]
   obtain ⟨L,F⟩:=c6 ((mJ t p.i h.i inj).1);have l:=IL t p.i h.i inj;rw [<- F] at hS k l;have D:=k;have Y:=wa Y (Eq.symm F);refine wp (h:=bC (λi e H=>∃ j:List Mat,(e 4=.adr t.c/\e 5=.adr p.c/\e 6=.adr h.c/\e 3=.bool inj/\e 38=.list (L.map Part.c)/\e 39=dI L.length/\e 13=.own 0 j.length/\e 40=dI i)/\(H.get 0=some ⟨55,3,j.map Mat.c,false⟩)/\(0<H.next)/\(i<=L.length)/\(j=tP p h [] (L.take i))/\(j.length<=i)/\(L.length<=5000)) (λi=>L.length - i) 0 ⟨([]),wg,wn,wn,wi,(by rfl),(by simp),(by exact l)⟩ λN s i e H A=>?_);obtain ⟨j,K,u,o,M,g,J,r⟩:=A;have Y:=xa2 Y K u (cW o);refine dR (λn=>?_) λn=>?_
   .obtain ⟨v,w⟩:=c6 (eX p h L[i] []);obtain ⟨f,a⟩:∃ y,y=j++if v.2=0 then [(⟨L[i],v.1⟩:Mat)] else []:=⟨_,rfl⟩
    have Y:=xa2 Y n (aA n) @Part.c.eq_1;refine wp (h:=aB ((by have z:=y6 p h L[i] (V3 (HA (.inr hp0)) (nB B) (D _ (aC n)));rw [<- w] at z;unfold Pattern.d Pattern.c Host.d Host.c Part.d Part.c dLI dI at z;exact z)) wl ?_);refine mA (λm=>?_) λm=>?_
    .have hm3:f=j++[⟨L[i],v.1⟩]:=by rw [a,if_pos (bZ m)]
     have Y:=xa1 Y hm3 @Mat.c.eq_1;exact wp (h:=wx s (i+1) ⟨f,wg,wn,wn,wj,(by rw [List.take_succ_eq_append_getElem n,nK,<- g,<- w];exact a),(by rw [a];split<;>simp<;>omega),(by exact r)⟩)
    .have hm3:f=j:=by rw [a,if_neg (bZ m),dL]
     have Y:=wa Y hm3;exact wp (h:=wx s (i+1) ⟨f,wg,wn,wn,wj,(by rw [List.take_succ_eq_append_getElem n,nK,<- g,<- w];exact a),(by rw [a];split<;>simp<;>omega),(by exact r)⟩)
   .rw [aG aD] at g;exact wv (h:=C _ _ (by simp [go_sem,Y,hS,<- g]))
end Go.Abs
end
section
set_option maxRecDepth 100000
set_option maxHeartbeats 4000000
open Go Go.Proofs Go.RowKit Go.Shelf Go.Lib Tryz
namespace Go.Abs
theorem SQ (x y:Nat)(j:x<18446744073709551616)(i:y<18446744073709551616)(w:World) :
  Calls prog 381 #[.int .u64 x,.int .u64 y] w λe w'=>e=.returned (.tuple #[.int .u64 ((x * y / 18446744073709551616:Nat):Int),.int .u64 ((x * y % 18446744073709551616:Nat):Int)])/\w'=w:=by
 obtain ⟨n,k,l,c⟩:=Lib.mul64_hi x y j i;have q:=Lib.half_mul_le (a:=x / 4294967296) (b:=y / 4294967296) aD aD;have p:=Lib.half_mul_le (a:=x / 4294967296) (b:=y % 4294967296) aD aD;have o:=Lib.half_mul_le (a:=x % 4294967296) (b:=y / 4294967296) aD aD;have h:x / 4294967296 * (y / 4294967296)<18446744073709551616:=aD;have g:x / 4294967296 * (y % 4294967296)<18446744073709551616:=aD;have f:x % 4294967296 * (y / 4294967296)<18446744073709551616:=aD;have d:x / 4294967296 * (y / 4294967296)+(x / 4294967296 * (y % 4294967296)+x % 4294967296 * (y % 4294967296) / 4294967296) / 4294967296<18446744073709551616:=aD;have m:x / 4294967296 * (y / 4294967296)+(x / 4294967296 * (y % 4294967296)+x % 4294967296 * (y % 4294967296) / 4294967296) / 4294967296+((x / 4294967296 * (y % 4294967296)+x % 4294967296 * (y % 4294967296) / 4294967296) % 4294967296+x % 4294967296 * (y / 4294967296)) / 4294967296<18446744073709551616:=aD
 go_enter func381,ntmps381
 go_wp2
 simp only [Mul64.maskN x j,Mul64.maskN y i,Mul64.divN,Mul64.mulN,Mul64.addN,Mul64.wrapN _ n,Mul64.wrapN _ g,Mul64.wrapN _ k,Mul64.maskN _ k,Mul64.wrapN _ f,Mul64.wrapN _ l,Mul64.wrapN _ h,Mul64.wrapN _ d,Mul64.wrapN _ m,Mul64.wrapM (x * y)];rw [c]
 go_ret2
 exact ⟨rfl,rfl⟩
theorem V6 (x y:Nat)(d:x<18446744073709551616)(c:y<18446744073709551616)(w:World) :
  Calls prog 333 #[.int .u64 x,.int .u64 y] w λe w'=>e=.returned (.tuple #[.int .u64 ((x * y / 18446744073709551616:Nat):Int),.int .u64 ((x * y % 18446744073709551616:Nat):Int)])/\w'=w:=by
 have a:=SQ x y d c w;have b:∀ args w,(callFunc 381 args).run prog w=.ok (.enter 381 args) w:=enters_of func381 (by kernel_rfl) rfl
 go_enter func333,ntmps333
 go_wp2_with (go_at_fn 381;refine a.mono ?_;rintro e w' ⟨rfl,f⟩;rw [f])
 go_ret2
 exact ⟨rfl,rfl⟩
def pD (v:Int)(n k:Nat):List Value:=List.replicate k (.int .i64 v)++List.replicate (n - k) (.int .i64 0)
theorem NP {v:Int}{n k m:Nat}(h:k+m<=n):(pD v n k).take k++List.replicate m (.int .i64 v)++(pD v n k).drop (k+m)=pD v n (k+m):=by
 unfold pD;rw [List.take_left' aE,List.drop_append,fI,kG aE,dP,List.drop_replicate,<- List.replicate_append_replicate];congr 2;omega
theorem LY (v:Int)(n:Nat)(hn:n<=1000)(ad:Addr)(cap:Nat)(w:World)(hc:w.cell? ad=some (.int .i64 v)) :
  Calls prog 251 #[.slice (some ad) 1 cap,.int .i64 n] w λe w'=>∃ v',e=.returned v'/\w'.ownsRow w.heap.size 3 1 v' n (List.replicate n (.int .i64 v))/\Below w.heap.size w w':=by
 have hsz:(prog.info? 3).map (·.size)=some 1:=by kernel_rfl
 have cM:=λw=>V6 1 n aD aD w;have e1:∀ args w,(callFunc 333 args).run prog w=.ok (.enter 333 args) w:=enters_of func333 (by kernel_rfl) rfl;have hmk:=λw=>run_make_row' (P:=prog) 26 3 (.int .i64 0) 8 underlying26 GW rfl .i64 .i64 n aD aD w;have hq1:(1 * n) / 18446744073709551616=0:=aD;have hq2:(1 * n) % 18446744073709551616=n:=aD;have hn0:¬ ((n:Int)<0):=aD;have hn1:¬ ((9223372036854775807:Int)<n):=aD;have cpy:∀ (k m:Nat) (W:World) (ty dl dc:Nat) (a:Addr) (sl sc:Nat),k+m<=n->m=Nat.min sl dl->W.heap[w.heap.size]?=some (.cells (pD v n k).toArray 3 (0,0))->(∀ (j:Nat) (u:Value),(List.replicate m (Value.int .i64 v))[j]?=some u->W.cell? (a.add j)=some u) ->
   (Builtin.copy_ #[26,26] ty #[.slice (some ⟨w.heap.size,k,none⟩) dl dc,.slice (some a) sl sc]).run prog W=.ok (goInt m) (W.setRow w.heap.size (pD v n (k+m)).toArray):=λk m W ty dl dc a sl sc hkm hm hb hs=>by
  rw [<- NP hkm];have:=Jg (P:=prog) W 26 26 ty 3 1 w.heap.size k dl dc a sl sc m (pD v n k).toArray 3 (List.replicate m (.int .i64 v)) underlying26 hsz hb hm aE hs (by simp [pD];omega) (by simp [Value.oneCell']);simpa using this
 have h0:(w.alloc (.cells (madeCells #[.int .i64 0] n) 3)).heap[w.heap.size]?=some (.cells (pD v n 0).toArray 3 (0,0)):=by
  rw [(MapKept.heap_alloc w _).1];congr 2;apply Array.toList_inj.1;rw [toList_madeCells_one];simp [pD]
 obtain ⟨m0,hm0⟩:∃ m,m=Nat.min 1 n:=⟨_,rfl⟩;have hm1:m0<=1/\m0<=n/\(m0=1\/n=0):=by rw [hm0];simp only [Nat.min_def];split<;>omega
 have hbad:ad.block<w.heap.size:=World.block_lt_of_cell? w _ hc;have hcp0:=λty=>cpy 0 m0 (w.alloc (.cells (madeCells #[.int .i64 0] n) 3)) ty n n ad 1 cap aD hm0 h0 (λj u hj=>by
  have hj0:j=0:=by have:=(aO.1 hj).1;simp at this;omega
  subst hj0;rw [wI] at hj;split at hj
  .cases hj
   rw [show ad.add 0=ad by unfold Addr.add;simp];exact ((Below.refl _ w).alloc (bF _) _).cell (p:=ad) hbad |>.trans hc
  .cases hj)
 simp only [fA] at hcp0;clear hm0;have mixed:=Tz.mixed
 go_enter func251,ntmps251
 go_wp2_with (first|(go_at_fn 333;refine (cM _).mono ?_;rintro e w' ⟨rfl,hw⟩;rw [hw,hq1,hq2])|(at_builtin;refine wpList_copy_runI _ rfl _ _ 26 26 rfl _ _ rfl rfl (hcp0 _) ?_))
 go_loopw [8] (λi wr=>∃ k:Nat,k<=n/\(0<k\/n=0)/\i=.int .i64 k/\wr.heap[w.heap.size]?=some (.cells (pD v n k).toArray 3 (0,0))/\Below w.heap.size w wr)
  (λi _=>n - (RowKit.intOf i).toNat)
 case atStart =>
  refine ⟨m0,hm1.2.1,aD,by simp [goInt],setRow_heap _ _ _ _ _ _ h0,?_⟩;exact below_setRow ((Below.refl _ w).alloc (bF _) _) (bF _) _
 case round =>
  obtain ⟨k,hk,hk0,rfl,hb,hbl⟩:=hrel;by_cases hlt:k<n
  .have hkn:¬ (n=k):=aD;have hcp1:=λty dc sc=>cpy k (Nat.min k (n - k)) wr.drew ty (n - k) dc ⟨w.heap.size,0,none⟩ k sc (by simp only [Nat.min_def];split<;>omega) rfl hb (λj u hj=>by
    have hjk:=(aO.1 hj).1;rw [fI] at hjk;rw [wI,if_pos hjk] at hj;cases hj
    have hjk2:j<k:=by simp only [Nat.min_def] at hjk;split at hjk<;>omega
    rw [jD];show wr.cell? _=_;simp [World.cell?,hb,pD,aS,hjk2])
   go_wp2
   go_region_law_o (refine step_copy_runI rfl _ _ 26 26 rfl _ _ (by simp [Act.eval,Act.put]) (by simp [Act.eval,Act.put]) (hcp1 _ _ _) ?_)
   have hmn:k+Nat.min k (n - k)<=n/\0<Nat.min k (n - k):=by simp only [Nat.min_def];split<;>omega
   simp only [Act.put,List.getElem_toArray,List.getElem_cons_succ,List.getElem_cons_zero,List.setIfInBounds_toArray,EE,wH];go_roundw;case rel =>
    refine ⟨_,_,_,_,_,_,_,_,_,_,_,_,_,_,⟨k+Nat.min k (n - k),hmn.1,aD,?_,setRow_heap wr.drew _ _ _ _ _ hb,below_setRow (w:=wr.drew) ⟨hbl.os,hbl.tape,hbl.output,hbl.size,hbl.block⟩ (bF _) _⟩,rfl⟩;congr 1;rw [IntKind.wrap_i64];omega
   case measure=>simp [RowKit.intOf,goInt,IntKind.wrap_i64];omega
  .obtain rfl:k=n:=aD
   go_wp2
   go_ret;refine ⟨_,rfl,⟨by simp,.inr ⟨w.heap.size,k,(pD v k k).toArray,rfl,bF _,hb,bF _,by simp only [maxLen];omega,by simp [pD],?_⟩⟩,hbl⟩;simp [pD]
theorem Hd (v:Int)(n:Nat)(z:n<=1000):Own prog 251 [.list [[dI v]],dI n] 3 1 ((List.replicate n v).map cI):=by
 refine ⟨⟨Tryz.f251,func251,rfl,rfl⟩,λM w f J F=>?_⟩;obtain ⟨h,r⟩:=F;match f,h with
 | [s,y],_ =>
  have H:=r 0 s _ rfl rfl;have G:=r 1 y _ rfl rfl;cases G
  rcases uA H with ⟨rfl,l⟩|⟨o,m,I,p,rfl,a,_,d,_,_,_⟩
  .cases l
  .have hx:∃ u,p[0]?=some u:=by
    have A:=a.len;simp at A;exact ⟨p[0]' aD,aA aD⟩
   obtain ⟨u,j⟩:=hx;have B:=a.Z 0 u (D.int .i64 v) j rfl;cases B
   have i:=(d 0 _ j).2;rw [show o.add 0=o by unfold Addr.add;simp] at i;refine (LY v n z o m w i).mono λe t ⟨q,l,g,E⟩=>?_;have k:((List.replicate n v).map cI).length=n:=aE;exact ⟨q,_,l,by rw [k];exact g,λu j=>by rw [lV j];rfl,by
    have:=AK (M:=λb=>M b\/q.ownBlock=some b) (σ:=jL) (N:=t6) (w:=t) (List.replicate n v);simpa using this,rX _,λc C=>by obtain ⟨x,_,rfl⟩:=aX.1 C;rfl,E⟩
end Go.Abs
end
section
set_option maxRecDepth 100000
set_option maxHeartbeats 4000000
open Go Go.Proofs Tryz
namespace Go.Abs
theorem A2 {l:V2}(b:l.Pairwise (· < ·))(v:Int):gY l l.length v=if mem l v=true then (oZ l v:Int) else -1:=by
 by_cases h:mem l v=true
 .rw [if_pos h,<- Dc b h];obtain ⟨p,d,e⟩:=aN ((mem_iff l v).1 h);have c:=dD.1 b;rw [w4 (i:=p) (λj k f=>by
   have a:j<l.length:=aD;rw [aA a] at f;have:=c j p a d k;simp at f;omega) (by rw [aA d,e]),<- e,qS (i7 b) d]
 .rw [if_neg h,rP (λg=>h ((mem_iff _ _).2 g)) _ (bF _)]
def FG (d:V2)(n i:Nat):V2:=mH d i++List.replicate (n - i) 0
theorem GJ {d:V2}{n i:Nat}(h:i<=n):(FG d n i).length=n:=by simp [FG,mG];omega
theorem Nr {d:V2}{n i:Nat}(h:i<n):(FG d n i).set i (gY d d.length i)=FG d n (i+1):=by
 unfold FG;rw [nI _ _ (by rw [mG];omega),mG,uV,IH,show n - i=(n - (i+1))+1 by omega,pV,wH,List.append_assoc];rfl
theorem GM (n:Nat)(s:n<=1000000)(d:V2)(m:d.Pairwise (· < ·))(o:d.length<=1000000):Pua 159 [dI n,dLI d] (dLI (oP d n)):=by
 refine Tz.p0 func159 rfl λQ q Y=>?_;refine wp (h:=bC (λi e H=>(e 1=dLI d/\e 5=.own 0 n/\e 12=dI n/\e 13=dI i)/\(H.get 0=some ⟨3,1,(FG d n i).map cI,false⟩)/\(0<H.next)/\(i<=n)) (λi=>n - i) 0 ⟨wg,(by simp [go_sem,FG,mH,cI]),wn,wi⟩ λu c i e H k=>?_);obtain ⟨r,g,b,t⟩:=k;have Y:=xa2 Y r g (cW b);refine dR (λf=>?_) λf=>?_
 .have hB:=A2 m (i:Int);have j:i<(FG d n i).length:=by rw [GJ aD];exact f
  have a:(FG d n i).length=n:=GJ aD;have Y:=xa2 Y f (aA j) a;refine wv (h:=aB (vR d i m o) wl ?_);refine mA (λl=>?_) λl=>?_
  .rw [if_neg (bZ l)] at hB;have Y:=wa Y hB;exact wp (h:=wx c (i+1) ⟨wg,(by simp [go_sem,Y,<- Nr f,dB,cI]),wn,wj⟩)
  .rw [if_pos (bZ l)] at hB;have Y:=wa Y hB;exact wp (h:=wx c (i+1) ⟨wg,(by simp [go_sem,Y,<- Nr f,dB,cI]),wn,wj⟩)
 .have a:(FG d n i).length=n:=GJ aD;have p:oP d n=FG d n i:=by unfold FG oP;rw [(aD:i=n)];simp
  have Y:=wa Y a;exact wv (h:=q _ _ (by simp [go_sem,Y,p,dLI]))
/-! ### comatch -/
def Vk (keep into at_:V2)(n j:Nat):Int:=if 0<=gY into n j then at_[(keep[(gY into n j).toNat]?.getD 0).toNat]?.getD 0 else -1
def Q5 (keep into at_:V2)(count n:Nat):V2:=(List.range count).map (Vk keep into at_ n)
def IA (keep into at_:V2)(count remain i:Nat):V2:=(List.range count).map λj=>if j<i then Iu keep into at_ remain j else Vk keep into at_ into.length j
theorem WH (keep b at_:V2)(a n:Nat):(Q5 keep b at_ a n).length=a:=by simp [Q5]
theorem MB (keep c at_:V2)(a b i:Nat):(IA keep c at_ a b i).length=a:=by simp [IA]
theorem Vm (keep b at_:V2)(a:Nat):Q5 keep b at_ a 0=List.replicate a (-1):=by
 apply e9 (by simp [Q5]);intro i d c;simp [Q5,Vk,gY]
theorem Vn (keep a at_:V2)(b n:Nat)(h:n<a.length)(f:0<=a[n]):Q5 keep a at_ b (n+1)=(Q5 keep a at_ b n).set a[n].toNat (at_[(keep[n]?.getD 0).toNat]?.getD 0):=by
 apply e9 (by simp [Q5]);intro i e d;rw [A4];simp only [Q5,g9,qY,Vk,rO,aA h,Option.getD_some];by_cases c:a[n]=(i:Int)
 .rw [if_pos c,if_pos aD,if_pos aD,Int.toNat_natCast]
 .rw [if_neg c,if_neg (aD:¬ a[n].toNat=i)]
theorem Vl (keep a at_:V2)(b c:Nat):IA keep a at_ b c 0=Q5 keep a at_ b a.length:=by simp [IA,Q5]
theorem WE (keep c at_:V2)(b a:Nat){i:Nat}(h:i<b):(IA keep c at_ b a i).set i (Iu keep c at_ a i)=IA keep c at_ b a (i+1):=by
 apply e9 (by simp [IA]);intro j g f;rw [A4];simp only [IA,g9,qY];by_cases d:i=j
 .subst d;rw [if_pos rfl,if_pos aD]
 .rw [if_neg d];by_cases e:j<i
  .rw [if_pos e,if_pos aD]
  .rw [if_neg e,if_neg aD]
theorem WG (keep c at_:V2)(a b:Nat):IA keep c at_ a b a=DQ keep c at_ a b:=by
 unfold IA DQ;exact cH λj d=>by rw [if_pos (aW.1 d)]
theorem WF (keep a at_:V2)(b c:Nat){i:Nat}(h:i<b):(IA keep a at_ b c i)[i]?=some (Vk keep a at_ a.length i):=by
 simp [IA,h]
theorem Cv (b:Nat)(hc:b<=1000)(keep a c d:V2)(n:Nat)(hn:n<=1000)(hl:a.length<=keep.length)(L:∀ x∈a,0<=x/\x<b)(K:∀ x∈keep,0<=x/\x<c.length)(I:∀ x∈keep,0<=iA c x/\iA c x<d.length)
  (X:∀ x∈keep,0<=(pY c d)[x.toNat]?.getD 0):Pua 160 [dI b,dLI keep,dLI a,dLI c,dLI d,dI n] (dLI (DQ keep a (pY c d) b n)):=by
 refine Tz.pK ⟨λt=>t==19,λ_=>[]⟩ func160 rfl (λQ hQ=>?_);have Y:=trivial;refine wv (h:=lU (Hd (-1) b hc) wl ?_);refine wv (h:=?_);repeat first|intro _|refine ⟨fS,?_⟩
 refine bC (λi e H=>(e 1=dLI keep/\e 2=dLI a/\e 3=dLI c/\e 4=dLI d/\e 13=.own 0 b/\e 20=dLI a/\e 21=dI a.length/\e 22=dI i/\e 5=dI n)/\(H.get 0=some ⟨3,1,(Q5 keep a (pY c d) b i).map cI,false⟩)/\(0<H.next)/\(i<=a.length)) (λi=>a.length - i) 0 ⟨wg,(by simp [go_sem,Vm,cI]),wn,wi⟩ λI0 U i e H P=>?_;obtain ⟨E0,D,s,hi⟩:=P;have Y:=xa2 Y E0 D (cW s);refine dR (λA=>?_) λA=>?_
 .have hki:i<keep.length:=aD;have Z:=K _ (aC hki);have G:=I _ (aC hki);have o:keep[i].toNat<c.length:=aD;have N:iA c keep[i]=c[keep[i].toNat]:=by unfold iA;rw [aA o];rfl
  rw [N] at G;have w:(c[keep[i].toNat]).toNat<d.length:=aD;have M:=L _ (aC A);have f:(Q5 keep a (pY c d) b i).length=b:=WH _ _ _ _ _;have T:a[i].toNat<(Q5 keep a (pY c d) b i).length:=aD;have W:(pY c d)[(keep[i]?.getD 0).toNat]?.getD 0=d[(c[keep[i].toNat]).toNat]:=by
   rw [aA hki,Option.getD_some];unfold pY;rw [aM,aA o,eD,Option.getD_some,aA w,Option.getD_some]
  have u:=Vn keep a (pY c d) b i A M.1;rw [W] at u;have Y:=xa6 Y A (aA A) (aA hki) (aA o) (aA w) (aA T) f;refine wv (h:=?_);repeat first|intro _|refine ⟨fS,?_⟩
  exact wx U (i+1) ⟨wg,(by simp [go_sem,Y,u,dB,cI]),wn,wj⟩
 .have hA:Q5 keep a (pY c d) b i=IA keep a (pY c d) b n 0:=by rw [Vl,(aD:i=a.length)]
  have f:(IA keep a (pY c d) b n 0).length=b:=MB _ _ _ _ _ _;have F:BO a 0=0:=Kz a;have Y:=xa2 Y hA f F;refine wv (h:=?_);repeat first|intro _|refine ⟨fS,?_⟩
  refine bC (λk e H=>(e 1=dLI keep/\e 2=dLI a/\e 3=dLI c/\e 4=dLI d/\e 13=.own 0 b/\e 42=dI b/\e 43=dI k/\e 5=dI ((n+BO a k:Nat):Int))/\(H.get 0=some ⟨3,1,(IA keep a (pY c d) b n k).map cI,false⟩)/\(0<H.next)/\(k<=b)) (λk=>b - k) 0 ⟨wg,(by simp [go_sem,Y]),wn,wi⟩ λI2 z k e H O=>?_;obtain ⟨E2,C,r,hk⟩:=O;have Y:=xa2 Y E2 C (cW r);refine dR (λE=>?_) λE=>?_
  .have hnl:=RP a k;have f:(IA keep a (pY c d) b n k).length=b:=MB _ _ _ _ _ _;have S:k<(IA keep a (pY c d) b n k).length:=aD;have R:=WF keep a (pY c d) b n E;have p:(IA keep a (pY c d) b n k)[k]=Vk keep a (pY c d) a.length k:=by rw [aA S] at R;exact Option.some.inj R
   have l:=WE keep a (pY c d) b n E;have m:=KA a k;have a0:=DB a (k:Int) a.length;have Y:=xa2 Y f E R;refine wv (h:=?_);repeat first|intro _|refine ⟨fS,?_⟩
   refine wq (λg=>?_) λg=>?_
   .rw [p] at g;have v:¬ 0<=gY a a.length k:=by
     intro B;have y:(gY a a.length k).toNat<keep.length:=aD;have:=X _ (aC y);simp only [Vk,if_pos B,aA y,Option.getD_some] at g;omega
    have q:Iu keep a (pY c d) n k=((n+BO a k:Nat):Int):=by unfold Iu;rw [if_neg v]
    rw [q] at l;rw [if_pos aD] at m;have j:(IA keep a (pY c d) b n (k+1)).map cI=((IA keep a (pY c d) b n k).map cI).set k [.int .i64 ((n+BO a k:Nat):Int)]:=by rw [<- l,dB];rfl
    have Y:=wa Y m;refine wv (h:=?_);repeat first|intro _|refine ⟨fS,?_⟩
    exact wx z (k+1) ⟨wg,(by simp [go_sem,Y,j]),wn,wj⟩
   .rw [p] at g;have q:Iu keep a (pY c d) n k=Vk keep a (pY c d) a.length k:=by
     unfold Iu Vk;split
     .rfl
     .rename_i B;exfalso;unfold Vk at g;rw [if_neg B] at g;omega
    have V:0<=gY a a.length k:=by
     refine aY λB=>?_;unfold Vk at g;rw [if_neg B] at g;omega
    rw [q,<- p,List.set_getElem_self] at l;rw [if_neg aD] at m;have j:(IA keep a (pY c d) b n (k+1))=IA keep a (pY c d) b n k:=l.symm;have Y:=wa Y m;refine wv (h:=?_);repeat first|intro _|refine ⟨fS,?_⟩
    exact wx z (k+1) ⟨wg,(by simp [go_sem,Y,j]),wn,wj⟩
  .have hE:=WG keep a (pY c d) b n;have J:k=b:=aD;have f:(IA keep a (pY c d) b n b).length=b:=MB _ _ _ _ _ _;rw [hE] at f;have Y:=xa2 Y f J hE;exact wv (h:=hQ _ _ (by simp [go_sem,Y,hE,dLI]))
/-! ### copies -/
@[go_sem] theorem Mat.hb (m:Mat):m.d.Q=true:=by simp [Mat.d,D.Q,Mat.Q]
theorem GP (m:Mat)(f:m.m.h.length<=1000000)(e:m.m.j.length<=1000000)(b:m.vars.length<=1000000):Pua 157 [m.d] m.d:=by
 refine Tz.pK ⟨λt=>t==2,λ_=>[]⟩ func157 rfl (λQ a=>?_);have Y:=wa @Mat.d.eq_1 @Mat.c.eq_1;refine wv (h:=?_);refine n3 (gG m.m.h f) (by simp [go_sem,dLI]) (by simp [go_sem]) (KT _) rfl (by simp [go_sem]) ?_;refine wv (h:=?_);refine n3 (gG m.m.j e) (by simp [go_sem,dLI]) (by simp [go_sem]) (KT _) rfl (by simp [go_sem]) ?_;refine wv (h:=?_);refine n3 (gG m.vars b) (by simp [go_sem,dLI]) (by simp [go_sem]) (KT _) rfl (by simp [go_sem]) ?_;exact wv (h:=a _ _ (by simp [go_sem,Y,dLI]))
def FR (t:Types)(r:Rule)(h:Host)(m:Mat):Int :=
 if checkE t r.left.i h.i m.m r.inj≠0 then 1
 else if (eF t r.left h m.m).2≠0 then (eF t r.left h m.m).2
 else if (eF t r.left h m.m).1≠m.vars then 11 else 0
theorem Ox (t:Types)(r:Rule)(h:Host)(m:Mat):pE t r h m=if FR t r h m≠0 then FR t r h m else oN (kU r.left.i h.i m.m) h.i r.q m.m:=by
 unfold pE FR;by_cases c:checkE t r.left.i h.i m.m r.inj≠0
 .rw [if_pos c,if_pos c];simp
 .rw [if_neg c,if_neg c];by_cases a:(eF t r.left h m.m).2≠0
  .rw [if_pos a,if_pos a,if_pos a]
  .rw [if_neg a,if_neg a];by_cases b:(eF t r.left h m.m).1≠m.vars
   .rw [if_pos b,if_pos b];simp
   .rw [if_neg b,if_neg b];simp
theorem LB (t:Types)(g:t.ok)(r:Rule)(h:Host)(m:Mat):Pua 153 [t.d,r.d,h.d,m.d] (dI (FR t r h m)):=by
 refine Tz.p0 func153 rfl λQ a _=>?_;have Y:=xa7 @Rule.d.eq_1 @Rule.c.eq_1 @Pattern.c.eq_1 @Host.d.eq_1 @Host.c.eq_1 @Mat.d.eq_1 @Mat.c.eq_1 @Graph.c.eq_1 @Part.c.eq_1;refine wv (h:=aB (xW t g r.left.i h.i m.m r.inj) wl ?_);refine dR (λf=>?_) λf=>?_
 .have hM:FR t r h m=1:=by unfold FR;rw [if_pos (bZ f)]
  exact wv (h:=a _ _ (by simp [go_sem,hM]))
 .have hM:FR t r h m=if (eF t r.left h m.m).2≠0 then (eF t r.left h m.m).2 else if (eF t r.left h m.m).1≠m.vars then 11 else 0:=by unfold FR;rw [if_neg (bZ f)]
  refine wv (h:=aB (y8 t g r.left h m.m) wl ?_);refine dR (λe=>?_) λe=>?_
  .rw [if_pos (bZ e)] at hM;exact wv (h:=a _ _ (by simp [go_sem,hM]))
  .rw [if_neg (bZ e)] at hM;refine wo (h:=aB (mE (eF t r.left h m.m).1 m.vars) wl ?_);refine eJ (λb=>?_) λb=>?_
   .rw [if_pos (bZ b)] at hM;exact wv (h:=a _ _ (by simp [go_sem,hM]))
   .rw [if_neg (bZ b)] at hM;exact wv (h:=a _ _ (by simp [go_sem,hM]))
theorem GO (t:Types)(b:t.ok)(r:Rule)(g:r.ok)(h:Host):Pua 83 [t.d,r.d,h.d] (dI (f9 t r h)):=by
 refine Tz.p0 func83 rfl λQ c Y=>?_;refine wv (h:=aB (nM t b) wl ?_);refine dR (λf=>?_) λf=>?_
 .have hE:ruleF t r=(dA t).2:=by unfold ruleF;rw [if_pos (bZ f)]
  have a:f9 t r h=(dA t).2:=by unfold f9;rw [if_pos (by rw [hE];simpa using f),hE]
  exact wv (h:=c _ _ (by simp [go_sem,a]))
 .refine wv (h:=aB (G5 t b r g) wl ?_);refine dR (λe=>?_) λe=>?_
  .have a:f9 t r h=ruleF t r:=by unfold f9;rw [if_pos (bZ e)]
   exact wv (h:=c _ _ (by simp [go_sem,a]))
  .have a:f9 t r h=fM t h:=by unfold f9;rw [if_neg (bZ e)]
   refine wv (h:=aB (BW t b h) wl ?_);exact wv (h:=c _ _ (by simp [go_sem,a,fM]))
theorem x7 (t:Types)(g:∀ n∈t.h,n.r.length<=1000000000000000)(r:Rule)(e:r.le)(h:Host):Pua 6 [t.d,r.d,h.d] (.bool (light26 t r h)):=by
 refine Tz.p0 func6 rfl λQ f _=>?_;have Y:=xa1 @Host.c.eq_1 @Rule.c.eq_1 @Cond.x;refine wo (h:=aB (Kl t g) wl ?_);refine wo (h:=aH (λa=>(by have b:=SU r e;simpa [Rule.d,Rule.c,Cond.x,go_sem] using b)) (λa=>wl) ?_);refine wo (h:=aH (λa=>(by have b:=N4 t (Gu (by simp at a;exact a.1)) r.left r.cond e.cond h;rwa [Cond.x] at b)) (λa=>wl) ?_);have Y:=wa Y @light26.eq_1;exact wo (h:=f _ _ wy)
theorem QK {t:Types}{r:Rule}{h:Host}(a:light26 t r h=true):t.ok/\r.ok:=by
 unfold light26 at a;simp only [aL] at a;exact ⟨Gu a.1.1,My a.1.2⟩
theorem UC (l:List ByteArray):fD (l.map cS)=l.map cS:=mD λc hc=>by
 rw [aX] at hc;obtain ⟨x,_,rfl⟩:=hc;rfl
theorem Tc (l:List Attr):fD (l.map Attr.c)=l.map Attr.c:=mD λc hc=>by
 rw [aX] at hc;obtain ⟨x,_,rfl⟩:=hc;simp [Attr.c,iU,mL,uS,dI,UC]
theorem Kv (l:List NodeTy):fD (l.map NodeTy.c)=l.map NodeTy.c:=mD λc hc=>by
 rw [aX] at hc;obtain ⟨x,_,rfl⟩:=hc;simp [NodeTy.c,iU,mL,dI,Tc]
theorem Fb (l:List EdgeTy):fD (l.map EdgeTy.c)=l.map EdgeTy.c:=mD λc hc=>by
 rw [aX] at hc;obtain ⟨x,_,rfl⟩:=hc;simp [EdgeTy.c,iU,mL,dI]
theorem Pure.fg {P:Program}{f:FuncId}{args args':UN}{r:D}(c:Pure P f args' r)(i:args.map mL=args'):Pure P f args r:=by
 subst i;refine ⟨c.1,λM w a k b=>c.2 M w a k ⟨by simpa using b.len,λj u d h e=>?_⟩⟩;rw [aM,bU] at e;obtain ⟨y,g,rfl⟩:=e;exact RO (b.Z j u y h g)
def exT:Types:=⟨[⟨⟨#[65,99,99,111,117,110,116]⟩,-1,true,[⟨⟨#[98,97,108,97,110,99,101]⟩,-1000,1000,[]⟩]⟩,⟨⟨#[67,97,115,104]⟩,0,false,[]⟩,⟨⟨#[76,111,97,110]⟩,0,false,[⟨⟨#[115,116,97,116,101]⟩,0,1,[⟨#[111,112,101,110]⟩,⟨#[99,108,111,115,101,100]⟩]⟩]⟩,⟨⟨#[80,101,114,115,111,110]⟩,-1,false,[]⟩],
 [⟨⟨#[111,119,110,115]⟩,3,0,0,-1,1,1⟩,⟨⟨#[112,97,121,115]⟩,1,1,0,-1,0,-1⟩]⟩
theorem Bu:Pua 18 [] exT.d:=by
 refine vY (by first|rfl|(simp [go_sem];done)) (λQ a=>(Tz.cK ⟨λt=>t==0,λ_=>[]⟩ func18 rfl ?_));have Y:=trivial;refine kZ (h:=?_);exact a _ _ (by simp [go_sem,exT,Types.d,Types.c,NodeTy.c,EdgeTy.c,Attr.c,uS,cS,dI])
theorem R7:xB exT=true:=by decide +kernel
theorem yW (a:V2):Pua 63 [dLI a,dLI a] (.bool true):=by
 refine Tz.p0 func63 rfl λQ f Y=>?_;refine wo (h:=bC (λi e H=>(e 0=dLI a/\e 1=dLI a/\e 5=dI i)/\(i<=a.length)) (λi=>a.length - i) 0 ⟨wg,wi⟩ λk d i e H c=>?_);obtain ⟨g,j⟩:=c;have Y:=wa Y g;refine wv (h:=?_);repeat first|intro _|refine ⟨iI,?_⟩
 refine wq (λb=>?_) λb=>?_
 .have Y:=xa1 Y b (aA b);exact wo (h:=wx d (i+1) ⟨wg,wj⟩)
 .have Y:=wa Y b;exact wv (h:=f _ _ wy)
theorem Ol (p:Part):Pua 25 [p.d,p.d] (.bool true):=by
 refine Tz.p0 func25 rfl λQ b Y=>?_;refine wo (h:=aB (yW p.h) wl ?_);refine wo (h:=aH (λa=>yW p.j) (λa=>wl) ?_);exact wo (h:=b _ _ wy)
theorem Ai (t:Types)(p:Pattern)(h:Host)(inj:Bool):(fE t p h inj).1.length<=5000:=by
 unfold fE;split
 .simp
 .split
  .simp
  .split
   .simp
   .exact fB (List.length_filterMap_le _ _) (IL _ _ _ _)
theorem MP (t:Types)(b:t.ok)(r:Rule)(f:r.ok)(h:Host)(m:Mat){v:Stp26}{e:Int}(a:v=gI t r h m)(g:e=lL t r h m):Pua 44 [t.d,r.d,h.d,m.d] (.tup [.agg v.c,dI e]):=by
 subst a g;exact NT t b r f h m
theorem D5 (t:Types)(q:t.ok)(r:Rule)(A:r.ok)(h:Host):Pua 42 [t.d,r.d,h.d] (.tup [.list ((o7 t r h).1.map Mat.c),dI (o7 t r h).2]):=by
 refine Tz.pK ⟨λt=>t==11||t==13,λr=>match r with|11=>[(0,11),(1,11),(2,11),(5,11),(6,11),(7,11)]|_=>[]⟩ func42 rfl (λQ x=>?_);have Y:=wa @Host.d.eq_1 @Host.c.eq_1;refine wv (h:=aB (ET t q r A h) wl ?_);refine dR (λE=>?_) λE=>?_
 .have hS:o7 t r h=([],f9 t r h):=by unfold o7;rw [if_pos E]
  exact wv (h:=x _ _ (by simp [go_sem,hS]))
 .refine wv (h:=aB (Jt t q r.left h r.inj) wl ?_);refine dR (λD=>?_) λD=>?_
  .have hS:o7 t r h=([],(fE t r.left h r.inj).2):=by unfold o7;rw [if_neg aD,if_pos D]
   exact wv (h:=x _ _ (by simp [go_sem,hS]))
  .have hS:o7 t r h=((fE t r.left h r.inj).1.filter λm=>decide (gS t r h m=0),0):=by unfold o7;rw [if_neg aD,if_neg aD]
   have z:=Ai t r.left h r.inj;obtain ⟨L,C⟩:=c6 ((fE t r.left h r.inj).1);rw [<- C] at hS z;have w:∀ m,lL t r h m=gS t r h m:=λm=>by unfold lL;rw [if_neg aD]
   have Y:=wa Y (Eq.symm C);refine wv (h:=bC (λi e H=>∃ g:List Mat,(e 3=.adr t.c/\e 4=.adr r.c/\e 5=.adr h.c/\e 9=.list (L.map Mat.c)/\e 11=.own 0 g.length/\e 12=dI i)/\(H.get 0=some ⟨55,3,g.map Mat.c,false⟩)/\(0<H.next)/\(i<=L.length)/\(g=(L.take i).filter λm=>decide (gS t r h m=0))/\(g.length<=i)) (λi=>L.length - i) 0 ⟨([]),wg,wn,wn,wi,(by rfl),(by simp)⟩ λK n i e H u=>?_);obtain ⟨g,I,p,k,J,f,G⟩:=u;have Y:=xa2 Y I p (cW k);refine mA (λo=>?_) λo=>?_
   .obtain ⟨v,F⟩:=c6 (gI t r h L[i]);obtain ⟨e,B⟩:=c6 (lL t r h L[i]);obtain ⟨b,a⟩:∃ y,y=g++[L[i]].filter λm=>decide (gS t r h m=0):=⟨_,rfl⟩;have l:gS t r h L[i]=e:=by rw [B,w]
    have Y:=xa2 Y o (aA o) @Mat.c.eq_1;refine wp (h:=aI ((by have s:=MP t q r A h L[i] F B;simp only [Stp26.c,Rule.c,Mat.c,Host.c,dN,dP] at s;unfold Mat.d Mat.c dLI at s;exact s)) wl ?_);refine mA (λj=>?_) λj=>?_
    .have hm3:b=g++[L[i]]:=by rw [a,IU (by rw [l];simpa using j)];rfl
     have Y:=wa Y hm3;exact wp (h:=wx n (i+1) ⟨b,wg,wn,wn,wj,(by rw [List.take_succ_eq_append_getElem o,fJ,<- f,a]),(by rw [hm3];first|(simp;omega)|omega)⟩)
    .have hm3:b=g:=by rw [a,IV (by rw [l];simpa using j)];simp
     have Y:=wa Y hm3;exact wp (h:=wx n (i+1) ⟨b,wg,wn,wn,wj,(by rw [List.take_succ_eq_append_getElem o,fJ,<- f,a]),(by rw [hm3];first|(simp;omega)|omega)⟩)
   .rw [aG aD] at f;exact wv (h:=x _ _ (by simp [go_sem,Y,hS,<- f]))
theorem Uh (l:List Stp26):D.R (l.map Stp26.c)=true:=dY _ Stp26.Q l
attribute [go_sem] Uh
theorem MT (t:Types)(r:Rule)(h:Host):(o7 t r h).1.length<=5000:=by
 unfold o7;split
 .simp
 .split
  .simp
  .exact fB (jF _ _) (Ai _ _ _ _)
end Go.Abs
end
