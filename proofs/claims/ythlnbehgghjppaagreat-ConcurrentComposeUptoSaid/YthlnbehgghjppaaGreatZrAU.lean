/- The finder of the program: find, the end. · The finder of th -/
import Derived.Test.YthlnbehgghjppaaGreatZrAG
import Derived.Test.YthlnbehgghjppaaGreatZrAA
import Derived.Test.YthlnbehgghjppaaGreatZrAT
import Derived.Test.YthlnbehgghjppaaGreatZrAS
import Derived.RangeFuncBox
import Derived.RangeFuncLeaves
import Derived.Shelf.Abstract
import Derived.WalkKit
import Derived.OwnWalkIn
import Derived.TacticsInMore
import Derived.LoopNIn
import Derived.LoopIn
import Derived.Maps.AppendAt
import Derived.Shelf.Spec.SlicesInsert
import Derived.Lib.AppendZerosOnto
import Derived.Shelf.Bits.Mul64
import Derived.Deep.OwnRows
import Derived.Laws.NewBlocks
import Derived.Laws.CopyOwn
set_option linter.unusedVariables false
set_option linter.unusedSimpArgs false
section
set_option maxRecDepth 100000
set_option maxHeartbeats 4000000
open Go Go.Proofs Tryz
namespace Go.Abs
theorem Mb (S:Srch)(A:G17 S.t S.p S.g)(hv:(cQ S.t).2=0)(N:Nat)(hN:N<=5001)(j l:D)(s:GivD j S.pn S.p.h.length)(u:GivD l S.pe S.p.i.length)(f o:Nat)(m:Nat)(ih:∀ k,k<m->VT S N j l f o k)(ns es:Xa0)(d:List Part)(a b:Nat)(G:AHeap)(Q:D->AHeap->Prop)(hm:(S.p.h.length - ns.length)+(S.p.i.length - es.length)=m)(a0:ns.length<=S.p.h.length)(J:es.length<=S.p.i.length)(a4:ns.length<S.p.h.length->es=[])(hF:FdS f a b o S N j l ns es d G)
  (K:∀ a' b' H',FdS f a' b' o S N j l ns es (Lq S N ns es d) H'->Q (.tup []) H') (y:¬ ns.length<S.p.h.length) (w:¬ es.length<S.p.i.length) :
  ACalls prog 417 [.ptr f 1 0 0] G Q:=by
 have a2:=aY A.gp;have a1:=aY A.gg;have a3:∀ x∈S.p.i,(0<=x.B/\x.B<S.p.h.length)/\(0<=x.O/\x.O<S.p.h.length):=λx Z=>((dO A.gp).2 x Z).2;obtain ⟨M,P,O,L,v,⟨E,I,F,C⟩,⟨X,W,V⟩,⟨U,T⟩,R⟩:=hF;have ff:=bP E;have fa:=bP I;have fb:=bP F;have fo:=bP C;have e:=s.1;have i:=u.1;have q:∀ H:AHeap,fN H j=j:=λH=>w5 e;have n:∀ H:AHeap,fN H l=l:=λH=>w5 i;refine (Tz.cK ⟨λ_=>false,λr=>match r with|0=>[(2,16),(3,16),(4,16)]|_=>[]⟩ func417 rfl ?_);have B:=xa4 (dE (bZ:o≠b)) (dE (bZ:o≠a)) (dE (bZ:o≠f)) (dE (bZ:b≠a)) (dE (bZ:b≠f)) (dE (bZ:a≠f));have Y:=xa4 M P O L ff (xb0 fa fb fo @Part.c.eq_1 @Srch.au.eq_1 e i q n y w B);refine kI (λh1=>?_) λh1=>?_
 .have z:Lq S N ns es d=d:=Ix S _ _ bZ;refine wv (h:=?_);exact K a b _ (by rw [z];exact ⟨M,P,O,L,v,⟨by first|exact E|(simp;omega),by first|exact I|(simp;omega),by first|exact F|(simp;omega),by first|exact C|(simp;omega)⟩,⟨X,W,V⟩,⟨U,T⟩,R⟩)
 .have hnf:¬ N<=d.length:=bZ;have z:Lq S N ns es d=d++[⟨ns,es⟩]:=by
   unfold Lq;rw [if_neg bZ,(bZ:S.p.i.length - es.length=0)];simp only [Jt];rw [if_neg hnf]
  refine wp (h:=?_);refine n7 (fS ns bZ) (by simp [go_sem,Y,dLI]) (by simp [go_sem]) (Ll _) rfl (by simp [go_sem]) ?_;refine wp (h:=?_);refine n7 (fS es bZ) (by simp [go_sem,Y,dLI]) (by simp [go_sem]) (Ll _) rfl (by simp [go_sem]) ?_;refine wp (h:=?_);exact K a b _ (by rw [z];exact ⟨by simp [go_sem,Y],by simp [go_sem,Y],by simp [go_sem,Y],by simp [go_sem,Y],by simp;omega,⟨by simp [go_sem];omega,by simp [go_sem];omega,by simp [go_sem];omega,by simp [go_sem];omega⟩,⟨X,W,V⟩,⟨U,T⟩,R⟩)
theorem NR (S:Srch)(v:G17 S.t S.p S.g)(q:(cQ S.t).2=0)(N:Nat)(u:N<=5001)(l n:D)(e:GivD l S.pn S.p.h.length)(h:GivD n S.pe S.p.i.length)(f o:Nat) :
  ∀ (m:Nat) (ns es:Xa0) (c:List Part) (a b:Nat) (G:AHeap) (Q:D->AHeap->Prop),(S.p.h.length - ns.length)+(S.p.i.length - es.length)=m->ns.length<=S.p.h.length->es.length<=S.p.i.length->(ns.length<S.p.h.length->es=[])->FdS f a b o S N l n ns es c G ->
  (∀ a' b' H',FdS f a' b' o S N l n ns es (Lq S N ns es c) H'->Q (.tup []) H')->ACalls prog 417 [.ptr f 1 0 0] G Q:=by
 intro m;induction m using Nat.strongRecOn with
 | _ m ih =>
 intro ns es c a b G Q r i d j w s;by_cases k:ns.length<S.p.h.length
 .exact Md S v q N u l n e h f o m ih ns es c a b G Q r i d j w s k
 .by_cases hc2:es.length<S.p.i.length
  .exact Mc S v q N u l n e h f o m ih ns es c a b G Q r i d j w s k hc2
  .exact Mb S v q N u l n e h f o m ih ns es c a b G Q r i d j w s k hc2
theorem Ma (S:Srch)(v:G17 S.t S.p S.g)(x:S.t.ok)(w:(cQ S.t).2=0)(N:Nat)(B:N<=5001)(l m:D)(f:GivD l S.pn S.p.h.length)(j:GivD m S.pe S.p.i.length)(n:l.cell=true)(o:m.cell=true){L:List Part}(C:L=(CI S).take N) :
  Pua 416 [S.t.d,S.p.d,S.g.d,.agg [l,m],.bool S.inj,dI N] (.list (L.map Part.c)):=by
 have q:Lq S N [] [] []=L:=by rw [Iw,QO v.gp N _ _ _ eG,C];simp [CI]
 have e:=f.1;have i:=j.1;have a:=n;have b:=o;unfold D.cell at a b;refine pH (by first|rfl|(simp [go_sem];done)) (λQ A=>(Tz.cK ⟨λt=>t==22,λ_=>[]⟩ func416 rfl ?_));have Y:=xa3 e i @belowD.eq_1 a b;refine wv (h:=aI (CX S.t x) wl ?_);refine wv (h:=?_);refine tK (.step (.step (.step (.refl _) 8 0 9 3 1 _ _ (by simp [go_sem];rfl) rfl rfl rfl) 8 0 10 3 1 _ _ (by simp [go_sem];rfl) rfl rfl rfl) 8 0 11 36 2 _ _ (by simp [go_sem];rfl) rfl rfl rfl) ?_;simp [go_sem];unfold e8;refine NR S v w N B l m f j 8 12 _ [] [] [] 10 11 _ _ rfl eG eG (λ_=>rfl) ⟨by simp [go_sem,Srch.au,Graph.c,dLI,dI],by simp [go_sem],by simp [go_sem],by simp [go_sem],by simp,by simp [go_sem],by simp,by simp,by simp⟩ (λH G I k=>?_);rw [q] at k;obtain ⟨s,F,E,r,u,y,z⟩:=k;have Y:=xa2 Y s r @Srch.au.eq_1;refine wv (h:=?_);exact A _ _ (by simp [go_sem,Y,mM,OO])
theorem Qt (t:Types)(z:t.ok)(y:(cQ t).2=0)(p g:Graph)(A:G17 t p g)(o s:Xa0)(a:Bool)(n q:D)(i:GivD n o p.h.length)(k:GivD q s p.i.length)(l:n.cell=true)(m:q.cell=true){w:List Part × Int}(x:w=Pu (CI ⟨t,p,g,o,s,a⟩)) :
  Pua 411 [t.d,p.d,g.d,.agg [n,q],.bool a] (.tup [.list (w.1.map Part.c),dI w.2]):=by
 obtain ⟨L,v⟩:=fH ((CI ⟨t,p,g,o,s,a⟩).take 5001);have r:w=if 5000<L.length then ([],3) else (L,0):=by rw [x];unfold Pu;rw [<- v]
 have f:=i.1;have j:=k.1;have b:=l;have e:=m;unfold D.cell at b e;refine Tz.p0 func411 rfl λQ u _=>?_;have Y:=xa2 f j b e;refine wv (h:=aB (Ma ⟨t,p,g,o,s,a⟩ A z y 5001 bZ n q i k l m v) wl ?_);refine dW (λB=>?_) λB=>?_
 .rw [if_pos bZ] at r;exact wv (h:=u _ _ (by simp [go_sem,r]))
 .rw [if_neg bZ] at r;exact wv (h:=u _ _ (by simp [go_sem,r]))
theorem EI {t:Types}{p g:Graph}(h:gF t p g=0):(cQ t).2=0:=by
 unfold gF at h;split at h
 .exact absurd h (by assumption)
 .rename_i h1;simpa using h1
theorem Jy (t:Types)(l:t.ok)(p g:Graph)(q:Part)(a:Bool):Pua 406 [t.d,p.d,g.d,q.d,.bool a] (.tup [.list ((oV t p g q a).1.map Part.c),dI (oV t p g q a).2]):=by
 refine Tz.p0 func406 rfl λQ i Y=>?_;refine wv (h:=aB (yR t l p g) wl ?_);refine c8 (λe=>?_) λe=>?_
 .have b:oV t p g q a=([],gF t p g):=by unfold oV;rw [if_pos (eL e)]
  exact wv (h:=i _ _ (by simp [go_sem,b]))
 .have hG:=rO (eL e);have m:=EI (eL e);refine dW (λn=>?_) λn=>?_
  .have b:oV t p g q a=([],20):=by unfold oV;rw [if_neg (eL e),if_pos bZ]
   exact wv (h:=i _ _ (by simp [go_sem,b]))
  .have hq:q.h.length=p.h.length/\q.i.length=p.i.length:=bZ;refine wo (h:=aB (Fj q.h g.h.length) wl ?_);refine dW (λj=>?_) λj=>?_
   .have b:oV t p g q a=([],oQ q.h g.h.length):=by unfold oV;rw [if_neg (eL e),if_neg bZ,if_pos (eL j)]
    exact wv (h:=i _ _ (by simp [go_sem,b]))
   .have h7':oQ q.h g.h.length=0:=by simpa using j
    refine wo (h:=aB (Fj q.i g.i.length) wl ?_);refine dW (λf=>?_) λf=>?_
    .have b:oV t p g q a=([],oQ q.i g.i.length):=by unfold oV;rw [if_neg (eL e),if_neg bZ,if_neg bZ,if_pos (eL f)]
     exact wv (h:=i _ _ (by simp [go_sem,b]))
    .have h10':oQ q.i g.i.length=0:=by simpa using f
     obtain ⟨w,k⟩:=fH (Pu (CI ⟨t,p,g,q.h,q.i,a⟩));have b:oV t p g q a=w:=by unfold oV;rw [if_neg (eL e),if_neg bZ,if_neg bZ,if_neg bZ,k]
     refine wv (h:=aB (Qt t l m p g hG q.h q.i a (dLI q.h) (dLI q.i) (hq.1 ▸ GivD.list q.h) (hq.2 ▸ GivD.list q.i) rfl rfl k) wl ?_);exact wv (h:=i _ _ (by simp [go_sem,b]))
theorem XJ (l:List Edge):∀ d∈(l.map Edge.c).flatten,d.az=true:=by
 intro d a;rw [eR] at a;obtain ⟨c,b,a⟩:=a;rw [aV] at b;obtain ⟨x,_,rfl⟩:=b;simp only [Edge.c,aS,eC,or_false] at a;rcases a with rfl|rfl|rfl<;>rfl
theorem Gk (t:Types)(B:t.ok)(p g:Graph)(m:Part):Pua 149 [t.d,p.d,g.d,m.d] (.tup [(BB t p g m).d,dI (fP t p g m false)]):=by
 refine Tz.pK ⟨λt=>t==8||t==12,λr=>match r with|11=>[(0,7),(1,7)]|_=>[]⟩ func149 rfl (λQ y=>?_);have Y:=trivial;refine wv (h:=aB (yR t B p g) wl ?_);refine c8 (λf=>?_) λf=>?_
 .have b:fP t p g m false=gF t p g:=by unfold fP;rw [if_pos (eL f)]
  have n:BB t p g m=⟨[],[]⟩:=by unfold BB;rw [if_neg (by rw [b];simpa using f)]
  exact wv (h:=y _ _ (by simp [go_sem,n,b]))
 .have hG:=rO (eL f);have D:=EI (eL f);have G:=aY hG.gp;have F:=aY hG.gg;have b:fP t p g m false=iZ t p g m false:=by unfold fP;rw [if_neg (eL f)]
  refine wv (h:=aB (CW t B p g hG D m) wl ?_);refine c8 (λA=>?_) λA=>?_
  .have n:BB t p g m=⟨[],[]⟩:=by unfold BB;rw [if_neg (by rw [b];simpa using A)]
   exact wv (h:=y _ _ (by simp [go_sem,n,b]))
  .have hM:iZ t p g m false=0:=by simpa using A
   obtain ⟨⟨J,I⟩,w,E⟩:=Bj hM;have n:BB t p g m=sG p g m:=by unfold BB;rw [if_pos (by rw [b];exact hM)]
   refine wv (h:=?_);refine Rx (CD p.i bZ) (by simp [go_sem]) (by simp [go_sem]) (XJ _) ?_;refine wp (h:=nE (Ghosts.step (Ghosts.refl _) 1 0 0 3 1 _ _ (rfl) rfl rfl rfl) (λi e H=>∃ a:Xa0,(e 4=.adr t.c/\e 5=.adr p.c/\e 6=.adr g.c/\e 7=.adr m.c/\e 8=.ptr 0 1 0 0/\e 12=.ptr 1 1 0 0/\e 37=dLI m.h/\e 38=dI m.h.length/\e 39=dI i)/\(H.get 0=some ⟨29,2,[[.nil,.nil]],false⟩)/\(0<H.next)/\(H.get 1=some ⟨29,2,[[.own 2 a.length,.list (p.i.map Edge.c)]],false⟩)/\(1<H.next)/\(H.get 2=some ⟨3,1,a.map cI,false⟩)/\(2<H.next)/\(i<=m.h.length)/\(a=(m.h.take i).map (gN g))) (λi=>m.h.length - i) 0 ⟨([]),wg,wn,wn,wn,wn,wn,wn,wi,(by rfl)⟩ λN z i e H x=>?_);obtain ⟨a,L,u,l,s,k,q,j,M,v⟩:=x;have Y:=xa6 Y L u (bP l) s (bP k) q (bP j);refine c8 (λo=>?_) λo=>?_
   .have hmi:=w _ (aC o);have K:m.h[i].toNat<g.h.length:=bZ;have C:a.length=i:=by rw [v];simp;omega
    have Y:=xa3 Y o (aA o) (aA K) @gN.eq_1;exact wp (h:=wx z (i+1) ⟨(a++[gN g m.h[i]]),wg,wn,wn,wn,wn,wn,wn,wj,(by rw [dB _ o,<- v])⟩)
   .have hX:a=m.h.map (gN g):=by rw [v,dV _ bZ]
    exact wv (h:=y _ _ (by simp [go_sem,Y,n,b,hM,sG,Graph.d,Graph.c,hX,dLI]))
end Go.Abs
end
section
set_option maxRecDepth 100000
set_option maxHeartbeats 4000000
namespace Go.Abs
open Go Go.Proofs Go.RowKit Go.Shelf Tryz
attribute [local go_sem] Oper.semAt_some
theorem Hc:(prog.info? 3).map (λi=>(i.zero,i.size,i.bytes))=some (some (.int .i64 0),1,8):=by kernel_rfl
theorem Qb (F:Fence)(n:Nat)(h7:F.fn 389)(hro:F.round=none)(hn:1<=n)(l n₀:Nat)(a ad:Addr)(cap:Nat)(zs:Xa0)(hreach:zs.length<=1000000)(hb:zs≠[]->ad.block<n₀)(J Jx:Xa0->World->Prop)
  (hY:∀ pre x W,J pre W->pre.length<zs.length->YieldAt F (n - 1) prog l #[.int .i64 x] W λe W' =>
   (e=.returned (.bool true)/\J (pre++[x]) W'/\Below n₀ W W')\/(e=.returned (.bool false)/\Jx (pre++[x]) W'))
  (W:World) (hBs:W.cell? a=some (.slice (some ad) zs.length cap)) (hc:∀ j x,zs[j]?=some x->W.cell? (ad.add j)=some (.int .i64 x)) (h0:J [] W) :
  CallsIn F n prog 389 #[.func (.yield l) #[] #[],.pointer (some a)] W λe W'=>(∃ v,e=.returned v) /\
   ((∃ ys,ys=zs/\J ys W')\/(∃ pre,True/\Jx pre W')):=by
 refine callsIn_of_wp func389 rfl h7 ?_ hro;simp only [ntmps389,oW,e9,oX,Nat.reduceAdd,Nat.reduceSub,BJ,BI,GT,CK,dS,dP];gi_wp2;gi_loopw [7] (λi wr=>∃ k:Nat,k<=zs.length/\i=.int .i64 k/\J (zs.take k) wr/\Below n₀ W wr)
  (λi _=>zs.length - (RowKit.intOf i).toNat)
 case atStart=>exact ⟨0,d9 _,rfl,h0,Below.refl _ _⟩
 case round =>
  obtain ⟨k,hk,rfl,hJs,hnx⟩:=hrel;by_cases hlt:k<zs.length
  .have hcx':wr.cell? (ad.add k)=some (.int .i64 zs[k]):=(hnx.cell (p:=ad.add k) (by rw [i6];exact hb (λe=>by rw [e] at hlt;cases hlt))).trans (hc k _ (aA hlt));obtain ⟨fn,tmps,assign,body,hy,hR⟩:=hY _ zs[k] wr hJs (by simp;omega);gi_wp2;refine hR.mono ?_;rintro e W3 (⟨rfl,hJ3,hk3⟩|⟨rfl,hJx3⟩)
   .gi_wp2;go_roundw;case rel=>exact ⟨k+1,bZ,by simp,by rw [aF hlt];exact hJ3,hnx.trans hk3⟩
    case measure=>simp [RowKit.intOf];omega
   .gi_wp2;refine bodyPost_ret (results_none rfl _ _ _) rfl ?_;exact ⟨⟨_,rfl⟩,.inr ⟨_,trivial,hJx3⟩⟩
  .obtain rfl:k=zs.length:=bZ;gi_wp2;go_end0;exact ⟨⟨_,rfl⟩,.inl ⟨_,rfl,by rw [uX] at hJs;exact hJs⟩⟩
theorem GY (F:Fence)(n:Nat)(g:F.fn 389)(b:F.round=none)(l:Nat)(a:Addr)(J:Xa0->World->Prop)(W:World)(f:W.cell? a=some (.slice none 0 0))(h:J [] W) :
  CallsIn F n prog 389 #[.func (.yield l) #[] #[],.pointer (some a)] W λe W'=>(∃ v,e=.returned v)/\J [] W':=by
 refine callsIn_of_wp func389 rfl g ?_ b;simp only [ntmps389,oW,e9,oX,Nat.reduceAdd,Nat.reduceSub,BJ,BI,GT,CK,dS,dP];gi_wp2;gi_loopw [7] (λi d=>i=.int .i64 0/\J [] d) (λ_ _=>0);case atStart=>exact ⟨rfl,h⟩
 case round =>
  obtain ⟨rfl,c⟩:=hrel;gi_wp2;go_end0;exact ⟨⟨_,rfl⟩,c⟩
def IntsB (n₀:Nat)(W:World)(sv:Value)(zs:Xa0):Prop :=
 (sv=.slice none 0 0/\zs=[])\/∃ ad cap,sv=.slice (some ad) zs.length cap/\(zs≠[]->ad.block<n₀)/\∀ j x,zs[j]?=some x->W.cell? (ad.add j)=some (.int .i64 x)
theorem IntsB.below {n₀:Nat}{A B:World}(h:Below n₀ A B){sv:Value}{zs:Xa0}:IntsB n₀ A sv zs->IntsB n₀ B sv zs
 | .inl e=>.inl e
 | .inr ⟨ad,cap,e,hb,hc⟩=>.inr ⟨ad,cap,e,hb,λj x hj=>(h.cell (p:=ad.add j) (by rw [i6];exact hb (λe=>by rw [e] at hj;cases hj))).trans (hc j x hj)⟩
theorem LT (F:Fence)(n:Nat)(h7:F.fn 389)(hro:F.round=none)(hn:1<=n)(a:Addr)(n₀:Nat)(sv:Value)(zs:Xa0)(hreach:zs.length<=1000000)(w:World)(hBs:a.block<w.heap.size)(hn₀:n₀<=w.heap.size)
  (hc:w.cell? a=some sv) (hI:IntsB n₀ w sv zs) :
  SeqStopsK F n prog 389 #[.pointer (some a)] (λx:Int=>#[Value.int .i64 x]) (Below n₀) (λys=>ys=zs) (λ_=>True) zs.length w:=λl J Jx W hW _ _ hY h0=>by
 have hc':=(hW.cell (p:=a) hBs).trans hc;rcases hI.below (hW.mono hn₀) with ⟨rfl,rfl⟩|⟨ad,cap,rfl,hb,hcs⟩
 .exact (GY F n h7 hro l a J W hc' h0).mono λe W' ⟨he,hj⟩=>⟨he,.inl ⟨_,rfl,hj⟩⟩
 .exact Qb F n h7 hro hn l n₀ a ad cap zs hreach hb J Jx hY W hc' hcs h0
theorem Nd (F:Fence)(n:Nat)(S:F.fn 402)(H:F.fn 389)(g:F.round=none)(Z:3<=n)(a:Addr)(t:Value)(zs:Xa0)(m:zs.length<=1000000)(w:World)
  (G:a.block<w.heap.size) (E:w.cell? a=some t) (Q:IntsB w.heap.size w t zs) :
  CallsIn F n prog 402 #[.slice none 0 0,.func (.func 389) #[] #[.pointer (some a)]] w λe W'=>∃ v,e=.returned v/\W'.ownsRow w.heap.size 3 1 v zs.length (zs.map (Value.int .i64))/\Below w.heap.size w W':=by
 have T:1<=n:=bZ;obtain ⟨J,N,z,y,u⟩:=info_parts Hc;refine callsIn_of_wp_marks func402 rfl S ?_ g;simp only [ntmps402,oW,e9,oX,Nat.reduceAdd,Nat.reduceSub,BJ,BI,GT,CK,dS,dP];gi_wp2;have U:=Boxed.new w 26 (.slice none 0 0);have j:Below w.heap.size w (w.alloc (.cells #[.slice none 0 0] 26)):=(Below.refl _ w).alloc (bD _) _;refine wpIn_rangeFunc_ownG g T (gf:=389) (lb:=#[.pointer (some a)]) rfl H (enters_of func389 (by kernel_rfl) rfl)
  (LT F (n - 1) H g bZ a w.heap.size t zs m _ (by simp;omega) eG ((j.cell (p:=a) G).trans E) (Q.below j)) belowK_t (belowK_b eG) (Below.refl _ _) (λ_=>rfl)
  (λb W=>(∃ v,Boxed W w.heap.size 26 v/\W.ownsRow w.heap.size 3 1 v b.length (b.map (Value.int .i64))/\True)/\Below w.heap.size w W)
  (λ_ _ _=>False)
  (OwnFrom.and (Own.from (holdsRow_own w.heap.size w.heap.size 26 3 1 (λb=>b.length) (λb:Xa0=>b.map (Value.int .i64)) (λ_ _=>True)) _) (ownFrom_below (bD _) eG))
  (λ_ _ _ _ _ L _ _=>L)
  ⟨⟨_,U,World.ownsRow_nil _ _ _ _,trivial⟩,j⟩
  (λx=>{ tmps:=#[.slice none 0 0,.func (.func 389) #[] #[.pointer (some a)],.pointer (some ⟨w.heap.size,0,none⟩),undef,.slice none 0 0,.int .i64 x,.func (.func 389) #[] #[.pointer (some a)],.int .i64 x,undef,undef,undef,undef,undef],defers:=[] }) ?assign ?body ?done ?stop
 case assign =>
  intro l x W K q;gi_wp2;exact q
 case body =>
  rintro l b x W ⟨⟨v,s,d,_⟩,r⟩ M;have E:=s.cell
  gi_wp2_with (gi_at_builtin;refine wpListIn_append_own _ rfl _ _ 26 rfl w.heap.size 3 J (.int .i64 0) 1 8 underlying26 N z y u rfl (by decide) _ _ _ rfl (d.alloc _) ⟨W.heap.size,0,none⟩ 1 1 [.int .i64 x] rfl rfl (cell_one_new _ _ _) (by simp [Value.oneCell']) (by simp only [maxLen];omega) bZ (by have:=r.size;simp;omega) ?_;intro Y X f i _;obtain ⟨g',I,rfl⟩:=ownsRow_succ f;obtain ⟨k,A,B,C,o⟩:=s.appended (by decide) d r.size (bD _) f i;have P:=k.cell;have O:=k.frozen)
  exact ⟨C.from _,o,⟨_,A,by simpa using B,trivial⟩,r.trans o⟩
 case done =>
  rintro D V W R rfl ⟨⟨v,s,d,_⟩,r⟩ q;have E:=s.cell;gi_wp2;refine ⟨by simp,.inl ⟨_,_,rfl,run_takeDeferred q,?_⟩⟩;exact ⟨_,results_tmp rfl _ _ _,v,rfl,ownsRow_putObj d _ q rfl,r.trans (belowK_b (w:=w) (bD _) W D _ _ (by simp at R;omega) q rfl rfl)⟩
 case stop =>
  rintro D c b W _ _ h _;exact h.elim
theorem Rm (F:Fence)(n:Nat)(m:F.fn 388)(l:F.fn 402)(k:F.fn 389)(c:F.round=none)(p:4<=n)(a:Addr)(f:Value)(zs:Xa0)(d:zs.length<=1000000)(w:World)
  (g:a.block<w.heap.size) (h:w.cell? a=some f) (j:IntsB w.heap.size w f zs) :
  CallsIn F n prog 388 #[.func (.func 389) #[] #[.pointer (some a)]] w λe W'=>∃ v,e=.returned v/\W'.ownsRow w.heap.size 3 1 v zs.length (zs.map (Value.int .i64))/\Below w.heap.size w W':=by
 refine callsIn_of_wp func388 rfl m ?_ c;simp only [ntmps388,oW,e9,oX,Nat.reduceAdd,Nat.reduceSub,BJ,BI,GT,CK,dS,dP]
 gi_wp2_with (refine ⟨λ_=>by omega,(Nd F (n - 1) l k c bZ a f zs d _ g h j).mono ?_⟩;rintro e o ⟨v,rfl,b,i⟩)
 go_ret;exact ⟨v,rfl,b,i⟩
theorem Pz (l:Xa0)(y:l.length<=1000000):Own prog 388 [.fn 389 [.adr [dLI l]]] 3 1 (l.map cI):=by
 refine ⟨⟨Tryz.f388,func388,rfl,rfl⟩,λM w m V P=>?_⟩;obtain ⟨t,s⟩:=P;match m,t with
 | [v],_ =>
  have R:=s 0 v _ rfl rfl;obtain ⟨p,rfl,J⟩:∃ p,v=.func (.func 389) #[] #[p]/\RepV M g8 sD w p (.adr [dLI l]):=by
   cases R with
   | fn _ vs _ y s=>match vs,y with
    | [p],_=>exact ⟨p,rfl,s 0 p _ rfl rfl⟩
  obtain ⟨a,b,rfl,A,o⟩:∃ a b,p=.pointer (some a)/\(¬ M a.block/\w.cell? (a.add 0)=some b)/\RepV M g8 sD w b (dLI l):=by
   cases J with
   | adr a i _ y J E s=>match i,y with
    | [b],_=>exact ⟨a,b,rfl,E 0 b rfl,s 0 b _ rfl rfl⟩
  have z:=A.2;have f:w.cell? a=some b:=by rw [show a.add 0=a by unfold Addr.add;simp] at z;exact z
  have F:=World.block_lt_of_cell? w _ f;have Q:IntsB w.heap.size w b l:=by
   unfold dLI at o;rcases uK o with ⟨rfl,C⟩|⟨K,G,T,i,rfl,d,_,h,_,_,_⟩
   .exact .inl ⟨rfl,by simpa using C⟩
   .have hcl:∀ j x,l[j]?=some x->w.cell? (K.add j)=some (.int .i64 x):=λj x H=>by
     have g:=d.len;rw [Bn,bI] at g;have N:j<l.length:=(aK.1 H).1;have n:i[j]?=some i[j]:=aA bZ;have I:=d.ad j _ (D.int .i64 x) n (by rw [Bn,aP,H];rfl);generalize U:i[j]=q at n I;cases I
     exact (h j _ n).2
    refine .inr ⟨K,G,by simp,λB=>?_,hcl⟩;have L:0<l.length:=List.length_pos_iff.2 B;have:=World.block_lt_of_cell? w _ (hcl 0 _ (aA L));rwa [i6] at this
  refine (CallsIn.calls (Rm Fence.wide 4 trivial trivial trivial rfl (bD _) a b l y w F f Q) (λk=>room_wide k)).mono λe S ⟨v,C,r,O⟩=>?_;exact ⟨v,_,C,by simpa using r,λu n=>by obtain ⟨x,_,rfl⟩:=aV.1 n;rfl,Bf l,mO l,λc E=>by obtain ⟨x,_,rfl⟩:=aV.1 E;rfl,O⟩
theorem NA (l:Xa0):Pua 358 [dLI l] (.fn 389 [.adr [dLI l]]):=by
 refine Tz.p0 func358 rfl λQ a Y=>?_;exact wv (h:=a _ _ wy)
theorem Qs (l:Xa0)(a:l.length<=1000000):Own prog 357 [.fn 389 [.adr [dLI l]]] 3 1 ((kJ l).map cI):=by
 refine Tz.oK ⟨λt=>t==5||t==3||t==2,λ_=>[]⟩ func357 rfl (λQ b=>?_);have Y:=trivial;refine wv (h:=i5 (Pz l a) wl ?_);refine wv (h:=?_);unfold e8;refine Ha (ty:=3) (xs:=l) (by simp [go_sem]) a ?_;refine wv (h:=?_);exact b _ _ _ (by simp [go_sem,Y,lO]) (by simp [go_sem,Y,lO])
end Go.Abs
end
section
set_option maxRecDepth 100000
set_option maxHeartbeats 4000000
open Go Go.Proofs Tryz
namespace Go.Abs
theorem CV (l:Xa0)(f:l.length<=1000):Pua 308 [dLI l] (.bool (decide (¬ l.Nodup))):=by
 have a:=lO l;have b:decide (imagesN l<l.length)=decide (¬ l.Nodup):=by
  have c:=FQ l;have g:imagesN l<=l.length:=by unfold imagesN;have:=IO (kJ l);omega
  rw [aU];simp only [decide_eq_true_eq];constructor
  .intro h hn;have:=c.2 hn;omega
  .intro hn;have:imagesN l≠l.length:=λd=>hn (c.1 d);omega
 unfold imagesN at b;refine Tz.p0 func308 rfl λQ e Y=>?_;refine wo (h:=aB (NA l) wl ?_);refine wo (h:=i5 (Qs l bZ) wl ?_);refine wo (h:=?_);unfold e8;refine FX (ty:=3) (xs:=kJ l) (by simp [go_sem]) bZ λk=>?_;exact wo (h:=e _ _ (by simp [go_sem,b]))
theorem H6 (t:Types)(p g:Graph)(m:Part)(a:Bool):iZ t p g m a=if iZ t p g m false≠0 then iZ t p g m false else if a=true/\(¬ m.h.Nodup\/¬ m.i.Nodup) then 5 else 0:=by
 unfold iZ;split
 .simp
 .split
  .simp_all
  .split
   .simp_all
   .simp
theorem yS (t:Types)(k:t.ok)(p g:Graph)(m:Part)(a:Bool):Pua 233 [t.d,p.d,g.d,m.d,.bool a] (dI (fP t p g m a)):=by
 refine Tz.p0 func233 rfl λQ e Y=>?_;refine wv (h:=aB (yR t k p g) wl ?_);refine c8 (λc=>?_) λc=>?_
 .have b:fP t p g m a=gF t p g:=by unfold fP;rw [if_pos (eL c)]
  exact wv (h:=e _ _ (by simp [go_sem,b]))
 .have hG:=rO (eL c);have l:=EI (eL c);have n:=aY hG.gp;have b:fP t p g m a=iZ t p g m a:=by unfold fP;rw [if_neg (eL c)]
  rw [H6] at b;refine wv (h:=aB (CW t k p g hG l m) wl ?_);refine c8 (λf=>?_) λf=>?_
  .rw [if_pos (eL f)] at b;exact wv (h:=e _ _ (by simp [go_sem,b]))
  .rw [if_neg (eL f)] at b;have o:=(Bj (show iZ t p g m false=0 by simpa using f)).1;refine wo (h:=aG (λi=>CV m.h bZ) (λi=>wl) ?_);refine wo (h:=aG (λi=>CV m.i bZ) (λi=>wl) ?_);refine dW (λj=>?_) λj=>?_
   .rw [if_pos (eL j)] at b;exact wv (h:=e _ _ (by simp [go_sem,b]))
   .rw [if_neg (eL j)] at b;exact wv (h:=e _ _ (by simp [go_sem,b]))
theorem Gz (p:Pattern)(h:Host)(m:Part)(N:SOk p h m):Pua 310 [p.d,h.d,m.d] (.tup [dLI (fK p h m []).1,dI (fK p h m []).2]):=by
 have hv:=N.vars;have h0:=NN (vs:=[]) hv.1 eG eG;rw [GH] at h0;refine Tz.pK ⟨λt=>t==11||t==15,λr=>match r with|1=>[(2,3),(2,4),(0,5),(1,5),(2,5)]|_=>[]⟩ func310 rfl (λQ P=>?_);have Y:=xa5 @Pattern.d.eq_1 @Pattern.c.eq_1 @Host.d.eq_1 @Host.c.eq_1 @Part.d.eq_1 @Part.c.eq_1 @Term.c.eq_1;refine wv (h:=?_);repeat first|intro _|refine ⟨gX,?_⟩
 refine bC (λi e H=>∃ l:Xa0 × List Bool,(e 3=.adr p.c/\e 4=.adr h.c/\e 5=.adr m.c/\e 8=.own 2 p.vars.toNat/\e 9=.own 5 p.vars.toNat/\e 23=.list (p.q.map Slot.c)/\e 24=dI p.q.length/\e 25=dI i)/\(H.get 2=some ⟨3,1,l.1.map cI,false⟩)/\(2<H.next)/\(H.get 5=some ⟨4,1,l.2.map cB,false⟩)/\(5<H.next)/\(i<=p.q.length)/\(StOk p.vars.toNat l)/\(j6 h m (L3 p []) (p.q.take i)=some l)) (λi=>p.q.length - i) 0 ⟨((List.replicate p.vars.toNat 0,List.replicate p.vars.toNat false)),wg,(by simp [go_sem,cI]),wn,(by simp [go_sem,cB]),wn,wi,(by exact h0),(by rw [GH];rfl)⟩ λI0 C i e H a2=>?_;obtain ⟨l,E0,Z,T,W,R,hi,q,I⟩:=a2;have Y:=xa4 Y E0 Z (bP T) W (bP R);refine c8 (λE=>?_) λE=>?_
 .obtain ⟨x,U⟩:=fH (p.q[i]);have A:x∈p.q:=U ▸ aC E;have hn:=N.node x A;have s:x.node.toNat<m.h.length:=bZ;have hk:=N.bx _ (aC s);have w:(m.h[x.node.toNat]).toNat<h.k.length:=bZ;have ha:=N.P x A;rw [aA s,aD,aA w,aD] at ha;have B:x.P.toNat<(h.k[(m.h[x.node.toNat]).toNat]).length:=bZ;have hV:mH h m x=h.k[(m.h[x.node.toNat]).toNat][x.P.toNat]:=by unfold mH;rw [aA s,aD,aA w,aD,aA B];rfl
  have hb:=N.cf A;have L:=N.C x A;have v:=q.l1;have J:=q.l2;have a5:=L.1;have a6:=L.2;have n:=u9 E I;rw [<- U] at n;obtain ⟨o,a⟩:∃ y,y=mY h m l x:=⟨_,rfl⟩;have j:StOk p.vars.toNat o:=a ▸ Aj q hb L;rw [<- a] at n;have f:¬ 0<=x.C.R->o=l:=λhn=>by rw [a];unfold mY lS;rw [if_neg (by simp [hn])]
  have F:0<=x.C.R->x.C.R.toNat<l.2.length:=λhn=>by omega
  obtain ⟨kb,V⟩:=fH (l.2[x.C.R.toNat]?.getD false);have K:0<=x.C.R\/(¬ 0<=x.C.R/\l.2[x.C.R.toNat]?=none)\/(¬ 0<=x.C.R/\l.2[x.C.R.toNat]?=some kb):=by
   by_cases G:0<=x.C.R
   .exact .inl G
   .right
    cases ho:l.2[x.C.R.toNat]? with
    | none=>exact .inl ⟨G,rfl⟩
    | some b=>rw [ho] at V;exact .inr ⟨G,by rw [V];rfl⟩
  rcases K with hc|hc|hc
  .have Y:=xa3 Y E (aA E) (Eq.symm U) (xb0 (aA s) (aA w) (aA B) (Eq.symm hV) @Slot.c.eq_1 @cL.eq_1 v J @lF @cB.eq_1 hc ((aA (F hc))));refine wv (h:=?_);repeat first|intro _|refine ⟨gX,?_⟩
   refine wq (λh7=>?_) λh7=>?_
   .have hF:lS l x=true:=by simp only [lS,aL,decide_eq_true_eq,b7];exact ⟨hc,by simpa [aA (F hc)] using h7⟩
    unfold mY at a;rw [if_pos hF] at a;have a0:x.C.R.toNat<l.1.length:=bZ;have e1:o.1.map cI=(l.1.map cI).set x.C.R.toNat (cI (mH h m x - x.C.add)):=by rw [a,bJ]
    have e2:o.2.map cB=(l.2.map cB).set x.C.R.toNat (cB true):=by rw [a,bJ]
    have a4:D.V ((l.1.map cI).set x.C.R.toNat [D.int .i64 (mH h m x - x.C.add)])=true:=by have:=mO o.1;rw [e1] at this;exact this
    have Y:=xa5 Y e1 e2 @dLI.eq_1 @cI.eq_1 (aA a0) a4;refine wv (h:=?_);repeat first|intro _|refine ⟨gX,?_⟩
    refine d8 (nB x.C o.1 (by rw [j.l1];exact L) j.ba) wr wl rfl ?_;refine wv (h:=?_);repeat first|intro _|refine ⟨gX,?_⟩
    refine wq (λg=>?_) λg=>?_
    .have hR:=eO (n.2 (by first|simpa using g|simpa [f hc.1] using g|simpa [a] using g));exact wv (h:=P _ _ (by simp [go_sem,hR]))
    .have hstep:=n.1 (by first|simpa using g|simpa [f hc.1] using g|simpa [a] using g);refine wv (h:=?_);repeat first|intro _|refine ⟨gX,?_⟩
     exact wx C (i+1) ⟨o,wg,(by simp [go_sem,Y]),wn,(by simp [go_sem,Y]),wn,wj,(by exact j),(by exact hstep)⟩
   .have hF:¬ lS l x=true:=by simp only [lS,aL,decide_eq_true_eq,b7];rintro ⟨_,hk⟩;simp [aA (F hc)] at hk;simp [hk] at h7
    unfold mY at a;rw [if_neg hF] at a;have Y:=wa Y a;refine wv (h:=d8 (nB x.C o.1 (by rw [j.l1];exact L) j.ba) wr wl rfl ?_);refine c8 (λg=>?_) λg=>?_
    .have hR:=eO (n.2 (by first|simpa using g|simpa [f hc.1] using g|simpa [a] using g));exact wv (h:=P _ _ (by simp [go_sem,hR]))
    .have hstep:=n.1 (by first|simpa using g|simpa [f hc.1] using g|simpa [a] using g);refine wv (h:=?_);repeat first|intro _|refine ⟨gX,?_⟩
     exact wx C (i+1) ⟨o,wg,(by simp [go_sem,Y]),wn,(by simp [go_sem,Y]),wn,wj,(by exact j),(by exact hstep)⟩
  .have Y:=xa4 Y E (aA E) (Eq.symm U) (aA s) (xb0 (aA w) (aA B) (Eq.symm hV) @Slot.c.eq_1 @cL.eq_1 v J @lF @cB.eq_1 hc.1 hc.2 (f hc.1));refine wv (h:=?_);repeat first|intro _|refine ⟨gX,?_⟩
   refine d8 (nB x.C o.1 (by rw [j.l1];exact L) j.ba) wr wl rfl ?_;refine wv (h:=?_);repeat first|intro _|refine ⟨gX,?_⟩
   refine wq (λg=>?_) λg=>?_
   .have hR:=eO (n.2 (by first|simpa using g|simpa [f hc.1] using g|simpa [a] using g));exact wv (h:=P _ _ (by simp [go_sem,hR]))
   .have hstep:=n.1 (by first|simpa using g|simpa [f hc.1] using g|simpa [a] using g);refine wv (h:=?_);repeat first|intro _|refine ⟨gX,?_⟩
    exact wx C (i+1) ⟨o,wg,(by simp [go_sem,Y]),wn,(by simp [go_sem,Y]),wn,wj,(by exact j),(by exact hstep)⟩
  .have Y:=xa4 Y E (aA E) (Eq.symm U) (aA s) (xb0 (aA w) (aA B) (Eq.symm hV) @Slot.c.eq_1 @cL.eq_1 v J @lF @cB.eq_1 hc.1 hc.2 (f hc.1));refine wv (h:=?_);repeat first|intro _|refine ⟨gX,?_⟩
   refine d8 (nB x.C o.1 (by rw [j.l1];exact L) j.ba) wr wl rfl ?_;refine wv (h:=?_);repeat first|intro _|refine ⟨gX,?_⟩
   refine wq (λg=>?_) λg=>?_
   .have hR:=eO (n.2 (by first|simpa using g|simpa [f hc.1] using g|simpa [a] using g));exact wv (h:=P _ _ (by simp [go_sem,hR]))
   .have hstep:=n.1 (by first|simpa using g|simpa [f hc.1] using g|simpa [a] using g);refine wv (h:=?_);repeat first|intro _|refine ⟨gX,?_⟩
    exact wx C (i+1) ⟨o,wg,(by simp [go_sem,Y]),wn,(by simp [go_sem,Y]),wn,wj,(by exact j),(by exact hstep)⟩
 .rw [aH bZ] at I;have M:=qC I;have v:=q.l1;have Y:=wa Y v;refine wv (h:=?_);repeat first|intro _|refine ⟨gX,?_⟩
  refine bC (λk e H=>(e 3=.adr p.c/\e 4=.adr h.c/\e 5=.adr m.c/\e 8=.own 2 p.vars.toNat/\e 74=.list (p.I.map Test.c)/\e 75=dI p.I.length/\e 76=dI k)/\(H.get 2=some ⟨3,1,l.1.map cI,false⟩)/\(2<H.next)/\(k<=p.I.length)/\((p.I.take k).all (λx=>By x l.1)=true)) (λk=>p.I.length - k) 0 ⟨wg,wn,wn,wi,(by rfl)⟩ λI2 a3 k e H a1=>?_;obtain ⟨E2,X,S,hk,z⟩:=a1;have Y:=xa2 Y E2 X (bP S);refine c8 (λu=>?_) λu=>?_
  .have Y:=xa2 Y u (aA u) @Test.c.eq_1;refine wv (h:=?_);repeat first|intro _|refine ⟨gX,?_⟩
   refine d8 (xY p.I[k] l.1 (by rw [q.l1];exact N.test _ (aC u)) q.ba) wr wl rfl ?_;refine wv (h:=?_);repeat first|intro _|refine ⟨gX,?_⟩
   refine wq (λO=>?_) λO=>?_
   .have hR:fK p h m []=([],16):=by
     rw [M,if_neg];intro ha;rw [b6] at ha;have:=ha _ (aC u);simp [this] at O
    exact wv (h:=P _ _ (by simp [go_sem,hR]))
   .refine wv (h:=?_);repeat first|intro _|refine ⟨gX,?_⟩
    exact wx a3 (k+1) ⟨wg,wn,wn,wj,(by rw [aF u,oY,z];simp;simpa using O)⟩
  .rw [aH bZ] at z;rw [if_pos z] at M;exact wv (h:=P _ _ (by simp [go_sem,Y,M,dLI]))
theorem GB (t:Types)(b:t.ok)(p:Pattern)(h:Host):Pua 309 [t.d,p.d,h.d] (dI (BC t p h)):=by
 refine Tz.p0 func309 rfl λQ e _=>?_;have Y:=wa @Host.d.eq_1 @Host.c.eq_1;refine wv (h:=aB (pC t b p) wl ?_);refine c8 (λa=>?_) λa=>?_
 .exact wv (h:=e _ _ (by simp [go_sem,BC,a]))
 .refine wv (h:=aB (Cr t b h) wl ?_);exact wv (h:=e _ _ (by simp [go_sem,BC,a,jB]))
theorem zS (t:Types)(i:t.ok)(p:Pattern)(h:Host)(m:Part):Pua 234 [t.d,p.d,h.d,m.d] (.tup [dLI (eH t p h m).1,dI (eH t p h m).2]):=by
 refine Tz.p0 func234 rfl λQ g _=>?_;have Y:=xa2 @Pattern.d.eq_1 @Pattern.c.eq_1 @Host.d.eq_1 @Host.c.eq_1;refine wv (h:=aB (GB t i p h) wl ?_);refine c8 (λa=>?_) λa=>?_
 .have e:eH t p h m=([],BC t p h):=by
   unfold eH BC;unfold BC at a;by_cases b:c6 t p=0
   .rw [if_neg bZ] at a ⊢;rw [if_pos a,if_neg bZ]
   .rw [if_pos b,if_pos b]
  exact wv (h:=g _ _ (by simp [go_sem,e]))
 .have hp0:c6 t p=0:=by
   unfold BC at a;refine bH λb=>?_;rw [if_pos b] at a;exact b a
  have f:jB t h=0:=by unfold BC at a;rw [if_neg bZ] at a;exact a
  refine wv (h:=aB (yS t i p.j h.j m false) wl ?_);refine c8 (λj=>?_) λj=>?_
  .have e:eH t p h m=([],fP t p.j h.j m false):=by unfold eH;rw [if_neg bZ,if_neg bZ,if_pos j]
   exact wv (h:=g _ _ (by simp [go_sem,e]))
  .have h5':fP t p.j h.j m false=0:=bZ;have e:eH t p h m=fK p h m []:=by unfold eH;rw [if_neg bZ,if_neg bZ,if_neg bZ]
   refine wv (h:=aB (Gz p h m (Yf (OJ (.inr hp0)) (y4 f) (uI (pW h5').2))) wl ?_);exact wv (h:=g _ _ (by simp [go_sem,e]))
end Go.Abs
end
section
set_option maxRecDepth 100000
set_option maxHeartbeats 4000000
open Go Go.Proofs Go.RowKit Go.Shelf Go.Lib Tryz
namespace Go.Abs
theorem Tb (x y:Nat)(j:x<18446744073709551616)(i:y<18446744073709551616)(w:World) :
  Calls prog 365 #[.int .u64 x,.int .u64 y] w λe w'=>e=.returned (.tuple #[.int .u64 ((x * y / 18446744073709551616:Nat):Int),.int .u64 ((x * y % 18446744073709551616:Nat):Int)])/\w'=w:=by
 obtain ⟨n,k,l,c⟩:=Lib.mul64_hi x y j i;have q:=Lib.half_mul_le (a:=x / 4294967296) (b:=y / 4294967296) bZ bZ;have p:=Lib.half_mul_le (a:=x / 4294967296) (b:=y % 4294967296) bZ bZ;have o:=Lib.half_mul_le (a:=x % 4294967296) (b:=y / 4294967296) bZ bZ;have h:x / 4294967296 * (y / 4294967296)<18446744073709551616:=bZ;have g:x / 4294967296 * (y % 4294967296)<18446744073709551616:=bZ;have f:x % 4294967296 * (y / 4294967296)<18446744073709551616:=bZ;have d:x / 4294967296 * (y / 4294967296)+(x / 4294967296 * (y % 4294967296)+x % 4294967296 * (y % 4294967296) / 4294967296) / 4294967296<18446744073709551616:=bZ;have m:x / 4294967296 * (y / 4294967296)+(x / 4294967296 * (y % 4294967296)+x % 4294967296 * (y % 4294967296) / 4294967296) / 4294967296+((x / 4294967296 * (y % 4294967296)+x % 4294967296 * (y % 4294967296) / 4294967296) % 4294967296+x % 4294967296 * (y / 4294967296)) / 4294967296<18446744073709551616:=bZ
 go_enter func365,ntmps365
 go_wp2
 simp only [Mul64.maskN x j,Mul64.maskN y i,Mul64.divN,Mul64.mulN,Mul64.addN,Mul64.wrapN _ n,Mul64.wrapN _ g,Mul64.wrapN _ k,Mul64.maskN _ k,Mul64.wrapN _ f,Mul64.wrapN _ l,Mul64.wrapN _ h,Mul64.wrapN _ d,Mul64.wrapN _ m,Mul64.wrapM (x * y)];rw [c]
 go_ret2
 exact ⟨rfl,rfl⟩
theorem Wq (x y:Nat)(d:x<18446744073709551616)(c:y<18446744073709551616)(w:World) :
  Calls prog 316 #[.int .u64 x,.int .u64 y] w λe w'=>e=.returned (.tuple #[.int .u64 ((x * y / 18446744073709551616:Nat):Int),.int .u64 ((x * y % 18446744073709551616:Nat):Int)])/\w'=w:=by
 have a:=Tb x y d c w;have b:∀ args w,(callFunc 365 args).run prog w=.ok (.enter 365 args) w:=enters_of func365 (by kernel_rfl) rfl
 go_enter func316,ntmps316
 go_wp2_with (go_at_fn 365;refine a.mono ?_;rintro e w' ⟨rfl,f⟩;rw [f])
 go_ret2
 exact ⟨rfl,rfl⟩
def pG (v:Int)(n k:Nat):List Value:=List.replicate k (.int .i64 v)++List.replicate (n - k) (.int .i64 0)
theorem N0 {v:Int}{n k m:Nat}(h:k+m<=n):(pG v n k).take k++List.replicate m (.int .i64 v)++(pG v n k).drop (k+m)=pG v n (k+m):=by
 unfold pG;rw [List.take_left' eG,List.drop_append,fA,kH eG,dS,List.drop_replicate,<- List.replicate_append_replicate];congr 2;omega
theorem Mj (v:Int)(n:Nat)(hn:n<=1000)(ad:Addr)(cap:Nat)(w:World)(hc:w.cell? ad=some (.int .i64 v)) :
  Calls prog 239 #[.slice (some ad) 1 cap,.int .i64 n] w λe w'=>∃ v',e=.returned v'/\w'.ownsRow w.heap.size 3 1 v' n (List.replicate n (.int .i64 v))/\Below w.heap.size w w':=by
 have hsz:(prog.info? 3).map (·.size)=some 1:=by kernel_rfl
 have cM:=λw=>Wq 1 n bZ bZ w;have e1:∀ args w,(callFunc 316 args).run prog w=.ok (.enter 316 args) w:=enters_of func316 (by kernel_rfl) rfl;have hmk:=λw=>run_make_row' (P:=prog) 26 3 (.int .i64 0) 8 underlying26 Hc rfl .i64 .i64 n bZ bZ w;have hq1:(1 * n) / 18446744073709551616=0:=bZ;have hq2:(1 * n) % 18446744073709551616=n:=bZ;have hn0:¬ ((n:Int)<0):=bZ;have hn1:¬ ((9223372036854775807:Int)<n):=bZ;have cpy:∀ (k m:Nat) (W:World) (ty dl dc:Nat) (a:Addr) (sl sc:Nat),k+m<=n->m=Nat.min sl dl->W.heap[w.heap.size]?=some (.cells (pG v n k).toArray 3 (0,0))->(∀ (j:Nat) (u:Value),(List.replicate m (Value.int .i64 v))[j]?=some u->W.cell? (a.add j)=some u) ->
   (Builtin.copy_ #[26,26] ty #[.slice (some ⟨w.heap.size,k,none⟩) dl dc,.slice (some a) sl sc]).run prog W=.ok (goInt m) (W.setRow w.heap.size (pG v n (k+m)).toArray):=λk m W ty dl dc a sl sc hkm hm hb hs=>by
  rw [<- N0 hkm];have:=JA (P:=prog) W 26 26 ty 3 1 w.heap.size k dl dc a sl sc m (pG v n k).toArray 3 (List.replicate m (.int .i64 v)) underlying26 hsz hb hm eG hs (by simp [pG];omega) (by simp [Value.oneCell']);simpa using this
 have h0:(w.alloc (.cells (madeCells #[.int .i64 0] n) 3)).heap[w.heap.size]?=some (.cells (pG v n 0).toArray 3 (0,0)):=by
  rw [(MapKept.heap_alloc w _).1];congr 2;apply Array.toList_inj.1;rw [toList_madeCells_one];simp [pG]
 obtain ⟨m0,hm0⟩:∃ m,m=Nat.min 1 n:=⟨_,rfl⟩;have hm1:m0<=1/\m0<=n/\(m0=1\/n=0):=by rw [hm0];simp only [Nat.min_def];split<;>omega
 have hbad:ad.block<w.heap.size:=World.block_lt_of_cell? w _ hc;have hcp0:=λty=>cpy 0 m0 (w.alloc (.cells (madeCells #[.int .i64 0] n) 3)) ty n n ad 1 cap bZ hm0 h0 (λj u hj=>by
  have hj0:j=0:=by have:=(aK.1 hj).1;simp at this;omega
  subst hj0;rw [wV] at hj;split at hj
  .cases hj
   rw [show ad.add 0=ad by unfold Addr.add;simp];exact ((Below.refl _ w).alloc (bD _) _).cell (p:=ad) hbad |>.trans hc
  .cases hj)
 simp only [eN] at hcp0;clear hm0;have mixed:=Tz.mixed
 go_enter func239,ntmps239
 go_wp2_with (first|(go_at_fn 316;refine (cM _).mono ?_;rintro e w' ⟨rfl,hw⟩;rw [hw,hq1,hq2])|(at_builtin;refine wpList_copy_runI _ rfl _ _ 26 26 rfl _ _ rfl rfl (hcp0 _) ?_))
 go_loopw [8] (λi wr=>∃ k:Nat,k<=n/\(0<k\/n=0)/\i=.int .i64 k/\wr.heap[w.heap.size]?=some (.cells (pG v n k).toArray 3 (0,0))/\Below w.heap.size w wr)
  (λi _=>n - (RowKit.intOf i).toNat)
 case atStart =>
  refine ⟨m0,hm1.2.1,bZ,by simp [goInt],setRow_heap _ _ _ _ _ _ h0,?_⟩;exact below_setRow ((Below.refl _ w).alloc (bD _) _) (bD _) _
 case round =>
  obtain ⟨k,hk,hk0,rfl,hb,hbl⟩:=hrel;by_cases hlt:k<n
  .have hkn:¬ (n=k):=bZ;have hcp1:=λty dc sc=>cpy k (Nat.min k (n - k)) wr.drew ty (n - k) dc ⟨w.heap.size,0,none⟩ k sc (by simp only [Nat.min_def];split<;>omega) rfl hb (λj u hj=>by
    have hjk:=(aK.1 hj).1;rw [fA] at hjk;rw [wV,if_pos hjk] at hj;cases hj
    have hjk2:j<k:=by simp only [Nat.min_def] at hjk;split at hjk<;>omega
    rw [kB];show wr.cell? _=_;simp [World.cell?,hb,pG,aR,hjk2])
   go_wp2
   go_region_law_o (refine step_copy_runI rfl _ _ 26 26 rfl _ _ (by simp [Act.eval,Act.put]) (by simp [Act.eval,Act.put]) (hcp1 _ _ _) ?_)
   have hmn:k+Nat.min k (n - k)<=n/\0<Nat.min k (n - k):=by simp only [Nat.min_def];split<;>omega
   simp only [Act.put,List.getElem_toArray,List.getElem_cons_succ,List.getElem_cons_zero,List.setIfInBounds_toArray,Fd,wU];go_roundw;case rel =>
    refine ⟨_,_,_,_,_,_,_,_,_,_,_,_,_,_,⟨k+Nat.min k (n - k),hmn.1,bZ,?_,setRow_heap wr.drew _ _ _ _ _ hb,below_setRow (w:=wr.drew) ⟨hbl.os,hbl.tape,hbl.output,hbl.size,hbl.block⟩ (bD _) _⟩,rfl⟩;congr 1;rw [IntKind.wrap_i64];omega
   case measure=>simp [RowKit.intOf,goInt,IntKind.wrap_i64];omega
  .obtain rfl:k=n:=bZ
   go_wp2
   go_ret;refine ⟨_,rfl,⟨by simp,.inr ⟨w.heap.size,k,(pG v k k).toArray,rfl,bD _,hb,bD _,by simp only [maxLen];omega,by simp [pG],?_⟩⟩,hbl⟩;simp [pG]
theorem Hr (v:Int)(n:Nat)(z:n<=1000):Own prog 239 [.list [[dI v]],dI n] 3 1 ((List.replicate n v).map cI):=by
 refine ⟨⟨Tryz.f239,func239,rfl,rfl⟩,λM w f J F=>?_⟩;obtain ⟨h,r⟩:=F;match f,h with
 | [s,y],_ =>
  have H:=r 0 s _ rfl rfl;have G:=r 1 y _ rfl rfl;cases G
  rcases uK H with ⟨rfl,l⟩|⟨o,m,I,p,rfl,a,_,d,_,_,_⟩
  .cases l
  .have hx:∃ u,p[0]?=some u:=by
    have A:=a.len;simp at A;exact ⟨p[0]' bZ,aA bZ⟩
   obtain ⟨u,j⟩:=hx;have B:=a.ad 0 u (D.int .i64 v) j rfl;cases B
   have i:=(d 0 _ j).2;rw [show o.add 0=o by unfold Addr.add;simp] at i;refine (Mj v n z o m w i).mono λe t ⟨q,l,g,E⟩=>?_;have k:((List.replicate n v).map cI).length=n:=eG;exact ⟨q,_,l,by rw [k];exact g,λu j=>by rw [lU j];rfl,by
    have:=Bf (M:=λb=>M b\/q.ownBlock=some b) (σ:=g8) (N:=sD) (w:=t) (List.replicate n v);simpa using this,mO _,λc C=>by obtain ⟨x,_,rfl⟩:=aV.1 C;rfl,E⟩
end Go.Abs
end
section
set_option maxRecDepth 100000
set_option maxHeartbeats 4000000
open Go Go.Proofs Tryz
namespace Go.Abs
theorem EU {l:Xa0}(b:l.Pairwise (· < ·))(v:Int):iQ l l.length v=if mem l v=true then (lH l v:Int) else -1:=by
 by_cases h:mem l v=true
 .rw [if_pos h,<- xN b h];obtain ⟨p,d,e⟩:=aO ((mem_iff l v).1 h);have c:=eD.1 b;rw [sI (i:=p) (λj k f=>by
   have a:j<l.length:=bZ;rw [aA a] at f;have:=c j p a d k;simp at f;omega) (by rw [aA d,e]),<- e,uQ (mB b) d]
 .rw [if_neg h,tZ (λg=>h ((mem_iff _ _).2 g)) _ (bD _)]
def Gh (d:Xa0)(n i:Nat):Xa0:=mA d i++List.replicate (n - i) 0
theorem G3 {d:Xa0}{n i:Nat}(h:i<=n):(Gh d n i).length=n:=by simp [Gh,kD];omega
theorem NG {d:Xa0}{n i:Nat}(h:i<n):(Gh d n i).set i (iQ d d.length i)=Gh d n (i+1):=by
 unfold Gh;rw [nO _ _ (by rw [kD];omega),kD,Aa,I8,show n - i=(n - (i+1))+1 by omega,p5,wU,List.append_assoc];rfl
theorem G6 (n:Nat)(s:n<=1000000)(d:Xa0)(m:d.Pairwise (· < ·))(o:d.length<=1000000):Pua 153 [dI n,dLI d] (dLI (rF d n)):=by
 refine Tz.p0 func153 rfl λQ q Y=>?_;refine wp (h:=bC (λi e H=>(e 1=dLI d/\e 5=.own 0 n/\e 12=dI n/\e 13=dI i)/\(H.get 0=some ⟨3,1,(Gh d n i).map cI,false⟩)/\(0<H.next)/\(i<=n)) (λi=>n - i) 0 ⟨wg,(by simp [go_sem,Gh,mA,cI]),wn,wi⟩ λu c i e H k=>?_);obtain ⟨r,g,b,t⟩:=k;have Y:=xa2 Y r g (bP b);refine c8 (λf=>?_) λf=>?_
 .have hB:=EU m (i:Int);have j:i<(Gh d n i).length:=by rw [G3 bZ];exact f
  have a:(Gh d n i).length=n:=G3 bZ;have Y:=xa2 Y f (aA j) a;refine wv (h:=aB (pX d i m o) wl ?_);refine kI (λl=>?_) λl=>?_
  .rw [if_neg (eL l)] at hB;have Y:=wa Y hB;exact wp (h:=wx c (i+1) ⟨wg,(by simp [go_sem,Y,<- NG f,bJ,cI]),wn,wj⟩)
  .rw [if_pos (eL l)] at hB;have Y:=wa Y hB;exact wp (h:=wx c (i+1) ⟨wg,(by simp [go_sem,Y,<- NG f,bJ,cI]),wn,wj⟩)
 .have a:(Gh d n i).length=n:=G3 bZ;have p:rF d n=Gh d n i:=by unfold Gh rF;rw [(bZ:i=n)];simp
  have Y:=wa Y a;exact wv (h:=q _ _ (by simp [go_sem,Y,p,dLI]))
/-! ### comatch -/
def Vu (keep into at_:Xa0)(n j:Nat):Int:=if 0<=iQ into n j then at_[(keep[(iQ into n j).toNat]?.getD 0).toNat]?.getD 0 else -1
def Ro (keep into at_:Xa0)(count n:Nat):Xa0:=(List.range count).map (Vu keep into at_ n)
def IU (keep into at_:Xa0)(count remain i:Nat):Xa0:=(List.range count).map λj=>if j<i then IQ keep into at_ remain j else Vu keep into at_ into.length j
theorem Xb (keep b at_:Xa0)(a n:Nat):(Ro keep b at_ a n).length=a:=by simp [Ro]
theorem M5 (keep c at_:Xa0)(a b i:Nat):(IU keep c at_ a b i).length=a:=by simp [IU]
theorem Vw (keep b at_:Xa0)(a:Nat):Ro keep b at_ a 0=List.replicate a (-1):=by
 apply iE (by simp [Ro]);intro i d c;simp [Ro,Vu,iQ]
theorem Vx (keep a at_:Xa0)(b n:Nat)(h:n<a.length)(f:0<=a[n]):Ro keep a at_ b (n+1)=(Ro keep a at_ b n).set a[n].toNat (at_[(keep[n]?.getD 0).toNat]?.getD 0):=by
 apply iE (by simp [Ro]);intro i e d;rw [Bx];simp only [Ro,uY,q9,Vu,rS,aA h,aD];by_cases c:a[n]=(i:Int)
 .rw [if_pos c,if_pos bZ,if_pos bZ,Int.toNat_natCast]
 .rw [if_neg c,if_neg (bZ:¬ a[n].toNat=i)]
theorem Vv (keep a at_:Xa0)(b c:Nat):IU keep a at_ b c 0=Ro keep a at_ b a.length:=by simp [IU,Ro]
theorem W8 (keep c at_:Xa0)(b a:Nat){i:Nat}(h:i<b):(IU keep c at_ b a i).set i (IQ keep c at_ a i)=IU keep c at_ b a (i+1):=by
 apply iE (by simp [IU]);intro j g f;rw [Bx];simp only [IU,uY,q9];by_cases d:i=j
 .subst d;rw [if_pos rfl,if_pos bZ]
 .rw [if_neg d];by_cases e:j<i
  .rw [if_pos e,if_pos bZ]
  .rw [if_neg e,if_neg bZ]
theorem Xa (keep c at_:Xa0)(a b:Nat):IU keep c at_ a b a=B5 keep c at_ a b:=by
 unfold IU B5;exact cE λj d=>by rw [if_pos (bY.1 d)]
theorem W9 (keep a at_:Xa0)(b c:Nat){i:Nat}(h:i<b):(IU keep a at_ b c i)[i]?=some (Vu keep a at_ a.length i):=by
 simp [IU,h]
theorem CT (b:Nat)(hc:b<=1000)(keep a c d:Xa0)(n:Nat)(hn:n<=1000)(hl:a.length<=keep.length)(L:∀ x∈a,0<=x/\x<b)(K:∀ x∈keep,0<=x/\x<c.length)(I:∀ x∈keep,0<=iA c x/\iA c x<d.length)
  (X:∀ x∈keep,0<=(p9 c d)[x.toNat]?.getD 0):Pua 154 [dI b,dLI keep,dLI a,dLI c,dLI d,dI n] (dLI (B5 keep a (p9 c d) b n)):=by
 refine Tz.pK ⟨λt=>t==19,λ_=>[]⟩ func154 rfl (λQ hQ=>?_);have Y:=trivial;refine wv (h:=i5 (Hr (-1) b hc) wl ?_);refine wv (h:=?_);repeat first|intro _|refine ⟨gX,?_⟩
 refine bC (λi e H=>(e 1=dLI keep/\e 2=dLI a/\e 3=dLI c/\e 4=dLI d/\e 13=.own 0 b/\e 20=dLI a/\e 21=dI a.length/\e 22=dI i/\e 5=dI n)/\(H.get 0=some ⟨3,1,(Ro keep a (p9 c d) b i).map cI,false⟩)/\(0<H.next)/\(i<=a.length)) (λi=>a.length - i) 0 ⟨wg,(by simp [go_sem,Vw,cI]),wn,wi⟩ λI0 U i e H P=>?_;obtain ⟨E0,D,s,hi⟩:=P;have Y:=xa2 Y E0 D (bP s);refine c8 (λA=>?_) λA=>?_
 .have hki:i<keep.length:=bZ;have Z:=K _ (aC hki);have G:=I _ (aC hki);have o:keep[i].toNat<c.length:=bZ;have N:iA c keep[i]=c[keep[i].toNat]:=by unfold iA;rw [aA o];rfl
  rw [N] at G;have w:(c[keep[i].toNat]).toNat<d.length:=bZ;have M:=L _ (aC A);have f:(Ro keep a (p9 c d) b i).length=b:=Xb _ _ _ _ _;have T:a[i].toNat<(Ro keep a (p9 c d) b i).length:=bZ;have W:(p9 c d)[(keep[i]?.getD 0).toNat]?.getD 0=d[(c[keep[i].toNat]).toNat]:=by
   rw [aA hki,aD];unfold p9;rw [aP,aA o,eV,aD,aA w,aD]
  have u:=Vx keep a (p9 c d) b i A M.1;rw [W] at u;have Y:=xa6 Y A (aA A) (aA hki) (aA o) (aA w) (aA T) f;refine wv (h:=?_);repeat first|intro _|refine ⟨gX,?_⟩
  exact wx U (i+1) ⟨wg,(by simp [go_sem,Y,u,bJ,cI]),wn,wj⟩
 .have hA:Ro keep a (p9 c d) b i=IU keep a (p9 c d) b n 0:=by rw [Vv,(bZ:i=a.length)]
  have f:(IU keep a (p9 c d) b n 0).length=b:=M5 _ _ _ _ _ _;have F:Cl a 0=0:=KU a;have Y:=xa2 Y hA f F;refine wv (h:=?_);repeat first|intro _|refine ⟨gX,?_⟩
  refine bC (λk e H=>(e 1=dLI keep/\e 2=dLI a/\e 3=dLI c/\e 4=dLI d/\e 13=.own 0 b/\e 42=dI b/\e 43=dI k/\e 5=dI ((n+Cl a k:Nat):Int))/\(H.get 0=some ⟨3,1,(IU keep a (p9 c d) b n k).map cI,false⟩)/\(0<H.next)/\(k<=b)) (λk=>b - k) 0 ⟨wg,(by simp [go_sem,Y]),wn,wi⟩ λI2 z k e H O=>?_;obtain ⟨E2,C,r,hk⟩:=O;have Y:=xa2 Y E2 C (bP r);refine c8 (λE=>?_) λE=>?_
  .have hnl:=Sd a k;have f:(IU keep a (p9 c d) b n k).length=b:=M5 _ _ _ _ _ _;have S:k<(IU keep a (p9 c d) b n k).length:=bZ;have R:=W9 keep a (p9 c d) b n E;have p:(IU keep a (p9 c d) b n k)[k]=Vu keep a (p9 c d) a.length k:=by rw [aA S] at R;exact Option.some.inj R
   have l:=W8 keep a (p9 c d) b n E;have m:=KV a k;have a0:=D3 a (k:Int) a.length;have Y:=xa2 Y f E R;refine wv (h:=?_);repeat first|intro _|refine ⟨gX,?_⟩
   refine wq (λg=>?_) λg=>?_
   .rw [p] at g;have v:¬ 0<=iQ a a.length k:=by
     intro B;have y:(iQ a a.length k).toNat<keep.length:=bZ;have:=X _ (aC y);simp only [Vu,if_pos B,aA y,aD] at g;omega
    have q:IQ keep a (p9 c d) n k=((n+Cl a k:Nat):Int):=by unfold IQ;rw [if_neg v]
    rw [q] at l;rw [if_pos bZ] at m;have j:(IU keep a (p9 c d) b n (k+1)).map cI=((IU keep a (p9 c d) b n k).map cI).set k [.int .i64 ((n+Cl a k:Nat):Int)]:=by rw [<- l,bJ];rfl
    have Y:=wa Y m;refine wv (h:=?_);repeat first|intro _|refine ⟨gX,?_⟩
    exact wx z (k+1) ⟨wg,(by simp [go_sem,Y,j]),wn,wj⟩
   .rw [p] at g;have q:IQ keep a (p9 c d) n k=Vu keep a (p9 c d) a.length k:=by
     unfold IQ Vu;split
     .rfl
     .rename_i B;exfalso;unfold Vu at g;rw [if_neg B] at g;omega
    have V:0<=iQ a a.length k:=by
     refine bH λB=>?_;unfold Vu at g;rw [if_neg B] at g;omega
    rw [q,<- p,List.set_getElem_self] at l;rw [if_neg bZ] at m;have j:(IU keep a (p9 c d) b n (k+1))=IU keep a (p9 c d) b n k:=l.symm;have Y:=wa Y m;refine wv (h:=?_);repeat first|intro _|refine ⟨gX,?_⟩
    exact wx z (k+1) ⟨wg,(by simp [go_sem,Y,j]),wn,wj⟩
  .have hE:=Xa keep a (p9 c d) b n;have J:k=b:=bZ;have f:(IU keep a (p9 c d) b n b).length=b:=M5 _ _ _ _ _ _;rw [hE] at f;have Y:=xa2 Y f J hE;exact wv (h:=hQ _ _ (by simp [go_sem,Y,hE,dLI]))
/-! ### copies -/
@[go_sem] theorem Mat.fi (m:Mat):m.d.W=true:=by simp [Mat.d,D.W,Mat.W]
theorem G8 (m:Mat)(f:m.m.h.length<=1000000)(e:m.m.i.length<=1000000)(b:m.vars.length<=1000000):Pua 151 [m.d] m.d:=by
 refine Tz.pK ⟨λt=>t==2,λ_=>[]⟩ func151 rfl (λQ a=>?_);have Y:=wa @Mat.d.eq_1 @Mat.c.eq_1;refine wv (h:=?_);refine n7 (fS m.m.h f) (by simp [go_sem,dLI]) (by simp [go_sem]) (Ll _) rfl (by simp [go_sem]) ?_;refine wv (h:=?_);refine n7 (fS m.m.i e) (by simp [go_sem,dLI]) (by simp [go_sem]) (Ll _) rfl (by simp [go_sem]) ?_;refine wv (h:=?_);refine n7 (fS m.vars b) (by simp [go_sem,dLI]) (by simp [go_sem]) (Ll _) rfl (by simp [go_sem]) ?_;exact wv (h:=a _ _ (by simp [go_sem,Y,dLI]))
def Gn (t:Types)(r:Rule)(h:Host)(m:Mat):Int :=
 if fP t r.left.j h.j m.m r.inj≠0 then 1
 else if (eH t r.left h m.m).2≠0 then (eH t r.left h m.m).2
 else if (eH t r.left h m.m).1≠m.vars then 11 else 0
theorem OG (t:Types)(r:Rule)(h:Host)(m:Mat):rK t r h m=if Gn t r h m≠0 then Gn t r h m else jC (sG r.left.j h.j m.m) h.j r.u m.m:=by
 unfold rK Gn;by_cases c:fP t r.left.j h.j m.m r.inj≠0
 .rw [if_pos c,if_pos c];simp
 .rw [if_neg c,if_neg c];by_cases a:(eH t r.left h m.m).2≠0
  .rw [if_pos a,if_pos a,if_pos a]
  .rw [if_neg a,if_neg a];by_cases b:(eH t r.left h m.m).1≠m.vars
   .rw [if_pos b,if_pos b];simp
   .rw [if_neg b,if_neg b];simp
theorem L0 (t:Types)(g:t.ok)(r:Rule)(h:Host)(m:Mat):Pua 148 [t.d,r.d,h.d,m.d] (dI (Gn t r h m)):=by
 refine Tz.p0 func148 rfl λQ a _=>?_;have Y:=xa7 @Rule.d.eq_1 @Rule.c.eq_1 @Pattern.c.eq_1 @Host.d.eq_1 @Host.c.eq_1 @Mat.d.eq_1 @Mat.c.eq_1 @Graph.c.eq_1 @Part.c.eq_1;refine wv (h:=aB (yS t g r.left.j h.j m.m r.inj) wl ?_);refine c8 (λf=>?_) λf=>?_
 .have hM:Gn t r h m=1:=by unfold Gn;rw [if_pos (eL f)]
  exact wv (h:=a _ _ (by simp [go_sem,hM]))
 .have hM:Gn t r h m=if (eH t r.left h m.m).2≠0 then (eH t r.left h m.m).2 else if (eH t r.left h m.m).1≠m.vars then 11 else 0:=by unfold Gn;rw [if_neg (eL f)]
  refine wv (h:=aB (zS t g r.left h m.m) wl ?_);refine c8 (λe=>?_) λe=>?_
  .rw [if_pos (eL e)] at hM;exact wv (h:=a _ _ (by simp [go_sem,hM]))
  .rw [if_neg (eL e)] at hM;refine wo (h:=aB (l8 (eH t r.left h m.m).1 m.vars) wl ?_);refine dW (λb=>?_) λb=>?_
   .rw [if_pos (eL b)] at hM;exact wv (h:=a _ _ (by simp [go_sem,hM]))
   .rw [if_neg (eL b)] at hM;exact wv (h:=a _ _ (by simp [go_sem,hM]))
theorem Qk (t:Types)(b:t.ok)(r:Rule)(g:r.ok)(h:Host):Pua 74 [t.d,r.d,h.d] (dI (jU t r h)):=by
 refine Tz.p0 func74 rfl λQ c Y=>?_;refine wv (h:=aB (mD t b) wl ?_);refine c8 (λf=>?_) λf=>?_
 .have hE:ruleF t r=(cQ t).2:=by unfold ruleF;rw [if_pos (eL f)]
  have a:jU t r h=(cQ t).2:=by unfold jU;rw [if_pos (by rw [hE];simpa using f),hE]
  exact wv (h:=c _ _ (by simp [go_sem,a]))
 .refine wv (h:=aB (Hk t b r g) wl ?_);refine c8 (λe=>?_) λe=>?_
  .have a:jU t r h=ruleF t r:=by unfold jU;rw [if_pos (eL e)]
   exact wv (h:=c _ _ (by simp [go_sem,a]))
  .have a:jU t r h=jB t h:=by unfold jU;rw [if_neg (eL e)]
   refine wv (h:=aB (Cr t b h) wl ?_);exact wv (h:=c _ _ (by simp [go_sem,a,jB]))
mutual
def Cond.bd (B:Nat):Cond→Prop
 | .mk k l m p=>(m.h.length≤B∧m.i.length≤B)∧Cond.cy B l
def Cond.cy (B:Nat):List Cond→Prop
 | []=>True
 | c :: l=>c.bd B∧Cond.cy B l
end
theorem Kj (B:Nat)(l:List Cond):Cond.cy B l↔∀ c∈l,c.bd B:=by
 induction l with
 | nil=>simp [Cond.cy]
 | cons a l ih=>simp [Cond.cy,ih]
theorem Eb (B:Nat)(c:Cond):c.bd B↔(c.map.h.length<=B/\c.map.i.length<=B)/\∀ k∈c.w,k.bd B:=by cases c;simp [Cond.bd,Kj,Cond.w,Cond.map]
theorem Cond.a8 {B:Nat}(e:B<=1000000000000000):∀ c:Cond,c.bd B->c.le:=by
 refine Cond.bm λc b h=>?_;obtain ⟨f,d⟩:=(Eb B c).1 h;exact (Gc c).2 ⟨⟨bZ,bZ⟩,λk a=>b k a (d k a)⟩
def Rule.bd (B:Nat)(x:Rule):Prop:=(x.u.h.length<=B/\x.u.i.length<=B)/\(x.A.h.length<=B/\x.A.i.length<=B)/\x.cond.bd B
theorem Rule.a8 {B:Nat}(a:B<=1000000000000000){r:Rule}(h:r.bd B):r.le:=by
 obtain ⟨⟨f,e⟩,⟨d,c⟩,b⟩:=h;exact ⟨⟨bZ,bZ⟩,⟨bZ,bZ⟩,Cond.a8 a _ b⟩
section
variable {H:Type} {enc:TypeId × Value→H} {w:World} {base:Nat} {spare:Nat→Bool} {held:Bool} {bulk:DataW H→Nat} {B:Nat}
theorem op9 (hB:Bulk bulk):∀ n,Opens enc prog w base spare held bulk B n 9 cS (λ_=>True):=λn=>(MA hB underlying9).map id (λ_=>rfl) (λ_ _=>trivial)
theorem KN:∀ n,Opens enc prog w base spare held bulk B n 3 cI (λ_=>True):=λn=>(KM underlying3).map id (λ_=>rfl) (λ_ _=>trivial)
theorem ab6 (hB:Bulk bulk):∀ n,Opens enc prog w base spare held bulk B n 107 (λl:List ByteArray=>[D.list (l.map cS)]) (λl=>l.length<=B/\∀ a∈l,(λ_=>True) a)
 | 0=>Opens.zero
 | n+1=>jK hB underlying107 (op9 hB n)
theorem ab5 (hB:Bulk bulk):∀ n,Opens enc prog w base spare held bulk B n 109 Attr.c (λ_=>True)
 | 0=>Opens.zero
 | n+1=>(eF hB underlying109 (by kernel_rfl) (bB (op9 hB n) (bB (KN n) (bB (KN n) (bB (ab6 hB n) fF))))).map (λp=>⟨p.1,p.2.1,p.2.2.1,p.2.2.2.1⟩) (λp=>rfl) (λp h=>trivial)
theorem ab4 (hB:Bulk bulk):∀ n,Opens enc prog w base spare held bulk B n 110 (λl:List Attr=>[D.list (l.map Attr.c)]) (λl=>l.length<=B/\∀ a∈l,(λ_=>True) a)
 | 0=>Opens.zero
 | n+1=>jK hB underlying110 (ab5 hB n)
theorem ab3 (hB:Bulk bulk):∀ n,Opens enc prog w base spare held bulk B n 112 NodeTy.c (λx=>x.y.length<=B)
 | 0=>Opens.zero
 | n+1=>(eF hB underlying112 (by kernel_rfl) (bB (op9 hB n) (bB (KN n) (bB (op4 n) (bB (ab4 hB n) fF))))).map (λp=>⟨p.1,p.2.1,p.2.2.1,p.2.2.2.1⟩) (λp=>rfl) (λp h=>h.2.2.2.1.1)
theorem agE (hB:Bulk bulk):∀ n,Opens enc prog w base spare held bulk B n 22 (λl:List NodeTy=>[D.list (l.map NodeTy.c)]) (λl=>l.length<=B/\∀ a∈l,(λx=>x.y.length<=B) a)
 | 0=>Opens.zero
 | n+1=>jK hB underlying22 (ab3 hB n)
theorem ab2 (hB:Bulk bulk):∀ n,Opens enc prog w base spare held bulk B n 114 EdgeTy.c (λ_=>True)
 | 0=>Opens.zero
 | n+1=>(eF hB underlying114 (by kernel_rfl) (bB (op9 hB n) (bB (KN n) (bB (KN n) (bB (KN n) (bB (KN n) (bB (KN n) (bB (KN n) fF)))))))).map (λp=>⟨p.1,p.2.1,p.2.2.1,p.2.2.2.1,p.2.2.2.2.1,p.2.2.2.2.2.1,p.2.2.2.2.2.2.1⟩) (λp=>rfl) (λp h=>trivial)
theorem agD (hB:Bulk bulk):∀ n,Opens enc prog w base spare held bulk B n 23 (λl:List EdgeTy=>[D.list (l.map EdgeTy.c)]) (λl=>l.length<=B/\∀ a∈l,(λ_=>True) a)
 | 0=>Opens.zero
 | n+1=>jK hB underlying23 (ab2 hB n)
theorem abY (hB:Bulk bulk):∀ n,Opens enc prog w base spare held bulk B n 25 Types.c (λx=>x.h.length<=B/\x.i.length<=B/\∀ n∈x.h,n.y.length<=B)
 | 0=>Opens.zero
 | n+1=>(eF hB underlying25 (by kernel_rfl) (bB (agE hB n) (bB (agD hB n) fF))).map (λp=>⟨p.1,p.2.1⟩) (λp=>rfl) (λp h=>⟨h.1.1,h.2.1.1,h.1.2⟩)
theorem Tt (hB:Bulk bulk):∀ n,Opens enc prog w base spare held bulk B n 26 (λl:Xa0=>[D.list (l.map cI)]) (λl=>l.length<=B/\∀ a∈l,(λ_=>True) a)
 | 0=>Opens.zero
 | n+1=>jK hB underlying26 (KN n)
theorem ab1 (hB:Bulk bulk):∀ n,Opens enc prog w base spare held bulk B n 153 Edge.c (λ_=>True)
 | 0=>Opens.zero
 | n+1=>(eF hB underlying153 (by kernel_rfl) (bB (KN n) (bB (KN n) (bB (KN n) fF)))).map (λp=>⟨p.1,p.2.1,p.2.2.1⟩) (λp=>rfl) (λp h=>trivial)
theorem agC (hB:Bulk bulk):∀ n,Opens enc prog w base spare held bulk B n 27 (λl:List Edge=>[D.list (l.map Edge.c)]) (λl=>l.length<=B/\∀ a∈l,(λ_=>True) a)
 | 0=>Opens.zero
 | n+1=>jK hB underlying27 (ab1 hB n)
theorem Yx (hB:Bulk bulk):∀ n,Opens enc prog w base spare held bulk B n 29 Graph.c (λx=>x.h.length<=B/\x.i.length<=B)
 | 0=>Opens.zero
 | n+1=>(eF hB underlying29 (by kernel_rfl) (bB (Tt hB n) (bB (agC hB n) fF))).map (λp=>⟨p.1,p.2.1⟩) (λp=>rfl) (λp h=>⟨h.1.1,h.2.1.1⟩)
theorem UE (hB:Bulk bulk):∀ n,Opens enc prog w base spare held bulk B n 176 Term.c (λ_=>True)
 | 0=>Opens.zero
 | n+1=>(eF hB underlying176 (by kernel_rfl) (bB (KN n) (bB (KN n) fF))).map (λp=>⟨p.1,p.2.1⟩) (λp=>rfl) (λp h=>trivial)
theorem ab0 (hB:Bulk bulk):∀ n,Opens enc prog w base spare held bulk B n 178 Slot.c (λ_=>True)
 | 0=>Opens.zero
 | n+1=>(eF hB underlying178 (by kernel_rfl) (bB (KN n) (bB (KN n) (bB (UE hB n) fF)))).map (λp=>⟨p.1,p.2.1,p.2.2.1⟩) (λp=>by simp [Slot.c,Term.c,cI,dI]) (λp h=>trivial)
theorem agB (hB:Bulk bulk):∀ n,Opens enc prog w base spare held bulk B n 30 (λl:List Slot=>[D.list (l.map Slot.c)]) (λl=>l.length<=B/\∀ a∈l,(λ_=>True) a)
 | 0=>Opens.zero
 | n+1=>jK hB underlying30 (ab0 hB n)
theorem abZ (hB:Bulk bulk):∀ n,Opens enc prog w base spare held bulk B n 181 Test.c (λ_=>True)
 | 0=>Opens.zero
 | n+1=>(eF hB underlying181 (by kernel_rfl) (bB (KN n) (bB (UE hB n) (bB (UE hB n) fF)))).map (λp=>⟨p.1,p.2.1,p.2.2.1⟩) (λp=>by simp [Test.c,Term.c,cI,dI]) (λp h=>trivial)
theorem agA (hB:Bulk bulk):∀ n,Opens enc prog w base spare held bulk B n 31 (λl:List Test=>[D.list (l.map Test.c)]) (λl=>l.length<=B/\∀ a∈l,(λ_=>True) a)
 | 0=>Opens.zero
 | n+1=>jK hB underlying31 (abZ hB n)
theorem Yw (hB:Bulk bulk):∀ n,Opens enc prog w base spare held bulk B n 33 Pattern.c (λ_=>True)
 | 0=>Opens.zero
 | n+1=>(eF hB underlying33 (by kernel_rfl) (bB (Yx hB n) (bB (agB hB n) (bB (KN n) (bB (agA hB n) fF))))).map (λp=>⟨p.1,p.2.1,p.2.2.1,p.2.2.2.1⟩) (λp=>by simp [Pattern.c,Graph.c,cI,dI]) (λp h=>trivial)
theorem af9 (hB:Bulk bulk):∀ n,Opens enc prog w base spare held bulk B n 35 Part.c (λx=>x.h.length<=B/\x.i.length<=B)
 | 0=>Opens.zero
 | n+1=>(eF hB underlying35 (by kernel_rfl) (bB (Tt hB n) (bB (Tt hB n) fF))).map (λp=>⟨p.1,p.2.1⟩) (λp=>rfl) (λp h=>⟨h.1.1,h.2.1.1⟩)
theorem QT (hB:Bulk bulk):∀ n,Opens enc prog w base spare held bulk B n 36 Part.c (λx=>x.h.length<=B/\x.i.length<=B)
 | 0=>Opens.zero
 | n+1=>(eF hB underlying36 (by kernel_rfl) (bB (Tt hB n) (bB (Tt hB n) fF))).map (λp=>⟨p.1,p.2.1⟩) (λp=>rfl) (λp h=>⟨h.1.1,h.2.1.1⟩)
theorem abW (hB:Bulk bulk):∀ n,Opens enc prog w base spare held bulk B n 39 Cond.c (λc=>c.bd B)
 | 0=>Opens.zero
 | n+1 =>
  have hk:Opens enc prog w base spare held bulk B n 37 (λl:List Cond=>[D.list (l.map Cond.c)]) (λl=>l.length<=B/\∀ a∈l,Cond.bd B a):=match n with
   | 0=>Opens.zero
   | m+1=>jK hB underlying37 ((abW hB (m+1)).mono (Nat.le_succ m))
  (eF hB underlying39 (by kernel_rfl) (bB (KN n) (bB hk (bB (QT hB n) (bB (Yw hB n) fF))))).map (λp=>Cond.mk p.1 p.2.1 p.2.2.1 p.2.2.2.1) (λp=>by simp [Cond.c,Cond.bv,Part.c,Pattern.c,cI,dI]) (λp h=>(Eb B _).2 ⟨h.2.2.1,h.2.1.2⟩)
theorem Yv (hB:Bulk bulk):∀ n,Opens enc prog w base spare held bulk B n 41 Rule.c (λx=>(x.u.h.length<=B/\x.u.i.length<=B)/\(x.A.h.length<=B/\x.A.i.length<=B)/\x.cond.bd B)
 | 0=>Opens.zero
 | n+1=>(eF hB underlying41 (by kernel_rfl) (bB (op9 hB n) (bB (Yw hB n) (bB (Yw hB n) (bB (af9 hB n) (bB (QT hB n) (bB (op4 n) (bB (abW hB n) fF)))))))).map (λp=>⟨p.1,p.2.1,p.2.2.1,p.2.2.2.1,p.2.2.2.2.1,p.2.2.2.2.2.1,p.2.2.2.2.2.2.1⟩) (λp=>by simp [Rule.c,Pattern.c,Part.c,Cond.E,cS,cI,dI]) (λp h=>⟨h.2.2.2.1,h.2.2.2.2.1,h.2.2.2.2.2.2.1⟩)
end
end Go.Abs
end
