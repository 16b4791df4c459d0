/- slices.Repeat of one integer, in the world. · The step of th -/
import Derived.Test.YtbgbahlipnaflaaGreatZvAS
import Derived.Test.YtbgbahlipnaflaaGreatZvAT
import Derived.Test.YtbgbahlipnaflaaGreatZvAG
import Derived.Test.YtbgbahlipnaflaaGreatZvAA
import Derived.Test.YtbgbahlipnaflaaGreatZvAR
import Derived.Shelf.Spec.SlicesInsert
import Derived.Lib.AppendZerosOnto
import Derived.Shelf.Bits.Mul64
import Derived.Deep.OwnRows
import Derived.Laws.NewBlocks
import Derived.Laws.CopyOwn
set_option linter.unusedVariables false
set_option linter.unusedSimpArgs false
section
set_option maxRecDepth 100000
set_option maxHeartbeats 4000000
open Go Go.Proofs Go.RowKit Go.Shelf Go.Lib Tryz
namespace Go.Abs
theorem VE (x y:Nat)(j:x<18446744073709551616)(i:y<18446744073709551616)(w:World) :
  Calls prog 381 #[.int .u64 x,.int .u64 y] w λe w'=>e=.returned (.tuple #[.int .u64 ((x * y / 18446744073709551616:Nat):Int),.int .u64 ((x * y % 18446744073709551616:Nat):Int)])/\w'=w:=by
 obtain ⟨n,k,l,c⟩:=Lib.mul64_hi x y j i;have q:=Lib.half_mul_le (a:=x / 4294967296) (b:=y / 4294967296) aD aD;have p:=Lib.half_mul_le (a:=x / 4294967296) (b:=y % 4294967296) aD aD;have o:=Lib.half_mul_le (a:=x % 4294967296) (b:=y / 4294967296) aD aD;have h:x / 4294967296 * (y / 4294967296)<18446744073709551616:=aD;have g:x / 4294967296 * (y % 4294967296)<18446744073709551616:=aD;have f:x % 4294967296 * (y / 4294967296)<18446744073709551616:=aD;have d:x / 4294967296 * (y / 4294967296)+(x / 4294967296 * (y % 4294967296)+x % 4294967296 * (y % 4294967296) / 4294967296) / 4294967296<18446744073709551616:=aD;have m:x / 4294967296 * (y / 4294967296)+(x / 4294967296 * (y % 4294967296)+x % 4294967296 * (y % 4294967296) / 4294967296) / 4294967296+((x / 4294967296 * (y % 4294967296)+x % 4294967296 * (y % 4294967296) / 4294967296) % 4294967296+x % 4294967296 * (y / 4294967296)) / 4294967296<18446744073709551616:=aD
 go_enter func381,ntmps381
 go_wp2
 simp only [Mul64.maskN x j,Mul64.maskN y i,Mul64.divN,Mul64.mulN,Mul64.addN,Mul64.wrapN _ n,Mul64.wrapN _ g,Mul64.wrapN _ k,Mul64.maskN _ k,Mul64.wrapN _ f,Mul64.wrapN _ l,Mul64.wrapN _ h,Mul64.wrapN _ d,Mul64.wrapN _ m,Mul64.wrapM (x * y)];rw [c]
 go_ret2
 exact ⟨rfl,rfl⟩
theorem Zk (x y:Nat)(d:x<18446744073709551616)(c:y<18446744073709551616)(w:World) :
  Calls prog 333 #[.int .u64 x,.int .u64 y] w λe w'=>e=.returned (.tuple #[.int .u64 ((x * y / 18446744073709551616:Nat):Int),.int .u64 ((x * y % 18446744073709551616:Nat):Int)])/\w'=w:=by
 have a:=VE x y d c w;have b:∀ args w,(callFunc 381 args).run prog w=.ok (.enter 381 args) w:=enters_of func381 ia rfl
 go_enter func333,ntmps333
 go_wp2_with (go_at_fn 381;refine a.mono ?_;rintro e w' ⟨rfl,f⟩;rw [f])
 go_ret2
 exact ⟨rfl,rfl⟩
def pR (v:Int)(n k:Nat):List Value:=List.replicate k (.int .i64 v)++List.replicate (n - k) (.int .i64 0)
theorem PY {v:Int}{n k m:Nat}(h:k+m<=n):(pR v n k).take k++List.replicate m (.int .i64 v)++(pR v n k).drop (k+m)=pR v n (k+m):=by
 unfold pR;rw [List.take_left' aE,List.drop_append,fM,kL aE,dS,List.drop_replicate,<- List.replicate_append_replicate];congr 2;omega
theorem N7 (v:Int)(n:Nat)(hn:n<=1000)(ad:Addr)(cap:Nat)(w:World)(hc:w.cell? ad=some (.int .i64 v)) :
  Calls prog 251 #[.slice (some ad) 1 cap,.int .i64 n] w λe w'=>∃ v',e=.returned v'/\w'.ownsRow w.heap.size 3 1 v' n (List.replicate n (.int .i64 v))/\Below w.heap.size w w':=by
 have hsz:(prog.info? 3).map (·.size)=some 1:=by kernel_rfl
 have cM:=λw=>Zk 1 n aD aD w;have e1:∀ args w,(callFunc 333 args).run prog w=.ok (.enter 333 args) w:=enters_of func333 ia rfl;have hmk:=λw=>run_make_row' (P:=prog) 26 3 (.int .i64 0) 8 underlying26 Ip rfl .i64 .i64 n aD aD w;have hq1:(1 * n) / 18446744073709551616=0:=aD;have hq2:(1 * n) % 18446744073709551616=n:=aD;have hn0:¬ ((n:Int)<0):=aD;have hn1:¬ ((9223372036854775807:Int)<n):=aD;have cpy:∀ (k m:Nat) (W:World) (ty dl dc:Nat) (a:Addr) (sl sc:Nat),k+m<=n->m=Nat.min sl dl->W.heap[w.heap.size]?=some (.cells (pR v n k).toArray 3 (0,0))->(∀ (j:Nat) (u:Value),(List.replicate m (Value.int .i64 v))[j]?=some u->W.cell? (a.add j)=some u) ->
   (Builtin.copy_ #[26,26] ty #[.slice (some ⟨w.heap.size,k,none⟩) dl dc,.slice (some a) sl sc]).run prog W=.ok (goInt m) (W.setRow w.heap.size (pR v n (k+m)).toArray):=λk m W ty dl dc a sl sc hkm hm hb hs=>by
  rw [<- PY hkm];have:=Ld (P:=prog) W 26 26 ty 3 1 w.heap.size k dl dc a sl sc m (pR v n k).toArray 3 (List.replicate m (.int .i64 v)) underlying26 hsz hb hm aE hs (by simp [pR];omega) (by simp [Value.oneCell']);simpa using this
 have h0:(w.alloc (.cells (madeCells #[.int .i64 0] n) 3)).heap[w.heap.size]?=some (.cells (pR v n 0).toArray 3 (0,0)):=by
  rw [(MapKept.heap_alloc w _).1];congr 2;apply Array.toList_inj.1;rw [toList_madeCells_one];simp [pR]
 obtain ⟨m0,hm0⟩:∃ m,m=Nat.min 1 n:=⟨_,rfl⟩;have hm1:m0<=1/\m0<=n/\(m0=1\/n=0):=by rw [hm0];simp only [Nat.min_def];split<;>omega
 have hbad:ad.block<w.heap.size:=World.block_lt_of_cell? w _ hc;have hcp0:=λty=>cpy 0 m0 (w.alloc (.cells (madeCells #[.int .i64 0] n) 3)) ty n n ad 1 cap aD hm0 h0 (λj u hj=>by
  have hj0:j=0:=by have:=(aQ.1 hj).1;simp at this;omega
  subst hj0;rw [qC] at hj;split at hj
  .cases hj
   rw [show ad.add 0=ad by unfold Addr.add;simp];exact ((Below.refl _ w).alloc (bC _) _).cell (p:=ad) hbad |>.trans hc
  .cases hj)
 simp only [fE] at hcp0;clear hm0;have mixed:=Tz.mixed
 go_enter func251,ntmps251
 go_wp2_with (first|(go_at_fn 333;refine (cM _).mono ?_;rintro e w' ⟨rfl,hw⟩;rw [hw,hq1,hq2])|(at_builtin;refine wpList_copy_runI _ rfl _ _ 26 26 rfl _ _ rfl rfl (hcp0 _) ?_))
 go_loopw [8] (λi wr=>∃ k:Nat,k<=n/\(0<k\/n=0)/\i=.int .i64 k/\wr.heap[w.heap.size]?=some (.cells (pR v n k).toArray 3 (0,0))/\Below w.heap.size w wr)
  (λi _=>n - (RowKit.intOf i).toNat)
 case atStart =>
  refine ⟨m0,hm1.2.1,aD,by simp [goInt],setRow_heap _ _ _ _ _ _ h0,?_⟩;exact below_setRow ((Below.refl _ w).alloc (bC _) _) (bC _) _
 case round =>
  obtain ⟨k,hk,hk0,rfl,hb,hbl⟩:=hrel;by_cases hlt:k<n
  .have hkn:¬ (n=k):=aD;have hcp1:=λty dc sc=>cpy k (Nat.min k (n - k)) wr.drew ty (n - k) dc ⟨w.heap.size,0,none⟩ k sc (by simp only [Nat.min_def];split<;>omega) rfl hb (λj u hj=>by
    have hjk:=(aQ.1 hj).1;rw [fM] at hjk;rw [qC,if_pos hjk] at hj;cases hj
    have hjk2:j<k:=by simp only [Nat.min_def] at hjk;split at hjk<;>omega
    rw [jK];show wr.cell? _=_;simp [World.cell?,hb,pR,aS,hjk2])
   go_wp2
   go_region_law_o (refine step_copy_runI rfl _ _ 26 26 rfl _ _ (by simp [Act.eval,Act.put]) (by simp [Act.eval,Act.put]) (hcp1 _ _ _) ?_)
   have hmn:k+Nat.min k (n - k)<=n/\0<Nat.min k (n - k):=by simp only [Nat.min_def];split<;>omega
   simp only [Act.put,List.getElem_toArray,List.getElem_cons_succ,List.getElem_cons_zero,List.setIfInBounds_toArray,FX,xH];go_roundw;case rel =>
    refine ⟨_,_,_,_,_,_,_,_,_,_,_,_,_,_,⟨k+Nat.min k (n - k),hmn.1,aD,?_,setRow_heap wr.drew _ _ _ _ _ hb,below_setRow (w:=wr.drew) ⟨hbl.os,hbl.tape,hbl.output,hbl.size,hbl.block⟩ (bC _) _⟩,rfl⟩;congr 1;rw [IntKind.wrap_i64];omega
   case measure=>simp [RowKit.intOf,goInt,IntKind.wrap_i64];omega
  .obtain rfl:k=n:=aD
   go_wp2
   go_ret;refine ⟨_,rfl,⟨by simp,.inr ⟨w.heap.size,k,(pR v k k).toArray,rfl,bC _,hb,bC _,by simp only [maxLen];omega,by simp [pR],?_⟩⟩,hbl⟩;simp [pR]
theorem II (v:Int)(n:Nat)(z:n<=1000):Own prog 251 [.list [[dI v]],dI n] 3 1 ((List.replicate n v).map cI):=by
 refine ⟨⟨Tryz.f251,func251,rfl,rfl⟩,λM w f J F=>?_⟩;obtain ⟨h,r⟩:=F;match f,h with
 | [s,y],_ =>
  have H:=r 0 s _ rfl rfl;have G:=r 1 y _ rfl rfl;cases G
  rcases u3 H with ⟨rfl,l⟩|⟨o,m,I,p,rfl,a,_,d,_,_,_⟩
  .cases l
  .have hx:∃ u,p[0]?=some u:=by
    have A:=a.len;simp at A;exact ⟨p[0]' aD,aA aD⟩
   obtain ⟨u,j⟩:=hx;have B:=a.Z 0 u (D.int .i64 v) j rfl;cases B
   have i:=(d 0 _ j).2;rw [show o.add 0=o by unfold Addr.add;simp] at i;refine (N7 v n z o m w i).mono λe t ⟨q,l,g,E⟩=>?_;have k:((List.replicate n v).map cI).length=n:=aE;exact ⟨q,_,l,by rw [k];exact g,λu j=>by rw [mD j];rfl,by
    have:=Bw (M:=λb=>M b\/q.ownBlock=some b) (σ:=jG) (N:=tB) (w:=t) (List.replicate n v);simpa using this,sH _,λc C=>by obtain ⟨x,_,rfl⟩:=aT.1 C;rfl,E⟩
end Go.Abs
end
section
set_option maxRecDepth 100000
set_option maxHeartbeats 4000000
open Go Go.Proofs Tryz
namespace Go.Abs
theorem BP {l:V2}(b:l.Pairwise (· < ·))(v:Int):g6 l l.length v=if mem l v=true then (pI l v:Int) else -1:=by
 by_cases h:mem l v=true
 .rw [if_pos h,<- Eb b h];obtain ⟨p,d,e⟩:=aO ((mem_iff l v).1 h);have c:=dF.1 b;rw [yB (i:=p) (λj k f=>by
   have a:j<l.length:=aD;rw [aA a] at f;have:=c j p a d k;simp at f;omega) (by rw [aA d,e]),<- e,rE (jC b) d]
 .rw [if_neg h,sA (λg=>h ((mem_iff _ _).2 g)) _ (bC _)]
def GY (d:V2)(n i:Nat):V2:=mS d i++List.replicate (n - i) 0
theorem H9 {d:V2}{n i:Nat}(h:i<=n):(GY d n i).length=n:=by simp [GY,mR];omega
theorem Pv {d:V2}{n i:Nat}(h:i<n):(GY d n i).set i (g6 d d.length i)=GY d n (i+1):=by
 unfold GY;rw [nU _ _ (by rw [mR];omega),mR,vP,Kz,show n - i=(n - (i+1))+1 by omega,nE,xH,List.append_assoc];rfl
theorem If (n:Nat)(s:n<=1000000)(d:V2)(m:d.Pairwise (· < ·))(o:d.length<=1000000):Pua 159 [dI n,dLI d] (dLI (o6 d n)):=by
 refine Tz.p0 func159 rfl λQ q Y=>?_;refine wp (h:=bA (λi e H=>(e 1=dLI d/\e 5=.own 0 n/\e 12=dI n/\e 13=dI i)/\(H.get 0=some ⟨3,1,(GY d n i).map cI,false⟩)/\(0<H.next)/\(i<=n)) (λi=>n - i) 0 ⟨wg,(by simp [go_sem,GY,mS,cI]),wn,wi⟩ λu c i e H k=>?_);obtain ⟨r,g,b,t⟩:=k;have Y:=xa2 Y r g (bS b);refine dR (λf=>?_) λf=>?_
 .have hB:=BP m (i:Int);have j:i<(GY d n i).length:=by rw [H9 aD];exact f
  have a:(GY d n i).length=n:=H9 aD;have Y:=xa2 Y f (aA j) a;refine wv (h:=aB (wT d i m o) wl ?_);refine iY (λl=>?_) λl=>?_
  .rw [if_neg (bY l)] at hB;have Y:=wa Y hB;exact wp (h:=wx c (i+1) ⟨wg,(by simp [go_sem,Y,<- Pv f,cW,cI]),wn,wj⟩)
  .rw [if_pos (bY l)] at hB;have Y:=wa Y hB;exact wp (h:=wx c (i+1) ⟨wg,(by simp [go_sem,Y,<- Pv f,cW,cI]),wn,wj⟩)
 .have a:(GY d n i).length=n:=H9 aD;have p:o6 d n=GY d n i:=by unfold GY o6;rw [(aD:i=n)];simp
  have Y:=wa Y a;exact wv (h:=q _ _ (by simp [go_sem,Y,p,dLI]))
/-! ### comatch -/
def Yu (keep into at_:V2)(n j:Nat):Int:=if 0<=g6 into n j then at_[(keep[(g6 into n j).toNat]?.getD 0).toNat]?.getD 0 else -1
def TJ (keep into at_:V2)(count n:Nat):V2:=(List.range count).map (Yu keep into at_ n)
def Kr (keep into at_:V2)(count remain i:Nat):V2:=(List.range count).map λj=>if j<i then Kl keep into at_ remain j else Yu keep into at_ into.length j
theorem ZV (keep b at_:V2)(a n:Nat):(TJ keep b at_ a n).length=a:=by simp [TJ]
theorem OR (keep c at_:V2)(a b i:Nat):(Kr keep c at_ a b i).length=a:=by simp [Kr]
theorem Yw (keep b at_:V2)(a:Nat):TJ keep b at_ a 0=List.replicate a (-1):=by
 apply fD (by simp [TJ]);intro i d c;simp [TJ,Yu,g6]
theorem Yx (keep a at_:V2)(b n:Nat)(h:n<a.length)(f:0<=a[n]):TJ keep a at_ b (n+1)=(TJ keep a at_ b n).set a[n].toNat (at_[(keep[n]?.getD 0).toNat]?.getD 0):=by
 apply fD (by simp [TJ]);intro i e d;rw [BR];simp only [TJ,iG,rK,Yu,r9,aA h,Option.getD_some];by_cases c:a[n]=(i:Int)
 .rw [if_pos c,if_pos aD,if_pos aD,Int.toNat_natCast]
 .rw [if_neg c,if_neg (aD:¬ a[n].toNat=i)]
theorem Yv (keep a at_:V2)(b c:Nat):Kr keep a at_ b c 0=TJ keep a at_ b a.length:=by simp [Kr,TJ]
theorem ZS (keep c at_:V2)(b a:Nat){i:Nat}(h:i<b):(Kr keep c at_ b a i).set i (Kl keep c at_ a i)=Kr keep c at_ b a (i+1):=by
 apply fD (by simp [Kr]);intro j g f;rw [BR];simp only [Kr,iG,rK];by_cases d:i=j
 .subst d;rw [if_pos rfl,if_pos aD]
 .rw [if_neg d];by_cases e:j<i
  .rw [if_pos e,if_pos aD]
  .rw [if_neg e,if_neg aD]
theorem ZU (keep c at_:V2)(a b:Nat):Kr keep c at_ a b a=ER keep c at_ a b:=by
 unfold Kr ER;exact b8 λj d=>by rw [if_pos (aV.1 d)]
theorem ZT (keep a at_:V2)(b c:Nat){i:Nat}(h:i<b):(Kr keep a at_ b c i)[i]?=some (Yu keep a at_ a.length i):=by
 simp [Kr,h]
theorem Dn (b:Nat)(hc:b<=1000)(keep a c d:V2)(n:Nat)(hn:n<=1000)(hl:a.length<=keep.length)(L:∀ x∈a,0<=x/\x<b)(K:∀ x∈keep,0<=x/\x<c.length)(I:∀ x∈keep,0<=iA c x/\iA c x<d.length)
  (X:∀ x∈keep,0<=(qF c d)[x.toNat]?.getD 0):Pua 160 [dI b,dLI keep,dLI a,dLI c,dLI d,dI n] (dLI (ER keep a (qF c d) b n)):=by
 refine Tz.pK ⟨λt=>t==19,λ_=>[]⟩ func160 rfl (λQ hQ=>?_);have Y:=trivial;refine wv (h:=kU (II (-1) b hc) wl ?_);refine wv (h:=?_);repeat first|intro _|refine ⟨fK,?_⟩
 refine bA (λi e H=>(e 1=dLI keep/\e 2=dLI a/\e 3=dLI c/\e 4=dLI d/\e 13=.own 0 b/\e 20=dLI a/\e 21=dI a.length/\e 22=dI i/\e 5=dI n)/\(H.get 0=some ⟨3,1,(TJ keep a (qF c d) b i).map cI,false⟩)/\(0<H.next)/\(i<=a.length)) (λi=>a.length - i) 0 ⟨wg,(by simp [go_sem,Yw,cI]),wn,wi⟩ λI0 U i e H P=>?_;obtain ⟨E0,D,s,hi⟩:=P;have Y:=xa2 Y E0 D (bS s);refine dR (λA=>?_) λA=>?_
 .have hki:i<keep.length:=aD;have Z:=K _ (aC hki);have G:=I _ (aC hki);have o:keep[i].toNat<c.length:=aD;have N:iA c keep[i]=c[keep[i].toNat]:=by unfold iA;rw [aA o];rfl
  rw [N] at G;have w:(c[keep[i].toNat]).toNat<d.length:=aD;have M:=L _ (aC A);have f:(TJ keep a (qF c d) b i).length=b:=ZV _ _ _ _ _;have T:a[i].toNat<(TJ keep a (qF c d) b i).length:=aD;have W:(qF c d)[(keep[i]?.getD 0).toNat]?.getD 0=d[(c[keep[i].toNat]).toNat]:=by
   rw [aA hki,Option.getD_some];unfold qF;rw [aN,aA o,d7,Option.getD_some,aA w,Option.getD_some]
  have u:=Yx keep a (qF c d) b i A M.1;rw [W] at u;have Y:=xa6 Y A (aA A) (aA hki) (aA o) (aA w) (aA T) f;refine wv (h:=?_);repeat first|intro _|refine ⟨fK,?_⟩
  exact wx U (i+1) ⟨wg,(by simp [go_sem,Y,u,cW,cI]),wn,wj⟩
 .have hA:TJ keep a (qF c d) b i=Kr keep a (qF c d) b n 0:=by rw [Yv,(aD:i=a.length)]
  have f:(Kr keep a (qF c d) b n 0).length=b:=OR _ _ _ _ _ _;have F:CI a 0=0:=MC a;have Y:=xa2 Y hA f F;refine wv (h:=?_);repeat first|intro _|refine ⟨fK,?_⟩
  refine bA (λk e H=>(e 1=dLI keep/\e 2=dLI a/\e 3=dLI c/\e 4=dLI d/\e 13=.own 0 b/\e 42=dI b/\e 43=dI k/\e 5=dI ((n+CI a k:Nat):Int))/\(H.get 0=some ⟨3,1,(Kr keep a (qF c d) b n k).map cI,false⟩)/\(0<H.next)/\(k<=b)) (λk=>b - k) 0 ⟨wg,cl,wn,wi⟩ λI2 z k e H O=>?_;obtain ⟨E2,C,r,hk⟩:=O;have Y:=xa2 Y E2 C (bS r);refine dR (λE=>?_) λE=>?_
  .have hnl:=Uv a k;have f:(Kr keep a (qF c d) b n k).length=b:=OR _ _ _ _ _ _;have S:k<(Kr keep a (qF c d) b n k).length:=aD;have R:=ZT keep a (qF c d) b n E;have p:(Kr keep a (qF c d) b n k)[k]=Yu keep a (qF c d) a.length k:=by rw [aA S] at R;exact Option.some.inj R
   have l:=ZS keep a (qF c d) b n E;have m:=MD a k;have a0:=ED a (k:Int) a.length;have Y:=xa2 Y f E R;refine wv (h:=?_);repeat first|intro _|refine ⟨fK,?_⟩
   refine wq (λg=>?_) λg=>?_
   .rw [p] at g;have v:¬ 0<=g6 a a.length k:=by
     intro B;have y:(g6 a a.length k).toNat<keep.length:=aD;have:=X _ (aC y);simp only [Yu,if_pos B,aA y,Option.getD_some] at g;omega
    have q:Kl keep a (qF c d) n k=((n+CI a k:Nat):Int):=by unfold Kl;rw [if_neg v]
    rw [q] at l;rw [if_pos aD] at m;have j:(Kr keep a (qF c d) b n (k+1)).map cI=((Kr keep a (qF c d) b n k).map cI).set k [.int .i64 ((n+CI a k:Nat):Int)]:=by rw [<- l,cW];rfl
    have Y:=wa Y m;refine wv (h:=?_);repeat first|intro _|refine ⟨fK,?_⟩
    exact wx z (k+1) ⟨wg,(iv j),wn,wj⟩
   .rw [p] at g;have q:Kl keep a (qF c d) n k=Yu keep a (qF c d) a.length k:=by
     unfold Kl Yu;split
     .rfl
     .rename_i B;exfalso;unfold Yu at g;rw [if_neg B] at g;omega
    have V:0<=g6 a a.length k:=by
     refine aY λB=>?_;unfold Yu at g;rw [if_neg B] at g;omega
    rw [q,<- p,List.set_getElem_self] at l;rw [if_neg aD] at m;have j:(Kr keep a (qF c d) b n (k+1))=Kr keep a (qF c d) b n k:=l.symm;have Y:=wa Y m;refine wv (h:=?_);repeat first|intro _|refine ⟨fK,?_⟩
    exact wx z (k+1) ⟨wg,(iv j),wn,wj⟩
  .have hE:=ZU keep a (qF c d) b n;have J:k=b:=aD;have f:(Kr keep a (qF c d) b n b).length=b:=OR _ _ _ _ _ _;rw [hE] at f;have Y:=xa2 Y f J hE;exact wv (h:=hQ _ _ (by simp [go_sem,Y,hE,dLI]))
/-! ### copies -/
@[go_sem] theorem Mat.hd (m:Mat):m.d.Q=true:=by simp [Mat.d,D.Q,Mat.Q]
theorem Ii (m:Mat)(f:m.m.h.length<=1000000)(e:m.m.i.length<=1000000)(b:m.vars.length<=1000000):Pua 157 [m.d] m.d:=by
 refine Tz.pK ⟨λt=>t==2,λ_=>[]⟩ func157 rfl (λQ a=>?_);have Y:=wa @Mat.d.eq_1 @Mat.c.eq_1;refine wv (h:=?_);refine lW (gL m.m.h f) (by simp [go_sem,dLI]) eq (GD _) rfl eq ?_;refine wv (h:=?_);refine lW (gL m.m.i e) (by simp [go_sem,dLI]) eq (GD _) rfl eq ?_;refine wv (h:=?_);refine lW (gL m.vars b) (by simp [go_sem,dLI]) eq (GD _) rfl eq ?_;exact wv (h:=a _ _ (by simp [go_sem,Y,dLI]))
def Ha (t:Types)(r:Rule)(h:Host)(m:Mat):Int :=
 if checkE t r.left.j h.j m.m r.inj≠0 then 1
 else if (eG t r.left h m.m).2≠0 then (eG t r.left h m.m).2
 else if (eG t r.left h m.m).1≠m.vars then 11 else 0
theorem QF (t:Types)(r:Rule)(h:Host)(m:Mat):o7 t r h m=if Ha t r h m≠0 then Ha t r h m else oZ (lD r.left.j h.j m.m) h.j r.q m.m:=by
 unfold o7 Ha;by_cases c:checkE t r.left.j h.j m.m r.inj≠0
 .rw [if_pos c,if_pos c];simp
 .rw [if_neg c,if_neg c];by_cases a:(eG t r.left h m.m).2≠0
  .rw [if_pos a,if_pos a,if_pos a]
  .rw [if_neg a,if_neg a];by_cases b:(eG t r.left h m.m).1≠m.vars
   .rw [if_pos b,if_pos b];simp
   .rw [if_neg b,if_neg b];simp
theorem NK (t:Types)(g:t.ok)(r:Rule)(h:Host)(m:Mat):Pua 153 [t.d,r.d,h.d,m.d] (dI (Ha t r h m)):=by
 refine Tz.p0 func153 rfl λQ a _=>?_;have Y:=xa7 @Rule.d.eq_1 @Rule.c.eq_1 @Pattern.c.eq_1 @Host.d.eq_1 @Host.c.eq_1 @Mat.d.eq_1 @Mat.c.eq_1 @Graph.c.eq_1 @Part.c.eq_1;refine wv (h:=aB (y3 t g r.left.j h.j m.m r.inj) wl ?_);refine dR (λf=>?_) λf=>?_
 .have hM:Ha t r h m=1:=by unfold Ha;rw [if_pos (bY f)]
  exact wv (h:=a _ _ (iq hM))
 .have hM:Ha t r h m=if (eG t r.left h m.m).2≠0 then (eG t r.left h m.m).2 else if (eG t r.left h m.m).1≠m.vars then 11 else 0:=by unfold Ha;rw [if_neg (bY f)]
  refine wv (h:=aB (Ai t g r.left h m.m) wl ?_);refine dR (λe=>?_) λe=>?_
  .rw [if_pos (bY e)] at hM;exact wv (h:=a _ _ (iq hM))
  .rw [if_neg (bY e)] at hM;refine wo (h:=aB (mP (eG t r.left h m.m).1 m.vars) wl ?_);refine eP (λb=>?_) λb=>?_
   .rw [if_pos (bY b)] at hM;exact wv (h:=a _ _ (iq hM))
   .rw [if_neg (bY b)] at hM;exact wv (h:=a _ _ (iq hM))
theorem Ih (t:Types)(b:t.ok)(r:Rule)(g:r.ok)(h:Host):Pua 83 [t.d,r.d,h.d] (dI (fW t r h)):=by
 refine Tz.p0 func83 rfl λQ c Y=>?_;refine wv (h:=aB (nZ t b) wl ?_);refine dR (λf=>?_) λf=>?_
 .have hE:ruleF t r=(dG t).2:=by unfold ruleF;rw [if_pos (bY f)]
  have a:fW t r h=(dG t).2:=by unfold fW;rw [if_pos (by rw [hE];simpa using f),hE]
  exact wv (h:=c _ _ (iq a))
 .refine wv (h:=aB (IA t b r g) wl ?_);refine dR (λe=>?_) λe=>?_
  .have a:fW t r h=ruleF t r:=by unfold fW;rw [if_pos (bY e)]
   exact wv (h:=c _ _ (iq a))
  .have a:fW t r h=fG t h:=by unfold fW;rw [if_neg (bY e)]
   refine wv (h:=aB (CS t b h) wl ?_);exact wv (h:=c _ _ (by simp [go_sem,a,fG]))
theorem y7 (t:Types)(g:∀ n∈t.h,n.r.length<=1000000000000000)(r:Rule)(e:r.le)(h:Host):Pua 6 [t.d,r.d,h.d] (.bool (light26 t r h)):=by
 refine Tz.p0 func6 rfl λQ f _=>?_;have Y:=xa1 @Host.c.eq_1 @Rule.c.eq_1 @Cond.A;refine wo (h:=aB (Mq t g) wl ?_);refine wo (h:=aK (λa=>(by have b:=VJ r e;simpa [Rule.d,Rule.c,Cond.A,go_sem] using b)) (λa=>wl) ?_);refine wo (h:=aK (λa=>(by have b:=Qd t (HO (by simp at a;exact a.1)) r.left r.cond e.cond h;rwa [Cond.A] at b)) (λa=>wl) ?_);have Y:=wa Y @light26.eq_1;exact wo (h:=f _ _ wy)
theorem zI {t:Types}{r:Rule}{h:Host}(a:light26 t r h=true):t.ok/\r.ok:=by
 unfold light26 at a;simp only [aM] at a;exact ⟨HO a.1.1,OO a.1.2⟩
theorem XH (l:List ByteArray):eW (l.map cS)=l.map cS:=kQ λc hc=>by
 rw [aT] at hc;obtain ⟨x,_,rfl⟩:=hc;rfl
theorem V0 (l:List Attr):eW (l.map Attr.c)=l.map Attr.c:=kQ λc hc=>by
 rw [aT] at hc;obtain ⟨x,_,rfl⟩:=hc;simp [Attr.c,iI,mK,s7,dI,XH]
theorem uC (l:List NodeTy):eW (l.map NodeTy.c)=l.map NodeTy.c:=kQ λc hc=>by
 rw [aT] at hc;obtain ⟨x,_,rfl⟩:=hc;simp [NodeTy.c,iI,mK,dI,V0]
theorem Gt (l:List EdgeTy):eW (l.map EdgeTy.c)=l.map EdgeTy.c:=kQ λc hc=>by
 rw [aT] at hc;obtain ⟨x,_,rfl⟩:=hc;simp [EdgeTy.c,iI,mK,dI]
theorem Pure.gk {P:Program}{f:FuncId}{args args':UN}{r:D}(c:Pure P f args' r)(i:args.map mK=args'):Pure P f args r:=by
 subst i;refine ⟨c.1,λM w a k b=>c.2 M w a k ⟨by simpa using b.len,λj u d h e=>?_⟩⟩;rw [aN,bV] at e;obtain ⟨y,g,rfl⟩:=e;exact Uu (b.Z j u y h g)
def exT:Types:=⟨[⟨⟨#[65,99,99,111,117,110,116]⟩,-1,true,[⟨⟨#[98,97,108,97,110,99,101]⟩,-1000,1000,[]⟩]⟩,⟨⟨#[67,97,115,104]⟩,0,false,[]⟩,⟨⟨#[76,111,97,110]⟩,0,false,[⟨⟨#[115,116,97,116,101]⟩,0,1,[⟨#[111,112,101,110]⟩,⟨#[99,108,111,115,101,100]⟩]⟩]⟩,⟨⟨#[80,101,114,115,111,110]⟩,-1,false,[]⟩],
 [⟨⟨#[111,119,110,115]⟩,3,0,0,-1,1,1⟩,⟨⟨#[112,97,121,115]⟩,1,1,0,-1,0,-1⟩]⟩
theorem Cn:Pua 18 [] exT.d:=by
 refine qP gt (λQ a=>(Tz.cK ⟨λt=>t==0,λ_=>[]⟩ func18 rfl ?_));have Y:=trivial;refine j4 (h:=?_);exact a _ _ (by simp [go_sem,exT,Types.d,Types.c,NodeTy.c,EdgeTy.c,Attr.c,s7,cS,dI])
theorem UQ:yH exT=true:=by decide +kernel
theorem zY (a:V2):Pua 63 [dLI a,dLI a] (.bool true):=by
 refine Tz.p0 func63 rfl λQ f Y=>?_;refine wo (h:=bA (λi e H=>(e 0=dLI a/\e 1=dLI a/\e 5=dI i)/\(i<=a.length)) (λi=>a.length - i) 0 ⟨wg,wi⟩ λk d i e H c=>?_);obtain ⟨g,j⟩:=c;have Y:=wa Y g;refine wv (h:=?_);repeat first|intro _|refine ⟨iS,?_⟩
 refine wq (λb=>?_) λb=>?_
 .have Y:=xa1 Y b (aA b);exact wo (h:=wx d (i+1) ⟨wg,wj⟩)
 .have Y:=wa Y b;exact wv (h:=f _ _ wy)
theorem Qv (p:Part):Pua 25 [p.d,p.d] (.bool true):=by
 refine Tz.p0 func25 rfl λQ b Y=>?_;refine wo (h:=aB (zY p.h) wl ?_);refine wo (h:=aK (λa=>zY p.i) (λa=>wl) ?_);exact wo (h:=b _ _ wy)
theorem AW (t:Types)(p:Pattern)(h:Host)(inj:Bool):(eX t p h inj).1.length<=5000:=by
 unfold eX;split
 .simp
 .split
  .simp
  .split
   .simp
   .exact dZ (List.length_filterMap_le _ _) (KF _ _ _ _)
theorem U9 (t:Types)(b:t.ok)(r:Rule)(f:r.ok)(h:Host)(m:Mat){v:Stp26}{e:Int}(a:v=fQ t r h m)(g:e=jJ t r h m):Pua 44 [t.d,r.d,h.d,m.d] (.tup [.agg v.c,dI e]):=by
 subst a g;exact P4 t b r f h m
theorem Fe (t:Types)(q:t.ok)(r:Rule)(A:r.ok)(h:Host):Pua 42 [t.d,r.d,h.d] (.tup [.list ((mU t r h).1.map Mat.c),dI (mU t r h).2]):=by
 refine Tz.pK ⟨λt=>t==11||t==13,λr=>match r with|11=>[(0,11),(1,11),(2,11),(5,11),(6,11),(7,11)]|_=>[]⟩ func42 rfl (λQ x=>?_);have Y:=wa @Host.d.eq_1 @Host.c.eq_1;refine wv (h:=aB (Gf t q r A h) wl ?_);refine dR (λE=>?_) λE=>?_
 .have hS:mU t r h=([],fW t r h):=by unfold mU;rw [if_pos E]
  exact wv (h:=x _ _ (iq hS))
 .refine wv (h:=aB (Ls t q r.left h r.inj) wl ?_);refine dR (λD=>?_) λD=>?_
  .have hS:mU t r h=([],(eX t r.left h r.inj).2):=by unfold mU;rw [if_neg aD,if_pos D]
   exact wv (h:=x _ _ (iq hS))
  .have hS:mU t r h=((eX t r.left h r.inj).1.filter λm=>decide (gM t r h m=0),0):=by unfold mU;rw [if_neg aD,if_neg aD]
   have z:=AW t r.left h r.inj;obtain ⟨L,C⟩:=c7 ((eX t r.left h r.inj).1);rw [<- C] at hS z;have w:∀ m,jJ t r h m=gM t r h m:=λm=>by unfold jJ;rw [if_neg aD]
   have Y:=wa Y (Eq.symm C);refine wv (h:=bA (λi e H=>∃ g:List Mat,(e 3=.adr t.c/\e 4=.adr r.c/\e 5=.adr h.c/\e 9=.list (L.map Mat.c)/\e 11=.own 0 g.length/\e 12=dI i)/\(H.get 0=some ⟨55,3,g.map Mat.c,false⟩)/\(0<H.next)/\(i<=L.length)/\(g=(L.take i).filter λm=>decide (gM t r h m=0))/\(g.length<=i)) (λi=>L.length - i) 0 ⟨([]),wg,wn,wn,wi,(by rfl),(by simp)⟩ λK n i e H u=>?_);obtain ⟨g,I,p,k,J,f,G⟩:=u;have Y:=xa2 Y I p (bS k);refine iY (λo=>?_) λo=>?_
   .obtain ⟨v,F⟩:=c7 (fQ t r h L[i]);obtain ⟨e,B⟩:=c7 (jJ t r h L[i]);obtain ⟨b,a⟩:∃ y,y=g++[L[i]].filter λm=>decide (gM t r h m=0):=⟨_,rfl⟩;have l:gM t r h L[i]=e:=by rw [B,w]
    have Y:=xa2 Y o (aA o) @Mat.c.eq_1;refine wp (h:=aH ((by have s:=U9 t q r A h L[i] F B;simp only [Stp26.c,Rule.c,Mat.c,Host.c,dP,dS] at s;unfold Mat.d Mat.c dLI at s;exact s)) wl ?_);refine iY (λj=>?_) λj=>?_
    .have hm3:b=g++[L[i]]:=by rw [a,KR (by rw [l];simpa using j)];rfl
     have Y:=wa Y hm3;exact wp (h:=wx n (i+1) ⟨b,wg,wn,wn,wj,(by rw [List.take_succ_eq_append_getElem o,fN,<- f,a]),(by rw [hm3];first|(simp;omega)|omega)⟩)
    .have hm3:b=g:=by rw [a,KS (by rw [l];simpa using j)];simp
     have Y:=wa Y hm3;exact wp (h:=wx n (i+1) ⟨b,wg,wn,wn,wj,(by rw [List.take_succ_eq_append_getElem o,fN,<- f,a]),(by rw [hm3];first|(simp;omega)|omega)⟩)
   .rw [aG aD] at f;exact wv (h:=x _ _ (by simp [go_sem,Y,hS,<- f]))
def uP (t:Types)(r:Rule)(h:Host)(most:Nat):List Stp26:=((mU t r h).1.take most).map (fQ t r h)
theorem Xf (l:List Stp26):D.R (l.map Stp26.c)=true:=d9 _ Stp26.Q l
attribute [go_sem] Xf
theorem Va (t:Types)(r:Rule)(h:Host):(mU t r h).1.length<=5000:=by
 unfold mU;split
 .simp
 .split
  .simp
  .exact dZ (jM _ _) (AW _ _ _ _)
theorem P3 (t:Types)(s:t.ok)(r:Rule)(u:r.ok)(h:Host)(a:Nat):Pua 120 [t.d,r.d,h.d,dI a] (.list ((uP t r h a).map Stp26.c)):=by
 refine Tz.pK ⟨λt=>t==11||t==13,λr=>match r with|6=>[(0,11),(1,11),(2,11),(5,11),(6,11),(7,11)]|_=>[]⟩ func120 rfl (λQ z=>?_);obtain ⟨L,o⟩:=c7 ((mU t r h).1);have n:=Va t r h;rw [<- o] at n;have y:uP t r h a=(L.take a).map (fQ t r h):=by unfold uP;rw [o]
 have Y:=xa1 @Host.d.eq_1 @Host.c.eq_1 (Eq.symm o);refine wv (h:=aB (Fe t s r u h) wl ?_);refine wv (h:=bA (λi e H=>∃ b:List Stp26,(e 4=.adr t.c/\e 5=.adr r.c/\e 6=.adr h.c/\e 3=dI a/\e 9=.list (L.map Mat.c)/\e 11=.own 0 b.length/\e 12=dI i)/\(H.get 0=some ⟨57,38,b.map Stp26.c,false⟩)/\(0<H.next)/\(i<=L.length/\i<=a)/\(b=(L.take i).map (fQ t r h))/\(b.length=i)) (λi=>L.length - i) 0 ⟨([]),wg,wn,wn,wi,(by rfl),(by simp)⟩ λD p i e H m=>?_);obtain ⟨b,B,j,f,C,g,w⟩:=m;have Y:=xa2 Y B j (bS f);refine iY (λk=>?_) λk=>?_
 .have hil:i<L.length:=k.1;obtain ⟨v,q⟩:=c7 (fQ t r h L[i]);obtain ⟨e,x⟩:=c7 (jJ t r h L[i]);have Y:=xa3 Y k (aA hil) @Mat.c.eq_1 @Stp26.c.eq_1;refine wp (h:=aH ((by have l:=U9 t s r u h L[i] q x;simp only [Stp26.c,Rule.c,Mat.c,Host.c,dP,dS] at l;unfold Mat.d Mat.c dLI at l;exact l)) wl ?_);exact wp (h:=wx p (i+1) ⟨(b++[v]),wg,wn,wn,wj,(by rw [List.take_succ_eq_append_getElem hil,List.map_append,<- g,q];rfl),ie⟩)
 .have hE:(L.take a).map (fQ t r h)=b:=by
   rw [g];congr 1;by_cases A:i<L.length
   .have:i=a:=by have:=k A;omega
    rw [this]
   .rw [aG aD,aG aD]
  exact wv (h:=z _ _ (by simp [go_sem,Y,y,hE]))
def scnC (t:Types)(h:Host)(inj:Bool):UN:=[.list (t.h.map NodeTy.c),.list (t.i.map EdgeTy.c),dLI h.j.h,.list (h.j.i.map Edge.c),.list (h.k.map cL),.bool inj]
def Xd (n i:Nat):List Bool:=List.replicate i true++List.replicate (n - i) false
theorem Y8 {n i:Nat}(h:i<=n):(Xd n i).length=n:=by simp [Xd];omega
theorem Y7 {n i:Nat}(h:i<n):(Xd n i).set i true=Xd n (i+1):=by
 unfold Xd;rw [nU _ _ aE,fM,vP,show n - i=(n - (i+1))+1 by omega,nE,xH,B5,List.append_assoc];rfl
theorem yO (n:Nat)(m:n<=1000)(at_ a:V2)(p:∀ x∈at_,0<=x/\x<n)(u:at_.length<=a.length):Pua 416 [dI n,dLI at_,dLI a] (dLI (AT n at_ a)):=by
 refine Tz.pK ⟨λt=>t==12,λ_=>[]⟩ func416 rfl (λQ o=>?_);have Y:=trivial;refine wv (h:=kU (II (-1) n m) wl ?_);refine wv (h:=?_);repeat first|intro _|refine ⟨fK,?_⟩
 refine bA (λk e H=>(e 0=dI n/\e 1=dLI at_/\e 2=dLI a/\e 7=.own 0 n/\e 13=dLI at_/\e 14=dI at_.length/\e 15=dI k)/\(H.get 0=some ⟨3,1,(QG at_ a n k).map cI,false⟩)/\(0<H.next)/\(k<=at_.length)/\((QG at_ a n k).length=n)) (λk=>at_.length - k) 0 ⟨wg,(by simp [go_sem,Y,QG,cI]),wn,wi,(by exact DM _ _ _ _)⟩ λv l k e H b=>?_;obtain ⟨q,f,c,r,g⟩:=b;have Y:=xa3 Y q f (bS c) g;refine dR (λd=>?_) λd=>?_
 .have hki:k<a.length:=aD;have s:=p _ (aC d);have j:at_[k]?.getD 0=at_[k]:=by rw [aA d];rfl
  have b:a[k]?.getD 0=a[k]:=by rw [aA hki];rfl
  have i:at_[k].toNat<(QG at_ a n k).length:=aD;have Y:=xa3 Y d (aA d) (aA hki) (aA i);refine wv (h:=?_);repeat first|intro _|refine ⟨fK,?_⟩
  exact wx l (k+1) ⟨wg,(by simp [go_sem,Y,Jf,cW,j,b,cI]),wn,wj,(by exact DM _ _ _ _)⟩
 .have hP:AT n at_ a=QG at_ a n k:=by unfold AT QG;rw [(aD:k=at_.length)]
  exact wv (h:=o _ _ (by simp [go_sem,Y,hP,dLI]))
theorem NW (t:Types)(inj:Bool)(p:Pattern)(h:Host)(m:Part)(T:SOk p h m)(vs:V2)(hl:vs.length<=p.vars.toNat)(hs:∀ v∈vs,-2000000<=v/\v<=2000000) :
  Pua 418 [.agg (scnC t h inj),p.d,m.d,dLI vs] (.tup [dLI (eZ p h m vs).1,.bool (decide ((eZ p h m vs).2=0))]):=by
 have hv:=T.vars;have h0:=PF hv.1 hl hs;have I:NM p vs=(KO vs p.vars.toNat,OA vs.length p.vars.toNat):=by unfold NM;rw [Oz _ _ hl];rfl
 have a4:(p.vars - (vs.length:Int)).toNat=p.vars.toNat - vs.length:=aD;have a3:vs.length+(p.vars.toNat - vs.length)=p.vars.toNat:=aD;have b0:(vs.map cI++List.replicate (p.vars.toNat - vs.length) [D.int .i64 0])=(KO vs p.vars.toNat).map cI:=by simp [KO,cI]
 refine Mu gt (λQ Z=>ACalls.c5 1 (Tz.cK ⟨λt=>t==22||t==11||t==14||t==20,λr=>match r with|1=>[(1,2),(1,3),(1,5)]|_=>[]⟩ func418 rfl ?_));have Y:=xa6 a4 a3 @Pattern.d.eq_1 @Pattern.c.eq_1 @scnC.eq_1 @Part.d.eq_1 @Part.c.eq_1 @Term.c.eq_1;refine wv (h:=?_);repeat first|intro _|refine ⟨fK,?_⟩
 refine nB 0 (gL vs aD) gt rfl (by first|omega|simp [go_sem]) (by simp [lY,oG,Aj,vG]) ij ?_;refine wv (h:=?_);repeat first|intro _|refine ⟨fK,?_⟩
 refine bA (λi e H=>(e 4=.adr (scnC t h inj)/\e 5=.adr p.c/\e 6=.adr m.c/\e 3=dLI vs/\e 10=.own 0 p.vars.toNat/\e 11=.own 10 p.vars.toNat/\e 33=dI vs.length/\e 34=dI i)/\(H.get 0=some ⟨3,1,(KO vs p.vars.toNat).map cI,false⟩)/\(0<H.next)/\(H.get 10=some ⟨4,1,(Xd p.vars.toNat i).map cB,false⟩)/\(10<H.next)/\(i<=vs.length)) (λi=>vs.length - i) 0 ⟨wg,(iv b0),wn,(by simp [go_sem,Xd,cB]),wn,wi⟩ λI0 b8 i e H b3=>?_;obtain ⟨E0,a8,a2,X,L,hi⟩:=b3;have Y:=xa4 Y E0 a8 (bS a2) X (bS L);refine dR (λh4=>?_) λh4=>?_
 .have hTl:=Y8 (n:=p.vars.toNat) (i:=i) aD;have b5:i<(Xd p.vars.toNat i).length:=aD;have b4:((Xd p.vars.toNat i).map cB).set i [.bool true]=(Xd p.vars.toNat (i+1)).map cB:=by rw [<- Y7 aD,cW];rfl
  have Y:=xa3 Y h4 hTl (aA b5) b4;refine wv (h:=?_);repeat first|intro _|refine ⟨fK,?_⟩
  exact wx b8 (i+1) ⟨wg,wn,wn,cl,wn,wj⟩
 .have hie:i=vs.length:=aD;have b6:Xd p.vars.toNat i=OA vs.length p.vars.toNat:=by rw [hie,Oz _ _ hl];rfl
  have Y:=wa Y b6;refine wv (h:=?_);repeat first|intro _|refine ⟨fK,?_⟩
  refine bA (λi e H=>∃ l:V2 × List Bool,(e 4=.adr (scnC t h inj)/\e 5=.adr p.c/\e 6=.adr m.c/\e 3=dLI vs/\e 10=.own 0 p.vars.toNat/\e 11=.own 10 p.vars.toNat/\e 42=.list (p.l.map Slot.c)/\e 43=dI p.l.length/\e 44=dI i)/\(H.get 0=some ⟨3,1,l.1.map cI,false⟩)/\(0<H.next)/\(H.get 10=some ⟨4,1,l.2.map cB,false⟩)/\(10<H.next)/\(i<=p.l.length)/\(StOk p.vars.toNat l)/\(slotsV h m (NM p vs) (p.l.take i)=some l)) (λi=>p.l.length - i) 0 ⟨((KO vs p.vars.toNat,OA vs.length p.vars.toNat)),wg,cl,wn,cl,wn,wi,(by rw [<- I];exact h0),(by rw [I];rfl)⟩ λI2 F i e H b2=>?_;obtain ⟨l,E2,a7,a1,W,K,hi,s,N⟩:=b2;have Y:=xa4 Y E2 a7 (bS a1) W (bS K);refine dR (λG=>?_) λG=>?_
  .obtain ⟨x,hx⟩:=c7 (p.l[i]);have C:x∈p.l:=hx ▸ aC G;have hn:=T.node x C;have u:x.node.toNat<m.h.length:=aD;have hk:=T.b5 _ (aC u);have A:(m.h[x.node.toNat]).toNat<h.k.length:=aD;have ha:=T.J x C;rw [aA u,Option.getD_some,aA A,Option.getD_some] at ha;have E:x.J.toNat<(h.k[(m.h[x.node.toNat]).toNat]).length:=aD;have hV:haveV h m x=h.k[(m.h[x.node.toNat]).toNat][x.J.toNat]:=by unfold haveV;rw [aA u,Option.getD_some,aA A,Option.getD_some,aA E];rfl
   have hb:=T.cQ C;have R:=T.y x C;have z:=s.l1;have O:=s.l2;have c0:=R.1;have c1:=R.2;have o:=vS G N;rw [<- hx] at o;obtain ⟨q,f⟩:∃ y,y=mF h m l x:=⟨_,rfl⟩;have j:StOk p.vars.toNat q:=f ▸ AE s hb R;rw [<- f] at o;have g:¬ 0<=x.y.O->q=l:=λhn=>by rw [f];unfold mF mB;rw [if_neg (iw hn)]
   have J:0<=x.y.O->x.y.O.toNat<l.2.length:=λhn=>by omega
   obtain ⟨kb,a5⟩:=c7 (l.2[x.y.O.toNat]?.getD false);have P:0<=x.y.O\/(¬ 0<=x.y.O/\l.2[x.y.O.toNat]?=none)\/(¬ 0<=x.y.O/\l.2[x.y.O.toNat]?=some kb):=by
    by_cases M:0<=x.y.O
    .exact .inl M
    .right
     cases ho:l.2[x.y.O.toNat]? with
     | none=>exact .inl ⟨M,rfl⟩
     | some b=>rw [ho] at a5;exact .inr ⟨M,by rw [a5];rfl⟩
   rcases P with hc|hc|hc
   .have Y:=xa3 Y G (aA G) (Eq.symm hx) (xb0 (aA u) (aA A) (aA E) (Eq.symm hV) @Slot.c.eq_1 @cL.eq_1 z O @lM @cB.eq_1 hc ((aA (J hc))));refine wv (h:=?_);repeat first|intro _|refine ⟨fK,?_⟩
    refine wq (λV=>?_) λV=>?_
    .have hF:mB l x=true:=by simp only [mB,aM,decide_eq_true_eq,cZ];exact ⟨hc,by simpa [aA (J hc)] using V⟩
     unfold mF at f;rw [if_pos hF] at f;have a9:x.y.O.toNat<l.1.length:=aD;have e1:q.1.map cI=(l.1.map cI).set x.y.O.toNat (cI (haveV h m x - x.y.add)):=by rw [f,cW]
     have e2:q.2.map cB=(l.2.map cB).set x.y.O.toNat (cB true):=by rw [f,cW]
     have b9:D.R ((l.1.map cI).set x.y.O.toNat [D.int .i64 (haveV h m x - x.y.add)])=true:=by have:=sH q.1;rw [e1] at this;exact this
     have Y:=xa5 Y e1 e2 @dLI.eq_1 @cI.eq_1 (aA a9) b9;refine wv (h:=?_);repeat first|intro _|refine ⟨fK,?_⟩
     refine eK (oF x.y q.1 (by rw [j.l1];exact R) j.bq) wr wl rfl ?_;refine wv (h:=?_);repeat first|intro _|refine ⟨fK,?_⟩
     refine wq (λa=>?_) λa=>?_
     .have hR:=fB (o.2 (by first|simpa using a|simpa [g hc.1] using a|simpa [f] using a));exact wv (h:=Z _ _ (iq hR))
     .have hstep:=o.1 (by first|simpa using a|simpa [g hc.1] using a|simpa [f] using a);refine wv (h:=?_);repeat first|intro _|refine ⟨fK,?_⟩
      exact wx F (i+1) ⟨q,wg,cl,wn,cl,wn,wj,(by exact j),(by exact hstep)⟩
    .have hF:¬ mB l x=true:=by simp only [mB,aM,decide_eq_true_eq,cZ];rintro ⟨_,hk⟩;simp [aA (J hc)] at hk;simp [hk] at V
     unfold mF at f;rw [if_neg hF] at f;have Y:=wa Y f;refine wv (h:=eK (oF x.y q.1 (by rw [j.l1];exact R) j.bq) wr wl rfl ?_);refine wv (h:=?_);repeat first|intro _|refine ⟨fK,?_⟩
     refine wq (λa=>?_) λa=>?_
     .have hR:=fB (o.2 (by first|simpa using a|simpa [g hc.1] using a|simpa [f] using a));exact wv (h:=Z _ _ (iq hR))
     .have hstep:=o.1 (by first|simpa using a|simpa [g hc.1] using a|simpa [f] using a);refine wv (h:=?_);repeat first|intro _|refine ⟨fK,?_⟩
      exact wx F (i+1) ⟨q,wg,cl,wn,cl,wn,wj,(by exact j),(by exact hstep)⟩
   .have Y:=xa4 Y G (aA G) (Eq.symm hx) (aA u) (xb0 (aA A) (aA E) (Eq.symm hV) @Slot.c.eq_1 @cL.eq_1 z O @lM @cB.eq_1 hc.1 hc.2 (g hc.1));refine wv (h:=?_);repeat first|intro _|refine ⟨fK,?_⟩
    refine eK (oF x.y q.1 (by rw [j.l1];exact R) j.bq) wr wl rfl ?_;refine wv (h:=?_);repeat first|intro _|refine ⟨fK,?_⟩
    refine wq (λa=>?_) λa=>?_
    .have hR:=fB (o.2 (by first|simpa using a|simpa [g hc.1] using a|simpa [f] using a));exact wv (h:=Z _ _ (iq hR))
    .have hstep:=o.1 (by first|simpa using a|simpa [g hc.1] using a|simpa [f] using a);refine wv (h:=?_);repeat first|intro _|refine ⟨fK,?_⟩
     exact wx F (i+1) ⟨q,wg,cl,wn,cl,wn,wj,(by exact j),(by exact hstep)⟩
   .have Y:=xa4 Y G (aA G) (Eq.symm hx) (aA u) (xb0 (aA A) (aA E) (Eq.symm hV) @Slot.c.eq_1 @cL.eq_1 z O @lM @cB.eq_1 hc.1 hc.2 (g hc.1));refine wv (h:=?_);repeat first|intro _|refine ⟨fK,?_⟩
    refine eK (oF x.y q.1 (by rw [j.l1];exact R) j.bq) wr wl rfl ?_;refine wv (h:=?_);repeat first|intro _|refine ⟨fK,?_⟩
    refine wq (λa=>?_) λa=>?_
    .have hR:=fB (o.2 (by first|simpa using a|simpa [g hc.1] using a|simpa [f] using a));exact wv (h:=Z _ _ (iq hR))
    .have hstep:=o.1 (by first|simpa using a|simpa [g hc.1] using a|simpa [f] using a);refine wv (h:=?_);repeat first|intro _|refine ⟨fK,?_⟩
     exact wx F (i+1) ⟨q,wg,cl,wn,cl,wn,wj,(by exact j),(by exact hstep)⟩
  .rw [aG aD] at N;have S:=qH N;have z:=s.l1;have Y:=wa Y z;refine wv (h:=?_);repeat first|intro _|refine ⟨fK,?_⟩
   refine bA (λk e H=>(e 4=.adr (scnC t h inj)/\e 5=.adr p.c/\e 6=.adr m.c/\e 3=dLI vs/\e 10=.own 0 p.vars.toNat/\e 102=.list (p.G.map Test.c)/\e 103=dI p.G.length/\e 104=dI k)/\(H.get 0=some ⟨3,1,l.1.map cI,false⟩)/\(0<H.next)/\(k<=p.G.length)/\((p.G.take k).all (λx=>BT x l.1)=true)) (λk=>p.G.length - k) 0 ⟨wg,wn,wn,wi,(by rfl)⟩ λI4 b7 k e H b1=>?_;obtain ⟨E4,a6,a0,hk,B⟩:=b1;have Y:=xa2 Y E4 a6 (bS a0);refine dR (λw=>?_) λw=>?_
   .have hX:=T.ef _ (aC w);have Y:=xa2 Y w (aA w) @Test.c.eq_1;refine wv (h:=?_);repeat first|intro _|refine ⟨fK,?_⟩
    refine eK (yM p.G[k] l.1 (by rw [s.l1];exact hX) s.bq) wr wl rfl ?_;refine wv (h:=?_);repeat first|intro _|refine ⟨fK,?_⟩
    refine wq (λU=>?_) λU=>?_
    .have hR:eZ p h m vs=([],16):=by
      rw [S,if_neg];intro ha;rw [cF] at ha;have:=ha _ (aC w);simp [this] at U
     exact wv (h:=Z _ _ (iq hR))
    .refine wv (h:=?_);repeat first|intro _|refine ⟨fK,?_⟩
     exact wx b7 (k+1) ⟨wg,wn,wn,wj,(by rw [List.take_succ_eq_append_getElem w,sK,B];simp;simpa using U)⟩
   .rw [aG aD] at B;rw [if_pos B] at S;exact wv (h:=Z _ _ (by simp [go_sem,Y,S,dLI]))
theorem E9 (t:Types)(K:t.ok)(p:Pattern)(c:Cond)(u:ExOk t p c.map c.o)(h:Host)(L:HostOk t h)(m:Mat)(w:MatOk t p h m)(inj:Bool) :
  Pua 410 [.agg (scnC t h inj),.agg c.c,m.d] (.tup [.list ((At t c.map c.o h m inj).1.map Mat.c),dI (At t c.map c.o h m inj).2]):=by
 obtain ⟨⟨R,P⟩,D,C⟩:=u.b5;have k:=bK u.pq.gg;have N:=w.gl.len;have M:=w.gl.ci;refine Tz.pK ⟨λt=>t==8||t==9||t==12||t==14,λr=>match r with|2=>[(0,21),(1,21),(2,21),(3,21),(4,21),(5,21),(6,21),(7,21),(8,21),(9,21),(10,21),(11,21),(12,21),(13,21),(14,21),(15,21),(16,21),(17,21),(18,21),(19,21)]|_=>[]⟩ func410 rfl (λQ G=>?_);obtain ⟨X,z⟩:=c7 (pA t c.o.j h.j (qR c.map c.o m.m) inj);have F:∀ x∈X.1,MOk t c.o.j h.j x:=λx J=>J5 (z ▸ J);have S:X.1.length<=5000:=z ▸ UO _ _ _ _ _;have A:m.vars.length<=c.o.vars.toNat:=by have:=w.vl;have:=u.pv;have:=u.p0;omega
 have g:At t c.map c.o h m inj=if X.2≠0 then ([],X.2) else (tI c.o h m.vars X.1,0):=by unfold At;rw [<- z]
 have Y:=xa2 @Cond.A @scnC.eq_1 @Mat.d.eq_1 @Mat.c.eq_1;refine wp (h:=aH (yO c.o.j.h.length aD c.map.h m.m.h D aD) wl ?_);refine wp (h:=aH (yO c.o.j.i.length aD c.map.i m.m.i C aD) wl ?_);refine wp (h:=aB ((by have k:=Lb t K c.o.j h.j (qR c.map c.o m.m) inj;rw [<- z] at k;unfold qR Types.d Types.c Graph.d Graph.c Part.d Part.c dLI at k;exact k)) wl ?_);refine iY (λI=>?_) λI=>?_
 .rw [if_pos I] at g;exact wv (h:=G _ _ (iq g))
 .rw [if_neg aD] at g;refine wp (h:=bA (λi e H=>∃ j:List Mat,(e 3=.adr (scnC t h inj)/\e 4=.adr c.c/\e 5=.adr m.c/\e 57=.list (X.1.map Part.c)/\e 58=dI X.1.length/\e 12=.own 24 j.length/\e 59=dI i)/\(H.get 24=some ⟨55,3,j.map Mat.c,false⟩)/\(24<H.next)/\(i<=X.1.length)/\(j=tI c.o h m.vars (X.1.take i))/\(j.length<=i)) (λi=>X.1.length - i) 0 ⟨([]),wg,wn,wn,wi,(by rfl),(by simp)⟩ λV s i e H E=>?_);obtain ⟨j,T,o,l,U,f,O⟩:=E;have Y:=xa2 Y T o (bS l);refine dR (λq=>?_) λq=>?_
  .obtain ⟨v,B⟩:=c7 (eZ c.o h X.1[i] m.vars);obtain ⟨b,a⟩:∃ y,y=j++if v.2=0 then [(⟨X.1[i],v.1⟩:Mat)] else []:=⟨_,rfl⟩
   have Y:=xa3 Y q (aA q) @Part.c.eq_1 @Pattern.c.eq_1;refine wp (h:=aB ((by have k:=NW t inj c.o h X.1[i] (Zg u.pq L (F _ (aC q))) m.vars A w.vs;rw [<- B] at k;unfold scnC Pattern.d Pattern.c Part.d Part.c dLI at k;exact k)) wl ?_);refine iY (λn=>?_) λn=>?_
   .have hm3:b=j++[⟨X.1[i],v.1⟩]:=by rw [a,if_pos (bY n)]
    have Y:=wa Y hm3;exact wp (h:=wx s (i+1) ⟨b,wg,wn,wn,wj,(by rw [List.take_succ_eq_append_getElem q,nY,<- f,<- B];exact a),(by rw [a];split<;>simp<;>omega)⟩)
   .have hm3:b=j:=by rw [a,if_neg (bY n),dU]
    have Y:=wa Y hm3;exact wp (h:=wx s (i+1) ⟨b,wg,wn,wn,wj,(by rw [List.take_succ_eq_append_getElem q,nY,<- f,<- B];exact a),(by rw [a];split<;>simp<;>omega)⟩)
  .rw [aG aD] at f;exact wv (h:=G _ _ (by simp [go_sem,Y,g,<- f]))
def Sl (t:Types)(h:Host)(inj:Bool)(c:Cond)(m:Mat):Prf × Int:=if (qE t h inj c m).2=0 then qE t h inj c m else (kP,(qE t h inj c m).2)
def KV (W:Prf × Int):Prf × Int:=if W.2=0 then W else (kP,W.2)
theorem W2 (t:Types)(h:Host)(inj:Bool)(c:Cond)(m:Mat):Sl t h inj c m=KV (qE t h inj c m):=rfl
theorem ES (t:Types)(h:Host)(inj:Bool)(c:Cond)(m:Mat):∃ wc wm wk we,Sl t h inj c m=(Prf.mk wc wm wk,we)/\(qE t h inj c m).2=we/\(we=0->qE t h inj c m=(Prf.mk wc wm wk,we)):=by
 cases d:Sl t h inj c m with
 | mk a b =>
  cases a with
  | mk wc wm wk =>
   refine ⟨wc,wm,wk,b,rfl,?_,?_⟩
   .unfold Sl at d;split at d
    .rw [d]
    .exact congrArg Prod.snd d
   .intro h0;unfold Sl at d;split at d
    .exact d
    .rename_i h1;have:=congrArg Prod.snd d;simp only at this;exact absurd (this.trans h0) h1
theorem Ix (t:Types)(ht:t.ok)(h:Host)(M:HostOk t h)(inj:Bool)(c:Cond)(p:Pattern)(P:CondV t p c)(hp:PatOk t p)(f:c.D=5)
  (V:∀ k∈c.u,∀ m:Mat,MatOk t c.o h m->Pua 331 [.agg (scnC t h inj),.agg k.c,m.d] (.tup [.agg (Sl t h inj k m).1.c,dI (Sl t h inj k m).2])) (m:Mat) (N:MatOk t p h m) :
  Pua 379 [.agg (scnC t h inj),.agg c.c,m.d] (.tup [.agg (Sl t h inj c m).1.c,dI (Sl t h inj c m).2]):=by
 obtain ⟨J,a0⟩:=P.dl;have o:=Dh t h inj c m;rw [W2];obtain ⟨W,I⟩:=c7 (qE t h inj c m);rw [<- I] at o ⊢;obtain ⟨O,a1⟩:=P.ex f hp;have C:0<c.u.length:=by have:=J (.inr f);omega
 obtain ⟨w,b⟩:∃ k,k=c.u[0]:=⟨_,rfl⟩;have D:w∈c.u:=b ▸ aC C;obtain ⟨X,G⟩:=c7 (At t c.map c.o h m inj);have F:∀ x∈X.1,MatOk t c.o h x:=G ▸ UP O M N;rw [if_neg aD,if_neg aD,if_neg aD,if_pos f,BE C,<- b,<- G] at o;refine qP gt (λQ y=>(Tz.cK ⟨λt=>t==6||t==11||t==12,λr=>match r with|7=>[(0,10),(1,10),(2,10),(3,10),(4,10),(5,10),(6,10)]|_=>[]⟩ func379 rfl ?_));have Y:=xa6 @Cond.A @scnC.eq_1 @Mat.d.eq_1 @Mat.c.eq_1 @Prf.A (aA C) (Eq.symm b) f;refine wv (h:=aB ((by have g:=E9 t ht p c O h M m N inj;rw [<- G,Cond.A,f] at g;unfold scnC Mat.d Mat.c dLI dI at g;exact g)) wl ?_);refine dR (λA=>?_) λA=>?_
 .rw [if_pos (bY A)] at o;have j:KV W=(kP,X.2):=by rw [o];unfold KV;rw [if_neg (bY A)]
  refine wv (h:=?_);exact y _ _ (by simp [go_sem,Y,j,kP,jQ,Prf.A,mK,iI,eW,dLI,eQ,gQ])
 .rw [if_neg (bY A)] at o;refine wv (h:=?_);repeat first|intro _|refine ⟨fK,?_⟩
  refine bA (λi e H=>(e 3=.adr (scnC t h inj)/\e 4=.adr c.c/\e 5=.adr m.c/\e 6=.ptr 0 1 0 0/\e 25=.list (X.1.map Mat.c)/\e 26=dI X.1.length/\e 27=dI i)/\(H.get 0=some ⟨299,5,[[dI 0,.nil,.nil,.nil,.nil]],false⟩)/\(0<H.next)/\(i<=X.1.length)/\(ZM ((X.1.drop i).map λx=>(x,qE t h inj w x))=W)) (λi=>X.1.length - i) 0 ⟨wg,wn,wn,wi,(by exact o.symm)⟩ λI0 K i e H E=>?_;obtain ⟨E0,v,s,hi,z⟩:=E;have Y:=xa2 Y E0 v (bS s);refine dR (λf=>?_) λf=>?_
  .obtain ⟨T,R,S,q,Z,u,B⟩:=ES t h inj w X.1[i];have l:i<X.1.length:=f;have a:=z;rw [yL _ l] at a;simp only [ZM] at a;have U:=Sk H.next;have Y:=xa2 Y f (aA l) U;refine wv (h:=?_);repeat first|intro _|refine ⟨fK,?_⟩
   refine aH ((by have g:=V w D X.1[i] (F _ (aC l));simp only [Z,Prf.A,Cond.A] at g;unfold scnC Mat.d Mat.c dLI dI at g;exact g)) wl ?_;refine wv (h:=?_);repeat first|intro _|refine ⟨fK,?_⟩
   refine wq (λL=>?_) λL=>?_
   .have h8':q=0:=by simpa using L
    rw [B h8'] at a;simp only at a;rw [if_pos aD] at a;have j:KV W=(Prf.mk 0 X.1[i] [Prf.mk T R S],0):=by rw [<- a,h8'];rfl
    refine wv (h:=?_);exact y _ _ (by simp [go_sem,Y,j,kP,jQ,Prf.A,mK,iI,eW,dLI,eQ,gQ])
   .have h8':q≠0:=by simpa using L
    refine dR (λn=>?_) λn=>?_
    .have h10':q≠10:=by simpa using n
     rw [u,if_pos h10'] at a;have j:KV W=(kP,q):=by rw [<- a];unfold KV;rw [if_neg h8']
     refine wv (h:=?_);exact y _ _ (by simp [go_sem,Y,j,kP,jQ,Prf.A,mK,iI,eW,dLI,eQ,gQ])
    .have h10':q=10:=by simpa using n
     rw [u,if_neg aD] at a;refine wv (h:=?_);repeat first|intro _|refine ⟨fK,?_⟩
     exact wx K (i+1) ⟨wg,wn,wn,wj,(by exact a)⟩
  .rw [kL aD] at z;simp only [j7,ZM] at z;have j:KV W=(kP,10):=by rw [<- z];rfl
   have Y:=wa Y f;refine wv (h:=?_);exact y _ _ (by simp [go_sem,Y,j,kP,jQ,Prf.A,mK,iI,eW,dLI,eQ,gQ])
theorem Lc (t:Types)(ht:t.ok)(h:Host)(ho:HostOk t h)(inj:Bool):∀ (c:Cond) (p:Pattern),CondV t p c->PatOk t p->∀ m:Mat,MatOk t p h m ->
  Pua 331 [.agg (scnC t h inj),.agg c.c,m.d] (.tup [.agg (Sl t h inj c m).1.c,dI (Sl t h inj c m).2]):=by
 refine l5 λc ih p E S m hm=>?_;obtain ⟨a6,b1⟩:=E.dl;have T:c.u.length<=1000000:=by have:=Rd c.u;have:=yZ c;have:=E.Y;omega
 have D:c.D=5->Pua 379 [.agg (scnC t h inj),.agg c.c,m.d] (.tup [.agg (Sl t h inj c m).1.c,dI (Sl t h inj c m).2]):=λF=>by
  obtain ⟨hE,v⟩:=E.ex F S;exact Ix t ht h ho inj c p E S F (λk hk m' a1=>ih k hk c.o (v k hk) hE.pq m' a1) m hm
 have j:=Dh t h inj c m;rw [W2] at D ⊢;obtain ⟨W,a5⟩:=c7 (qE t h inj c m);rw [<- a5] at j D ⊢;refine qP gt (λQ y=>(Tz.cK ⟨λt=>t==6||t==8||t==10||t==12||t==13||t==16||t==17,λr=>match r with|3=>[(0,10),(1,10),(2,10),(3,10),(4,10),(5,10),(6,10)]|_=>[]⟩ func331 rfl ?_));have Y:=xa3 @Cond.A @scnC.eq_1 @Mat.d.eq_1 @Mat.c.eq_1 @Prf.A;refine dR (λh2=>?_) λh2=>?_
 .have h2':c.D=2:=by simpa using h2
  have hl:0<c.u.length:=by have:=a6 (.inl h2');omega
  obtain ⟨k0,u⟩:∃ k,k=c.u[0]:=⟨_,rfl⟩;have U:k0∈c.u:=u ▸ aC hl;have a9:=E.eT aD k0 U;obtain ⟨wc,wm,wk,q,R,n,A⟩:=ES t h inj k0 m;rw [if_pos h2',BE hl,<- u,n] at j;unfold Zx at j;have Y:=xa2 Y (aA hl) (Eq.symm u) h2';refine wp (h:=aH ((by have o:=ih k0 U p a9 S m hm;simp only [R,Prf.A,Cond.A] at o;unfold scnC Mat.d Mat.c dLI dI at o;exact o)) wl ?_);refine iY (λF=>?_) λF=>?_
  .rw [if_pos (bY F)] at j;have l:KV W=(kP,10):=by rw [j];rfl
   refine wv (h:=?_);exact y _ _ (by simp [go_sem,Y,l,kP,jQ,Prf.A,mK,iI,eW,dLI,eQ,gQ])
  .rw [if_neg (bY F)] at j;refine dR (λh7=>?_) λh7=>?_
   .rw [if_pos (bY h7)] at j;have l:KV W=(kP,0):=by rw [j];rfl
    refine wv (h:=?_);exact y _ _ (by simp [go_sem,Y,l,kP,jQ,Prf.A,mK,iI,eW,dLI,eQ,gQ])
   .rw [if_neg (bY h7)] at j;have l:KV W=(kP,q):=by rw [j];unfold KV;rw [if_neg (bY F)]
    refine wv (h:=?_);exact y _ _ (by simp [go_sem,Y,l,kP,jQ,Prf.A,mK,iI,eW,dLI,eQ,gQ])
 .have h2':c.D≠2:=by simpa using h2
  rw [if_neg h2'] at j;refine dR (λL=>?_) λL=>?_
  .have h10':c.D=3:=by simpa using L
   have v:=E.eT aD;rw [if_pos h10'] at j;have Y:=wa Y h10';refine wp (h:=l9 (Ghosts.step (Ghosts.refl _) 1 0 4 299 5 _ _ (ig) rfl rfl rfl) (λi e H=>∃ C:List Prf,(e 3=.adr (scnC t h inj)/\e 4=.adr c.c/\e 5=.adr m.c/\e 6=.ptr 0 1 0 0/\e 20=dI c.D/\e 10=.ptr 1 1 0 0/\e 45=.list (c.u.map Cond.c)/\e 46=dI c.u.length/\e 47=dI i)/\(H.get 0=some ⟨299,5,[[dI 0,.nil,.nil,.nil,.nil]],false⟩)/\(0<H.next)/\(H.get 1=some ⟨299,5,[[dI 0,.nil,.nil,.nil,.own 2 C.length]],false⟩)/\(1<H.next)/\(H.get 2=some ⟨299,5,C.map Prf.c,false⟩)/\(2<H.next)/\(i<=c.u.length)/\(O4 ((c.u.drop i).map λk=>qE t h inj k m) C=W)/\(C.length<=i)/\(c.u.length<=1000000)) (λi=>c.u.length - i) 0 ⟨([]),wg,wn,wn,wn,wn,wn,wn,wi,(by exact j.symm),aE,(by exact T)⟩ λI2 a8 i e H a4=>?_);obtain ⟨C,E2,a0,P,X,N,V,M,hi,B,b0,a2⟩:=a4;have Y:=xa6 Y E2 a0 (bS P) X (bS N) V (bS M);refine dR (λx=>?_) λx=>?_
   .obtain ⟨z,g⟩:∃ k,k=c.u[i]:=⟨_,rfl⟩;have s:z∈c.u:=g ▸ aC x;obtain ⟨wc,wm,wk,q,R,n,A⟩:=ES t h inj z m;have f:=B;rw [yL _ x,<- g] at f;simp only [O4] at f;have Y:=xa2 Y x (aA x) (Eq.symm g);refine wp (h:=aB ((by have o:=ih z s p (v z s) S m hm;simp only [R,Prf.A,Cond.A] at o;unfold scnC Mat.d Mat.c dLI dI at o;exact o)) wl ?_);refine iY (λK=>?_) λK=>?_
    .have h16':q≠0:=by simpa using K
     rw [n,if_pos h16'] at f;have l:KV W=(kP,q):=by rw [<- f];unfold KV;rw [if_neg h16']
     refine wv (h:=?_);exact y _ _ (by simp [go_sem,Y,l,kP,jQ,Prf.A,mK,iI,eW,dLI,eQ,gQ])
    .have h16':q=0:=by simpa using K
     rw [n,if_neg aD,A h16'] at f;exact wp (h:=wx a8 (i+1) ⟨(C++[.mk wc wm wk]),wg,wn,wn,wn,wn,wn,wn,wj,(by exact f),ie,(by exact a2)⟩)
   .rw [kL aD] at B;simp only [j7,O4] at B;have l:KV W=(.mk 0 jQ C,0):=by rw [<- B];rfl
    refine wv (h:=?_);exact y _ _ (by simp [go_sem,Y,l,kP,jQ,Prf.A,mK,iI,eW,dLI,eQ,gQ])
  .have h10':c.D≠3:=by simpa using L
   rw [if_neg h10'] at j;refine dR (λJ=>?_) λJ=>?_
   .have h21':c.D=4:=by simpa using J
    have v:=E.eT aD;rw [if_pos h21'] at j;have Y:=wa Y h21';refine wp (h:=bA (λi e H=>(e 3=.adr (scnC t h inj)/\e 4=.adr c.c/\e 5=.adr m.c/\e 6=.ptr 0 1 0 0/\e 20=dI c.D/\e 73=.list (c.u.map Cond.c)/\e 74=dI c.u.length/\e 75=dI i)/\(H.get 0=some ⟨299,5,[[dI 0,.nil,.nil,.nil,.nil]],false⟩)/\(0<H.next)/\(i<=c.u.length)/\(Zq ((c.u.drop i).map λk=>qE t h inj k m) i=W)) (λi=>c.u.length - i) 0 ⟨wg,wn,wn,wi,(by exact j.symm)⟩ λI4 a7 i e H a3=>?_);obtain ⟨E4,Z,O,hi,B⟩:=a3;have Y:=xa2 Y E4 Z (bS O);refine dR (λw=>?_) λw=>?_
    .obtain ⟨z,g⟩:∃ k,k=c.u[i]:=⟨_,rfl⟩;have s:z∈c.u:=g ▸ aC w;obtain ⟨wc,wm,wk,q,R,n,A⟩:=ES t h inj z m;have f:=B;rw [yL _ w,<- g] at f;simp only [Zq] at f;have Y:=xa2 Y w (aA w) (Eq.symm g);refine wp (h:=aB ((by have o:=ih z s p (v z s) S m hm;simp only [R,Prf.A,Cond.A] at o;unfold scnC Mat.d Mat.c dLI dI at o;exact o)) wl ?_);refine iY (λRn=>?_) λRn=>?_
     .have h26':q=0:=by simpa using Rn
      rw [A h26'] at f;simp only at f;rw [if_pos aD] at f;have l:KV W=(.mk i jQ [.mk wc wm wk],0):=by rw [<- f,h26'];rfl
      refine wv (h:=?_);exact y _ _ (by simp [go_sem,Y,l,kP,jQ,Prf.A,mK,iI,eW,dLI,eQ,gQ])
     .have h26':q≠0:=by simpa using Rn
      refine dR (λI=>?_) λI=>?_
      .have h28':q≠10:=by simpa using I
       rw [n,if_pos h28'] at f;have l:KV W=(kP,q):=by rw [<- f];unfold KV;rw [if_neg h26']
       refine wv (h:=?_);exact y _ _ (by simp [go_sem,Y,l,kP,jQ,Prf.A,mK,iI,eW,dLI,eQ,gQ])
      .have h28':q=10:=by simpa using I
       rw [n,if_neg aD] at f;exact wp (h:=wx a7 (i+1) ⟨wg,wn,wn,wj,(by exact f)⟩)
    .rw [kL aD] at B;simp only [j7,Zq] at B;have l:KV W=(kP,10):=by rw [<- B];rfl
     refine wv (h:=?_);exact y _ _ (by simp [go_sem,Y,l,kP,jQ,Prf.A,mK,iI,eW,dLI,eQ,gQ])
   .have h21':c.D≠4:=by simpa using J
    rw [if_neg h21'] at j;refine dR (λG=>?_) λG=>?_
    .have h32':c.D=5:=by simpa using G
     obtain ⟨vc,vm,vk,ve,hV⟩:∃ vc vm vk ve,KV W=(Prf.mk vc vm vk,ve):=by
      cases hh:KV W with
      | mk a b=>cases a;exact ⟨_,_,_,_,rfl⟩
     have Y:=wa Y h32';refine wv (h:=aB ((by have o:=D h32';simp only [hV,Prf.A,Cond.A,h32'] at o;unfold scnC Mat.d Mat.c dLI dI at o;exact o)) wl ?_);refine wv (h:=?_);exact y _ _ (by simp [go_sem,Y,hV,kP,jQ,Prf.A,mK,iI,eW,dLI,eQ,gQ])
    .have h32':c.D≠5:=by simpa using G
     rw [if_neg h32'] at j;have l:KV W=(kP,0):=by rw [j];rfl
     refine wv (h:=?_);exact y _ _ (by simp [go_sem,Y,l,kP,jQ,Prf.A,mK,iI,eW,dLI,eQ,gQ])
def ZY (t:Types)(p:Pattern)(c:Cond)(h:Host)(m:Mat)(inj:Bool):Int :=
 if condF t p c≠0 then condF t p c
 else if fG t h≠0 then fG t h
 else if checkE t p.j h.j m.m inj≠0 then checkE t p.j h.j m.m inj
 else if (eG t p h m.m).2≠0 then (eG t p h m.m).2
 else if (eG t p h m.m).1≠m.vars then 11 else 0
theorem Hl (t:Types)(f:t.ok)(p:Pattern)(c:Cond)(n:c.ok)(l:c.size<=1000000)(h:Host)(m:Mat)(inj:Bool):Pua 330 [t.d,p.d,.agg c.c,h.d,m.d,.bool inj] (dI (ZY t p c h m inj)):=by
 refine Tz.p0 func330 rfl λQ e _=>?_;have Y:=xa7 @Cond.A @Pattern.d.eq_1 @Pattern.c.eq_1 @Host.d.eq_1 @Host.c.eq_1 @Mat.d.eq_1 @Mat.c.eq_1 @Graph.c.eq_1 @Part.c.eq_1;refine wv (h:=aB ((by have g:=Ad t f p c n l;rw [Cond.A] at g;unfold Types.d Types.c Pattern.d Pattern.c dLI dI at g;exact g)) wl ?_);refine dR (λk=>?_) λk=>?_
 .have hM:ZY t p c h m inj=condF t p c:=by unfold ZY;rw [if_pos k]
  exact wv (h:=e _ _ (iq hM))
 .have hM:ZY t p c h m inj=if fG t h≠0 then fG t h else if checkE t p.j h.j m.m inj≠0 then checkE t p.j h.j m.m inj else if (eG t p h m.m).2≠0 then (eG t p h m.m).2 else if (eG t p h m.m).1≠m.vars then 11 else 0:=by unfold ZY;rw [if_neg (bY k)]
  refine wv (h:=aB (CS t f h) wl ?_);refine dR (λj=>?_) λj=>?_
  .have h5':fG t h≠0:=j;rw [if_pos h5'] at hM;exact wv (h:=e _ _ (by simp [go_sem,hM,fG]))
  .have h5':¬ fG t h≠0:=by unfold fG;simpa using j
   rw [if_neg h5'] at hM;refine wv (h:=aB (y3 t f p.j h.j m.m inj) wl ?_);refine dR (λi=>?_) λi=>?_
   .rw [if_pos (bY i)] at hM;exact wv (h:=e _ _ (iq hM))
   .rw [if_neg (bY i)] at hM;refine wv (h:=aB (Ai t f p h m.m) wl ?_);refine dR (λb=>?_) λb=>?_
    .rw [if_pos (bY b)] at hM;exact wv (h:=e _ _ (iq hM))
    .rw [if_neg (bY b)] at hM;refine wp (h:=aB (mP (eG t p h m.m).1 m.vars) wl ?_);refine iY (λa=>?_) λa=>?_
     .rw [if_pos (bY a)] at hM;exact wv (h:=e _ _ (iq hM))
     .rw [if_neg (bY a)] at hM;exact wv (h:=e _ _ (iq hM))
theorem Ex (t:Types)(e:t.ok)(p:Pattern)(c:Cond)(n:c.ok)(f:CondV t p c)(j:PatOk t p)(h:Host)(k:HostOk t h)(m:Mat)(l:MatOk t p h m)(inj:Bool)(q:ZY t p c h m inj=0) :
  Pua 249 [t.d,p.d,.agg c.c,h.d,m.d,.bool inj] (.tup [.agg (Sl t h inj c m).1.c,dI (Sl t h inj c m).2]):=by
 obtain ⟨v,r,s,u,b,i,g⟩:=ES t h inj c m;refine qP gt (λQ o=>(Tz.cK ⟨λt=>t==12,λ_=>[]⟩ func249 rfl ?_));have Y:=xa7 @Cond.A @scnC.eq_1 @Pattern.d.eq_1 @Pattern.c.eq_1 @Host.d.eq_1 @Host.c.eq_1 @Mat.d.eq_1 @Mat.c.eq_1 @Prf.A;refine wv (h:=aB ((by have a:=Hl t e p c n f.Y h m inj;rw [q,Cond.A] at a;unfold Types.d Types.c Pattern.d Pattern.c Host.d Host.c Mat.d Mat.c dLI dI at a;exact a)) wl ?_);refine wv (h:=aB ((by have a:=Lc t e h k inj c p f j m l;simp only [b,Prf.A,Cond.A] at a;unfold scnC Mat.d Mat.c dLI dI at a;exact a)) wl ?_);refine wv (h:=?_);exact o _ _ (by simp [go_sem,Y,b,Prf.A,mK,iI,eW,dLI,eQ,gQ])
theorem BY (t:Types)(l:t.ok)(p:Pattern)(c:Cond)(r:c.ok)(s:CondV t p c)(n:PatOk t p)(h:Host)(o:HostOk t h)(m:Mat)(q:MatOk t p h m)(inj:Bool)(u:ZY t p c h m inj=0) :
  Pua 156 [t.d,p.d,.agg c.c,h.d,m.d,.bool inj] (.tup [.bool (mJ t h inj c m).1,dI (mJ t h inj c m).2]):=by
 obtain ⟨x,v,w,b,k,e,j⟩:=ES t h inj c m;have a:mJ t h inj c m=if b=10 then (false,0) else (decide (b=0),b):=by unfold mJ ND;rw [e]
 refine Tz.pK ⟨λt=>t==14,λ_=>[]⟩ func156 rfl (λQ i=>?_);have Y:=xa6 @Cond.A @Pattern.d.eq_1 @Pattern.c.eq_1 @Host.d.eq_1 @Host.c.eq_1 @Mat.d.eq_1 @Mat.c.eq_1 @Prf.A;refine wv (h:=aB ((by have f:=Ex t l p c r s n h o m q inj u;simp only [k,Prf.A,Cond.A] at f;unfold Types.d Types.c Pattern.d Pattern.c Host.d Host.c Mat.d Mat.c dLI dI at f;exact f)) wl ?_);refine dR (λg=>?_) λg=>?_
 .rw [if_pos (bY g)] at a;exact wv (h:=i _ _ (iq a))
 .rw [if_neg (bY g)] at a;exact wv (h:=i _ _ (by simp [go_sem,a,Ea]))
end Go.Abs
end
