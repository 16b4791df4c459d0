/- The rules of drafts; the host of a draft. · Few and Light of -/
import Derived.Test.YtbgbahlipnaflaaGreatZvAG
import Derived.Test.YtbgbahlipnaflaaGreatZvAA
import Derived.Test.YtbgbahlipnaflaaGreatZvAM
import Derived.Test.YtbgbahlipnaflaaGreatZvAF
import Derived.Maps.RangeWalk
import Derived.DeepKeys4
set_option linter.unusedVariables false
set_option linter.unusedSimpArgs false
section
set_option maxRecDepth 100000
set_option maxHeartbeats 4000000
open Go Go.Proofs Tryz
namespace Go.Abs
structure Host where
 j:Graph
 k:Yb
def Host.c (h:Host):UN:=[dLI h.j.h,.list (h.j.i.map Edge.c),.list (h.k.map cL)]
def Host.d (h:Host):D:=.agg h.c
@[go_sem] theorem ac0 (l:Yb):D.R (l.map cL)=true:=d9 _ (λa=>by simp [cL,D.L,rA]) l
@[go_sem] theorem Host.Q (h:Host):h.d.Q=true:=by simp [Host.d,Host.c,D.Q,D.L,rA,ac0,yJ]
structure Dr15 where
 h:List B2
 i:List B3
def Dr15.c (d:Dr15):UN:=[.list (d.h.map cP),.list (d.i.map cT3)]
@[go_sem] theorem Dr15.Q (d:Dr15):D.L d.c=true:=by simp [Dr15.c,D.L,D.Q,YA,EA]
def T8 (l:List Attr)(b:UInt8)(k:Nat):Int:=match l[k]? with|some a=>a.ao+((b.toNat:Int)+7 * (k:Int)).tmod (a.az - a.ao+1)|none=>0
def wX (l:List Attr)(b:UInt8)(k:Nat):V2:=(List.range k).map (T8 l b)
def Fv (t:Types)(x:B2):Int:=Cp (sZ t) x.1
def Ui (t:Types)(x:B2):V2:=wX (bL t (Fv t x)) x.2 (bL t (Fv t x)).length
def G9 (t:Types)(ds:List B2)(k:Nat):V2:=(List.range k).map λi=>Fv t (qU ds i)
def HT (t:Types)(ds:List B2)(k:Nat):Yb:=(List.range k).map λi=>Ui t (qU ds i)
def Ou (t:Types)(d:Dr15):Host :=
 ⟨⟨G9 t d.h (if (sZ t).length=0 then 0 else min d.h.length 8),
  W0 t (G9 t d.h (if (sZ t).length=0 then 0 else min d.h.length 8)) [] d.i (if (G9 t d.h (if (sZ t).length=0 then 0 else min d.h.length 8)).length=0\/t.i.length=0 then 0 else min d.i.length 10)⟩,
  HT t d.h (if (sZ t).length=0 then 0 else min d.h.length 8)⟩
theorem Pl (l:List Attr)(b:UInt8)(k:Nat):wX l b (k+1)=wX l b k++[T8 l b k]:=by simp [wX,bR]
theorem HV (l:List Attr)(b:UInt8)(k:Nat):(wX l b k).length=k:=by simp [wX]
theorem V6 (t:Types)(ds:List B2)(k:Nat):G9 t ds (k+1)=G9 t ds k++[Fv t (qU ds k)]:=by simp [G9,bR]
theorem QR (t:Types)(ds:List B2)(k:Nat):(G9 t ds k).length=k:=by simp [G9]
theorem Vh (t:Types)(ds:List B2)(k:Nat):HT t ds (k+1)=HT t ds k++[Ui t (qU ds k)]:=by simp [HT,bR]
theorem Pj (t:Types)(ds:List B2)(k:Nat):(HT t ds k).length=k:=by simp [HT]
theorem S3 (t:Types)(ht:t.b6)(d:Dr15):Pua 111 [t.d,.agg d.c] (Ou t d).d:=by
 have d6:=ht.ok.bz;have d7:=ht.ok.cV;obtain ⟨C,hC⟩:=dH (sZ t);refine Tz.pK ⟨λt=>t==4||t==5||t==15||t==53||t==11,λr=>match r with|13=>[(0,4),(1,4),(2,4),(4,6),(5,6),(4,7),(5,7),(0,9),(1,9),(2,9),(4,9),(5,9),(6,9),(7,9),(9,11),(10,11),(9,12),(10,12)]|18=>[(0,30),(1,30),(3,30),(4,30),(5,30),(7,30),(8,30),(9,30),(11,30),(12,30),(14,30),(15,30),(16,30),(20,30),(21,30),(23,30),(24,30),(25,30)]|_=>[]⟩ func111 rfl (λQ hQ=>?_);have Y:=@Dr15.c.eq_1;refine wv (h:=aB ((by have hq:=IS t aD;rw [hC] at hq;exact hq)) wl ?_);refine wv (h:=l9 (Ghosts.step (Ghosts.step (Ghosts.refl _) 1 0 0 3 1 _ _ (rfl) rfl rfl rfl) 1 0 2 26 1 _ _ ((by simp [go_sem,Y]:AHeap.get _ _=some ⟨44,3,[[.own 2 0,.nil,.nil]],false⟩)) rfl rfl rfl) (λi e H=>(e 2=.adr t.c/\e 3=.adr d.c/\e 4=.ptr 0 1 0 0/\e 5=.ptr 1 1 0 0/\e 6=dLI C/\e 7=dI i)/\(H.get 0=some ⟨44,3,[[.nil,.nil,.nil]],false⟩)/\(0<H.next)/\(H.get 1=some ⟨44,3,[[.own 2 i,.nil,.own 3 i]],false⟩)/\(1<H.next)/\(H.get 2=some ⟨3,1,(G9 t d.h i).map cI,false⟩)/\(2<H.next)/\(H.get 3=some ⟨26,1,(HT t d.h i).map cL,false⟩)/\(3<H.next)/\(i<=8)/\(i<=d.h.length)/\(C.length=0->i=0)/\((G9 t d.h i).length=i)/\((HT t d.h i).length=i)) (λi=>8 - i) 0 ⟨wg,wn,wn,wn,wn,(by rfl),wn,(by rfl),wn,wi,wi,(by intro _;rfl),(by exact QR _ _ _),(by exact Pj _ _ _)⟩ λI0 c6 i e H c4=>?_);obtain ⟨E0,B,w,m,v,A,u,z,s,hi,d5,hz,g,Z⟩:=c4;have Y:=xb0 Y E0 B (bS w) m (bS v) A (bS u) z (bS s) g Z;refine iY (λh4=>?_) λh4=>?_
 .have hil:i<d.h.length:=aD;have a6:0<C.length:=aD;have d9:¬C=[]:=g7.1 a6;obtain ⟨x,W⟩:=dH (d.h[i]);have p:qU d.h i=x:=by unfold qU;rw [aA hil,<- W];rfl
  have b9:=lA x.1;have b8:=lA x.2;have tm:=eM (aD:0<=(x.1.toNat:Int)) (aD:(0:Int)<C.length);obtain ⟨kk,c0⟩:=AU a6 x.1;obtain ⟨V,y⟩:=dH (C[((x.1.toNat:Int).tmod C.length).toNat]);have o:Fv t (qU d.h i)=V:=by unfold Fv;rw [p,hC,c0,y]
  have j:(C.length:Int)≠0:=aD;obtain ⟨b,G⟩:=dH (bL t V);have a:=ht.ct V;rw [G] at a;have Y:=xa8 Y h4 (aA hil) W @cP.eq_1 (aA kk) y j o G;refine wp (h:=aB (lQ t ht.ok V) wl ?_);refine wp (h:=bA (λk e H=>∃ c:Nat,(e 2=.adr t.c/\e 3=.adr d.c/\e 4=.ptr 0 1 0 0/\e 5=.ptr 1 1 0 0/\e 6=dLI C/\e 7=dI i/\e 8=dI V/\e 9=.list (b.map Attr.c)/\e 11=.own c k/\e 12=dI k)/\(H.get 0=some ⟨44,3,[[.nil,.nil,.nil]],false⟩)/\(0<H.next)/\(H.get 1=some ⟨44,3,[[.own 2 i,.nil,.own 3 i]],false⟩)/\(1<H.next)/\(H.get 2=some ⟨3,1,(G9 t d.h i).map cI,false⟩)/\(2<H.next)/\(H.get 3=some ⟨26,1,(HT t d.h i).map cL,false⟩)/\(3<H.next)/\(H.get c=some ⟨3,1,(wX b x.2 k).map cI,false⟩)/\(c<H.next)/\(k<=b.length)/\(3<c)/\((wX b x.2 k).length=k)) (λk=>b.length - k) 0 ⟨H.next,wg,wn,wn,wn,wn,wn,wn,wn,wn,(by simp [go_sem,Y,wX]),wn,wi,aD,(by exact HV _ _ _)⟩ λI2 c5 k e H c3=>?_);obtain ⟨c,E2,b5,U,b3,S,b1,P,a9,N,a7,L,hk,hc,X⟩:=c3;have c9:=xa8 (dJ (aD:c≠3)) (dJ (aD:c≠2)) (dJ (aD:c≠1)) (dJ (aD:c≠0)) (dJ (aD:3≠2)) (dJ (aD:3≠1)) (dJ (aD:3≠0)) (dJ (aD:2≠1)) (dJ (aD:2≠0)) (dJ (aD:1≠0));have Y:=xa2 Y @Dr15.c.eq_1 E2 (xb0 b5 (bS U) b3 (bS S) b1 (bS P) a9 (bS N) a7 (bS L) X c9);refine iY (λl=>?_) λl=>?_
  .have hg:=a.1 _ (aC l);unfold Attr.ct at hg;have c1:=a.2;have tv:=eM (aD:0<=(x.2.toNat:Int)+7 * (k:Int)) (aD:0<b[k].az - b[k].ao+1);have a0:T8 b x.2 k=b[k].ao+((x.2.toNat:Int)+7 * (k:Int)).tmod (b[k].az - b[k].ao+1):=by unfold T8;rw [aA l]
   have a2:b[k].az - b[k].ao+1≠0:=aD;have Y:=xa2 Y l (aA l) a2;exact wp (h:=wx c5 (k+1) ⟨c,wg,wn,wn,wn,wn,wn,wn,wn,wn,(by simp [go_sem,Y,Pl,a0]),wn,wj,aD,(by exact HV _ _ _)⟩)
  .have hK:k=b.length:=aD;have a1:Ui t (qU d.h i)=wX b x.2 k:=by unfold Ui;rw [o,G,p,hK]
   have c1:=a.2;have nx:=Sk H.next;have Y:=wa Y nx;exact wp (h:=wx c6 (i+1) ⟨wg,wn,wn,wn,wn,(by simp [go_sem,Y,V6,o]),wn,(by simp [go_sem,Y,Vh,a1,cL,dLI]),wn,wj,wj,aD,(by exact QR _ _ _),(by exact Pj _ _ _)⟩)
 .have hI:i=(if C.length=0 then 0 else min d.h.length 8):=by
   split
   .rename_i h;exact hz h
   .rename_i h;have hq:¬ (i<d.h.length/\i<8):=λhh=>h (by rw [h4 hh.1 aD];rfl);omega
  obtain ⟨f,F⟩:=dH (G9 t d.h i);rw [F] at g;have Y:=xa0 @Dr15.c.eq_1 (xb0 E0 B (bS w) m (bS v) A (bS u) z (bS s) g Z F);refine wp (h:=l9 (Ghosts.step (Ghosts.refl _) 1 0 1 145 3 _ _ (m) rfl rfl rfl) (λk e H=>∃ n:Nat,∃ q:List Edge,(e 2=.adr t.c/\e 3=.adr d.c/\e 4=.ptr 0 1 0 0/\e 5=.ptr 1 1 0 0/\e 13=dI i/\e 14=dI k)/\(H.get 0=some ⟨44,3,[[.nil,.nil,.nil]],false⟩)/\(0<H.next)/\(H.get 1=some ⟨44,3,[[.own 2 i,.own n q.length,.own 3 i]],false⟩)/\(1<H.next)/\(H.get 2=some ⟨3,1,f.map cI,false⟩)/\(2<H.next)/\(H.get 3=some ⟨26,1,(HT t d.h i).map cL,false⟩)/\(3<H.next)/\(H.get n=some ⟨145,3,q.map Edge.c,false⟩)/\(n<H.next)/\(k<=10)/\(k<=d.i.length)/\(f.length=0\/t.i.length=0->k=0)/\(3<n)/\(q=W0 t f [] d.i k)/\(q.length<=k)) (λk=>10 - k) 0 ⟨H.next,([]),wg,wn,wn,wn,wn,wn,wn,wn,wn,wn,wn,wi,wi,(by intro _;rfl),aD,(by simp [W0]),aE⟩ λI4 a5 k e H c2=>?_);obtain ⟨n,q,E4,b4,T,b2,R,b0,O,a8,M,K,D,hk,o,b7,d8,hy,d2⟩:=c2;have c8:=xa8 (dJ (aD:n≠3)) (dJ (aD:n≠2)) (dJ (aD:n≠1)) (dJ (aD:n≠0)) (dJ (aD:3≠2)) (dJ (aD:3≠1)) (dJ (aD:3≠0)) (dJ (aD:2≠1)) (dJ (aD:2≠0)) (dJ (aD:1≠0));have Y:=xa0 Y (xb0 E4 b4 (bS T) b2 (bS R) b0 (bS O) a8 (bS M) K (bS D) c8);refine iY (λJ=>?_) λJ=>?_
  .have hkl:k<d.i.length:=aD;have c7:0<t.i.length:=aD;have d4:0<i:=aD;have d1:¬t.i=[]:=g7.1 c7;have d0:¬f=[]:=g7.1 aD;obtain ⟨x,W⟩:=dH (d.i[k]);have p:d.i[k]?.getD (0,0,0)=x:=by rw [aA hkl,<- W];rfl
   have b9:=lA x.1;have b8:=lA x.2.1;have d3:=lA x.2.2;have t1:=eM (aD:0<=(x.1.toNat:Int)) (aD:(0:Int)<t.i.length);have t2:=eM (aD:0<=(x.2.1.toNat:Int)) (aD:(0:Int)<i);have t3:=eM (aD:0<=(x.2.2.toNat:Int)) (aD:(0:Int)<i);have hf:((x.2.1.toNat:Int).tmod i).toNat<f.length:=aD;have E:((x.2.2.toNat:Int).tmod i).toNat<f.length:=aD;have j:(t.i.length:Int)≠0:=aD;have a3:(i:Int)≠0:=aD;have b6:=Sk H.next;have Y:=xa9 Y J (aA hkl) W p @cT3.eq_1 (aA hf) (aA E) j a3 b6;refine wp (h:=aH (y8 t ht.ok _ _ _) wl ?_);refine iY (λI=>?_) λI=>?_
   .have hE:BX t f x=[mkEd t i x]:=by unfold BX nN;rw [g];unfold mkEd;rw [if_pos (by simpa [aA hf,aA E] using I)]
    have Y:=xa1 Y hE @mkEd.eq_1;exact wp (h:=wx a5 (k+1) ⟨n,(q++BX t f (d.i[k]?.getD (0,0,0))),wg,wn,wn,wn,wn,wn,wn,wn,wn,wn,wn,wj,wj,aD,aD,(by rw [A8,<- hy]),(by rw [aI];have:=A9 t f (d.i[k]?.getD (0,0,0));omega)⟩)
   .have hE:BX t f x=[]:=by unfold BX nN;rw [g];unfold mkEd;rw [if_neg (by simpa [aA hf,aA E] using I)]
    have Y:=wa Y hE;exact wp (h:=wx a5 (k+1) ⟨n,(q++BX t f (d.i[k]?.getD (0,0,0))),wg,wn,wn,wn,wn,wn,wn,wn,wn,wn,wn,wj,wj,aD,aD,(by rw [A8,<- hy]),(by rw [aI];have:=A9 t f (d.i[k]?.getD (0,0,0));omega)⟩)
  .have hK:k=(if f.length=0\/t.i.length=0 then 0 else min d.i.length 10):=by
    split
    .rename_i h;exact b7 h
    .rename_i h;have hq:¬ (k<d.i.length/\k<10):=λhh=>h (.inr (by rw [J hh.1 aD aD];rfl));omega
   have a4:Ou t d=⟨⟨f,q⟩,HT t d.h i⟩:=by
    unfold Ou;rw [hC,<- hI,F,<- hK,hy]
   exact wv (h:=hQ _ _ (by simp [go_sem,Y,a4,Host.d,Host.c]))
attribute [go_sem] Host.d Host.c
def Q4 (l:V2):Bool:=decide (12<(l.length:Int))
def FC (h:Host):Bool:=fewG h.j&&decide ((h.k.length:Int)<=45)&&!(h.k.any Q4)
theorem Mn (h:Host):Pua 68 [h.d] (.bool (FC h)):=by
 refine Tz.p0 func68 rfl λQ j _=>?_;have Y:=wa @Host.d.eq_1 @Host.c.eq_1;refine wo (h:=aB (Bx h.j) wl ?_);refine eP (λl=>?_) λl=>?_
 .have b:FC h=false:=by cases f:fewG h.j<;>simp [f] at l<;>simp [FC,f]<;>omega
  exact wv (h:=j _ _ (iq b))
 .have hG:fewG h.j=true/\(h.k.length:Int)<=45:=by cases f:fewG h.j<;>simp [f] at l<;>exact ⟨rfl,aD⟩
  refine wv (h:=bA (λi e H=>(e 1=.adr h.c/\e 3=dI i)/\(i<=h.k.length)/\((h.k.take i).any Q4=false)) (λi=>h.k.length - i) 0 ⟨wg,wi,(by rfl)⟩ λu k i e H g=>?_);obtain ⟨p,s,m⟩:=g;have Y:=wa Y p;refine eP (λa=>?_) λa=>?_
  .have Y:=xa2 Y a (aA a) @cL.eq_1;refine eP (λo=>?_) λo=>?_
   .refine wv (h:=?_);have b:FC h=false:=by
     have:h.k.any Q4=true:=bF.2 ⟨_,aC a,by unfold Q4;simp;omega⟩;unfold FC;rw [this];simp
    exact j _ _ (iq b)
   .exact wo (h:=wx k (i+1) ⟨wg,wj,(by rw [eI _ _ _ a,m];unfold Q4;simp;omega)⟩)
  .have b:FC h=true:=by have:=pO m a;unfold FC;rw [hG.1,this,decide_eq_true hG.2];rfl
   exact wv (h:=j _ _ (iq b))
def eH (t:Types)(g h:Graph):Int:=if (dG t).2≠0 then (dG t).2 else if graphF g≠0 then graphF g else if graphF h≠0 then graphF h else if (!nC t g||!nC t h)=true then 13 else 0
theorem vY (t:Types)(j:t.ok)(g h:Graph):Pua 215 [t.d,g.d,h.d] (dI (eH t g h)):=by
 refine Tz.p0 func215 rfl λQ c Y=>?_;refine wv (h:=aB (sO t j) wl ?_);refine dR (λb=>?_) λb=>?_
 .exact wv (h:=c _ _ (by simp [go_sem,eH,b]))
 .refine wv (h:=aB (lP g) wl ?_);refine dR (λe=>?_) λe=>?_
  .exact wv (h:=c _ _ (by simp [go_sem,eH,b,e]))
  .refine wv (h:=aB (lP h) wl ?_);refine dR (λf=>?_) λf=>?_
   .exact wv (h:=c _ _ (by simp [go_sem,eH,b,e,f]))
   .refine wo (h:=aB (vZ t g) wl ?_);refine wo (h:=aK (λi=>vZ t h) (λi=>wl) ?_);refine eP (λa=>?_) λa=>?_
    .exact wv (h:=c _ _ (by simp [go_sem,eH,b,e,f];intro i;rcases a with h|h<;>simp_all))
    .exact wv (h:=c _ _ (by simp [go_sem,eH,b,e,f];simpa using a))
def light17 (t:Types)(g h:Graph):Bool:=yH t&&fewG g&&fewG h&&(decide (eH t g h≠0)||(decide ((g.h.length:Int)+g.i.length<=6)&&decide ((h.h.length:Int)<=8)&&decide ((h.i.length:Int)<=12)))
theorem Qk (t:Types)(b:t.ok)(g h:Graph):Pua 135 [t.d,g.d,h.d] (.bool (light17 t g h)):=by
 refine Tz.p0 func135 rfl λQ e _=>?_;have f:yH t=true->fewG g=true->fewG h=true->eH t g h=0->Vc .i64 ((g.h.length:Int)+g.i.length):=λ_ a _ _=>by simp [fewG] at a;exact dW aD aD
 have Y:=trivial;refine wo (h:=aB (Mq t (λn c=>dZ (b.h n c).cf aD)) wl ?_);refine wo (h:=aK (λa=>Bx g) (λa=>wl) ?_);refine wo (h:=aK (λa=>Bx h) (λa=>wl) ?_);refine wo (h:=aK (λa=>vY t b g h) (λa=>wl) ?_);have Y:=wa Y @light17.eq_1;exact wo (h:=e _ _ wy)
def light21 (t:Types)(p:Pattern)(h:Host):Bool:=fewP p&&FC h&&light17 t p.j h.j
theorem Qg (t:Types)(b:t.ok)(p:Pattern)(h:Host):Pua 70 [t.d,p.d,h.d] (.bool (light21 t p h)):=by
 refine Tz.p0 func70 rfl λQ e _=>?_;have Y:=wa @Host.c.eq_1 @Pattern.c.eq_1;refine wo (h:=aB (xQ p) wl ?_);refine wo (h:=aK (λa=>Mn h) (λa=>wl) ?_);refine wo (h:=aK (λa=>Qk t b p.j h.j) (λa=>wl) ?_);have Y:=wa Y @light21.eq_1;exact wo (h:=e _ _ wy)
end Go.Abs
end
section
set_option maxHeartbeats 1000000
namespace Go.Abs
open Go.Maps (Keyed)
def EQ (u:Int):Prop:=-9223372036854775808<=u/\u<=9223372036854775807
theorem OF {u:Int}(h:EQ u):(Lit.int .i64 u).wf=true:=by
 obtain ⟨b,a⟩:=h;simp [Lit.wf,IntKind.min,IntKind.max,IntKind.bits,IntKind.signed];omega
theorem W7 {u:Int}(h:(Lit.int .i64 u).wf=true):EQ u:=by
 simp [Lit.wf,IntKind.min,IntKind.max,IntKind.bits,IntKind.signed] at h;exact ⟨aD,aD⟩
def kv (u v:Int):Value:=.agg #[.int .i64 u,.int .i64 v]
def kl (u v:Int):Lit:=.string (keyBytes [.int .i64 u,.int .i64 v])
structure MapT (P:Program) (T K E:TypeId):Prop where
 t:P.underlying T=some (.map K E)
 e:P.underlying E=some (.int .i64)
 eC:Keyed P K
 eN:∀ u v,EQ u->EQ v->keyOf P K (kv u v)=some (kl u v)
 hl:∀ key l,keyOf P K key=some l->∃ u v,EQ u/\EQ v/\key=kv u v
 z:∀ w,(zeroValue E).run P w=.ok (.int .i64 0) w
theorem D7 {P:Program}{K E:TypeId}{e c:Field}(h:P.underlying K=some (.struct #[e,c]))(k:e.type=E/\e.offset=0/\(e.name != "_")=true)(j:c.type=E/\c.offset=1/\(c.name != "_")=true)
  (i:P.cellsOf K=2) (f:P.cellsOf E=1) (d:Nat) (a b:Value):P.keyLits (d+1) K [a,b]=(P.keyLits d E [a]).bind λx=>(P.keyLits d E [b]).map λy=>x++y:=by
 obtain ⟨q,p,o⟩:=k;obtain ⟨n,m,l⟩:=j;rw [Program.keyLits.eq_def];simp only [h];rw [if_pos (by simp [i,o,l])];simp only [List.mapM_cons,List.mapM_nil,q,p,n,m,f,List.drop_zero,vL,GR,List.drop_succ_cons,bind,pure];cases P.keyLits d E [a]<;>simp
 cases P.keyLits d E [b]<;>simp
theorem wJ {P:Program}{E:TypeId}(he:P.underlying E=some (.int .i64))(d:Nat)(v:Value)(l:List Lit):P.keyLits (d+1) E [v]=some l↔∃ u,v=.int .i64 u/\(Lit.int .i64 u).wf=true/\l=[.int .i64 u]:=by
 rw [Program.keyLits.eq_def];grind
theorem Zz {P:Program}{T K E:TypeId}{n m:Field}(G:P.underlying T=some (.map K E))(g:P.underlying E=some (.int .i64))(c:P.underlying K=some (.struct #[n,m]))(D:n.type=E/\n.offset=0/\(n.name != "_")=true)(C:m.type=E/\m.offset=1/\(m.name != "_")=true)
  (k:P.cellsOf K=2) (i:P.cellsOf E=1) (s:P.keyType K=true) (H:∃ d,P.types.size+1=d+1+1) (e:Keyed P K) (F:∀ w,(zeroValue E).run P w=.ok (.int .i64 0) w):MapT P T K E:=by
 obtain ⟨d,A⟩:=H;refine ⟨G,g,e,λu v r q=>?_,λp l h=>?_,F⟩
 .unfold keyOf;simp only [c];rw [if_pos (by simp [s,Value.formed,c,kv,k]),A];have J:=(wJ g d (.int .i64 u) _).2 ⟨u,rfl,OF r,rfl⟩;have I:=(wJ g d (.int .i64 v) _).2 ⟨v,rfl,OF q,rfl⟩;show ((P.keyLits (d+1+1) K [.int .i64 u,.int .i64 v]).map λo=>Lit.string (keyBytes o))=_;rw [D7 c D C k i,J,I];rfl
 .unfold keyOf at h;simp only [c] at h;split at h
  .rename_i hf;rw [aM] at hf;have f:=hf.2;cases p<;>simp [Value.formed,c,k] at f
   rename_i z;obtain ⟨z⟩:=z;match z,f with
   | [a,b],_ =>
    rw [A] at h;have j:((P.keyLits (d+1+1) K [a,b]).map λo=>Lit.string (keyBytes o))=some l:=h;rw [D7 c D C k i] at j;cases t:P.keyLits (d+1) E [a] with
    | none=>rw [t] at j;cases j
    | some x =>
     cases B:P.keyLits (d+1) E [b] with
     | none=>rw [t,B] at j;cases j
     | some y =>
      obtain ⟨u,rfl,r,_⟩:=(wJ g d a x).1 t;obtain ⟨v,rfl,q,_⟩:=(wJ g d b y).1 B;exact ⟨u,v,W7 r,W7 q,rfl⟩
  .cases h
section
variable {P:Program} {T K E:TypeId}
theorem MapT.inj (h:MapT P T K E){u v d c:Int}(a:EQ u)(b:EQ v)(g:EQ d)(f:EQ c)(e:kl u v=kl d c):u=d/\v=c:=by
 have:=h.eC.inj (h.eN u v a b) (e ▸ h.eN d c g f);simpa [kv] using this
abbrev FM:=Int->Int->Option Int
def NO (F:FM)(u v c:Int):FM:=λu' v'=>if u'=u/\v'=v then some c else F u' v'
def aa0 (D:DataW Unit)(F:FM):Prop:=∀ u v,EQ u->EQ v->Maps.has D (kl u v)=(F u v).isSome/\∀ c,F u v=some c->∀ z,D.atKey (kl u v) z=.lit (.int .i64 c)
inductive MS where
 | no
 | mp (b n:Nat) (F:FM)
 | rg (b r:Nat) (F:FM) (left:Int->Int->Bool) (xA:Nat) (cur:Option (Int × Int × Int))
def TB (σ:Nat->Option Ow)(b:Nat):Prop:=∀ i o,σ i=some o->o.block≠some b
def Gw (r:Nat):Value:=.pointer (some ⟨r,0,none⟩)
def MpOk (P:Program)(K E:TypeId)(σ:Nat->Option Ow)(base:Nat)(w:World):MS->Prop
 | .no=>True
 | .mp b n F=>base<=b/\TB σ b/\∃ D:DataW Unit,w.ownsMap P K (plainElem P E) b n D/\aa0 D F
 | .rg b r F left xA cur=>base<=b/\base<=r/\TB σ b/\TB σ r/\∃ (n:Nat) (D:DataW Unit) (lf:Lit->Bool),w.ranges P K (plainElem P E) b r n D lf xA/\aa0 D F/\(∀ u v,EQ u->EQ v->lf (kl u v)=left u v) /\
   ∀ u v c,cur=some (u,v,c)->(Instr.entry (Gw r)).run P w=.ok (.tuple #[kv u v,.int .i64 c]) w
theorem J0 {σ σ':Nat->Option Ow}{w w':World}(hs:Stp σ w σ' w'){b:Nat}(hb:b<w.heap.size)(h:TB σ b):TB σ' b:=λi o' ho hb'=>by
 rcases hs.new i o' b ho hb' with h1|⟨j,o,h1,h2⟩
 .omega
 .exact h j o h1 h2
theorem TD {w w':World}{r b s c a:Nat}{d:Array Nat}{es:Array MapEntry}{v:Value}(j:w.heap[r]?=some (.mapIter (some b) s d c))(m:w.heap[b]?=some (.map es a))
  (f:w'.heap[r]?=some (.mapIter (some b) s d c)) (g:w'.heap[b]?=some (.map es a)) (h:(Instr.entry (Gw r)).run P w=.ok v w):(Instr.entry (Gw r)).run P w'=.ok v w':=by
 simp only [Gw,Instr.entry,getObj,Sem.run_bind,Sem.run,j,f,Result.andThen] at h ⊢;cases i:d.back? with
 | none=>simp [i,stuck] at h
 | some st =>
  simp only [i,Sem.run_bind,Sem.run,m,g,Result.andThen] at h ⊢;by_cases l:a=c
  .subst l;cases k:es.find? (λx=>x.born==st) with
   | none=>simp [k,unsupported] at h
   | some x =>
    simp_all
  simp_all
theorem MpOk.dh {σ σ':Nat->Option Ow}{w w':World}{base:Nat}{g:MS}(h:MpOk P K E σ base w g)(f:Stp σ w σ' w'):MpOk P K E σ' base w' g:=by
 cases g with
 | no=>trivial
 | mp b n F =>
  obtain ⟨x,q,D,o,p⟩:=h;have j:=o.lt;have G:=f.bx b j q;refine ⟨x,J0 f j q,D,?_,p⟩;obtain ⟨y,a,m,d⟩:=o;exact ⟨y,a,G.trans m,d⟩
 | rg b r F left xA cur =>
  obtain ⟨x,q,o,p,n,D,B,t,M,L,J⟩:=h;have l:=t.owns.lt;have k:=t.lt;have A:=f.bx b l o;have z:=f.bx r k p;obtain ⟨y,a,e,i,N,m,O,C,I,s,d⟩:=t;exact ⟨x,q,J0 f l o,J0 f k p,n,D,B,⟨y,a,e,i,N,A.trans m,O,C,I,z.trans s,d⟩,M,L,λu v c H=>TD s m (z.trans s) (A.trans m) (J u v c H)⟩
theorem MpOk.hg {σ:Nat->Option Ow}{w:World}{base a:Nat}{g:MS}(h:MpOk P K E σ base w g)(c:a<=base):MpOk P K E σ a w g:=by
 cases g with
 | no=>trivial
 | mp b n F=>exact ⟨dZ c h.1,h.2⟩
 | rg b r F left xA cur=>exact ⟨dZ c h.1,dZ c h.2.1,h.2.2⟩
theorem Yz {w:World}{b:Nat}{es:Array MapEntry}{clock:Nat}(hb:w.heap[b]?=some (.map es clock)):∀ ad:Addr,ad.block=b->w.cell? ad=none:=λad e=>by simp [World.cell?,e,hb]
theorem WF {w:World}{r:Nat}{m:Option Nat}{s c:Nat}{seen:Array Nat}(hr:w.heap[r]?=some (.mapIter m s seen c)):∀ ad:Addr,ad.block=r->w.cell? ad=none:=λad e=>by simp [World.cell?,e,hr]
theorem Rel.a2 {d:Nat->Prop}{H:AHeap}{σ:Nat->Option Ow}{w w':World}{row:Option Nat}(h:Rel d H σ w)(j:w.grownBy w' row)(q:∀ b,row=some b->TB σ b/\∀ ad:Addr,ad.block=b->w.cell? ad=none) :
  Rel d H σ w'/\Keeps (dV d H σ) σ H.F w (dV d H σ) σ H.F w':=by
 have r:Keeps (dV d H σ) σ H.F w (dV d H σ) σ H.F w':=⟨λad u v g=>⟨v,by
  have n:some ad.block≠row:=λe=>by rw [(q _ e.symm).2 ad rfl] at g;cases g
  exact (World.cell?_of_block (j.block ad.block (World.block_lt_of_cell? w ad g) n)).trans g⟩,λm t _ h=>⟨t,h,.inl rfl⟩,λ_ h=>h⟩
 refine ⟨⟨h.cm,h.ce,λm k p=>?_,h.inj,λi o c f a=>⟨dE (h.lt i o c f a).1 j.size,(h.lt i o c f a).2⟩,λc a=>dE (h.m0 c a) j.size⟩,r⟩;obtain ⟨o,f,l⟩:=h.am m k p;obtain ⟨s,A,z,y⟩:=l.row;refine ⟨o,f,l.ah,l.ty,l.Y,l.H,s,A.kept j ?_,z,y.q r⟩;cases x:o.val.ownBlock with
 | none=>exact .inl rfl
 | some c=>exact .inr λe=>(q c e.symm).1 m o f x
theorem Stp.a2 {σ0 σ:Nat->Option Ow}{w0 w w':World}{row:Option Nat}(h:Stp σ0 w0 σ w)(hg:w.grownBy w' row)(hr:∀ b,row=some b->w0.heap.size<=b):Stp σ0 w0 σ w' :=
 ⟨hg.os.trans h.os,hg.tape.trans h.tape,hg.output.trans h.output,dZ h.size hg.size,λb hb hn=>(hg.block b (dE hb h.size) (λe=>by have:=hr b e.symm;omega)).trans (h.bx b hb hn),h.new⟩
structure SG (P:Program) (K E:TypeId) (n:Nat) (M0:Nat->Prop) (H0:AHeap) (σ0:Nat->Option Ow) (w0:World) (g:MS) (e:eF) (H:AHeap) (σ:Nat->Option Ow) (a:Act) (w:World):Prop where
 st:St n M0 H σ w e a
 dh:Stp σ0 w0 σ w
 q:Keeps (dV M0 H0 σ0) σ0 H0.F w0 (dV M0 H σ) σ H.F w
 map:MpOk P K E σ w0.heap.size w g
section
variable {n:Nat} {M0:Nat→Prop} {H0 H:AHeap} {σ0 σ:Nat→Option Ow} {w0 w w':World} {g g':MS} {e:eF} {a:Act}
theorem SG.a2 {row:Option Nat}(h:SG P K E n M0 H0 σ0 w0 g e H σ a w)(j:w.grownBy w' row)(i:∀ b,row=some b->w0.heap.size<=b/\TB σ b/\∀ ad:Addr,ad.block=b->w.cell? ad=none)
  (o:MpOk P K E σ w0.heap.size w' g') {c:Option Tmp} (m:sY n c=true) {v:Value} {d:D} (l:RepV (dV M0 H σ) σ H.F w' v d):SG P K E n M0 H0 σ0 w0 g' (oV e c d) H σ (a.put c v) w':=by
 obtain ⟨p,k⟩:=h.st.b0.a2 j λb f=>(i b f).2;exact ⟨h.st.put p k m l,h.dh.a2 j λb f=>(i b f).1,h.q.trans k,o⟩
def Sg (P:Program)(K E:TypeId)(n:Nat)(M0:Nat->Prop)(H0:AHeap)(σ0:Nat->Option Ow)(w0:World)(X:MS->eF->AHeap->Prop)(a:Act)(w:World):Prop:=∃ g e H σ,X g e H/\SG P K E n M0 H0 σ0 w0 g e H σ a w
end
abbrev PG:=Exit->MS->eF->AHeap->Prop
def WpG (P:Program)(K E:TypeId)(n:Nat)(x:Code)(Q:PG)(g:MS)(e:eF)(H:AHeap):Prop :=
 ∀ M0 H0 σ0 w0 σ a w,SG P K E n M0 H0 σ0 w0 g e H σ a w->x.wp P (λex a w=>Sg P K E n M0 H0 σ0 w0 (Q ex) a w) a w
def L6 (R:MS->eF->AHeap->Prop)(Q:PG):PG
 | .normal,g,e,H=>R g e H
 | ex,g,e,H=>Q ex g e H
def OX (id:Nat)(Q:PG):PG
 | .exit id',g,e,H=>if id'=id then Q .normal g e H else Q (.exit id') g e H
 | ex,g,e,H=>Q ex g e H
variable {n:Nat} {c:Cfg} {Q:PG} {g:MS} {e:eF} {H:AHeap}
theorem iF {x:Code}(hm:P.follows .mixedOrders=true)(hok:rB c n x=true)(h:pP P c x (λex e H=>Q ex g e H) e H):WpG P K E n x Q g e H :=
 λM0 H0 σ0 w0 σ a w hS=>jL (qA hm x _ e H h hok σ w a hS.st) λex a' w' ⟨e',H',σ',hq,hS',hst',hk'⟩=>⟨g,e',H',σ',hq,hS',hS.dh.trans hst',hS.q.trans hk',hS.map.dh hst'⟩
theorem WpG.seq {x y:Code}(h:WpG P K E n x (L6 (WpG P K E n y Q) Q) g e H):WpG P K E n (.seq x y) Q g e H:=λM0 H0 σ0 w0 σ a w hS=>by
 refine wp_seq (jL (h M0 H0 σ0 w0 σ a w hS) λex a' w' hc=>?_);cases ex<;>first|exact hc|skip
 obtain ⟨g',e',H',σ',hq,hS'⟩:=hc;exact hq M0 H0 σ0 w0 σ' a' w' hS'
theorem eE {x y:Code}(h:∀ R:MS->eF->AHeap->Prop,(∀ g e H,WpG P K E n y Q g e H->R g e H)->WpG P K E n x (L6 R Q) g e H):WpG P K E n (.seq x y) Q g e H:=.seq (h _ λ_ _ _ h=>h)
@[go_sem] theorem Za {R:MS->eF->AHeap->Prop}{g:MS}{e:eF}{H:AHeap}:L6 R Q .normal g e H=R g e H:=rfl
@[go_sem] theorem adB {R:MS->eF->AHeap->Prop}{g:MS}{e:eF}{H:AHeap}:L6 R Q .ret g e H=Q .ret g e H:=rfl
@[go_sem] theorem aa8 {R:MS->eF->AHeap->Prop}{g:MS}{e:eF}{H:AHeap}{i:Nat}:L6 R Q (.exit i) g e H=Q (.exit i) g e H:=rfl
@[go_sem] theorem ac2 {i:Nat}{g:MS}{e:eF}{H:AHeap}:OX i Q .ret g e H=Q .ret g e H:=rfl
@[go_sem] theorem Y0 {i:Nat}{g:MS}{e:eF}{H:AHeap}:OX i Q .normal g e H=Q .normal g e H:=rfl
@[go_sem] theorem aaX {i j:Nat}{g:MS}{e:eF}{H:AHeap}:OX i Q (.exit j) g e H=if j=i then Q .normal g e H else Q (.exit j) g e H:=rfl
theorem WpG.cond {x:Operand}{y z:Code}{t:Bool}(hx:fS e x=.bool t)(h1:t=true->WpG P K E n y Q g e H)(h2:t=false->WpG P K E n z Q g e H):WpG P K E n (.cond x y z) Q g e H:=λM0 H0 σ0 w0 σ a w hS=>by
 have hv:=hS.st.cc.ev x;rw [hx] at hv;have hc:a.eval x=.bool t:=by generalize a.eval x=v at hv;cases hv;rfl
 exact wp_cond_split hc (λht=>h1 ht M0 H0 σ0 w0 σ a w hS) λht=>h2 ht M0 H0 σ0 w0 σ a w hS
theorem WpG.block {id:Nat}{b:Code}(h:WpG P K E n b (OX id Q) g e H):WpG P K E n (.block id b) Q g e H:=λM0 H0 σ0 w0 σ a w hS=>by
 refine wp_block (jL (h M0 H0 σ0 w0 σ a w hS) λex a' w' hc=>?_);cases ex<;>first|exact hc|skip
 rename_i id';obtain ⟨g',e',H',σ',hq,hS'⟩:=hc;by_cases hid:id'=id
 .subst hid;show (if id'=id' then Sg P K E n M0 H0 σ0 w0 (Q .normal) a' w' else _);rw [if_pos rfl];refine ⟨g',e',H',σ',?_,hS'⟩;have h':(if id'=id' then Q .normal g' e' H' else Q (.exit id') g' e' H'):=hq;rw [if_pos rfl] at h';exact h'
 .show (if id'=id then Sg P K E n M0 H0 σ0 w0 (Q .normal) a' w' else Sg P K E n M0 H0 σ0 w0 (Q (.exit id')) a' w');rw [if_neg hid];refine ⟨g',e',H',σ',?_,hS'⟩;have h':(if id'=id then Q .normal g' e' H' else Q (.exit id') g' e' H'):=hq;rw [if_neg hid] at h';exact h'
theorem WpG.loop {b:Code}{ι:Type}(I:ι->MS->eF->AHeap->Prop)(m:ι->Nat)(x0:ι)(h0:I x0 g e H)(hI:∀ x g e H,I x g e H->WpG P K E n b (L6 (λg' e' H'=>∃ x',m x'<m x/\I x' g' e' H') Q) g e H):WpG P K E n (.loop b) Q g e H :=
 λM0 H0 σ0 w0 σ a w hS=>by
 let J:Nat->Act->World->Prop:=λk a' w'=>∃ g e H σ x,m x=k/\I x g e H/\SG P K E n M0 H0 σ0 w0 g e H σ a' w'
 have hJ0:J (m x0) a w:=⟨g,e,H,σ,x0,rfl,h0,hS⟩
 classical
 let μ:Act->World->Nat:=λa' w'=>if hx:∃ k,J k a' w' then Classical.choose (gY hx) else 0
 refine wp_loop (λa' w'=>∃ k,J k a' w') μ ⟨_,hJ0⟩ λa' w' hx=>?_;have hμ:μ a' w'=Classical.choose (gY hx):=by simp only [μ,dif_pos hx]
 obtain ⟨g1,e1,H1,σ1,x1,hx1,hi,hS1⟩:=(Aw (gY hx)).1;refine jL (hI x1 g1 e1 H1 hi M0 H0 σ0 w0 σ1 a' w' hS1) λex a'' w'' hc=>?_;cases ex<;>first|exact hc|skip
 obtain ⟨g2,e2,H2,σ2,⟨x2,hlt,hi2⟩,hS2⟩:=hc;have hx2:∃ k,J k a'' w'':=⟨m x2,g2,e2,H2,σ2,x2,rfl,hi2,hS2⟩;refine ⟨hx2,?_⟩;have:μ a'' w''=Classical.choose (gY hx2):=by simp only [μ,dif_pos hx2]
 rw [this,hμ];refine Nat.lt_of_le_of_lt ?_ (hx1 ▸ hlt);rcases bX (m x2) (Classical.choose (gY hx2)) with hlt'|hge
 .exact absurd ⟨g2,e2,H2,σ2,x2,rfl,hi2,hS2⟩ ((Aw (gY hx2)).2 _ hlt')
 .exact hge
theorem WpG.ret (h:Q .ret g e H):WpG P K E n .ret Q g e H:=λM0 H0 σ0 w0 σ a w hS=>wp_ret ⟨g,e,H,σ,h,hS⟩
theorem WpG.skip (h:Q .normal g e H):WpG P K E n .skip Q g e H:=λM0 H0 σ0 w0 σ a w hS=>wp_skip ⟨g,e,H,σ,h,hS⟩
theorem WpG.exit {id:Nat}(h:Q (.exit id) g e H):WpG P K E n (.exit id) Q g e H:=λM0 H0 σ0 w0 σ a w hS=>wp_exit ⟨g,e,H,σ,h,hS⟩
/-! ### operations -/
def OpsG (P:Program)(K E:TypeId)(n:Nat)(ops:Array Oper)(l:List Oper)(X:MS->eF->AHeap->Prop)(g:MS)(e:eF)(H:AHeap):Prop :=
 ∀ M0 H0 σ0 w0 σ a w (Q:Exit->Act->World->Prop),SG P K E n M0 H0 σ0 w0 g e H σ a w->(∀ a' w',Sg P K E n M0 H0 σ0 w0 X a' w'->Q .normal a' w')->wpList P ops Q l a w
theorem WpG.region {id:Nat}{ops:Array Oper}(h:OpsG P K E n ops ops.toList (Q .normal) g e H):WpG P K E n (.region id ops false) Q g e H:=λM0 H0 σ0 w0 σ a w hS=>wp_region_list (h M0 H0 σ0 w0 σ a w _ hS λ_ _ hc=>hc)
variable {ops:Array Oper} {l:List Oper} {o:Oper} {X:MS→eF→AHeap→Prop}
theorem OpsG.nil (h:X g e H):OpsG P K E n ops [] X g e H:=λM0 H0 σ0 w0 σ a w Q hS hQ=>wpList_nil (hQ a w ⟨g,e,H,σ,h,hS⟩)
theorem OpsG.ey {md:Nat->Bool}:∀ (l1:List Oper) {l2:List Oper} {e:eF} {H:AHeap},(∀ o∈l1,sY n o.dst=true)->oU P md ops l1 e H (λe' H'=>OpsG P K E n ops l2 X g e' H')->OpsG P K E n ops (l1++l2) X g e H
 | [],l2,e,H,hd,h=>h
 | o :: l1,l2,e,H,hd,h=>λM0 H0 σ0 w0 σ a w Q hS hQ=>by
  unfold oU at h;have hs:=Bo (Q:=Q) h hS.st (λhn=>nT _ (hS.st.b0.ce _ hn)) (hd o aE);have:=StepC.mono (K':=wpList P ops Q (l1++l2)) (λa' w' ⟨v,H',F,σ',hk,hS',hst,hkp⟩ =>
   OpsG.ey l1 (λo' ho'=>hd o' (iw ho')) hk M0 H0 σ0 w0 σ' a' w' Q ⟨hS',hS.dh.trans hst,hS.q.trans hkp,hS.map.dh hst⟩ hQ) hs
  unfold StepC at this;show wpList P ops Q (o :: (l1++l2)) a w;unfold wpList;exact this
theorem OpsG.take {md:Nat->Bool}(k:Nat)(b:((l.take k).all λo=>sY n o.dst)=true)(h:∀ R:eF->AHeap->Prop,(∀ e' H',OpsG P K E n ops (l.drop k) X g e' H'->R e' H')->oU P md ops (l.take k) e H R):OpsG P K E n ops l X g e H:=by
 have:=OpsG.ey (g:=g) (X:=X) (P:=P) (K:=K) (E:=E) (n:=n) (ops:=ops) (md:=md) (l.take k) (l2:=l.drop k) (λo a=>(cF.1 b) o a) (h _ λ_ _ h=>h);simp_all
theorem OpsG.all {md:Nat->Bool}(b:(l.all λo=>sY n o.dst)=true)(h:∀ R:eF->AHeap->Prop,(∀ e' H',X g e' H'->R e' H')->oU P md ops l e H R):OpsG P K E n ops l X g e H:=by
 have:=OpsG.ey (g:=g) (X:=X) (P:=P) (K:=K) (E:=E) (n:=n) (ops:=ops) (md:=md) l (l2:=[]) (λo a=>(cF.1 b) o a) (h _ λ_ _ h=>OpsG.nil h);grind
theorem J8 {d:Nat->Prop}{σ:Nat->Option Ow}{w:World}{a:Act}(c:St n d H σ w e a){m:Operand}{v:Value}(b:fS e m=.cst v):a.eval m=v:=by
 have h:=c.cc.ev m;rw [b] at h;generalize a.eval m=x at h;cases h;rfl
theorem UR {k:Nat->Prop}{σ:Nat->Option Ow}{w:World}{a:Act}(g:St n k H σ w e a){x:Operand}{u v:Int}(d:fS e x=.agg [.int .i64 u,.int .i64 v]):a.eval x=kv u v:=by
 have h:=g.cc.ev x;rw [d] at h;generalize a.eval x=y at h;cases h
 rename_i c f l b;match c,f with
 | [p,q],_ =>
  have j:=b 0 p _ rfl rfl;have i:=b 1 q _ rfl rfl;cases j;cases i;rfl
theorem acP {d:Nat->Prop}{σ:Nat->Option Ow}{w:World}{a:Act}(c:St n d H σ w e a){x:Operand}{k:IntKind}{u:Int}(b:fS e x=.int k u):a.eval x=.int k u:=by
 have h:=c.cc.ev x;rw [b] at h;generalize a.eval x=y at h;cases h;rfl
theorem PX {M:Nat->Prop}{σ:Nat->Option Ow}{N:Nat->Prop}{w:World}(u v:Int):RepV M σ N w (kv u v) (.agg [.int .i64 u,.int .i64 v]) :=
 .agg [.int .i64 u,.int .i64 v] _ rfl (by simp [Value.oneCell']) λj x d hx hd=>by
  match j with
  | 0=>simp at hx hd;subst hx;subst hd;exact .int _ _
  | 1=>simp at hx hd;subst hx;subst hd;exact .int _ _
  | j+2=>simp at hx
theorem HA {M:Nat->Prop}{σ:Nat->Option Ow}{N:Nat->Prop}{w:World}{vs:List Value}{ds:UN}(hl:vs.length=ds.length)(hr:∀ (j:Nat) (u:Value) (d:D),vs[j]?=some u->ds[j]?=some d->RepV M σ N w u d):RepV M σ N w (.tuple vs.toArray) (.tup ds):=.tup _ _ hl hr
theorem OpsG.make (hT:MapT P T K E){t:TypeId}(hop:o.op=.makeMap t none)(hg:o.guard=none)(hd:sY n o.dst=true)(h:∀ b,OpsG P K E n ops l X (.mp b 0 λ_ _=>none) (oV e o.dst (.cst (.map (some b)))) H):OpsG P K E n ops (o :: l) X .no e H :=
 λM0 H0 σ0 w0 σ a w Q hS hQ=>by
 refine wpList_plain hg λK' hK'=>?_;unfold Oper.wp;simp only [execOp,hop,RowKit.run_makeMap,Option.map_none,Sem.run_bind,Sem.run_pure,Result.andThen,Oper.upon_value];refine hK' _ _ (h w.heap.size M0 H0 σ0 w0 σ _ _ Q (hS.a2 (g':=.mp w.heap.size 0 λ_ _=>none) (World.grownBy_alloc w _ none) aE ⟨hS.dh.size,λi o ho hb=>?_,_,World.ownsMap_made w P K _,λu v _ _=>⟨rfl,by simp⟩⟩ hd (.cst _)) hQ);have:=(hS.st.b0.lt i o _ ho hb).1;omega
theorem WW (hT:MapT P T K E){t:TypeId}(ht:t=T){m x:Operand}(hop:o.op=.lookup t m x true)(hg:o.guard=none)(hd:sY n o.dst=true){b k:Nat}{F:FM}(hm:fS e m=.cst (.map (some b))){u v:Int}(hx:fS e x=.agg [.int .i64 u,.int .i64 v])(hu:EQ u)(hv:EQ v)
  (h:OpsG P K E n ops l X (.mp b k F) (oV e o.dst (.tup [.int .i64 ((F u v).getD 0),.bool (F u v).isSome])) H):OpsG P K E n ops (o :: l) X (.mp b k F) e H :=
 λM0 H0 σ0 w0 σ a w Q hS hQ=>by
 subst ht;obtain ⟨m1,m2,D,m3,m4⟩:=hS.map;obtain ⟨r1,r2⟩:=m4 u v hu hv;refine wpList_lookup_own_ok w hg m x t hop K E hT.eC hT.t _ (hT.z w) (.lit (.int .i64 0)) [] (plainElem_int hT.e (OF ⟨aD,aD⟩)) b k D (J8 hS.st hm) m3 (kv u v) (kl u v) (UR hS.st hx) (hT.eN u v hu hv) λy ps hy=>?_;obtain ⟨c,rfl,hc,_⟩:=plainElem_int_inv hT.e hy;have hcv:c=(F u v).getD 0:=by
  simp only [Prod.mk.injEq] at hc;cases hF:F u v with
  | none =>
   rw [hF] at r1;have:=Maps.atKey_of_not_has r1 (.lit (.int .i64 0));rw [this] at hc;have:=hc.1;simp at this;simp [this]
  | some c' =>
   have:=r2 c' hF (.lit (.int .i64 0));rw [this] at hc;have:=hc.1;simp at this;simp [this]
 subst hcv;rw [r1];refine h M0 H0 σ0 w0 σ _ _ Q (hS.a2 (row:=none) ⟨rfl,rfl,rfl,bC _,λ_ _ _=>rfl⟩ aE hS.map hd (HA (vs:=[_,_]) rfl λj y d hy hd=>?_)) hQ;match j with
 | 0=>simp at hy hd;subst hy;subst hd;exact .int _ _
 | 1=>simp at hy hd;subst hy;subst hd;exact .bool _
 | j+2=>simp at hy
theorem OpsG.store (hT:MapT P T K E){t:TypeId}(ht:t=T){m x y:Operand}(hop:o.op=.mapUpdate t m x y)(hg:o.guard=none)(hd:sY n o.dst=true){b k:Nat}{F:FM}(hm:fS e m=.cst (.map (some b))){u v c:Int}(hx:fS e x=.agg [.int .i64 u,.int .i64 v])(hy:fS e y=.int .i64 c)(hu:EQ u)(hv:EQ v)(hc:EQ c)(hk:k<1000000)
  (h:OpsG P K E n ops l X (.mp b (k+1) (NO F u v c)) (oV e o.dst .junk) H):OpsG P K E n ops (o :: l) X (.mp b k F) e H :=
 λM0 H0 σ0 w0 σ a w Q hS hQ=>by
 subst ht;obtain ⟨m1,m2,D,m3,m4⟩:=hS.map;have hcm:∀ ad:Addr,ad.block=b->w.cell? ad=none:=by obtain ⟨es,clock,hb,_⟩:=m3;exact Yz hb
 refine wpList_mapUpdate_own w hg m x y t hop K E hT.eC hT.t _ b k D (J8 hS.st hm) m3 (by simp only [maxLen];omega) (kv u v) (.int .i64 c) (kl u v) (UR hS.st hx) (acP hS.st hy) (hT.eN u v hu hv) (.lit (.int .i64 c)) [] (plainElem_int hT.e (OF hc)) λw' hw1 hw2=>?_;refine h M0 H0 σ0 w0 σ _ _ Q (hS.a2 (g':=.mp b (k+1) (NO F u v c)) hw2 (λb' hb'=>by cases hb';exact ⟨m1,m2,hcm⟩) ⟨m1,m2,_,hw1,λu' v' hu' hv'=>?_⟩ hd (.junk _)) hQ;unfold NO;by_cases he:u'=u/\v'=v
 .obtain ⟨rfl,rfl⟩:=he;rw [if_pos ⟨rfl,rfl⟩];have hkl:=hT.eC.key (hT.eN u' v' hu' hv');exact ⟨Maps.has_put_same m3.isMap hkl _,λc' hc' z=>by cases hc';exact Maps.atKey_put_same m3.isMap hkl _ _⟩
 .rw [if_neg he];have hne:kl u' v'≠kl u v:=λe'=>he (hT.inj hu' hv' hu hv e');obtain ⟨r1,r2⟩:=m4 u' v' hu' hv';exact ⟨(Maps.has_put_other hne _).trans r1,λc' hc' z=>(Maps.atKey_put_other hne _ _).trans (r2 c' hc' z)⟩
theorem OpsG.range (hT:MapT P T K E){t:TypeId}(ht:t=T){m:Operand}(hop:o.op=.range t m)(hg:o.guard=none)(hd:sY n o.dst=true){b k:Nat}{F:FM}(hm:fS e m=.cst (.map (some b)))
  (h:∀ r xA,OpsG P K E n ops l X (.rg b r F (λu v=>(F u v).isSome) xA none) (oV e o.dst (.cst (Gw r))) H):OpsG P K E n ops (o :: l) X (.mp b k F) e H :=
 λM0 H0 σ0 w0 σ a w Q hS hQ=>by
 subst ht;obtain ⟨m1,m2,D,m3,m4⟩:=hS.map;refine wpList_range_own w hg m t hop K E hT.eC hT.t _ b k D (J8 hS.st hm) m3 λw' hw1 hw2 hw3=>?_;refine h w.heap.size (Maps.size D) M0 H0 σ0 w0 σ _ _ Q (hS.a2 (g':=.rg b w.heap.size F (λu v=>(F u v).isSome) (Maps.size D) none) hw2 aE ⟨m1,hS.dh.size,m2,λi o ho hb=>?_,k,D,_,hw1,m4,λu v hu hv=>(m4 u v hu hv).1,by simp⟩ hd (.cst _)) hQ;have:=(hS.st.b0.lt i o _ ho hb).1;omega
theorem OpsG.next (hT:MapT P T K E){it:Operand}(hop:o.op=.next it false)(hg:o.guard=none)(hd:sY n o.dst=true){b r xA:Nat}{F:FM}{left:Int->Int->Bool}{cur:Option (Int × Int × Int)}(hit:fS e it=.cst (Gw r))
  (h1:(∀ u v,EQ u->EQ v->left u v=false)->OpsG P K E n ops l X (.rg b r F left xA cur) (oV e o.dst (.tup [.bool false])) H)
  (h2:∀ u v c cnt',EQ u->EQ v->left u v=true->F u v=some c->cnt'<xA->OpsG P K E n ops l X (.rg b r F (λu' v'=>left u' v'&&!decide (u'=u/\v'=v)) cnt' (some (u,v,c))) (oV e o.dst (.tup [.bool true,.agg [.int .i64 u,.int .i64 v],.int .i64 c])) H) :
  OpsG P K E n ops (o :: l) X (.rg b r F left xA cur) e H :=
 λM0 H0 σ0 w0 σ a w Q hS hQ=>by
 obtain ⟨m1,m2,m3,m4,k,D,lf,m5,m6,m7,m8⟩:=hS.map;have hcm:∀ ad:Addr,ad.block=r->w.cell? ad=none:=by obtain ⟨es,clock,since,seen,c0,hb,F',hn,hD,hr,_⟩:=m5;exact WF hr
 refine wpList_next_ranges w hg it hop K hT.eC (plainElem P E) (λp:Int × Int=>kv p.1 p.2) (Value.int .i64) (λkey l hkey=>?_) (λv y hv=>?_) b r k D lf xA (J8 hS.st hit) m5 (λhc hl=>?_) λx c l' y w' cnt' hkey hlk hv hat hrg hlt hgr hsz hen=>?_
 .obtain ⟨u,v,_,_,rfl⟩:=hT.hl key l hkey;exact ⟨(u,v),rfl⟩
 .obtain ⟨c,rfl,_⟩:=plainElem_int_inv hT.e hv;exact ⟨c,rfl⟩
 .refine h1 (λu v hu hv=>by rw [<- m7 u v hu hv];exact hl _) M0 H0 σ0 w0 σ _ _ Q (hS.a2 (row:=none) ⟨rfl,rfl,rfl,bC _,λ_ _ _=>rfl⟩ aE hS.map hd (HA (vs:=[_]) rfl λj y d hy hd=>?_)) hQ;match j with
  | 0=>simp at hy hd;subst hy;subst hd;exact .bool _
  | j+1=>simp at hy
 .obtain ⟨u,v⟩:=x;simp only at hkey hen;obtain ⟨u',v',hu,hv',he⟩:=hT.hl _ _ hkey;simp only [kv,Value.agg.injEq,Array.mk.injEq,List.cons.injEq,Value.int.injEq,true_and,and_true] at he;obtain ⟨rfl,rfl⟩:=he;rw [hT.eN u v hu hv'] at hkey;cases hkey
  obtain ⟨c',ec,rfl,hwc⟩:=plainElem_int_inv hT.e hv;cases ec
  have hhas:=Maps.has_true_of_atKey hat
  obtain ⟨r1,r2⟩:=m6 u v hu hv';rw [hhas] at r1;obtain ⟨c2,hc2⟩:=gZ.1 r1.symm;have hcc:c2=c:=by
   have e1:=r2 c2 hc2 .nil;rw [hat .nil] at e1;simp at e1;exact e1.symm
  subst hcc;refine h2 u v c2 cnt' hu hv' (by rw [<- m7 u v hu hv'];exact hlk) hc2 hlt M0 H0 σ0 w0 σ _ _ Q (hS.a2 (g':=.rg b r F (λu' v'=>left u' v'&&!decide (u'=u/\v'=v)) cnt' (some (u,v,c2))) hgr (λb' hb'=>by cases hb';exact ⟨m2,m4,hcm⟩) ⟨m1,m2,m3,m4,k,D,_,hrg,m6,λa1 a2 ha1 ha2=>?_,λa1 a2 a3 ha=>?_⟩ hd (HA (vs:=[_,_,_]) rfl λj y d hy hd=>?_)) hQ
  .rw [m7 a1 a2 ha1 ha2];congr 2;rw [aU];constructor
   .intro h;exact decide_eq_true (hT.inj ha1 ha2 hu hv' (WideAt.sameKey_eq h))
   .intro h;obtain ⟨rfl,rfl⟩:=of_decide_eq_true h;exact WideAt.sameKey_self (hT.eC.key (hT.eN _ _ hu hv'))
  .cases ha;exact hen
  .match j with
   | 0=>simp at hy hd;subst hy;subst hd;exact .bool _
   | 1=>simp at hy hd;subst hy;subst hd;exact PX _ _
   | 2=>simp at hy hd;subst hy;subst hd;exact .int _ _
   | j+3=>simp at hy
theorem OpsG.entry {it:Operand}(hop:o.op=.entry it)(hg:o.guard=none)(hd:sY n o.dst=true){b r xA:Nat}{F:FM}{left:Int->Int->Bool}{u v c:Int}(hit:fS e it=.cst (Gw r))
  (h:OpsG P K E n ops l X (.rg b r F left xA (some (u,v,c))) (oV e o.dst (.tup [.agg [.int .i64 u,.int .i64 v],.int .i64 c])) H):OpsG P K E n ops (o :: l) X (.rg b r F left xA (some (u,v,c))) e H :=
 λM0 H0 σ0 w0 σ a w Q hS hQ=>by
 obtain ⟨m1,m2,m3,m4,k,D,lf,m5,m6,m7,m8⟩:=hS.map;have hrun:=m8 u v c rfl;refine wpList_plain hg λK' hK'=>?_;unfold Oper.wp;have hit':=J8 hS.st hit;simp only [execOp,hop,hit',hrun,Sem.run_bind,Sem.run_pure,Result.andThen,Oper.upon_value];refine hK' _ _ (h M0 H0 σ0 w0 σ _ _ Q (hS.a2 (row:=none) ⟨rfl,rfl,rfl,bC _,λ_ _ _=>rfl⟩ aE hS.map hd (HA (vs:=[_,_]) rfl λj y d hy hd=>?_)) hQ);match j with
 | 0=>simp at hy hd;subst hy;subst hd;exact PX _ _
 | 1=>simp at hy hd;subst hy;subst hd;exact .int _ _
 | j+2=>simp at hy
/-! ### calls -/
def GCalls (P:Program)(K E:TypeId)(f:FuncId)(args:UN)(H:AHeap)(Q:D->AHeap->MS->Prop):Prop :=
 Ent P f/\∀ (M0:Nat->Prop) (σ:Nat->Option Ow) (w:World) (vals:List Value),Rel M0 H σ w->RepL (dV M0 H σ) σ H.F w vals args ->
  Calls P f vals.toArray w λe w'=>∃ v d H' σ' g,e=.returned v/\Rel M0 H' σ' w'/\RepV (dV M0 H' σ') σ' H'.F w' v d/\Stp σ w σ' w'/\Keeps (dV M0 H σ) σ H.F w (dV M0 H' σ') σ' H'.F w'/\MpOk P K E σ' w.heap.size w' g/\Q d H' g
theorem LX {f:FuncId}{args:UN}{Q:D->AHeap->MS->Prop}{Q':D->AHeap->Prop}(h:GCalls P K E f args H Q)(hq:∀ d H' g,Q d H' g->Q' d H'):ACalls P f args H Q' :=
 ⟨h.1,λM0 σ w vals hR ha=>(h.2 M0 σ w vals hR ha).mono λe w' ⟨v,d,H',σ',g,a,b,c,s,k,_,q⟩=>⟨v,d,H',σ',a,b,c,s,k,hq _ _ _ q⟩⟩
def VD (P:Program)(rs:List ResultVar)(Q:D->AHeap->MS->Prop):PG:=λex g e H=>VC P rs (λd H'=>Q d H' g) ex e H
theorem Ba {f:FuncId}{fn:Func}{x:Code}{rs:List ResultVar}{args:UN}{Q:D->AHeap->MS->Prop}(r:P.funcs[f]?=some fn)(s:fn.body=some x)
  (n:(fn.name=="runtime.NumGoroutine")=false) (c:args.length<=fn.ntmps) (h:WpG P K E fn.ntmps x (VD P rs Q) .no (El args) H) (u:fn.results.toList=rs:=by exact Zj):GCalls P K E f args H Q:=by
 subst u;refine ⟨⟨fn,r,n,by simp [s]⟩,λe σ w q C A=>calls_of_wp r s ?_⟩;have B:=Z7 C A c;refine jL (h e H σ w σ _ w ⟨B,.refl _ _,.refl _ _ _ _,trivial⟩) λL t a z=>?_;obtain ⟨g,M,p,σ',i,b,m,y,F⟩:=z;have o:EK P fn.results.toList M p (λl=>Q (H8 l) p g)->t.defers=[]/\∃ v,(results fn t.tmps).run P a=.ok v a /\
   ∃ v2 d H2 σ2 g2,Ending.returned v=.returned v2/\Rel e H2 σ2 a/\RepV (dV e H2 σ2) σ2 H2.F a v2 d/\Stp σ w σ2 a/\Keeps (dV e H σ) σ H.F w (dV e H2 σ2) σ2 H2.F a/\MpOk P K E σ2 w.heap.size a g2/\Q d H2 g2:=by
  intro i;obtain ⟨N,l,J,I,G⟩:=zT b _ _ i;obtain ⟨v,k,j⟩:=Gd (fn:=fn) J I;exact ⟨b.defers,v,k,v,_,p,σ',g,rfl,b.b0,j,m,y,F,G⟩
 cases L<;>first|exact o i|exact i.elim
theorem OpsG.call {f:FuncId}{args:UN}{Q:D->AHeap->MS->Prop}(hc:iR e o=some (f,args))(hg:o.guard=none)(hd:sY n o.dst=true)(hA:GCalls P K E f args H Q)(h:∀ d H' g',Q d H' g'->OpsG P K E n ops l X g' (oV e o.dst d) H') :
  OpsG P K E n ops (o :: l) X .no e H:=λM0 H0 σ0 w0 σ a w Q' hS hQ=>by
 refine wpList_plain hg λK' hK'=>?_;obtain ⟨vals,hrun,hrep⟩:=C9 (P:=P) (λx _=>hS.st.cc.ev x) hc hA.1;refine Cz (args:=args) hrun ((hA.2 M0 σ w vals hS.st.b0 hrep).mono λe' w' ⟨v,d,H',σ',g',he,hR',hv,hst,hk,hM,hq⟩=>?_);exact ⟨v,he,hK' _ _ (h d H' g' hq M0 H0 σ0 w0 σ' _ _ Q' ⟨hS.st.put hR' hk hd hv,hS.dh.trans hst,hS.q.trans hk,hM.hg hS.dh.size⟩ hQ)⟩
end
end Go.Abs
end
section
set_option maxRecDepth 100000
set_option maxHeartbeats 4000000
open Go Go.Proofs Tryz
namespace Go.Abs
@[go_sem] theorem ae7 (H:AHeap)(a b c d:Nat):jN H (.ptr a b c d)=.ptr a b c d:=rfl
@[go_sem] theorem abO (a b c d:Nat):eJ (.ptr a b c d)=[]:=rfl
@[go_sem] theorem af0 (H:AHeap)(i:Nat):(H.frz i).next=H.next:=(Ty H i).2
@[go_sem] theorem aiK (H:AHeap)(i j:Nat):(H.frz i).get j=if j=i then (H.get i).map (λk=>{ k with fz:=true }) else H.get j:=by
 by_cases h:j=i
 .subst h;unfold AHeap.frz;cases a:H.get j<;>simp [AHeap.put,a]
 .rw [if_neg h,MZ H i j h]
theorem RR {P:Program}{md:Nat->Bool}{ops:Array Oper}{a:List Oper}{e:eF}{c:Option Tmp}{K:eF->AHeap->Prop}{f:FuncId}{args args':UN}{H:AHeap}(m:args.map V4=args')(h:fT P md ops a e c K f args' H):fT P md ops a e c K f args H:=by
 subst m;unfold fT at h ⊢;exact ⟨h.1,λo σ w b n g=>h.2 o σ w b n ⟨by simpa using g.len,λj u d l i=>by
  rw [aN,bV] at i;obtain ⟨y,k,rfl⟩:=i;exact Oo (g.Z j u y l k)⟩⟩
structure Srch where
 t:Types
 p:Graph
 g:Graph
 pn:V2
 pe:V2
 inj:Bool
def WD (y:Edge):V2:=[y.type,y.w,y.M]
def yE (l:V2)(i k:Nat):Bool:=decide (l[i]?.getD (-1)<0)||decide (l[i]?.getD (-1)=(k:Int))
def vO (t:Types)(a b:Int):Bool:=mem (t.aw b.toNat) a
def edX (p:Graph)(ns:V2)(i:Nat):Edge:=⟨(p.i[i]?.getD cH).type,ns[(p.i[i]?.getD cH).w.toNat]?.getD 0,ns[(p.i[i]?.getD cH).M.toNat]?.getD 0⟩
def Ar (S:Srch)(ns:V2)(i k:Nat):Bool:=decide (WD (S.g.i[k]?.getD cH)=WD (edX S.p ns i))
def Ly (S:Srch)(l:V2)(k:Nat):Bool:=yE S.pn l.length k&&(!(S.inj&&mem l k)&&vO S.t (S.p.h[l.length]?.getD 0) (S.g.h[k]?.getD 0))
def Te (S:Srch)(ns l:V2)(k:Nat):Bool:=yE S.pe l.length k&&(!(S.inj&&mem l k)&&Ar S ns l.length k)
def K7 (S:Srch)(N:Nat)(ns:V2):Nat->V2->List Part->List Part
 | 0,l,ou=>if N<=ou.length then ou else ou++[⟨ns,l⟩]
 | d+1,l,ou=>if N<=ou.length then ou else (List.range S.g.i.length).foldl (λou k=>if Te S ns l k=true then K7 S N ns d (l++[(k:Int)]) ou else ou) ou
def CN (S:Srch)(l:V2)(i:Nat):Bool:=decide ((l.length:Int)<=(S.p.i[i]?.getD cH).w)||decide ((l.length:Int)<=(S.p.i[i]?.getD cH).M)||(List.range S.g.i.length).any (Ar S l i)
def w8 (S:Srch)(l:V2):Bool:=(List.range S.p.i.length).all (CN S l)
def Jd (S:Srch)(l:V2)(i:Nat):Bool:=decide (max (S.p.i[i]?.getD cH).w (S.p.i[i]?.getD cH).M≠(l.length:Int) - 1)||(List.range S.g.i.length).any λk=>yE S.pe i k&&Ar S l i k
def wB (S:Srch)(l:V2):Bool:=(List.range S.p.i.length).all (Jd S l)
def SD (S:Srch)(N:Nat):Nat->V2->List Part->List Part
 | 0,l,ou=>if N<=ou.length\/w8 S l=false then ou else K7 S N l S.p.i.length [] ou
 | d+1,l,ou=>if N<=ou.length\/w8 S l=false then ou else (List.range S.g.h.length).foldl (λou k=>if Ly S l k=true then SD S N d (l++[(k:Int)]) ou else ou) ou
def Um (S:Srch)(N:Nat):Nat->V2->List Part->List Part
 | 0,l,ou=>if N<=ou.length then ou else K7 S N l S.p.i.length [] ou
 | d+1,l,ou=>if N<=ou.length then ou else (List.range S.g.h.length).foldl (λou k=>if (Ly S l k&&wB S (l++[(k:Int)]))=true then Um S N d (l++[(k:Int)]) ou else ou) ou
/-! ### all matches -/
def C1 (S:Srch)(ns:V2):Nat->V2->Yb
 | 0,l=>[l]
 | d+1,l=>((List.range S.g.i.length).filter (Te S ns l)).flatMap λ(k:Nat)=>C1 S ns d (l++[(k:Int)])
def Be (S:Srch):Nat->V2->List Part
 | 0,l=>(C1 S l S.p.i.length []).map λes=>⟨l,es⟩
 | d+1,l=>((List.range S.g.h.length).filter (Ly S l)).flatMap λ(k:Nat)=>Be S d (l++[(k:Int)])
def yU (S:Srch):List Part:=Be S S.p.h.length []
theorem EX {α:Type}(N:Nat)(a b:List α):((a.take N)++b).take N=(a++b).take N:=by
 rw [BQ,BQ,List.take_take,Nat.min_self];grind
theorem yG {α:Type}(N:Nat)(ok:Nat->Bool)(f:Nat->List α->List α)(x:Nat->List α)(hf:∀ k ou,ou.length<=N->f k ou=(ou++x k).take N) :
  ∀ (l:List Nat) (ou:List α),ou.length<=N->l.foldl (λou k=>if ok k=true then f k ou else ou) ou=(ou++(l.filter ok).flatMap x).take N
 | [],ou,h=>by simp [aG h]
 | k :: l,ou,h=>by
  rw [pD];by_cases hk:ok k=true
  .rw [if_pos hk,hf k ou h,yG N ok f x hf l _ ie,EX,KR hk,pE,List.append_assoc]
  .rw [if_neg hk,yG N ok f x hf l _ h,KS hk]
theorem uH {α:Type}{N:Nat}{a x:List α}(h:a.length<=N)(b:N<=a.length):a=(a++x).take N:=by grind
theorem NN (S:Srch)(N:Nat)(ns:V2):∀ (d:Nat) (l:V2) (ou:List Part),ou.length<=N->K7 S N ns d l ou=(ou++(C1 S ns d l).map λes=>(⟨ns,es⟩:Part)).take N
 | 0,l,ou,h=>by
  simp only [K7,C1];split
  .rename_i h2;exact uH h h2
  .rw [aG ie];rfl
 | d+1,l,ou,h=>by
  simp only [K7,C1];split
  .rename_i h2;exact uH h h2
  .rw [yG N (Te S ns l) (λk ou=>K7 S N ns d (l++[(k:Int)]) ou) (λk=>(C1 S ns d (l++[(k:Int)])).map λes=>(⟨ns,es⟩:Part)) (λk ou ho=>NN S N ns d _ ou ho) _ _ h,List.map_flatMap]
theorem J7 {S:Srch}{ns:V2}:∀ (d:Nat) (l es:V2),es∈C1 S ns d l->∀ i,l.length<=i->i<l.length+d->∃ k,k<S.g.i.length/\yE S.pe i k=true/\Ar S ns i k=true
 | 0,l,es,_,i,h1,h2=>by omega
 | d+1,l,es,h,i,h1,h2=>by
  simp only [C1,bQ,d8,aV] at h;obtain ⟨k,⟨hk,ho⟩,hr⟩:=h;by_cases hi:i=l.length
  .simp only [Te,aM] at ho;exact ⟨k,hk,hi ▸ ho.1,hi ▸ ho.2.2⟩
  .exact J7 d _ es hr i ie ie
theorem Bd {S:Srch}:∀ (d:Nat) (l:V2) (m:Part),m∈Be S d l->(∃ r,m.h=l++r)/\m.i∈C1 S m.h S.p.i.length []
 | 0,l,m,h=>by
  simp only [Be,aT] at h;obtain ⟨es,he,rfl⟩:=h;exact ⟨⟨[],by simp⟩,he⟩
 | d+1,l,m,h=>by
  simp only [Be,bQ,d8,aV] at h;obtain ⟨k,_,hr⟩:=h;obtain ⟨⟨r,hr1⟩,hr2⟩:=Bd d _ m hr;exact ⟨⟨(k:Int) :: r,by rw [hr1];simp⟩,hr2⟩
theorem UT {p:Graph}{l r:V2}{i:Nat}(b:(p.i[i]?.getD cH).w.toNat<l.length)(a:(p.i[i]?.getD cH).M.toNat<l.length):edX p (l++r) i=edX p l i:=by
 unfold edX;rw [aS b,aS a]
theorem J6 {S:Srch}(q:graphF S.p=0)(d:Nat)(l:V2)(h:w8 S l=false):Be S d l=[]:=by
 rw [lO];intro m s;obtain ⟨⟨r,o⟩,t⟩:=Bd d l m s;simp only [w8,Ap,aV] at h;obtain ⟨i,e,j⟩:=h;have y:=((dY q).2 _ (aC e)).2;simp only [CN,aA e,Option.getD_some,c8,decide_eq_true_eq,not_or,bF,aV,not_exists,not_and,Int.not_le] at j;obtain ⟨⟨x,w⟩,n⟩:=j;obtain ⟨k,v,B,g⟩:=J7 _ _ _ t i (eL _) (bY e);apply n k v;unfold Ar at g ⊢;rw [o,UT (by rw [aA e,Option.getD_some];omega) (by rw [aA e,Option.getD_some];omega)] at g;exact g
theorem WB {S:Srch}(s:graphF S.p=0)(d:Nat)(l:V2)(h:wB S l=false):Be S d l=[]:=by
 rw [lO];intro m t;obtain ⟨⟨r,q⟩,u⟩:=Bd d l m t;simp only [wB,Ap,aV] at h;obtain ⟨i,e,n⟩:=h;have z:=((dY s).2 _ (aC e)).2;simp only [Jd,aA e,Option.getD_some,c8,decide_eq_true_eq,not_or,bF,aV,not_exists,not_and,ne_eq,iM,aM] at n;obtain ⟨y,o⟩:=n;obtain ⟨k,x,w,j⟩:=J7 _ _ _ u i (eL _) (bY e);refine o k x w ?_;unfold Ar at j ⊢;rw [q,UT (by rw [aA e,Option.getD_some];omega) (by rw [aA e,Option.getD_some];omega)] at j;exact j
theorem SC {S:Srch}(hp:graphF S.p=0)(N:Nat):∀ (d:Nat) (l:V2) (ou:List Part),ou.length<=N->SD S N d l ou=(ou++Be S d l).take N
 | 0,l,ou,h=>by
  simp only [SD];split
  .rename_i h2;rcases h2 with h2|h2
   .exact uH h h2
   .rw [J6 hp 0 l h2,dU,aG h]
  .rw [NN S N l _ _ _ h];rfl
 | d+1,l,ou,h=>by
  simp only [SD];split
  .rename_i h2;rcases h2 with h2|h2
   .exact uH h h2
   .rw [J6 hp _ l h2,dU,aG h]
  .rw [yG N (Ly S l) (λk ou=>SD S N d (l++[(k:Int)]) ou) (λk=>Be S d (l++[(k:Int)])) (λk ou ho=>SC hp N d _ ou ho) _ _ h];rfl
theorem GF {α:Type}(ok po:Nat->Bool)(x:Nat->List α)(h:∀ k,po k=false->x k=[]):∀ l:List Nat,(l.filter λk=>ok k&&po k).flatMap x=(l.filter ok).flatMap x
 | []=>rfl
 | k :: l=>by
  cases h1:ok k<;>cases h2:po k<;>simp [h1,h2,GF ok po x h l,h k]
theorem Ta {S:Srch}(hp:graphF S.p=0)(N:Nat):∀ (d:Nat) (l:V2) (ou:List Part),ou.length<=N->Um S N d l ou=(ou++Be S d l).take N
 | 0,l,ou,h=>by
  simp only [Um];split
  .rename_i h2;exact uH h h2
  .rw [NN S N l _ _ _ h];rfl
 | d+1,l,ou,h=>by
  simp only [Um];split
  .rename_i h2;exact uH h h2
  .rw [yG N (λk=>Ly S l k&&wB S (l++[(k:Int)])) (λk ou=>Um S N d (l++[(k:Int)]) ou) (λk=>Be S d (l++[(k:Int)])) (λk ou ho=>Ta hp N d _ ou ho) _ _ h];rw [GF (Ly S l) (λk=>wB S (l++[(k:Int)])) _ λk hk=>WB hp d _ hk];rfl
theorem E8 (S:Srch){N:Nat}(ns:V2)(d:Nat)(l:V2){a:List Part}(h:a.length<=N):(K7 S N ns d l a).length<=N:=by
 rw [NN S N ns d l a h];exact List.length_take_le _ _
theorem Xi {S:Srch}(b:graphF S.p=0){N:Nat}(d:Nat)(l:V2){a:List Part}(h:a.length<=N):(SD S N d l a).length<=N:=by
 rw [SC b N d l a h];exact List.length_take_le _ _
theorem S9 {S:Srch}(b:graphF S.p=0){N:Nat}(d:Nat)(l:V2){a:List Part}(h:a.length<=N):(Um S N d l a).length<=N:=by
 rw [Ta b N d l a h];exact List.length_take_le _ _
theorem Ik {S:Srch}{N:Nat}(ns:V2)(d:Nat)(l:V2){a:List Part}(h:N<=a.length):K7 S N ns d l a=a:=by cases d<;>simp only [K7,if_pos h]
def D4 (l:List Attr)(vs:V2)(k:Nat):Int:=if vs[k]?.getD 0<(l[k]?.getD nX).ao\/(l[k]?.getD nX).az<vs[k]?.getD 0 then 6 else 0
def jA (t:Types)(kind:Int)(vs:V2):Int :=
 if (t.h.length:Int)<=kind then 6 else if oH t kind.toNat=true then 13 else if vs.length≠(bL t kind).length then 20 else bW (D4 (bL t kind) vs) 0 (bL t kind).length
theorem S2 (t:Types)(q:t.ok)(a:Int)(y:0<=a)(vs:V2):Pua 107 [t.d,dI a,dLI vs] (dI (jA t a vs)):=by
 refine Tz.p0 func107 rfl λQ i Y=>?_;refine eP (λw=>?_) λw=>?_
 .have hE:jA t a vs=6:=by unfold jA;rw [if_pos aD]
  exact wv (h:=i _ _ (iq hE))
 .have hkn:a.toNat<t.h.length:=aD;have u:oH t a.toNat=t.h[a.toNat].eb:=by simp [oH,aA hkn]
  have b:jA t a vs=if oH t a.toNat=true then 13 else if vs.length≠(bL t a).length then 20 else bW (D4 (bL t a) vs) 0 (bL t a).length:=by unfold jA;rw [if_neg aD]
  rw [u] at b;have Y:=xa1 Y (aA hkn) @NodeTy.c.eq_1;refine eP (λn=>?_) λn=>?_
  .rw [if_pos (bY n)] at b;exact wv (h:=i _ _ (iq b))
  .rw [if_neg (bY n)] at b;refine wv (h:=aB (lQ t q a) wl ?_);refine eP (λv=>?_) λv=>?_
   .rw [if_pos aD] at b;exact wv (h:=i _ _ (iq b))
   .rw [if_neg aD] at b;have r:vs.length=(bL t a).length:=aD;refine wv (h:=bA (λk e H=>(e 3=.adr t.c/\e 2=dLI vs/\e 7=.list ((bL t a).map Attr.c)/\e 9=dI k)/\(k<=(bL t a).length)/\(bW (D4 (bL t a) vs) k ((bL t a).length - k)=jA t a vs)) (λk=>(bL t a).length - k) 0 ⟨wg,wi,(by exact b.symm)⟩ λz m k e H l=>?_);obtain ⟨x,s,p⟩:=l;have Y:=wa Y x;refine wv (h:=?_);repeat first|intro _|refine ⟨iS,?_⟩
    refine wq (λj=>?_) λj=>?_
    .have hv:k<vs.length:=aD;have f:=fR (D4 (bL t a) vs) j;rw [p] at f;have g:D4 (bL t a) vs k=if vs[k]<(bL t a)[k].ao\/(bL t a)[k].az<vs[k] then 6 else 0:=by simp only [D4,aA hv,aA j,Option.getD_some]
     have Y:=xa3 Y j (aA hv) (aA j) @Attr.c.eq_1;refine eP (λo=>?_) λo=>?_
     .rw [if_pos aD] at g;rw [g,if_pos aD] at f;exact wv (h:=i _ _ (iq f))
     .rw [if_neg aD] at g;rw [g,if_neg aD] at f;exact wo (h:=wx m (k+1) ⟨wg,wj,(by exact f.symm)⟩)
    .have hZ:jA t a vs=0:=by rw [<- p,(aD:(bL t a).length - k=0)];rfl
     exact wv (h:=i _ _ (iq hZ))
def iQ (f:Nat->Int):Nat->Nat->Int × Int
 | k,0=>(-1,0)
 | k,n+1=>if f k≠0 then ((k:Int),f k) else iQ f (k+1) n
theorem tW (f:Nat->Int){k n:Nat}(h:k<n):iQ f k (n - k)=if f k≠0 then ((k:Int),f k) else iQ f (k+1) (n - (k+1)):=by
 obtain ⟨m,a⟩:∃ m,n - k=m+1:=⟨n - k - 1,aD⟩;rw [a,(aD:n - (k+1)=m)];rfl
theorem wM (f:Nat->Int):∀ n k,(iQ f k n).2=bW f k n
 | 0,k=>rfl
 | n+1,k=>by simp only [iQ,bW];split<;>simp_all [wM f n]
def He (t:Types)(h:Host)(i:Nat):Int:=jA t (h.j.h[i]?.getD 0) (h.k[i]?.getD [])
def Wu (t:Types)(h:Host)(i:Nat):Int:=if (t.i.length:Int)<=(h.j.i[i]?.getD cH).type then 6 else
 if p6 t (h.j.i[i]?.getD cH).type (gN h.j (h.j.i[i]?.getD cH).w) (gN h.j (h.j.i[i]?.getD cH).M)=true then 0 else 13
def mI (t:Types)(h:Host):Int × Int :=
 if (dG t).2≠0 then (-1,(dG t).2) else if graphF h.j≠0 then (-1,graphF h.j) else if h.k.length≠h.j.h.length then (-1,20)
 else if (iQ (He t h) 0 h.j.h.length).2≠0 then iQ (He t h) 0 h.j.h.length else iQ (Wu t h) 0 h.j.i.length
def fG (t:Types)(h:Host):Int:=(mI t h).2
theorem jO (t:Types)(y:t.ok)(h:Host):Pua 47 [t.d,h.d] (.tup [dI (mI t h).1,dI (mI t h).2]):=by
 refine Tz.pK ⟨λt=>t==12,λ_=>[]⟩ func47 rfl (λQ l=>?_);have Y:=wa @Host.d.eq_1 @Host.c.eq_1;refine wv (h:=aB (sO t y) wl ?_);refine dR (λE=>?_) λE=>?_
 .have hE:mI t h=(-1,(dG t).2):=by unfold mI;rw [if_pos (bY E)]
  exact wv (h:=l _ _ (iq hE))
 .have hE0:mI t h=if graphF h.j≠0 then (-1,graphF h.j) else if h.k.length≠h.j.h.length then (-1,20) else if (iQ (He t h) 0 h.j.h.length).2≠0 then iQ (He t h) 0 h.j.h.length else iQ (Wu t h) 0 h.j.i.length:=by unfold mI;rw [if_neg (bY E)]
  refine wv (h:=aB (lP h.j) wl ?_);refine dR (λs=>?_) λs=>?_
  .rw [if_pos (bY s)] at hE0;exact wv (h:=l _ _ (iq hE0))
  .rw [if_neg (bY s)] at hE0;have q:graphF h.j=0:=by simpa using s
   have p:=dY q;have L:=bK q;refine eP (λM=>?_) λM=>?_
   .rw [if_pos aD] at hE0;exact wv (h:=l _ _ (iq hE0))
   .rw [if_neg aD] at hE0;refine wv (h:=bA (λi e H=>(e 2=.adr t.c/\e 3=.adr h.c/\e 9=dI i)/\(i<=h.j.h.length)/\(iQ (He t h) i (h.j.h.length - i)=iQ (He t h) 0 h.j.h.length)) (λi=>h.j.h.length - i) 0 ⟨wg,wi,(by rfl)⟩ λU D i e H B=>?_);obtain ⟨O,R,I⟩:=B;have Y:=wa Y O;refine eP (λg=>?_) λg=>?_
    .have hv:i<h.k.length:=aD;have z:0<=h.j.h[i]:=(p.1 _ (aC g)).1;have a:=tW (He t h) g;rw [I] at a;have r:He t h i=jA t h.j.h[i] h.k[i]:=by simp only [He,aA hv,aA g,Option.getD_some]
     have Y:=xa3 Y g (aA hv) (aA g) @cL.eq_1;refine wo (h:=aH (S2 t y h.j.h[i] z h.k[i]) wl ?_);refine eP (λk=>?_) λk=>?_
     .rw [r,if_pos (bY k)] at a;rw [a,if_pos (bY k)] at hE0;exact wv (h:=l _ _ (iq hE0))
     .rw [r,if_neg (bY k)] at a;exact wo (h:=wx D (i+1) ⟨wg,wj,(a.symm)⟩)
    .have hN0:iQ (He t h) 0 h.j.h.length=(-1,0):=by rw [<- I,(aD:h.j.h.length - i=0)];rfl
     rw [hN0,if_neg aE] at hE0;refine wv (h:=bA (λj e H=>(e 2=.adr t.c/\e 3=.adr h.c/\e 11=dI j)/\(j<=h.j.i.length)/\(iQ (Wu t h) j (h.j.i.length - j)=mI t h)) (λj=>h.j.i.length - j) 0 ⟨wg,wi,(hE0.symm)⟩ λT C j e H A=>?_);obtain ⟨N,P,G⟩:=A;have Y:=wa Y N;refine eP (λf=>?_) λf=>?_
     .obtain ⟨x,w⟩:=c7 (h.j.i[j]);have v:=(p.2 _ (aC f)).2;rw [<- w] at v;have o:x.w.toNat<h.j.h.length:=aD;have n:x.M.toNat<h.j.h.length:=aD;have a:=tW (Wu t h) f;rw [G] at a;have b:Wu t h j=if (t.i.length:Int)<=x.type then 6 else if p6 t x.type h.j.h[x.w.toNat] h.j.h[x.M.toNat]=true then 0 else 13:=by simp only [Wu,gN,aA f,Option.getD_some,<- w,aA o,aA n]
      have Y:=xa4 Y f (aA f) (Eq.symm w) (aA o) (aA n);refine eP (λF=>?_) λF=>?_
      .rw [if_pos aD] at b;rw [b,if_pos aD] at a;exact wv (h:=l _ _ (iq a))
      .rw [if_neg aD] at b;refine wo (h:=aH (y8 t y x.type h.j.h[x.w.toNat] h.j.h[x.M.toNat]) wl ?_);refine eP (λm=>?_) λm=>?_
       .rw [if_neg (bY m)] at b;rw [b,if_pos aD] at a;exact wv (h:=l _ _ (iq a))
       .rw [if_pos (bY m)] at b;rw [b,if_neg aD] at a;exact wo (h:=wx C (j+1) ⟨wg,wj,(a.symm)⟩)
     .have hZ:mI t h=(-1,0):=by rw [<- G,(aD:h.j.i.length - j=0)];rfl
      exact wv (h:=l _ _ (iq hZ))
theorem AM (l:V2):Pua 337 [dLI l] (.bool (decide l.Nodup)):=by
 refine Tz.p0 func337 rfl λQ u Y=>?_;refine wv (h:=bA (λi e H=>(e 0=dLI l/\e 3=dI i)/\(i<=l.length)/\((l.take i).Nodup)) (λi=>l.length - i) 0 ⟨wg,wi,(by simp)⟩ λD q i e H n=>?_);obtain ⟨z,B,r⟩:=n;have Y:=wa Y z;refine wv (h:=?_);repeat first|intro _|refine ⟨iS,?_⟩
 refine wq (λd=>?_) λd=>?_
 .have Y:=xa1 Y d (aA d);refine wv (h:=bA (λk e H=>(e 0=dLI l/\e 3=dI i/\e 4=dI k)/\(k<=i)/\(∀ j,j<k->∀ g:j<l.length,l[j]≠l[i])) (λk=>i - k) 0 ⟨wg,wi,(by intro j g;omega)⟩ λC p k e H m=>?_);obtain ⟨y,A,c⟩:=m;have Y:=wa Y y;refine dR (λv=>?_) λv=>?_
  .have hkl:k<l.length:=aD;have Y:=xa1 Y v (aA hkl);refine eP (λs=>?_) λs=>?_
   .have hnd:¬ l.Nodup:=λo=>by
     have:=(i6 (h₀:=d) (h₁:=hkl) o).1 s;omega
    exact wv (h:=u _ _ (iq hnd))
   .exact wo (h:=wx p (k+1) ⟨wg,wj,(by intro j g f;rcases bX j k with hjk|hjk;exact c j hjk f;(obtain rfl:j=k:=aD;exact λw=>s w.symm))⟩)
  .have hD2:(l.take (i+1)).Nodup:=by
    rw [List.take_succ_eq_append_getElem d,pC];refine ⟨r,by simp,λa x b t=>?_⟩;rw [bD] at t;subst t;obtain ⟨j,g,rfl⟩:=GS.1 x;exact c j aD _
   exact wo (h:=wx q (i+1) ⟨wg,wj,(by exact hD2)⟩)
 .have o:l.Nodup:=by rw [aG aD] at r;exact r
  exact wv (h:=u _ _ (iq o))
end Go.Abs
end
