/- Layer 21 of the reference: Values, Solve, Matches. · Layer 2 -/
import Derived.Test.YthlnbehgghjppaaGreatZrAG
import Derived.Test.YthlnbehgghjppaaGreatZrAA
import Derived.Test.YthlnbehgghjppaaGreatZrAQ
import Derived.Test.YthlnbehgghjppaaGreatZrAN
set_option linter.unusedVariables false
set_option linter.unusedSimpArgs false
section
set_option maxRecDepth 100000
set_option maxHeartbeats 4000000
open Go Go.Proofs Tryz
namespace Go.Abs
theorem lF (o:Option Bool):(Option.map cB o).getD [D.bool false]=cB (o.getD false):=by cases o<;>rfl
theorem Mr (p:Pattern)(h:Host)(m:Part)(M:SOk p h m):Pua 251 [p.d,h.d,m.d] (.tup [dLI (fK p h m []).1,dI (fK p h m []).2]):=by
 have hv:=M.vars;have h0:=NN (vs:=[]) hv.1 eG eG;rw [GH] at h0;refine Tz.pK ⟨λt=>t==11,λ_=>[]⟩ func251 rfl (λQ O=>?_);have Y:=xa5 @Pattern.d.eq_1 @Pattern.c.eq_1 @Host.d.eq_1 @Host.c.eq_1 @Part.d.eq_1 @Part.c.eq_1 @Term.c.eq_1;refine wp (h:=bC (λi e H=>∃ l:Xa0 × List Bool,(e 3=.adr p.c/\e 4=.adr h.c/\e 5=.adr m.c/\e 8=.own 0 p.vars.toNat/\e 9=.own 1 p.vars.toNat/\e 10=dI i)/\(H.get 0=some ⟨3,1,l.1.map cI,false⟩)/\(0<H.next)/\(H.get 1=some ⟨4,1,l.2.map cB,false⟩)/\(1<H.next)/\(i<=p.q.length)/\(StOk p.vars.toNat l)/\(j6 h m (L3 p []) (p.q.take i)=some l)) (λi=>p.q.length - i) 0 ⟨((List.replicate p.vars.toNat 0,List.replicate p.vars.toNat false)),wg,(by simp [go_sem,cI]),wn,(by simp [go_sem,cB]),wn,wi,(by exact h0),(by rw [GH];rfl)⟩ λI0 B i e H a2=>?_);obtain ⟨l,E0,X,S,V,P,hi,q,G⟩:=a2;have Y:=xa4 Y E0 X (bP S) V (bP P);refine wv (h:=?_);repeat first|intro _|refine ⟨gX,?_⟩
 refine wq (λC=>?_) λC=>?_
 .obtain ⟨x,T⟩:=fH (p.q[i]);have z:x∈p.q:=T ▸ aC C;have hn:=M.node x z;have r:x.node.toNat<m.h.length:=bZ;have Z:=M.bx _ (aC r);have v:(m.h[x.node.toNat]).toNat<h.k.length:=bZ;have ha:=M.P x z;rw [aA r,aD,aA v,aD] at ha;have A:x.P.toNat<(h.k[(m.h[x.node.toNat]).toNat]).length:=bZ;have hV:mH h m x=h.k[(m.h[x.node.toNat]).toNat][x.P.toNat]:=by unfold mH;rw [aA r,aD,aA v,aD,aA A];rfl
  have hb:=M.cf z;have K:=M.C x z;have u:=q.l1;have I:=q.l2;have a5:=K.1;have a6:=K.2;have n:=u9 C G;rw [<- T] at n;obtain ⟨o,f⟩:∃ y,y=mY h m l x:=⟨_,rfl⟩;have j:StOk p.vars.toNat o:=f ▸ Aj q hb K;rw [<- f] at n;have g:¬ 0<=x.C.R->o=l:=λhn=>by rw [f];unfold mY lS;rw [if_neg (by simp [hn])]
  have E:0<=x.C.R->x.C.R.toNat<l.2.length:=λhn=>by omega
  obtain ⟨kb,U⟩:=fH (l.2[x.C.R.toNat]?.getD false);have J:0<=x.C.R\/(¬ 0<=x.C.R/\l.2[x.C.R.toNat]?=none)\/(¬ 0<=x.C.R/\l.2[x.C.R.toNat]?=some kb):=by
   by_cases F:0<=x.C.R
   .exact .inl F
   .right
    cases ho:l.2[x.C.R.toNat]? with
    | none=>exact .inl ⟨F,rfl⟩
    | some b=>rw [ho] at U;exact .inr ⟨F,by rw [U];rfl⟩
  rcases J with hc|hc|hc
  .have Y:=xa3 Y C (aA C) (Eq.symm T) (xb0 (aA r) (aA v) (aA A) (Eq.symm hV) @Slot.c.eq_1 @cL.eq_1 u I @lF @cB.eq_1 hc ((aA (E hc))));refine kI (λh9=>?_) λh9=>?_
   .have hF:lS l x=true:=by simp only [lS,aL,decide_eq_true_eq,b7];exact ⟨hc,by simpa [aA (E hc)] using h9⟩
    unfold mY at f;rw [if_pos hF] at f;have a0:x.C.R.toNat<l.1.length:=bZ;have e1:o.1.map cI=(l.1.map cI).set x.C.R.toNat (cI (mH h m x - x.C.add)):=by rw [f,bJ]
    have e2:o.2.map cB=(l.2.map cB).set x.C.R.toNat (cB true):=by rw [f,bJ]
    have a4:D.V ((l.1.map cI).set x.C.R.toNat [D.int .i64 (mH h m x - x.C.add)])=true:=by have:=mO o.1;rw [e1] at this;exact this
    have Y:=xa5 Y e1 e2 @dLI.eq_1 @cI.eq_1 (aA a0) a4;refine wp (h:=d8 (r9 x.C o.1 (by rw [j.l1];exact K) j.ba) wr wl rfl ?_);refine kI (λa=>?_) λa=>?_
    .have hR:=eO (n.2 (by first|simpa using a|simpa [g hc.1] using a|simpa [f] using a));exact wv (h:=O _ _ (by simp [go_sem,hR]))
    .have hstep:=n.1 (by first|simpa using a|simpa [g hc.1] using a|simpa [f] using a);exact wp (h:=wx B (i+1) ⟨o,wg,(by simp [go_sem,Y]),wn,(by simp [go_sem,Y]),wn,wj,(by exact j),(by exact hstep)⟩)
   .have hF:¬ lS l x=true:=by simp only [lS,aL,decide_eq_true_eq,b7];rintro ⟨_,Z⟩;simp [aA (E hc)] at Z;simp [Z] at h9
    unfold mY at f;rw [if_neg hF] at f;have Y:=wa Y f;refine wv (h:=d8 (r9 x.C o.1 (by rw [j.l1];exact K) j.ba) wr wl rfl ?_);refine c8 (λa=>?_) λa=>?_
    .have hR:=eO (n.2 (by first|simpa using a|simpa [g hc.1] using a|simpa [f] using a));exact wv (h:=O _ _ (by simp [go_sem,hR]))
    .have hstep:=n.1 (by first|simpa using a|simpa [g hc.1] using a|simpa [f] using a);exact wp (h:=wx B (i+1) ⟨o,wg,(by simp [go_sem,Y]),wn,(by simp [go_sem,Y]),wn,wj,(by exact j),(by exact hstep)⟩)
  .have Y:=xa4 Y C (aA C) (Eq.symm T) (aA r) (xb0 (aA v) (aA A) (Eq.symm hV) @Slot.c.eq_1 @cL.eq_1 u I @lF @cB.eq_1 hc.1 hc.2 (g hc.1));refine wp (h:=d8 (r9 x.C o.1 (by rw [j.l1];exact K) j.ba) wr wl rfl ?_);refine kI (λa=>?_) λa=>?_
   .have hR:=eO (n.2 (by first|simpa using a|simpa [g hc.1] using a|simpa [f] using a));exact wv (h:=O _ _ (by simp [go_sem,hR]))
   .have hstep:=n.1 (by first|simpa using a|simpa [g hc.1] using a|simpa [f] using a);exact wp (h:=wx B (i+1) ⟨o,wg,(by simp [go_sem,Y]),wn,(by simp [go_sem,Y]),wn,wj,(by exact j),(by exact hstep)⟩)
  .have Y:=xa4 Y C (aA C) (Eq.symm T) (aA r) (xb0 (aA v) (aA A) (Eq.symm hV) @Slot.c.eq_1 @cL.eq_1 u I @lF @cB.eq_1 hc.1 hc.2 (g hc.1));refine wp (h:=d8 (r9 x.C o.1 (by rw [j.l1];exact K) j.ba) wr wl rfl ?_);refine kI (λa=>?_) λa=>?_
   .have hR:=eO (n.2 (by first|simpa using a|simpa [g hc.1] using a|simpa [f] using a));exact wv (h:=O _ _ (by simp [go_sem,hR]))
   .have hstep:=n.1 (by first|simpa using a|simpa [g hc.1] using a|simpa [f] using a);exact wp (h:=wx B (i+1) ⟨o,wg,(by simp [go_sem,Y]),wn,(by simp [go_sem,Y]),wn,wj,(by exact j),(by exact hstep)⟩)
 .rw [aH bZ] at G;have L:=qC G;have u:=q.l1;have Y:=wa Y u;refine wv (h:=bC (λk e H=>(e 3=.adr p.c/\e 4=.adr h.c/\e 5=.adr m.c/\e 8=.own 0 p.vars.toNat/\e 14=dI k)/\(H.get 0=some ⟨3,1,l.1.map cI,false⟩)/\(0<H.next)/\(k<=p.I.length)/\((p.I.take k).all (λx=>By x l.1)=true)) (λk=>p.I.length - k) 0 ⟨wg,wn,wn,wi,(by rfl)⟩ λI2 a3 k e H a1=>?_);obtain ⟨E2,W,R,Z,w⟩:=a1;have Y:=xa2 Y E2 W (bP R);refine wv (h:=?_);repeat first|intro _|refine ⟨gX,?_⟩
  refine wq (λs=>?_) λs=>?_
  .have Y:=xa2 Y s (aA s) @Test.c.eq_1;refine wp (h:=d8 (Oz p.I[k] l.1 (by rw [q.l1];exact M.test _ (aC s)) q.ba) wr wl rfl ?_);refine kI (λN=>?_) λN=>?_
   .have hR:fK p h m []=([],16):=by
     rw [L,if_neg];intro ha;rw [b6] at ha;have:=ha _ (aC s);simp [this] at N
    exact wv (h:=O _ _ (by simp [go_sem,hR]))
   .exact wp (h:=wx a3 (k+1) ⟨wg,wn,wn,wj,(by rw [aF s,oY,w];simp;simpa using N)⟩)
  .rw [aH bZ] at w;rw [if_pos w] at L;exact wv (h:=O _ _ (by simp [go_sem,Y,L,dLI]))
def BC (t:Types)(p:Pattern)(h:Host):Int:=if c6 t p≠0 then c6 t p else jB t h
theorem Of (t:Types)(b:t.ok)(p:Pattern)(h:Host):Pua 250 [t.d,p.d,h.d] (dI (BC t p h)):=by
 refine Tz.p0 func250 rfl λQ e _=>?_;have Y:=wa @Host.d.eq_1 @Host.c.eq_1;refine wv (h:=aB (vE t b p) wl ?_);refine c8 (λa=>?_) λa=>?_
 .exact wv (h:=e _ _ (by simp [go_sem,BC,a]))
 .refine wv (h:=aB (Aw t b h) wl ?_);exact wv (h:=e _ _ (by simp [go_sem,BC,a,jB]))
theorem Og (t:Types)(i:t.ok)(p:Pattern)(h:Host)(m:Part):Pua 168 [t.d,p.d,h.d,m.d] (.tup [dLI (eH t p h m).1,dI (eH t p h m).2]):=by
 refine Tz.p0 func168 rfl λQ g _=>?_;have Y:=xa2 @Pattern.d.eq_1 @Pattern.c.eq_1 @Host.d.eq_1 @Host.c.eq_1;refine wv (h:=aB (Of t i p h) wl ?_);refine c8 (λa=>?_) λa=>?_
 .have e:eH t p h m=([],BC t p h):=by
   unfold eH BC;unfold BC at a;by_cases b:c6 t p=0
   .rw [if_neg bZ] at a ⊢;rw [if_pos a,if_neg bZ]
   .rw [if_pos b,if_pos b]
  exact wv (h:=g _ _ (by simp [go_sem,e]))
 .have hp0:c6 t p=0:=by
   unfold BC at a;refine bH λb=>?_;rw [if_pos b] at a;exact b a
  have f:jB t h=0:=by unfold BC at a;rw [if_neg bZ] at a;exact a
  refine wv (h:=aB (Av t i p.j h.j m false) wl ?_);refine c8 (λj=>?_) λj=>?_
  .have e:eH t p h m=([],fP t p.j h.j m false):=by unfold eH;rw [if_neg bZ,if_neg bZ,if_pos j]
   exact wv (h:=g _ _ (by simp [go_sem,e]))
  .have h5':fP t p.j h.j m false=0:=bZ;have e:eH t p h m=fK p h m []:=by unfold eH;rw [if_neg bZ,if_neg bZ,if_neg bZ]
   refine wv (h:=aB (Mr p h m (Yf (OJ (.inr hp0)) (y4 f) (uI (pW h5').2))) wl ?_);exact wv (h:=g _ _ (by simp [go_sem,e]))
theorem W6 (l:List Part):(Pu l).1.length<=5000:=by
 unfold Pu;split
 .simp
 .simp only;omega
theorem Ss (t:Types)(p g:Graph)(q:Part)(a:Bool):(oV t p g q a).1.length<=5000:=by
 unfold oV;split
 .simp
 .split
  .simp
  .split
   .simp
   .split
    .simp
    .exact W6 _
def OH (at_ im:Xa0)(n i:Nat):Xa0:=(List.range i).foldl (λacc i=>acc.set (at_[i]?.getD 0).toNat (im[i]?.getD 0)) (List.replicate n (-1))
theorem HQ (at_ a:Xa0)(n i:Nat):OH at_ a n (i+1)=(OH at_ a n i).set (at_[i]?.getD 0).toNat (a[i]?.getD 0):=by unfold OH;rw [dN]
theorem Dg (at_ im:Xa0)(n:Nat):∀ i,(OH at_ im n i).length=n
 | 0=>by simp [OH]
 | i+1=>by rw [HQ,iU];exact Dg at_ im n i
theorem C9 (n:Nat)(z:n<=1000000)(at_ a:Xa0)(v:∀ x∈at_,0<=x/\x<n)(D:at_.length<=a.length):Pua 367 [dI n,dLI at_,dLI a] (dLI (AC n at_ a)):=by
 refine Tz.pK ⟨λt=>t==7,λ_=>[]⟩ func367 rfl (λQ u=>?_);have Y:=trivial;refine wv (h:=bC (λi e H=>(e 0=dI n/\e 1=dLI at_/\e 2=dLI a/\e 7=.own 0 i/\e 8=dI i)/\(H.get 0=some ⟨3,1,(List.replicate i (-1:Int)).map cI,false⟩)/\(0<H.next)/\(i<=n)) (λi=>n - i) 0 ⟨wg,(by simp [go_sem]),wn,wi⟩ λF r i e H b=>?_);obtain ⟨y,j,d,B⟩:=b;have Y:=xa2 Y y j (bP d);refine c8 (λs=>?_) λs=>?_
 .have Y:=wa Y s;exact wp (h:=wx r (i+1) ⟨wg,(by simp [go_sem,Y,List.replicate_succ',cI]),wn,wj⟩)
 .have hin:i=n:=bZ;refine wv (h:=bC (λk e H=>(e 0=dI n/\e 1=dLI at_/\e 2=dLI a/\e 7=.own 0 n/\e 9=dI k)/\(H.get 0=some ⟨3,1,(OH at_ a n k).map cI,false⟩)/\(0<H.next)/\(k<=at_.length)/\((OH at_ a n k).length=n)) (λk=>at_.length - k) 0 ⟨wg,(by simp [go_sem,Y,OH,hin]),wn,wi,(by exact Dg _ _ _ _)⟩ λE q k e H m=>?_);obtain ⟨w,g,c,A,l⟩:=m;have Y:=xa3 Y w g (bP c) l;refine wv (h:=?_);repeat first|intro _|refine ⟨gX,?_⟩
  refine wq (λf=>?_) λf=>?_
  .have hki:k<a.length:=bZ;have C:=v _ (aC f);have p:at_[k]?.getD 0=at_[k]:=by rw [aA f];rfl
   have b:a[k]?.getD 0=a[k]:=by rw [aA hki];rfl
   have o:at_[k].toNat<(OH at_ a n k).length:=bZ;have Y:=xa3 Y f (aA f) (aA hki) (aA o);exact wp (h:=wx q (k+1) ⟨wg,(by simp [go_sem,Y,HQ,bJ,p,b,cI]),wn,wj,(by exact Dg _ _ _ _)⟩)
  .have hP:AC n at_ a=OH at_ a n k:=by unfold AC OH;rw [(bZ:k=at_.length)]
   exact wv (h:=u _ _ (by simp [go_sem,Y,hP,dLI]))
def MH (len i:Nat):List Bool:=(List.range i).map λj=>decide (j<len)
theorem UW (len i:Nat):MH len (i+1)=MH len i++[decide (i<len)]:=by simp [MH,dM]
theorem MF (len i:Nat):(MH len i).length=i:=by simp [MH]
theorem MG (len n:Nat)(h:len<=n):MH len n=List.replicate len true++List.replicate (n - len) false:=by
 apply iE (by simp [MH];omega);intro i b a;simp only [MH,uY,q9,List.getElem_append,List.getElem_replicate,fA];split
 .rename_i h3;simpa using h3
 .rename_i h3;simpa using h3
theorem WL (len i n:Nat)(h:i<n):(MH len i++List.replicate (n - i) false).set i (decide (i<len))=MH len (i+1)++List.replicate (n - (i+1)) false:=by
 rw [nO _ _ (by rw [MF];omega),MF,Aa,UW,show n - i=(n - (i+1))+1 by omega,p5];simp
def TF (len n i:Nat):List Bool:=MH len i++List.replicate (n - i) false
theorem UX (len n:Nat):TF len n 0=List.replicate n false:=by simp [TF,MH]
theorem WN {len n i:Nat}(h:i<=n):(TF len n i).length=n:=by simp [TF,MF];omega
theorem WM {len n i:Nat}(h:i<n):(TF len n i).set i (decide (i<len))=TF len n (i+1):=WL len i n h
theorem Se (len n:Nat):TF len n n=MH len n:=by simp [TF]
def Ji (vs:Xa0)(i:Nat):Xa0:=vs++List.replicate (i - vs.length) 0
theorem NB (vs:Xa0)(i:Nat):Ji vs (i+1)=if vs.length<=i then Ji vs i++[0] else Ji vs i:=by
 unfold Ji;split
 .rename_i h;rw [(bZ:i+1 - vs.length=(i - vs.length)+1),List.replicate_succ',List.append_assoc]
 .rename_i h;rw [(bZ:i+1 - vs.length=0),(bZ:i - vs.length=0)]
theorem RK (vs:Xa0)(i:Nat):(Ji vs i).length=max vs.length i:=by simp [Ji];omega
theorem Ul {x:Test}{vs:Xa0}{n:Nat}(a:Jh x n):By x vs = !((decide (x.F=1)&&decide (dH x.right vs<dH x.left vs))||(decide (x.F=2)&&!decide (dH x.left vs=dH x.right vs))):=by
 rcases a.1 with h|h
 .unfold By;rw [h];simp;rw [aU];simp
 .unfold By;rw [h];simp
theorem Mp (p:Pattern)(h:Host)(m:Part)(U:SOk p h m)(vs:Xa0)(hl:vs.length<=p.vars.toNat)(hs:∀ v∈vs,-2000000<=v/\v<=2000000) :
  Pua 369 [p.d,h.d,m.d,dLI vs] (.tup [dLI (fK p h m vs).1,.bool (decide ((fK p h m vs).2=0))]):=by
 have hv:=U.vars;have h0:=NN hv.1 hl hs;have a3:Ji vs 0=vs:=by simp [Ji]
 have L:L3 p vs=(Ji vs p.vars.toNat,MH vs.length p.vars.toNat):=by unfold L3;rw [MG _ _ hl];rfl
 refine Tz.pK ⟨λt=>t==14||t==19||t==24,λr=>match r with|15=>[(5,14),(6,14),(7,14)]|_=>[]⟩ func369 rfl (λQ W=>?_);have Y:=xa6 a3 @Pattern.d.eq_1 @Pattern.c.eq_1 @Host.d.eq_1 @Host.c.eq_1 @Part.d.eq_1 @Part.c.eq_1 @Term.c.eq_1;refine wp (h:=bC (λi e H=>(e 4=.adr p.c/\e 5=.adr h.c/\e 6=.adr m.c/\e 3=dLI vs/\e 10=.own 0 (Ji vs i).length/\e 11=.own 1 p.vars.toNat/\e 12=dI i)/\(H.get 0=some ⟨3,1,(Ji vs i).map cI,false⟩)/\(0<H.next)/\(H.get 1=some ⟨4,1,(TF vs.length p.vars.toNat i).map cB,false⟩)/\(1<H.next)/\(i<=p.vars.toNat)) (λi=>p.vars.toNat - i) 0 ⟨wg,(by simp [go_sem,Ji]),wn,(by simp [go_sem,UX,cB]),wn,wi⟩ λI0 a8 i e H b9=>?_);obtain ⟨E0,b3,a2,b0,Z,hi⟩:=b9;have Y:=xa4 Y E0 b3 (bP a2) b0 (bP Z);refine c8 (λh4=>?_) λh4=>?_
 .have hI:=RK vs i;have hK:=WM (len:=vs.length) (n:=p.vars.toNat) (i:=i) bZ;have c1:=WN (len:=vs.length) (n:=p.vars.toNat) (i:=i) bZ;have c2:i<(TF vs.length p.vars.toNat i).length:=bZ;have c0:((TF vs.length p.vars.toNat i).map cB).set i [.bool (decide (i<vs.length))]=(TF vs.length p.vars.toNat (i+1)).map cB:=by rw [<- hK,bJ];rfl
  have Y:=xa3 Y h4 c1 (aA c2) c0;refine kI (λh7=>?_) λh7=>?_
  .have hVs:Ji vs (i+1)=Ji vs i++[0]:=by rw [NB,if_pos bZ]
   have Y:=wa Y hVs;exact wp (h:=wx a8 (i+1) ⟨wg,(by simp [go_sem,Y]),wn,(by simp [go_sem,Y]),wn,wj⟩)
  .have hVs:Ji vs (i+1)=Ji vs i:=by rw [NB,if_neg bZ]
   have Y:=wa Y hVs;exact wp (h:=wx a8 (i+1) ⟨wg,(by simp [go_sem,Y]),wn,(by simp [go_sem,Y]),wn,wj⟩)
 .have hin:i=p.vars.toNat:=bZ;have hI:=RK vs i;rw [hin,Nat.max_eq_right hl] at hI;have c7:TF vs.length i i=MH vs.length i:=Se _ _;have a7:=Se vs.length p.vars.toNat
  have Y:=xa2 Y hin hI a7;refine wv (h:=bC (λi e H=>∃ o:Xa0 × List Bool,(e 4=.adr p.c/\e 5=.adr h.c/\e 6=.adr m.c/\e 3=dLI vs/\e 10=.own 0 p.vars.toNat/\e 11=.own 1 p.vars.toNat/\e 13=dI i)/\(H.get 0=some ⟨3,1,o.1.map cI,false⟩)/\(0<H.next)/\(H.get 1=some ⟨4,1,o.2.map cB,false⟩)/\(1<H.next)/\(i<=p.q.length)/\(StOk p.vars.toNat o)/\(j6 h m (L3 p vs) (p.q.take i)=some o)) (λi=>p.q.length - i) 0 ⟨((Ji vs p.vars.toNat,MH vs.length p.vars.toNat)),wg,(by simp [go_sem,Y,hin]),wn,(by simp [go_sem,Y,hin,a7]),wn,wi,(by rw [<- L];exact h0),(by rw [L];rfl)⟩ λI2 J i e H b8=>?_);obtain ⟨o,E2,b2,a1,a9,X,hi,q,P⟩:=b8;have Y:=xa4 Y E2 b2 (bP a1) a9 (bP X);refine wv (h:=?_);repeat first|intro _|refine ⟨gX,?_⟩
  refine wq (λu=>?_) λu=>?_
  .obtain ⟨x,hx⟩:=fH (p.q[i]);have F:x∈p.q:=hx ▸ aC u;have hn:=U.node x F;have A:x.node.toNat<m.h.length:=bZ;have hk:=U.bx _ (aC A);have w:(m.h[x.node.toNat]).toNat<h.k.length:=bZ;have ha:=U.P x F;rw [aA A,aD,aA w,aD] at ha;have G:x.P.toNat<(h.k[(m.h[x.node.toNat]).toNat]).length:=bZ;have hV:mH h m x=h.k[(m.h[x.node.toNat]).toNat][x.P.toNat]:=by unfold mH;rw [aA A,aD,aA w,aD,aA G];rfl
   have hb:=U.cf F;have M:=U.C x F;have C:=q.l1;have R:=q.l2;have c5:=M.1;have c6:=M.2;have s:=u9 u P;rw [<- hx] at s;obtain ⟨z,g⟩:∃ y,y=mY h m o x:=⟨_,rfl⟩;have l:StOk p.vars.toNat z:=g ▸ Aj q hb M;rw [<- g] at s;have j:¬ 0<=x.C.R->z=o:=λhn=>by rw [g];unfold mY lS;rw [if_neg (by simp [hn])]
   have N:0<=x.C.R->x.C.R.toNat<o.2.length:=λhn=>by omega
   obtain ⟨kb,a4⟩:=fH (o.2[x.C.R.toNat]?.getD false);have S:0<=x.C.R\/(¬ 0<=x.C.R/\o.2[x.C.R.toNat]?=none)\/(¬ 0<=x.C.R/\o.2[x.C.R.toNat]?=some kb):=by
    by_cases O:0<=x.C.R
    .exact .inl O
    .right
     cases ho:o.2[x.C.R.toNat]? with
     | none=>exact .inl ⟨O,rfl⟩
     | some b=>rw [ho] at a4;exact .inr ⟨O,by rw [a4];rfl⟩
   rcases S with hc|hc|hc
   .have Y:=xa3 Y u (aA u) (Eq.symm hx) (xb0 (aA A) (aA w) (aA G) (Eq.symm hV) @Slot.c.eq_1 @cL.eq_1 C R @lF @cB.eq_1 hc ((aA (N hc))));refine kI (λV=>?_) λV=>?_
    .have hF:lS o x=true:=by simp only [lS,aL,decide_eq_true_eq,b7];exact ⟨hc,by simpa [aA (N hc)] using V⟩
     unfold mY at g;rw [if_pos hF] at g;have b4:x.C.R.toNat<o.1.length:=bZ;have e1:z.1.map cI=(o.1.map cI).set x.C.R.toNat (cI (mH h m x - x.C.add)):=by rw [g,bJ]
     have e2:z.2.map cB=(o.2.map cB).set x.C.R.toNat (cB true):=by rw [g,bJ]
     have c4:D.V ((o.1.map cI).set x.C.R.toNat [D.int .i64 (mH h m x - x.C.add)])=true:=by have:=mO z.1;rw [e1] at this;exact this
     have Y:=xa5 Y e1 e2 @dLI.eq_1 @cI.eq_1 (aA b4) c4;refine wp (h:=d8 (kK x.C z.1 (by rw [l.l1];exact M) l.ba) wr wl rfl ?_);refine kI (λf=>?_) λf=>?_
     .have I:=eO (s.2 (by first|simpa using f|simpa [j hc.1] using f|simpa [g] using f));exact wv (h:=W _ _ (by simp [go_sem,I]))
     .have hstep:=s.1 (by first|simpa using f|simpa [j hc.1] using f|simpa [g] using f);exact wp (h:=wx J (i+1) ⟨z,wg,(by simp [go_sem,Y]),wn,(by simp [go_sem,Y]),wn,wj,(by exact l),(by exact hstep)⟩)
    .have hF:¬ lS o x=true:=by simp only [lS,aL,decide_eq_true_eq,b7];rintro ⟨_,hk⟩;simp [aA (N hc)] at hk;simp [hk] at V
     unfold mY at g;rw [if_neg hF] at g;have Y:=wa Y g;refine wv (h:=d8 ((by first|exact kK x.C z.1 (by rw [l.l1];exact M) l.ba|exact kK p.I[k].left o.1 (by rw [q.l1];exact hX.2.1) q.ba)) wr wl rfl ?_);refine c8 (λf=>?_) λf=>?_
     .have I:=eO (s.2 (by first|simpa using f|simpa [j hc.1] using f|simpa [g] using f));exact wv (h:=W _ _ (by simp [go_sem,I]))
     .have hstep:=s.1 (by first|simpa using f|simpa [j hc.1] using f|simpa [g] using f);exact wp (h:=wx J (i+1) ⟨z,wg,(by simp [go_sem,Y]),wn,(by simp [go_sem,Y]),wn,wj,(by exact l),(by exact hstep)⟩)
   .have Y:=xa4 Y u (aA u) (Eq.symm hx) (aA A) (xb0 (aA w) (aA G) (Eq.symm hV) @Slot.c.eq_1 @cL.eq_1 C R @lF @cB.eq_1 hc.1 hc.2 (j hc.1));refine wp (h:=d8 (kK x.C z.1 (by rw [l.l1];exact M) l.ba) wr wl rfl ?_);refine kI (λf=>?_) λf=>?_
    .have I:=eO (s.2 (by first|simpa using f|simpa [j hc.1] using f|simpa [g] using f));exact wv (h:=W _ _ (by simp [go_sem,I]))
    .have hstep:=s.1 (by first|simpa using f|simpa [j hc.1] using f|simpa [g] using f);exact wp (h:=wx J (i+1) ⟨z,wg,(by simp [go_sem,Y]),wn,(by simp [go_sem,Y]),wn,wj,(by exact l),(by exact hstep)⟩)
   .have Y:=xa4 Y u (aA u) (Eq.symm hx) (aA A) (xb0 (aA w) (aA G) (Eq.symm hV) @Slot.c.eq_1 @cL.eq_1 C R @lF @cB.eq_1 hc.1 hc.2 (j hc.1));refine wp (h:=d8 (kK x.C z.1 (by rw [l.l1];exact M) l.ba) wr wl rfl ?_);refine kI (λf=>?_) λf=>?_
    .have I:=eO (s.2 (by first|simpa using f|simpa [j hc.1] using f|simpa [g] using f));exact wv (h:=W _ _ (by simp [go_sem,I]))
    .have hstep:=s.1 (by first|simpa using f|simpa [j hc.1] using f|simpa [g] using f);exact wp (h:=wx J (i+1) ⟨z,wg,(by simp [go_sem,Y]),wn,(by simp [go_sem,Y]),wn,wj,(by exact l),(by exact hstep)⟩)
  .rw [aH bZ] at P;have T:=qC P;have C:=q.l1;have Y:=wa Y C;refine wv (h:=bC (λk e H=>(e 4=.adr p.c/\e 5=.adr h.c/\e 6=.adr m.c/\e 3=dLI vs/\e 10=.own 0 p.vars.toNat/\e 18=dI k)/\(H.get 0=some ⟨3,1,o.1.map cI,false⟩)/\(0<H.next)/\(k<=p.I.length)/\((p.I.take k).all (λx=>By x o.1)=true)) (λk=>p.I.length - k) 0 ⟨wg,wn,wn,wi,(by rfl)⟩ λI4 c3 k e H b5=>?_);obtain ⟨E4,b1,a0,hk,E⟩:=b5;have Y:=xa2 Y E4 b1 (bP a0);refine wv (h:=?_);repeat first|intro _|refine ⟨gX,?_⟩
   refine wq (λB=>?_) λB=>?_
   .have hX:=U.test _ (aC B);have a6:=Ul (vs:=o.1) hX;have Y:=xa2 Y B (aA B) @Test.c.eq_1;refine wp (h:=d8 ((by first|exact kK x.C z.1 (by rw [l.l1];exact M) l.ba|exact kK p.I[k].left o.1 (by rw [q.l1];exact hX.2.1) q.ba)) wr wl rfl ?_);refine wp (h:=d8 (kK p.I[k].right o.1 (by rw [q.l1];exact hX.2.2) q.ba) wr wl rfl ?_);refine kI (λK=>?_) λK=>?_
    .have hT0:By p.I[k] o.1=false:=by
      rw [a6,Bool.not_eq_false'];rcases K with ⟨a,b⟩|⟨a,b⟩
      .simp [a,b]
      .simp [a,b]
     have I:fK p h m vs=([],16):=by
      rw [T,if_neg];intro ha;rw [b6] at ha;have:=ha _ (aC B);rw [hT0] at this;cases this
     exact wv (h:=W _ _ (by simp [go_sem,I]))
    .have hT1:By p.I[k] o.1=true:=by
      rw [a6];simp;exact ⟨by by_cases a5:p.I[k].F=1;exact .inr (K.1 a5);exact .inl a5,by by_cases w:p.I[k].F=2;exact .inr (K.2 w);exact .inl w⟩
     exact wp (h:=wx c3 (k+1) ⟨wg,wn,wn,wj,(by rw [aF B,oY,E];simp;exact hT1)⟩)
   .rw [aH bZ] at E;rw [if_pos E] at T;exact wv (h:=W _ _ (by simp [go_sem,Y,T,dLI]))
/-! ### extensions -/
structure MatOk (t:Types) (p:Pattern) (h:Host) (m:Mat):Prop where
 ej:MOk t p.j h.j m.m
 vl:m.vars.length=p.vars.toNat
 vs:∀ v∈m.vars,-2000000<=v/\v<=2000000
structure ExOk (t:Types) (p:Pattern) (mp:Part) (q:Pattern):Prop where
 pq:PatOk t q
 pv:p.vars<=q.vars
 p0:0<=p.vars
 mo:cY p.j q.j mp=0
theorem ExOk.bx {t:Types}{p:Pattern}{a:Part}{q:Pattern}(h:ExOk t p a q):(a.h.length=p.j.h.length/\a.i.length=p.j.i.length)/\(∀ x∈a.h,0<=x/\x<q.j.h.length)/\(∀ x∈a.i,0<=x/\x<q.j.i.length):=by
 have:=dA h.mo;exact ⟨this.2.2,(jT h.mo).1,(jT h.mo).2⟩
theorem IA {t:Types}{p g:Graph}{q:Part}{a:Bool}{m:Part}(h:m∈(oV t p g q a).1):MOk t p g m:=by
 unfold oV at h;split at h
 .cases h
 .split at h
  .cases h
  .split at h
   .cases h
   .split at h
    .cases h
    .unfold Pu at h;split at h
     .cases h
     .exact VM (S:=⟨t,p,g,_,_,a⟩) (dL h)
theorem Ug {t:Types}{q:Pattern}{h:Host}{vars:Xa0}{l:List Part}(hp:PatOk t q)(ho:HostOk t h)(hl:∀ x∈l,MOk t q.j h.j x)(hv:vars.length<=q.vars.toNat)(hs:∀ v∈vars,-2000000<=v/\v<=2000000):∀ m∈BL q h vars l,MatOk t q h m:=λm hm=>by
 unfold BL at hm;rw [List.mem_filterMap] at hm;obtain ⟨x,hx,he⟩:=hm;split at he
 .rename_i h0;cases he
  obtain ⟨h1,h2⟩:=B8 (Yf hp ho (hl x hx)) hv hs h0;exact ⟨hl x hx,h1,h2⟩
 .cases he
theorem Su {t:Types}{p:Pattern}{c:Part}{q:Pattern}{h:Host}{m:Mat}{a:Bool}(b:ExOk t p c q)(f:HostOk t h)(d:MatOk t p h m):∀ x∈(z7 t c q h m a).1,MatOk t q h x:=by
 unfold z7;split
 .simp
 .exact Ug b.pq f (λx e=>IA e) (by have:=d.vl;have:=b.pv;have:=b.p0;omega) d.vs
theorem Ex (t:Types)(N:t.ok)(p:Pattern)(c:Cond)(z:ExOk t p c.map c.n)(h:Host)(O:HostOk t h)(m:Mat)(B:MatOk t p h m)(b:Bool) :
  Pua 321 [t.d,.agg c.c,h.d,m.d,.bool b] (.tup [.list ((z7 t c.map c.n h m b).1.map Mat.c),dI (z7 t c.map c.n h m b).2]):=by
 obtain ⟨⟨U,T⟩,G,F⟩:=z.bx;have l:=aY z.pq.gg;have R:=B.ej.len;have P:=B.ej.bz;refine Tz.pK ⟨λt=>t==12||t==13||t==16,λr=>match r with|2=>[(0,23),(1,23),(2,23),(3,23),(4,23),(5,23),(6,23),(7,23),(8,23),(9,23),(10,23),(11,23),(12,23),(13,23),(14,23),(15,23),(16,23),(17,23),(18,23),(19,23),(20,23),(21,23)]|_=>[]⟩ func321 rfl (λQ K=>?_);obtain ⟨X,C⟩:=fH (oV t c.n.j h.j (qI c.map c.n m.m) b);have J:∀ x∈X.1,MOk t c.n.j h.j x:=λx M=>IA (C ▸ M);have V:X.1.length<=5000:=C ▸ Ss _ _ _ _ _;have D:m.vars.length<=c.n.vars.toNat:=by have:=B.vl;have:=z.pv;have:=z.p0;omega
 have j:z7 t c.map c.n h m b=if X.2≠0 then ([],X.2) else (BL c.n h m.vars X.1,0):=by unfold z7;rw [<- C]
 have Y:=xa3 @Cond.E @Host.d.eq_1 @Host.c.eq_1 @Mat.d.eq_1 @Mat.c.eq_1;refine wp (h:=aI (C9 c.n.j.h.length bZ c.map.h m.m.h G bZ) wl ?_);refine wp (h:=aI (C9 c.n.j.i.length bZ c.map.i m.m.i F bZ) wl ?_);refine wp (h:=aB ((by have l:=Ms t N c.n.j h.j (qI c.map c.n m.m) b;rw [<- C] at l;unfold qI Types.d Types.c Graph.d Graph.c Part.d Part.c dLI at l;exact l)) wl ?_);refine kI (λL=>?_) λL=>?_
 .rw [if_pos L] at j;exact wv (h:=K _ _ (by simp [go_sem,j]))
 .rw [if_neg bZ] at j;refine wv (h:=bC (λi e H=>∃ k:List Mat,(e 5=.adr t.c/\e 6=.adr c.c/\e 7=.adr h.c/\e 8=.adr m.c/\e 4=.bool b/\e 12=.ptr 0 1 0 0/\e 14=.list (X.1.map Part.c)/\e 16=.own 26 k.length/\e 17=dI i)/\(H.get 0=some ⟨33,5,[c.n.c],false⟩)/\(0<H.next)/\(H.get 26=some ⟨47,3,k.map Mat.c,false⟩)/\(26<H.next)/\(i<=X.1.length)/\(k=BL c.n h m.vars (X.1.take i))/\(k.length<=i)) (λi=>X.1.length - i) 0 ⟨([]),wg,wn,wn,wn,wn,wi,(by rfl),(by simp)⟩ λI0 w i e H I=>?_);obtain ⟨k,W,A,u,q,n,Z,g,S⟩:=I;have Y:=xa4 Y W A (bP u) q (bP n);refine kI (λs=>?_) λs=>?_
  .obtain ⟨v,E⟩:=fH (fK c.n h X.1[i] m.vars);obtain ⟨f,a⟩:∃ y,y=k++if v.2=0 then [(⟨X.1[i],v.1⟩:Mat)] else []:=⟨_,rfl⟩
   have Y:=xa3 Y s (aA s) @Part.c.eq_1 @Pattern.c.eq_1;refine wp (h:=aI ((by have l:=Mp c.n h X.1[i] (Yf z.pq O (J _ (aC s))) m.vars D B.vs;rw [<- E] at l;unfold Pattern.d Pattern.c Host.d Host.c Part.d Part.c dLI at l;exact l)) wl ?_);refine kI (λo=>?_) λo=>?_
   .have hm3:f=k++[⟨X.1[i],v.1⟩]:=by rw [a,if_pos (eL o)]
    have Y:=wa Y hm3;exact wp (h:=wx w (i+1) ⟨f,wg,wn,wn,wn,wn,wj,(by rw [aF s,yJ,<- g,<- E];exact a),(by rw [a];split<;>simp<;>omega)⟩)
   .have hm3:f=k:=by rw [a,if_neg (eL o),cZ]
    have Y:=wa Y hm3;exact wp (h:=wx w (i+1) ⟨f,wg,wn,wn,wn,wn,wj,(by rw [aF s,yJ,<- g,<- E];exact a),(by rw [a];split<;>simp<;>omega)⟩)
  .rw [aH bZ] at g;exact wv (h:=K _ _ (by simp [go_sem,Y,j,<- g]))
theorem O4 (l:List Cond):l.length<=Cond.ag l:=by
 induction l with
 | nil=>simp [Cond.ag]
 | cons a l ih=>have:=yP a;simp only [Cond.ag,e9];omega
structure CondV (t:Types) (p:Pattern) (c:Cond):Prop where
 wf:Nz c=true
 fr:sH t p c=0
 Z:c.size<=1000000
theorem CondV.kinds {t:Types}{p:Pattern}{c:Cond}(h:CondV t p c):(c.F=2\/c.F=5->c.w.length=1)/\(1<=c.F/\c.F<=5):=by
 have:=h.wf;rw [wC,aL] at this;have a:=this.1;unfold s7 at a;split at a
 .omega
 .split at a
  .rw [aL,decide_eq_true_eq] at a;omega
  .split at a
   .omega
   .rw [aL,decide_eq_true_eq,decide_eq_true_eq] at a;omega
theorem CondV.ex {t:Types}{p:Pattern}{c:Cond}(h:CondV t p c)(f:c.F=5)(g:PatOk t p):ExOk t p c.map c.n/\∀ k∈c.w,CondV t c.n k:=by
 have b:=h.fr;have e:=h.wf;rw [GM,if_pos f,if_pos f] at b;rw [wC,aL,b6] at e;by_cases a:kS t p c.map c.n=0
 .rw [if_neg bZ] at b;refine ⟨?_,λk d=>⟨e.2 k d,rL b k d,by have:=yP c;have:=CU d;have:=h.Z;omega⟩⟩;unfold kS at a;split at a
  .cases a
  .rename_i h1;split at a
   .exact absurd a (by assumption)
   .rename_i h2;split at a
    .exact absurd a (by assumption)
    .rename_i h3;rw [kU] at h2 h3;refine ⟨OJ ?_,bZ,g.vars.1,h3⟩;unfold pL at h2;split at h2
     .exact .inr h2
     .rename_i h4;left;omega
 .rw [if_pos a] at b;exact absurd b a
theorem CondV.di {t:Types}{p:Pattern}{c:Cond}(h:CondV t p c)(e:c.F≠5):∀ k∈c.w,CondV t p k:=by
 have d:=h.fr;have b:=h.wf;rw [GM,if_neg e,if_neg e,if_neg bZ] at d;rw [wC,aL,b6] at b;exact λk a=>⟨b.2 k a,rL d k a,by have:=yP c;have:=CU a;have:=h.Z;omega⟩
theorem xX {α β:Type}(f:α->β){l:List α}{i:Nat}(h:i<l.length):(l.drop i).map f=f l[i] :: (l.drop (i+1)).map f:=by rw [fI h,gJ]
theorem Bm {t:Types}{h:Host}{b:Bool}{l:List Cond}(c:0<l.length):Pb (l.map (p8 t h b))=p8 t h b l[0]:=by
 cases l with
 | nil=>cases c
 | cons a l=>rfl
theorem CM (t:Types)(h:Host)(d:Bool)(c:Cond)(m:Mat):∃ wc wm wk we,p8 t h d c m=(Prf.mk wc wm wk,we):=by
 cases e:p8 t h d c m with
 | mk a b=>cases a;exact ⟨_,_,_,_,rfl⟩
theorem Oa (t:Types)(ht:t.ok)(h:Host)(ho:HostOk t h)(b:Bool):∀ (c:Cond) (p:Pattern),CondV t p c->PatOk t p->∀ m:Mat,MatOk t p h m ->
  Pua 252 [t.d,.agg c.c,h.d,m.d,.bool b] (.tup [.agg (p8 t h b c m).1.c,dI (p8 t h b c m).2]):=by
 refine Cond.bm λc ih p L hp m S=>?_;obtain ⟨U,b4⟩:=L.kinds;have T:c.w.length<=1000000:=by have:=O4 c.w;have:=yP c;have:=L.Z;omega
 have f:=LR t h b c m;obtain ⟨W,a8⟩:=fH (p8 t h b c m);rw [<- a8] at f ⊢;refine pH (by first|rfl|(simp [go_sem];done)) (λQ u=>(Tz.cK ⟨λt=>t==10||t==12||t==14||t==16||t==19||t==24,λr=>match r with|3=>[(0,12),(1,12),(2,12),(3,12),(4,12),(5,12),(6,12),(8,12)]|14=>[(0,13),(1,13),(2,13),(4,13),(5,13),(6,13),(7,13),(9,13)]|23=>[(0,13),(1,13),(2,13),(4,13),(5,13),(6,13),(7,13),(9,13)]|34=>[(0,15),(1,15),(2,15),(3,15),(4,15),(5,15),(8,15),(9,15),(11,15)]|36=>[(2,5),(3,5)]|_=>[]⟩ func252 rfl ?_));have Y:=xa4 @Cond.E @Host.d.eq_1 @Host.c.eq_1 @Mat.d.eq_1 @Mat.c.eq_1 @Prf.E;refine c8 (λh2=>?_) λh2=>?_
 .have h2':c.F=2:=by simpa using h2
  have C:0<c.w.length:=by have:=U (.inl h2');omega
  obtain ⟨A,j⟩:∃ k,k=c.w[0]:=⟨_,rfl⟩;have s:A∈c.w:=j ▸ aC C;have b2:=L.di bZ A s;obtain ⟨wc,wm,wk,we,o⟩:=CM t h b A m;rw [if_pos h2',Bm C,<- j,o] at f;unfold WF at f;have Y:=xa2 Y (aA C) (Eq.symm j) h2';refine wp (h:=aI ((by have l:=ih A s p b2 hp m S;simp only [o,Prf.E,Cond.E] at l;unfold Types.d Types.c Host.d Host.c Mat.d Mat.c dLI dI at l;exact l)) wl ?_);refine kI (λh4=>?_) λh4=>?_
  .rw [if_pos (eL h4)] at f;refine wv (h:=?_);exact u _ _ (by simp [go_sem,Y,f,kL,fZ,Prf.E,mM,jM,eU,dLI,c7,gC])
  .rw [if_neg (eL h4)] at f;refine c8 (λh6=>?_) λh6=>?_
   .rw [if_pos (eL h6)] at f;refine wv (h:=?_);exact u _ _ (by simp [go_sem,Y,f,kL,fZ,Prf.E,mM,jM,eU,dLI,c7,gC])
   .rw [if_neg (eL h6)] at f;refine wv (h:=?_);exact u _ _ (by simp [go_sem,Y,f,kL,fZ,Prf.E,mM,jM,eU,dLI,c7,gC])
 .have h2':c.F≠2:=by simpa using h2
  rw [if_neg h2'] at f;refine c8 (λh9=>?_) λh9=>?_
  .have h9':c.F=3:=by simpa using h9
   have v:=L.di bZ;rw [if_pos h9'] at f;have Y:=wa Y h9';refine wv (h:=nE (Ghosts.step (Ghosts.refl _) 1 0 4 263 5 _ _ ((by simp [go_sem];rfl)) rfl rfl rfl) (λi e H=>∃ K:List Prf,(e 5=.adr t.c/\e 6=.adr c.c/\e 7=.adr h.c/\e 8=.adr m.c/\e 4=.bool b/\e 10=.ptr 0 1 0 0/\e 14=.ptr 1 1 0 0/\e 15=dI i)/\(H.get 0=some ⟨263,5,[[dI 0,.nil,.nil,.nil,.nil]],false⟩)/\(0<H.next)/\(H.get 1=some ⟨263,5,[[dI 0,.nil,.nil,.nil,.own 2 K.length]],false⟩)/\(1<H.next)/\(H.get 2=some ⟨263,5,K.map Prf.c,false⟩)/\(2<H.next)/\(i<=c.w.length)/\(Nf ((c.w.drop i).map λk=>p8 t h b k m) K=W)/\(K.length<=i)/\(c.w.length<=1000000)) (λi=>c.w.length - i) 0 ⟨([]),wg,wn,wn,wn,wn,wn,wn,wi,(by exact f.symm),eG,(by exact T)⟩ λI1 b1 i e H a6=>?_);obtain ⟨K,E1,a2,R,Z,N,V,M,hi,n,b3,a3⟩:=a6;have Y:=xa6 Y E1 a2 (bP R) Z (bP N) V (bP M);refine wv (h:=?_);repeat first|intro _|refine ⟨gX,?_⟩
   refine wq (λz=>?_) λz=>?_
   .obtain ⟨B,g⟩:∃ k,k=c.w[i]:=⟨_,rfl⟩;have q:B∈c.w:=g ▸ aC z;obtain ⟨wc,wm,wk,we,o⟩:=CM t h b B m;have a:=n;rw [xX _ z,<- g,o] at a;simp only [Nf] at a;have Y:=xa2 Y z (aA z) (Eq.symm g);refine wp (h:=aI ((by have l:=ih B q p (v B q) hp m S;simp only [o,Prf.E,Cond.E] at l;unfold Types.d Types.c Host.d Host.c Mat.d Mat.c dLI dI at l;exact l)) wl ?_);refine kI (λJ=>?_) λJ=>?_
    .rw [if_pos (eL J)] at a;refine wv (h:=?_);exact u _ _ (by simp [go_sem,Y,<- a,kL,fZ,Prf.E,mM,jM,eU,dLI,c7,gC])
    .rw [if_neg (eL J)] at a;exact wp (h:=wx b1 (i+1) ⟨(K++[.mk wc wm wk]),wg,wn,wn,wn,wn,wn,wn,wj,(by exact a),(by simp;omega),(by exact a3)⟩)
   .rw [kH bZ] at n;simp only [jJ,Nf] at n;refine wv (h:=?_);exact u _ _ (by simp [go_sem,Y,<- n,kL,fZ,Prf.E,mM,jM,eU,dLI,c7,gC])
  .have h9':c.F≠3:=by simpa using h9
   rw [if_neg h9'] at f;refine c8 (λI=>?_) λI=>?_
   .have h19':c.F=4:=by simpa using I
    have v:=L.di bZ;rw [if_pos h19'] at f;have Y:=wa Y h19';refine wv (h:=bC (λi e H=>(e 5=.adr t.c/\e 6=.adr c.c/\e 7=.adr h.c/\e 8=.adr m.c/\e 4=.bool b/\e 10=.ptr 0 1 0 0/\e 18=dI i)/\(H.get 0=some ⟨263,5,[[dI 0,.nil,.nil,.nil,.nil]],false⟩)/\(0<H.next)/\(i<=c.w.length)/\(Ww ((c.w.drop i).map λk=>p8 t h b k m) i=W)) (λi=>c.w.length - i) 0 ⟨wg,wn,wn,wi,(by exact f.symm)⟩ λI3 b0 i e H a5=>?_);obtain ⟨E3,a1,P,hi,n⟩:=a5;have Y:=xa2 Y E3 a1 (bP P);refine wv (h:=?_);repeat first|intro _|refine ⟨gX,?_⟩
    refine wq (λy=>?_) λy=>?_
    .obtain ⟨B,g⟩:∃ k,k=c.w[i]:=⟨_,rfl⟩;have q:B∈c.w:=g ▸ aC y;obtain ⟨wc,wm,wk,we,o⟩:=CM t h b B m;have a:=n;rw [xX _ y,<- g,o] at a;simp only [Ww] at a;have Y:=xa2 Y y (aA y) (Eq.symm g);refine wp (h:=aI ((by have l:=ih B q p (v B q) hp m S;simp only [o,Prf.E,Cond.E] at l;unfold Types.d Types.c Host.d Host.c Mat.d Mat.c dLI dI at l;exact l)) wl ?_);refine kI (λG=>?_) λG=>?_
     .rw [if_pos (eL G)] at a;refine wv (h:=?_);exact u _ _ (by simp [go_sem,Y,<- a,kL,fZ,Prf.E,mM,jM,eU,dLI,c7,gC])
     .rw [if_neg (eL G)] at a;exact wp (h:=wx b0 (i+1) ⟨wg,wn,wn,wj,(by exact a)⟩)
    .rw [kH bZ] at n;simp only [jJ,Ww] at n;refine wv (h:=?_);exact u _ _ (by simp [go_sem,Y,<- n,kL,fZ,Prf.E,mM,jM,eU,dLI,c7,gC])
   .have h19':c.F≠4:=by simpa using I
    rw [if_neg h19'] at f;refine c8 (λF=>?_) λF=>?_
    .have h27':c.F=5:=by simpa using F
     obtain ⟨hE,v⟩:=L.ex h27' hp;have C:0<c.w.length:=by have:=U (.inr h27');omega
     obtain ⟨A,j⟩:∃ k,k=c.w[0]:=⟨_,rfl⟩;have s:A∈c.w:=j ▸ aC C;obtain ⟨X,hX⟩:=fH (z7 t c.map c.n h m b);have a7:∀ x∈X.1,MatOk t c.n h x:=hX ▸ Su hE ho S;rw [if_pos h27',Bm C,<- j,<- hX] at f;have Y:=xa2 Y (aA C) (Eq.symm j) h27';refine wv (h:=aB ((by have l:=Ex t ht p c hE h ho m S b;rw [<- hX,Cond.E,h27'] at l;unfold Types.d Types.c Host.d Host.c Mat.d Mat.c dLI dI at l;exact l)) wl ?_);refine c8 (λE=>?_) λE=>?_
     .rw [if_pos (eL E)] at f;refine wv (h:=?_);exact u _ _ (by simp [go_sem,Y,f,kL,fZ,Prf.E,mM,jM,eU,dLI,c7,gC])
     .rw [if_neg (eL E)] at f;refine wv (h:=bC (λi e H=>(e 5=.adr t.c/\e 6=.adr c.c/\e 7=.adr h.c/\e 8=.adr m.c/\e 4=.bool b/\e 10=.ptr 0 1 0 0/\e 21=.list (X.1.map Mat.c)/\e 23=dI i)/\(H.get 0=some ⟨263,5,[[dI 0,.nil,.nil,.nil,.nil]],false⟩)/\(0<H.next)/\(i<=X.1.length)/\(WZ ((X.1.drop i).map λx=>(x,p8 t h b A x))=W)) (λi=>X.1.length - i) 0 ⟨wg,wn,wn,wi,(by exact f.symm)⟩ λI5 a9 i e H a4=>?_);obtain ⟨E5,a0,O,hi,n⟩:=a4;have Y:=xa2 Y E5 a0 (bP O);refine wv (h:=?_);repeat first|intro _|refine ⟨gX,?_⟩
      refine wq (λw=>?_) λw=>?_
      .obtain ⟨wc,wm,wk,we,o⟩:=CM t h b A X.1[i];have a:=n;rw [xX _ w,o] at a;simp only [WZ] at a;have Y:=xa1 Y w (aA w);refine wp (h:=aI ((by have l:=ih A s c.n (v A s) hE.pq X.1[i] (a7 _ (aC w));simp only [o,Prf.E,Cond.E] at l;unfold Types.d Types.c Host.d Host.c Mat.d Mat.c dLI dI at l;exact l)) wl ?_);refine kI (λD=>?_) λD=>?_
       .rw [if_pos (eL D)] at a;refine wp (h:=?_);exact u _ _ (by simp [go_sem,Y,<- a,kL,fZ,Prf.E,mM,jM,eU,dLI,c7,gC])
       .rw [if_neg (eL D)] at a;exact wp (h:=wx a9 (i+1) ⟨wg,wn,wn,wj,(by exact a)⟩)
      .rw [kH bZ] at n;simp only [jJ,WZ] at n;refine wv (h:=?_);exact u _ _ (by simp [go_sem,Y,<- n,kL,fZ,Prf.E,mM,jM,eU,dLI,c7,gC])
    .have h27':c.F≠5:=by simpa using F
     rw [if_neg h27'] at f;refine wv (h:=?_);exact u _ _ (by simp [go_sem,Y,f,kL,fZ,Prf.E,mM,jM,eU,dLI,c7,gC])
theorem Oe (t:Types)(k:t.ok)(h:Host)(n:HostOk t h)(a:Bool)(c:Cond)(p:Pattern)(q:CondV t p c)(l:PatOk t p)(m:Mat)(o:MatOk t p h m) :
  Pua 170 [t.d,.agg c.c,h.d,m.d,.bool a] (.tup [.bool (o7 t h a c m).1,dI (o7 t h a c m).2]):=by
 have b:=Oa t k h n a c p q l m o;rw [Cond.E] at b;obtain ⟨u,r,s,f,i⟩:=CM t h a c m;have e:o7 t h a c m=if f=10 then (false,0) else (decide (f=0),f):=by unfold o7 Ui;rw [i]
 simp only [i,Prf.E] at b;refine Tz.pK ⟨λt=>t==12,λ_=>[]⟩ func170 rfl (λQ j=>?_);have Y:=xa4 @Cond.E @Host.d.eq_1 @Host.c.eq_1 @Mat.d.eq_1 @Mat.c.eq_1 @Prf.E;refine wv (h:=aB ((by have b:=b;unfold Types.d Types.c Host.d Host.c Mat.d Mat.c dLI dI at b;exact b)) wl ?_);refine c8 (λg=>?_) λg=>?_
 .rw [if_pos (eL g)] at e;exact wv (h:=j _ _ (by simp [go_sem,e]))
 .rw [if_neg (eL g)] at e;exact wv (h:=j _ _ (by simp [go_sem,e,Dy]))
structure RuleV (t:Types) (r:Rule):Prop where
 vf:(cQ t).2=0
 pl:PatOk t r.left
 gr:graphF r.right.j=0
 tr:eY t r.right.j=true
 sub:subF r.left.j r.u=0
 mo:cY (bG r.left.j r.u) r.right.j r.A=0
 inj:jN (bG r.left.j r.u) r.right.j r.A=true
 ek:sE t r.right.j r.Y r.am=true
 vars:r.right.vars=r.left.vars
 bL:r.right.q.length<=10
 ey:∀ s∈r.right.q,iI t r.right s=0
 cond:CondV t r.left r.cond
 kl:r.u.h.length<=1000000/\r.u.i.length<=1000000
theorem Uu {t:Types}{r:Rule}(a:r.ok)(h:ruleF t r=0):RuleV t r:=by
 unfold ruleF at h;split at h
 .rename_i h1;exact absurd h h1
 .rename_i h1;split at h
  .cases h
  .split at h
   .rename_i h3;exact absurd h h3
   .rename_i h3;split at h
    .rename_i h4;exact absurd h h4
    .rename_i h4;split at h
     .rename_i h5;exact absurd h h5
     .rename_i h5;split at h
      .cases h
      .rename_i h6;rw [kU] at h1 h3 h4 h5;have c:=Be h4;unfold iX at h4;rw [if_neg bZ,if_neg (by simp [c.2])] at h4;split at h4
       .cases h4
       .rename_i h7;split at h4
        .cases h4
        .rename_i h8;have b:subF r.left.j r.u=0/\cY (bG r.left.j r.u) r.right.j r.A=0/\jN (bG r.left.j r.u) r.right.j r.A=true:=by
          unfold keptF at h5;split at h5
          .rename_i q;exact absurd h5 q
          .rename_i q;split at h5
           .rename_i q2;exact absurd h5 q2
           .rename_i q2;split at h5
            .cases h5
            .rename_i q3;exact ⟨bZ,bZ,by simpa using q3⟩
         unfold condF at h;rw [if_neg bZ] at h;split at h
         .rename_i q;exact absurd h q
         .rename_i h9;refine ⟨h1,OJ (.inr h3),c.1,c.2,b.1,b.2.1,b.2.2,by simpa using h6,bZ,bZ,λs d=>?_,⟨?_,h,a.size⟩,a.k1,a.k2⟩
          .obtain ⟨i,e,rfl⟩:=aO d;have:=fD _ _ h4 i (d9 _) bZ;rw [Ep e] at this;split at this
           .cases this
           .rename_i q;exact kU.1 q
          .rw [kU] at h9;unfold uC at h9;split at h9
           .cases h9
           .rename_i q;simpa using q
theorem RuleV.u {t:Types}{r:Rule}(h:RuleV t r):(r.u.h.length=r.A.h.length/\r.u.i.length=r.A.i.length)/\(∀ x∈r.u.h,0<=x/\x<r.left.j.h.length)/\(∀ x∈r.u.i,0<=x/\x<r.left.j.i.length) /\
  (∀ x∈r.A.h,0<=x/\x<r.right.j.h.length)/\∀ x∈r.A.i,0<=x/\x<r.right.j.i.length:=by
 obtain ⟨i,g,d,c⟩:=fO h.sub;obtain ⟨_,_,f,e⟩:=dA h.mo;obtain ⟨b,a⟩:=jT h.mo;have k:(bG r.left.j r.u).h.length=r.u.h.length:=by unfold bG;rw [if_pos h.sub];simp
 have j:(bG r.left.j r.u).i.length=r.u.i.length:=by unfold bG;rw [if_pos h.sub];simp
 exact ⟨⟨bZ,bZ⟩,d,c,b,a⟩
theorem RuleV.q {t:Types}{r:Rule}(h:RuleV t r):∀ s∈r.right.q,(0<=s.node/\s.node<r.right.j.h.length)/\(0<=s.P/\s.P<(bV t (r.right.j.h[s.node.toNat]?.getD 0)).length)/\q7 s.C r.left.vars.toNat:=λs hs=>by
 have:=h.ey s hs;have hv:=h.pl.vars;have he:=h.vars;unfold iI at this;split at this
 .rename_i h1;simp only [aL,mK,decide_eq_true_eq,inF,Pattern.F] at h1;exact ⟨h1.1.1.1,⟨h1.1.1.2.1,of_decide_eq_true h1.1.1.2.2⟩,⟨bZ,bZ⟩,bZ,bZ⟩
 .cases this
theorem N5 (t:Types)(b:t.ok)(r:Rule)(f:r.ok)(h:Host):Pua 87 [t.d,r.d,h.d] (dI (jU t r h)):=by
 refine Tz.p0 func87 rfl λQ e _=>?_;have Y:=wa @Host.d.eq_1 @Host.c.eq_1;refine wv (h:=aB (Ar t b r f) wl ?_);refine c8 (λa=>?_) λa=>?_
 .exact wv (h:=e _ _ (by simp [go_sem,jU,a]))
 .refine wv (h:=aB (Aw t b h) wl ?_);exact wv (h:=e _ _ (by simp [go_sem,jU,a,jB]))
theorem rS (l:Xa0)(k:Nat)(v:Int):iQ l (k+1) v=if l[k]?.getD (-1)=v then (k:Int) else iQ l k v:=by unfold iQ;rw [dN]
theorem D3 (l:Xa0)(v:Int):∀ n,-1<=iQ l n v/\iQ l n v<n
 | 0=>by simp [iQ]
 | n+1=>by
  have:=D3 l v n;rw [rS];split<;>omega
theorem I8 (l:Xa0)(v:Nat):mA l (v+1)=mA l v++[iQ l l.length v]:=by simp [mA,dM]
theorem kD (l:Xa0)(v:Nat):(mA l v).length=v:=by simp [mA]
theorem yD (l:Xa0){n i:Nat}(h:i<n):(mA l n)[i]?=some (iQ l l.length i):=by simp [mA,h]
theorem HG (l:Xa0)(n:Nat)(E:n<=1000000):Pua 173 [dLI l,dI n] (dLI (mA l n)):=by
 refine Tz.pK ⟨λt=>t==5,λ_=>[]⟩ func173 rfl (λQ x=>?_);have Y:=trivial;refine wv (h:=bC (λv e H=>(e 0=dLI l/\e 1=dI n/\e 5=.own 0 v/\e 6=dI v)/\(H.get 0=some ⟨3,1,(mA l v).map cI,false⟩)/\(0<H.next)/\(v<=n)) (λv=>n - v) 0 ⟨wg,(by simp [go_sem,mA]),wn,wi⟩ λI r v e H q=>?_);obtain ⟨C,m,f,D⟩:=q;have Y:=xa2 Y C m (bP f);refine c8 (λu=>?_) λu=>?_
 .have hbl:=kD l v;have Y:=wa Y u;refine wp (h:=bC (λk e H=>∃ B:Xa0,(e 0=dLI l/\e 1=dI n/\e 5=.own 0 (v+1)/\e 6=dI v/\e 7=dI k)/\(H.get 0=some ⟨3,1,B.map cI,false⟩)/\(0<H.next)/\(k<=l.length)/\(B=mA l v++[iQ l k v])/\(B.length=v+1)) (λk=>l.length - k) 0 ⟨(mA l v++[-1]),wg,(by simp [go_sem,Y,cI]),wn,wi,(by rfl),(by simp [hbl])⟩ λG g k e H p=>?_);obtain ⟨B,A,j,d,F,s,b⟩:=p;have Y:=xa3 Y A j (bP d) b;refine wv (h:=?_);repeat first|intro _|refine ⟨gX,?_⟩
  refine wq (λi=>?_) λi=>?_
  .have hvB:v<B.length:=bZ;have Y:=xa2 Y i (aA i) (aA hvB);refine kI (λz=>?_) λz=>?_
   .obtain ⟨o,a⟩:∃ y,y=B.set v (k:Int):=⟨_,rfl⟩;have w:o.map cI=(B.map cI).set v (cI k):=by rw [a,bJ]
    have c:B.set v (k:Int)=mA l v++[iQ l (k+1) v]:=by
     rw [rS,aA i,aD,if_pos bZ,s,nO _ _ bZ,hbl,Aa];rfl
    have Y:=xa1 Y w @cI.eq_1;exact wp (h:=wx g (k+1) ⟨o,wg,(by simp [go_sem,Y]),wn,wj,(by rw [a];exact c),(by rw [a];simp [b])⟩)
   .obtain ⟨o,a⟩:∃ y,y=B:=⟨_,rfl⟩;have c:B=mA l v++[iQ l (k+1) v]:=by
     rw [rS,aA i,aD,if_neg bZ];exact s
    have Y:=wa Y a;exact wp (h:=wx g (k+1) ⟨o,wg,(by simp [go_sem,Y]),wn,wj,(by rw [a];exact c),(by rw [a];simp [b])⟩)
  .have hBe:B.map cI=(mA l v).map cI++[cI (iQ l l.length v)]:=by rw [s,(bZ:k=l.length)];simp
   exact wp (h:=wx r (v+1) ⟨wg,(by simp [go_sem,Y,I8,hBe]),wn,wj⟩)
 .have hve:v=n:=bZ;exact wv (h:=x _ _ (by simp [go_sem,Y,hve,dLI,kD]))
theorem C8 (l:Xa0)(n:Nat)(a:n<=1000000):Pua 172 [dI n,dLI l] (dLI (mA l n)):=by
 refine Tz.p0 func172 rfl λQ b Y=>?_;refine wv (h:=aB (HG l n a) wl ?_);exact wv (h:=b _ _ wy)
theorem JG (t:Types)(b:t.ok)(h:Host)(p:Part)(f:p.h.length<=1000000)(a:p.i.length<=1000000)(e:h.j.h.length<=1000000)(g:h.j.i.length<=1000000) :
  Pua 89 [t.d,h.d,p.d] (.tup [(V2 t h p).d,Part.d ⟨mA p.h h.j.h.length,mA p.i h.j.i.length⟩]):=by
 refine Tz.pK ⟨λt=>t==6||t==7||t==8,λ_=>[]⟩ func89 rfl (λQ i=>?_);have Y:=xa2 @Host.d.eq_1 @Host.c.eq_1 @Part.d.eq_1 @Part.c.eq_1;refine wv (h:=aB (JM t b h p f a) wl ?_);refine wp (h:=aI (C8 p.h h.j.h.length e) wl ?_);refine wp (h:=aI (C8 p.i h.j.i.length g) wl ?_);exact wp (h:=i _ _ wy)
theorem BQ (l:Xa0)(n:Int):Pua 174 [dLI l,dI n] (.bool (!mem l n)):=by
 refine Tz.p0 func174 rfl λQ m Y=>?_;refine wv (h:=bC (λi e H=>(e 0=dLI l/\e 1=dI n/\e 5=dI i)/\(i<=l.length)/\(∀ j,j<i->∀ b:j<l.length,l[j]≠n)) (λi=>l.length - i) 0 ⟨wg,wi,(by intro j b;omega)⟩ λs g i e H f=>?_);obtain ⟨q,r,o⟩:=f;have Y:=wa Y q;refine wv (h:=?_);repeat first|intro _|refine ⟨iF,?_⟩
 refine wq (λc=>?_) λc=>?_
 .have Y:=xa1 Y c (aA c);refine dW (λk=>?_) λk=>?_
  .have a:mem l n=true:=(mem_iff _ _).2 (k ▸ aC c);exact wv (h:=m _ _ (by simp [go_sem,a]))
  .exact wo (h:=wx g (i+1) ⟨wg,wj,(by intro j b d;rcases bT j i with hji|hji;exact o j hji d;(obtain rfl:j=i:=bZ;exact k))⟩)
 .have a:mem l n=false:=by
   rw [aW];intro a;obtain ⟨j,b,p⟩:=aO ((mem_iff _ _).1 a);exact o j bZ b p
  exact wv (h:=m _ _ (by simp [go_sem,a]))
theorem Aq (a b:Xa0)(s:a.length<=1000000)(p:∀ x∈a,0<=x/\x<b.length):Pua 90 [dLI a,dLI b] (dLI (p9 a b)):=by
 refine Tz.pK ⟨λt=>t==5,λ_=>[]⟩ func90 rfl (λQ q=>?_);have Y:=trivial;refine wv (h:=bC (λi e H=>(e 0=dLI a/\e 1=dLI b/\e 5=.own 0 i/\e 6=dI i)/\(H.get 0=some ⟨3,1,(p9 (a.take i) b).map cI,false⟩)/\(0<H.next)/\(i<=a.length)) (λi=>a.length - i) 0 ⟨wg,(by simp [go_sem,p9]),wn,wi⟩ λu m i e H k=>?_);obtain ⟨r,c,f,o⟩:=k;have Y:=xa2 Y r c (bP f);refine kI (λg=>?_) λg=>?_
 .have hx:=p _ (aC g);have n:a[i].toNat<b.length:=bZ;have l:p9 (a.take (i+1)) b=p9 (a.take i) b++[b[a[i].toNat]]:=by unfold p9;rw [aF g,List.map_append];simp [aA n]
  have d:(p9 (a.take i) b).length=i:=by simp [p9];omega
  have Y:=xa3 Y g (aA g) (aA n) d;exact wp (h:=wx m (i+1) ⟨wg,(by simp [go_sem,Y,l,cI]),wn,wj⟩)
 .rw [aH bZ] at c;have j:i=a.length:=bZ;have d:(p9 a b).length=a.length:=by simp [p9]
  exact wv (h:=q _ _ (by simp [go_sem,Y,j,d,dLI]))
theorem KV (a:Xa0)(i:Nat):Cl a (i+1)=Cl a i+if iQ a a.length i<0 then 1 else 0:=by
 unfold Cl;rw [dM,jY,aQ];congr 1;simp only [List.filter_cons,List.filter_nil];split<;>simp_all
theorem KU (into:Xa0):Cl into 0=0:=rfl
theorem Sd (a:Xa0)(i:Nat):Cl a i<=i:=by
 unfold Cl;exact eI (dG _ _) eG
theorem PA (keep b at_:Xa0)(i a:Nat):B5 keep b at_ (i+1) a=B5 keep b at_ i a++[IQ keep b at_ a i]:=by simp [B5,dM]
theorem BR (keep a at_:Xa0)(b c:Nat)(B:a.length<=keep.length)(u:∀ x∈keep,0<=x/\x<at_.length)(s:b<=1000000)(A:c<=1000000) :
  Pua 91 [dLI keep,dLI a,dI b,dLI at_,dI c] (dLI (B5 keep a at_ b c)):=by
 refine Tz.pK ⟨λt=>t==12,λ_=>[]⟩ func91 rfl (λQ w=>?_);have Y:=@KU;refine wv (h:=aB (HG a b s) wl ?_);refine wv (h:=bC (λi e H=>(e 0=dLI keep/\e 1=dLI a/\e 2=dI b/\e 3=dLI at_/\e 4=dI ((c+Cl a i:Nat):Int)/\e 11=dLI (mA a b)/\e 12=.own 0 i/\e 13=dI i)/\(H.get 0=some ⟨3,1,(B5 keep a at_ i c).map cI,false⟩)/\(0<H.next)/\(i<=b)) (λi=>b - i) 0 ⟨wg,(by simp [go_sem,B5]),wn,wi⟩ λF g i e H k=>?_);obtain ⟨z,j,f,D⟩:=k;have Y:=xa2 Y z j (bP f);refine c8 (λr=>?_) λr=>?_
 .have hg:=yD a (n:=b) (i:=i) bZ;have E:=D3 a i a.length;have o:=kD a b;have d:=KV a i;have v:=Sd a i;have m:(B5 keep a at_ i c).length=i:=by simp [B5]
  have l:(mA a b)[i]' bZ=iQ a a.length i:=by simp [mA]
  have Y:=xa4 Y r hg l o m;refine kI (λy=>?_) λy=>?_
  .have hb2:(iQ a a.length i).toNat<keep.length:=bZ;have C:=u _ (aC hb2);have q:keep[(iQ a a.length i).toNat].toNat<at_.length:=bZ;have p:IQ keep a at_ c i=at_[keep[(iQ a a.length i).toNat].toNat]:=by unfold IQ;rw [if_pos bZ,aA hb2,aD,aA q];rfl
   rw [if_neg bZ] at d;have Y:=xa2 Y (aA hb2) (aA q) d;exact wp (h:=wx g (i+1) ⟨wg,(by simp [go_sem,Y,PA,p,cI]),wn,wj⟩)
  .have p:IQ keep a at_ c i=((c+Cl a i:Nat):Int):=by unfold IQ;rw [if_neg bZ]
   rw [if_pos bZ] at d;have Y:=wa Y d;exact wp (h:=wx g (i+1) ⟨wg,(by simp [go_sem,Y,PA,p,cI]),wn,wj⟩)
 .have hie:i=b:=bZ;exact wv (h:=w _ _ (by simp [go_sem,Y,hie,dLI];simp [B5]))
theorem uD (a b:Xa0):Pua 55 [dLI a,dLI b] (.bool (decide (a=b))):=by
 refine Tz.p0 func55 rfl λQ g Y=>?_;refine dW (λm=>?_) λm=>?_
 .refine wv (h:=?_);have c:a≠b:=by intro h;subst h;omega
  exact g _ _ (by simp [go_sem,c])
 .refine wv (h:=bC (λi e H=>(e 0=dLI a/\e 1=dLI b/\e 5=dI i)/\(i<=a.length)/\(a.take i=b.take i)) (λi=>a.length - i) 0 ⟨wg,wi,(by rfl)⟩ λp j i e H d=>?_);obtain ⟨n,o,f⟩:=d;have Y:=wa Y n;refine wv (h:=?_);repeat first|intro _|refine ⟨iF,?_⟩
  refine wq (λl=>?_) λl=>?_
  .have hib:i<b.length:=bZ;have Y:=xa1 Y l hib;refine dW (λk=>?_) λk=>?_
   .refine wv (h:=?_);have c:a≠b:=by intro h;subst h;exact k rfl
    exact g _ _ (by simp [go_sem,c])
   .exact wo (h:=wx j (i+1) ⟨wg,wj,(by rw [aF l,aF hib,f,k])⟩)
  .rw [aH bZ,aH bZ] at f;exact wv (h:=g _ _ (by simp [go_sem,f]))
def xD (t:Types)(r:Rule)(h:Host)(m:Mat):Part:=if rK t r h m=0 then cN r h m else ⟨[],[]⟩
theorem Rw {t:Types}{p g:Graph}{m:Part}{a:Bool}(h:fP t p g m a=0):fP t p g m false=0:=by
 unfold fP at h ⊢;split at h
 .exact absurd h (by assumption)
 .rename_i h1;rw [if_neg h1];unfold iZ at h ⊢;split at h
  .cases h
  .rename_i h2;rw [if_neg h2];split at h
   .exact absurd h (by assumption)
   .rename_i h3;rw [if_neg h3];split at h
    .exact absurd h (by assumption)
    .rename_i h4;rw [if_neg h4,if_neg eG]
theorem Kv {t:Types}{p:Pattern}{h:Host}{m:Part}(a:(eH t p h m).2=0):PatOk t p/\HostOk t h/\fP t p.j h.j m false=0/\eH t p h m=fK p h m []:=by
 unfold eH at a ⊢;split at a
 .exact absurd a (by assumption)
 .rename_i h1;split at a
  .exact absurd a (by assumption)
  .rename_i h2;split at a
   .exact absurd a (by assumption)
   .rename_i h3;rw [kU] at h1 h2 h3;rw [if_neg bZ,if_neg bZ,if_neg bZ];exact ⟨OJ (.inr h1),y4 h2,h3,rfl⟩
theorem Hu (t:Types)(q:t.ok)(r:Rule)(l:RuleV t r)(h:Host)(u:HostOk t h)(m:Mat) :
  Pua 88 [t.d,r.d,h.d,m.d] (.tup [(xD t r h m).d,dI (mG t r h m)]):=by
 refine Tz.pK ⟨λt=>t==8||t==12||t==13,λ_=>[]⟩ func88 rfl (λQ n=>?_);have Y:=xa2 @Host.d.eq_1 @Host.c.eq_1 @Mat.d.eq_1 @Mat.c.eq_1;refine wv (h:=aB (Av t q r.left.j h.j m.m r.inj) wl ?_);refine c8 (λy=>?_) λy=>?_
 .have i:rK t r h m=1:=by unfold rK;rw [if_pos (eL y)]
  have k:mG t r h m=1:=by unfold mG;rw [if_pos bZ,i]
  have b:xD t r h m=⟨[],[]⟩:=by unfold xD;rw [if_neg bZ]
  exact wv (h:=n _ _ (by simp [go_sem,k,b,Part.d,Part.c,dLI]))
 .have hc:fP t r.left.j h.j m.m r.inj=0:=by simpa using y
  refine wv (h:=aB (Og t q r.left h m.m) wl ?_);refine c8 (λs=>?_) λs=>?_
  .have i:rK t r h m=(eH t r.left h m.m).2:=by unfold rK;rw [if_neg bZ,if_pos s]
   have k:mG t r h m=(eH t r.left h m.m).2:=by unfold mG;rw [if_pos bZ,i]
   have b:xD t r h m=⟨[],[]⟩:=by unfold xD;rw [if_neg bZ]
   exact wv (h:=n _ _ (by simp [go_sem,k,b,Part.d,Part.c,dLI]))
  .obtain ⟨A,z,g,f⟩:=Kv (eL s);have e:=uI (pW hc).2;refine wp (h:=aB (uD (eH t r.left h m.m).1 m.vars) wl ?_);refine kI (λw=>?_) λw=>?_
   .have h6':(eH t r.left h m.m).1≠m.vars:=by simpa using w
    have i:rK t r h m=11:=by unfold rK;rw [if_neg bZ,if_neg bZ,if_pos h6']
    have k:mG t r h m=11:=by unfold mG;rw [if_pos bZ,i]
    have b:xD t r h m=⟨[],[]⟩:=by unfold xD;rw [if_neg bZ]
    exact wv (h:=n _ _ (by simp [go_sem,k,b,Part.d,Part.c,dLI]))
   .have h6':(eH t r.left h m.m).1=m.vars:=by simpa using w
    have v:BB t r.left.j h.j m.m=sG r.left.j h.j m.m:=by unfold BB;rw [if_pos g]
    have i:rK t r h m=jC (sG r.left.j h.j m.m) h.j r.u m.m:=by unfold rK;rw [if_neg bZ,if_neg bZ,if_neg (by rw [h6'];simp)]
    have J:=l.u;have H:=aY l.pl.gg;have I:=aY u.gg;have E:=e.len;have F:=e.bz;have G:=l.kl.1;have p:MatOk t r.left h m:=by
     rw [f] at h6';have o:(fK r.left h m.m []).2=0:=by rw [<- f];simpa using s
     obtain ⟨C,B⟩:=B8 (Yf l.pl u e) (vs:=[]) eG eG o;rw [h6'] at C B;exact ⟨e,C,B⟩
    have Y:=xa1 Y v g;refine wv (h:=aB (Hz t q r.left.j h.j m.m) wl ?_);refine wv (h:=aB (HE (sG r.left.j h.j m.m) h.j r.u m.m bZ bZ bZ bZ bZ) wl ?_);refine c8 (λx=>?_) λx=>?_
    .have k:mG t r h m=jC (sG r.left.j h.j m.m) h.j r.u m.m:=by unfold mG;rw [if_pos bZ,i]
     have b:xD t r h m=⟨[],[]⟩:=by unfold xD;rw [if_neg bZ]
     exact wv (h:=n _ _ (by simp [go_sem,k,b,Part.d,Part.c,dLI]))
    .have b:xD t r h m=cN r h m:=by unfold xD;rw [if_pos bZ]
     have j:mG t r h m=if (o7 t h r.inj r.cond m).2≠0 then (o7 t h r.inj r.cond m).2 else if (o7 t h r.inj r.cond m).1=false then 16 else 0:=by unfold mG;rw [if_neg bZ]
     refine wv (h:=aB ((by have D:=Oe t q h u r.inj r.cond r.left l.cond l.pl m p;rwa [Cond.E] at D)) wl ?_);refine kI (λa=>?_) λa=>?_
     .rw [if_neg (by rw [a.1];simp),if_pos a.2] at j;exact wv (h:=n _ _ (by simp [go_sem,Y,j,b,cN]))
     .have hE2:mG t r h m=(o7 t h r.inj r.cond m).2:=by
       rw [j];split
       .rfl
       .rename_i o;rw [kU] at o;simp [o] at a;simp [o,a]
      exact wv (h:=n _ _ (by simp [go_sem,Y,hE2,b,cN]))
end Go.Abs
end
