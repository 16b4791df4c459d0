/- Layer 22 of the reference: values, extensions, the first wit -/
import Derived.Test.YtpdanmkcpjdmjaaGreatZkAF
import Derived.Test.YtpdanmkcpjdmjaaGreatZkAA
import Derived.Test.YtpdanmkcpjdmjaaGreatZkAM
import Derived.Test.YtpdanmkcpjdmjaaGreatZkAP
set_option linter.unusedVariables false
set_option linter.unusedSimpArgs false
section
set_option maxRecDepth 100000
set_option maxHeartbeats 4000000
open Go Go.Proofs Tryz
namespace Go.Abs
def O3 (at_ im:W3)(n i:Nat):W3:=(List.range i).foldl (λacc i=>acc.set (at_[i]?.getD 0).toNat (im[i]?.getD 0)) (List.replicate n (-1))
theorem Ie (at_ a:W3)(n i:Nat):O3 at_ a n (i+1)=(O3 at_ a n i).set (at_[i]?.getD 0).toNat (a[i]?.getD 0):=by unfold O3;rw [eK]
theorem C5 (at_ im:W3)(n:Nat):∀ i,(O3 at_ im n i).length=n
 | 0=>by simp [O3]
 | i+1=>by rw [Ie,fV];exact C5 at_ im n i
theorem CX (n:Nat)(z:n<=1000000)(at_ a:W3)(v:∀ x∈at_,0<=x/\x<n)(D:at_.length<=a.length):Pua 362 [dI n,dLI at_,dLI a] (dLI (An n at_ a)):=by
 refine Tz.pK ⟨λt=>t==7,λ_=>[]⟩ func362 rfl (λQ u=>?_);have Y:=trivial;refine wv (h:=aY (λi e H=>(e 0=dI n/\e 1=dLI at_/\e 2=dLI a/\e 7=.own 0 i/\e 8=dI i)/\(H.get 0=some ⟨3,1,(List.replicate i (-1:Int)).map cI,false⟩)/\(0<H.next)/\(i<=n)) (λi=>n - i) 0 ⟨wg,(by simp [go_sem]),wn,wi⟩ λF r i e H b=>?_);obtain ⟨y,j,d,B⟩:=b;have Y:=xa2 Y y j (bL d);refine dK (λs=>?_) λs=>?_
 .have Y:=wa Y s;exact wp (h:=wx r (i+1) ⟨wg,(by simp [go_sem,Y,Bl,cI]),wn,wj⟩)
 .have hin:i=n:=aD;refine wv (h:=aY (λk e H=>(e 0=dI n/\e 1=dLI at_/\e 2=dLI a/\e 7=.own 0 n/\e 9=dI k)/\(H.get 0=some ⟨3,1,(O3 at_ a n k).map cI,false⟩)/\(0<H.next)/\(k<=at_.length)/\((O3 at_ a n k).length=n)) (λk=>at_.length - k) 0 ⟨wg,(by simp [go_sem,Y,O3,hin]),wn,wi,(by exact C5 _ _ _ _)⟩ λE q k e H m=>?_);obtain ⟨w,g,c,A,l⟩:=m;have Y:=xa3 Y w g (bL c) l;refine wv (h:=?_);repeat first|intro _|refine ⟨gX,?_⟩
  refine wq (λf=>?_) λf=>?_
  .have hki:k<a.length:=aD;have C:=v _ (aC f);have p:at_[k]?.getD 0=at_[k]:=by rw [aA f];rfl
   have b:a[k]?.getD 0=a[k]:=by rw [aA hki];rfl
   have o:at_[k].toNat<(O3 at_ a n k).length:=aD;have Y:=xa3 Y f (aA f) (aA hki) (aA o);exact wp (h:=wx q (k+1) ⟨wg,(by simp [go_sem,Y,Ie,b6,p,b,cI]),wn,wj,(by exact C5 _ _ _ _)⟩)
  .have hP:An n at_ a=O3 at_ a n k:=by unfold An O3;rw [(aD:k=at_.length)]
   exact wv (h:=u _ _ (by simp [go_sem,Y,hP,dLI]))
def MY (len i:Nat):List Bool:=(List.range i).map λj=>decide (j<len)
theorem VL (len i:Nat):MY len (i+1)=MY len i++[decide (i<len)]:=by simp [MY,bS]
theorem MW (len i:Nat):(MY len i).length=i:=by simp [MY]
theorem MX (len n:Nat)(h:len<=n):MY len n=List.replicate len true++List.replicate (n - len) false:=by
 apply fW (by simp [MY];omega);intro i b a;simp only [MY,pI,qL,List.getElem_append,List.getElem_replicate,eL];split
 .rename_i h3;simpa using h3
 .rename_i h3;simpa using h3
theorem Xe (len i n:Nat)(h:i<n):(MY len i++List.replicate (n - i) false).set i (decide (i<len))=MY len (i+1)++List.replicate (n - (i+1)) false:=by
 rw [mT _ _ (by rw [MW];omega),MW,uS,VL,show n - i=(n - (i+1))+1 by omega,mF];simp
def Uh (len n i:Nat):List Bool:=MY len i++List.replicate (n - i) false
theorem VM (len n:Nat):Uh len n 0=List.replicate n false:=by simp [Uh,MY]
theorem Xg {len n i:Nat}(h:i<=n):(Uh len n i).length=n:=by simp [Uh,MW];omega
theorem Xf {len n i:Nat}(h:i<n):(Uh len n i).set i (decide (i<len))=Uh len n (i+1):=Xe len i n h
theorem SA (len n:Nat):Uh len n n=MY len n:=by simp [Uh]
def JH (vs:W3)(i:Nat):W3:=vs++List.replicate (i - vs.length) 0
theorem NN (vs:W3)(i:Nat):JH vs (i+1)=if vs.length<=i then JH vs i++[0] else JH vs i:=by
 unfold JH;split
 .rename_i h;rw [(aD:i+1 - vs.length=(i - vs.length)+1),Bl,List.append_assoc]
 .rename_i h;rw [(aD:i+1 - vs.length=0),(aD:i - vs.length=0)]
theorem R7 (vs:W3)(i:Nat):(JH vs i).length=max vs.length i:=by simp [JH];omega
theorem U2 {x:Test}{vs:W3}{n:Nat}(a:JF x n):Be x vs = !((decide (x.E=1)&&decide (dG x.right vs<dG x.left vs))||(decide (x.E=2)&&!decide (dG x.left vs=dG x.right vs))):=by
 rcases a.1 with h|h
 .unfold Be;rw [h];simp;rw [aS];simp
 .unfold Be;rw [h];simp
theorem MF (p:Pattern)(h:Host)(m:Part)(U:SOk p h m)(vs:W3)(hl:vs.length<=p.vars.toNat)(hs:∀ v∈vs,-2000000<=v/\v<=2000000) :
  Pua 364 [p.d,h.d,m.d,dLI vs] (.tup [dLI (eP p h m vs).1,.bool (decide ((eP p h m vs).2=0))]):=by
 have hv:=U.vars;have h0:=N7 hv.1 hl hs;have a3:JH vs 0=vs:=by simp [JH]
 have L:Mg p vs=(JH vs p.vars.toNat,MY vs.length p.vars.toNat):=by unfold Mg;rw [MX _ _ hl];rfl
 refine Tz.pK ⟨λt=>t==14||t==19||t==24,λr=>match r with|15=>[(5,14),(6,14),(7,14)]|_=>[]⟩ func364 rfl (λQ W=>?_);have Y:=xa6 a3 @Pattern.d.eq_1 @Pattern.c.eq_1 @Host.d.eq_1 @Host.c.eq_1 @Part.d.eq_1 @Part.c.eq_1 @Term.c.eq_1;refine wp (h:=aY (λi e H=>(e 4=.adr p.c/\e 5=.adr h.c/\e 6=.adr m.c/\e 3=dLI vs/\e 10=.own 0 (JH vs i).length/\e 11=.own 1 p.vars.toNat/\e 12=dI i)/\(H.get 0=some ⟨3,1,(JH vs i).map cI,false⟩)/\(0<H.next)/\(H.get 1=some ⟨4,1,(Uh vs.length p.vars.toNat i).map cB,false⟩)/\(1<H.next)/\(i<=p.vars.toNat)) (λi=>p.vars.toNat - i) 0 ⟨wg,(by simp [go_sem,JH]),wn,(by simp [go_sem,VM,cB]),wn,wi⟩ λI0 a8 i e H b8=>?_);obtain ⟨E0,b3,a2,b0,Z,hi⟩:=b8;have Y:=xa4 Y E0 b3 (bL a2) b0 (bL Z);refine dK (λh4=>?_) λh4=>?_
 .have hI:=R7 vs i;have hK:=Xf (len:=vs.length) (n:=p.vars.toNat) (i:=i) aD;have c0:=Xg (len:=vs.length) (n:=p.vars.toNat) (i:=i) aD;have c1:i<(Uh vs.length p.vars.toNat i).length:=aD;have b9:((Uh vs.length p.vars.toNat i).map cB).set i [.bool (decide (i<vs.length))]=(Uh vs.length p.vars.toNat (i+1)).map cB:=by rw [<- hK,b6];rfl
  have Y:=xa3 Y h4 c0 (aA c1) b9;refine i7 (λh7=>?_) λh7=>?_
  .have hVs:JH vs (i+1)=JH vs i++[0]:=by rw [NN,if_pos aD]
   have Y:=wa Y hVs;exact wp (h:=wx a8 (i+1) ⟨wg,(by simp [go_sem,Y]),wn,(by simp [go_sem,Y]),wn,wj⟩)
  .have hVs:JH vs (i+1)=JH vs i:=by rw [NN,if_neg aD]
   have Y:=wa Y hVs;exact wp (h:=wx a8 (i+1) ⟨wg,(by simp [go_sem,Y]),wn,(by simp [go_sem,Y]),wn,wj⟩)
 .have hin:i=p.vars.toNat:=aD;have hI:=R7 vs i;rw [hin,Nat.max_eq_right hl] at hI;have c6:Uh vs.length i i=MY vs.length i:=SA _ _;have a7:=SA vs.length p.vars.toNat
  have Y:=xa2 Y hin hI a7;refine wv (h:=aY (λi e H=>∃ o:W3 × List Bool,(e 4=.adr p.c/\e 5=.adr h.c/\e 6=.adr m.c/\e 3=dLI vs/\e 10=.own 0 p.vars.toNat/\e 11=.own 1 p.vars.toNat/\e 13=dI i)/\(H.get 0=some ⟨3,1,o.1.map cI,false⟩)/\(0<H.next)/\(H.get 1=some ⟨4,1,o.2.map cB,false⟩)/\(1<H.next)/\(i<=p.l.length)/\(StOk p.vars.toNat o)/\(slotsV h m (Mg p vs) (p.l.take i)=some o)) (λi=>p.l.length - i) 0 ⟨((JH vs p.vars.toNat,MY vs.length p.vars.toNat)),wg,(by simp [go_sem,Y,hin]),wn,(by simp [go_sem,Y,hin,a7]),wn,wi,(by rw [<- L];exact h0),(by rw [L];rfl)⟩ λI2 J i e H b7=>?_);obtain ⟨o,E2,b2,a1,a9,X,hi,q,P⟩:=b7;have Y:=xa4 Y E2 b2 (bL a1) a9 (bL X);refine wv (h:=?_);repeat first|intro _|refine ⟨gX,?_⟩
  refine wq (λu=>?_) λu=>?_
  .obtain ⟨x,hx⟩:=fD (p.l[i]);have F:x∈p.l:=hx ▸ aC u;have hn:=U.node x F;have A:x.node.toNat<m.h.length:=aD;have hk:=U.bj _ (aC A);have w:(m.h[x.node.toNat]).toNat<h.k.length:=aD;have ha:=U.J x F;rw [aA A,Option.getD_some,aA w,Option.getD_some] at ha;have G:x.J.toNat<(h.k[(m.h[x.node.toNat]).toNat]).length:=aD;have hV:haveV h m x=h.k[(m.h[x.node.toNat]).toNat][x.J.toNat]:=by unfold haveV;rw [aA A,Option.getD_some,aA w,Option.getD_some,aA G];rfl
   have hb:=U.bG F;have M:=U.x x F;have C:=q.l1;have R:=q.l2;have c4:=M.1;have c5:=M.2;have s:=uW u P;rw [<- hx] at s;obtain ⟨z,g⟩:∃ y,y=lJ h m o x:=⟨_,rfl⟩;have l:StOk p.vars.toNat z:=g ▸ Ab q hb M;rw [<- g] at s;have j:¬ 0<=x.x.N->z=o:=λhn=>by rw [g];unfold lJ lF;rw [if_neg (by simp [hn])]
   have N:0<=x.x.N->x.x.N.toNat<o.2.length:=λhn=>by omega
   obtain ⟨kb,a4⟩:=fD (o.2[x.x.N.toNat]?.getD false);have S:0<=x.x.N\/(¬ 0<=x.x.N/\o.2[x.x.N.toNat]?=none)\/(¬ 0<=x.x.N/\o.2[x.x.N.toNat]?=some kb):=by
    by_cases O:0<=x.x.N
    .exact .inl O
    .right
     cases ho:o.2[x.x.N.toNat]? with
     | none=>exact .inl ⟨O,rfl⟩
     | some b=>rw [ho] at a4;exact .inr ⟨O,by rw [a4];rfl⟩
   rcases S with hc|hc|hc
   .have Y:=xa3 Y u (aA u) (Eq.symm hx) (xb0 (aA A) (aA w) (aA G) (Eq.symm hV) @Slot.c.eq_1 @cL.eq_1 C R @kF @cB.eq_1 hc ((aA (N hc))));refine i7 (λV=>?_) λV=>?_
    .have hF:lF o x=true:=by simp only [lF,aN,decide_eq_true_eq,cD];exact ⟨hc,by simpa [aA (N hc)] using V⟩
     unfold lJ at g;rw [if_pos hF] at g;have b4:x.x.N.toNat<o.1.length:=aD;have e1:z.1.map cI=(o.1.map cI).set x.x.N.toNat (cI (haveV h m x - x.x.add)):=by rw [g,b6]
     have e2:z.2.map cB=(o.2.map cB).set x.x.N.toNat (cB true):=by rw [g,b6]
     have c3:D.O ((o.1.map cI).set x.x.N.toNat [D.int .i64 (haveV h m x - x.x.add)])=true:=by have:=rP z.1;rw [e1] at this;exact this
     have Y:=xa5 Y e1 e2 @dLI.eq_1 @cI.eq_1 (aA b4) c3;refine wp (h:=dX (jP x.x z.1 (by rw [l.l1];exact M) l.aM) wr wl rfl ?_);refine i7 (λf=>?_) λf=>?_
     .have I:=eM (s.2 (by first|simpa using f|simpa [j hc.1] using f|simpa [g] using f));exact wv (h:=W _ _ (by simp [go_sem,I]))
     .have hstep:=s.1 (by first|simpa using f|simpa [j hc.1] using f|simpa [g] using f);exact wp (h:=wx J (i+1) ⟨z,wg,(by simp [go_sem,Y]),wn,(by simp [go_sem,Y]),wn,wj,(by exact l),(by exact hstep)⟩)
    .have hF:¬ lF o x=true:=by simp only [lF,aN,decide_eq_true_eq,cD];rintro ⟨_,hk⟩;simp [aA (N hc)] at hk;simp [hk] at V
     unfold lJ at g;rw [if_neg hF] at g;have Y:=wa Y g;refine wv (h:=dX ((by first|exact jP x.x z.1 (by rw [l.l1];exact M) l.aM|exact jP p.G[k].left o.1 (by rw [q.l1];exact hX.2.1) q.aM)) wr wl rfl ?_);refine dK (λf=>?_) λf=>?_
     .have I:=eM (s.2 (by first|simpa using f|simpa [j hc.1] using f|simpa [g] using f));exact wv (h:=W _ _ (by simp [go_sem,I]))
     .have hstep:=s.1 (by first|simpa using f|simpa [j hc.1] using f|simpa [g] using f);exact wp (h:=wx J (i+1) ⟨z,wg,(by simp [go_sem,Y]),wn,(by simp [go_sem,Y]),wn,wj,(by exact l),(by exact hstep)⟩)
   .have Y:=xa4 Y u (aA u) (Eq.symm hx) (aA A) (xb0 (aA w) (aA G) (Eq.symm hV) @Slot.c.eq_1 @cL.eq_1 C R @kF @cB.eq_1 hc.1 hc.2 (j hc.1));refine wp (h:=dX (jP x.x z.1 (by rw [l.l1];exact M) l.aM) wr wl rfl ?_);refine i7 (λf=>?_) λf=>?_
    .have I:=eM (s.2 (by first|simpa using f|simpa [j hc.1] using f|simpa [g] using f));exact wv (h:=W _ _ (by simp [go_sem,I]))
    .have hstep:=s.1 (by first|simpa using f|simpa [j hc.1] using f|simpa [g] using f);exact wp (h:=wx J (i+1) ⟨z,wg,(by simp [go_sem,Y]),wn,(by simp [go_sem,Y]),wn,wj,(by exact l),(by exact hstep)⟩)
   .have Y:=xa4 Y u (aA u) (Eq.symm hx) (aA A) (xb0 (aA w) (aA G) (Eq.symm hV) @Slot.c.eq_1 @cL.eq_1 C R @kF @cB.eq_1 hc.1 hc.2 (j hc.1));refine wp (h:=dX (jP x.x z.1 (by rw [l.l1];exact M) l.aM) wr wl rfl ?_);refine i7 (λf=>?_) λf=>?_
    .have I:=eM (s.2 (by first|simpa using f|simpa [j hc.1] using f|simpa [g] using f));exact wv (h:=W _ _ (by simp [go_sem,I]))
    .have hstep:=s.1 (by first|simpa using f|simpa [j hc.1] using f|simpa [g] using f);exact wp (h:=wx J (i+1) ⟨z,wg,(by simp [go_sem,Y]),wn,(by simp [go_sem,Y]),wn,wj,(by exact l),(by exact hstep)⟩)
  .rw [aG aD] at P;have T:=pL P;have C:=q.l1;have Y:=wa Y C;refine wv (h:=aY (λk e H=>(e 4=.adr p.c/\e 5=.adr h.c/\e 6=.adr m.c/\e 3=dLI vs/\e 10=.own 0 p.vars.toNat/\e 18=dI k)/\(H.get 0=some ⟨3,1,o.1.map cI,false⟩)/\(0<H.next)/\(k<=p.G.length)/\((p.G.take k).all (λx=>Be x o.1)=true)) (λk=>p.G.length - k) 0 ⟨wg,wn,wn,wi,(by rfl)⟩ λI4 c2 k e H b5=>?_);obtain ⟨E4,b1,a0,hk,E⟩:=b5;have Y:=xa2 Y E4 b1 (bL a0);refine wv (h:=?_);repeat first|intro _|refine ⟨gX,?_⟩
   refine wq (λB=>?_) λB=>?_
   .have hX:=U.test _ (aC B);have a6:=U2 (vs:=o.1) hX;have Y:=xa2 Y B (aA B) @Test.c.eq_1;refine wp (h:=dX ((by first|exact jP x.x z.1 (by rw [l.l1];exact M) l.aM|exact jP p.G[k].left o.1 (by rw [q.l1];exact hX.2.1) q.aM)) wr wl rfl ?_);refine wp (h:=dX (jP p.G[k].right o.1 (by rw [q.l1];exact hX.2.2) q.aM) wr wl rfl ?_);refine i7 (λK=>?_) λK=>?_
    .have hT0:Be p.G[k] o.1=false:=by
      rw [a6,Bool.not_eq_false'];rcases K with ⟨a,b⟩|⟨a,b⟩
      .simp [a,b]
      .simp [a,b]
     have I:eP p h m vs=([],16):=by
      rw [T,if_neg];intro ha;rw [c9] at ha;have:=ha _ (aC B);rw [hT0] at this;cases this
     exact wv (h:=W _ _ (by simp [go_sem,I]))
    .have hT1:Be p.G[k] o.1=true:=by
      rw [a6];simp;exact ⟨by by_cases a5:p.G[k].E=1;exact .inr (K.1 a5);exact .inl a5,by by_cases w:p.G[k].E=2;exact .inr (K.2 w);exact .inl w⟩
     exact wp (h:=wx c2 (k+1) ⟨wg,wn,wn,wj,(by rw [aE B,Cz,E];simp;exact hT1)⟩)
   .rw [aG aD] at E;rw [if_pos E] at T;exact wv (h:=W _ _ (by simp [go_sem,Y,T,dLI]))
/-! ### extensions -/
structure MatOk (t:Types) (p:Pattern) (h:Host) (m:Mat):Prop where
 dc:MOk t p.j h.j m.m
 vl:m.vars.length=p.vars.toNat
 vs:∀ v∈m.vars,-2000000<=v/\v<=2000000
structure ExOk (t:Types) (p:Pattern) (mp:Part) (q:Pattern):Prop where
 pq:PatOk t q
 pv:p.vars<=q.vars
 p0:0<=p.vars
 mo:eD p.j q.j mp=0
theorem ExOk.bj {t:Types}{p:Pattern}{a:Part}{q:Pattern}(h:ExOk t p a q):(a.h.length=p.j.h.length/\a.i.length=p.j.i.length)/\(∀ x∈a.h,0<=x/\x<q.j.h.length)/\(∀ x∈a.i,0<=x/\x<q.j.i.length):=by
 have:=kZ h.mo;exact ⟨this.2.2,(tH h.mo).1,(tH h.mo).2⟩
theorem IU {t:Types}{p g:Graph}{q:Part}{a:Bool}{m:Part}(h:m∈(n6 t p g q a).1):MOk t p g m:=by
 unfold n6 at h;split at h
 .cases h
 .split at h
  .cases h
  .split at h
   .cases h
   .split at h
    .cases h
    .unfold Jc at h;split at h
     .cases h
     .exact Qi (S:=⟨t,p,g,_,_,a⟩) (dC h)
theorem UU {t:Types}{q:Pattern}{h:Host}{vars:W3}{l:List Part}(hp:PatOk t q)(ho:HostOk t h)(hl:∀ x∈l,MOk t q.j h.j x)(hv:vars.length<=q.vars.toNat)(hs:∀ v∈vars,-2000000<=v/\v<=2000000):∀ m∈wR q h vars l,MatOk t q h m:=λm hm=>by
 unfold wR at hm;rw [List.mem_filterMap] at hm;obtain ⟨x,hx,he⟩:=hm;split at he
 .rename_i h0;cases he
  obtain ⟨h1,h2⟩:=BP (XL hp ho (hl x hx)) hv hs h0;exact ⟨hl x hx,h1,h2⟩
 .cases he
theorem SN {t:Types}{p:Pattern}{c:Part}{q:Pattern}{h:Host}{m:Mat}{a:Bool}(b:ExOk t p c q)(f:HostOk t h)(d:MatOk t p h m):∀ x∈(zP t c q h m a).1,MatOk t q h x:=by
 unfold zP;split
 .simp
 .exact UU b.pq f (λx e=>IU e) (by have:=d.vl;have:=b.pv;have:=b.p0;omega) d.vs
theorem En (t:Types)(N:t.ok)(p:Pattern)(c:Cond)(z:ExOk t p c.map c.o)(h:Host)(O:HostOk t h)(m:Mat)(B:MatOk t p h m)(b:Bool) :
  Pua 327 [t.d,.agg c.c,h.d,m.d,.bool b] (.tup [.list ((zP t c.map c.o h m b).1.map Mat.c),dI (zP t c.map c.o h m b).2]):=by
 obtain ⟨⟨U,T⟩,G,F⟩:=z.bj;have l:=bR z.pq.gg;have R:=B.dc.len;have P:=B.dc.bk;refine Tz.pK ⟨λt=>t==12||t==13||t==16,λr=>match r with|2=>[(0,23),(1,23),(2,23),(3,23),(4,23),(5,23),(6,23),(7,23),(8,23),(9,23),(10,23),(11,23),(12,23),(13,23),(14,23),(15,23),(16,23),(17,23),(18,23),(19,23),(20,23),(21,23)]|_=>[]⟩ func327 rfl (λQ K=>?_);obtain ⟨X,C⟩:=fD (n6 t c.o.j h.j (pV c.map c.o m.m) b);have J:∀ x∈X.1,MOk t c.o.j h.j x:=λx M=>IU (C ▸ M);have V:X.1.length<=5000:=C ▸ SM _ _ _ _ _;have D:m.vars.length<=c.o.vars.toNat:=by have:=B.vl;have:=z.pv;have:=z.p0;omega
 have j:zP t c.map c.o h m b=if X.2≠0 then ([],X.2) else (wR c.o h m.vars X.1,0):=by unfold zP;rw [<- C]
 have Y:=xa3 @Cond.A @Host.d.eq_1 @Host.c.eq_1 @Mat.d.eq_1 @Mat.c.eq_1;refine wp (h:=aI (CX c.o.j.h.length aD c.map.h m.m.h G aD) wl ?_);refine wp (h:=aI (CX c.o.j.i.length aD c.map.i m.m.i F aD) wl ?_);refine wp (h:=aB ((by have l:=MH t N c.o.j h.j (pV c.map c.o m.m) b;rw [<- C] at l;unfold pV Types.d Types.c Graph.d Graph.c Part.d Part.c dLI at l;exact l)) wl ?_);refine i7 (λL=>?_) λL=>?_
 .rw [if_pos L] at j;exact wv (h:=K _ _ (by simp [go_sem,j]))
 .rw [if_neg aD] at j;refine wv (h:=aY (λi e H=>∃ k:List Mat,(e 5=.adr t.c/\e 6=.adr c.c/\e 7=.adr h.c/\e 8=.adr m.c/\e 4=.bool b/\e 12=.ptr 0 1 0 0/\e 14=.list (X.1.map Part.c)/\e 16=.own 26 k.length/\e 17=dI i)/\(H.get 0=some ⟨55,5,[c.o.c],false⟩)/\(0<H.next)/\(H.get 26=some ⟨65,3,k.map Mat.c,false⟩)/\(26<H.next)/\(i<=X.1.length)/\(k=wR c.o h m.vars (X.1.take i))/\(k.length<=i)) (λi=>X.1.length - i) 0 ⟨([]),wg,wn,wn,wn,wn,wi,(by rfl),(by simp)⟩ λI0 w i e H I=>?_);obtain ⟨k,W,A,u,q,n,Z,g,S⟩:=I;have Y:=xa4 Y W A (bL u) q (bL n);refine i7 (λs=>?_) λs=>?_
  .obtain ⟨v,E⟩:=fD (eP c.o h X.1[i] m.vars);obtain ⟨f,a⟩:∃ y,y=k++if v.2=0 then [(⟨X.1[i],v.1⟩:Mat)] else []:=⟨_,rfl⟩
   have Y:=xa3 Y s (aA s) @Part.c.eq_1 @Pattern.c.eq_1;refine wp (h:=aI ((by have l:=MF c.o h X.1[i] (XL z.pq O (J _ (aC s))) m.vars D B.vs;rw [<- E] at l;unfold Pattern.d Pattern.c Host.d Host.c Part.d Part.c dLI at l;exact l)) wl ?_);refine i7 (λo=>?_) λo=>?_
   .have hm3:f=k++[⟨X.1[i],v.1⟩]:=by rw [a,if_pos (eQ o)]
    have Y:=wa Y hm3;exact wp (h:=wx w (i+1) ⟨f,wg,wn,wn,wn,wn,wj,(by rw [aE s,qP,<- g,<- E];exact a),(by rw [a];split<;>simp<;>omega)⟩)
   .have hm3:f=k:=by rw [a,if_neg (eQ o),dS]
    have Y:=wa Y hm3;exact wp (h:=wx w (i+1) ⟨f,wg,wn,wn,wn,wn,wj,(by rw [aE s,qP,<- g,<- E];exact a),(by rw [a];split<;>simp<;>omega)⟩)
  .rw [aG aD] at g;exact wv (h:=K _ _ (by simp [go_sem,Y,j,<- g]))
theorem Pw (l:List Cond):l.length<=Cond.aa l:=by
 induction l with
 | nil=>simp [Cond.aa]
 | cons a l ih=>have:=x9 a;simp only [Cond.aa,eZ];omega
structure CondV (t:Types) (p:Pattern) (c:Cond):Prop where
 wf:NJ c=true
 dI:sC t p c=0
 Y:c.size<=1000000
theorem CondV.kinds {t:Types}{p:Pattern}{c:Cond}(h:CondV t p c):(c.E=2\/c.E=5->c.s.length=1)/\(1<=c.E/\c.E<=5):=by
 have:=h.wf;rw [vX,aN] at this;have a:=this.1;unfold sX at a;split at a
 .omega
 .split at a
  .rw [aN,decide_eq_true_eq] at a;omega
  .split at a
   .omega
   .rw [aN,decide_eq_true_eq,decide_eq_true_eq] at a;omega
theorem CondV.ex {t:Types}{p:Pattern}{c:Cond}(h:CondV t p c)(f:c.E=5)(g:PatOk t p):ExOk t p c.map c.o/\∀ k∈c.s,CondV t c.o k:=by
 have b:=h.dI;have e:=h.wf;rw [GV,if_pos f,if_pos f] at b;rw [vX,aN,c9] at e;by_cases a:jY t p c.map c.o=0
 .rw [if_neg aD] at b;refine ⟨?_,λk d=>⟨e.2 k d,qZ b k d,by have:=x9 c;have:=CJ d;have:=h.Y;omega⟩⟩;unfold jY at a;split at a
  .cases a
  .rename_i h1;split at a
   .exact absurd a (by assumption)
   .rename_i h2;split at a
    .exact absurd a (by assumption)
    .rename_i h3;rw [gU] at h2 h3;refine ⟨Lf ?_,aD,g.vars.1,h3⟩;unfold oO at h2;split at h2
     .exact .inr h2
     .rename_i h4;left;omega
 .rw [if_pos a] at b;exact absurd b a
theorem CondV.cx {t:Types}{p:Pattern}{c:Cond}(h:CondV t p c)(e:c.E≠5):∀ k∈c.s,CondV t p k:=by
 have d:=h.dI;have b:=h.wf;rw [GV,if_neg e,if_neg e,if_neg aD] at d;rw [vX,aN,c9] at b;exact λk a=>⟨b.2 k a,qZ d k a,by have:=x9 c;have:=CJ a;have:=h.Y;omega⟩
theorem xO {α β:Type}(f:α->β){l:List α}{i:Nat}(h:i<l.length):(l.drop i).map f=f l[i] :: (l.drop (i+1)).map f:=by rw [iB h,iH]
theorem A1 {t:Types}{h:Host}{b:Bool}{l:List Cond}(c:0<l.length):PC (l.map (pE t h b))=pE t h b l[0]:=by
 cases l with
 | nil=>cases c
 | cons a l=>rfl
theorem CA (t:Types)(h:Host)(d:Bool)(c:Cond)(m:Mat):∃ wc wm wk we,pE t h d c m=(Prf.mk wc wm wk,we):=by
 cases e:pE t h d c m with
 | mk a b=>cases a;exact ⟨_,_,_,_,rfl⟩
theorem OD (t:Types)(ht:t.ok)(h:Host)(ho:HostOk t h)(b:Bool):∀ (c:Cond) (p:Pattern),CondV t p c->PatOk t p->∀ m:Mat,MatOk t p h m ->
  Pua 279 [t.d,.agg c.c,h.d,m.d,.bool b] (.tup [.agg (pE t h b c m).1.c,dI (pE t h b c m).2]):=by
 refine kS λc ih p L hp m S=>?_;obtain ⟨U,b4⟩:=L.kinds;have T:c.s.length<=1000000:=by have:=Pw c.s;have:=x9 c;have:=L.Y;omega
 have f:=GH t h b c m;obtain ⟨W,a8⟩:=fD (pE t h b c m);rw [<- a8] at f ⊢;refine pS (by first|rfl|(simp [go_sem];done)) (λQ u=>(Tz.cK ⟨λt=>t==10||t==12||t==14||t==16||t==19||t==24,λr=>match r with|3=>[(0,12),(1,12),(2,12),(3,12),(4,12),(5,12),(6,12),(8,12)]|14=>[(0,13),(1,13),(2,13),(4,13),(5,13),(6,13),(7,13),(9,13)]|23=>[(0,13),(1,13),(2,13),(4,13),(5,13),(6,13),(7,13),(9,13)]|34=>[(0,15),(1,15),(2,15),(3,15),(4,15),(5,15),(8,15),(9,15),(11,15)]|36=>[(2,5),(3,5)]|_=>[]⟩ func279 rfl ?_));have Y:=xa4 @Cond.A @Host.d.eq_1 @Host.c.eq_1 @Mat.d.eq_1 @Mat.c.eq_1 @Prf.A;refine dK (λh2=>?_) λh2=>?_
 .have h2':c.E=2:=by simpa using h2
  have C:0<c.s.length:=by have:=U (.inl h2');omega
  obtain ⟨A,j⟩:∃ k,k=c.s[0]:=⟨_,rfl⟩;have s:A∈c.s:=j ▸ aC C;have b2:=L.cx aD A s;obtain ⟨wc,wm,wk,we,o⟩:=CA t h b A m;rw [if_pos h2',A1 C,<- j,o] at f;unfold Xa at f;have Y:=xa2 Y (aA C) (Eq.symm j) h2';refine wp (h:=aI ((by have l:=ih A s p b2 hp m S;simp only [o,Prf.A,Cond.A] at l;unfold Types.d Types.c Host.d Host.c Mat.d Mat.c dLI dI at l;exact l)) wl ?_);refine i7 (λh4=>?_) λh4=>?_
  .rw [if_pos (eQ h4)] at f;refine wv (h:=?_);exact u _ _ (by simp [go_sem,Y,f,jQ,iW,Prf.A,mC,iI,eE,dLI,d9,f5])
  .rw [if_neg (eQ h4)] at f;refine dK (λh6=>?_) λh6=>?_
   .rw [if_pos (eQ h6)] at f;refine wv (h:=?_);exact u _ _ (by simp [go_sem,Y,f,jQ,iW,Prf.A,mC,iI,eE,dLI,d9,f5])
   .rw [if_neg (eQ h6)] at f;refine wv (h:=?_);exact u _ _ (by simp [go_sem,Y,f,jQ,iW,Prf.A,mC,iI,eE,dLI,d9,f5])
 .have h2':c.E≠2:=by simpa using h2
  rw [if_neg h2'] at f;refine dK (λh9=>?_) λh9=>?_
  .have h9':c.E=3:=by simpa using h9
   have v:=L.cx aD;rw [if_pos h9'] at f;have Y:=wa Y h9';refine wv (h:=lB (Ghosts.step (Ghosts.refl _) 1 0 4 255 5 _ _ ((by simp [go_sem];rfl)) rfl rfl rfl) (λi e H=>∃ K:List Prf,(e 5=.adr t.c/\e 6=.adr c.c/\e 7=.adr h.c/\e 8=.adr m.c/\e 4=.bool b/\e 10=.ptr 0 1 0 0/\e 14=.ptr 1 1 0 0/\e 15=dI i)/\(H.get 0=some ⟨255,5,[[dI 0,.nil,.nil,.nil,.nil]],false⟩)/\(0<H.next)/\(H.get 1=some ⟨255,5,[[dI 0,.nil,.nil,.nil,.own 2 K.length]],false⟩)/\(1<H.next)/\(H.get 2=some ⟨255,5,K.map Prf.c,false⟩)/\(2<H.next)/\(i<=c.s.length)/\(Nv ((c.s.drop i).map λk=>pE t h b k m) K=W)/\(K.length<=i)/\(c.s.length<=1000000)) (λi=>c.s.length - i) 0 ⟨([]),wg,wn,wn,wn,wn,wn,wn,wi,(by exact f.symm),dB,(by exact T)⟩ λI1 b1 i e H a6=>?_);obtain ⟨K,E1,a2,R,Z,N,V,M,hi,n,b3,a3⟩:=a6;have Y:=xa6 Y E1 a2 (bL R) Z (bL N) V (bL M);refine wv (h:=?_);repeat first|intro _|refine ⟨gX,?_⟩
   refine wq (λz=>?_) λz=>?_
   .obtain ⟨B,g⟩:∃ k,k=c.s[i]:=⟨_,rfl⟩;have q:B∈c.s:=g ▸ aC z;obtain ⟨wc,wm,wk,we,o⟩:=CA t h b B m;have a:=n;rw [xO _ z,<- g,o] at a;simp only [Nv] at a;have Y:=xa2 Y z (aA z) (Eq.symm g);refine wp (h:=aI ((by have l:=ih B q p (v B q) hp m S;simp only [o,Prf.A,Cond.A] at l;unfold Types.d Types.c Host.d Host.c Mat.d Mat.c dLI dI at l;exact l)) wl ?_);refine i7 (λJ=>?_) λJ=>?_
    .rw [if_pos (eQ J)] at a;refine wv (h:=?_);exact u _ _ (by simp [go_sem,Y,<- a,jQ,iW,Prf.A,mC,iI,eE,dLI,d9,f5])
    .rw [if_neg (eQ J)] at a;exact wp (h:=wx b1 (i+1) ⟨(K++[.mk wc wm wk]),wg,wn,wn,wn,wn,wn,wn,wj,(by exact a),(by simp;omega),(by exact a3)⟩)
   .rw [jO aD] at n;simp only [jF,Nv] at n;refine wv (h:=?_);exact u _ _ (by simp [go_sem,Y,<- n,jQ,iW,Prf.A,mC,iI,eE,dLI,d9,f5])
  .have h9':c.E≠3:=by simpa using h9
   rw [if_neg h9'] at f;refine dK (λI=>?_) λI=>?_
   .have h19':c.E=4:=by simpa using I
    have v:=L.cx aD;rw [if_pos h19'] at f;have Y:=wa Y h19';refine wv (h:=aY (λi e H=>(e 5=.adr t.c/\e 6=.adr c.c/\e 7=.adr h.c/\e 8=.adr m.c/\e 4=.bool b/\e 10=.ptr 0 1 0 0/\e 18=dI i)/\(H.get 0=some ⟨255,5,[[dI 0,.nil,.nil,.nil,.nil]],false⟩)/\(0<H.next)/\(i<=c.s.length)/\(W2 ((c.s.drop i).map λk=>pE t h b k m) i=W)) (λi=>c.s.length - i) 0 ⟨wg,wn,wn,wi,(by exact f.symm)⟩ λI3 b0 i e H a5=>?_);obtain ⟨E3,a1,P,hi,n⟩:=a5;have Y:=xa2 Y E3 a1 (bL P);refine wv (h:=?_);repeat first|intro _|refine ⟨gX,?_⟩
    refine wq (λy=>?_) λy=>?_
    .obtain ⟨B,g⟩:∃ k,k=c.s[i]:=⟨_,rfl⟩;have q:B∈c.s:=g ▸ aC y;obtain ⟨wc,wm,wk,we,o⟩:=CA t h b B m;have a:=n;rw [xO _ y,<- g,o] at a;simp only [W2] at a;have Y:=xa2 Y y (aA y) (Eq.symm g);refine wp (h:=aI ((by have l:=ih B q p (v B q) hp m S;simp only [o,Prf.A,Cond.A] at l;unfold Types.d Types.c Host.d Host.c Mat.d Mat.c dLI dI at l;exact l)) wl ?_);refine i7 (λG=>?_) λG=>?_
     .rw [if_pos (eQ G)] at a;refine wv (h:=?_);exact u _ _ (by simp [go_sem,Y,<- a,jQ,iW,Prf.A,mC,iI,eE,dLI,d9,f5])
     .rw [if_neg (eQ G)] at a;exact wp (h:=wx b0 (i+1) ⟨wg,wn,wn,wj,(by exact a)⟩)
    .rw [jO aD] at n;simp only [jF,W2] at n;refine wv (h:=?_);exact u _ _ (by simp [go_sem,Y,<- n,jQ,iW,Prf.A,mC,iI,eE,dLI,d9,f5])
   .have h19':c.E≠4:=by simpa using I
    rw [if_neg h19'] at f;refine dK (λF=>?_) λF=>?_
    .have h27':c.E=5:=by simpa using F
     obtain ⟨hE,v⟩:=L.ex h27' hp;have C:0<c.s.length:=by have:=U (.inr h27');omega
     obtain ⟨A,j⟩:∃ k,k=c.s[0]:=⟨_,rfl⟩;have s:A∈c.s:=j ▸ aC C;obtain ⟨X,hX⟩:=fD (zP t c.map c.o h m b);have a7:∀ x∈X.1,MatOk t c.o h x:=hX ▸ SN hE ho S;rw [if_pos h27',A1 C,<- j,<- hX] at f;have Y:=xa2 Y (aA C) (Eq.symm j) h27';refine wv (h:=aB ((by have l:=En t ht p c hE h ho m S b;rw [<- hX,Cond.A,h27'] at l;unfold Types.d Types.c Host.d Host.c Mat.d Mat.c dLI dI at l;exact l)) wl ?_);refine dK (λE=>?_) λE=>?_
     .rw [if_pos (eQ E)] at f;refine wv (h:=?_);exact u _ _ (by simp [go_sem,Y,f,jQ,iW,Prf.A,mC,iI,eE,dLI,d9,f5])
     .rw [if_neg (eQ E)] at f;refine wv (h:=aY (λi e H=>(e 5=.adr t.c/\e 6=.adr c.c/\e 7=.adr h.c/\e 8=.adr m.c/\e 4=.bool b/\e 10=.ptr 0 1 0 0/\e 21=.list (X.1.map Mat.c)/\e 23=dI i)/\(H.get 0=some ⟨255,5,[[dI 0,.nil,.nil,.nil,.nil]],false⟩)/\(0<H.next)/\(i<=X.1.length)/\(Xp ((X.1.drop i).map λx=>(x,pE t h b A x))=W)) (λi=>X.1.length - i) 0 ⟨wg,wn,wn,wi,(by exact f.symm)⟩ λI5 a9 i e H a4=>?_);obtain ⟨E5,a0,O,hi,n⟩:=a4;have Y:=xa2 Y E5 a0 (bL O);refine wv (h:=?_);repeat first|intro _|refine ⟨gX,?_⟩
      refine wq (λw=>?_) λw=>?_
      .obtain ⟨wc,wm,wk,we,o⟩:=CA t h b A X.1[i];have a:=n;rw [xO _ w,o] at a;simp only [Xp] at a;have Y:=xa1 Y w (aA w);refine wp (h:=aI ((by have l:=ih A s c.o (v A s) hE.pq X.1[i] (a7 _ (aC w));simp only [o,Prf.A,Cond.A] at l;unfold Types.d Types.c Host.d Host.c Mat.d Mat.c dLI dI at l;exact l)) wl ?_);refine i7 (λD=>?_) λD=>?_
       .rw [if_pos (eQ D)] at a;refine wp (h:=?_);exact u _ _ (by simp [go_sem,Y,<- a,jQ,iW,Prf.A,mC,iI,eE,dLI,d9,f5])
       .rw [if_neg (eQ D)] at a;exact wp (h:=wx a9 (i+1) ⟨wg,wn,wn,wj,(by exact a)⟩)
      .rw [jO aD] at n;simp only [jF,Xp] at n;refine wv (h:=?_);exact u _ _ (by simp [go_sem,Y,<- n,jQ,iW,Prf.A,mC,iI,eE,dLI,d9,f5])
    .have h27':c.E≠5:=by simpa using F
     rw [if_neg h27'] at f;refine wv (h:=?_);exact u _ _ (by simp [go_sem,Y,f,jQ,iW,Prf.A,mC,iI,eE,dLI,d9,f5])
theorem OG (t:Types)(k:t.ok)(h:Host)(n:HostOk t h)(a:Bool)(c:Cond)(p:Pattern)(q:CondV t p c)(l:PatOk t p)(m:Mat)(o:MatOk t p h m) :
  Pua 196 [t.d,.agg c.c,h.d,m.d,.bool a] (.tup [.bool (mO t h a c m).1,dI (mO t h a c m).2]):=by
 have b:=OD t k h n a c p q l m o;rw [Cond.A] at b;obtain ⟨u,r,s,f,i⟩:=CA t h a c m;have e:mO t h a c m=if f=10 then (false,0) else (decide (f=0),f):=by unfold mO NH;rw [i]
 simp only [i,Prf.A] at b;refine Tz.pK ⟨λt=>t==12,λ_=>[]⟩ func196 rfl (λQ j=>?_);have Y:=xa4 @Cond.A @Host.d.eq_1 @Host.c.eq_1 @Mat.d.eq_1 @Mat.c.eq_1 @Prf.A;refine wv (h:=aB ((by have b:=b;unfold Types.d Types.c Host.d Host.c Mat.d Mat.c dLI dI at b;exact b)) wl ?_);refine dK (λg=>?_) λg=>?_
 .rw [if_pos (eQ g)] at e;exact wv (h:=j _ _ (by simp [go_sem,e]))
 .rw [if_neg (eQ g)] at e;exact wv (h:=j _ _ (by simp [go_sem,e,Dr]))
structure RuleV (t:Types) (r:Rule):Prop where
 vf:(cW t).2=0
 pl:PatOk t r.left
 gr:graphF r.right.j=0
 tr:fQ t r.right.j=true
 sub:subF r.left.j r.q=0
 mo:eD (bZ r.left.j r.q) r.right.j r.u=0
 inj:Ca (bZ r.left.j r.q) r.right.j r.u=true
 dG:vE t r.right.j r.R r.ai=true
 vars:r.right.vars=r.left.vars
 bg:r.right.l.length<=10
 dm:∀ s∈r.right.l,gF t r.right s=0
 cond:CondV t r.left r.cond
 kl:r.q.h.length<=1000000/\r.q.i.length<=1000000
theorem KU {t:Types}{r:Rule}(a:r.ok)(h:ruleF t r=0):RuleV t r:=by
 unfold ruleF at h;split at h
 .rename_i h1;exact absurd h h1
 .rename_i h1;split at h
  .cases h
  .split at h
   .rename_i h3;exact absurd h h3
   .rename_i h3;split at h
    .rename_i h4;exact absurd h h4
    .rename_i h4;split at h
     .rename_i h5;exact absurd h h5
     .rename_i h5;split at h
      .cases h
      .rename_i h6;rw [gU] at h1 h3 h4 h5;have c:=Ek h4;unfold g7 at h4;rw [if_neg aD,if_neg (by simp [c.2])] at h4;split at h4
       .cases h4
       .rename_i h7;split at h4
        .cases h4
        .rename_i h8;have b:subF r.left.j r.q=0/\eD (bZ r.left.j r.q) r.right.j r.u=0/\Ca (bZ r.left.j r.q) r.right.j r.u=true:=by
          unfold keptF at h5;split at h5
          .rename_i q;exact absurd h5 q
          .rename_i q;split at h5
           .rename_i q2;exact absurd h5 q2
           .rename_i q2;split at h5
            .cases h5
            .rename_i q3;exact ⟨aD,aD,by simpa using q3⟩
         unfold condF at h;rw [if_neg aD] at h;split at h
         .rename_i q;exact absurd h q
         .rename_i h9;refine ⟨h1,Lf (.inr h3),c.1,c.2,b.1,b.2.1,b.2.2,by simpa using h6,aD,aD,λs d=>?_,⟨?_,h,a.size⟩,a.k1,a.k2⟩
          .obtain ⟨i,e,rfl⟩:=aQ d;have:=eI _ _ h4 i (eB _) aD;rw [AU e] at this;split at this
           .cases this
           .rename_i q;exact gU.1 q
          .rw [gU] at h9;unfold tT at h9;split at h9
           .cases h9
           .rename_i q;simpa using q
theorem RuleV.q {t:Types}{r:Rule}(h:RuleV t r):(r.q.h.length=r.u.h.length/\r.q.i.length=r.u.i.length)/\(∀ x∈r.q.h,0<=x/\x<r.left.j.h.length)/\(∀ x∈r.q.i,0<=x/\x<r.left.j.i.length) /\
  (∀ x∈r.u.h,0<=x/\x<r.right.j.h.length)/\∀ x∈r.u.i,0<=x/\x<r.right.j.i.length:=by
 obtain ⟨i,g,d,c⟩:=rL h.sub;obtain ⟨_,_,f,e⟩:=kZ h.mo;obtain ⟨b,a⟩:=tH h.mo;have k:(bZ r.left.j r.q).h.length=r.q.h.length:=by unfold bZ;rw [if_pos h.sub];simp
 have j:(bZ r.left.j r.q).i.length=r.q.i.length:=by unfold bZ;rw [if_pos h.sub];simp
 exact ⟨⟨aD,aD⟩,d,c,b,a⟩
theorem RuleV.l {t:Types}{r:Rule}(h:RuleV t r):∀ s∈r.right.l,(0<=s.node/\s.node<r.right.j.h.length)/\(0<=s.J/\s.J<(bI t (r.right.j.h[s.node.toNat]?.getD 0)).length)/\qH s.x r.left.vars.toNat:=λs hs=>by
 have:=h.dm s hs;have hv:=h.pl.vars;have he:=h.vars;unfold gF at this;split at this
 .rename_i h1;simp only [aN,lZ,decide_eq_true_eq,inF,Pattern.E] at h1;exact ⟨h1.1.1.1,⟨h1.1.1.2.1,of_decide_eq_true h1.1.1.2.2⟩,⟨aD,aD⟩,aD,aD⟩
 .cases this
theorem Fq (t:Types)(b:t.ok)(r:Rule)(f:r.ok)(h:Host):Pua 133 [t.d,r.d,h.d] (dI (f6 t r h)):=by
 refine Tz.p0 func133 rfl λQ e _=>?_;have Y:=wa @Host.d.eq_1 @Host.c.eq_1;refine wv (h:=aB (OA t b r f) wl ?_);refine dK (λa=>?_) λa=>?_
 .exact wv (h:=e _ _ (by simp [go_sem,f6,a]))
 .refine wv (h:=aB (Aj t b h) wl ?_);exact wv (h:=e _ _ (by simp [go_sem,f6,a,fX]))
theorem rE (l:W3)(k:Nat)(v:Int):gG l (k+1) v=if l[k]?.getD (-1)=v then (k:Int) else gG l k v:=by unfold gG;rw [eK]
theorem DS (l:W3)(v:Int):∀ n,-1<=gG l n v/\gG l n v<n
 | 0=>by simp [gG]
 | n+1=>by
  have:=DS l v n;rw [rE];split<;>omega
theorem Jr (l:W3)(v:Nat):lY l (v+1)=lY l v++[gG l l.length v]:=by simp [lY,bS]
theorem lX (l:W3)(v:Nat):(lY l v).length=v:=by simp [lY]
theorem o8 (l:W3){n i:Nat}(h:i<n):(lY l n)[i]?=some (gG l l.length i):=by simp [lY,h]
theorem HY (l:W3)(n:Nat)(E:n<=1000000):Pua 199 [dLI l,dI n] (dLI (lY l n)):=by
 refine Tz.pK ⟨λt=>t==5,λ_=>[]⟩ func199 rfl (λQ x=>?_);have Y:=trivial;refine wv (h:=aY (λv e H=>(e 0=dLI l/\e 1=dI n/\e 5=.own 0 v/\e 6=dI v)/\(H.get 0=some ⟨3,1,(lY l v).map cI,false⟩)/\(0<H.next)/\(v<=n)) (λv=>n - v) 0 ⟨wg,(by simp [go_sem,lY]),wn,wi⟩ λI r v e H q=>?_);obtain ⟨C,m,f,D⟩:=q;have Y:=xa2 Y C m (bL f);refine dK (λu=>?_) λu=>?_
 .have hbl:=lX l v;have Y:=wa Y u;refine wp (h:=aY (λk e H=>∃ B:W3,(e 0=dLI l/\e 1=dI n/\e 5=.own 0 (v+1)/\e 6=dI v/\e 7=dI k)/\(H.get 0=some ⟨3,1,B.map cI,false⟩)/\(0<H.next)/\(k<=l.length)/\(B=lY l v++[gG l k v])/\(B.length=v+1)) (λk=>l.length - k) 0 ⟨(lY l v++[-1]),wg,(by simp [go_sem,Y,cI]),wn,wi,(by rfl),(by simp [hbl])⟩ λG g k e H p=>?_);obtain ⟨B,A,j,d,F,s,b⟩:=p;have Y:=xa3 Y A j (bL d) b;refine wv (h:=?_);repeat first|intro _|refine ⟨gX,?_⟩
  refine wq (λi=>?_) λi=>?_
  .have hvB:v<B.length:=aD;have Y:=xa2 Y i (aA i) (aA hvB);refine i7 (λz=>?_) λz=>?_
   .obtain ⟨o,a⟩:∃ y,y=B.set v (k:Int):=⟨_,rfl⟩;have w:o.map cI=(B.map cI).set v (cI k):=by rw [a,b6]
    have c:B.set v (k:Int)=lY l v++[gG l (k+1) v]:=by
     rw [rE,aA i,Option.getD_some,if_pos aD,s,mT _ _ aD,hbl,uS];rfl
    have Y:=xa1 Y w @cI.eq_1;exact wp (h:=wx g (k+1) ⟨o,wg,(by simp [go_sem,Y]),wn,wj,(by rw [a];exact c),(by rw [a];simp [b])⟩)
   .obtain ⟨o,a⟩:∃ y,y=B:=⟨_,rfl⟩;have c:B=lY l v++[gG l (k+1) v]:=by
     rw [rE,aA i,Option.getD_some,if_neg aD];exact s
    have Y:=wa Y a;exact wp (h:=wx g (k+1) ⟨o,wg,(by simp [go_sem,Y]),wn,wj,(by rw [a];exact c),(by rw [a];simp [b])⟩)
  .have hBe:B.map cI=(lY l v).map cI++[cI (gG l l.length v)]:=by rw [s,(aD:k=l.length)];simp
   exact wp (h:=wx r (v+1) ⟨wg,(by simp [go_sem,Y,Jr,hBe]),wn,wj⟩)
 .have hve:v=n:=aD;exact wv (h:=x _ _ (by simp [go_sem,Y,hve,dLI,lX]))
theorem CW (l:W3)(n:Nat)(a:n<=1000000):Pua 198 [dI n,dLI l] (dLI (lY l n)):=by
 refine Tz.p0 func198 rfl λQ b Y=>?_;refine wv (h:=aB (HY l n a) wl ?_);exact wv (h:=b _ _ wy)
theorem J4 (t:Types)(b:t.ok)(h:Host)(p:Part)(f:p.h.length<=1000000)(a:p.i.length<=1000000)(e:h.j.h.length<=1000000)(g:h.j.i.length<=1000000) :
  Pua 136 [t.d,h.d,p.d] (.tup [(WH t h p).d,Part.d ⟨lY p.h h.j.h.length,lY p.i h.j.i.length⟩]):=by
 refine Tz.pK ⟨λt=>t==6||t==7||t==8,λ_=>[]⟩ func136 rfl (λQ i=>?_);have Y:=xa2 @Host.d.eq_1 @Host.c.eq_1 @Part.d.eq_1 @Part.c.eq_1;refine wv (h:=aB (Ka t b h p f a) wl ?_);refine wp (h:=aI (CW p.h h.j.h.length e) wl ?_);refine wp (h:=aI (CW p.i h.j.i.length g) wl ?_);exact wp (h:=i _ _ wy)
theorem Bv (l:W3)(n:Int):Pua 200 [dLI l,dI n] (.bool (!mem l n)):=by
 refine Tz.p0 func200 rfl λQ m Y=>?_;refine wv (h:=aY (λi e H=>(e 0=dLI l/\e 1=dI n/\e 5=dI i)/\(i<=l.length)/\(∀ j,j<i->∀ b:j<l.length,l[j]≠n)) (λi=>l.length - i) 0 ⟨wg,wi,(by intro j b;omega)⟩ λs g i e H f=>?_);obtain ⟨q,r,o⟩:=f;have Y:=wa Y q;refine wv (h:=?_);repeat first|intro _|refine ⟨iD,?_⟩
 refine wq (λc=>?_) λc=>?_
 .have Y:=xa1 Y c (aA c);refine d8 (λk=>?_) λk=>?_
  .have a:mem l n=true:=(mem_iff _ _).2 (k ▸ aC c);exact wv (h:=m _ _ (by simp [go_sem,a]))
  .exact wo (h:=wx g (i+1) ⟨wg,wj,(by intro j b d;rcases cH j i with hji|hji;exact o j hji d;(obtain rfl:j=i:=aD;exact k))⟩)
 .have a:mem l n=false:=by
   rw [bQ];intro a;obtain ⟨j,b,p⟩:=aQ ((mem_iff _ _).1 a);exact o j aD b p
  exact wv (h:=m _ _ (by simp [go_sem,a]))
theorem Ag (a b:W3)(s:a.length<=1000000)(p:∀ x∈a,0<=x/\x<b.length):Pua 137 [dLI a,dLI b] (dLI (pH a b)):=by
 refine Tz.pK ⟨λt=>t==5,λ_=>[]⟩ func137 rfl (λQ q=>?_);have Y:=trivial;refine wv (h:=aY (λi e H=>(e 0=dLI a/\e 1=dLI b/\e 5=.own 0 i/\e 6=dI i)/\(H.get 0=some ⟨3,1,(pH (a.take i) b).map cI,false⟩)/\(0<H.next)/\(i<=a.length)) (λi=>a.length - i) 0 ⟨wg,(by simp [go_sem,pH]),wn,wi⟩ λu m i e H k=>?_);obtain ⟨r,c,f,o⟩:=k;have Y:=xa2 Y r c (bL f);refine i7 (λg=>?_) λg=>?_
 .have hx:=p _ (aC g);have n:a[i].toNat<b.length:=aD;have l:pH (a.take (i+1)) b=pH (a.take i) b++[b[a[i].toNat]]:=by unfold pH;rw [aE g,List.map_append];simp [aA n]
  have d:(pH (a.take i) b).length=i:=by simp [pH];omega
  have Y:=xa3 Y g (aA g) (aA n) d;exact wp (h:=wx m (i+1) ⟨wg,(by simp [go_sem,Y,l,cI]),wn,wj⟩)
 .rw [aG aD] at c;have j:i=a.length:=aD;have d:(pH a b).length=a.length:=by simp [pH]
  exact wv (h:=q _ _ (by simp [go_sem,Y,j,d,dLI]))
theorem Lo (a:W3)(i:Nat):B0 a (i+1)=B0 a i+if gG a a.length i<0 then 1 else 0:=by
 unfold B0;rw [bS,jA,aH];congr 1;simp only [List.filter_cons,List.filter_nil];split<;>simp_all
theorem Ln (into:W3):B0 into 0=0:=rfl
theorem Sy (a:W3)(i:Nat):B0 a i<=i:=by
 unfold B0;exact dH (iT _ _) dB
theorem PW (keep b at_:W3)(i a:Nat):D5 keep b at_ (i+1) a=D5 keep b at_ i a++[Jg keep b at_ a i]:=by simp [D5,bS]
theorem Bw (keep a at_:W3)(b c:Nat)(B:a.length<=keep.length)(u:∀ x∈keep,0<=x/\x<at_.length)(s:b<=1000000)(A:c<=1000000) :
  Pua 138 [dLI keep,dLI a,dI b,dLI at_,dI c] (dLI (D5 keep a at_ b c)):=by
 refine Tz.pK ⟨λt=>t==12,λ_=>[]⟩ func138 rfl (λQ w=>?_);have Y:=@Ln;refine wv (h:=aB (HY a b s) wl ?_);refine wv (h:=aY (λi e H=>(e 0=dLI keep/\e 1=dLI a/\e 2=dI b/\e 3=dLI at_/\e 4=dI ((c+B0 a i:Nat):Int)/\e 11=dLI (lY a b)/\e 12=.own 0 i/\e 13=dI i)/\(H.get 0=some ⟨3,1,(D5 keep a at_ i c).map cI,false⟩)/\(0<H.next)/\(i<=b)) (λi=>b - i) 0 ⟨wg,(by simp [go_sem,D5]),wn,wi⟩ λF g i e H k=>?_);obtain ⟨z,j,f,D⟩:=k;have Y:=xa2 Y z j (bL f);refine dK (λr=>?_) λr=>?_
 .have hg:=o8 a (n:=b) (i:=i) aD;have E:=DS a i a.length;have o:=lX a b;have d:=Lo a i;have v:=Sy a i;have m:(D5 keep a at_ i c).length=i:=by simp [D5]
  have l:(lY a b)[i]' aD=gG a a.length i:=by simp [lY]
  have Y:=xa4 Y r hg l o m;refine i7 (λy=>?_) λy=>?_
  .have hb2:(gG a a.length i).toNat<keep.length:=aD;have C:=u _ (aC hb2);have q:keep[(gG a a.length i).toNat].toNat<at_.length:=aD;have p:Jg keep a at_ c i=at_[keep[(gG a a.length i).toNat].toNat]:=by unfold Jg;rw [if_pos aD,aA hb2,Option.getD_some,aA q];rfl
   rw [if_neg aD] at d;have Y:=xa2 Y (aA hb2) (aA q) d;exact wp (h:=wx g (i+1) ⟨wg,(by simp [go_sem,Y,PW,p,cI]),wn,wj⟩)
  .have p:Jg keep a at_ c i=((c+B0 a i:Nat):Int):=by unfold Jg;rw [if_neg aD]
   rw [if_pos aD] at d;have Y:=wa Y d;exact wp (h:=wx g (i+1) ⟨wg,(by simp [go_sem,Y,PW,p,cI]),wn,wj⟩)
 .have hie:i=b:=aD;exact wv (h:=w _ _ (by simp [go_sem,Y,hie,dLI];simp [D5]))
theorem H6 (a b:W3):Pua 50 [dLI a,dLI b] (.bool (decide (a=b))):=by
 refine Tz.p0 func50 rfl λQ g Y=>?_;refine d8 (λm=>?_) λm=>?_
 .refine wv (h:=?_);have c:a≠b:=by intro h;subst h;omega
  exact g _ _ (by simp [go_sem,c])
 .refine wv (h:=aY (λi e H=>(e 0=dLI a/\e 1=dLI b/\e 5=dI i)/\(i<=a.length)/\(a.take i=b.take i)) (λi=>a.length - i) 0 ⟨wg,wi,(by rfl)⟩ λp j i e H d=>?_);obtain ⟨n,o,f⟩:=d;have Y:=wa Y n;refine wv (h:=?_);repeat first|intro _|refine ⟨iD,?_⟩
  refine wq (λl=>?_) λl=>?_
  .have hib:i<b.length:=aD;have Y:=xa1 Y l hib;refine d8 (λk=>?_) λk=>?_
   .refine wv (h:=?_);have c:a≠b:=by intro h;subst h;exact k rfl
    exact g _ _ (by simp [go_sem,c])
   .exact wo (h:=wx j (i+1) ⟨wg,wj,(by rw [aE l,aE hib,f,k])⟩)
  .rw [aG aD,aG aD] at f;exact wv (h:=g _ _ (by simp [go_sem,f]))
def w4 (t:Types)(r:Rule)(h:Host)(m:Mat):Part:=if pF t r h m=0 then bY r h m else ⟨[],[]⟩
theorem RT {t:Types}{p g:Graph}{m:Part}{a:Bool}(h:checkE t p g m a=0):checkE t p g m false=0:=by
 unfold checkE at h ⊢;split at h
 .exact absurd h (by assumption)
 .rename_i h1;rw [if_neg h1];unfold matchE at h ⊢;split at h
  .cases h
  .rename_i h2;rw [if_neg h2];split at h
   .exact absurd h (by assumption)
   .rename_i h3;rw [if_neg h3];split at h
    .exact absurd h (by assumption)
    .rename_i h4;rw [if_neg h4,if_neg dB]
theorem KM {t:Types}{p:Pattern}{h:Host}{m:Part}(a:(dV t p h m).2=0):PatOk t p/\HostOk t h/\checkE t p.j h.j m false=0/\dV t p h m=eP p h m []:=by
 unfold dV at a ⊢;split at a
 .exact absurd a (by assumption)
 .rename_i h1;split at a
  .exact absurd a (by assumption)
  .rename_i h2;split at a
   .exact absurd a (by assumption)
   .rename_i h3;rw [gU] at h1 h2 h3;rw [if_neg aD,if_neg aD,if_neg aD];exact ⟨Lf (.inr h1),lE h2,h3,rfl⟩
theorem HM (t:Types)(q:t.ok)(r:Rule)(l:RuleV t r)(h:Host)(u:HostOk t h)(m:Mat) :
  Pua 135 [t.d,r.d,h.d,m.d] (.tup [(w4 t r h m).d,dI (lM t r h m)]):=by
 refine Tz.pK ⟨λt=>t==8||t==12||t==13,λ_=>[]⟩ func135 rfl (λQ n=>?_);have Y:=xa2 @Host.d.eq_1 @Host.c.eq_1 @Mat.d.eq_1 @Mat.c.eq_1;refine wv (h:=aB (Ai t q r.left.j h.j m.m r.inj) wl ?_);refine dK (λy=>?_) λy=>?_
 .have i:pF t r h m=1:=by unfold pF;rw [if_pos (eQ y)]
  have k:lM t r h m=1:=by unfold lM;rw [if_pos aD,i]
  have b:w4 t r h m=⟨[],[]⟩:=by unfold w4;rw [if_neg aD]
  exact wv (h:=n _ _ (by simp [go_sem,k,b,Part.d,Part.c,dLI]))
 .have hc:checkE t r.left.j h.j m.m r.inj=0:=by simpa using y
  refine wv (h:=aB (OH t q r.left h m.m) wl ?_);refine dK (λs=>?_) λs=>?_
  .have i:pF t r h m=(dV t r.left h m.m).2:=by unfold pF;rw [if_neg aD,if_pos s]
   have k:lM t r h m=(dV t r.left h m.m).2:=by unfold lM;rw [if_pos aD,i]
   have b:w4 t r h m=⟨[],[]⟩:=by unfold w4;rw [if_neg aD]
   exact wv (h:=n _ _ (by simp [go_sem,k,b,Part.d,Part.c,dLI]))
  .obtain ⟨A,z,g,f⟩:=KM (eQ s);have e:=qY (rD hc).2;refine wp (h:=aB (H6 (dV t r.left h m.m).1 m.vars) wl ?_);refine i7 (λw=>?_) λw=>?_
   .have h6':(dV t r.left h m.m).1≠m.vars:=by simpa using w
    have i:pF t r h m=11:=by unfold pF;rw [if_neg aD,if_neg aD,if_pos h6']
    have k:lM t r h m=11:=by unfold lM;rw [if_pos aD,i]
    have b:w4 t r h m=⟨[],[]⟩:=by unfold w4;rw [if_neg aD]
    exact wv (h:=n _ _ (by simp [go_sem,k,b,Part.d,Part.c,dLI]))
   .have h6':(dV t r.left h m.m).1=m.vars:=by simpa using w
    have v:Bg t r.left.j h.j m.m=kM r.left.j h.j m.m:=by unfold Bg;rw [if_pos g]
    have i:pF t r h m=oG (kM r.left.j h.j m.m) h.j r.q m.m:=by unfold pF;rw [if_neg aD,if_neg aD,if_neg (by rw [h6'];simp)]
    have J:=l.q;have H:=bR l.pl.gg;have I:=bR u.gg;have E:=e.len;have F:=e.bk;have G:=l.kl.1;have p:MatOk t r.left h m:=by
     rw [f] at h6';have o:(eP r.left h m.m []).2=0:=by rw [<- f];simpa using s
     obtain ⟨C,B⟩:=BP (XL l.pl u e) (vs:=[]) dB dB o;rw [h6'] at C B;exact ⟨e,C,B⟩
    have Y:=xa1 Y v g;refine wv (h:=aB (HT t q r.left.j h.j m.m) wl ?_);refine wv (h:=aB (Vj (kM r.left.j h.j m.m) h.j r.q m.m aD aD aD aD aD) wl ?_);refine dK (λx=>?_) λx=>?_
    .have k:lM t r h m=oG (kM r.left.j h.j m.m) h.j r.q m.m:=by unfold lM;rw [if_pos aD,i]
     have b:w4 t r h m=⟨[],[]⟩:=by unfold w4;rw [if_neg aD]
     exact wv (h:=n _ _ (by simp [go_sem,k,b,Part.d,Part.c,dLI]))
    .have b:w4 t r h m=bY r h m:=by unfold w4;rw [if_pos aD]
     have j:lM t r h m=if (mO t h r.inj r.cond m).2≠0 then (mO t h r.inj r.cond m).2 else if (mO t h r.inj r.cond m).1=false then 16 else 0:=by unfold lM;rw [if_neg aD]
     refine wv (h:=aB ((by have D:=OG t q h u r.inj r.cond r.left l.cond l.pl m p;rwa [Cond.A] at D)) wl ?_);refine i7 (λa=>?_) λa=>?_
     .rw [if_neg (by rw [a.1];simp),if_pos a.2] at j;exact wv (h:=n _ _ (by simp [go_sem,Y,j,b,bY]))
     .have hE2:lM t r h m=(mO t h r.inj r.cond m).2:=by
       rw [j];split
       .rfl
       .rename_i o;rw [gU] at o;simp [o] at a;simp [o,a]
      exact wv (h:=n _ _ (by simp [go_sem,Y,hE2,b,bY]))
theorem pW (l:W3)(i:Nat):bP l (i+1)=bP l i++if mem l i=true then [] else [(i:Int)]:=by
 unfold bP;rw [bS,jA,List.map_append];congr 1;simp only [List.filter_cons,List.filter_nil];split<;>simp_all
def GW (t:Types)(r:Rule)(x:Host)(i:Nat):Host :=
 ⟨⟨x.j.h++(bP r.u.h i).map (gN r.right.j),x.j.i⟩,x.k++(bP r.u.h i).map (λk=>mM t (gN r.right.j k))⟩
def Rx (t:Types)(r:Rule)(c:Part)(x:Host)(i:Nat):Host:=⟨⟨x.j.h,x.j.i++(bP r.u.i i).map (λk=>freshE c (r.right.j.i[k.toNat]?.getD b8))⟩,x.k⟩
theorem Fp (t:Types)(ht:t.ok)(r:Rule)(hR:RuleV t r)(u:Host)(c:Part)(hc:c.h.length=r.right.j.h.length)(hs:u.j.h.length<=1000/\u.j.i.length<=1000/\u.k.length<=1000)
  (G:AHeap) (lo a b V:Nat) (f:List Nat) (q:HH G lo a b V f u) (Q:D->AHeap->Prop)
  (hQ:∀ ns H',(∀ j∈ns,G.next<=j)->HH H' lo a b V (f++ns) (jS t r c u)->(∀ j,j<G.next->j∉a :: b :: V :: f->H'.get j=G.get j)->G.next<=H'.next->Q (.agg [.own a (jS t r c u).j.h.length,.own b (jS t r c u).j.i.length,.own V (jS t r c u).k.length]) H') :
  ACalls prog 139 [t.d,r.d,.agg [.own a u.j.h.length,.own b u.j.i.length,.own V u.k.length],c.d] G Q:=by
 have e7:=bR hR.gr;have d3:=dP hR.gr;have f0:=q.W a q.aO;have e8:=q.W b q.aN;have f1:=q.W V q.aV;have e9:=q.ab;have v:∀ j,j∉a :: b :: V :: f->j≠a/\j≠b/\j≠V:=λj hj=>by simp only [aV,not_or] at hj;exact ⟨hj.1,hj.2.1,hj.2.2.1⟩
 refine (Tz.cK ⟨λt=>t==6||t==8||t==9||t==13||t==16||t==1000001,λr=>match r with|6=>[(0,8),(1,8),(2,8)]|19=>[(0,18),(1,18),(2,18)]|_=>[]⟩ func139 rfl ?_);have Y:=wa @Part.d.eq_1 @Part.c.eq_1;refine wv (h:=aY (λi e H=>∃ X:Nat,∃ R:Nat,∃ m:Nat,∃ x:Host,∃ ns:List Nat,(e 4=.adr t.c/\e 5=.adr r.c/\e 7=.adr c.c/\e 6=.ptr X 1 0 0/\e 8=.ptr R 1 0 0/\e 9=.ptr m 1 0 0/\e 10=dI i)/\(H.get X=some ⟨68,3,[[.own a x.j.h.length,.own b x.j.i.length,.own V x.k.length]],false⟩)/\(X<H.next)/\(H.get R=some ⟨68,3,[[.nil,.nil,.nil]],false⟩)/\(R<H.next)/\(H.get m=some ⟨51,2,[[dLI r.right.j.h,.list (r.right.j.i.map Edge.c)]],false⟩)/\(m<H.next)/\(i<=r.right.j.h.length)/\(HH H lo a b V (f++ns) x)/\(x=GW t r u i)/\(∀ j∈a :: b :: V :: (f++ns),j≠X/\j≠R/\j≠m)/\(∀ j∈ns,G.next<=j)/\(G.next<=X/\X<R/\R<m)/\(∀ j,j<G.next->j∉a :: b :: V :: f->H.get j=G.get j)/\(G.next<=H.next)) (λi=>r.right.j.h.length - i) 0 ⟨G.next,(G.next+1),(G.next+2),u,([]),wg,wn,wn,wn,wn,wn,wn,wi,(by rw [dS];refine q.same (by simp [go_sem];omega) (λj hj=>by have:=(q.W j hj).2;simp [go_sem,bL this])),(by simp [GW,bP]),(by intro j hj;rw [dS] at hj;have:=(q.W j hj).2;omega),(by intro j hj;cases hj),aD,(by intro j hj _;simp [go_sem,bL hj]),(by simp [go_sem];omega)⟩ λI0 c3 i e H d1=>?_);obtain ⟨X,R,m,x,ns,E0,gX_0,nX_0,gR_0,nR_0,gYb_0,nYb_0,hi,B,hx,A,I,c0,hG,a3⟩:=d1;have e0:=xa2 (cY (aD:m≠R)) (cY (aD:m≠X)) (cY (aD:m≠V)) (xb0 (cY (aD:m≠b)) (cY (aD:m≠a)) (cY (aD:R≠X)) (cY (aD:R≠V)) (cY (aD:R≠b)) (cY (aD:R≠a)) (cY (aD:X≠V)) (cY (aD:X≠b)) (cY (aD:X≠a)) (cY (aD:V≠b)) (cY (aD:V≠a)) (cY (aD:b≠a)));have Y:=xa7 Y E0 gX_0 (bL nX_0) gR_0 (bL nR_0) gYb_0 (bL nYb_0) e0;refine i7 (λh3=>?_) λh3=>?_
 .have hsu:=pW r.u.h i;obtain ⟨nd,b0⟩:∃ y,y=r.right.j.h[i]:=⟨_,rfl⟩;have d2:gN r.right.j (i:Int)=nd:=by rw [b0];simp [gN,aA h3]
  have c9:=l9 r.u.h i;have c6:x.j.h.length<=2000/\x.k.length<=2000/\x.j.i.length<=2000:=by rw [hx];simp [GW];omega
  have Y:=xa2 Y h3 (aA h3) (Eq.symm b0);refine wp (h:=aB (Bv r.u.h i) wl ?_);refine i7 (λh5=>?_) λh5=>?_
  .have hm:mem r.u.h i=true:=by simpa using h5
   rw [if_pos hm,dS] at hsu;obtain ⟨s,l⟩:∃ y,y=x:=⟨_,rfl⟩;obtain ⟨C,n⟩:∃ y,y=ns:=⟨_,rfl⟩;have E:s=GW t r u (i+1):=by rw [l,hx];unfold GW;rw [hsu]
   have K:HH H lo a b V (f++C) s:=by rw [l,n];exact B
   have N:∀ j∈a :: b :: V :: (f++C),j≠X/\j≠R/\j≠m:=by rw [n];exact A
   have O:=hG;have Y:=wa Y l;exact wp (h:=wx c3 (i+1) ⟨X,R,m,s,C,wg,wn,wn,wn,wn,wn,wn,wj,(by first|exact K|(rw [n,<- List.append_assoc,l];exact w.bU (by first|(simp [go_sem];done)|(simp [go_sem];omega)) aD U (by first|(simp [go_sem];done)|(simp [go_sem];omega)) (by simp [go_sem,Y,o]) (by simp [go_sem,Y,o]) (λj hj=>by obtain ⟨S,P⟩:=M j hj;simp [go_sem,S,P]))),(by exact E),(by exact N),(by rw [n];first|exact I|(intro j hj;rw [aX,bG] at hj;rcases hj with hj|rfl;exact I j hj;exact a1.2)),(by exact c0),(by first|exact O|(intro j hj g;obtain ⟨ja,jb,jV⟩:=v j g;simp [go_sem,jV,(aD:j≠X)];exact a5 j hj g)),(by first|exact a3|(simp [go_sem];omega))⟩)
  .have hm:¬ mem r.u.h i=true:=by simpa using h5
   rw [if_neg hm] at hsu;have b4:=B.ga;have b6:=B.gV;have c7:=jJ B.len;have e3:=B.W a B.aO;have e4:=B.W V B.aV;have c8:=B.W b B.aN;have e1:(bI t nd).length<=8:=rH hR.vf nd;have d6:=xa1 (bL (aD:a<H.next)) (bL (aD:b<H.next)) (bL (aD:V<H.next));have b7:∀ j∈b :: V :: (f++ns),j≠a/\j≠X/\j<H.next:=λj hj=>by
    have J:j∈a :: b :: V :: (f++ns):=d7 _ hj;refine ⟨?_,(A j J).1,(B.W j J).2⟩;rintro rfl;have:=B.nd;rw [g9] at this;exact this.1 hj
   have Y:=xa4 Y h5 b4 b6 c7 d6;refine wp (h:=aI (l7 t ht nd) wl ?_);refine wp (h:=aY (λk e H=>∃ W:Nat,(e 4=.adr t.c/\e 5=.adr r.c/\e 7=.adr c.c/\e 6=.ptr X 1 0 0/\e 8=.ptr R 1 0 0/\e 9=.ptr m 1 0 0/\e 10=dI i/\e 11=.list ((bI t nd).map Attr.c)/\e 13=.own W k/\e 14=dI k)/\(H.get X=some ⟨68,3,[[.own a (x.j.h.length+1),.own b x.j.i.length,.own V x.k.length]],false⟩)/\(X<H.next)/\(H.get R=some ⟨68,3,[[.nil,.nil,.nil]],false⟩)/\(R<H.next)/\(H.get m=some ⟨51,2,[[dLI r.right.j.h,.list (r.right.j.i.map Edge.c)]],false⟩)/\(m<H.next)/\(H.get W=some ⟨3,1,(((bI t nd).take k).map λa=>a.aw).map cI,false⟩)/\(W<H.next)/\(k<=(bI t nd).length)/\(HH H lo a b V (f++ns) ⟨⟨x.j.h++[nd],x.j.i⟩,x.k⟩)/\(∀ j∈a :: b :: V :: (f++ns),j≠W)/\((lo<=W/\m<W)/\G.next<=W)/\(∀ j,j<G.next->j∉a :: b :: V :: f->H.get j=G.get j)/\(G.next<=H.next)) (λk=>(bI t nd).length - k) 0 ⟨(H.next+13+12),wg,wn,wn,wn,wn,wn,wn,(by simp [go_sem]),wn,wi,(by exact B.h (by first|(simp [go_sem];done)|(simp [go_sem];omega)) (by simp [go_sem,Y,cI]) (λj hj=>by obtain ⟨S,P,k3⟩:=b7 j hj;simp [go_sem,S,P,bL k3])),(by intro j hj;have:=(B.W j hj).2;omega),(by omega),(by intro j hj g;obtain ⟨ja,jb,jV⟩:=v j g;simp [go_sem,ja,(aD:j≠X),bL (aD:j<H.next)];exact hG j hj g),(by simp [go_sem];omega)⟩ λI2 d4 k e H d0=>?_);obtain ⟨W,E2,gX_2,nX_2,gR_2,nR_2,gYb_2,nYb_2,gW_2,nW_2,hk,w,U,a1,a5,e6⟩:=d0;have d9:=xa8 (cY (aD:W≠m)) (cY (aD:W≠R)) (cY (aD:W≠X)) (cY (aD:W≠V)) (cY (aD:W≠b)) (cY (aD:W≠a)) (cY (aD:m≠R)) (cY (aD:m≠X)) (cY (aD:m≠V)) (xb0 (cY (aD:m≠b)) (cY (aD:m≠a)) (cY (aD:R≠X)) (cY (aD:R≠V)) (cY (aD:R≠b)) (cY (aD:R≠a)) (cY (aD:X≠V)) (cY (aD:X≠b)) (cY (aD:X≠a)) (cY (aD:V≠b)) (cY (aD:V≠a)) (cY (aD:b≠a)));have Y:=xa9 Y E2 gX_2 (bL nX_2) gR_2 (bL nR_2) gYb_2 (bL nYb_2) gW_2 (bL nW_2) d9;refine i7 (λa0=>?_) λa0=>?_
   .have hst:((bI t nd).take (k+1)).map (λa=>a.aw)=((bI t nd).take k).map (λa=>a.aw)++[(bI t nd)[k].aw]:=by rw [aE a0,List.map_append];rfl
    have Y:=xa2 Y a0 (aA a0) @Attr.c.eq_1;exact wp (h:=wx d4 (k+1) ⟨W,wg,wn,wn,wn,wn,wn,wn,(by simp [go_sem,Y,hst,cI]),wn,wj,(by exact w.same (by simp [go_sem]) (λj hj=>by have:=U j hj;simp [go_sem,this])),(by exact U),aD,(by intro j hj g;simp [go_sem,(aD:j≠W)];exact a5 j hj g),(by simp [go_sem];omega)⟩)
   .have hke:k=(bI t nd).length:=aD;have b5:=w.gV;rw [aG aD] at gW_2;obtain ⟨s,l⟩:∃ y:Host,y=⟨⟨x.j.h++[nd],x.j.i⟩,x.k++[mM t nd]⟩:=⟨_,rfl⟩;obtain ⟨C,n⟩:∃ y,y=ns++[W]:=⟨_,rfl⟩;have E:s=GW t r u (i+1):=by rw [l,hx];unfold GW;rw [hsu];simp [d2]
    have N:∀ j∈a :: b :: V :: (f++C),j≠X/\j≠R/\j≠m:=λj hj=>by
     have e:a :: b :: V :: (f++C)=(a :: b :: V :: (f++ns))++[W]:=by rw [n];simp
     rw [e,aX,bG] at hj;rcases hj with hj|rfl
     .exact A j hj
     .omega
    have a2:s.j.h.length=x.j.h.length+1/\s.j.i.length=x.j.i.length/\s.k.length=x.k.length+1:=by rw [l];simp
    have M:∀ j∈a :: b :: (f++ns),j≠V/\j≠X:=λj hj=>by
     simp only [aV] at hj;rcases hj with rfl|rfl|hj
     .exact ⟨aD,(A _ w.aO).1⟩
     .exact ⟨aD,(A _ w.aN).1⟩
     .exact ⟨(w.qn hj).2.2,(A _ (w.aI hj)).1⟩
    have o:mM t nd=(bI t nd).map λa=>a.aw:=rfl;have Y:=xa2 Y b5 a2 hke;exact wp (h:=wx c3 (i+1) ⟨X,R,m,s,C,wg,wn,wn,wn,wn,wn,wn,wj,(by first|exact K|(rw [n,<- List.append_assoc,l];exact w.bU (by first|(simp [go_sem];done)|(simp [go_sem];omega)) aD U (by first|(simp [go_sem];done)|(simp [go_sem];omega)) (by simp [go_sem,Y,o]) (by simp [go_sem,Y,o]) (λj hj=>by obtain ⟨S,P⟩:=M j hj;simp [go_sem,S,P]))),(by exact E),(by exact N),(by rw [n];first|exact I|(intro j hj;rw [aX,bG] at hj;rcases hj with hj|rfl;exact I j hj;exact a1.2)),(by exact c0),(by first|exact O|(intro j hj g;obtain ⟨ja,jb,jV⟩:=v j g;simp [go_sem,jV,(aD:j≠X)];exact a5 j hj g)),(by first|exact a3|(simp [go_sem];omega))⟩)
 .have hie:i=r.right.j.h.length:=aD;have b3:=B.gb;have c9:=l9 r.u.h i;have c6:x.j.i.length<=1000:=by rw [hx];exact hs.2.1
  have Y:=wa Y b3;refine wv (h:=aY (λi e H=>∃ x:Host,(e 4=.adr t.c/\e 5=.adr r.c/\e 7=.adr c.c/\e 6=.ptr X 1 0 0/\e 8=.ptr R 1 0 0/\e 9=.ptr m 1 0 0/\e 15=dI i)/\(H.get X=some ⟨68,3,[[.own a x.j.h.length,.own b x.j.i.length,.own V x.k.length]],false⟩)/\(X<H.next)/\(H.get R=some ⟨68,3,[[.nil,.nil,.nil]],false⟩)/\(R<H.next)/\(H.get m=some ⟨51,2,[[dLI r.right.j.h,.list (r.right.j.i.map Edge.c)]],false⟩)/\(m<H.next)/\(i<=r.right.j.i.length)/\(HH H lo a b V (f++ns) x)/\(x=Rx t r c (GW t r u r.right.j.h.length) i)/\(∀ j,j<G.next->j∉a :: b :: V :: f->H.get j=G.get j)/\(G.next<=H.next)) (λi=>r.right.j.i.length - i) 0 ⟨x,wg,wn,wn,wn,wn,wn,wn,wi,(by exact B),(by rw [hx,hie];simp [Rx,bP]),(by exact hG),(by exact a3)⟩ λI4 c2 i e H b1=>?_);obtain ⟨x,E4,gX_4,nX_4,gR_4,nR_4,gYb_4,nYb_4,b1,p,T,Z,a4⟩:=b1;have d8:=xa2 (cY (aD:m≠R)) (cY (aD:m≠X)) (cY (aD:m≠V)) (xb0 (cY (aD:m≠b)) (cY (aD:m≠a)) (cY (aD:R≠X)) (cY (aD:R≠V)) (cY (aD:R≠b)) (cY (aD:R≠a)) (cY (aD:X≠V)) (cY (aD:X≠b)) (cY (aD:X≠a)) (cY (aD:V≠b)) (cY (aD:V≠a)) (cY (aD:b≠a)));have Y:=xa7 Y E4 gX_4 (bL nX_4) gR_4 (bL nR_4) gYb_4 (bL nYb_4) d8;refine i7 (λF=>?_) λF=>?_
  .have hsu:=pW r.u.i i;obtain ⟨y,hy⟩:=fD (r.right.j.i[i]);have c5:r.right.j.i[(i:Int).toNat]?.getD b8=y:=by rw [hy];simp [aA F]
   have a9:r.right.j.i[i]?.getD b8=y:=by rw [hy,aA F];rfl
   have c4:=(d3.2 _ (aC F)).2;rw [<- hy] at c4;have a8:y.w.toNat<c.h.length:=aD;have a7:y.M.toNat<c.h.length:=aD;have e5:=l9 r.u.i i;have e2:x.j.i.length<=2000:=by rw [T];simp [Rx,GW];omega
   have b2:=p.gb;have c8:=p.W b p.aN;have d5:=bL (aD:b<H.next);have Y:=xa7 Y F (aA F) (Eq.symm hy) (aA a8) (aA a7) b2 @Edge.c.eq_1 d5;refine wv (h:=aB (Bv r.u.i i) wl ?_);refine dK (λa6=>?_) λa6=>?_
   .have hm:¬ mem r.u.i i=true:=by simpa using a6
    rw [if_neg hm] at hsu;have b9:freshE c y=⟨y.type,c.h[y.w.toNat],c.h[y.M.toNat]⟩:=by unfold freshE;rw [aA a8,aA a7];rfl
    obtain ⟨s,l⟩:∃ z:Host,z=⟨⟨x.j.h,x.j.i++[freshE c y]⟩,x.k⟩:=⟨_,rfl⟩;have E:s=Rx t r c (GW t r u r.right.j.h.length) (i+1):=by rw [l,T];unfold Rx;rw [hsu];simp [c5,a9]
    have a2:s.j.h.length=x.j.h.length/\s.j.i.length=x.j.i.length+1/\s.k.length=x.k.length:=by rw [l];simp
    have L:∀ j∈a :: V :: (f++ns),j≠b/\j≠X/\j<H.next:=λj hj=>by
     have J:j∈a :: b :: V :: (f++ns):=by simp only [aV] at hj ⊢;rcases hj with h|h|h<;>simp [h]
     refine ⟨?_,(A j J).1,(p.W j J).2⟩;rintro rfl;have:=p.nd;simp only [g9,aV,not_or] at this;simp only [aV] at hj;rcases hj with h|h|h
     .exact this.1.1 h.symm
     .exact this.2.1.1 h
     .exact this.2.1.2 h
    have Y:=wa Y a2;exact wp (h:=wx c2 (i+1) ⟨s,wg,wn,wn,wn,wn,wn,wn,wj,(by first|exact K|(rw [l];exact p.i (by first|(simp [go_sem];done)|(simp [go_sem];omega)) (by simp [go_sem,Y,b9,Edge.c]) (λj hj=>by obtain ⟨S,P,k3⟩:=L j hj;simp [go_sem,S,P,bL k3]))),(by exact E),(by first|exact O|(intro j hj g;obtain ⟨ja,jb,jV⟩:=v j g;simp [go_sem,jb,(aD:j≠X),bL (aD:j<H.next)];exact Z j hj g)),(by first|exact a4|(simp [go_sem];omega))⟩)
   .have hm:mem r.u.i i=true:=by simpa using a6
    rw [if_pos hm,dS] at hsu;obtain ⟨s,l⟩:∃ z,z=x:=⟨_,rfl⟩;have E:s=Rx t r c (GW t r u r.right.j.h.length) (i+1):=by rw [l,T];unfold Rx;rw [hsu]
    have K:HH H lo a b V (f++ns) s:=by rw [l];exact p
    have O:=Z;have Y:=wa Y l;exact wp (h:=wx c2 (i+1) ⟨s,wg,wn,wn,wn,wn,wn,wn,wj,(by first|exact K|(rw [l];exact p.i (by first|(simp [go_sem];done)|(simp [go_sem];omega)) (by simp [go_sem,Y,b9,Edge.c]) (λj hj=>by obtain ⟨S,P,k3⟩:=L j hj;simp [go_sem,S,P,bL k3]))),(by exact E),(by first|exact O|(intro j hj g;obtain ⟨ja,jb,jV⟩:=v j g;simp [go_sem,jb,(aD:j≠X),bL (aD:j<H.next)];exact Z j hj g)),(by first|exact a4|(simp [go_sem];omega))⟩)
  .have hie4:i=r.right.j.i.length:=aD;have c1:x=jS t r c u:=by rw [T,hie4];rfl
   rw [c1] at p;have Y:=wa Y c1;refine wv (h:=?_);exact hQ ns _ I (p.same (by simp [go_sem]) (λj hj=>by simp [go_sem,(A j hj).2.1])) (λj hj g=>by simp [go_sem,(aD:j≠R)];exact Z j hj g) (by simp [go_sem];exact a4)
end Go.Abs
end
