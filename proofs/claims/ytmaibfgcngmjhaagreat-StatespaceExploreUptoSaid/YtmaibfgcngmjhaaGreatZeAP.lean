/- Layer 22 of the reference: values, extensions, the first wit -/
import Derived.Test.YtmaibfgcngmjhaaGreatZeAG
import Derived.Test.YtmaibfgcngmjhaaGreatZeAA
import Derived.Test.YtmaibfgcngmjhaaGreatZeAK
import Derived.Test.YtmaibfgcngmjhaaGreatZeAO
set_option linter.unusedVariables false
set_option linter.unusedSimpArgs false
section
set_option maxRecDepth 100000
set_option maxHeartbeats 4000000
open Go Go.Proofs Tryz
namespace Go.Abs
def PL (at_ im:Xa0)(n i:Nat):Xa0:=(List.range i).foldl (λacc i=>acc.set (at_[i]?.getD 0).toNat (im[i]?.getD 0)) (List.replicate n (-1))
theorem IO (at_ a:Xa0)(n i:Nat):PL at_ a n (i+1)=(PL at_ a n i).set (at_[i]?.getD 0).toNat (a[i]?.getD 0):=by unfold PL;rw [eP]
theorem DJ (at_ im:Xa0)(n:Nat):∀ i,(PL at_ im n i).length=n
 | 0=>by simp [PL]
 | i+1=>by rw [IO,iZ];exact DJ at_ im n i
theorem DD (n:Nat)(z:n<=1000000)(at_ a:Xa0)(v:∀ x∈at_,0<=x/\x<n)(D:at_.length<=a.length):Pua 372 [dI n,dLI at_,dLI a] (dLI (A9 n at_ a)):=by
 refine Tz.pK ⟨λt=>t==7,λ_=>[]⟩ func372 rfl (λQ u=>?_);have Y:=trivial;refine wv (h:=bA (λi e H=>(e 0=dI n/\e 1=dLI at_/\e 2=dLI a/\e 7=.own 0 i/\e 8=dI i)/\(H.get 0=some ⟨3,1,(List.replicate i (-1:Int)).map cI,false⟩)/\(0<H.next)/\(i<=n)) (λi=>n - i) 0 ⟨wg,eh,wn,wi⟩ λF r i e H b=>?_);obtain ⟨y,j,d,B⟩:=b;have Y:=xa2 Y y j (bU d);refine dD (λs=>?_) λs=>?_
 .have Y:=wa Y s;exact wp (h:=wx r (i+1) ⟨wg,(by simp [go_sem,Y,Ch,cI]),wn,wj⟩)
 .have hin:i=n:=bL;refine wv (h:=bA (λk e H=>(e 0=dI n/\e 1=dLI at_/\e 2=dLI a/\e 7=.own 0 n/\e 9=dI k)/\(H.get 0=some ⟨3,1,(PL at_ a n k).map cI,false⟩)/\(0<H.next)/\(k<=at_.length)/\((PL at_ a n k).length=n)) (λk=>at_.length - k) 0 ⟨wg,(by simp [go_sem,Y,PL,hin]),wn,wi,(by exact DJ _ _ _ _)⟩ λE q k e H m=>?_);obtain ⟨w,g,c,A,l⟩:=m;have Y:=xa3 Y w g (bU c) l;refine wv (h:=?_);repeat first|intro _|refine ⟨fY,?_⟩
  refine wq (λf=>?_) λf=>?_
  .have hki:k<a.length:=bL;have C:=v _ (aC f);have p:at_[k]?.getD 0=at_[k]:=by rw [aA f];rfl
   have b:a[k]?.getD 0=a[k]:=by rw [aA hki];rfl
   have o:at_[k].toNat<(PL at_ a n k).length:=bL;have Y:=xa3 Y f (aA f) (aA hki) (aA o);exact wp (h:=wx q (k+1) ⟨wg,(by simp [go_sem,Y,IO,c8,p,b,cI]),wn,wj,(by exact DJ _ _ _ _)⟩)
  .have hP:A9 n at_ a=PL at_ a n k:=by unfold A9 PL;rw [(bL:k=at_.length)]
   exact wv (h:=u _ _ (by simp [go_sem,Y,hP,dLI]))
def NI (len i:Nat):List Bool:=(List.range i).map λj=>decide (j<len)
theorem WR (len i:Nat):NI len (i+1)=NI len i++[decide (i<len)]:=by simp [NI,c6]
theorem NG (len i:Nat):(NI len i).length=i:=by simp [NI]
theorem NH (len n:Nat)(h:len<=n):NI len n=List.replicate len true++List.replicate (n - len) false:=by
 apply gF (by simp [NI];omega);intro i b a;simp only [NI,vQ,rJ,List.getElem_append,List.getElem_replicate,sH];split
 .rename_i h3;simpa using h3
 .rename_i h3;simpa using h3
theorem YH (len i n:Nat)(h:i<n):(NI len i++List.replicate (n - i) false).set i (decide (i<len))=NI len (i+1)++List.replicate (n - (i+1)) false:=by
 rw [lI _ _ (by rw [NG];omega),NG,nU,WR,show n - i=(n - (i+1))+1 by omega,mU];simp
def Vo (len n i:Nat):List Bool:=NI len i++List.replicate (n - i) false
theorem WS (len n:Nat):Vo len n 0=List.replicate n false:=by simp [Vo,NI]
theorem YJ {len n i:Nat}(h:i<=n):(Vo len n i).length=n:=by simp [Vo,NG];omega
theorem YI {len n i:Nat}(h:i<n):(Vo len n i).set i (decide (i<len))=Vo len n (i+1):=YH len i n h
theorem TI (len n:Nat):Vo len n n=NI len n:=by simp [Vo]
def J7 (vs:Xa0)(i:Nat):Xa0:=vs++List.replicate (i - vs.length) 0
theorem OF (vs:Xa0)(i:Nat):J7 vs (i+1)=if vs.length<=i then J7 vs i++[0] else J7 vs i:=by
 unfold J7;split
 .rename_i h;rw [(bL:i+1 - vs.length=(i - vs.length)+1),Ch,List.append_assoc]
 .rename_i h;rw [(bL:i+1 - vs.length=0),(bL:i - vs.length=0)]
theorem Tc (vs:Xa0)(i:Nat):(J7 vs i).length=max vs.length i:=by simp [J7];omega
theorem V7 {x:Test}{vs:Xa0}{n:Nat}(a:J6 x n):B9 x vs = !((decide (x.kind=1)&&decide (dJ x.right vs<dJ x.left vs))||(decide (x.kind=2)&&!decide (dJ x.left vs=dJ x.right vs))):=by
 rcases a.1 with h|h
 .unfold B9;rw [h];simp;rw [bB];simp
 .unfold B9;rw [h];simp
theorem Nt (p:Pattern)(h:Host)(m:Part)(U:SOk p h m)(vs:Xa0)(hl:vs.length<=p.vars.toNat)(hs:∀ v∈vs,-2000000<=v/\v<=2000000) :
  Pua 374 [p.d,h.d,m.d,dLI vs] (.tup [dLI (eY p h m vs).1,.bool (decide ((eY p h m vs).2=0))]):=by
 have hv:=U.vars;have h0:=OS hv.1 hl hs;have a3:J7 vs 0=vs:=by simp [J7]
 have L:M3 p vs=(J7 vs p.vars.toNat,NI vs.length p.vars.toNat):=by unfold M3;rw [NH _ _ hl];rfl
 refine Tz.pK ⟨λt=>t==14||t==19||t==24,λr=>match r with|15=>[(5,14),(6,14),(7,14)]|_=>[]⟩ func374 rfl (λQ W=>?_);have Y:=xa6 a3 @Pattern.d.eq_1 @Pattern.c.eq_1 @Host.d.eq_1 @Host.c.eq_1 @Part.d.eq_1 @Part.c.eq_1 @Term.c.eq_1;refine wp (h:=bA (λi e H=>(e 4=.adr p.c/\e 5=.adr h.c/\e 6=.adr m.c/\e 3=dLI vs/\e 10=.own 0 (J7 vs i).length/\e 11=.own 1 p.vars.toNat/\e 12=dI i)/\(H.get 0=some ⟨3,1,(J7 vs i).map cI,false⟩)/\(0<H.next)/\(H.get 1=some ⟨4,1,(Vo vs.length p.vars.toNat i).map cB,false⟩)/\(1<H.next)/\(i<=p.vars.toNat)) (λi=>p.vars.toNat - i) 0 ⟨wg,(by simp [go_sem,J7]),wn,(by simp [go_sem,WS,cB]),wn,wi⟩ λI0 a8 i e H b8=>?_);obtain ⟨E0,b3,a2,b0,Z,hi⟩:=b8;have Y:=xa4 Y E0 b3 (bU a2) b0 (bU Z);refine dD (λh4=>?_) λh4=>?_
 .have hI:=Tc vs i;have hK:=YI (len:=vs.length) (n:=p.vars.toNat) (i:=i) bL;have c0:=YJ (len:=vs.length) (n:=p.vars.toNat) (i:=i) bL;have c1:i<(Vo vs.length p.vars.toNat i).length:=bL;have b9:((Vo vs.length p.vars.toNat i).map cB).set i [.bool (decide (i<vs.length))]=(Vo vs.length p.vars.toNat (i+1)).map cB:=by rw [<- hK,c8];rfl
  have Y:=xa3 Y h4 c0 (aA c1) b9;refine jH (λh7=>?_) λh7=>?_
  .have hVs:J7 vs (i+1)=J7 vs i++[0]:=by rw [OF,if_pos bL]
   have Y:=wa Y hVs;exact wp (h:=wx a8 (i+1) ⟨wg,cl,wn,cl,wn,wj⟩)
  .have hVs:J7 vs (i+1)=J7 vs i:=by rw [OF,if_neg bL]
   have Y:=wa Y hVs;exact wp (h:=wx a8 (i+1) ⟨wg,cl,wn,cl,wn,wj⟩)
 .have hin:i=p.vars.toNat:=bL;have hI:=Tc vs i;rw [hin,Nat.max_eq_right hl] at hI;have c6:Vo vs.length i i=NI vs.length i:=TI _ _;have a7:=TI vs.length p.vars.toNat
  have Y:=xa2 Y hin hI a7;refine wv (h:=bA (λi e H=>∃ o:Xa0 × List Bool,(e 4=.adr p.c/\e 5=.adr h.c/\e 6=.adr m.c/\e 3=dLI vs/\e 10=.own 0 p.vars.toNat/\e 11=.own 1 p.vars.toNat/\e 13=dI i)/\(H.get 0=some ⟨3,1,o.1.map cI,false⟩)/\(0<H.next)/\(H.get 1=some ⟨4,1,o.2.map cB,false⟩)/\(1<H.next)/\(i<=p.q.length)/\(StOk p.vars.toNat o)/\(kB h m (M3 p vs) (p.q.take i)=some o)) (λi=>p.q.length - i) 0 ⟨((J7 vs p.vars.toNat,NI vs.length p.vars.toNat)),wg,(fe hin),wn,(by simp [go_sem,Y,hin,a7]),wn,wi,(by rw [<- L];exact h0),(by rw [L];rfl)⟩ λI2 J i e H b6=>?_);obtain ⟨o,E2,b2,a1,a9,X,hi,q,P⟩:=b6;have Y:=xa4 Y E2 b2 (bU a1) a9 (bU X);refine wv (h:=?_);repeat first|intro _|refine ⟨fY,?_⟩
  refine wq (λu=>?_) λu=>?_
  .obtain ⟨x,hx⟩:=cY (p.q[i]);have F:x∈p.q:=hx ▸ aC u;have hn:=U.node x F;have A:x.node.toNat<m.i.length:=bL;have hk:=U.bn _ (aC A);have w:(m.i[x.node.toNat]).toNat<h.values.length:=bL;have ha:=U.Q x F;rw [aA A,aF,aA w,aF] at ha;have G:x.Q.toNat<(h.values[(m.i[x.node.toNat]).toNat]).length:=bL;have hV:mN h m x=h.values[(m.i[x.node.toNat]).toNat][x.Q.toNat]:=by unfold mN;rw [aA A,aF,aA w,aF,aA G];rfl
   have hb:=U.bt F;have M:=U.E x F;have C:=q.l1;have R:=q.l2;have c4:=M.1;have c5:=M.2;have s:=v6 u P;rw [<- hx] at s;obtain ⟨z,g⟩:∃ y,y=mY h m o x:=⟨_,rfl⟩;have l:StOk p.vars.toNat z:=g ▸ AU q hb M;rw [<- g] at s;have j:¬ 0<=x.E.var->z=o:=λhn=>by rw [g];unfold mY lZ;rw [if_neg (fg hn)]
   have N:0<=x.E.var->x.E.var.toNat<o.2.length:=λhn=>by omega
   obtain ⟨kb,a4⟩:=cY (o.2[x.E.var.toNat]?.getD false);have S:0<=x.E.var\/(¬ 0<=x.E.var/\o.2[x.E.var.toNat]?=none)\/(¬ 0<=x.E.var/\o.2[x.E.var.toNat]?=some kb):=by
    by_cases O:0<=x.E.var
    .exact .inl O
    .right
     cases ho:o.2[x.E.var.toNat]? with
     | none=>exact .inl ⟨O,rfl⟩
     | some b=>rw [ho] at a4;exact .inr ⟨O,by rw [a4];rfl⟩
   rcases S with hc|hc|hc
   .have Y:=xa3 Y u (aA u) (Eq.symm hx) (xb0 (aA A) (aA w) (aA G) (Eq.symm hV) @Slot.c.eq_1 @cL.eq_1 C R @lH @cB.eq_1 hc ((aA (N hc))));refine jH (λV=>?_) λV=>?_
    .have hF:lZ o x=true:=by simp only [lZ,aR,decide_eq_true_eq,b7];exact ⟨hc,by simpa [aA (N hc)] using V⟩
     unfold mY at g;rw [if_pos hF] at g;have b4:x.E.var.toNat<o.1.length:=bL;have e1:z.1.map cI=(o.1.map cI).set x.E.var.toNat (cI (mN h m x - x.E.add)):=by rw [g,c8]
     have e2:z.2.map cB=(o.2.map cB).set x.E.var.toNat (cB true):=by rw [g,c8]
     have c3:D.T ((o.1.map cI).set x.E.var.toNat [D.int .i64 (mN h m x - x.E.add)])=true:=by have:=sD z.1;rw [e1] at this;exact this
     have Y:=xa5 Y e1 e2 @dLI.eq_1 @cI.eq_1 (aA b4) c3;refine wp (h:=eF (kM x.E z.1 (by rw [l.l1];exact M) l.aE) wr wl rfl ?_);refine jH (λf=>?_) λf=>?_
     .have I:=eR (s.2 (by first|simpa using f|simpa [j hc.1] using f|simpa [g] using f));exact wv (h:=W _ _ (eD I))
     .have hstep:=s.1 (by first|simpa using f|simpa [j hc.1] using f|simpa [g] using f);exact wp (h:=wx J (i+1) ⟨z,wg,cl,wn,cl,wn,wj,(by exact l),(by exact hstep)⟩)
    .have hF:¬ lZ o x=true:=by simp only [lZ,aR,decide_eq_true_eq,b7];rintro ⟨_,hk⟩;simp [aA (N hc)] at hk;simp [hk] at V
     unfold mY at g;rw [if_neg hF] at g;have Y:=wa Y g;refine wv (h:=eF ((by first|exact kM x.E z.1 (by rw [l.l1];exact M) l.aE|exact kM p.R[k].left o.1 (by rw [q.l1];exact hX.2.1) q.aE)) wr wl rfl ?_);refine dD (λf=>?_) λf=>?_
     .have I:=eR (s.2 (by first|simpa using f|simpa [j hc.1] using f|simpa [g] using f));exact wv (h:=W _ _ (eD I))
     .have hstep:=s.1 (by first|simpa using f|simpa [j hc.1] using f|simpa [g] using f);exact wp (h:=wx J (i+1) ⟨z,wg,cl,wn,cl,wn,wj,(by exact l),(by exact hstep)⟩)
   .have Y:=xa4 Y u (aA u) (Eq.symm hx) (aA A) (xb0 (aA w) (aA G) (Eq.symm hV) @Slot.c.eq_1 @cL.eq_1 C R @lH @cB.eq_1 hc.1 hc.2 (j hc.1));refine wp (h:=eF (kM x.E z.1 (by rw [l.l1];exact M) l.aE) wr wl rfl ?_);refine jH (λf=>?_) λf=>?_
    .have I:=eR (s.2 (by first|simpa using f|simpa [j hc.1] using f|simpa [g] using f));exact wv (h:=W _ _ (eD I))
    .have hstep:=s.1 (by first|simpa using f|simpa [j hc.1] using f|simpa [g] using f);exact wp (h:=wx J (i+1) ⟨z,wg,cl,wn,cl,wn,wj,(by exact l),(by exact hstep)⟩)
   .have Y:=xa4 Y u (aA u) (Eq.symm hx) (aA A) (xb0 (aA w) (aA G) (Eq.symm hV) @Slot.c.eq_1 @cL.eq_1 C R @lH @cB.eq_1 hc.1 hc.2 (j hc.1));refine wp (h:=eF (kM x.E z.1 (by rw [l.l1];exact M) l.aE) wr wl rfl ?_);refine jH (λf=>?_) λf=>?_
    .have I:=eR (s.2 (by first|simpa using f|simpa [j hc.1] using f|simpa [g] using f));exact wv (h:=W _ _ (eD I))
    .have hstep:=s.1 (by first|simpa using f|simpa [j hc.1] using f|simpa [g] using f);exact wp (h:=wx J (i+1) ⟨z,wg,cl,wn,cl,wn,wj,(by exact l),(by exact hstep)⟩)
  .rw [aH bL] at P;have T:=qO P;have C:=q.l1;have Y:=wa Y C;refine wv (h:=bA (λk e H=>(e 4=.adr p.c/\e 5=.adr h.c/\e 6=.adr m.c/\e 3=dLI vs/\e 10=.own 0 p.vars.toNat/\e 18=dI k)/\(H.get 0=some ⟨3,1,o.1.map cI,false⟩)/\(0<H.next)/\(k<=p.R.length)/\((p.R.take k).all (λx=>B9 x o.1)=true)) (λk=>p.R.length - k) 0 ⟨wg,wn,wn,wi,(by rfl)⟩ λI4 c2 k e H b5=>?_);obtain ⟨E4,b1,a0,hk,E⟩:=b5;have Y:=xa2 Y E4 b1 (bU a0);refine wv (h:=?_);repeat first|intro _|refine ⟨fY,?_⟩
   refine wq (λB=>?_) λB=>?_
   .have hX:=U.ck _ (aC B);have a6:=V7 (vs:=o.1) hX;have Y:=xa2 Y B (aA B) @Test.c.eq_1;refine wp (h:=eF ((by first|exact kM x.E z.1 (by rw [l.l1];exact M) l.aE|exact kM p.R[k].left o.1 (by rw [q.l1];exact hX.2.1) q.aE)) wr wl rfl ?_);refine wp (h:=eF (kM p.R[k].right o.1 (by rw [q.l1];exact hX.2.2) q.aE) wr wl rfl ?_);refine jH (λK=>?_) λK=>?_
    .have hT0:B9 p.R[k] o.1=false:=by
      rw [a6,Bool.not_eq_false'];rcases K with ⟨a,b⟩|⟨a,b⟩
      .simp [a,b]
      .simp [a,b]
     have I:eY p h m vs=([],16):=by
      rw [T,if_neg];intro ha;rw [cF] at ha;have:=ha _ (aC B);rw [hT0] at this;cases this
     exact wv (h:=W _ _ (eD I))
    .have hT1:B9 p.R[k] o.1=true:=by
      rw [a6];simp;exact ⟨by by_cases a5:p.R[k].kind=1;exact .inr (K.1 a5);exact .inl a5,by by_cases w:p.R[k].kind=2;exact .inr (K.2 w);exact .inl w⟩
     exact wp (h:=wx c2 (k+1) ⟨wg,wn,wn,wj,(by rw [aD B,pC,E];simp;exact hT1)⟩)
   .rw [aH bL] at E;rw [if_pos E] at T;exact wv (h:=W _ _ (by simp [go_sem,Y,T,dLI]))
/-! ### extensions -/
structure MatOk (t:Types) (p:Pattern) (h:Host) (m:Mat):Prop where
 de:MOk t p.o h.o m.m
 vl:m.vars.length=p.vars.toNat
 vs:∀ v∈m.vars,-2000000<=v/\v<=2000000
structure ExOk (t:Types) (p:Pattern) (mp:Part) (q:Pattern):Prop where
 pq:PatOk t q
 pv:p.vars<=q.vars
 p0:0<=p.vars
 mo:fD p.o q.o mp=0
theorem ExOk.bn {t:Types}{p:Pattern}{a:Part}{q:Pattern}(h:ExOk t p a q):(a.i.length=p.o.i.length/\a.j.length=p.o.j.length)/\(∀ x∈a.i,0<=x/\x<q.o.i.length)/\(∀ x∈a.j,0<=x/\x<q.o.j.length):=by
 have:=pV h.mo;exact ⟨this.2.2,(BO h.mo).1,(BO h.mo).2⟩
theorem Jy {t:Types}{p g:Graph}{q:Part}{a:Bool}{m:Part}(h:m∈(o9 t p g q a).1):MOk t p g m:=by
 unfold o9 at h;split at h
 .cases h
 .split at h
  .cases h
  .split at h
   .cases h
   .split at h
    .cases h
    .unfold FB at h;split at h
     .cases h
     .exact QX (S:=⟨t,p,g,_,_,a⟩) (bJ h)
theorem V0 {t:Types}{q:Pattern}{h:Host}{vars:Xa0}{l:List Part}(hp:PatOk t q)(ho:HostOk t h)(hl:∀ x∈l,MOk t q.o h.o x)(hv:vars.length<=q.vars.toNat)(hs:∀ v∈vars,-2000000<=v/\v<=2000000):∀ m∈uJ q h vars l,MatOk t q h m:=λm hm=>by
 unfold uJ at hm;rw [List.mem_filterMap] at hm;obtain ⟨x,hx,he⟩:=hm;split at he
 .rename_i h0;cases he
  obtain ⟨h1,h2⟩:=CH (Yi hp ho (hl x hx)) hv hs h0;exact ⟨hl x hx,h1,h2⟩
 .cases he
theorem TX {t:Types}{p:Pattern}{c:Part}{q:Pattern}{h:Host}{m:Mat}{a:Bool}(b:ExOk t p c q)(f:HostOk t h)(d:MatOk t p h m):∀ x∈(AD t c q h m a).1,MatOk t q h x:=by
 unfold AD;split
 .simp
 .exact V0 b.pq f (λx e=>Jy e) (by have:=d.vl;have:=b.pv;have:=b.p0;omega) d.vs
theorem Fe (t:Types)(N:t.ok)(p:Pattern)(c:Cond)(z:ExOk t p c.map c.u)(h:Host)(O:HostOk t h)(m:Mat)(B:MatOk t p h m)(b:Bool) :
  Pua 329 [t.d,.agg c.c,h.d,m.d,.bool b] (.tup [.list ((AD t c.map c.u h m b).1.map Mat.c),dI (AD t c.map c.u h m b).2]):=by
 obtain ⟨⟨U,T⟩,G,F⟩:=z.bn;have l:=bW z.pq.gg;have R:=B.de.len;have P:=B.de.bO;refine Tz.pK ⟨λt=>t==12||t==13||t==16,λr=>match r with|2=>[(0,23),(1,23),(2,23),(3,23),(4,23),(5,23),(6,23),(7,23),(8,23),(9,23),(10,23),(11,23),(12,23),(13,23),(14,23),(15,23),(16,23),(17,23),(18,23),(19,23),(20,23),(21,23)]|_=>[]⟩ func329 rfl (λQ K=>?_);obtain ⟨X,C⟩:=cY (o9 t c.u.o h.o (qT c.map c.u m.m) b);have J:∀ x∈X.1,MOk t c.u.o h.o x:=λx M=>Jy (C ▸ M);have V:X.1.length<=5000:=C ▸ TW _ _ _ _ _;have D:m.vars.length<=c.u.vars.toNat:=by have:=B.vl;have:=z.pv;have:=z.p0;omega
 have j:AD t c.map c.u h m b=if X.2≠0 then ([],X.2) else (uJ c.u h m.vars X.1,0):=by unfold AD;rw [<- C]
 have Y:=xa3 @Cond.F @Host.d.eq_1 @Host.c.eq_1 @Mat.d.eq_1 @Mat.c.eq_1;refine wp (h:=aJ (DD c.u.o.i.length bL c.map.i m.m.i G bL) wl ?_);refine wp (h:=aJ (DD c.u.o.j.length bL c.map.j m.m.j F bL) wl ?_);refine wp (h:=aB ((by have l:=Nv t N c.u.o h.o (qT c.map c.u m.m) b;rw [<- C] at l;unfold qT Types.d Types.c Graph.d Graph.c Part.d Part.c dLI at l;exact l)) wl ?_);refine jH (λL=>?_) λL=>?_
 .rw [if_pos L] at j;exact wv (h:=K _ _ (eD j))
 .rw [if_neg bL] at j;refine wv (h:=bA (λi e H=>∃ k:List Mat,(e 5=.adr t.c/\e 6=.adr c.c/\e 7=.adr h.c/\e 8=.adr m.c/\e 4=.bool b/\e 12=.ptr 0 1 0 0/\e 14=.list (X.1.map Part.c)/\e 16=.own 26 k.length/\e 17=dI i)/\(H.get 0=some ⟨52,5,[c.u.c],false⟩)/\(0<H.next)/\(H.get 26=some ⟨78,3,k.map Mat.c,false⟩)/\(26<H.next)/\(i<=X.1.length)/\(k=uJ c.u h m.vars (X.1.take i))/\(k.length<=i)) (λi=>X.1.length - i) 0 ⟨([]),wg,wn,wn,wn,wn,wi,(by rfl),(by simp)⟩ λI0 w i e H I=>?_);obtain ⟨k,W,A,u,q,n,Z,g,S⟩:=I;have Y:=xa4 Y W A (bU u) q (bU n);refine jH (λs=>?_) λs=>?_
  .obtain ⟨v,E⟩:=cY (eY c.u h X.1[i] m.vars);obtain ⟨f,a⟩:∃ y,y=k++if v.2=0 then [(⟨X.1[i],v.1⟩:Mat)] else []:=⟨_,rfl⟩
   have Y:=xa3 Y s (aA s) @Part.c.eq_1 @Pattern.c.eq_1;refine wp (h:=aJ ((by have l:=Nt c.u h X.1[i] (Yi z.pq O (J _ (aC s))) m.vars D B.vs;rw [<- E] at l;unfold Pattern.d Pattern.c Host.d Host.c Part.d Part.c dLI at l;exact l)) wl ?_);refine jH (λo=>?_) λo=>?_
   .have hm3:f=k++[⟨X.1[i],v.1⟩]:=by rw [a,if_pos (cG o)]
    have Y:=wa Y hm3;exact wp (h:=wx w (i+1) ⟨f,wg,wn,wn,wn,wn,wj,(by rw [aD s,nX,<- g,<- E];exact a),(by rw [a];split<;>simp<;>omega)⟩)
   .have hm3:f=k:=by rw [a,if_neg (cG o),dG]
    have Y:=wa Y hm3;exact wp (h:=wx w (i+1) ⟨f,wg,wn,wn,wn,wn,wj,(by rw [aD s,nX,<- g,<- E];exact a),(by rw [a];split<;>simp<;>omega)⟩)
  .rw [aH bL] at g;exact wv (h:=K _ _ (by simp [go_sem,Y,j,<- g]))
theorem Qc (l:List Cond):l.length<=Cond.X l:=by
 induction l with
 | nil=>simp [Cond.X]
 | cons a l ih=>have:=v7 a;simp only [Cond.X,cD];omega
structure CondV (t:Types) (p:Pattern) (c:Cond):Prop where
 wf:Oz c=true
 d6:sS t p c=0
 sz:c.size<=1000000
theorem CondV.kinds {t:Types}{p:Pattern}{c:Cond}(h:CondV t p c):(c.kind=2\/c.kind=5->c.y.length=1)/\(1<=c.kind/\c.kind<=5):=by
 have:=h.wf;rw [w5,aR] at this;have a:=this.1;unfold tJ at a;split at a
 .omega
 .split at a
  .rw [aR,decide_eq_true_eq] at a;omega
  .split at a
   .omega
   .rw [aR,decide_eq_true_eq,decide_eq_true_eq] at a;omega
theorem CondV.ex {t:Types}{p:Pattern}{c:Cond}(h:CondV t p c)(f:c.kind=5)(g:PatOk t p):ExOk t p c.map c.u/\∀ k∈c.y,CondV t c.u k:=by
 have b:=h.d6;have e:=h.wf;rw [Hx,if_pos f,if_pos f] at b;rw [w5,aR,cF] at e;by_cases a:kT t p c.map c.u=0
 .rw [if_neg bL] at b;refine ⟨?_,λk d=>⟨e.2 k d,rT b k d,by have:=v7 c;have:=Dr d;have:=h.sz;omega⟩⟩;unfold kT at a;split at a
  .cases a
  .rename_i h1;split at a
   .exact absurd a er
   .rename_i h2;split at a
    .exact absurd a er
    .rename_i h3;rw [kX] at h2 h3;refine ⟨IP ?_,bL,g.vars.1,h3⟩;unfold pY at h2;split at h2
     .exact .inr h2
     .rename_i h4;left;omega
 .rw [if_pos a] at b;exact absurd b a
theorem CondV.ct {t:Types}{p:Pattern}{c:Cond}(h:CondV t p c)(e:c.kind≠5):∀ k∈c.y,CondV t p k:=by
 have d:=h.d6;have b:=h.wf;rw [Hx,if_neg e,if_neg e,if_neg bL] at d;rw [w5,aR,cF] at b;exact λk a=>⟨b.2 k a,rT d k a,by have:=v7 c;have:=Dr a;have:=h.sz;omega⟩
theorem y0 {α β:Type}(f:α->β){l:List α}{i:Nat}(h:i<l.length):(l.drop i).map f=f l[i] :: (l.drop (i+1)).map f:=by rw [List.drop_eq_getElem_cons h,gA]
theorem BS {t:Types}{h:Host}{b:Bool}{l:List Cond}(c:0<l.length):Qj (l.map (qK t h b))=qK t h b l[0]:=by
 cases l with
 | nil=>cases c
 | cons a l=>rfl
theorem Dh (t:Types)(h:Host)(d:Bool)(c:Cond)(m:Mat):∃ wc wm wk we,qK t h d c m=(Prf.mk wc wm wk,we):=by
 cases e:qK t h d c m with
 | mk a b=>cases a;exact ⟨_,_,_,_,rfl⟩
theorem Ph (t:Types)(ht:t.ok)(h:Host)(ho:HostOk t h)(b:Bool):∀ (c:Cond) (p:Pattern),CondV t p c->PatOk t p->∀ m:Mat,MatOk t p h m ->
  Pua 278 [t.d,.agg c.c,h.d,m.d,.bool b] (.tup [.agg (qK t h b c m).1.c,dI (qK t h b c m).2]):=by
 refine lU λc ih p L hp m S=>?_;obtain ⟨U,b4⟩:=L.kinds;have T:c.y.length<=1000000:=by have:=Qc c.y;have:=v7 c;have:=L.sz;omega
 have f:=MT t h b c m;obtain ⟨W,a8⟩:=cY (qK t h b c m);rw [<- a8] at f ⊢;refine uT em (λQ u=>(Tz.cK ⟨λt=>t==10||t==12||t==14||t==16||t==19||t==24,λr=>match r with|3=>[(0,12),(1,12),(2,12),(3,12),(4,12),(5,12),(6,12),(8,12)]|14=>[(0,13),(1,13),(2,13),(4,13),(5,13),(6,13),(7,13),(9,13)]|23=>[(0,13),(1,13),(2,13),(4,13),(5,13),(6,13),(7,13),(9,13)]|34=>[(0,15),(1,15),(2,15),(3,15),(4,15),(5,15),(8,15),(9,15),(11,15)]|36=>[(2,5),(3,5)]|_=>[]⟩ func278 rfl ?_));have Y:=xa4 @Cond.F @Host.d.eq_1 @Host.c.eq_1 @Mat.d.eq_1 @Mat.c.eq_1 @Prf.F;refine dD (λh2=>?_) λh2=>?_
 .have h2':c.kind=2:=by simpa using h2
  have C:0<c.y.length:=by have:=U (.inl h2');omega
  obtain ⟨A,j⟩:∃ k,k=c.y[0]:=⟨_,rfl⟩;have s:A∈c.y:=j ▸ aC C;have b2:=L.ct bL A s;obtain ⟨wc,wm,wk,we,o⟩:=Dh t h b A m;rw [if_pos h2',BS C,<- j,o] at f;unfold Yz at f;have Y:=xa2 Y (aA C) (Eq.symm j) h2';refine wp (h:=aJ ((by have l:=ih A s p b2 hp m S;simp only [o,Prf.F,Cond.F] at l;unfold Types.d Types.c Host.d Host.c Mat.d Mat.c dLI dI at l;exact l)) wl ?_);refine jH (λh4=>?_) λh4=>?_
  .rw [if_pos (cG h4)] at f;refine wv (h:=?_);exact u _ _ (by simp [go_sem,Y,f,kO,kD,Prf.F,lA,gI,eL,dLI,f8,gL])
  .rw [if_neg (cG h4)] at f;refine dD (λh6=>?_) λh6=>?_
   .rw [if_pos (cG h6)] at f;refine wv (h:=?_);exact u _ _ (by simp [go_sem,Y,f,kO,kD,Prf.F,lA,gI,eL,dLI,f8,gL])
   .rw [if_neg (cG h6)] at f;refine wv (h:=?_);exact u _ _ (by simp [go_sem,Y,f,kO,kD,Prf.F,lA,gI,eL,dLI,f8,gL])
 .have h2':c.kind≠2:=by simpa using h2
  rw [if_neg h2'] at f;refine dD (λh9=>?_) λh9=>?_
  .have h9':c.kind=3:=by simpa using h9
   have v:=L.ct bL;rw [if_pos h9'] at f;have Y:=wa Y h9';refine wv (h:=o8 (Ghosts.step (Ghosts.refl _) 1 0 4 313 5 _ _ (eu) rfl rfl rfl) (λi e H=>∃ K:List Prf,(e 5=.adr t.c/\e 6=.adr c.c/\e 7=.adr h.c/\e 8=.adr m.c/\e 4=.bool b/\e 10=.ptr 0 1 0 0/\e 14=.ptr 1 1 0 0/\e 15=dI i)/\(H.get 0=some ⟨313,5,[[dI 0,.nil,.nil,.nil,.nil]],false⟩)/\(0<H.next)/\(H.get 1=some ⟨313,5,[[dI 0,.nil,.nil,.nil,.own 2 K.length]],false⟩)/\(1<H.next)/\(H.get 2=some ⟨313,5,K.map Prf.c,false⟩)/\(2<H.next)/\(i<=c.y.length)/\(Oe ((c.y.drop i).map λk=>qK t h b k m) K=W)/\(K.length<=i)/\(c.y.length<=1000000)) (λi=>c.y.length - i) 0 ⟨([]),wg,wn,wn,wn,wn,wn,wn,wi,(by exact f.symm),bS,(by exact T)⟩ λI1 b1 i e H a6=>?_);obtain ⟨K,E1,a2,R,Z,N,V,M,hi,n,b3,a3⟩:=a6;have Y:=xa6 Y E1 a2 (bU R) Z (bU N) V (bU M);refine wv (h:=?_);repeat first|intro _|refine ⟨fY,?_⟩
   refine wq (λz=>?_) λz=>?_
   .obtain ⟨B,g⟩:∃ k,k=c.y[i]:=⟨_,rfl⟩;have q:B∈c.y:=g ▸ aC z;obtain ⟨wc,wm,wk,we,o⟩:=Dh t h b B m;have a:=n;rw [y0 _ z,<- g,o] at a;simp only [Oe] at a;have Y:=xa2 Y z (aA z) (Eq.symm g);refine wp (h:=aJ ((by have l:=ih B q p (v B q) hp m S;simp only [o,Prf.F,Cond.F] at l;unfold Types.d Types.c Host.d Host.c Mat.d Mat.c dLI dI at l;exact l)) wl ?_);refine jH (λJ=>?_) λJ=>?_
    .rw [if_pos (cG J)] at a;refine wv (h:=?_);exact u _ _ (by simp [go_sem,Y,<- a,kO,kD,Prf.F,lA,gI,eL,dLI,f8,gL])
    .rw [if_neg (cG J)] at a;exact wp (h:=wx b1 (i+1) ⟨(K++[.mk wc wm wk]),wg,wn,wn,wn,wn,wn,wn,wj,(by exact a),et,(by exact a3)⟩)
   .rw [cR bL] at n;simp only [kG,Oe] at n;refine wv (h:=?_);exact u _ _ (by simp [go_sem,Y,<- n,kO,kD,Prf.F,lA,gI,eL,dLI,f8,gL])
  .have h9':c.kind≠3:=by simpa using h9
   rw [if_neg h9'] at f;refine dD (λI=>?_) λI=>?_
   .have h19':c.kind=4:=by simpa using I
    have v:=L.ct bL;rw [if_pos h19'] at f;have Y:=wa Y h19';refine wv (h:=bA (λi e H=>(e 5=.adr t.c/\e 6=.adr c.c/\e 7=.adr h.c/\e 8=.adr m.c/\e 4=.bool b/\e 10=.ptr 0 1 0 0/\e 18=dI i)/\(H.get 0=some ⟨313,5,[[dI 0,.nil,.nil,.nil,.nil]],false⟩)/\(0<H.next)/\(i<=c.y.length)/\(Yt ((c.y.drop i).map λk=>qK t h b k m) i=W)) (λi=>c.y.length - i) 0 ⟨wg,wn,wn,wi,(by exact f.symm)⟩ λI3 b0 i e H a5=>?_);obtain ⟨E3,a1,P,hi,n⟩:=a5;have Y:=xa2 Y E3 a1 (bU P);refine wv (h:=?_);repeat first|intro _|refine ⟨fY,?_⟩
    refine wq (λy=>?_) λy=>?_
    .obtain ⟨B,g⟩:∃ k,k=c.y[i]:=⟨_,rfl⟩;have q:B∈c.y:=g ▸ aC y;obtain ⟨wc,wm,wk,we,o⟩:=Dh t h b B m;have a:=n;rw [y0 _ y,<- g,o] at a;simp only [Yt] at a;have Y:=xa2 Y y (aA y) (Eq.symm g);refine wp (h:=aJ ((by have l:=ih B q p (v B q) hp m S;simp only [o,Prf.F,Cond.F] at l;unfold Types.d Types.c Host.d Host.c Mat.d Mat.c dLI dI at l;exact l)) wl ?_);refine jH (λG=>?_) λG=>?_
     .rw [if_pos (cG G)] at a;refine wv (h:=?_);exact u _ _ (by simp [go_sem,Y,<- a,kO,kD,Prf.F,lA,gI,eL,dLI,f8,gL])
     .rw [if_neg (cG G)] at a;exact wp (h:=wx b0 (i+1) ⟨wg,wn,wn,wj,(by exact a)⟩)
    .rw [cR bL] at n;simp only [kG,Yt] at n;refine wv (h:=?_);exact u _ _ (by simp [go_sem,Y,<- n,kO,kD,Prf.F,lA,gI,eL,dLI,f8,gL])
   .have h19':c.kind≠4:=by simpa using I
    rw [if_neg h19'] at f;refine dD (λF=>?_) λF=>?_
    .have h27':c.kind=5:=by simpa using F
     obtain ⟨hE,v⟩:=L.ex h27' hp;have C:0<c.y.length:=by have:=U (.inr h27');omega
     obtain ⟨A,j⟩:∃ k,k=c.y[0]:=⟨_,rfl⟩;have s:A∈c.y:=j ▸ aC C;obtain ⟨X,hX⟩:=cY (AD t c.map c.u h m b);have a7:∀ x∈X.1,MatOk t c.u h x:=hX ▸ TX hE ho S;rw [if_pos h27',BS C,<- j,<- hX] at f;have Y:=xa2 Y (aA C) (Eq.symm j) h27';refine wv (h:=aB ((by have l:=Fe t ht p c hE h ho m S b;rw [<- hX,Cond.F,h27'] at l;unfold Types.d Types.c Host.d Host.c Mat.d Mat.c dLI dI at l;exact l)) wl ?_);refine dD (λE=>?_) λE=>?_
     .rw [if_pos (cG E)] at f;refine wv (h:=?_);exact u _ _ (by simp [go_sem,Y,f,kO,kD,Prf.F,lA,gI,eL,dLI,f8,gL])
     .rw [if_neg (cG E)] at f;refine wv (h:=bA (λi e H=>(e 5=.adr t.c/\e 6=.adr c.c/\e 7=.adr h.c/\e 8=.adr m.c/\e 4=.bool b/\e 10=.ptr 0 1 0 0/\e 21=.list (X.1.map Mat.c)/\e 23=dI i)/\(H.get 0=some ⟨313,5,[[dI 0,.nil,.nil,.nil,.nil]],false⟩)/\(0<H.next)/\(i<=X.1.length)/\(YR ((X.1.drop i).map λx=>(x,qK t h b A x))=W)) (λi=>X.1.length - i) 0 ⟨wg,wn,wn,wi,(by exact f.symm)⟩ λI5 a9 i e H a4=>?_);obtain ⟨E5,a0,O,hi,n⟩:=a4;have Y:=xa2 Y E5 a0 (bU O);refine wv (h:=?_);repeat first|intro _|refine ⟨fY,?_⟩
      refine wq (λw=>?_) λw=>?_
      .obtain ⟨wc,wm,wk,we,o⟩:=Dh t h b A X.1[i];have a:=n;rw [y0 _ w,o] at a;simp only [YR] at a;have Y:=xa1 Y w (aA w);refine wp (h:=aJ ((by have l:=ih A s c.u (v A s) hE.pq X.1[i] (a7 _ (aC w));simp only [o,Prf.F,Cond.F] at l;unfold Types.d Types.c Host.d Host.c Mat.d Mat.c dLI dI at l;exact l)) wl ?_);refine jH (λD=>?_) λD=>?_
       .rw [if_pos (cG D)] at a;refine wp (h:=?_);exact u _ _ (by simp [go_sem,Y,<- a,kO,kD,Prf.F,lA,gI,eL,dLI,f8,gL])
       .rw [if_neg (cG D)] at a;exact wp (h:=wx a9 (i+1) ⟨wg,wn,wn,wj,(by exact a)⟩)
      .rw [cR bL] at n;simp only [kG,YR] at n;refine wv (h:=?_);exact u _ _ (by simp [go_sem,Y,<- n,kO,kD,Prf.F,lA,gI,eL,dLI,f8,gL])
    .have h27':c.kind≠5:=by simpa using F
     rw [if_neg h27'] at f;refine wv (h:=?_);exact u _ _ (by simp [go_sem,Y,f,kO,kD,Prf.F,lA,gI,eL,dLI,f8,gL])
theorem Pk (t:Types)(k:t.ok)(h:Host)(n:HostOk t h)(a:Bool)(c:Cond)(p:Pattern)(q:CondV t p c)(l:PatOk t p)(m:Mat)(o:MatOk t p h m) :
  Pua 216 [t.d,.agg c.c,h.d,m.d,.bool a] (.tup [.bool (pG t h a c m).1,dI (pG t h a c m).2]):=by
 have b:=Ph t k h n a c p q l m o;rw [Cond.F] at b;obtain ⟨u,r,s,f,i⟩:=Dh t h a c m;have e:pG t h a c m=if f=10 then (false,0) else (decide (f=0),f):=by unfold pG V3;rw [i]
 simp only [i,Prf.F] at b;refine Tz.pK ⟨λt=>t==12,λ_=>[]⟩ func216 rfl (λQ j=>?_);have Y:=xa4 @Cond.F @Host.d.eq_1 @Host.c.eq_1 @Mat.d.eq_1 @Mat.c.eq_1 @Prf.F;refine wv (h:=aB ((by have b:=b;unfold Types.d Types.c Host.d Host.c Mat.d Mat.c dLI dI at b;exact b)) wl ?_);refine dD (λg=>?_) λg=>?_
 .rw [if_pos (cG g)] at e;exact wv (h:=j _ _ (eD e))
 .rw [if_neg (cG g)] at e;exact wv (h:=j _ _ (by simp [go_sem,e,DW]))
structure RuleV (t:Types) (r:Rule):Prop where
 vf:(cW t).2=0
 pl:PatOk t r.left
 gr:graphF r.right.o=0
 tr:iB t r.right.o=true
 sub:subF r.left.o r.G=0
 mo:fD (dF r.left.o r.G) r.right.o r.O=0
 inj:Jh (dF r.left.o r.G) r.right.o r.O=true
 d3:Bf t r.right.o r.ac r.av=true
 vars:r.right.vars=r.left.vars
 bi:r.right.q.length<=10
 dk:∀ s∈r.right.q,iM t r.right s=0
 cond:CondV t r.left r.cond
 kl:r.G.i.length<=1000000/\r.G.j.length<=1000000
theorem Ti {t:Types}{r:Rule}(a:r.ok)(h:ruleF t r=0):RuleV t r:=by
 unfold ruleF at h;split at h
 .rename_i h1;exact absurd h h1
 .rename_i h1;split at h
  .cases h
  .split at h
   .rename_i h3;exact absurd h h3
   .rename_i h3;split at h
    .rename_i h4;exact absurd h h4
    .rename_i h4;split at h
     .rename_i h5;exact absurd h h5
     .rename_i h5;split at h
      .cases h
      .rename_i h6;rw [kX] at h1 h3 h4 h5;have c:=Fb h4;unfold jX at h4;rw [if_neg bL,if_neg (by simp [c.2])] at h4;split at h4
       .cases h4
       .rename_i h7;split at h4
        .cases h4
        .rename_i h8;have b:subF r.left.o r.G=0/\fD (dF r.left.o r.G) r.right.o r.O=0/\Jh (dF r.left.o r.G) r.right.o r.O=true:=by
          unfold keptF at h5;split at h5
          .rename_i q;exact absurd h5 q
          .rename_i q;split at h5
           .rename_i q2;exact absurd h5 q2
           .rename_i q2;split at h5
            .cases h5
            .rename_i q3;exact ⟨bL,bL,by simpa using q3⟩
         unfold condF at h;rw [if_neg bL] at h;split at h
         .rename_i q;exact absurd h q
         .rename_i h9;refine ⟨h1,IP (.inr h3),c.1,c.2,b.1,b.2.1,b.2.2,by simpa using h6,bL,bL,λs d=>?_,⟨?_,h,a.size⟩,a.k1,a.k2⟩
          .obtain ⟨i,e,rfl⟩:=aM d;have:=fF _ _ h4 i (dN _) bL;rw [EZ e] at this;split at this
           .cases this
           .rename_i q;exact kX.1 q
          .rw [kX] at h9;unfold uO at h9;split at h9
           .cases h9
           .rename_i q;simpa using q
theorem RuleV.G {t:Types}{r:Rule}(h:RuleV t r):(r.G.i.length=r.O.i.length/\r.G.j.length=r.O.j.length)/\(∀ x∈r.G.i,0<=x/\x<r.left.o.i.length)/\(∀ x∈r.G.j,0<=x/\x<r.left.o.j.length) /\
  (∀ x∈r.O.i,0<=x/\x<r.right.o.i.length)/\∀ x∈r.O.j,0<=x/\x<r.right.o.j.length:=by
 obtain ⟨i,g,d,c⟩:=BI h.sub;obtain ⟨_,_,f,e⟩:=pV h.mo;obtain ⟨b,a⟩:=BO h.mo;have k:(dF r.left.o r.G).i.length=r.G.i.length:=by unfold dF;rw [if_pos h.sub];simp
 have j:(dF r.left.o r.G).j.length=r.G.j.length:=by unfold dF;rw [if_pos h.sub];simp
 exact ⟨⟨bL,bL⟩,d,c,b,a⟩
theorem RuleV.q {t:Types}{r:Rule}(h:RuleV t r):∀ s∈r.right.q,(0<=s.node/\s.node<r.right.o.i.length)/\(0<=s.Q/\s.Q<(bZ t (r.right.o.i[s.node.toNat]?.getD 0)).length)/\rF s.E r.left.vars.toNat:=λs hs=>by
 have:=h.dk s hs;have hv:=h.pl.vars;have he:=h.vars;unfold iM at this;split at this
 .rename_i h1;simp only [aR,mQ,decide_eq_true_eq,inF,Pattern.kind] at h1;exact ⟨h1.1.1.1,⟨h1.1.1.2.1,of_decide_eq_true h1.1.1.2.2⟩,⟨bL,bL⟩,bL,bL⟩
 .cases this
theorem Gf (t:Types)(b:t.ok)(r:Rule)(f:r.ok)(h:Host):Pua 141 [t.d,r.d,h.d] (dI (fU t r h)):=by
 refine Tz.p0 func141 rfl λQ e _=>?_;have Y:=wa @Host.d.eq_1 @Host.c.eq_1;refine wv (h:=aB (A1 t b r f) wl ?_);refine dD (λa=>?_) λa=>?_
 .exact wv (h:=e _ _ (by simp [go_sem,fU,a]))
 .refine wv (h:=aB (qB t b h) wl ?_);exact wv (h:=e _ _ (by simp [go_sem,fU,a,dH]))
theorem r6 (l:Xa0)(k:Nat)(v:Int):jG l (k+1) v=if l[k]?.getD (-1)=v then (k:Int) else jG l k v:=by unfold jG;rw [eP]
theorem Et (l:Xa0)(v:Int):∀ n,-1<=jG l n v/\jG l n v<n
 | 0=>by simp [jG]
 | n+1=>by
  have:=Et l v n;rw [r6];split<;>omega
theorem JV (l:Xa0)(v:Nat):mG l (v+1)=mG l v++[jG l l.length v]:=by simp [mG,c6]
theorem nF (l:Xa0)(v:Nat):(mG l v).length=v:=by simp [mG]
theorem B6 (l:Xa0){n i:Nat}(h:i<n):(mG l n)[i]?=some (jG l l.length i):=by simp [mG,h]
theorem IA (l:Xa0)(n:Nat)(E:n<=1000000):Pua 219 [dLI l,dI n] (dLI (mG l n)):=by
 refine Tz.pK ⟨λt=>t==5,λ_=>[]⟩ func219 rfl (λQ x=>?_);have Y:=trivial;refine wv (h:=bA (λv e H=>(e 0=dLI l/\e 1=dI n/\e 5=.own 0 v/\e 6=dI v)/\(H.get 0=some ⟨3,1,(mG l v).map cI,false⟩)/\(0<H.next)/\(v<=n)) (λv=>n - v) 0 ⟨wg,(by simp [go_sem,mG]),wn,wi⟩ λI r v e H q=>?_);obtain ⟨C,m,f,D⟩:=q;have Y:=xa2 Y C m (bU f);refine dD (λu=>?_) λu=>?_
 .have hbl:=nF l v;have Y:=wa Y u;refine wp (h:=bA (λk e H=>∃ B:Xa0,(e 0=dLI l/\e 1=dI n/\e 5=.own 0 (v+1)/\e 6=dI v/\e 7=dI k)/\(H.get 0=some ⟨3,1,B.map cI,false⟩)/\(0<H.next)/\(k<=l.length)/\(B=mG l v++[jG l k v])/\(B.length=v+1)) (λk=>l.length - k) 0 ⟨(mG l v++[-1]),wg,(by simp [go_sem,Y,cI]),wn,wi,(by rfl),(fg hbl)⟩ λG g k e H p=>?_);obtain ⟨B,A,j,d,F,s,b⟩:=p;have Y:=xa3 Y A j (bU d) b;refine wv (h:=?_);repeat first|intro _|refine ⟨fY,?_⟩
  refine wq (λi=>?_) λi=>?_
  .have hvB:v<B.length:=bL;have Y:=xa2 Y i (aA i) (aA hvB);refine jH (λz=>?_) λz=>?_
   .obtain ⟨o,a⟩:∃ y,y=B.set v (k:Int):=⟨_,rfl⟩;have w:o.map cI=(B.map cI).set v (cI k):=by rw [a,c8]
    have c:B.set v (k:Int)=mG l v++[jG l (k+1) v]:=by
     rw [r6,aA i,aF,if_pos bL,s,lI _ _ bL,hbl,nU];rfl
    have Y:=xa1 Y w @cI.eq_1;exact wp (h:=wx g (k+1) ⟨o,wg,cl,wn,wj,(by rw [a];exact c),(by rw [a];simp [b])⟩)
   .obtain ⟨o,a⟩:∃ y,y=B:=⟨_,rfl⟩;have c:B=mG l v++[jG l (k+1) v]:=by
     rw [r6,aA i,aF,if_neg bL];exact s
    have Y:=wa Y a;exact wp (h:=wx g (k+1) ⟨o,wg,cl,wn,wj,(by rw [a];exact c),(by rw [a];simp [b])⟩)
  .have hBe:B.map cI=(mG l v).map cI++[cI (jG l l.length v)]:=by rw [s,(bL:k=l.length)];simp
   exact wp (h:=wx r (v+1) ⟨wg,(by simp [go_sem,Y,JV,hBe]),wn,wj⟩)
 .have hve:v=n:=bL;exact wv (h:=x _ _ (by simp [go_sem,Y,hve,dLI,nF]))
theorem DC (l:Xa0)(n:Nat)(a:n<=1000000):Pua 218 [dI n,dLI l] (dLI (mG l n)):=by
 refine Tz.p0 func218 rfl λQ b Y=>?_;refine wv (h:=aB (IA l n a) wl ?_);exact wv (h:=b _ _ wy)
theorem Kx (t:Types)(b:t.ok)(h:Host)(p:Part)(f:p.i.length<=1000000)(a:p.j.length<=1000000)(e:h.o.i.length<=1000000)(g:h.o.j.length<=1000000) :
  Pua 144 [t.d,h.d,p.d] (.tup [(XV t h p).d,Part.d ⟨mG p.i h.o.i.length,mG p.j h.o.j.length⟩]):=by
 refine Tz.pK ⟨λt=>t==6||t==7||t==8,λ_=>[]⟩ func144 rfl (λQ i=>?_);have Y:=xa2 @Host.d.eq_1 @Host.c.eq_1 @Part.d.eq_1 @Part.c.eq_1;refine wv (h:=aB (KD t b h p f a) wl ?_);refine wp (h:=aJ (DC p.i h.o.i.length e) wl ?_);refine wp (h:=aJ (DC p.j h.o.j.length g) wl ?_);exact wp (h:=i _ _ wy)
theorem Co (l:Xa0)(n:Int):Pua 220 [dLI l,dI n] (.bool (!mem l n)):=by
 refine Tz.p0 func220 rfl λQ m Y=>?_;refine wv (h:=bA (λi e H=>(e 0=dLI l/\e 1=dI n/\e 5=dI i)/\(i<=l.length)/\(∀ j,j<i->∀ b:j<l.length,l[j]≠n)) (λi=>l.length - i) 0 ⟨wg,wi,(by intro j b;omega)⟩ λs g i e H f=>?_);obtain ⟨q,r,o⟩:=f;have Y:=wa Y q;refine wv (h:=?_);repeat first|intro _|refine ⟨iV,?_⟩
 refine wq (λc=>?_) λc=>?_
 .have Y:=xa1 Y c (aA c);refine dZ (λk=>?_) λk=>?_
  .have a:mem l n=true:=(mem_iff _ _).2 (k ▸ aC c);exact wv (h:=m _ _ (eD a))
  .exact wo (h:=wx g (i+1) ⟨wg,wj,(by intro j b d;rcases bD j i with hji|hji;exact o j hji d;(obtain rfl:j=i:=bL;exact k))⟩)
 .have a:mem l n=false:=by
   rw [bP];intro a;obtain ⟨j,b,p⟩:=aM ((mem_iff _ _).1 a);exact o j bL b p
  exact wv (h:=m _ _ (eD a))
theorem A0 (a b:Xa0)(s:a.length<=1000000)(p:∀ x∈a,0<=x/\x<b.length):Pua 145 [dLI a,dLI b] (dLI (rH a b)):=by
 refine Tz.pK ⟨λt=>t==5,λ_=>[]⟩ func145 rfl (λQ q=>?_);have Y:=trivial;refine wv (h:=bA (λi e H=>(e 0=dLI a/\e 1=dLI b/\e 5=.own 0 i/\e 6=dI i)/\(H.get 0=some ⟨3,1,(rH (a.take i) b).map cI,false⟩)/\(0<H.next)/\(i<=a.length)) (λi=>a.length - i) 0 ⟨wg,(by simp [go_sem,rH]),wn,wi⟩ λu m i e H k=>?_);obtain ⟨r,c,f,o⟩:=k;have Y:=xa2 Y r c (bU f);refine jH (λg=>?_) λg=>?_
 .have hx:=p _ (aC g);have n:a[i].toNat<b.length:=bL;have l:rH (a.take (i+1)) b=rH (a.take i) b++[b[a[i].toNat]]:=by unfold rH;rw [aD g,List.map_append];simp [aA n]
  have d:(rH (a.take i) b).length=i:=by simp [rH];omega
  have Y:=xa3 Y g (aA g) (aA n) d;exact wp (h:=wx m (i+1) ⟨wg,(by simp [go_sem,Y,l,cI]),wn,wj⟩)
 .rw [aH bL] at c;have j:i=a.length:=bL;have d:(rH a b).length=a.length:=by simp [rH]
  exact wv (h:=q _ _ (by simp [go_sem,Y,j,d,dLI]))
theorem LS (a:Xa0)(i:Nat):CU a (i+1)=CU a i+if jG a a.length i<0 then 1 else 0:=by
 unfold CU;rw [c6,eU,aO];congr 1;simp only [Lc,List.filter_nil];split<;>simp_all
theorem LR (into:Xa0):CU into 0=0:=rfl
theorem TE (a:Xa0)(i:Nat):CU a i<=i:=by
 unfold CU;exact dA (iC _ _) bS
theorem QC (keep b at_:Xa0)(i a:Nat):Hd keep b at_ (i+1) a=Hd keep b at_ i a++[Mt keep b at_ a i]:=by simp [Hd,c6]
theorem Cp (keep a at_:Xa0)(right b:Nat)(A:a.length<=keep.length)(s:∀ x∈keep,0<=x/\x<at_.length)(r:right<=1000000)(z:b<=1000000) :
  Pua 146 [dLI keep,dLI a,dI right,dLI at_,dI b] (dLI (Hd keep a at_ right b)):=by
 refine Tz.pK ⟨λt=>t==12,λ_=>[]⟩ func146 rfl (λQ v=>?_);have Y:=@LR;refine wv (h:=aB (IA a right r) wl ?_);refine wv (h:=bA (λi e H=>(e 0=dLI keep/\e 1=dLI a/\e 2=dI right/\e 3=dLI at_/\e 4=dI ((b+CU a i:Nat):Int)/\e 11=dLI (mG a right)/\e 12=.own 0 i/\e 13=dI i)/\(H.get 0=some ⟨3,1,(Hd keep a at_ i b).map cI,false⟩)/\(0<H.next)/\(i<=right)) (λi=>right - i) 0 ⟨wg,(by simp [go_sem,Hd]),wn,wi⟩ λE f i e H j=>?_);obtain ⟨y,g,d,C⟩:=j;have Y:=xa2 Y y g (bU d);refine dD (λq=>?_) λq=>?_
 .have hg:=B6 a (n:=right) (i:=i) bL;have D:=Et a i a.length;have m:=nF a right;have c:=LS a i;have u:=TE a i;have l:(Hd keep a at_ i b).length=i:=by simp [Hd]
  have k:(mG a right)[i]' bL=jG a a.length i:=by simp [mG]
  have Y:=xa4 Y q hg k m l;refine jH (λw=>?_) λw=>?_
  .have hb2:(jG a a.length i).toNat<keep.length:=bL;have B:=s _ (aC hb2);have p:keep[(jG a a.length i).toNat].toNat<at_.length:=bL;have o:Mt keep a at_ b i=at_[keep[(jG a a.length i).toNat].toNat]:=by unfold Mt;rw [if_pos bL,aA hb2,aF,aA p];rfl
   rw [if_neg bL] at c;have Y:=xa2 Y (aA hb2) (aA p) c;exact wp (h:=wx f (i+1) ⟨wg,(by simp [go_sem,Y,QC,o,cI]),wn,wj⟩)
  .have o:Mt keep a at_ b i=((b+CU a i:Nat):Int):=by unfold Mt;rw [if_neg bL]
   rw [if_pos bL] at c;have Y:=wa Y c;exact wp (h:=wx f (i+1) ⟨wg,(by simp [go_sem,Y,QC,o,cI]),wn,wj⟩)
 .have hie:i=right:=bL;exact wv (h:=v _ _ (by simp [go_sem,Y,hie,dLI];simp [Hd]))
theorem IE (a b:Xa0):Pua 213 [dLI a,dLI b] (.bool (decide (a=b))):=by
 refine Tz.p0 func213 rfl λQ g Y=>?_;refine dZ (λm=>?_) λm=>?_
 .refine wv (h:=?_);have c:a≠b:=by intro h;subst h;omega
  exact g _ _ (eD c)
 .refine wv (h:=bA (λi e H=>(e 0=dLI a/\e 1=dLI b/\e 5=dI i)/\(i<=a.length)/\(a.take i=b.take i)) (λi=>a.length - i) 0 ⟨wg,wi,(by rfl)⟩ λp j i e H d=>?_);obtain ⟨n,o,f⟩:=d;have Y:=wa Y n;refine wv (h:=?_);repeat first|intro _|refine ⟨iV,?_⟩
  refine wq (λl=>?_) λl=>?_
  .have hib:i<b.length:=bL;have Y:=xa1 Y l hib;refine dZ (λk=>?_) λk=>?_
   .refine wv (h:=?_);have c:a≠b:=by intro h;subst h;exact k rfl
    exact g _ _ (eD c)
   .exact wo (h:=wx j (i+1) ⟨wg,wj,(by rw [aD l,aD hib,f,k])⟩)
  .rw [aH bL,aH bL] at f;exact wv (h:=g _ _ (eD f))
def yH (t:Types)(r:Rule)(h:Host)(m:Mat):Part:=if tA t r h m=0 then dB r h m else ⟨[],[]⟩
theorem ST {t:Types}{p g:Graph}{m:Part}{a:Bool}(h:fX t p g m a=0):fX t p g m false=0:=by
 unfold fX at h ⊢;split at h
 .exact absurd h er
 .rename_i h1;rw [if_neg h1];unfold jY at h ⊢;split at h
  .cases h
  .rename_i h2;rw [if_neg h2];split at h
   .exact absurd h er
   .rename_i h3;rw [if_neg h3];split at h
    .exact absurd h er
    .rename_i h4;rw [if_neg h4,if_neg bS]
theorem Lo {t:Types}{p:Pattern}{h:Host}{m:Part}(a:(eJ t p h m).2=0):PatOk t p/\HostOk t h/\fX t p.o h.o m false=0/\eJ t p h m=eY p h m []:=by
 unfold eJ at a ⊢;split at a
 .exact absurd a er
 .rename_i h1;split at a
  .exact absurd a er
  .rename_i h2;split at a
   .exact absurd a er
   .rename_i h3;rw [kX] at h1 h2 h3;rw [if_neg bL,if_neg bL,if_neg bL];exact ⟨IP (.inr h1),rW h2,h3,rfl⟩
theorem Is (t:Types)(q:t.ok)(r:Rule)(l:RuleV t r)(h:Host)(u:HostOk t h)(m:Mat) :
  Pua 143 [t.d,r.d,h.d,m.d] (.tup [(yH t r h m).d,dI (mK t r h m)]):=by
 refine Tz.pK ⟨λt=>t==8||t==12||t==13,λ_=>[]⟩ func143 rfl (λQ n=>?_);have Y:=xa2 @Host.d.eq_1 @Host.c.eq_1 @Mat.d.eq_1 @Mat.c.eq_1;refine wv (h:=aB (A3 t q r.left.o h.o m.m r.inj) wl ?_);refine dD (λy=>?_) λy=>?_
 .have i:tA t r h m=1:=by unfold tA;rw [if_pos (cG y)]
  have k:mK t r h m=1:=by unfold mK;rw [if_pos bL,i]
  have b:yH t r h m=⟨[],[]⟩:=by unfold yH;rw [if_neg bL]
  exact wv (h:=n _ _ (by simp [go_sem,k,b,Part.d,Part.c,dLI]))
 .have hc:fX t r.left.o h.o m.m r.inj=0:=by simpa using y
  refine wv (h:=aB (Pl t q r.left h m.m) wl ?_);refine dD (λs=>?_) λs=>?_
  .have i:tA t r h m=(eJ t r.left h m.m).2:=by unfold tA;rw [if_neg bL,if_pos s]
   have k:mK t r h m=(eJ t r.left h m.m).2:=by unfold mK;rw [if_pos bL,i]
   have b:yH t r h m=⟨[],[]⟩:=by unfold yH;rw [if_neg bL]
   exact wv (h:=n _ _ (by simp [go_sem,k,b,Part.d,Part.c,dLI]))
  .obtain ⟨A,z,g,f⟩:=Lo (cG s);have e:=uV (uD hc).2;refine wp (h:=aB (IE (eJ t r.left h m.m).1 m.vars) wl ?_);refine jH (λw=>?_) λw=>?_
   .have h6':(eJ t r.left h m.m).1≠m.vars:=by simpa using w
    have i:tA t r h m=11:=by unfold tA;rw [if_neg bL,if_neg bL,if_pos h6']
    have k:mK t r h m=11:=by unfold mK;rw [if_pos bL,i]
    have b:yH t r h m=⟨[],[]⟩:=by unfold yH;rw [if_neg bL]
    exact wv (h:=n _ _ (by simp [go_sem,k,b,Part.d,Part.c,dLI]))
   .have h6':(eJ t r.left h m.m).1=m.vars:=by simpa using w
    have v:Cc t r.left.o h.o m.m=sR r.left.o h.o m.m:=by unfold Cc;rw [if_pos g]
    have i:tA t r h m=tK (sR r.left.o h.o m.m) h.o r.G m.m:=by unfold tA;rw [if_neg bL,if_neg bL,if_neg (by rw [h6'];simp)]
    have J:=l.G;have H:=bW l.pl.gg;have I:=bW u.gg;have E:=e.len;have F:=e.bO;have G:=l.kl.1;have p:MatOk t r.left h m:=by
     rw [f] at h6';have o:(eY r.left h m.m []).2=0:=by rw [<- f];simpa using s
     obtain ⟨C,B⟩:=CH (Yi l.pl u e) (vs:=[]) bS bS o;rw [h6'] at C B;exact ⟨e,C,B⟩
    have Y:=xa1 Y v g;refine wv (h:=aB (Iw t q r.left.o h.o m.m) wl ?_);refine wv (h:=aB (Wp (sR r.left.o h.o m.m) h.o r.G m.m bL bL bL bL bL) wl ?_);refine dD (λx=>?_) λx=>?_
    .have k:mK t r h m=tK (sR r.left.o h.o m.m) h.o r.G m.m:=by unfold mK;rw [if_pos bL,i]
     have b:yH t r h m=⟨[],[]⟩:=by unfold yH;rw [if_neg bL]
     exact wv (h:=n _ _ (by simp [go_sem,k,b,Part.d,Part.c,dLI]))
    .have b:yH t r h m=dB r h m:=by unfold yH;rw [if_pos bL]
     have j:mK t r h m=if (pG t h r.inj r.cond m).2≠0 then (pG t h r.inj r.cond m).2 else if (pG t h r.inj r.cond m).1=false then 16 else 0:=by unfold mK;rw [if_neg bL]
     refine wv (h:=aB ((by have D:=Pk t q h u r.inj r.cond r.left l.cond l.pl m p;rwa [Cond.F] at D)) wl ?_);refine jH (λa=>?_) λa=>?_
     .rw [if_neg (by rw [a.1];simp),if_pos a.2] at j;exact wv (h:=n _ _ (by simp [go_sem,Y,j,b,dB]))
     .have hE2:mK t r h m=(pG t h r.inj r.cond m).2:=by
       rw [j];split
       .rfl
       .rename_i o;rw [kX] at o;simp [o] at a;simp [o,a]
      exact wv (h:=n _ _ (by simp [go_sem,Y,hE2,b,dB]))
theorem qU (l:Xa0)(i:Nat):dC l (i+1)=dC l i++if mem l i=true then [] else [(i:Int)]:=by
 unfold dC;rw [c6,eU,List.map_append];congr 1;simp only [Lc,List.filter_nil];split<;>simp_all
def Hy (t:Types)(r:Rule)(x:Host)(i:Nat):Host :=
 ⟨⟨x.o.i++(dC r.O.i i).map (gN r.right.o),x.o.j⟩,x.values++(dC r.O.i i).map (λk=>pW t (gN r.right.o k))⟩
def Su (t:Types)(r:Rule)(c:Part)(x:Host)(i:Nat):Host:=⟨⟨x.o.i,x.o.j++(dC r.O.j i).map (λk=>freshE c (r.right.o.j[k.toNat]?.getD cK))⟩,x.values⟩
theorem Ge (t:Types)(ht:t.ok)(r:Rule)(hR:RuleV t r)(u:Host)(c:Part)(hc:c.i.length=r.right.o.i.length)(hs:u.o.i.length<=1000/\u.o.j.length<=1000/\u.values.length<=1000)
  (G:AHeap) (lo a b V:Nat) (f:List Nat) (q:HH G lo a b V f u) (Q:D->AHeap->Prop)
  (hQ:∀ ns H',(∀ j∈ns,G.next<=j)->HH H' lo a b V (f++ns) (kP t r c u)->(∀ j,j<G.next->j∉a :: b :: V :: f->H'.get j=G.get j)->G.next<=H'.next->Q (.agg [.own a (kP t r c u).o.i.length,.own b (kP t r c u).o.j.length,.own V (kP t r c u).values.length]) H') :
  ACalls prog 147 [t.d,r.d,.agg [.own a u.o.i.length,.own b u.o.j.length,.own V u.values.length],c.d] G Q:=by
 have e6:=bW hR.gr;have d3:=eI hR.gr;have e9:=q.W a q.a6;have e7:=q.W b q.a2;have f0:=q.W V q.ba;have e8:=q.ab;have v:∀ j,j∉a :: b :: V :: f->j≠a/\j≠b/\j≠V:=λj hj=>by simp only [aP,not_or] at hj;exact ⟨hj.1,hj.2.1,hj.2.2.1⟩
 refine (Tz.cK ⟨λt=>t==6||t==8||t==9||t==13||t==16||t==1000001,λr=>match r with|6=>[(0,8),(1,8),(2,8)]|19=>[(0,18),(1,18),(2,18)]|_=>[]⟩ func147 rfl ?_);have Y:=wa @Part.d.eq_1 @Part.c.eq_1;refine wv (h:=bA (λi e H=>∃ X:Nat,∃ R:Nat,∃ m:Nat,∃ x:Host,∃ ns:List Nat,(e 4=.adr t.c/\e 5=.adr r.c/\e 7=.adr c.c/\e 6=.ptr X 1 0 0/\e 8=.ptr R 1 0 0/\e 9=.ptr m 1 0 0/\e 10=dI i)/\(H.get X=some ⟨33,3,[[.own a x.o.i.length,.own b x.o.j.length,.own V x.values.length]],false⟩)/\(X<H.next)/\(H.get R=some ⟨33,3,[[.nil,.nil,.nil]],false⟩)/\(R<H.next)/\(H.get m=some ⟨30,2,[[dLI r.right.o.i,.list (r.right.o.j.map Edge.c)]],false⟩)/\(m<H.next)/\(i<=r.right.o.i.length)/\(HH H lo a b V (f++ns) x)/\(x=Hy t r u i)/\(∀ j∈a :: b :: V :: (f++ns),j≠X/\j≠R/\j≠m)/\(∀ j∈ns,G.next<=j)/\(G.next<=X/\X<R/\R<m)/\(∀ j,j<G.next->j∉a :: b :: V :: f->H.get j=G.get j)/\(G.next<=H.next)) (λi=>r.right.o.i.length - i) 0 ⟨G.next,(G.next+1),(G.next+2),u,([]),wg,wn,wn,wn,wn,wn,wn,wi,(by rw [dG];refine q.same eq (λj hj=>by have:=(q.W j hj).2;simp [go_sem,bU this])),(by simp [Hy,dC]),(by intro j hj;rw [dG] at hj;have:=(q.W j hj).2;omega),(by intro j hj;cases hj),bL,(by intro j hj _;simp [go_sem,bU hj]),eq⟩ λI0 c3 i e H d1=>?_);obtain ⟨X,R,m,x,ns,E0,gX_0,nX_0,gR_0,nR_0,gYb_0,nYb_0,hi,B,hx,A,I,c0,hG,a3⟩:=d1;have d9:=xa2 (b8 (bL:m≠R)) (b8 (bL:m≠X)) (b8 (bL:m≠V)) (xb0 (b8 (bL:m≠b)) (b8 (bL:m≠a)) (b8 (bL:R≠X)) (b8 (bL:R≠V)) (b8 (bL:R≠b)) (b8 (bL:R≠a)) (b8 (bL:X≠V)) (b8 (bL:X≠b)) (b8 (bL:X≠a)) (b8 (bL:V≠b)) (b8 (bL:V≠a)) (b8 (bL:b≠a)));have Y:=xa7 Y E0 gX_0 (bU nX_0) gR_0 (bU nR_0) gYb_0 (bU nYb_0) d9;refine jH (λh3=>?_) λh3=>?_
 .have hsu:=qU r.O.i i;obtain ⟨nd,b0⟩:∃ y,y=r.right.o.i[i]:=⟨_,rfl⟩;have d2:gN r.right.o (i:Int)=nd:=by rw [b0];simp [gN,aA h3]
  have c9:=mM r.O.i i;have c6:x.o.i.length<=2000/\x.values.length<=2000/\x.o.j.length<=2000:=by rw [hx];simp [Hy];omega
  have Y:=xa2 Y h3 (aA h3) (Eq.symm b0);refine wp (h:=aB (Co r.O.i i) wl ?_);refine jH (λh5=>?_) λh5=>?_
  .have hm:mem r.O.i i=true:=by simpa using h5
   rw [if_pos hm,dG] at hsu;obtain ⟨s,l⟩:∃ y,y=x:=⟨_,rfl⟩;obtain ⟨C,n⟩:∃ y,y=ns:=⟨_,rfl⟩;have E:s=Hy t r u (i+1):=by rw [l,hx];unfold Hy;rw [hsu]
   have K:HH H lo a b V (f++C) s:=by rw [l,n];exact B
   have N:∀ j∈a :: b :: V :: (f++C),j≠X/\j≠R/\j≠m:=by rw [n];exact A
   have O:=hG;have Y:=wa Y l;exact wp (h:=wx c3 (i+1) ⟨X,R,m,s,C,wg,wn,wn,wn,wn,wn,wn,wj,(by first|exact K|(rw [n,<- List.append_assoc,l];exact w.b2 ei bL U ei (fe o) (fe o) (λj hj=>by obtain ⟨S,P⟩:=M j hj;simp [go_sem,S,P]))),(by exact E),(by exact N),(by rw [n];first|exact I|(intro j hj;rw [aQ,aX] at hj;rcases hj with hj|rfl;exact I j hj;exact a1.2)),(by exact c0),(by first|exact O|(intro j hj g;obtain ⟨ja,jb,jV⟩:=v j g;simp [go_sem,jV,(bL:j≠X)];exact a5 j hj g)),(by first|exact a3|(simp [go_sem];omega))⟩)
  .have hm:¬ mem r.O.i i=true:=by simpa using h5
   rw [if_neg hm] at hsu;have b4:=B.ga;have b6:=B.gV;have c7:=kI B.len;have e2:=B.W a B.a6;have e3:=B.W V B.ba;have c8:=B.W b B.a2;have e0:(bZ t nd).length<=8:=vG hR.vf nd;have d6:=xa1 (bU (bL:a<H.next)) (bU (bL:b<H.next)) (bU (bL:V<H.next));have b7:∀ j∈b :: V :: (f++ns),j≠a/\j≠X/\j<H.next:=λj hj=>by
    have J:j∈a :: b :: V :: (f++ns):=cZ _ hj;refine ⟨?_,(A j J).1,(B.W j J).2⟩;rintro rfl;have:=B.nd;rw [gC] at this;exact this.1 hj
   have Y:=xa4 Y h5 b4 b6 c7 d6;refine wp (h:=aJ (sP t ht nd) wl ?_);refine wp (h:=bA (λk e H=>∃ W:Nat,(e 4=.adr t.c/\e 5=.adr r.c/\e 7=.adr c.c/\e 6=.ptr X 1 0 0/\e 8=.ptr R 1 0 0/\e 9=.ptr m 1 0 0/\e 10=dI i/\e 11=.list ((bZ t nd).map Attr.c)/\e 13=.own W k/\e 14=dI k)/\(H.get X=some ⟨33,3,[[.own a (x.o.i.length+1),.own b x.o.j.length,.own V x.values.length]],false⟩)/\(X<H.next)/\(H.get R=some ⟨33,3,[[.nil,.nil,.nil]],false⟩)/\(R<H.next)/\(H.get m=some ⟨30,2,[[dLI r.right.o.i,.list (r.right.o.j.map Edge.c)]],false⟩)/\(m<H.next)/\(H.get W=some ⟨3,1,(((bZ t nd).take k).map λa=>a.am).map cI,false⟩)/\(W<H.next)/\(k<=(bZ t nd).length)/\(HH H lo a b V (f++ns) ⟨⟨x.o.i++[nd],x.o.j⟩,x.values⟩)/\(∀ j∈a :: b :: V :: (f++ns),j≠W)/\((lo<=W/\m<W)/\G.next<=W)/\(∀ j,j<G.next->j∉a :: b :: V :: f->H.get j=G.get j)/\(G.next<=H.next)) (λk=>(bZ t nd).length - k) 0 ⟨(H.next+13+12),wg,wn,wn,wn,wn,wn,wn,eh,wn,wi,(by exact B.i ei (by simp [go_sem,Y,cI]) (λj hj=>by obtain ⟨S,P,k3⟩:=b7 j hj;simp [go_sem,S,P,bU k3])),(by intro j hj;have:=(B.W j hj).2;omega),(by omega),(by intro j hj g;obtain ⟨ja,jb,jV⟩:=v j g;simp [go_sem,ja,(bL:j≠X),bU (bL:j<H.next)];exact hG j hj g),eq⟩ λI2 d4 k e H d0=>?_);obtain ⟨W,E2,gX_2,nX_2,gR_2,nR_2,gYb_2,nYb_2,gW_2,nW_2,hk,w,U,a1,a5,e5⟩:=d0;have d8:=xa8 (b8 (bL:W≠m)) (b8 (bL:W≠R)) (b8 (bL:W≠X)) (b8 (bL:W≠V)) (b8 (bL:W≠b)) (b8 (bL:W≠a)) (b8 (bL:m≠R)) (b8 (bL:m≠X)) (b8 (bL:m≠V)) (xb0 (b8 (bL:m≠b)) (b8 (bL:m≠a)) (b8 (bL:R≠X)) (b8 (bL:R≠V)) (b8 (bL:R≠b)) (b8 (bL:R≠a)) (b8 (bL:X≠V)) (b8 (bL:X≠b)) (b8 (bL:X≠a)) (b8 (bL:V≠b)) (b8 (bL:V≠a)) (b8 (bL:b≠a)));have Y:=xa9 Y E2 gX_2 (bU nX_2) gR_2 (bU nR_2) gYb_2 (bU nYb_2) gW_2 (bU nW_2) d8;refine jH (λa0=>?_) λa0=>?_
   .have hst:((bZ t nd).take (k+1)).map (λa=>a.am)=((bZ t nd).take k).map (λa=>a.am)++[(bZ t nd)[k].am]:=by rw [aD a0,List.map_append];rfl
    have Y:=xa2 Y a0 (aA a0) @Attr.c.eq_1;exact wp (h:=wx d4 (k+1) ⟨W,wg,wn,wn,wn,wn,wn,wn,(by simp [go_sem,Y,hst,cI]),wn,wj,(by exact w.same eh (λj hj=>by have:=U j hj;simp [go_sem,this])),(by exact U),bL,(by intro j hj g;simp [go_sem,(bL:j≠W)];exact a5 j hj g),eq⟩)
   .have hke:k=(bZ t nd).length:=bL;have b5:=w.gV;rw [aH bL] at gW_2;obtain ⟨s,l⟩:∃ y:Host,y=⟨⟨x.o.i++[nd],x.o.j⟩,x.values++[pW t nd]⟩:=⟨_,rfl⟩;obtain ⟨C,n⟩:∃ y,y=ns++[W]:=⟨_,rfl⟩;have E:s=Hy t r u (i+1):=by rw [l,hx];unfold Hy;rw [hsu];simp [d2]
    have N:∀ j∈a :: b :: V :: (f++C),j≠X/\j≠R/\j≠m:=λj hj=>by
     have e:a :: b :: V :: (f++C)=(a :: b :: V :: (f++ns))++[W]:=by rw [n];simp
     rw [e,aQ,aX] at hj;rcases hj with hj|rfl
     .exact A j hj
     .omega
    have a2:s.o.i.length=x.o.i.length+1/\s.o.j.length=x.o.j.length/\s.values.length=x.values.length+1:=by rw [l];simp
    have M:∀ j∈a :: b :: (f++ns),j≠V/\j≠X:=λj hj=>by
     simp only [aP] at hj;rcases hj with rfl|rfl|hj
     .exact ⟨bL,(A _ w.a6).1⟩
     .exact ⟨bL,(A _ w.a2).1⟩
     .exact ⟨(w.qn hj).2.2,(A _ (w.ay hj)).1⟩
    have o:pW t nd=(bZ t nd).map λa=>a.am:=rfl;have Y:=xa2 Y b5 a2 hke;exact wp (h:=wx c3 (i+1) ⟨X,R,m,s,C,wg,wn,wn,wn,wn,wn,wn,wj,(by first|exact K|(rw [n,<- List.append_assoc,l];exact w.b2 ei bL U ei (fe o) (fe o) (λj hj=>by obtain ⟨S,P⟩:=M j hj;simp [go_sem,S,P]))),(by exact E),(by exact N),(by rw [n];first|exact I|(intro j hj;rw [aQ,aX] at hj;rcases hj with hj|rfl;exact I j hj;exact a1.2)),(by exact c0),(by first|exact O|(intro j hj g;obtain ⟨ja,jb,jV⟩:=v j g;simp [go_sem,jV,(bL:j≠X)];exact a5 j hj g)),(by first|exact a3|(simp [go_sem];omega))⟩)
 .have hie:i=r.right.o.i.length:=bL;have b3:=B.gb;have c9:=mM r.O.i i;have c6:x.o.j.length<=1000:=by rw [hx];exact hs.2.1
  have Y:=wa Y b3;refine wv (h:=bA (λi e H=>∃ x:Host,(e 4=.adr t.c/\e 5=.adr r.c/\e 7=.adr c.c/\e 6=.ptr X 1 0 0/\e 8=.ptr R 1 0 0/\e 9=.ptr m 1 0 0/\e 15=dI i)/\(H.get X=some ⟨33,3,[[.own a x.o.i.length,.own b x.o.j.length,.own V x.values.length]],false⟩)/\(X<H.next)/\(H.get R=some ⟨33,3,[[.nil,.nil,.nil]],false⟩)/\(R<H.next)/\(H.get m=some ⟨30,2,[[dLI r.right.o.i,.list (r.right.o.j.map Edge.c)]],false⟩)/\(m<H.next)/\(i<=r.right.o.j.length)/\(HH H lo a b V (f++ns) x)/\(x=Su t r c (Hy t r u r.right.o.i.length) i)/\(∀ j,j<G.next->j∉a :: b :: V :: f->H.get j=G.get j)/\(G.next<=H.next)) (λi=>r.right.o.j.length - i) 0 ⟨x,wg,wn,wn,wn,wn,wn,wn,wi,(by exact B),(by rw [hx,hie];simp [Su,dC]),(by exact hG),(by exact a3)⟩ λI4 c2 i e H b1=>?_);obtain ⟨x,E4,gX_4,nX_4,gR_4,nR_4,gYb_4,nYb_4,b1,p,T,Z,a4⟩:=b1;have d7:=xa2 (b8 (bL:m≠R)) (b8 (bL:m≠X)) (b8 (bL:m≠V)) (xb0 (b8 (bL:m≠b)) (b8 (bL:m≠a)) (b8 (bL:R≠X)) (b8 (bL:R≠V)) (b8 (bL:R≠b)) (b8 (bL:R≠a)) (b8 (bL:X≠V)) (b8 (bL:X≠b)) (b8 (bL:X≠a)) (b8 (bL:V≠b)) (b8 (bL:V≠a)) (b8 (bL:b≠a)));have Y:=xa7 Y E4 gX_4 (bU nX_4) gR_4 (bU nR_4) gYb_4 (bU nYb_4) d7;refine jH (λF=>?_) λF=>?_
  .have hsu:=qU r.O.j i;obtain ⟨y,hy⟩:=cY (r.right.o.j[i]);have c5:r.right.o.j[(i:Int).toNat]?.getD cK=y:=by rw [hy];simp [aA F]
   have a9:r.right.o.j[i]?.getD cK=y:=by rw [hy,aA F];rfl
   have c4:=(d3.2 _ (aC F)).2;rw [<- hy] at c4;have a8:y.from_.toNat<c.i.length:=bL;have a7:y.L.toNat<c.i.length:=bL;have e4:=mM r.O.j i;have e1:x.o.j.length<=2000:=by rw [T];simp [Su,Hy];omega
   have b2:=p.gb;have c8:=p.W b p.a2;have d5:=bU (bL:b<H.next);have Y:=xa7 Y F (aA F) (Eq.symm hy) (aA a8) (aA a7) b2 @Edge.c.eq_1 d5;refine wv (h:=aB (Co r.O.j i) wl ?_);refine dD (λa6=>?_) λa6=>?_
   .have hm:¬ mem r.O.j i=true:=by simpa using a6
    rw [if_neg hm] at hsu;have b9:freshE c y=⟨y.type,c.i[y.from_.toNat],c.i[y.L.toNat]⟩:=by unfold freshE;rw [aA a8,aA a7];rfl
    obtain ⟨s,l⟩:∃ z:Host,z=⟨⟨x.o.i,x.o.j++[freshE c y]⟩,x.values⟩:=⟨_,rfl⟩;have E:s=Su t r c (Hy t r u r.right.o.i.length) (i+1):=by rw [l,T];unfold Su;rw [hsu];simp [c5,a9]
    have a2:s.o.i.length=x.o.i.length/\s.o.j.length=x.o.j.length+1/\s.values.length=x.values.length:=by rw [l];simp
    have L:∀ j∈a :: V :: (f++ns),j≠b/\j≠X/\j<H.next:=λj hj=>by
     have J:j∈a :: b :: V :: (f++ns):=by simp only [aP] at hj ⊢;rcases hj with h|h|h<;>simp [h]
     refine ⟨?_,(A j J).1,(p.W j J).2⟩;rintro rfl;have:=p.nd;simp only [gC,aP,not_or] at this;simp only [aP] at hj;rcases hj with h|h|h
     .exact this.1.1 h.symm
     .exact this.2.1.1 h
     .exact this.2.1.2 h
    have Y:=wa Y a2;exact wp (h:=wx c2 (i+1) ⟨s,wg,wn,wn,wn,wn,wn,wn,wj,(by first|exact K|(rw [l];exact p.j ei (by simp [go_sem,Y,b9,Edge.c]) (λj hj=>by obtain ⟨S,P,k3⟩:=L j hj;simp [go_sem,S,P,bU k3]))),(by exact E),(by first|exact O|(intro j hj g;obtain ⟨ja,jb,jV⟩:=v j g;simp [go_sem,jb,(bL:j≠X),bU (bL:j<H.next)];exact Z j hj g)),(by first|exact a4|(simp [go_sem];omega))⟩)
   .have hm:mem r.O.j i=true:=by simpa using a6
    rw [if_pos hm,dG] at hsu;obtain ⟨s,l⟩:∃ z,z=x:=⟨_,rfl⟩;have E:s=Su t r c (Hy t r u r.right.o.i.length) (i+1):=by rw [l,T];unfold Su;rw [hsu]
    have K:HH H lo a b V (f++ns) s:=by rw [l];exact p
    have O:=Z;have Y:=wa Y l;exact wp (h:=wx c2 (i+1) ⟨s,wg,wn,wn,wn,wn,wn,wn,wj,(by first|exact K|(rw [l];exact p.j ei (by simp [go_sem,Y,b9,Edge.c]) (λj hj=>by obtain ⟨S,P,k3⟩:=L j hj;simp [go_sem,S,P,bU k3]))),(by exact E),(by first|exact O|(intro j hj g;obtain ⟨ja,jb,jV⟩:=v j g;simp [go_sem,jb,(bL:j≠X),bU (bL:j<H.next)];exact Z j hj g)),(by first|exact a4|(simp [go_sem];omega))⟩)
  .have hie4:i=r.right.o.j.length:=bL;have c1:x=kP t r c u:=by rw [T,hie4];rfl
   rw [c1] at p;have Y:=wa Y c1;refine wv (h:=?_);exact hQ ns _ I (p.same eh (λj hj=>by simp [go_sem,(A j hj).2.1])) (λj hj g=>by simp [go_sem,(bL:j≠R)];exact Z j hj g) (by simp [go_sem];exact a4)
end Go.Abs
end
