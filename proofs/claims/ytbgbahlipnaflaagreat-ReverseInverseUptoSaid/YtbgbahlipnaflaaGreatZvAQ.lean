/- Layer 22 of the reference: values, extensions, the first wit -/
import Derived.Test.YtbgbahlipnaflaaGreatZvAG
import Derived.Test.YtbgbahlipnaflaaGreatZvAA
import Derived.Test.YtbgbahlipnaflaaGreatZvAM
import Derived.Test.YtbgbahlipnaflaaGreatZvAP
set_option linter.unusedVariables false
set_option linter.unusedSimpArgs false
section
set_option maxRecDepth 100000
set_option maxHeartbeats 4000000
open Go Go.Proofs Tryz
namespace Go.Abs
def QG (at_ im:V2)(n i:Nat):V2:=(List.range i).foldl (λacc i=>acc.set (at_[i]?.getD 0).toNat (im[i]?.getD 0)) (List.replicate n (-1))
theorem Jf (at_ a:V2)(n i:Nat):QG at_ a n (i+1)=(QG at_ a n i).set (at_[i]?.getD 0).toNat (a[i]?.getD 0):=by unfold QG;rw [fA]
theorem DM (at_ im:V2)(n:Nat):∀ i,(QG at_ im n i).length=n
 | 0=>by simp [QG]
 | i+1=>by rw [Jf,f9];exact DM at_ im n i
theorem DF (n:Nat)(z:n<=1000000)(at_ a:V2)(v:∀ x∈at_,0<=x/\x<n)(D:at_.length<=a.length):Pua 385 [dI n,dLI at_,dLI a] (dLI (AT n at_ a)):=by
 refine Tz.pK ⟨λt=>t==7,λ_=>[]⟩ func385 rfl (λQ u=>?_);have Y:=trivial;refine wv (h:=bA (λi e H=>(e 0=dI n/\e 1=dLI at_/\e 2=dLI a/\e 7=.own 0 i/\e 8=dI i)/\(H.get 0=some ⟨3,1,(List.replicate i (-1:Int)).map cI,false⟩)/\(0<H.next)/\(i<=n)) (λi=>n - i) 0 ⟨wg,eq,wn,wi⟩ λF r i e H b=>?_);obtain ⟨y,j,d,B⟩:=b;have Y:=xa2 Y y j (bS d);refine dR (λs=>?_) λs=>?_
 .have Y:=wa Y s;exact wp (h:=wx r (i+1) ⟨wg,(by simp [go_sem,Y,B5,cI]),wn,wj⟩)
 .have hin:i=n:=aD;refine wv (h:=bA (λk e H=>(e 0=dI n/\e 1=dLI at_/\e 2=dLI a/\e 7=.own 0 n/\e 9=dI k)/\(H.get 0=some ⟨3,1,(QG at_ a n k).map cI,false⟩)/\(0<H.next)/\(k<=at_.length)/\((QG at_ a n k).length=n)) (λk=>at_.length - k) 0 ⟨wg,(by simp [go_sem,Y,QG,hin]),wn,wi,(by exact DM _ _ _ _)⟩ λE q k e H m=>?_);obtain ⟨w,g,c,A,l⟩:=m;have Y:=xa3 Y w g (bS c) l;refine wv (h:=?_);repeat first|intro _|refine ⟨fK,?_⟩
  refine wq (λf=>?_) λf=>?_
  .have hki:k<a.length:=aD;have C:=v _ (aC f);have p:at_[k]?.getD 0=at_[k]:=by rw [aA f];rfl
   have b:a[k]?.getD 0=a[k]:=by rw [aA hki];rfl
   have o:at_[k].toNat<(QG at_ a n k).length:=aD;have Y:=xa3 Y f (aA f) (aA hki) (aA o);exact wp (h:=wx q (k+1) ⟨wg,(by simp [go_sem,Y,Jf,cW,p,b,cI]),wn,wj,(by exact DM _ _ _ _)⟩)
  .have hP:AT n at_ a=QG at_ a n k:=by unfold AT QG;rw [(aD:k=at_.length)]
   exact wv (h:=u _ _ (by simp [go_sem,Y,hP,dLI]))
def OA (len i:Nat):List Bool:=(List.range i).map λj=>decide (j<len)
theorem XZ (len i:Nat):OA len (i+1)=OA len i++[decide (i<len)]:=by simp [OA,bR]
theorem Oy (len i:Nat):(OA len i).length=i:=by simp [OA]
theorem Oz (len n:Nat)(h:len<=n):OA len n=List.replicate len true++List.replicate (n - len) false:=by
 apply fD (by simp [OA];omega);intro i b a;simp only [OA,iG,rK,List.getElem_append,List.getElem_replicate,fM];split
 .rename_i h3;simpa using h3
 .rename_i h3;simpa using h3
theorem ZA (len i n:Nat)(h:i<n):(OA len i++List.replicate (n - i) false).set i (decide (i<len))=OA len (i+1)++List.replicate (n - (i+1)) false:=by
 rw [nU _ _ (by rw [Oy];omega),Oy,vP,XZ,show n - i=(n - (i+1))+1 by omega,nE];simp
def Wn (len n i:Nat):List Bool:=OA len i++List.replicate (n - i) false
theorem X0 (len n:Nat):Wn len n 0=List.replicate n false:=by simp [Wn,OA]
theorem ZC {len n i:Nat}(h:i<=n):(Wn len n i).length=n:=by simp [Wn,Oy];omega
theorem ZB {len n i:Nat}(h:i<n):(Wn len n i).set i (decide (i<len))=Wn len n (i+1):=ZA len i n h
theorem Uy (len n:Nat):Wn len n n=OA len n:=by simp [Wn]
def KO (vs:V2)(i:Nat):V2:=vs++List.replicate (i - vs.length) 0
theorem Pm (vs:V2)(i:Nat):KO vs (i+1)=if vs.length<=i then KO vs i++[0] else KO vs i:=by
 unfold KO;split
 .rename_i h;rw [(aD:i+1 - vs.length=(i - vs.length)+1),B5,List.append_assoc]
 .rename_i h;rw [(aD:i+1 - vs.length=0),(aD:i - vs.length=0)]
theorem T9 (vs:V2)(i:Nat):(KO vs i).length=max vs.length i:=by simp [KO];omega
theorem Xc {x:Test}{vs:V2}{n:Nat}(a:KL x n):BT x vs = !((decide (x.D=1)&&decide (dO x.right vs<dO x.left vs))||(decide (x.D=2)&&!decide (dO x.left vs=dO x.right vs))):=by
 rcases a.1 with h|h
 .unfold BT;rw [h];simp;rw [aU];simp
 .unfold BT;rw [h];simp
theorem Oe (p:Pattern)(h:Host)(m:Part)(U:SOk p h m)(vs:V2)(hl:vs.length<=p.vars.toNat)(hs:∀ v∈vs,-2000000<=v/\v<=2000000) :
  Pua 387 [p.d,h.d,m.d,dLI vs] (.tup [dLI (eZ p h m vs).1,.bool (decide ((eZ p h m vs).2=0))]):=by
 have hv:=U.vars;have h0:=PF hv.1 hl hs;have a3:KO vs 0=vs:=by simp [KO]
 have L:NM p vs=(KO vs p.vars.toNat,OA vs.length p.vars.toNat):=by unfold NM;rw [Oz _ _ hl];rfl
 refine Tz.pK ⟨λt=>t==14||t==19||t==24,λr=>match r with|15=>[(5,14),(6,14),(7,14)]|_=>[]⟩ func387 rfl (λQ W=>?_);have Y:=xa6 a3 @Pattern.d.eq_1 @Pattern.c.eq_1 @Host.d.eq_1 @Host.c.eq_1 @Part.d.eq_1 @Part.c.eq_1 @Term.c.eq_1;refine wp (h:=bA (λi e H=>(e 4=.adr p.c/\e 5=.adr h.c/\e 6=.adr m.c/\e 3=dLI vs/\e 10=.own 0 (KO vs i).length/\e 11=.own 1 p.vars.toNat/\e 12=dI i)/\(H.get 0=some ⟨3,1,(KO vs i).map cI,false⟩)/\(0<H.next)/\(H.get 1=some ⟨4,1,(Wn vs.length p.vars.toNat i).map cB,false⟩)/\(1<H.next)/\(i<=p.vars.toNat)) (λi=>p.vars.toNat - i) 0 ⟨wg,(by simp [go_sem,KO]),wn,(by simp [go_sem,X0,cB]),wn,wi⟩ λI0 a8 i e H b7=>?_);obtain ⟨E0,b3,a2,b0,Z,hi⟩:=b7;have Y:=xa4 Y E0 b3 (bS a2) b0 (bS Z);refine dR (λh4=>?_) λh4=>?_
 .have hI:=T9 vs i;have hK:=ZB (len:=vs.length) (n:=p.vars.toNat) (i:=i) aD;have b9:=ZC (len:=vs.length) (n:=p.vars.toNat) (i:=i) aD;have c0:i<(Wn vs.length p.vars.toNat i).length:=aD;have b8:((Wn vs.length p.vars.toNat i).map cB).set i [.bool (decide (i<vs.length))]=(Wn vs.length p.vars.toNat (i+1)).map cB:=by rw [<- hK,cW];rfl
  have Y:=xa3 Y h4 b9 (aA c0) b8;refine iY (λh7=>?_) λh7=>?_
  .have hVs:KO vs (i+1)=KO vs i++[0]:=by rw [Pm,if_pos aD]
   have Y:=wa Y hVs;exact wp (h:=wx a8 (i+1) ⟨wg,cl,wn,cl,wn,wj⟩)
  .have hVs:KO vs (i+1)=KO vs i:=by rw [Pm,if_neg aD]
   have Y:=wa Y hVs;exact wp (h:=wx a8 (i+1) ⟨wg,cl,wn,cl,wn,wj⟩)
 .have hin:i=p.vars.toNat:=aD;have hI:=T9 vs i;rw [hin,Nat.max_eq_right hl] at hI;have c5:Wn vs.length i i=OA vs.length i:=Uy _ _;have a7:=Uy vs.length p.vars.toNat
  have Y:=xa2 Y hin hI a7;refine wv (h:=bA (λi e H=>∃ o:V2 × List Bool,(e 4=.adr p.c/\e 5=.adr h.c/\e 6=.adr m.c/\e 3=dLI vs/\e 10=.own 0 p.vars.toNat/\e 11=.own 1 p.vars.toNat/\e 13=dI i)/\(H.get 0=some ⟨3,1,o.1.map cI,false⟩)/\(0<H.next)/\(H.get 1=some ⟨4,1,o.2.map cB,false⟩)/\(1<H.next)/\(i<=p.l.length)/\(StOk p.vars.toNat o)/\(slotsV h m (NM p vs) (p.l.take i)=some o)) (λi=>p.l.length - i) 0 ⟨((KO vs p.vars.toNat,OA vs.length p.vars.toNat)),wg,(iv hin),wn,(by simp [go_sem,Y,hin,a7]),wn,wi,(by rw [<- L];exact h0),(by rw [L];rfl)⟩ λI2 J i e H b6=>?_);obtain ⟨o,E2,b2,a1,a9,X,hi,q,P⟩:=b6;have Y:=xa4 Y E2 b2 (bS a1) a9 (bS X);refine wv (h:=?_);repeat first|intro _|refine ⟨fK,?_⟩
  refine wq (λu=>?_) λu=>?_
  .obtain ⟨x,hx⟩:=c7 (p.l[i]);have F:x∈p.l:=hx ▸ aC u;have hn:=U.node x F;have A:x.node.toNat<m.h.length:=aD;have hk:=U.b5 _ (aC A);have w:(m.h[x.node.toNat]).toNat<h.k.length:=aD;have ha:=U.J x F;rw [aA A,Option.getD_some,aA w,Option.getD_some] at ha;have G:x.J.toNat<(h.k[(m.h[x.node.toNat]).toNat]).length:=aD;have hV:haveV h m x=h.k[(m.h[x.node.toNat]).toNat][x.J.toNat]:=by unfold haveV;rw [aA A,Option.getD_some,aA w,Option.getD_some,aA G];rfl
   have hb:=U.cQ F;have M:=U.y x F;have C:=q.l1;have R:=q.l2;have c3:=M.1;have c4:=M.2;have s:=vS u P;rw [<- hx] at s;obtain ⟨z,g⟩:∃ y,y=mF h m o x:=⟨_,rfl⟩;have l:StOk p.vars.toNat z:=g ▸ AE q hb M;rw [<- g] at s;have j:¬ 0<=x.y.O->z=o:=λhn=>by rw [g];unfold mF mB;rw [if_neg (iw hn)]
   have N:0<=x.y.O->x.y.O.toNat<o.2.length:=λhn=>by omega
   obtain ⟨kb,a4⟩:=c7 (o.2[x.y.O.toNat]?.getD false);have S:0<=x.y.O\/(¬ 0<=x.y.O/\o.2[x.y.O.toNat]?=none)\/(¬ 0<=x.y.O/\o.2[x.y.O.toNat]?=some kb):=by
    by_cases O:0<=x.y.O
    .exact .inl O
    .right
     cases ho:o.2[x.y.O.toNat]? with
     | none=>exact .inl ⟨O,rfl⟩
     | some b=>rw [ho] at a4;exact .inr ⟨O,by rw [a4];rfl⟩
   rcases S with hc|hc|hc
   .have Y:=xa3 Y u (aA u) (Eq.symm hx) (xb0 (aA A) (aA w) (aA G) (Eq.symm hV) @Slot.c.eq_1 @cL.eq_1 C R @lM @cB.eq_1 hc ((aA (N hc))));refine iY (λV=>?_) λV=>?_
    .have hF:mB o x=true:=by simp only [mB,aM,decide_eq_true_eq,cZ];exact ⟨hc,by simpa [aA (N hc)] using V⟩
     unfold mF at g;rw [if_pos hF] at g;have b4:x.y.O.toNat<o.1.length:=aD;have e1:z.1.map cI=(o.1.map cI).set x.y.O.toNat (cI (haveV h m x - x.y.add)):=by rw [g,cW]
     have e2:z.2.map cB=(o.2.map cB).set x.y.O.toNat (cB true):=by rw [g,cW]
     have c2:D.R ((o.1.map cI).set x.y.O.toNat [D.int .i64 (haveV h m x - x.y.add)])=true:=by have:=sH z.1;rw [e1] at this;exact this
     have Y:=xa5 Y e1 e2 @dLI.eq_1 @cI.eq_1 (aA b4) c2;refine wp (h:=eK (kO x.y z.1 (by rw [l.l1];exact M) l.bq) wr wl rfl ?_);refine iY (λf=>?_) λf=>?_
     .have I:=fB (s.2 (by first|simpa using f|simpa [j hc.1] using f|simpa [g] using f));exact wv (h:=W _ _ (iq I))
     .have hstep:=s.1 (by first|simpa using f|simpa [j hc.1] using f|simpa [g] using f);exact wp (h:=wx J (i+1) ⟨z,wg,cl,wn,cl,wn,wj,(by exact l),(by exact hstep)⟩)
    .have hF:¬ mB o x=true:=by simp only [mB,aM,decide_eq_true_eq,cZ];rintro ⟨_,hk⟩;simp [aA (N hc)] at hk;simp [hk] at V
     unfold mF at g;rw [if_neg hF] at g;have Y:=wa Y g;refine wv (h:=eK ((by first|exact kO x.y z.1 (by rw [l.l1];exact M) l.bq|exact kO p.G[k].left o.1 (by rw [q.l1];exact hX.2.1) q.bq)) wr wl rfl ?_);refine dR (λf=>?_) λf=>?_
     .have I:=fB (s.2 (by first|simpa using f|simpa [j hc.1] using f|simpa [g] using f));exact wv (h:=W _ _ (iq I))
     .have hstep:=s.1 (by first|simpa using f|simpa [j hc.1] using f|simpa [g] using f);exact wp (h:=wx J (i+1) ⟨z,wg,cl,wn,cl,wn,wj,(by exact l),(by exact hstep)⟩)
   .have Y:=xa4 Y u (aA u) (Eq.symm hx) (aA A) (xb0 (aA w) (aA G) (Eq.symm hV) @Slot.c.eq_1 @cL.eq_1 C R @lM @cB.eq_1 hc.1 hc.2 (j hc.1));refine wp (h:=eK (kO x.y z.1 (by rw [l.l1];exact M) l.bq) wr wl rfl ?_);refine iY (λf=>?_) λf=>?_
    .have I:=fB (s.2 (by first|simpa using f|simpa [j hc.1] using f|simpa [g] using f));exact wv (h:=W _ _ (iq I))
    .have hstep:=s.1 (by first|simpa using f|simpa [j hc.1] using f|simpa [g] using f);exact wp (h:=wx J (i+1) ⟨z,wg,cl,wn,cl,wn,wj,(by exact l),(by exact hstep)⟩)
   .have Y:=xa4 Y u (aA u) (Eq.symm hx) (aA A) (xb0 (aA w) (aA G) (Eq.symm hV) @Slot.c.eq_1 @cL.eq_1 C R @lM @cB.eq_1 hc.1 hc.2 (j hc.1));refine wp (h:=eK (kO x.y z.1 (by rw [l.l1];exact M) l.bq) wr wl rfl ?_);refine iY (λf=>?_) λf=>?_
    .have I:=fB (s.2 (by first|simpa using f|simpa [j hc.1] using f|simpa [g] using f));exact wv (h:=W _ _ (iq I))
    .have hstep:=s.1 (by first|simpa using f|simpa [j hc.1] using f|simpa [g] using f);exact wp (h:=wx J (i+1) ⟨z,wg,cl,wn,cl,wn,wj,(by exact l),(by exact hstep)⟩)
  .rw [aG aD] at P;have T:=qH P;have C:=q.l1;have Y:=wa Y C;refine wv (h:=bA (λk e H=>(e 4=.adr p.c/\e 5=.adr h.c/\e 6=.adr m.c/\e 3=dLI vs/\e 10=.own 0 p.vars.toNat/\e 18=dI k)/\(H.get 0=some ⟨3,1,o.1.map cI,false⟩)/\(0<H.next)/\(k<=p.G.length)/\((p.G.take k).all (λx=>BT x o.1)=true)) (λk=>p.G.length - k) 0 ⟨wg,wn,wn,wi,(by rfl)⟩ λI4 c1 k e H b5=>?_);obtain ⟨E4,b1,a0,hk,E⟩:=b5;have Y:=xa2 Y E4 b1 (bS a0);refine wv (h:=?_);repeat first|intro _|refine ⟨fK,?_⟩
   refine wq (λB=>?_) λB=>?_
   .have hX:=U.ef _ (aC B);have a6:=Xc (vs:=o.1) hX;have Y:=xa2 Y B (aA B) @Test.c.eq_1;refine wp (h:=eK ((by first|exact kO x.y z.1 (by rw [l.l1];exact M) l.bq|exact kO p.G[k].left o.1 (by rw [q.l1];exact hX.2.1) q.bq)) wr wl rfl ?_);refine wp (h:=eK (kO p.G[k].right o.1 (by rw [q.l1];exact hX.2.2) q.bq) wr wl rfl ?_);refine iY (λK=>?_) λK=>?_
    .have hT0:BT p.G[k] o.1=false:=by
      rw [a6,Bool.not_eq_false'];rcases K with ⟨a,b⟩|⟨a,b⟩
      .simp [a,b]
      .simp [a,b]
     have I:eZ p h m vs=([],16):=by
      rw [T,if_neg];intro ha;rw [cF] at ha;have:=ha _ (aC B);rw [hT0] at this;cases this
     exact wv (h:=W _ _ (iq I))
    .have hT1:BT p.G[k] o.1=true:=by
      rw [a6];simp;exact ⟨by by_cases a5:p.G[k].D=1;exact .inr (K.1 a5);exact .inl a5,by by_cases w:p.G[k].D=2;exact .inr (K.2 w);exact .inl w⟩
     exact wp (h:=wx c1 (k+1) ⟨wg,wn,wn,wj,(by rw [List.take_succ_eq_append_getElem B,sK,E];simp;exact hT1)⟩)
   .rw [aG aD] at E;rw [if_pos E] at T;exact wv (h:=W _ _ (by simp [go_sem,Y,T,dLI]))
/-! ### extensions -/
structure MatOk (t:Types) (p:Pattern) (h:Host) (m:Mat):Prop where
 gl:MOk t p.j h.j m.m
 vl:m.vars.length=p.vars.toNat
 vs:∀ v∈m.vars,-2000000<=v/\v<=2000000
structure ExOk (t:Types) (p:Pattern) (mp:Part) (q:Pattern):Prop where
 pq:PatOk t q
 pv:p.vars<=q.vars
 p0:0<=p.vars
 mo:eR p.j q.j mp=0
theorem ExOk.b5 {t:Types}{p:Pattern}{a:Part}{q:Pattern}(h:ExOk t p a q):(a.h.length=p.j.h.length/\a.i.length=p.j.i.length)/\(∀ x∈a.h,0<=x/\x<q.j.h.length)/\(∀ x∈a.i,0<=x/\x<q.j.i.length):=by
 have:=kS h.mo;exact ⟨this.2.2,(uD h.mo).1,(uD h.mo).2⟩
theorem J5 {t:Types}{p g:Graph}{q:Part}{inj:Bool}{m:Part}(h:m∈(pA t p g q inj).1):MOk t p g m:=by
 unfold pA at h;split at h
 .cases h
 .split at h
  .cases h
  .split at h
   .cases h
   .split at h
    .cases h
    .unfold En at h;split at h
     .cases h
     .exact R9 (S:=⟨t,p,g,_,_,inj⟩) (dD h)
theorem W4 {t:Types}{q:Pattern}{h:Host}{vars:V2}{l:List Part}(hp:PatOk t q)(ho:HostOk t h)(hl:∀ x∈l,MOk t q.j h.j x)(hv:vars.length<=q.vars.toNat)(hs:∀ v∈vars,-2000000<=v/\v<=2000000):∀ m∈tI q h vars l,MatOk t q h m:=λm hm=>by
 unfold tI at hm;rw [List.mem_filterMap] at hm;obtain ⟨x,hx,he⟩:=hm;split at he
 .rename_i h0;cases he
  obtain ⟨h1,h2⟩:=Cy (Zg hp ho (hl x hx)) hv hs h0;exact ⟨hl x hx,h1,h2⟩
 .cases he
theorem UP {t:Types}{p:Pattern}{b:Part}{q:Pattern}{h:Host}{m:Mat}{inj:Bool}(a:ExOk t p b q)(e:HostOk t h)(c:MatOk t p h m):∀ x∈(At t b q h m inj).1,MatOk t q h x:=by
 unfold At;split
 .simp
 .exact W4 a.pq e (λx d=>J5 d) (by have:=c.vl;have:=a.pv;have:=a.p0;omega) c.vs
theorem Ff (t:Types)(M:t.ok)(p:Pattern)(c:Cond)(w:ExOk t p c.map c.o)(h:Host)(N:HostOk t h)(m:Mat)(A:MatOk t p h m)(inj:Bool) :
  Pua 339 [t.d,.agg c.c,h.d,m.d,.bool inj] (.tup [.list ((At t c.map c.o h m inj).1.map Mat.c),dI (At t c.map c.o h m inj).2]):=by
 obtain ⟨⟨T,S⟩,F,E⟩:=w.b5;have k:=bK w.pq.gg;have P:=A.gl.len;have O:=A.gl.ci;refine Tz.pK ⟨λt=>t==12||t==13||t==16,λr=>match r with|2=>[(0,23),(1,23),(2,23),(3,23),(4,23),(5,23),(6,23),(7,23),(8,23),(9,23),(10,23),(11,23),(12,23),(13,23),(14,23),(15,23),(16,23),(17,23),(18,23),(19,23),(20,23),(21,23)]|_=>[]⟩ func339 rfl (λQ J=>?_);obtain ⟨X,B⟩:=c7 (pA t c.o.j h.j (qR c.map c.o m.m) inj);have I:∀ x∈X.1,MOk t c.o.j h.j x:=λx L=>J5 (B ▸ L);have U:X.1.length<=5000:=B ▸ UO _ _ _ _ _;have C:m.vars.length<=c.o.vars.toNat:=by have:=A.vl;have:=w.pv;have:=w.p0;omega
 have g:At t c.map c.o h m inj=if X.2≠0 then ([],X.2) else (tI c.o h m.vars X.1,0):=by unfold At;rw [<- B]
 have Y:=xa3 @Cond.A @Host.d.eq_1 @Host.c.eq_1 @Mat.d.eq_1 @Mat.c.eq_1;refine wp (h:=aH (DF c.o.j.h.length aD c.map.h m.m.h F aD) wl ?_);refine wp (h:=aH (DF c.o.j.i.length aD c.map.i m.m.i E aD) wl ?_);refine wp (h:=aB ((by have k:=Og t M c.o.j h.j (qR c.map c.o m.m) inj;rw [<- B] at k;unfold qR Types.d Types.c Graph.d Graph.c Part.d Part.c dLI at k;exact k)) wl ?_);refine iY (λK=>?_) λK=>?_
 .rw [if_pos K] at g;exact wv (h:=J _ _ (iq g))
 .rw [if_neg aD] at g;refine wv (h:=bA (λi e H=>∃ j:List Mat,(e 5=.adr t.c/\e 6=.adr c.c/\e 7=.adr h.c/\e 8=.adr m.c/\e 4=.bool inj/\e 12=.ptr 0 1 0 0/\e 14=.list (X.1.map Part.c)/\e 16=.own 26 j.length/\e 17=dI i)/\(H.get 0=some ⟨33,5,[c.o.c],false⟩)/\(0<H.next)/\(H.get 26=some ⟨55,3,j.map Mat.c,false⟩)/\(26<H.next)/\(i<=X.1.length)/\(j=tI c.o h m.vars (X.1.take i))/\(j.length<=i)) (λi=>X.1.length - i) 0 ⟨([]),wg,wn,wn,wn,wn,wi,(by rfl),(by simp)⟩ λZ u i e H G=>?_);obtain ⟨j,V,z,s,o,l,W,f,R⟩:=G;have Y:=xa4 Y V z (bS s) o (bS l);refine iY (λq=>?_) λq=>?_
  .obtain ⟨v,D⟩:=c7 (eZ c.o h X.1[i] m.vars);obtain ⟨b,a⟩:∃ y,y=j++if v.2=0 then [(⟨X.1[i],v.1⟩:Mat)] else []:=⟨_,rfl⟩
   have Y:=xa3 Y q (aA q) @Part.c.eq_1 @Pattern.c.eq_1;refine wp (h:=aH ((by have k:=Oe c.o h X.1[i] (Zg w.pq N (I _ (aC q))) m.vars C A.vs;rw [<- D] at k;unfold Pattern.d Pattern.c Host.d Host.c Part.d Part.c dLI at k;exact k)) wl ?_);refine iY (λn=>?_) λn=>?_
   .have hm3:b=j++[⟨X.1[i],v.1⟩]:=by rw [a,if_pos (bY n)]
    have Y:=wa Y hm3;exact wp (h:=wx u (i+1) ⟨b,wg,wn,wn,wn,wn,wj,(by rw [List.take_succ_eq_append_getElem q,nY,<- f,<- D];exact a),(by rw [a];split<;>simp<;>omega)⟩)
   .have hm3:b=j:=by rw [a,if_neg (bY n),dU]
    have Y:=wa Y hm3;exact wp (h:=wx u (i+1) ⟨b,wg,wn,wn,wn,wn,wj,(by rw [List.take_succ_eq_append_getElem q,nY,<- f,<- D];exact a),(by rw [a];split<;>simp<;>omega)⟩)
  .rw [aG aD] at f;exact wv (h:=J _ _ (by simp [go_sem,Y,g,<- f]))
theorem Rd (l:List Cond):l.length<=Cond.aa l:=by
 induction l with
 | nil=>simp [Cond.aa]
 | cons a l ih=>have:=yZ a;simp only [Cond.aa,eO];omega
structure CondV (t:Types) (p:Pattern) (c:Cond):Prop where
 wf:Pi c=true
 hn:sS t p c=0
 Y:c.size<=1000000
theorem CondV.dl {t:Types}{p:Pattern}{c:Cond}(h:CondV t p c):(c.D=2\/c.D=5->c.u.length=1)/\(1<=c.D/\c.D<=5):=by
 have:=h.wf;rw [wW,aM] at this;have a:=this.1;unfold tN at a;split at a
 .omega
 .split at a
  .rw [aM,decide_eq_true_eq] at a;omega
  .split at a
   .omega
   .rw [aM,decide_eq_true_eq,decide_eq_true_eq] at a;omega
theorem CondV.ex {t:Types}{p:Pattern}{c:Cond}(h:CondV t p c)(f:c.D=5)(g:PatOk t p):ExOk t p c.map c.o/\∀ k∈c.u,CondV t c.o k:=by
 have b:=h.hn;have e:=h.wf;rw [HL,if_pos f,if_pos f] at b;rw [wW,aM,cF] at e;by_cases a:kX t p c.map c.o=0
 .rw [if_neg aD] at b;refine ⟨?_,λk d=>⟨e.2 k d,rX b k d,by have:=yZ c;have:=Dq d;have:=h.Y;omega⟩⟩;unfold kX at a;split at a
  .cases a
  .rename_i h1;split at a
   .exact absurd a ic
   .rename_i h2;split at a
    .exact absurd a ic
    .rename_i h3;rw [iM] at h2 h3;refine ⟨Jg ?_,aD,g.vars.1,h3⟩;unfold pT at h2;split at h2
     .exact .inr h2
     .rename_i h4;left;omega
 .rw [if_pos a] at b;exact absurd b a
theorem CondV.eT {t:Types}{p:Pattern}{c:Cond}(h:CondV t p c)(e:c.D≠5):∀ k∈c.u,CondV t p k:=by
 have d:=h.hn;have b:=h.wf;rw [HL,if_neg e,if_neg e,if_neg aD] at d;rw [wW,aM,cF] at b;exact λk a=>⟨b.2 k a,rX d k a,by have:=yZ c;have:=Dq a;have:=h.Y;omega⟩
theorem yL {α β:Type}(f:α->β){l:List α}{i:Nat}(h:i<l.length):(l.drop i).map f=f l[i] :: (l.drop (i+1)).map f:=by rw [fV h,i5]
theorem BE {t:Types}{h:Host}{inj:Bool}{l:List Cond}(b:0<l.length):Rm (l.map (qE t h inj))=qE t h inj l[0]:=by
 cases l with
 | nil=>cases b
 | cons a l=>rfl
theorem Dg (t:Types)(h:Host)(inj:Bool)(c:Cond)(m:Mat):∃ wc wm wk we,qE t h inj c m=(Prf.mk wc wm wk,we):=by
 cases hh:qE t h inj c m with
 | mk a b=>cases a;exact ⟨_,_,_,_,rfl⟩
theorem Qb (t:Types)(ht:t.ok)(h:Host)(ho:HostOk t h)(inj:Bool):∀ (c:Cond) (p:Pattern),CondV t p c->PatOk t p->∀ m:Mat,MatOk t p h m ->
  Pua 266 [t.d,.agg c.c,h.d,m.d,.bool inj] (.tup [.agg (qE t h inj c m).1.c,dI (qE t h inj c m).2]):=by
 refine l5 λc ih p K hp m R=>?_;obtain ⟨T,b3⟩:=K.dl;have S:c.u.length<=1000000:=by have:=Rd c.u;have:=yZ c;have:=K.Y;omega
 have b:=Dh t h inj c m;obtain ⟨W,a7⟩:=c7 (qE t h inj c m);rw [<- a7] at b ⊢;refine qP gt (λQ s=>(Tz.cK ⟨λt=>t==10||t==12||t==14||t==16||t==19||t==24,λr=>match r with|3=>[(0,12),(1,12),(2,12),(3,12),(4,12),(5,12),(6,12),(8,12)]|14=>[(0,13),(1,13),(2,13),(4,13),(5,13),(6,13),(7,13),(9,13)]|23=>[(0,13),(1,13),(2,13),(4,13),(5,13),(6,13),(7,13),(9,13)]|34=>[(0,15),(1,15),(2,15),(3,15),(4,15),(5,15),(8,15),(9,15),(11,15)]|36=>[(2,5),(3,5)]|_=>[]⟩ func266 rfl ?_));have Y:=xa4 @Cond.A @Host.d.eq_1 @Host.c.eq_1 @Mat.d.eq_1 @Mat.c.eq_1 @Prf.A;refine dR (λh2=>?_) λh2=>?_
 .have h2':c.D=2:=by simpa using h2
  have B:0<c.u.length:=by have:=T (.inl h2');omega
  obtain ⟨z,g⟩:∃ k,k=c.u[0]:=⟨_,rfl⟩;have q:z∈c.u:=g ▸ aC B;have b1:=K.eT aD z q;obtain ⟨wc,wm,wk,we,n⟩:=Dg t h inj z m;rw [if_pos h2',BE B,<- g,n] at b;unfold Zx at b;have Y:=xa2 Y (aA B) (Eq.symm g) h2';refine wp (h:=aH ((by have j:=ih z q p b1 hp m R;simp only [n,Prf.A,Cond.A] at j;unfold Types.d Types.c Host.d Host.c Mat.d Mat.c dLI dI at j;exact j)) wl ?_);refine iY (λh4=>?_) λh4=>?_
  .rw [if_pos (bY h4)] at b;refine wv (h:=?_);exact s _ _ (by simp [go_sem,Y,b,kP,jQ,Prf.A,mK,iI,eW,dLI,eQ,gQ])
  .rw [if_neg (bY h4)] at b;refine dR (λh6=>?_) λh6=>?_
   .rw [if_pos (bY h6)] at b;refine wv (h:=?_);exact s _ _ (by simp [go_sem,Y,b,kP,jQ,Prf.A,mK,iI,eW,dLI,eQ,gQ])
   .rw [if_neg (bY h6)] at b;refine wv (h:=?_);exact s _ _ (by simp [go_sem,Y,b,kP,jQ,Prf.A,mK,iI,eW,dLI,eQ,gQ])
 .have h2':c.D≠2:=by simpa using h2
  rw [if_neg h2'] at b;refine dR (λh9=>?_) λh9=>?_
  .have h9':c.D=3:=by simpa using h9
   have u:=K.eT aD;rw [if_pos h9'] at b;have Y:=wa Y h9';refine wv (h:=l9 (Ghosts.step (Ghosts.refl _) 1 0 4 299 5 _ _ (ig) rfl rfl rfl) (λi e H=>∃ J:List Prf,(e 5=.adr t.c/\e 6=.adr c.c/\e 7=.adr h.c/\e 8=.adr m.c/\e 4=.bool inj/\e 10=.ptr 0 1 0 0/\e 14=.ptr 1 1 0 0/\e 15=dI i)/\(H.get 0=some ⟨299,5,[[dI 0,.nil,.nil,.nil,.nil]],false⟩)/\(0<H.next)/\(H.get 1=some ⟨299,5,[[dI 0,.nil,.nil,.nil,.own 2 J.length]],false⟩)/\(1<H.next)/\(H.get 2=some ⟨299,5,J.map Prf.c,false⟩)/\(2<H.next)/\(i<=c.u.length)/\(O4 ((c.u.drop i).map λk=>qE t h inj k m) J=W)/\(J.length<=i)/\(c.u.length<=1000000)) (λi=>c.u.length - i) 0 ⟨([]),wg,wn,wn,wn,wn,wn,wn,wi,(by exact b.symm),aE,(by exact S)⟩ λI1 b0 i e H a5=>?_);obtain ⟨J,E1,a1,P,V,M,U,L,hi,l,b2,a2⟩:=a5;have Y:=xa6 Y E1 a1 (bS P) V (bS M) U (bS L);refine wv (h:=?_);repeat first|intro _|refine ⟨fK,?_⟩
   refine wq (λy=>?_) λy=>?_
   .obtain ⟨A,f⟩:∃ k,k=c.u[i]:=⟨_,rfl⟩;have o:A∈c.u:=f ▸ aC y;obtain ⟨wc,wm,wk,we,n⟩:=Dg t h inj A m;have a:=l;rw [yL _ y,<- f,n] at a;simp only [O4] at a;have Y:=xa2 Y y (aA y) (Eq.symm f);refine wp (h:=aH ((by have j:=ih A o p (u A o) hp m R;simp only [n,Prf.A,Cond.A] at j;unfold Types.d Types.c Host.d Host.c Mat.d Mat.c dLI dI at j;exact j)) wl ?_);refine iY (λI=>?_) λI=>?_
    .rw [if_pos (bY I)] at a;refine wv (h:=?_);exact s _ _ (by simp [go_sem,Y,<- a,kP,jQ,Prf.A,mK,iI,eW,dLI,eQ,gQ])
    .rw [if_neg (bY I)] at a;exact wp (h:=wx b0 (i+1) ⟨(J++[.mk wc wm wk]),wg,wn,wn,wn,wn,wn,wn,wj,(by exact a),ie,(by exact a2)⟩)
   .rw [kL aD] at l;simp only [j7,O4] at l;refine wv (h:=?_);exact s _ _ (by simp [go_sem,Y,<- l,kP,jQ,Prf.A,mK,iI,eW,dLI,eQ,gQ])
  .have h9':c.D≠3:=by simpa using h9
   rw [if_neg h9'] at b;refine dR (λG=>?_) λG=>?_
   .have h19':c.D=4:=by simpa using G
    have u:=K.eT aD;rw [if_pos h19'] at b;have Y:=wa Y h19';refine wv (h:=bA (λi e H=>(e 5=.adr t.c/\e 6=.adr c.c/\e 7=.adr h.c/\e 8=.adr m.c/\e 4=.bool inj/\e 10=.ptr 0 1 0 0/\e 18=dI i)/\(H.get 0=some ⟨299,5,[[dI 0,.nil,.nil,.nil,.nil]],false⟩)/\(0<H.next)/\(i<=c.u.length)/\(Zq ((c.u.drop i).map λk=>qE t h inj k m) i=W)) (λi=>c.u.length - i) 0 ⟨wg,wn,wn,wi,(by exact b.symm)⟩ λI3 a9 i e H a4=>?_);obtain ⟨E3,a0,O,hi,l⟩:=a4;have Y:=xa2 Y E3 a0 (bS O);refine wv (h:=?_);repeat first|intro _|refine ⟨fK,?_⟩
    refine wq (λw=>?_) λw=>?_
    .obtain ⟨A,f⟩:∃ k,k=c.u[i]:=⟨_,rfl⟩;have o:A∈c.u:=f ▸ aC w;obtain ⟨wc,wm,wk,we,n⟩:=Dg t h inj A m;have a:=l;rw [yL _ w,<- f,n] at a;simp only [Zq] at a;have Y:=xa2 Y w (aA w) (Eq.symm f);refine wp (h:=aH ((by have j:=ih A o p (u A o) hp m R;simp only [n,Prf.A,Cond.A] at j;unfold Types.d Types.c Host.d Host.c Mat.d Mat.c dLI dI at j;exact j)) wl ?_);refine iY (λF=>?_) λF=>?_
     .rw [if_pos (bY F)] at a;refine wv (h:=?_);exact s _ _ (by simp [go_sem,Y,<- a,kP,jQ,Prf.A,mK,iI,eW,dLI,eQ,gQ])
     .rw [if_neg (bY F)] at a;exact wp (h:=wx a9 (i+1) ⟨wg,wn,wn,wj,(by exact a)⟩)
    .rw [kL aD] at l;simp only [j7,Zq] at l;refine wv (h:=?_);exact s _ _ (by simp [go_sem,Y,<- l,kP,jQ,Prf.A,mK,iI,eW,dLI,eQ,gQ])
   .have h19':c.D≠4:=by simpa using G
    rw [if_neg h19'] at b;refine dR (λE=>?_) λE=>?_
    .have h27':c.D=5:=by simpa using E
     obtain ⟨hE,u⟩:=K.ex h27' hp;have B:0<c.u.length:=by have:=T (.inr h27');omega
     obtain ⟨z,g⟩:∃ k,k=c.u[0]:=⟨_,rfl⟩;have q:z∈c.u:=g ▸ aC B;obtain ⟨X,hX⟩:=c7 (At t c.map c.o h m inj);have a6:∀ x∈X.1,MatOk t c.o h x:=hX ▸ UP hE ho R;rw [if_pos h27',BE B,<- g,<- hX] at b;have Y:=xa2 Y (aA B) (Eq.symm g) h27';refine wv (h:=aB ((by have j:=Ff t ht p c hE h ho m R inj;rw [<- hX,Cond.A,h27'] at j;unfold Types.d Types.c Host.d Host.c Mat.d Mat.c dLI dI at j;exact j)) wl ?_);refine dR (λD=>?_) λD=>?_
     .rw [if_pos (bY D)] at b;refine wv (h:=?_);exact s _ _ (by simp [go_sem,Y,b,kP,jQ,Prf.A,mK,iI,eW,dLI,eQ,gQ])
     .rw [if_neg (bY D)] at b;refine wv (h:=bA (λi e H=>(e 5=.adr t.c/\e 6=.adr c.c/\e 7=.adr h.c/\e 8=.adr m.c/\e 4=.bool inj/\e 10=.ptr 0 1 0 0/\e 21=.list (X.1.map Mat.c)/\e 23=dI i)/\(H.get 0=some ⟨299,5,[[dI 0,.nil,.nil,.nil,.nil]],false⟩)/\(0<H.next)/\(i<=X.1.length)/\(ZM ((X.1.drop i).map λx=>(x,qE t h inj z x))=W)) (λi=>X.1.length - i) 0 ⟨wg,wn,wn,wi,(by exact b.symm)⟩ λI5 a8 i e H a3=>?_);obtain ⟨E5,Z,N,hi,l⟩:=a3;have Y:=xa2 Y E5 Z (bS N);refine wv (h:=?_);repeat first|intro _|refine ⟨fK,?_⟩
      refine wq (λv=>?_) λv=>?_
      .obtain ⟨wc,wm,wk,we,n⟩:=Dg t h inj z X.1[i];have a:=l;rw [yL _ v,n] at a;simp only [ZM] at a;have Y:=xa1 Y v (aA v);refine wp (h:=aH ((by have j:=ih z q c.o (u z q) hE.pq X.1[i] (a6 _ (aC v));simp only [n,Prf.A,Cond.A] at j;unfold Types.d Types.c Host.d Host.c Mat.d Mat.c dLI dI at j;exact j)) wl ?_);refine iY (λC=>?_) λC=>?_
       .rw [if_pos (bY C)] at a;refine wp (h:=?_);exact s _ _ (by simp [go_sem,Y,<- a,kP,jQ,Prf.A,mK,iI,eW,dLI,eQ,gQ])
       .rw [if_neg (bY C)] at a;exact wp (h:=wx a8 (i+1) ⟨wg,wn,wn,wj,(by exact a)⟩)
      .rw [kL aD] at l;simp only [j7,ZM] at l;refine wv (h:=?_);exact s _ _ (by simp [go_sem,Y,<- l,kP,jQ,Prf.A,mK,iI,eW,dLI,eQ,gQ])
    .have h27':c.D≠5:=by simpa using E
     rw [if_neg h27'] at b;refine wv (h:=?_);exact s _ _ (by simp [go_sem,Y,b,kP,jQ,Prf.A,mK,iI,eW,dLI,eQ,gQ])
theorem Qe (t:Types)(j:t.ok)(h:Host)(l:HostOk t h)(inj:Bool)(c:Cond)(p:Pattern)(o:CondV t p c)(k:PatOk t p)(m:Mat)(n:MatOk t p h m) :
  Pua 173 [t.d,.agg c.c,h.d,m.d,.bool inj] (.tup [.bool (mJ t h inj c m).1,dI (mJ t h inj c m).2]):=by
 have a:=Qb t j h l inj c p o k m n;rw [Cond.A] at a;obtain ⟨s,q,r,e,g⟩:=Dg t h inj c m;have b:mJ t h inj c m=if e=10 then (false,0) else (decide (e=0),e):=by unfold mJ ND;rw [g]
 simp only [g,Prf.A] at a;refine Tz.pK ⟨λt=>t==12,λ_=>[]⟩ func173 rfl (λQ i=>?_);have Y:=xa4 @Cond.A @Host.d.eq_1 @Host.c.eq_1 @Mat.d.eq_1 @Mat.c.eq_1 @Prf.A;refine wv (h:=aB ((by have a:=a;unfold Types.d Types.c Host.d Host.c Mat.d Mat.c dLI dI at a;exact a)) wl ?_);refine dR (λf=>?_) λf=>?_
 .rw [if_pos (bY f)] at b;exact wv (h:=i _ _ (iq b))
 .rw [if_neg (bY f)] at b;exact wv (h:=i _ _ (by simp [go_sem,b,Ea]))
structure RuleV (t:Types) (r:Rule):Prop where
 vf:(dG t).2=0
 pl:PatOk t r.left
 gr:graphF r.right.j=0
 tr:fZ t r.right.j=true
 sub:subF r.left.j r.q=0
 mo:eR (cJ r.left.j r.q) r.right.j r.s=0
 inj:BW (cJ r.left.j r.q) r.right.j r.s=true
 hk:pX t r.right.j r.N r.ad=true
 vars:r.right.vars=r.left.vars
 cf:r.right.l.length<=10
 gR:∀ s∈r.right.l,g5 t r.right s=0
 cond:CondV t r.left r.cond
 kl:r.q.h.length<=1000000/\r.q.i.length<=1000000
theorem IB {t:Types}{r:Rule}(a:r.ok)(h:ruleF t r=0):RuleV t r:=by
 unfold ruleF at h;split at h
 .rename_i h1;exact absurd h h1
 .rename_i h1;split at h
  .cases h
  .split at h
   .rename_i h3;exact absurd h h3
   .rename_i h3;split at h
    .rename_i h4;exact absurd h h4
    .rename_i h4;split at h
     .rename_i h5;exact absurd h h5
     .rename_i h5;split at h
      .cases h
      .rename_i h6;rw [iM] at h1 h3 h4 h5;have c:=Bv h4;unfold iV at h4;rw [if_neg aD,if_neg (by simp [c.2])] at h4;split at h4
       .cases h4
       .rename_i h7;split at h4
        .cases h4
        .rename_i h8;have b:subF r.left.j r.q=0/\eR (cJ r.left.j r.q) r.right.j r.s=0/\BW (cJ r.left.j r.q) r.right.j r.s=true:=by
          unfold keptF at h5;split at h5
          .rename_i q;exact absurd h5 q
          .rename_i q;split at h5
           .rename_i q2;exact absurd h5 q2
           .rename_i q2;split at h5
            .cases h5
            .rename_i q3;exact ⟨aD,aD,by simpa using q3⟩
         unfold condF at h;rw [if_neg aD] at h;split at h
         .rename_i q;exact absurd h q
         .rename_i h9;refine ⟨h1,Jg (.inr h3),c.1,c.2,b.1,b.2.1,b.2.2,by simpa using h6,aD,aD,λs d=>?_,⟨?_,h,a.size⟩,a.k1,a.k2⟩
          .obtain ⟨i,e,rfl⟩:=aO d;have:=eU _ _ h4 i (eL _) aD;rw [Bt e] at this;split at this
           .cases this
           .rename_i q;exact iM.1 q
          .rw [iM] at h9;unfold uS at h9;split at h9
           .cases h9
           .rename_i q;simpa using q
theorem RuleV.q {t:Types}{r:Rule}(h:RuleV t r):(r.q.h.length=r.s.h.length/\r.q.i.length=r.s.i.length)/\(∀ x∈r.q.h,0<=x/\x<r.left.j.h.length)/\(∀ x∈r.q.i,0<=x/\x<r.left.j.i.length) /\
  (∀ x∈r.s.h,0<=x/\x<r.right.j.h.length)/\∀ x∈r.s.i,0<=x/\x<r.right.j.i.length:=by
 obtain ⟨i,g,d,c⟩:=nQ h.sub;obtain ⟨_,_,f,e⟩:=kS h.mo;obtain ⟨b,a⟩:=uD h.mo;have k:(cJ r.left.j r.q).h.length=r.q.h.length:=by unfold cJ;rw [if_pos h.sub];simp
 have j:(cJ r.left.j r.q).i.length=r.q.i.length:=by unfold cJ;rw [if_pos h.sub];simp
 exact ⟨⟨aD,aD⟩,d,c,b,a⟩
theorem RuleV.l {t:Types}{r:Rule}(h:RuleV t r):∀ s∈r.right.l,(0<=s.node/\s.node<r.right.j.h.length)/\(0<=s.J/\s.J<(bL t (r.right.j.h[s.node.toNat]?.getD 0)).length)/\rH s.y r.left.vars.toNat:=λs hs=>by
 have:=h.gR s hs;have hv:=h.pl.vars;have he:=h.vars;unfold g5 at this;split at this
 .rename_i h1;simp only [aM,mT,decide_eq_true_eq,inF,Pattern.D] at h1;exact ⟨h1.1.1.1,⟨h1.1.1.2.1,of_decide_eq_true h1.1.1.2.2⟩,⟨aD,aD⟩,aD,aD⟩
 .cases this
theorem Gf (t:Types)(b:t.ok)(r:Rule)(f:r.ok)(h:Host):Pua 90 [t.d,r.d,h.d] (dI (fW t r h)):=by
 refine Tz.p0 func90 rfl λQ e _=>?_;have Y:=wa @Host.d.eq_1 @Host.c.eq_1;refine wv (h:=aB (AL t b r f) wl ?_);refine dR (λa=>?_) λa=>?_
 .exact wv (h:=e _ _ (by simp [go_sem,fW,a]))
 .refine wv (h:=aB (jO t b h) wl ?_);exact wv (h:=e _ _ (by simp [go_sem,fW,a,fG]))
theorem r9 (l:V2)(k:Nat)(v:Int):g6 l (k+1) v=if l[k]?.getD (-1)=v then (k:Int) else g6 l k v:=by unfold g6;rw [fA]
theorem ED (l:V2)(v:Int):∀ n,-1<=g6 l n v/\g6 l n v<n
 | 0=>by simp [g6]
 | n+1=>by
  have:=ED l v n;rw [r9];split<;>omega
theorem Kz (l:V2)(v:Nat):mS l (v+1)=mS l v++[g6 l l.length v]:=by simp [mS,bR]
theorem mR (l:V2)(v:Nat):(mS l v).length=v:=by simp [mS]
theorem p9 (l:V2){n i:Nat}(h:i<n):(mS l n)[i]?=some (g6 l l.length i):=by simp [mS,h]
theorem IX (l:V2)(n:Nat)(E:n<=1000000):Pua 176 [dLI l,dI n] (dLI (mS l n)):=by
 refine Tz.pK ⟨λt=>t==5,λ_=>[]⟩ func176 rfl (λQ x=>?_);have Y:=trivial;refine wv (h:=bA (λv e H=>(e 0=dLI l/\e 1=dI n/\e 5=.own 0 v/\e 6=dI v)/\(H.get 0=some ⟨3,1,(mS l v).map cI,false⟩)/\(0<H.next)/\(v<=n)) (λv=>n - v) 0 ⟨wg,(by simp [go_sem,mS]),wn,wi⟩ λI r v e H q=>?_);obtain ⟨C,m,f,D⟩:=q;have Y:=xa2 Y C m (bS f);refine dR (λu=>?_) λu=>?_
 .have hbl:=mR l v;have Y:=wa Y u;refine wp (h:=bA (λk e H=>∃ B:V2,(e 0=dLI l/\e 1=dI n/\e 5=.own 0 (v+1)/\e 6=dI v/\e 7=dI k)/\(H.get 0=some ⟨3,1,B.map cI,false⟩)/\(0<H.next)/\(k<=l.length)/\(B=mS l v++[g6 l k v])/\(B.length=v+1)) (λk=>l.length - k) 0 ⟨(mS l v++[-1]),wg,(by simp [go_sem,Y,cI]),wn,wi,(by rfl),(iw hbl)⟩ λG g k e H p=>?_);obtain ⟨B,A,j,d,F,s,b⟩:=p;have Y:=xa3 Y A j (bS d) b;refine wv (h:=?_);repeat first|intro _|refine ⟨fK,?_⟩
  refine wq (λi=>?_) λi=>?_
  .have hvB:v<B.length:=aD;have Y:=xa2 Y i (aA i) (aA hvB);refine iY (λz=>?_) λz=>?_
   .obtain ⟨o,a⟩:∃ y,y=B.set v (k:Int):=⟨_,rfl⟩;have w:o.map cI=(B.map cI).set v (cI k):=by rw [a,cW]
    have c:B.set v (k:Int)=mS l v++[g6 l (k+1) v]:=by
     rw [r9,aA i,Option.getD_some,if_pos aD,s,nU _ _ aD,hbl,vP];rfl
    have Y:=xa1 Y w @cI.eq_1;exact wp (h:=wx g (k+1) ⟨o,wg,cl,wn,wj,(by rw [a];exact c),(by rw [a];simp [b])⟩)
   .obtain ⟨o,a⟩:∃ y,y=B:=⟨_,rfl⟩;have c:B=mS l v++[g6 l (k+1) v]:=by
     rw [r9,aA i,Option.getD_some,if_neg aD];exact s
    have Y:=wa Y a;exact wp (h:=wx g (k+1) ⟨o,wg,cl,wn,wj,(by rw [a];exact c),(by rw [a];simp [b])⟩)
  .have hBe:B.map cI=(mS l v).map cI++[cI (g6 l l.length v)]:=by rw [s,(aD:k=l.length)];simp
   exact wp (h:=wx r (v+1) ⟨wg,(by simp [go_sem,Y,Kz,hBe]),wn,wj⟩)
 .have hve:v=n:=aD;exact wv (h:=x _ _ (by simp [go_sem,Y,hve,dLI,mR]))
theorem DD (l:V2)(n:Nat)(a:n<=1000000):Pua 175 [dI n,dLI l] (dLI (mS l n)):=by
 refine Tz.p0 func175 rfl λQ b Y=>?_;refine wv (h:=aB (IX l n a) wl ?_);exact wv (h:=b _ _ wy)
theorem Ll (t:Types)(b:t.ok)(h:Host)(p:Part)(f:p.h.length<=1000000)(a:p.i.length<=1000000)(e:h.j.h.length<=1000000)(g:h.j.i.length<=1000000) :
  Pua 94 [t.d,h.d,p.d] (.tup [(YY t h p).d,Part.d ⟨mS p.h h.j.h.length,mS p.i h.j.i.length⟩]):=by
 refine Tz.pK ⟨λt=>t==6||t==7||t==8,λ_=>[]⟩ func94 rfl (λQ i=>?_);have Y:=xa2 @Host.d.eq_1 @Host.c.eq_1 @Part.d.eq_1 @Part.c.eq_1;refine wv (h:=aB (Lt t b h p f a) wl ?_);refine wp (h:=aH (DD p.h h.j.h.length e) wl ?_);refine wp (h:=aH (DD p.i h.j.i.length g) wl ?_);exact wp (h:=i _ _ wy)
theorem Ch (l:V2)(n:Int):Pua 177 [dLI l,dI n] (.bool (!mem l n)):=by
 refine Tz.p0 func177 rfl λQ m Y=>?_;refine wv (h:=bA (λi e H=>(e 0=dLI l/\e 1=dI n/\e 5=dI i)/\(i<=l.length)/\(∀ j,j<i->∀ b:j<l.length,l[j]≠n)) (λi=>l.length - i) 0 ⟨wg,wi,(by intro j b;omega)⟩ λs g i e H f=>?_);obtain ⟨q,r,o⟩:=f;have Y:=wa Y q;refine wv (h:=?_);repeat first|intro _|refine ⟨iS,?_⟩
 refine wq (λc=>?_) λc=>?_
 .have Y:=xa1 Y c (aA c);refine eP (λk=>?_) λk=>?_
  .have a:mem l n=true:=(mem_iff _ _).2 (k ▸ aC c);exact wv (h:=m _ _ (iq a))
  .exact wo (h:=wx g (i+1) ⟨wg,wj,(by intro j b d;rcases bX j i with hji|hji;exact o j hji d;(obtain rfl:j=i:=aD;exact k))⟩)
 .have a:mem l n=false:=by
   rw [bJ];intro a;obtain ⟨j,b,p⟩:=aO ((mem_iff _ _).1 a);exact o j aD b p
  exact wv (h:=m _ _ (iq a))
theorem AK (a b:V2)(s:a.length<=1000000)(p:∀ x∈a,0<=x/\x<b.length):Pua 95 [dLI a,dLI b] (dLI (qF a b)):=by
 refine Tz.pK ⟨λt=>t==5,λ_=>[]⟩ func95 rfl (λQ q=>?_);have Y:=trivial;refine wv (h:=bA (λi e H=>(e 0=dLI a/\e 1=dLI b/\e 5=.own 0 i/\e 6=dI i)/\(H.get 0=some ⟨3,1,(qF (a.take i) b).map cI,false⟩)/\(0<H.next)/\(i<=a.length)) (λi=>a.length - i) 0 ⟨wg,(by simp [go_sem,qF]),wn,wi⟩ λu m i e H k=>?_);obtain ⟨r,c,f,o⟩:=k;have Y:=xa2 Y r c (bS f);refine iY (λg=>?_) λg=>?_
 .have hx:=p _ (aC g);have n:a[i].toNat<b.length:=aD;have l:qF (a.take (i+1)) b=qF (a.take i) b++[b[a[i].toNat]]:=by unfold qF;rw [List.take_succ_eq_append_getElem g,List.map_append];simp [aA n]
  have d:(qF (a.take i) b).length=i:=by simp [qF];omega
  have Y:=xa3 Y g (aA g) (aA n) d;exact wp (h:=wx m (i+1) ⟨wg,(by simp [go_sem,Y,l,cI]),wn,wj⟩)
 .rw [aG aD] at c;have j:i=a.length:=aD;have d:(qF a b).length=a.length:=by simp [qF]
  exact wv (h:=q _ _ (by simp [go_sem,Y,j,d,dLI]))
theorem MD (a:V2)(i:Nat):CI a (i+1)=CI a i+if g6 a a.length i<0 then 1 else 0:=by
 unfold CI;rw [bR,fN,aI];congr 1;simp only [List.filter_cons,List.filter_nil];split<;>simp_all
theorem MC (into:V2):CI into 0=0:=rfl
theorem Uv (a:V2)(i:Nat):CI a i<=i:=by
 unfold CI;exact dZ (jM _ _) aE
theorem RI (keep b at_:V2)(i a:Nat):ER keep b at_ (i+1) a=ER keep b at_ i a++[Kl keep b at_ a i]:=by simp [ER,bR]
theorem Ci (keep a at_:V2)(b c:Nat)(B:a.length<=keep.length)(u:∀ x∈keep,0<=x/\x<at_.length)(s:b<=1000000)(A:c<=1000000) :
  Pua 96 [dLI keep,dLI a,dI b,dLI at_,dI c] (dLI (ER keep a at_ b c)):=by
 refine Tz.pK ⟨λt=>t==12,λ_=>[]⟩ func96 rfl (λQ w=>?_);have Y:=@MC;refine wv (h:=aB (IX a b s) wl ?_);refine wv (h:=bA (λi e H=>(e 0=dLI keep/\e 1=dLI a/\e 2=dI b/\e 3=dLI at_/\e 4=dI ((c+CI a i:Nat):Int)/\e 11=dLI (mS a b)/\e 12=.own 0 i/\e 13=dI i)/\(H.get 0=some ⟨3,1,(ER keep a at_ i c).map cI,false⟩)/\(0<H.next)/\(i<=b)) (λi=>b - i) 0 ⟨wg,(by simp [go_sem,ER]),wn,wi⟩ λF g i e H k=>?_);obtain ⟨z,j,f,D⟩:=k;have Y:=xa2 Y z j (bS f);refine dR (λr=>?_) λr=>?_
 .have hg:=p9 a (n:=b) (i:=i) aD;have E:=ED a i a.length;have o:=mR a b;have d:=MD a i;have v:=Uv a i;have m:(ER keep a at_ i c).length=i:=by simp [ER]
  have l:(mS a b)[i]' aD=g6 a a.length i:=by simp [mS]
  have Y:=xa4 Y r hg l o m;refine iY (λy=>?_) λy=>?_
  .have hb2:(g6 a a.length i).toNat<keep.length:=aD;have C:=u _ (aC hb2);have q:keep[(g6 a a.length i).toNat].toNat<at_.length:=aD;have p:Kl keep a at_ c i=at_[keep[(g6 a a.length i).toNat].toNat]:=by unfold Kl;rw [if_pos aD,aA hb2,Option.getD_some,aA q];rfl
   rw [if_neg aD] at d;have Y:=xa2 Y (aA hb2) (aA q) d;exact wp (h:=wx g (i+1) ⟨wg,(by simp [go_sem,Y,RI,p,cI]),wn,wj⟩)
  .have p:Kl keep a at_ c i=((c+CI a i:Nat):Int):=by unfold Kl;rw [if_neg aD]
   rw [if_pos aD] at d;have Y:=wa Y d;exact wp (h:=wx g (i+1) ⟨wg,(by simp [go_sem,Y,RI,p,cI]),wn,wj⟩)
 .have hie:i=b:=aD;exact wv (h:=w _ _ (by simp [go_sem,Y,hie,dLI];simp [ER]))
theorem I7 (a b:V2):Pua 63 [dLI a,dLI b] (.bool (decide (a=b))):=by
 refine Tz.p0 func63 rfl λQ g Y=>?_;refine eP (λm=>?_) λm=>?_
 .refine wv (h:=?_);have c:a≠b:=by intro h;subst h;omega
  exact g _ _ (iq c)
 .refine wv (h:=bA (λi e H=>(e 0=dLI a/\e 1=dLI b/\e 5=dI i)/\(i<=a.length)/\(a.take i=b.take i)) (λi=>a.length - i) 0 ⟨wg,wi,(by rfl)⟩ λp j i e H d=>?_);obtain ⟨n,o,f⟩:=d;have Y:=wa Y n;refine wv (h:=?_);repeat first|intro _|refine ⟨iS,?_⟩
  refine wq (λl=>?_) λl=>?_
  .have hib:i<b.length:=aD;have Y:=xa1 Y l hib;refine eP (λk=>?_) λk=>?_
   .refine wv (h:=?_);have c:a≠b:=by intro h;subst h;exact k rfl
    exact g _ _ (iq c)
   .exact wo (h:=wx j (i+1) ⟨wg,wj,(by rw [List.take_succ_eq_append_getElem l,List.take_succ_eq_append_getElem hib,f,k])⟩)
  .rw [aG aD,aG aD] at f;exact wv (h:=g _ _ (iq f))
def xV (t:Types)(r:Rule)(h:Host)(m:Mat):Part:=if o7 t r h m=0 then bZ r h m else ⟨[],[]⟩
theorem TS {t:Types}{p g:Graph}{m:Part}{inj:Bool}(h:checkE t p g m inj=0):checkE t p g m false=0:=by
 unfold checkE at h ⊢;split at h
 .exact absurd h ic
 .rename_i h1;rw [if_neg h1];unfold matchE at h ⊢;split at h
  .cases h
  .rename_i h2;rw [if_neg h2];split at h
   .exact absurd h ic
   .rename_i h3;rw [if_neg h3];split at h
    .exact absurd h ic
    .rename_i h4;rw [if_neg h4,if_neg aE]
theorem L9 {t:Types}{p:Pattern}{h:Host}{m:Part}(a:(eG t p h m).2=0):PatOk t p/\HostOk t h/\checkE t p.j h.j m false=0/\eG t p h m=eZ p h m []:=by
 unfold eG at a ⊢;split at a
 .exact absurd a ic
 .rename_i h1;split at a
  .exact absurd a ic
  .rename_i h2;split at a
   .exact absurd a ic
   .rename_i h3;rw [iM] at h1 h2 h3;rw [if_neg aD,if_neg aD,if_neg aD];exact ⟨Jg (.inr h1),lK h2,h3,rfl⟩
theorem IK (t:Types)(q:t.ok)(r:Rule)(l:RuleV t r)(h:Host)(u:HostOk t h)(m:Mat) :
  Pua 93 [t.d,r.d,h.d,m.d] (.tup [(xV t r h m).d,dI (lC t r h m)]):=by
 refine Tz.pK ⟨λt=>t==8||t==12||t==13,λ_=>[]⟩ func93 rfl (λQ n=>?_);have Y:=xa2 @Host.d.eq_1 @Host.c.eq_1 @Mat.d.eq_1 @Mat.c.eq_1;refine wv (h:=aB (AN t q r.left.j h.j m.m r.inj) wl ?_);refine dR (λy=>?_) λy=>?_
 .have i:o7 t r h m=1:=by unfold o7;rw [if_pos (bY y)]
  have k:lC t r h m=1:=by unfold lC;rw [if_pos aD,i]
  have b:xV t r h m=⟨[],[]⟩:=by unfold xV;rw [if_neg aD]
  exact wv (h:=n _ _ (by simp [go_sem,k,b,Part.d,Part.c,dLI]))
 .have hc:checkE t r.left.j h.j m.m r.inj=0:=by simpa using y
  refine wv (h:=aB (Qf t q r.left h m.m) wl ?_);refine dR (λs=>?_) λs=>?_
  .have i:o7 t r h m=(eG t r.left h m.m).2:=by unfold o7;rw [if_neg aD,if_pos s]
   have k:lC t r h m=(eG t r.left h m.m).2:=by unfold lC;rw [if_pos aD,i]
   have b:xV t r h m=⟨[],[]⟩:=by unfold xV;rw [if_neg aD]
   exact wv (h:=n _ _ (by simp [go_sem,k,b,Part.d,Part.c,dLI]))
  .obtain ⟨A,z,g,f⟩:=L9 (bY s);have e:=rW (oS hc).2;refine wp (h:=aB (I7 (eG t r.left h m.m).1 m.vars) wl ?_);refine iY (λw=>?_) λw=>?_
   .have h6':(eG t r.left h m.m).1≠m.vars:=by simpa using w
    have i:o7 t r h m=11:=by unfold o7;rw [if_neg aD,if_neg aD,if_pos h6']
    have k:lC t r h m=11:=by unfold lC;rw [if_pos aD,i]
    have b:xV t r h m=⟨[],[]⟩:=by unfold xV;rw [if_neg aD]
    exact wv (h:=n _ _ (by simp [go_sem,k,b,Part.d,Part.c,dLI]))
   .have h6':(eG t r.left h m.m).1=m.vars:=by simpa using w
    have v:BV t r.left.j h.j m.m=lD r.left.j h.j m.m:=by unfold BV;rw [if_pos g]
    have i:o7 t r h m=oZ (lD r.left.j h.j m.m) h.j r.q m.m:=by unfold o7;rw [if_neg aD,if_neg aD,if_neg (by rw [h6'];simp)]
    have J:=l.q;have H:=bK l.pl.gg;have I:=bK u.gg;have E:=e.len;have F:=e.ci;have G:=l.kl.1;have p:MatOk t r.left h m:=by
     rw [f] at h6';have o:(eZ r.left h m.m []).2=0:=by rw [<- f];simpa using s
     obtain ⟨C,B⟩:=Cy (Zg l.pl u e) (vs:=[]) aE aE o;rw [h6'] at C B;exact ⟨e,C,B⟩
    have Y:=xa1 Y v g;refine wv (h:=aB (IQ t q r.left.j h.j m.m) wl ?_);refine wv (h:=aB (Xw (lD r.left.j h.j m.m) h.j r.q m.m aD aD aD aD aD) wl ?_);refine dR (λx=>?_) λx=>?_
    .have k:lC t r h m=oZ (lD r.left.j h.j m.m) h.j r.q m.m:=by unfold lC;rw [if_pos aD,i]
     have b:xV t r h m=⟨[],[]⟩:=by unfold xV;rw [if_neg aD]
     exact wv (h:=n _ _ (by simp [go_sem,k,b,Part.d,Part.c,dLI]))
    .have b:xV t r h m=bZ r h m:=by unfold xV;rw [if_pos aD]
     have j:lC t r h m=if (mJ t h r.inj r.cond m).2≠0 then (mJ t h r.inj r.cond m).2 else if (mJ t h r.inj r.cond m).1=false then 16 else 0:=by unfold lC;rw [if_neg aD]
     refine wv (h:=aB ((by have D:=Qe t q h u r.inj r.cond r.left l.cond l.pl m p;rwa [Cond.A] at D)) wl ?_);refine iY (λa=>?_) λa=>?_
     .rw [if_neg (by rw [a.1];simp),if_pos a.2] at j;exact wv (h:=n _ _ (by simp [go_sem,Y,j,b,bZ]))
     .have hE2:lC t r h m=(mJ t h r.inj r.cond m).2:=by
       rw [j];split
       .rfl
       .rename_i o;rw [iM] at o;simp [o] at a;simp [o,a]
      exact wv (h:=n _ _ (by simp [go_sem,Y,hE2,b,bZ]))
theorem qS (l:V2)(i:Nat):bH l (i+1)=bH l i++if mem l i=true then [] else [(i:Int)]:=by
 unfold bH;rw [bR,fN,List.map_append];congr 1;simp only [List.filter_cons,List.filter_nil];split<;>simp_all
def HM (t:Types)(r:Rule)(x:Host)(i:Nat):Host :=
 ⟨⟨x.j.h++(bH r.s.h i).map (gN r.right.j),x.j.i⟩,x.k++(bH r.s.h i).map (λk=>iP t (gN r.right.j k))⟩
def Tv (t:Types)(r:Rule)(c:Part)(x:Host)(i:Nat):Host:=⟨⟨x.j.h,x.j.i++(bH r.s.i i).map (λk=>freshE c (r.right.j.i[k.toNat]?.getD cH))⟩,x.k⟩
theorem Ge (t:Types)(ht:t.ok)(r:Rule)(hR:RuleV t r)(u:Host)(c:Part)(hc:c.h.length=r.right.j.h.length)(hs:u.j.h.length<=1000/\u.j.i.length<=1000/\u.k.length<=1000)
  (G:AHeap) (lo a b V:Nat) (f:List Nat) (q:HH G lo a b V f u) (Q:D->AHeap->Prop)
  (hQ:∀ ns H',(∀ j∈ns,G.next<=j)->HH H' lo a b V (f++ns) (j9 t r c u)->(∀ j,j<G.next->j∉a :: b :: V :: f->H'.get j=G.get j)->G.next<=H'.next->Q (.agg [.own a (j9 t r c u).j.h.length,.own b (j9 t r c u).j.i.length,.own V (j9 t r c u).k.length]) H') :
  ACalls prog 97 [t.d,r.d,.agg [.own a u.j.h.length,.own b u.j.i.length,.own V u.k.length],c.d] G Q:=by
 have e6:=bK hR.gr;have d3:=dY hR.gr;have e9:=q.W a q.bs;have e7:=q.W b q.br;have f0:=q.W V q.bN;have e8:=q.ab;have v:∀ j,j∉a :: b :: V :: f->j≠a/\j≠b/\j≠V:=λj hj=>by simp only [aW,not_or] at hj;exact ⟨hj.1,hj.2.1,hj.2.2.1⟩
 refine (Tz.cK ⟨λt=>t==6||t==8||t==9||t==13||t==16||t==1000001,λr=>match r with|6=>[(0,8),(1,8),(2,8)]|19=>[(0,18),(1,18),(2,18)]|_=>[]⟩ func97 rfl ?_);have Y:=wa @Part.d.eq_1 @Part.c.eq_1;refine wv (h:=bA (λi e H=>∃ X:Nat,∃ R:Nat,∃ m:Nat,∃ x:Host,∃ ns:List Nat,(e 4=.adr t.c/\e 5=.adr r.c/\e 7=.adr c.c/\e 6=.ptr X 1 0 0/\e 8=.ptr R 1 0 0/\e 9=.ptr m 1 0 0/\e 10=dI i)/\(H.get X=some ⟨44,3,[[.own a x.j.h.length,.own b x.j.i.length,.own V x.k.length]],false⟩)/\(X<H.next)/\(H.get R=some ⟨44,3,[[.nil,.nil,.nil]],false⟩)/\(R<H.next)/\(H.get m=some ⟨29,2,[[dLI r.right.j.h,.list (r.right.j.i.map Edge.c)]],false⟩)/\(m<H.next)/\(i<=r.right.j.h.length)/\(HH H lo a b V (f++ns) x)/\(x=HM t r u i)/\(∀ j∈a :: b :: V :: (f++ns),j≠X/\j≠R/\j≠m)/\(∀ j∈ns,G.next<=j)/\(G.next<=X/\X<R/\R<m)/\(∀ j,j<G.next->j∉a :: b :: V :: f->H.get j=G.get j)/\(G.next<=H.next)) (λi=>r.right.j.h.length - i) 0 ⟨G.next,(G.next+1),(G.next+2),u,([]),wg,wn,wn,wn,wn,wn,wn,wi,(by rw [dU];refine q.same ib (λj hj=>by have:=(q.W j hj).2;simp [go_sem,bS this])),(by simp [HM,bH]),(by intro j hj;rw [dU] at hj;have:=(q.W j hj).2;omega),(by intro j hj;cases hj),aD,(by intro j hj _;simp [go_sem,bS hj]),ib⟩ λI0 c2 i e H d1=>?_);obtain ⟨X,R,m,x,ns,E0,gX_0,nX_0,gR_0,nR_0,gYb_0,nYb_0,hi,B,hx,A,I,b9,hG,a3⟩:=d1;have d9:=xa2 (dJ (aD:m≠R)) (dJ (aD:m≠X)) (dJ (aD:m≠V)) (xb0 (dJ (aD:m≠b)) (dJ (aD:m≠a)) (dJ (aD:R≠X)) (dJ (aD:R≠V)) (dJ (aD:R≠b)) (dJ (aD:R≠a)) (dJ (aD:X≠V)) (dJ (aD:X≠b)) (dJ (aD:X≠a)) (dJ (aD:V≠b)) (dJ (aD:V≠a)) (dJ (aD:b≠a)));have Y:=xa7 Y E0 gX_0 (bS nX_0) gR_0 (bS nR_0) gYb_0 (bS nYb_0) d9;refine iY (λh3=>?_) λh3=>?_
 .have hsu:=qS r.s.h i;obtain ⟨nd,b0⟩:∃ y,y=r.right.j.h[i]:=⟨_,rfl⟩;have d2:gN r.right.j (i:Int)=nd:=by rw [b0];simp [gN,aA h3]
  have c9:=mY r.s.h i;have c5:x.j.h.length<=2000/\x.k.length<=2000/\x.j.i.length<=2000:=by rw [hx];simp [HM];omega
  have Y:=xa2 Y h3 (aA h3) (Eq.symm b0);refine wp (h:=aB (Ch r.s.h i) wl ?_);refine iY (λh5=>?_) λh5=>?_
  .have hm:mem r.s.h i=true:=by simpa using h5
   rw [if_pos hm,dU] at hsu;obtain ⟨s,l⟩:∃ y,y=x:=⟨_,rfl⟩;obtain ⟨C,n⟩:∃ y,y=ns:=⟨_,rfl⟩;have E:s=HM t r u (i+1):=by rw [l,hx];unfold HM;rw [hsu]
   have K:HH H lo a b V (f++C) s:=by rw [l,n];exact B
   have N:∀ j∈a :: b :: V :: (f++C),j≠X/\j≠R/\j≠m:=by rw [n];exact A
   have O:=hG;have Y:=wa Y l;exact wp (h:=wx c2 (i+1) ⟨X,R,m,s,C,wg,wn,wn,wn,wn,wn,wn,wj,(by first|exact K|(rw [n,<- List.append_assoc,l];exact w.dj ge aD U ge (iv o) (iv o) (λj hj=>by obtain ⟨S,P⟩:=M j hj;simp [go_sem,S,P]))),(by exact E),(by exact N),(by rw [n];first|exact I|(intro j hj;rw [aZ,bD] at hj;rcases hj with hj|rfl;exact I j hj;exact a1.2)),(by exact b9),(by first|exact O|(intro j hj g;obtain ⟨ja,jb,jV⟩:=v j g;simp [go_sem,jV,(aD:j≠X)];exact a5 j hj g)),(by first|exact a3|(simp [go_sem];omega))⟩)
  .have hm:¬ mem r.s.h i=true:=by simpa using h5
   rw [if_neg hm] at hsu;have b4:=B.ga;have b6:=B.gV;have c6:=kH B.len;have e2:=B.W a B.bs;have e3:=B.W V B.bN;have c8:=B.W b B.br;have e0:(bL t nd).length<=8:=pV hR.vf nd;have d6:=xa1 (bS (aD:a<H.next)) (bS (aD:b<H.next)) (bS (aD:V<H.next));have b7:∀ j∈b :: V :: (f++ns),j≠a/\j≠X/\j<H.next:=λj hj=>by
    have J:j∈a :: b :: V :: (f++ns):=dX _ hj;refine ⟨?_,(A j J).1,(B.W j J).2⟩;rintro rfl;have:=B.nd;rw [iX] at this;exact this.1 hj
   have Y:=xa4 Y h5 b4 b6 c6 d6;refine wp (h:=aH (lQ t ht nd) wl ?_);refine wp (h:=bA (λk e H=>∃ W:Nat,(e 4=.adr t.c/\e 5=.adr r.c/\e 7=.adr c.c/\e 6=.ptr X 1 0 0/\e 8=.ptr R 1 0 0/\e 9=.ptr m 1 0 0/\e 10=dI i/\e 11=.list ((bL t nd).map Attr.c)/\e 13=.own W k/\e 14=dI k)/\(H.get X=some ⟨44,3,[[.own a (x.j.h.length+1),.own b x.j.i.length,.own V x.k.length]],false⟩)/\(X<H.next)/\(H.get R=some ⟨44,3,[[.nil,.nil,.nil]],false⟩)/\(R<H.next)/\(H.get m=some ⟨29,2,[[dLI r.right.j.h,.list (r.right.j.i.map Edge.c)]],false⟩)/\(m<H.next)/\(H.get W=some ⟨3,1,(((bL t nd).take k).map λa=>a.ao).map cI,false⟩)/\(W<H.next)/\(k<=(bL t nd).length)/\(HH H lo a b V (f++ns) ⟨⟨x.j.h++[nd],x.j.i⟩,x.k⟩)/\(∀ j∈a :: b :: V :: (f++ns),j≠W)/\((lo<=W/\m<W)/\G.next<=W)/\(∀ j,j<G.next->j∉a :: b :: V :: f->H.get j=G.get j)/\(G.next<=H.next)) (λk=>(bL t nd).length - k) 0 ⟨(H.next+13+12),wg,wn,wn,wn,wn,wn,wn,eq,wn,wi,(by exact B.h ge (by simp [go_sem,Y,cI]) (λj hj=>by obtain ⟨S,P,k3⟩:=b7 j hj;simp [go_sem,S,P,bS k3])),(by intro j hj;have:=(B.W j hj).2;omega),(by omega),(by intro j hj g;obtain ⟨ja,jb,jV⟩:=v j g;simp [go_sem,ja,(aD:j≠X),bS (aD:j<H.next)];exact hG j hj g),ib⟩ λI2 d4 k e H d0=>?_);obtain ⟨W,E2,gX_2,nX_2,gR_2,nR_2,gYb_2,nYb_2,gW_2,nW_2,hk,w,U,a1,a5,e5⟩:=d0;have d8:=xa8 (dJ (aD:W≠m)) (dJ (aD:W≠R)) (dJ (aD:W≠X)) (dJ (aD:W≠V)) (dJ (aD:W≠b)) (dJ (aD:W≠a)) (dJ (aD:m≠R)) (dJ (aD:m≠X)) (dJ (aD:m≠V)) (xb0 (dJ (aD:m≠b)) (dJ (aD:m≠a)) (dJ (aD:R≠X)) (dJ (aD:R≠V)) (dJ (aD:R≠b)) (dJ (aD:R≠a)) (dJ (aD:X≠V)) (dJ (aD:X≠b)) (dJ (aD:X≠a)) (dJ (aD:V≠b)) (dJ (aD:V≠a)) (dJ (aD:b≠a)));have Y:=xa9 Y E2 gX_2 (bS nX_2) gR_2 (bS nR_2) gYb_2 (bS nYb_2) gW_2 (bS nW_2) d8;refine iY (λa0=>?_) λa0=>?_
   .have hst:((bL t nd).take (k+1)).map (λa=>a.ao)=((bL t nd).take k).map (λa=>a.ao)++[(bL t nd)[k].ao]:=by rw [List.take_succ_eq_append_getElem a0,List.map_append];rfl
    have Y:=xa2 Y a0 (aA a0) @Attr.c.eq_1;exact wp (h:=wx d4 (k+1) ⟨W,wg,wn,wn,wn,wn,wn,wn,(by simp [go_sem,Y,hst,cI]),wn,wj,(by exact w.same eq (λj hj=>by have:=U j hj;simp [go_sem,this])),(by exact U),aD,(by intro j hj g;simp [go_sem,(aD:j≠W)];exact a5 j hj g),ib⟩)
   .have hke:k=(bL t nd).length:=aD;have b5:=w.gV;rw [aG aD] at gW_2;obtain ⟨s,l⟩:∃ y:Host,y=⟨⟨x.j.h++[nd],x.j.i⟩,x.k++[iP t nd]⟩:=⟨_,rfl⟩;obtain ⟨C,n⟩:∃ y,y=ns++[W]:=⟨_,rfl⟩;have E:s=HM t r u (i+1):=by rw [l,hx];unfold HM;rw [hsu];simp [d2]
    have N:∀ j∈a :: b :: V :: (f++C),j≠X/\j≠R/\j≠m:=λj hj=>by
     have e:a :: b :: V :: (f++C)=(a :: b :: V :: (f++ns))++[W]:=by rw [n];simp
     rw [e,aZ,bD] at hj;rcases hj with hj|rfl
     .exact A j hj
     .omega
    have a2:s.j.h.length=x.j.h.length+1/\s.j.i.length=x.j.i.length/\s.k.length=x.k.length+1:=by rw [l];simp
    have M:∀ j∈a :: b :: (f++ns),j≠V/\j≠X:=λj hj=>by
     simp only [aW] at hj;rcases hj with rfl|rfl|hj
     .exact ⟨aD,(A _ w.bs).1⟩
     .exact ⟨aD,(A _ w.br).1⟩
     .exact ⟨(w.qn hj).2.2,(A _ (w.bm hj)).1⟩
    have o:iP t nd=(bL t nd).map λa=>a.ao:=rfl;have Y:=xa2 Y b5 a2 hke;exact wp (h:=wx c2 (i+1) ⟨X,R,m,s,C,wg,wn,wn,wn,wn,wn,wn,wj,(by first|exact K|(rw [n,<- List.append_assoc,l];exact w.dj ge aD U ge (iv o) (iv o) (λj hj=>by obtain ⟨S,P⟩:=M j hj;simp [go_sem,S,P]))),(by exact E),(by exact N),(by rw [n];first|exact I|(intro j hj;rw [aZ,bD] at hj;rcases hj with hj|rfl;exact I j hj;exact a1.2)),(by exact b9),(by first|exact O|(intro j hj g;obtain ⟨ja,jb,jV⟩:=v j g;simp [go_sem,jV,(aD:j≠X)];exact a5 j hj g)),(by first|exact a3|(simp [go_sem];omega))⟩)
 .have hie:i=r.right.j.h.length:=aD;have b3:=B.gb;have c9:=mY r.s.h i;have c5:x.j.i.length<=1000:=by rw [hx];exact hs.2.1
  have Y:=wa Y b3;refine wv (h:=bA (λi e H=>∃ x:Host,(e 4=.adr t.c/\e 5=.adr r.c/\e 7=.adr c.c/\e 6=.ptr X 1 0 0/\e 8=.ptr R 1 0 0/\e 9=.ptr m 1 0 0/\e 15=dI i)/\(H.get X=some ⟨44,3,[[.own a x.j.h.length,.own b x.j.i.length,.own V x.k.length]],false⟩)/\(X<H.next)/\(H.get R=some ⟨44,3,[[.nil,.nil,.nil]],false⟩)/\(R<H.next)/\(H.get m=some ⟨29,2,[[dLI r.right.j.h,.list (r.right.j.i.map Edge.c)]],false⟩)/\(m<H.next)/\(i<=r.right.j.i.length)/\(HH H lo a b V (f++ns) x)/\(x=Tv t r c (HM t r u r.right.j.h.length) i)/\(∀ j,j<G.next->j∉a :: b :: V :: f->H.get j=G.get j)/\(G.next<=H.next)) (λi=>r.right.j.i.length - i) 0 ⟨x,wg,wn,wn,wn,wn,wn,wn,wi,(by exact B),(by rw [hx,hie];simp [Tv,bH]),(by exact hG),(by exact a3)⟩ λI4 c1 i e H b1=>?_);obtain ⟨x,E4,gX_4,nX_4,gR_4,nR_4,gYb_4,nYb_4,b1,p,T,Z,a4⟩:=b1;have d7:=xa2 (dJ (aD:m≠R)) (dJ (aD:m≠X)) (dJ (aD:m≠V)) (xb0 (dJ (aD:m≠b)) (dJ (aD:m≠a)) (dJ (aD:R≠X)) (dJ (aD:R≠V)) (dJ (aD:R≠b)) (dJ (aD:R≠a)) (dJ (aD:X≠V)) (dJ (aD:X≠b)) (dJ (aD:X≠a)) (dJ (aD:V≠b)) (dJ (aD:V≠a)) (dJ (aD:b≠a)));have Y:=xa7 Y E4 gX_4 (bS nX_4) gR_4 (bS nR_4) gYb_4 (bS nYb_4) d7;refine iY (λF=>?_) λF=>?_
  .have hsu:=qS r.s.i i;obtain ⟨y,hy⟩:=c7 (r.right.j.i[i]);have c4:r.right.j.i[(i:Int).toNat]?.getD cH=y:=by rw [hy];simp [aA F]
   have a9:r.right.j.i[i]?.getD cH=y:=by rw [hy,aA F];rfl
   have c3:=(d3.2 _ (aC F)).2;rw [<- hy] at c3;have a8:y.w.toNat<c.h.length:=aD;have a7:y.M.toNat<c.h.length:=aD;have e4:=mY r.s.i i;have e1:x.j.i.length<=2000:=by rw [T];simp [Tv,HM];omega
   have b2:=p.gb;have c8:=p.W b p.br;have d5:=bS (aD:b<H.next);have Y:=xa7 Y F (aA F) (Eq.symm hy) (aA a8) (aA a7) b2 @Edge.c.eq_1 d5;refine wv (h:=aB (Ch r.s.i i) wl ?_);refine dR (λa6=>?_) λa6=>?_
   .have hm:¬ mem r.s.i i=true:=by simpa using a6
    rw [if_neg hm] at hsu;have b8:freshE c y=⟨y.type,c.h[y.w.toNat],c.h[y.M.toNat]⟩:=by unfold freshE;rw [aA a8,aA a7];rfl
    obtain ⟨s,l⟩:∃ z:Host,z=⟨⟨x.j.h,x.j.i++[freshE c y]⟩,x.k⟩:=⟨_,rfl⟩;have E:s=Tv t r c (HM t r u r.right.j.h.length) (i+1):=by rw [l,T];unfold Tv;rw [hsu];simp [c4,a9]
    have a2:s.j.h.length=x.j.h.length/\s.j.i.length=x.j.i.length+1/\s.k.length=x.k.length:=by rw [l];simp
    have L:∀ j∈a :: V :: (f++ns),j≠b/\j≠X/\j<H.next:=λj hj=>by
     have J:j∈a :: b :: V :: (f++ns):=by simp only [aW] at hj ⊢;rcases hj with h|h|h<;>simp [h]
     refine ⟨?_,(A j J).1,(p.W j J).2⟩;rintro rfl;have:=p.nd;simp only [iX,aW,not_or] at this;simp only [aW] at hj;rcases hj with h|h|h
     .exact this.1.1 h.symm
     .exact this.2.1.1 h
     .exact this.2.1.2 h
    have Y:=wa Y a2;exact wp (h:=wx c1 (i+1) ⟨s,wg,wn,wn,wn,wn,wn,wn,wj,(by first|exact K|(rw [l];exact p.i ge (by simp [go_sem,Y,b8,Edge.c]) (λj hj=>by obtain ⟨S,P,k3⟩:=L j hj;simp [go_sem,S,P,bS k3]))),(by exact E),(by first|exact O|(intro j hj g;obtain ⟨ja,jb,jV⟩:=v j g;simp [go_sem,jb,(aD:j≠X),bS (aD:j<H.next)];exact Z j hj g)),(by first|exact a4|(simp [go_sem];omega))⟩)
   .have hm:mem r.s.i i=true:=by simpa using a6
    rw [if_pos hm,dU] at hsu;obtain ⟨s,l⟩:∃ z,z=x:=⟨_,rfl⟩;have E:s=Tv t r c (HM t r u r.right.j.h.length) (i+1):=by rw [l,T];unfold Tv;rw [hsu]
    have K:HH H lo a b V (f++ns) s:=by rw [l];exact p
    have O:=Z;have Y:=wa Y l;exact wp (h:=wx c1 (i+1) ⟨s,wg,wn,wn,wn,wn,wn,wn,wj,(by first|exact K|(rw [l];exact p.i ge (by simp [go_sem,Y,b8,Edge.c]) (λj hj=>by obtain ⟨S,P,k3⟩:=L j hj;simp [go_sem,S,P,bS k3]))),(by exact E),(by first|exact O|(intro j hj g;obtain ⟨ja,jb,jV⟩:=v j g;simp [go_sem,jb,(aD:j≠X),bS (aD:j<H.next)];exact Z j hj g)),(by first|exact a4|(simp [go_sem];omega))⟩)
  .have hie4:i=r.right.j.i.length:=aD;have c0:x=j9 t r c u:=by rw [T,hie4];rfl
   rw [c0] at p;have Y:=wa Y c0;refine wv (h:=?_);exact hQ ns _ I (p.same eq (λj hj=>by simp [go_sem,(A j hj).2.1])) (λj hj g=>by simp [go_sem,(aD:j≠R)];exact Z j hj g) (by simp [go_sem];exact a4)
end Go.Abs
end
