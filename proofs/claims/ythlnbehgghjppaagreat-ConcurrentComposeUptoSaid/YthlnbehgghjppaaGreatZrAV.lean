/- Conditions of the program: placed, values, extensions. · Con -/
import Derived.Test.YthlnbehgghjppaaGreatZrAG
import Derived.Test.YthlnbehgghjppaaGreatZrAA
import Derived.Test.YthlnbehgghjppaaGreatZrAU
import Derived.Test.YthlnbehgghjppaaGreatZrAT
set_option linter.unusedVariables false
set_option linter.unusedSimpArgs false
section
set_option maxRecDepth 100000
set_option maxHeartbeats 4000000
open Go Go.Proofs Tryz
namespace Go.Abs
def scnC (t:Types)(h:Host)(inj:Bool):Xa2:=[.list (t.h.map NodeTy.c),.list (t.i.map EdgeTy.c),dLI h.j.h,.list (h.j.i.map Edge.c),.list (h.k.map cL),.bool inj]
def Um (n i:Nat):List Bool:=List.replicate i true++List.replicate (n - i) false
theorem Wg {n i:Nat}(h:i<=n):(Um n i).length=n:=by simp [Um];omega
theorem Wf {n i:Nat}(h:i<n):(Um n i).set i true=Um n (i+1):=by
 unfold Um;rw [nO _ _ eG,fA,Aa,show n - i=(n - (i+1))+1 by omega,p5,wU,List.replicate_succ',List.append_assoc];rfl
theorem xZ (n:Nat)(m:n<=1000)(at_ a:Xa0)(p:∀ x∈at_,0<=x/\x<n)(u:at_.length<=a.length):Pua 405 [dI n,dLI at_,dLI a] (dLI (AC n at_ a)):=by
 refine Tz.pK ⟨λt=>t==12,λ_=>[]⟩ func405 rfl (λQ o=>?_);have Y:=trivial;refine wv (h:=i5 (Hr (-1) n m) wl ?_);refine wv (h:=?_);repeat first|intro _|refine ⟨gX,?_⟩
 refine bC (λk e H=>(e 0=dI n/\e 1=dLI at_/\e 2=dLI a/\e 7=.own 0 n/\e 13=dLI at_/\e 14=dI at_.length/\e 15=dI k)/\(H.get 0=some ⟨3,1,(OH at_ a n k).map cI,false⟩)/\(0<H.next)/\(k<=at_.length)/\((OH at_ a n k).length=n)) (λk=>at_.length - k) 0 ⟨wg,(by simp [go_sem,Y,OH,cI]),wn,wi,(by exact Dg _ _ _ _)⟩ λv l k e H b=>?_;obtain ⟨q,f,c,r,g⟩:=b;have Y:=xa3 Y q f (bP c) g;refine c8 (λd=>?_) λd=>?_
 .have hki:k<a.length:=bZ;have s:=p _ (aC d);have j:at_[k]?.getD 0=at_[k]:=by rw [aA d];rfl
  have b:a[k]?.getD 0=a[k]:=by rw [aA hki];rfl
  have i:at_[k].toNat<(OH at_ a n k).length:=bZ;have Y:=xa3 Y d (aA d) (aA hki) (aA i);refine wv (h:=?_);repeat first|intro _|refine ⟨gX,?_⟩
  exact wx l (k+1) ⟨wg,(by simp [go_sem,Y,HQ,bJ,j,b,cI]),wn,wj,(by exact Dg _ _ _ _)⟩
 .have hP:AC n at_ a=OH at_ a n k:=by unfold AC OH;rw [(bZ:k=at_.length)]
  exact wv (h:=o _ _ (by simp [go_sem,Y,hP,dLI]))
theorem Me (t:Types)(C:Bool)(p:Pattern)(h:Host)(m:Part)(U:SOk p h m)(vs:Xa0)(hl:vs.length<=p.vars.toNat)(hs:∀ v∈vs,-2000000<=v/\v<=2000000) :
  Pua 407 [.agg (scnC t h C),p.d,m.d,dLI vs] (.tup [dLI (fK p h m vs).1,.bool (decide ((fK p h m vs).2=0))]):=by
 have hv:=U.vars;have h0:=NN hv.1 hl hs;have J:L3 p vs=(Ji vs p.vars.toNat,MH vs.length p.vars.toNat):=by unfold L3;rw [MG _ _ hl];rfl
 have a4:(p.vars - (vs.length:Int)).toNat=p.vars.toNat - vs.length:=bZ;have a3:vs.length+(p.vars.toNat - vs.length)=p.vars.toNat:=bZ;have b0:(vs.map cI++List.replicate (p.vars.toNat - vs.length) [D.int .i64 0])=(Ji vs p.vars.toNat).map cI:=by simp [Ji,cI]
 refine HN (by first|rfl|(simp [go_sem];done)) (λQ hQ=>ACalls.b1 1 (Tz.cK ⟨λt=>t==22||t==11||t==14||t==20,λr=>match r with|1=>[(1,2),(1,3),(1,5)]|_=>[]⟩ func407 rfl ?_));have Y:=xa6 a4 a3 @Pattern.d.eq_1 @Pattern.c.eq_1 @scnC.eq_1 @Part.d.eq_1 @Part.c.eq_1 @Term.c.eq_1;refine wv (h:=?_);repeat first|intro _|refine ⟨gX,?_⟩
 refine pV 0 (fS vs bZ) (by first|rfl|(simp [go_sem];done)) rfl (by first|omega|simp [go_sem]) (by simp [j8,mV,v8,rW]) (by first|trivial|(simp [go_sem];done)|simp [go_sem,BH]) ?_;refine wv (h:=?_);repeat first|intro _|refine ⟨gX,?_⟩
 refine bC (λi e H=>(e 4=.adr (scnC t h C)/\e 5=.adr p.c/\e 6=.adr m.c/\e 3=dLI vs/\e 10=.own 0 p.vars.toNat/\e 11=.own 10 p.vars.toNat/\e 33=dI vs.length/\e 34=dI i)/\(H.get 0=some ⟨3,1,(Ji vs p.vars.toNat).map cI,false⟩)/\(0<H.next)/\(H.get 10=some ⟨4,1,(Um p.vars.toNat i).map cB,false⟩)/\(10<H.next)/\(i<=vs.length)) (λi=>vs.length - i) 0 ⟨wg,(by simp [go_sem,Y,b0]),wn,(by simp [go_sem,Um,cB]),wn,wi⟩ λI0 c0 i e H b3=>?_;obtain ⟨E0,a8,a2,Z,M,hi⟩:=b3;have Y:=xa4 Y E0 a8 (bP a2) Z (bP M);refine c8 (λh4=>?_) λh4=>?_
 .have hTl:=Wg (n:=p.vars.toNat) (i:=i) bZ;have b5:i<(Um p.vars.toNat i).length:=bZ;have b4:((Um p.vars.toNat i).map cB).set i [.bool true]=(Um p.vars.toNat (i+1)).map cB:=by rw [<- Wf bZ,bJ];rfl
  have Y:=xa3 Y h4 hTl (aA b5) b4;refine wv (h:=?_);repeat first|intro _|refine ⟨gX,?_⟩
  exact wx c0 (i+1) ⟨wg,wn,wn,(by simp [go_sem,Y]),wn,wj⟩
 .have hie:i=vs.length:=bZ;have b8:Um p.vars.toNat i=MH vs.length p.vars.toNat:=by rw [hie,MG _ _ hl];rfl
  have Y:=wa Y b8;refine wv (h:=?_);repeat first|intro _|refine ⟨gX,?_⟩
  refine bC (λi e H=>∃ l:Xa0 × List Bool,(e 4=.adr (scnC t h C)/\e 5=.adr p.c/\e 6=.adr m.c/\e 3=dLI vs/\e 10=.own 0 p.vars.toNat/\e 11=.own 10 p.vars.toNat/\e 42=.list (p.q.map Slot.c)/\e 43=dI p.q.length/\e 44=dI i)/\(H.get 0=some ⟨3,1,l.1.map cI,false⟩)/\(0<H.next)/\(H.get 10=some ⟨4,1,l.2.map cB,false⟩)/\(10<H.next)/\(i<=p.q.length)/\(StOk p.vars.toNat l)/\(j6 h m (L3 p vs) (p.q.take i)=some l)) (λi=>p.q.length - i) 0 ⟨((Ji vs p.vars.toNat,MH vs.length p.vars.toNat)),wg,(by simp [go_sem,Y]),wn,(by simp [go_sem,Y]),wn,wi,(by rw [<- J];exact h0),(by rw [J];rfl)⟩ λI2 G i e H b2=>?_;obtain ⟨l,E2,a7,a1,X,L,hi,s,O⟩:=b2;have Y:=xa4 Y E2 a7 (bP a1) X (bP L);refine c8 (λI=>?_) λI=>?_
  .obtain ⟨x,hx⟩:=fH (p.q[i]);have E:x∈p.q:=hx ▸ aC I;have hn:=U.node x E;have u:x.node.toNat<m.h.length:=bZ;have hk:=U.bx _ (aC u);have A:(m.h[x.node.toNat]).toNat<h.k.length:=bZ;have ha:=U.P x E;rw [aA u,aD,aA A,aD] at ha;have F:x.P.toNat<(h.k[(m.h[x.node.toNat]).toNat]).length:=bZ;have hV:mH h m x=h.k[(m.h[x.node.toNat]).toNat][x.P.toNat]:=by unfold mH;rw [aA u,aD,aA A,aD,aA F];rfl
   have hb:=U.cf E;have S:=U.C x E;have z:=s.l1;have P:=s.l2;have c2:=S.1;have c3:=S.2;have o:=u9 I O;rw [<- hx] at o;obtain ⟨q,f⟩:∃ y,y=mY h m l x:=⟨_,rfl⟩;have j:StOk p.vars.toNat q:=f ▸ Aj s hb S;rw [<- f] at o;have g:¬ 0<=x.C.R->q=l:=λhn=>by rw [f];unfold mY lS;rw [if_neg (by simp [hn])]
   have K:0<=x.C.R->x.C.R.toNat<l.2.length:=λhn=>by omega
   obtain ⟨kb,a5⟩:=fH (l.2[x.C.R.toNat]?.getD false);have R:0<=x.C.R\/(¬ 0<=x.C.R/\l.2[x.C.R.toNat]?=none)\/(¬ 0<=x.C.R/\l.2[x.C.R.toNat]?=some kb):=by
    by_cases N:0<=x.C.R
    .exact .inl N
    .right
     cases ho:l.2[x.C.R.toNat]? with
     | none=>exact .inl ⟨N,rfl⟩
     | some b=>rw [ho] at a5;exact .inr ⟨N,by rw [a5];rfl⟩
   rcases R with hc|hc|hc
   .have Y:=xa3 Y I (aA I) (Eq.symm hx) (xb0 (aA u) (aA A) (aA F) (Eq.symm hV) @Slot.c.eq_1 @cL.eq_1 z P @lF @cB.eq_1 hc ((aA (K hc))));refine wv (h:=?_);repeat first|intro _|refine ⟨gX,?_⟩
    refine wq (λW=>?_) λW=>?_
    .have hF:lS l x=true:=by simp only [lS,aL,decide_eq_true_eq,b7];exact ⟨hc,by simpa [aA (K hc)] using W⟩
     unfold mY at f;rw [if_pos hF] at f;have a9:x.C.R.toNat<l.1.length:=bZ;have e1:q.1.map cI=(l.1.map cI).set x.C.R.toNat (cI (mH h m x - x.C.add)):=by rw [f,bJ]
     have e2:q.2.map cB=(l.2.map cB).set x.C.R.toNat (cB true):=by rw [f,bJ]
     have c1:D.V ((l.1.map cI).set x.C.R.toNat [D.int .i64 (mH h m x - x.C.add)])=true:=by have:=mO q.1;rw [e1] at this;exact this
     have Y:=xa5 Y e1 e2 @dLI.eq_1 @cI.eq_1 (aA a9) c1;refine wv (h:=?_);repeat first|intro _|refine ⟨gX,?_⟩
     refine d8 (oA x.C q.1 (by rw [j.l1];exact S) j.ba) wr wl rfl ?_;refine wv (h:=?_);repeat first|intro _|refine ⟨gX,?_⟩
     refine wq (λa=>?_) λa=>?_
     .have hR:=eO (o.2 (by first|simpa using a|simpa [g hc.1] using a|simpa [f] using a));exact wv (h:=hQ _ _ (by simp [go_sem,hR]))
     .have hstep:=o.1 (by first|simpa using a|simpa [g hc.1] using a|simpa [f] using a);refine wv (h:=?_);repeat first|intro _|refine ⟨gX,?_⟩
      exact wx G (i+1) ⟨q,wg,(by simp [go_sem,Y]),wn,(by simp [go_sem,Y]),wn,wj,(by exact j),(by exact hstep)⟩
    .have hF:¬ lS l x=true:=by simp only [lS,aL,decide_eq_true_eq,b7];rintro ⟨_,hk⟩;simp [aA (K hc)] at hk;simp [hk] at W
     unfold mY at f;rw [if_neg hF] at f;have Y:=wa Y f;refine wv (h:=d8 (oA x.C q.1 (by rw [j.l1];exact S) j.ba) wr wl rfl ?_);refine wv (h:=?_);repeat first|intro _|refine ⟨gX,?_⟩
     refine wq (λa=>?_) λa=>?_
     .have hR:=eO (o.2 (by first|simpa using a|simpa [g hc.1] using a|simpa [f] using a));exact wv (h:=hQ _ _ (by simp [go_sem,hR]))
     .have hstep:=o.1 (by first|simpa using a|simpa [g hc.1] using a|simpa [f] using a);refine wv (h:=?_);repeat first|intro _|refine ⟨gX,?_⟩
      exact wx G (i+1) ⟨q,wg,(by simp [go_sem,Y]),wn,(by simp [go_sem,Y]),wn,wj,(by exact j),(by exact hstep)⟩
   .have Y:=xa4 Y I (aA I) (Eq.symm hx) (aA u) (xb0 (aA A) (aA F) (Eq.symm hV) @Slot.c.eq_1 @cL.eq_1 z P @lF @cB.eq_1 hc.1 hc.2 (g hc.1));refine wv (h:=?_);repeat first|intro _|refine ⟨gX,?_⟩
    refine d8 (oA x.C q.1 (by rw [j.l1];exact S) j.ba) wr wl rfl ?_;refine wv (h:=?_);repeat first|intro _|refine ⟨gX,?_⟩
    refine wq (λa=>?_) λa=>?_
    .have hR:=eO (o.2 (by first|simpa using a|simpa [g hc.1] using a|simpa [f] using a));exact wv (h:=hQ _ _ (by simp [go_sem,hR]))
    .have hstep:=o.1 (by first|simpa using a|simpa [g hc.1] using a|simpa [f] using a);refine wv (h:=?_);repeat first|intro _|refine ⟨gX,?_⟩
     exact wx G (i+1) ⟨q,wg,(by simp [go_sem,Y]),wn,(by simp [go_sem,Y]),wn,wj,(by exact j),(by exact hstep)⟩
   .have Y:=xa4 Y I (aA I) (Eq.symm hx) (aA u) (xb0 (aA A) (aA F) (Eq.symm hV) @Slot.c.eq_1 @cL.eq_1 z P @lF @cB.eq_1 hc.1 hc.2 (g hc.1));refine wv (h:=?_);repeat first|intro _|refine ⟨gX,?_⟩
    refine d8 (oA x.C q.1 (by rw [j.l1];exact S) j.ba) wr wl rfl ?_;refine wv (h:=?_);repeat first|intro _|refine ⟨gX,?_⟩
    refine wq (λa=>?_) λa=>?_
    .have hR:=eO (o.2 (by first|simpa using a|simpa [g hc.1] using a|simpa [f] using a));exact wv (h:=hQ _ _ (by simp [go_sem,hR]))
    .have hstep:=o.1 (by first|simpa using a|simpa [g hc.1] using a|simpa [f] using a);refine wv (h:=?_);repeat first|intro _|refine ⟨gX,?_⟩
     exact wx G (i+1) ⟨q,wg,(by simp [go_sem,Y]),wn,(by simp [go_sem,Y]),wn,wj,(by exact j),(by exact hstep)⟩
  .rw [aH bZ] at O;have T:=qC O;have z:=s.l1;have Y:=wa Y z;refine wv (h:=?_);repeat first|intro _|refine ⟨gX,?_⟩
   refine bC (λk e H=>(e 4=.adr (scnC t h C)/\e 5=.adr p.c/\e 6=.adr m.c/\e 3=dLI vs/\e 10=.own 0 p.vars.toNat/\e 102=.list (p.I.map Test.c)/\e 103=dI p.I.length/\e 104=dI k)/\(H.get 0=some ⟨3,1,l.1.map cI,false⟩)/\(0<H.next)/\(k<=p.I.length)/\((p.I.take k).all (λx=>By x l.1)=true)) (λk=>p.I.length - k) 0 ⟨wg,wn,wn,wi,(by rfl)⟩ λI4 b9 k e H b1=>?_;obtain ⟨E4,a6,a0,hk,B⟩:=b1;have Y:=xa2 Y E4 a6 (bP a0);refine c8 (λw=>?_) λw=>?_
   .have hX:=U.test _ (aC w);have Y:=xa2 Y w (aA w) @Test.c.eq_1;refine wv (h:=?_);repeat first|intro _|refine ⟨gX,?_⟩
    refine d8 (xY p.I[k] l.1 (by rw [s.l1];exact hX) s.ba) wr wl rfl ?_;refine wv (h:=?_);repeat first|intro _|refine ⟨gX,?_⟩
    refine wq (λV=>?_) λV=>?_
    .have hR:fK p h m vs=([],16):=by
      rw [T,if_neg];intro ha;rw [b6] at ha;have:=ha _ (aC w);simp [this] at V
     exact wv (h:=hQ _ _ (by simp [go_sem,hR]))
    .refine wv (h:=?_);repeat first|intro _|refine ⟨gX,?_⟩
     exact wx b9 (k+1) ⟨wg,wn,wn,wj,(by rw [aF w,oY,B];simp;simpa using V)⟩
   .rw [aH bZ] at B;rw [if_pos B] at T;exact wv (h:=hQ _ _ (by simp [go_sem,Y,T,dLI]))
theorem Es (t:Types)(L:t.ok)(p:Pattern)(c:Cond)(w:ExOk t p c.map c.n)(h:Host)(M:HostOk t h)(m:Mat)(z:MatOk t p h m)(b:Bool) :
  Pua 395 [.agg (scnC t h b),.agg c.c,m.d] (.tup [.list ((z7 t c.map c.n h m b).1.map Mat.c),dI (z7 t c.map c.n h m b).2]):=by
 obtain ⟨⟨S,R⟩,E,D⟩:=w.bx;have l:=aY w.pq.gg;have O:=z.ej.len;have N:=z.ej.bz;refine Tz.pK ⟨λt=>t==8||t==9||t==12||t==14,λr=>match r with|2=>[(0,21),(1,21),(2,21),(3,21),(4,21),(5,21),(6,21),(7,21),(8,21),(9,21),(10,21),(11,21),(12,21),(13,21),(14,21),(15,21),(16,21),(17,21),(18,21),(19,21)]|_=>[]⟩ func395 rfl (λQ I=>?_);obtain ⟨X,A⟩:=fH (oV t c.n.j h.j (qI c.map c.n m.m) b);have G:∀ x∈X.1,MOk t c.n.j h.j x:=λx K=>IA (A ▸ K);have T:X.1.length<=5000:=A ▸ Ss _ _ _ _ _;have B:m.vars.length<=c.n.vars.toNat:=by have:=z.vl;have:=w.pv;have:=w.p0;omega
 have j:z7 t c.map c.n h m b=if X.2≠0 then ([],X.2) else (BL c.n h m.vars X.1,0):=by unfold z7;rw [<- A]
 have Y:=xa2 @Cond.E @scnC.eq_1 @Mat.d.eq_1 @Mat.c.eq_1;refine wp (h:=aI (xZ c.n.j.h.length bZ c.map.h m.m.h E bZ) wl ?_);refine wp (h:=aI (xZ c.n.j.i.length bZ c.map.i m.m.i D bZ) wl ?_);refine wp (h:=aB ((by have l:=Jy t L c.n.j h.j (qI c.map c.n m.m) b;rw [<- A] at l;unfold qI Types.d Types.c Graph.d Graph.c Part.d Part.c dLI at l;exact l)) wl ?_);refine kI (λJ=>?_) λJ=>?_
 .rw [if_pos J] at j;exact wv (h:=I _ _ (by simp [go_sem,j]))
 .rw [if_neg bZ] at j;refine wp (h:=bC (λi e H=>∃ k:List Mat,(e 3=.adr (scnC t h b)/\e 4=.adr c.c/\e 5=.adr m.c/\e 57=.list (X.1.map Part.c)/\e 58=dI X.1.length/\e 12=.own 24 k.length/\e 59=dI i)/\(H.get 24=some ⟨47,3,k.map Mat.c,false⟩)/\(24<H.next)/\(i<=X.1.length)/\(k=BL c.n h m.vars (X.1.take i))/\(k.length<=i)) (λi=>X.1.length - i) 0 ⟨([]),wg,wn,wn,wi,(by rfl),(by simp)⟩ λW u i e H F=>?_);obtain ⟨k,U,q,n,V,g,P⟩:=F;have Y:=xa2 Y U q (bP n);refine c8 (λs=>?_) λs=>?_
  .obtain ⟨v,C⟩:=fH (fK c.n h X.1[i] m.vars);obtain ⟨f,a⟩:∃ y,y=k++if v.2=0 then [(⟨X.1[i],v.1⟩:Mat)] else []:=⟨_,rfl⟩
   have Y:=xa3 Y s (aA s) @Part.c.eq_1 @Pattern.c.eq_1;refine wp (h:=aB ((by have l:=Me t b c.n h X.1[i] (Yf w.pq M (G _ (aC s))) m.vars B z.vs;rw [<- C] at l;unfold scnC Pattern.d Pattern.c Part.d Part.c dLI at l;exact l)) wl ?_);refine kI (λo=>?_) λo=>?_
   .have hm3:f=k++[⟨X.1[i],v.1⟩]:=by rw [a,if_pos (eL o)]
    have Y:=wa Y hm3;exact wp (h:=wx u (i+1) ⟨f,wg,wn,wn,wj,(by rw [aF s,yJ,<- g,<- C];exact a),(by rw [a];split<;>simp<;>omega)⟩)
   .have hm3:f=k:=by rw [a,if_neg (eL o),cZ]
    have Y:=wa Y hm3;exact wp (h:=wx u (i+1) ⟨f,wg,wn,wn,wj,(by rw [aF s,yJ,<- g,<- C];exact a),(by rw [a];split<;>simp<;>omega)⟩)
  .rw [aH bZ] at g;exact wv (h:=I _ _ (by simp [go_sem,Y,j,<- g]))
def P9 (t:Types)(h:Host)(inj:Bool)(c:Cond)(m:Mat):Prf × Int:=if (p8 t h inj c m).2=0 then p8 t h inj c m else (kL,(p8 t h inj c m).2)
def Jl (W:Prf × Int):Prf × Int:=if W.2=0 then W else (kL,W.2)
theorem Uf (t:Types)(h:Host)(inj:Bool)(c:Cond)(m:Mat):P9 t h inj c m=Jl (p8 t h inj c m):=rfl
theorem Eg (t:Types)(h:Host)(d:Bool)(c:Cond)(m:Mat):∃ wc wm wk we,P9 t h d c m=(Prf.mk wc wm wk,we)/\(p8 t h d c m).2=we/\(we=0->p8 t h d c m=(Prf.mk wc wm wk,we)):=by
 cases e:P9 t h d c m with
 | mk a b =>
  cases a with
  | mk wc wm wk =>
   refine ⟨wc,wm,wk,b,rfl,?_,?_⟩
   .unfold P9 at e;split at e
    .rw [e]
    .exact congrArg Prod.snd e
   .intro h0;unfold P9 at e;split at e
    .exact e
    .rename_i h1;have:=congrArg Prod.snd e;simp only at this;exact absurd (this.trans h0) h1
theorem Hi (t:Types)(ht:t.ok)(h:Host)(N:HostOk t h)(a:Bool)(c:Cond)(p:Pattern)(R:CondV t p c)(hp:PatOk t p)(g:c.F=5)
  (Z:∀ k∈c.w,∀ m:Mat,MatOk t c.n h m->Pua 314 [.agg (scnC t h a),.agg k.c,m.d] (.tup [.agg (P9 t h a k m).1.c,dI (P9 t h a k m).2])) (m:Mat) (O:MatOk t p h m) :
  Pua 363 [.agg (scnC t h a),.agg c.c,m.d] (.tup [.agg (P9 t h a c m).1.c,dI (P9 t h a c m).2]):=by
 obtain ⟨K,a0⟩:=R.kinds;have q:=LR t h a c m;rw [Uf];obtain ⟨W,J⟩:=fH (p8 t h a c m);rw [<- J] at q ⊢;obtain ⟨P,a1⟩:=R.ex g hp;have D:0<c.w.length:=by have:=K (.inr g);omega
 obtain ⟨y,f⟩:∃ k,k=c.w[0]:=⟨_,rfl⟩;have E:y∈c.w:=f ▸ aC D;obtain ⟨X,I⟩:=fH (z7 t c.map c.n h m a);have G:∀ x∈X.1,MatOk t c.n h x:=I ▸ Su P N O;rw [if_neg bZ,if_neg bZ,if_neg bZ,if_pos g,Bm D,<- f,<- I] at q;refine pH (by first|rfl|(simp [go_sem];done)) (λQ z=>(Tz.cK ⟨λt=>t==6||t==11||t==12,λr=>match r with|7=>[(0,10),(1,10),(2,10),(3,10),(4,10),(5,10),(6,10)]|_=>[]⟩ func363 rfl ?_));have Y:=xa6 @Cond.E @scnC.eq_1 @Mat.d.eq_1 @Mat.c.eq_1 @Prf.E (aA D) (Eq.symm f) g;refine wv (h:=aB ((by have j:=Es t ht p c P h N m O a;rw [<- I,Cond.E,g] at j;unfold scnC Mat.d Mat.c dLI dI at j;exact j)) wl ?_);refine c8 (λB=>?_) λB=>?_
 .rw [if_pos (eL B)] at q;have l:Jl W=(kL,X.2):=by rw [q];unfold Jl;rw [if_neg (eL B)]
  refine wv (h:=?_);exact z _ _ (by simp [go_sem,Y,l,kL,fZ,Prf.E,mM,jM,eU,dLI,c7,gC])
 .rw [if_neg (eL B)] at q;refine wv (h:=?_);repeat first|intro _|refine ⟨gX,?_⟩
  refine bC (λi e H=>(e 3=.adr (scnC t h a)/\e 4=.adr c.c/\e 5=.adr m.c/\e 6=.ptr 0 1 0 0/\e 25=.list (X.1.map Mat.c)/\e 26=dI X.1.length/\e 27=dI i)/\(H.get 0=some ⟨263,5,[[dI 0,.nil,.nil,.nil,.nil]],false⟩)/\(0<H.next)/\(i<=X.1.length)/\(WZ ((X.1.drop i).map λx=>(x,p8 t h a y x))=W)) (λi=>X.1.length - i) 0 ⟨wg,wn,wn,wi,(by exact q.symm)⟩ λI0 L i e H F=>?_;obtain ⟨E0,w,u,hi,A⟩:=F;have Y:=xa2 Y E0 w (bP u);refine c8 (λg=>?_) λg=>?_
  .obtain ⟨U,S,T,s,hw,v,C⟩:=Eg t h a y X.1[i];have n:i<X.1.length:=g;have b:=A;rw [xX _ n] at b;simp only [WZ] at b;have V:=nxs H.next;have Y:=xa2 Y g (aA n) V;refine wv (h:=?_);repeat first|intro _|refine ⟨gX,?_⟩
   refine aI ((by have j:=Z y E X.1[i] (G _ (aC n));simp only [hw,Prf.E,Cond.E] at j;unfold scnC Mat.d Mat.c dLI dI at j;exact j)) wl ?_;refine wv (h:=?_);repeat first|intro _|refine ⟨gX,?_⟩
   refine wq (λM=>?_) λM=>?_
   .have h8':s=0:=by simpa using M
    rw [C h8'] at b;simp only at b;rw [if_pos bZ] at b;have l:Jl W=(Prf.mk 0 X.1[i] [Prf.mk U S T],0):=by rw [<- b,h8'];rfl
    refine wv (h:=?_);exact z _ _ (by simp [go_sem,Y,l,kL,fZ,Prf.E,mM,jM,eU,dLI,c7,gC])
   .have h8':s≠0:=by simpa using M
    refine c8 (λo=>?_) λo=>?_
    .have h10':s≠10:=by simpa using o
     rw [v,if_pos h10'] at b;have l:Jl W=(kL,s):=by rw [<- b];unfold Jl;rw [if_neg h8']
     refine wv (h:=?_);exact z _ _ (by simp [go_sem,Y,l,kL,fZ,Prf.E,mM,jM,eU,dLI,c7,gC])
    .have h10':s=10:=by simpa using o
     rw [v,if_neg bZ] at b;refine wv (h:=?_);repeat first|intro _|refine ⟨gX,?_⟩
     exact wx L (i+1) ⟨wg,wn,wn,wj,(by exact b)⟩
  .rw [kH bZ] at A;simp only [jJ,WZ] at A;have l:Jl W=(kL,10):=by rw [<- A];rfl
   have Y:=wa Y g;refine wv (h:=?_);exact z _ _ (by simp [go_sem,Y,l,kL,fZ,Prf.E,mM,jM,eU,dLI,c7,gC])
theorem Jz (t:Types)(ht:t.ok)(h:Host)(ho:HostOk t h)(g:Bool):∀ (c:Cond) (p:Pattern),CondV t p c->PatOk t p->∀ m:Mat,MatOk t p h m ->
  Pua 314 [.agg (scnC t h g),.agg c.c,m.d] (.tup [.agg (P9 t h g c m).1.c,dI (P9 t h g c m).2]):=by
 refine Cond.bm λc ih p F T m hm=>?_;obtain ⟨a7,b2⟩:=F.kinds;have U:c.w.length<=1000000:=by have:=O4 c.w;have:=yP c;have:=F.Z;omega
 have E:c.F=5->Pua 363 [.agg (scnC t h g),.agg c.c,m.d] (.tup [.agg (P9 t h g c m).1.c,dI (P9 t h g c m).2]):=λG=>by
  obtain ⟨hE,w⟩:=F.ex G T;exact Hi t ht h ho g c p F T G (λk hk m' a2=>ih k hk c.n (w k hk) hE.pq m' a2) m hm
 have l:=LR t h g c m;rw [Uf] at E ⊢;obtain ⟨W,a6⟩:=fH (p8 t h g c m);rw [<- a6] at l E ⊢;refine pH (by first|rfl|(simp [go_sem];done)) (λQ z=>(Tz.cK ⟨λt=>t==6||t==8||t==10||t==12||t==13||t==16||t==17,λr=>match r with|3=>[(0,10),(1,10),(2,10),(3,10),(4,10),(5,10),(6,10)]|_=>[]⟩ func314 rfl ?_));have Y:=xa3 @Cond.E @scnC.eq_1 @Mat.d.eq_1 @Mat.c.eq_1 @Prf.E;refine c8 (λh2=>?_) λh2=>?_
 .have h2':c.F=2:=by simpa using h2
  have hl:0<c.w.length:=by have:=a7 (.inl h2');omega
  obtain ⟨k0,v⟩:∃ k,k=c.w[0]:=⟨_,rfl⟩;have V:k0∈c.w:=v ▸ aC hl;have b0:=F.di bZ k0 V;obtain ⟨wc,wm,wk,s,S,o,B⟩:=Eg t h g k0 m;rw [if_pos h2',Bm hl,<- v,o] at l;unfold WF at l;have Y:=xa2 Y (aA hl) (Eq.symm v) h2';refine wp (h:=aI ((by have q:=ih k0 V p b0 T m hm;simp only [S,Prf.E,Cond.E] at q;unfold scnC Mat.d Mat.c dLI dI at q;exact q)) wl ?_);refine kI (λG=>?_) λG=>?_
  .rw [if_pos (eL G)] at l;have n:Jl W=(kL,10):=by rw [l];rfl
   refine wv (h:=?_);exact z _ _ (by simp [go_sem,Y,n,kL,fZ,Prf.E,mM,jM,eU,dLI,c7,gC])
  .rw [if_neg (eL G)] at l;refine c8 (λh7=>?_) λh7=>?_
   .rw [if_pos (eL h7)] at l;have n:Jl W=(kL,0):=by rw [l];rfl
    refine wv (h:=?_);exact z _ _ (by simp [go_sem,Y,n,kL,fZ,Prf.E,mM,jM,eU,dLI,c7,gC])
   .rw [if_neg (eL h7)] at l;have n:Jl W=(kL,s):=by rw [l];unfold Jl;rw [if_neg (eL G)]
    refine wv (h:=?_);exact z _ _ (by simp [go_sem,Y,n,kL,fZ,Prf.E,mM,jM,eU,dLI,c7,gC])
 .have h2':c.F≠2:=by simpa using h2
  rw [if_neg h2'] at l;refine c8 (λM=>?_) λM=>?_
  .have h10':c.F=3:=by simpa using M
   have w:=F.di bZ;rw [if_pos h10'] at l;have Y:=wa Y h10';refine wp (h:=nE (Ghosts.step (Ghosts.refl _) 1 0 4 263 5 _ _ ((by simp [go_sem];rfl)) rfl rfl rfl) (λi e H=>∃ D:List Prf,(e 3=.adr (scnC t h g)/\e 4=.adr c.c/\e 5=.adr m.c/\e 6=.ptr 0 1 0 0/\e 20=dI c.F/\e 10=.ptr 1 1 0 0/\e 45=.list (c.w.map Cond.c)/\e 46=dI c.w.length/\e 47=dI i)/\(H.get 0=some ⟨263,5,[[dI 0,.nil,.nil,.nil,.nil]],false⟩)/\(0<H.next)/\(H.get 1=some ⟨263,5,[[dI 0,.nil,.nil,.nil,.own 2 D.length]],false⟩)/\(1<H.next)/\(H.get 2=some ⟨263,5,D.map Prf.c,false⟩)/\(2<H.next)/\(i<=c.w.length)/\(Nf ((c.w.drop i).map λk=>p8 t h g k m) D=W)/\(D.length<=i)/\(c.w.length<=1000000)) (λi=>c.w.length - i) 0 ⟨([]),wg,wn,wn,wn,wn,wn,wn,wi,(by exact l.symm),eG,(by exact U)⟩ λI2 a9 i e H a5=>?_);obtain ⟨D,E2,a1,R,Z,O,X,N,hi,C,b1,a3⟩:=a5;have Y:=xa6 Y E2 a1 (bP R) Z (bP O) X (bP N);refine c8 (λy=>?_) λy=>?_
   .obtain ⟨A,j⟩:∃ k,k=c.w[i]:=⟨_,rfl⟩;have u:A∈c.w:=j ▸ aC y;obtain ⟨wc,wm,wk,s,S,o,B⟩:=Eg t h g A m;have f:=C;rw [xX _ y,<- j] at f;simp only [Nf] at f;have Y:=xa2 Y y (aA y) (Eq.symm j);refine wp (h:=aB ((by have q:=ih A u p (w A u) T m hm;simp only [S,Prf.E,Cond.E] at q;unfold scnC Mat.d Mat.c dLI dI at q;exact q)) wl ?_);refine kI (λL=>?_) λL=>?_
    .have h16':s≠0:=by simpa using L
     rw [o,if_pos h16'] at f;have n:Jl W=(kL,s):=by rw [<- f];unfold Jl;rw [if_neg h16']
     refine wv (h:=?_);exact z _ _ (by simp [go_sem,Y,n,kL,fZ,Prf.E,mM,jM,eU,dLI,c7,gC])
    .have h16':s=0:=by simpa using L
     rw [o,if_neg bZ,B h16'] at f;exact wp (h:=wx a9 (i+1) ⟨(D++[.mk wc wm wk]),wg,wn,wn,wn,wn,wn,wn,wj,(by exact f),(by simp;omega),(by exact a3)⟩)
   .rw [kH bZ] at C;simp only [jJ,Nf] at C;have n:Jl W=(.mk 0 fZ D,0):=by rw [<- C];rfl
    refine wv (h:=?_);exact z _ _ (by simp [go_sem,Y,n,kL,fZ,Prf.E,mM,jM,eU,dLI,c7,gC])
  .have h10':c.F≠3:=by simpa using M
   rw [if_neg h10'] at l;refine c8 (λK=>?_) λK=>?_
   .have h21':c.F=4:=by simpa using K
    have w:=F.di bZ;rw [if_pos h21'] at l;have Y:=wa Y h21';refine wp (h:=bC (λi e H=>(e 3=.adr (scnC t h g)/\e 4=.adr c.c/\e 5=.adr m.c/\e 6=.ptr 0 1 0 0/\e 20=dI c.F/\e 73=.list (c.w.map Cond.c)/\e 74=dI c.w.length/\e 75=dI i)/\(H.get 0=some ⟨263,5,[[dI 0,.nil,.nil,.nil,.nil]],false⟩)/\(0<H.next)/\(i<=c.w.length)/\(Ww ((c.w.drop i).map λk=>p8 t h g k m) i=W)) (λi=>c.w.length - i) 0 ⟨wg,wn,wn,wi,(by exact l.symm)⟩ λI4 a8 i e H a4=>?_);obtain ⟨E4,a0,P,hi,C⟩:=a4;have Y:=xa2 Y E4 a0 (bP P);refine c8 (λx=>?_) λx=>?_
    .obtain ⟨A,j⟩:∃ k,k=c.w[i]:=⟨_,rfl⟩;have u:A∈c.w:=j ▸ aC x;obtain ⟨wc,wm,wk,s,S,o,B⟩:=Eg t h g A m;have f:=C;rw [xX _ x,<- j] at f;simp only [Ww] at f;have Y:=xa2 Y x (aA x) (Eq.symm j);refine wp (h:=aB ((by have q:=ih A u p (w A u) T m hm;simp only [S,Prf.E,Cond.E] at q;unfold scnC Mat.d Mat.c dLI dI at q;exact q)) wl ?_);refine kI (λP6=>?_) λP6=>?_
     .have h26':s=0:=by simpa using P6
      rw [B h26'] at f;simp only at f;rw [if_pos bZ] at f;have n:Jl W=(.mk i fZ [.mk wc wm wk],0):=by rw [<- f,h26'];rfl
      refine wv (h:=?_);exact z _ _ (by simp [go_sem,Y,n,kL,fZ,Prf.E,mM,jM,eU,dLI,c7,gC])
     .have h26':s≠0:=by simpa using P6
      refine c8 (λJ=>?_) λJ=>?_
      .have h28':s≠10:=by simpa using J
       rw [o,if_pos h28'] at f;have n:Jl W=(kL,s):=by rw [<- f];unfold Jl;rw [if_neg h26']
       refine wv (h:=?_);exact z _ _ (by simp [go_sem,Y,n,kL,fZ,Prf.E,mM,jM,eU,dLI,c7,gC])
      .have h28':s=10:=by simpa using J
       rw [o,if_neg bZ] at f;exact wp (h:=wx a8 (i+1) ⟨wg,wn,wn,wj,(by exact f)⟩)
    .rw [kH bZ] at C;simp only [jJ,Ww] at C;have n:Jl W=(kL,10):=by rw [<- C];rfl
     refine wv (h:=?_);exact z _ _ (by simp [go_sem,Y,n,kL,fZ,Prf.E,mM,jM,eU,dLI,c7,gC])
   .have h21':c.F≠4:=by simpa using K
    rw [if_neg h21'] at l;refine c8 (λI=>?_) λI=>?_
    .have h32':c.F=5:=by simpa using I
     obtain ⟨vc,vm,vk,ve,hV⟩:∃ vc vm vk ve,Jl W=(Prf.mk vc vm vk,ve):=by
      cases hh:Jl W with
      | mk a b=>cases a;exact ⟨_,_,_,_,rfl⟩
     have Y:=wa Y h32';refine wv (h:=aB ((by have q:=E h32';simp only [hV,Prf.E,Cond.E,h32'] at q;unfold scnC Mat.d Mat.c dLI dI at q;exact q)) wl ?_);refine wv (h:=?_);exact z _ _ (by simp [go_sem,Y,hV,kL,fZ,Prf.E,mM,jM,eU,dLI,c7,gC])
    .have h32':c.F≠5:=by simpa using I
     rw [if_neg h32'] at l;have n:Jl W=(kL,0):=by rw [l];rfl
     refine wv (h:=?_);exact z _ _ (by simp [go_sem,Y,n,kL,fZ,Prf.E,mM,jM,eU,dLI,c7,gC])
def Xc (t:Types)(p:Pattern)(c:Cond)(h:Host)(m:Mat)(inj:Bool):Int :=
 if condF t p c≠0 then condF t p c
 else if jB t h≠0 then jB t h
 else if fP t p.j h.j m.m inj≠0 then fP t p.j h.j m.m inj
 else if (eH t p h m.m).2≠0 then (eH t p h m.m).2
 else if (eH t p h m.m).1≠m.vars then 11 else 0
theorem Gw (t:Types)(g:t.ok)(p:Pattern)(c:Cond)(o:c.ok)(n:c.size<=1000000)(h:Host)(m:Mat)(a:Bool):Pua 313 [t.d,p.d,.agg c.c,h.d,m.d,.bool a] (dI (Xc t p c h m a)):=by
 refine Tz.p0 func313 rfl λQ f _=>?_;have Y:=xa7 @Cond.E @Pattern.d.eq_1 @Pattern.c.eq_1 @Host.d.eq_1 @Host.c.eq_1 @Mat.d.eq_1 @Mat.c.eq_1 @Graph.c.eq_1 @Part.c.eq_1;refine wv (h:=aB ((by have i:=zO t g p c o n;rw [Cond.E] at i;unfold Types.d Types.c Pattern.d Pattern.c dLI dI at i;exact i)) wl ?_);refine c8 (λl=>?_) λl=>?_
 .have hM:Xc t p c h m a=condF t p c:=by unfold Xc;rw [if_pos l]
  exact wv (h:=f _ _ (by simp [go_sem,hM]))
 .have hM:Xc t p c h m a=if jB t h≠0 then jB t h else if fP t p.j h.j m.m a≠0 then fP t p.j h.j m.m a else if (eH t p h m.m).2≠0 then (eH t p h m.m).2 else if (eH t p h m.m).1≠m.vars then 11 else 0:=by unfold Xc;rw [if_neg (eL l)]
  refine wv (h:=aB (Cr t g h) wl ?_);refine c8 (λk=>?_) λk=>?_
  .have h5':jB t h≠0:=k;rw [if_pos h5'] at hM;exact wv (h:=f _ _ (by simp [go_sem,hM,jB]))
  .have h5':¬ jB t h≠0:=by unfold jB;simpa using k
   rw [if_neg h5'] at hM;refine wv (h:=aB (yS t g p.j h.j m.m a) wl ?_);refine c8 (λj=>?_) λj=>?_
   .rw [if_pos (eL j)] at hM;exact wv (h:=f _ _ (by simp [go_sem,hM]))
   .rw [if_neg (eL j)] at hM;refine wv (h:=aB (zS t g p h m.m) wl ?_);refine c8 (λe=>?_) λe=>?_
    .rw [if_pos (eL e)] at hM;exact wv (h:=f _ _ (by simp [go_sem,hM]))
    .rw [if_neg (eL e)] at hM;refine wp (h:=aB (l8 (eH t p h m.m).1 m.vars) wl ?_);refine kI (λb=>?_) λb=>?_
     .rw [if_pos (eL b)] at hM;exact wv (h:=f _ _ (by simp [go_sem,hM]))
     .rw [if_neg (eL b)] at hM;exact wv (h:=f _ _ (by simp [go_sem,hM]))
theorem DV (t:Types)(f:t.ok)(p:Pattern)(c:Cond)(o:c.ok)(g:CondV t p c)(k:PatOk t p)(h:Host)(l:HostOk t h)(m:Mat)(n:MatOk t p h m)(a:Bool)(r:Xc t p c h m a=0) :
  Pua 237 [t.d,p.d,.agg c.c,h.d,m.d,.bool a] (.tup [.agg (P9 t h a c m).1.c,dI (P9 t h a c m).2]):=by
 obtain ⟨w,s,u,v,e,j,i⟩:=Eg t h a c m;refine pH (by first|rfl|(simp [go_sem];done)) (λQ q=>(Tz.cK ⟨λt=>t==12,λ_=>[]⟩ func237 rfl ?_));have Y:=xa7 @Cond.E @scnC.eq_1 @Pattern.d.eq_1 @Pattern.c.eq_1 @Host.d.eq_1 @Host.c.eq_1 @Mat.d.eq_1 @Mat.c.eq_1 @Prf.E;refine wv (h:=aB ((by have b:=Gw t f p c o g.Z h m a;rw [r,Cond.E] at b;unfold Types.d Types.c Pattern.d Pattern.c Host.d Host.c Mat.d Mat.c dLI dI at b;exact b)) wl ?_);refine wv (h:=aB ((by have b:=Jz t f h l a c p g k m n;simp only [e,Prf.E,Cond.E] at b;unfold scnC Mat.d Mat.c dLI dI at b;exact b)) wl ?_);refine wv (h:=?_);exact q _ _ (by simp [go_sem,Y,e,Prf.E,mM,jM,eU,dLI,c7,gC])
theorem BE (t:Types)(n:t.ok)(p:Pattern)(c:Cond)(s:c.ok)(u:CondV t p c)(o:PatOk t p)(h:Host)(q:HostOk t h)(m:Mat)(r:MatOk t p h m)(a:Bool)(v:Xc t p c h m a=0) :
  Pua 150 [t.d,p.d,.agg c.c,h.d,m.d,.bool a] (.tup [.bool (o7 t h a c m).1,dI (o7 t h a c m).2]):=by
 obtain ⟨y,w,x,e,l,f,k⟩:=Eg t h a c m;have b:o7 t h a c m=if e=10 then (false,0) else (decide (e=0),e):=by unfold o7 Ui;rw [f]
 refine Tz.pK ⟨λt=>t==14,λ_=>[]⟩ func150 rfl (λQ j=>?_);have Y:=xa6 @Cond.E @Pattern.d.eq_1 @Pattern.c.eq_1 @Host.d.eq_1 @Host.c.eq_1 @Mat.d.eq_1 @Mat.c.eq_1 @Prf.E;refine wv (h:=aB ((by have g:=DV t n p c s u o h q m r a v;simp only [l,Prf.E,Cond.E] at g;unfold Types.d Types.c Pattern.d Pattern.c Host.d Host.c Mat.d Mat.c dLI dI at g;exact g)) wl ?_);refine c8 (λi=>?_) λi=>?_
 .rw [if_pos (eL i)] at b;exact wv (h:=j _ _ (by simp [go_sem,b]))
 .rw [if_neg (eL i)] at b;exact wv (h:=j _ _ (by simp [go_sem,b,Dy]))
theorem RW {H:AHeap}{d:D}(h:d.W=true):fN H d=d:=by cases d<;>first|rfl|simp [D.W] at h
theorem RV {H:AHeap}{d:D}(h:d.W=true):iS H d=d:=by
 cases d with
 | agg cs =>
  simp only [D.W] at h;simp only [iS];congr 1;conv=>rhs;rw [<- List.map_id cs]
  exact cE λy a=>RW (gM h y a)
 | _=>exact RW (H:=H) h
theorem RT (H:AHeap){d:D}(h:d.W=true):qF H d=d:=by
 cases d with
 | tup vs =>
  simp only [D.W] at h;simp only [qF];congr 1;conv=>rhs;rw [<- List.map_id vs]
  exact cE λy a=>RV (gM h y a)
 | _=>exact RV (H:=H) h
theorem abS {P:Program}{f:FuncId}{args:Xa2}{r:D}(a:r.W=true)(h:ACalls P f args .an λd H'=>jS H' d=r):Pure P f args r:=by
 refine aT (ACalls.co (h.mono λd H' e=>⟨?_,a⟩));rw [e];exact RT _ a
theorem S6 {H:AHeap}{a:List Nat}{vals:Yb}(d:a.length=vals.length)(f:∀ (i q:Nat) (v:Xa0),a[i]?=some q->vals[i]?=some v->H.get q=some ⟨3,1,v.map cI,false⟩):(lW a vals).map (·.map (fN H))=vals.map cL:=by
 apply f9;intro i;simp only [aP];by_cases e:i<vals.length
 .have hq:i<a.length:=bZ;have b:=aA e;have c:=aA hq;rw [tS c b,b];have:=f i _ _ c b;simp [fN,this,cL,dLI]
 .rw [b5 (by rw [kC d];omega),b5 bZ];rfl
theorem Jr (h:Host)(hn:h.j.h.length<=100000)(he:h.j.i.length<=100000)(hv:h.k.length<=100000)(hr:∀ v∈h.k,v.length<=100000):Pua 152 [h.d] h.d:=by
 refine abS (Host.fi h) ?_;obtain ⟨Q,hQ⟩:∃ Q:D->AHeap->Prop,∀ d H',Q d H'↔jS H' d=h.d:=⟨_,λ_ _=>Iff.rfl⟩;rw [show (λd H'=>jS H' d=h.d)=Q from funext λd=>funext λH'=>propext (hQ d H').symm];refine (Tz.cK ⟨λt=>t==2||t==3||t==25||t==1000001,λr=>match r with|1=>[(0,10),(1,10),(2,10),(3,10),(4,10),(5,10),(6,10),(7,10)]|5=>[(0,2),(1,2),(0,4),(1,4),(0,5),(1,5)]|_=>[]⟩ func152 rfl ?_);have Y:=wa @Host.d.eq_1 @Host.c.eq_1;refine wv (h:=?_);refine n7 (fS h.j.h bZ) (by simp [go_sem,dLI]) (by simp [go_sem]) (Ll _) rfl (by simp [go_sem]) ?_;refine wv (h:=?_);refine n7 (CD h.j.i bZ) (by simp [go_sem]) (by simp [go_sem]) (XJ _) rfl (by simp [go_sem]) ?_;refine wp (h:=nE (Ghosts.step (Ghosts.refl _) 11 0 2 26 1 _ _ ((by simp [go_sem];rfl)) rfl rfl rfl) (λi e H=>∃ qs:List Nat,(e 1=.adr h.c/\e 2=.ptr 0 1 0 0/\e 3=.ptr 11 1 0 0/\e 17=.list (h.k.map cL)/\e 18=dI h.k.length/\e 19=dI i)/\(H.get 0=some ⟨50,3,[[.nil,.nil,.nil]],false⟩)/\(0<H.next)/\(H.get 11=some ⟨50,3,[[dLI h.j.h,.list (h.j.i.map Edge.c),.own 13 i]],false⟩)/\(11<H.next)/\(H.get 13=some ⟨26,1,lW qs (h.k.take i),false⟩)/\(13<H.next)/\(i<=h.k.length)/\(qs.length=(h.k.take i).length)/\(∀ q∈qs,13<q/\q<H.next)/\(13<H.next)/\(∀ (k q:Nat) (v:Xa0),qs[k]?=some q->(h.k.take i)[k]?=some v->H.get q=some ⟨3,1,v.map cI,false⟩)) (λi=>h.k.length - i) 0 ⟨([]),wg,wn,wn,wn,wn,(by simp [go_sem,Y,lW]),wn,wi,(by rfl),(by intro q hq;cases hq),(by simp [go_sem]),(by intro k q v hk;simp at hk)⟩ λI0 hI0 i e H hi0=>?_);obtain ⟨qs,E0,g0_0,n0_0,g11_0,n11_0,g13_0,n13_0,hi,hql,hqr,hnx,hgq⟩:=hi0;have Y:=xa6 Y E0 g0_0 (bP n0_0) g11_0 (bP n11_0) g13_0 (bP n13_0);refine c8 (λh3=>?_) λh3=>?_
 .have hr8:=hr _ (aC h3);have hrl:(lW qs (h.k.take i)).length=i:=by rw [kC hql];simp;omega
  have hgq2:∀ H2:AHeap,H2.get (H.next+2)=some ⟨3,1,h.k[i].map cI,false⟩->(∀ q∈qs,H2.get q=H.get q)->∀ (k q:Nat) (v:Xa0),(qs++[H.next+2])[k]?=some q->(h.k.take (i+1))[k]?=some v->H2.get q=some ⟨3,1,v.map cI,false⟩:=λH2 g1 g2 k q v e1 e2=>by
   rw [aF h3] at e2;have hqi:qs.length=i:=by rw [hql];simp;omega
   have hti:(h.k.take i).length=i:=by simp;omega
   by_cases hk:k<i
   .rw [aR bZ] at e1;rw [aR bZ] at e2;rw [g2 q (aM e1)];exact hgq k q v e1 e2
   .have h1':=(aK.1 e1).1;have:k=i:=by simp at h1';omega
    subst this;rw [aX bZ,hqi,Aa] at e1;rw [aX bZ,hti,Aa] at e2;simp at e1 e2;subst e1 e2;exact g1
  have Y:=xa3 Y h3 (aA h3) @cL.eq_1 hrl;exact wp (h:=wx hI0 (i+1) ⟨(qs++[H.next+2]),wg,wn,wn,wn,wn,(by rw [aF h3,yV hql];simp [go_sem,Y,cL]),wn,wj,(by simp [hql];omega),(by intro q hq;rw [bE,bU] at hq;rcases hq with hq|rfl;(have:=hqr q hq;simp [go_sem];omega);(simp [go_sem];omega)),(by simp [go_sem];omega),(by exact hgq2 _ (by simp [go_sem,Y,cL]) (λq hq=>by have:=hqr q hq;simp [go_sem,bP this.2,(bZ:q≠13),(bZ:q≠11)]))⟩)
 .rw [aH bZ] at hql hgq;have hie:i=h.k.length:=bZ;refine wv (h:=?_);refine (hQ _ _).2 ?_;obtain ⟨E,hEq⟩:=fH (H.put 0 ⟨50,3,[[D.list (List.map cI h.j.h),D.list (List.map Edge.c h.j.i),D.own 13 i]],false⟩);rw [<- hEq];have hE13:E.get 13=some ⟨26,1,lW qs (h.k.take i),false⟩:=by rw [hEq];simp [go_sem,g13_0]
  rw [aH (bZ:h.k.length<=i)] at hE13;have hR:=S6 (H:=E) hql (λk q v e1 e2=>by
   have:=hqr q (aM e1);rw [hEq];simp [go_sem,(bZ:q≠0)];exact hgq k q v e1 e2)
  have hrl:=kC hql;simp only [jS,kW,q8,fN,gJ,jJ,hE13,hrl,hR,hie,if_true];rfl
theorem G7 (t:Types)(o:t.ok)(k:Int):Own prog 240 [t.d,dI k] 3 1 ((oU t k).map cI):=by
 have p:=rT o k;refine Tz.oK ⟨λt=>t==9||t==16,λ_=>[]⟩ func240 rfl (λQ q=>?_);have Y:=trivial;refine wv (h:=aB (r8 t o k) wl ?_);refine wo (h:=bC (λi e H=>∃ b:Xa0,(e 2=.adr t.c/\e 17=.list ((bV t k).map Attr.c)/\e 18=dI (bV t k).length/\e 19=dI i/\e 7=.own 0 b.length)/\(H.get 0=some ⟨3,1,b.map cI,false⟩)/\(0<H.next)/\(i<=(bV t k).length)/\(b=((bV t k).take i).map (λa=>a.ax))) (λi=>(bV t k).length - i) 0 ⟨([]),wg,wn,wn,wi,(by rfl)⟩ λu n i e H m=>?_);obtain ⟨b,r,g,f,s,l⟩:=m;have Y:=xa2 Y r g (bP f);refine c8 (λj=>?_) λj=>?_
 .have hxl:b.length=i:=by rw [l];simp;omega
  have Y:=xa2 Y j (aA j) @Attr.c.eq_1;exact wo (h:=wx n (i+1) ⟨(b++[(bV t k)[i].ax]),wg,wn,wn,wj,(by rw [dB _ j,<- l])⟩)
 .have hX:b=oU t k:=by rw [l,dV _ bZ];rfl
  refine wv (h:=?_);exact q _ _ _ (by simp [go_sem,Y,hX,dLI]) (by simp [go_sem,Y,hX,dLI])
theorem HH.cd {H H':AHeap}{lo a b V:Nat}{qs:List Nat}{x:Host}(h:HH H lo a b V qs x)(hn:H.next<=H'.next){q:Nat}{nd:Int}{v:Xa0}(hlo:lo<=q)(hq:∀ j∈a :: b :: V :: qs,j≠q)(hq2:q<H'.next)
  (ga:H'.get a=some ⟨3,1,(x.j.h++[nd]).map cI,false⟩) (gq:H'.get q=some ⟨3,1,v.map cI,false⟩) (gV:H'.get V=some ⟨26,1,lW qs x.k++[[.own q v.length]],false⟩) (hf:∀ j∈b :: qs,H'.get j=H.get j) :
  HH H' lo a b V (qs++[q]) ⟨⟨x.j.h++[nd],x.j.i⟩,x.k++[v]⟩ where
 ga:=ga
 gb:=(hf b eG).trans h.gb
 gV:=by rw [yV h.len];exact gV
 len:=by simp [h.len]
 gq i q' v' h1 h2:=by
  by_cases hi:i<qs.length
  .rw [aR hi] at h1;rw [aR (by rw [<- h.len];exact hi)] at h2;exact (hf q' (by simp [aM h1])).trans (h.gq i q' v' h1 h2)
  .have h1':=(aK.1 h1).1;have:i=qs.length:=by simp at h1';omega
   subst this;simp at h1;rw [h.len] at h2;simp at h2;subst h1 h2;exact gq
 nd:=by
  have:=h.nd;have e:a :: b :: V :: (qs++[q])=(a :: b :: V :: qs)++[q]:=rfl;rw [e,sQ];exact ⟨this,by simp,λy hy z hz=>by rw [bU] at hz;subst hz;exact hq y hy⟩
 ac j hj:=by
  have e:a :: b :: V :: (qs++[q])=(a :: b :: V :: qs)++[q]:=rfl;rw [e,bE,bU] at hj;rcases hj with hj|rfl
  .exact ⟨(h.ac j hj).1,b4 (h.ac j hj).2 hn⟩
  .exact ⟨hlo,hq2⟩
def stpC (r:Rule)(m:Mat)(h:Host)(A B C:D)(tr co:Part):Xa2:=[.str r.name,dLI r.left.j.h,.list (r.left.j.i.map Edge.c),.list (r.left.q.map Slot.c),dI r.left.vars,.list (r.left.I.map Test.c),
 dLI r.right.j.h,.list (r.right.j.i.map Edge.c),.list (r.right.q.map Slot.c),dI r.right.vars,.list (r.right.I.map Test.c),
 dLI r.u.h,dLI r.u.i,dLI r.A.h,dLI r.A.i,.bool r.inj,
 dI r.cond.F,.list (r.cond.w.map Cond.c),dLI r.cond.map.h,dLI r.cond.map.i,dLI r.cond.n.j.h,.list (r.cond.n.j.i.map Edge.c),.list (r.cond.n.q.map Slot.c),dI r.cond.n.vars,.list (r.cond.n.I.map Test.c),
 dLI m.m.h,dLI m.m.i,dLI m.vars,dLI h.j.h,.list (h.j.i.map Edge.c),.list (h.k.map cL),A,B,C,dLI tr.h,dLI tr.i,dLI co.h,dLI co.i]
def trE (h:Host)(tr:Part)(k:Int):Edge:=⟨(eA h.j k).type,iA tr.h (eA h.j k).B,iA tr.h (eA h.j k).O⟩
def bdN (h:Host)(d:Part)(i:Nat):Host:=⟨⟨(d.h.take i).map (gN h.j),[]⟩,(d.h.take i).map λk=>h.k[k.toNat]?.getD []⟩
def bdE (h:Host)(d tr:Part)(i:Nat):Host:=⟨⟨d.h.map (gN h.j),(d.i.take i).map (trE h tr)⟩,d.h.map λk=>h.k[k.toNat]?.getD []⟩
theorem VE (h:Host)(d a:Part){i:Nat}(b:d.h.length<=i):bdE h d a 0=bdN h d i:=by unfold bdE bdN;rw [aH b];rfl
theorem Ql (t:Types)(ht:t.ok)(r:Rule)(hR:RuleV t r)(m:Mat)(h:Host)(ho:HostOk t h)(d o u:Part)(e9:∀ x∈d.h,0<=x/\x<h.j.h.length)(f0:∀ x∈d.i,0<=x/\x<h.j.i.length)
  (h7:d.h.length<=40/\d.i.length<=80) (htl:o.h.length=h.j.h.length) (h8:u.h.length=r.right.j.h.length/\u.i.length=r.right.j.i.length)
  (f1:∀ i,i<r.right.j.h.length->(u.h[i]?.getD 0=((d.h.length+(aN r.A.h i).length:Nat):Int)↔mem r.A.h i=false))
  (f2:∀ i,i<r.right.j.i.length->(u.i[i]?.getD 0=((d.i.length+(aN r.A.i i).length:Nat):Int)↔mem r.A.i i=false))
  (s a b V:Nat) (G:AHeap) (hs:G.get s=some ⟨52,38,[stpC r m h (.own a 0) (.own b 0) (.own V 0) o u],false⟩) (I:HH G 0 a b V [] ⟨⟨[],[]⟩,[]⟩) (g7:s<G.next) (e1:s≠a/\s≠b/\s≠V) (c5:∀ j,G.next<=j->¬ G.H j) (Q:D->AHeap->Prop)
  (hQ:∀ qs H',HH H' 0 a b V qs (kP t r u (bdE h d o d.i.length))->H'.get s=some ⟨52,38,[stpC r m h (.own a (kP t r u (bdE h d o d.i.length)).j.h.length) (.own b (kP t r u (bdE h d o d.i.length)).j.i.length) (.own V (kP t r u (bdE h d o d.i.length)).k.length) o u],false⟩ ->
   (∀ j∈a :: b :: V :: qs,j≠s)->(∀ j∈qs,G.next<=j)->(∀ j,j<G.next->j∉[s,a,b,V]->H'.get j=G.get j)->G.next<=H'.next->Q (.tup []) H') :
  ACalls prog 155 [t.d,.ptr s 1 0 0,d.d] G Q:=by
 have h6:=aY hR.gr;have e8:=dO hR.gr;have h5:=aY ho.gg;have e6:=dO ho.gg;have g6:=ho.vl;have i2:=I.ac a I.bc;have i0:=I.ac b I.bb;have i3:=I.ac V I.bi;have i1:=I.ab;obtain ⟨h0,g9,g8⟩:=e1;refine (Tz.cK ⟨λt=>t==6||t==7||t==12||t==16||t==59||t==166||t==1000001,λr=>match r with|1=>[(1,10),(2,10),(3,10),(5,10),(6,10),(7,10),(8,10),(9,10),(1,11),(2,11),(3,11),(5,11),(6,11),(7,11),(8,11),(9,11),(10,11),(5,12),(6,12),(7,12),(8,12),(9,12)]|5=>[(2,13),(3,13),(4,13),(5,13),(6,13)]|6=>[(2,6),(3,6),(4,6),(5,6),(6,7),(6,8),(6,10),(6,11),(2,12),(3,12),(4,12),(5,12),(2,13),(3,13),(4,13),(5,13)]|12=>[(2,28),(3,28),(4,28),(5,28),(6,28)]|19=>[(2,8),(3,8),(4,8),(5,8),(2,9),(3,9),(4,9),(5,9)]|25=>[(2,28),(3,28),(4,28),(5,28),(6,28)]|_=>[]⟩ func155 rfl ?_);have g4:=xa4 (dE (bZ:V≠b)) (dE (bZ:V≠a)) (dE (bZ:V≠s)) (dE (bZ:b≠a)) (dE (bZ:b≠s)) (dE (bZ:a≠s));have g0:=xa2 (bP (bZ:s<G.next)) (bP (bZ:a<G.next)) (bP (bZ:b<G.next)) (bP (bZ:V<G.next));have Y:=xa6 hs @stpC.eq_1 @Part.d.eq_1 @Part.c.eq_1 @Host.c.eq_1 @Graph.c.eq_1 g4 g0;refine wp (h:=bC (λi e H=>∃ X:Nat,∃ w:Nat,∃ x:Host,∃ qs:List Nat,(e 1=.ptr s 1 0 0/\e 3=.adr t.c/\e 5=.adr d.c/\e 6=.ptr X 1 0 0/\e 7=.ptr w 1 0 0/\e 28=dLI d.h/\e 29=dI d.h.length/\e 30=dI i)/\(H.get X=some ⟨50,3,[h.c],false⟩)/\(X<H.next)/\(H.get w=some ⟨29,2,[r.right.j.c],false⟩)/\(w<H.next)/\(H.get s=some ⟨52,38,[stpC r m h (.own a x.j.h.length) (.own b x.j.i.length) (.own V x.k.length) o u],false⟩)/\(s<H.next)/\(i<=d.h.length)/\(HH H 0 a b V qs x)/\(x=bdN h d i)/\(∀ j∈a :: b :: V :: qs,j≠s)/\(∀ j∈qs,G.next<=j)/\(∀ j,H.next<=j->¬ H.H j)/\(∀ j,j<G.next->j∉[s,a,b,V]->H.get j=G.get j)/\(G.next<=H.next)/\(G.next<=X/\X<w)) (λi=>d.h.length - i) 0 ⟨(G.next+10),(G.next+11),(⟨⟨[],[]⟩,[]⟩),([]),wg,wn,wn,wn,wn,wn,wn,wi,(by exact I.same (by first|(simp [go_sem];done)|(simp [go_sem];omega)) (λj hj=>by have:=(I.ac j hj).2;simp [go_sem,bP this])),(by rfl),(by intro j hj;simp at hj;omega),(by intro j hj;cases hj),(by intro j hj;simp [go_sem,j8,mV,v8] at hj ⊢;exact ⟨bZ,bZ,c5 j bZ⟩),(by intro j hj A;simp [go_sem,bP hj]),(by first|(simp [go_sem];done)|(simp [go_sem];omega)),bZ⟩ λI0 f5 i e H e5=>?_);obtain ⟨X,w,x,qs,E0,gX_0,nX_0,gYb_0,nYb_0,d2,c1,hi,f,J,E,R,q,P,N,f3⟩:=e5;have g3:=xa2 (dE (bZ:w≠X)) (dE (bZ:w≠V)) (dE (bZ:w≠b)) (xb0 (dE (bZ:w≠a)) (dE (bZ:w≠s)) (dE (bZ:X≠V)) (dE (bZ:X≠b)) (dE (bZ:X≠a)) (dE (bZ:X≠s)) (dE (bZ:V≠b)) (dE (bZ:V≠a)) (dE (bZ:V≠s)) (dE (bZ:b≠a)) (dE (bZ:b≠s)) (dE (bZ:a≠s)));have Y:=xa7 Y E0 gX_0 (bP nX_0) gYb_0 (bP nYb_0) d2 (bP c1) g3;refine c8 (λh3=>?_) λh3=>?_
 .obtain ⟨k,hk⟩:∃ y,y=d.h[i]:=⟨_,rfl⟩;have b5:=e9 _ (aC h3);rw [<- hk] at b5;have S:k.toNat<h.j.h.length:=bZ;have b4:k.toNat<h.k.length:=bZ;obtain ⟨n,g⟩:∃ y:Host,y=⟨⟨x.j.h++[h.j.h[k.toNat]],x.j.i⟩,x.k++[h.k[k.toNat]]⟩:=⟨_,rfl⟩;have B:n=bdN h d (i+1):=by rw [g,J];unfold bdN;rw [aF h3,<- hk];simp [gN,aA S,aA b4]
  have g5:(h.k[k.toNat]).length<=1000:=by
   have:=(ho.row _ (aC b4)).1;omega
  have M:x.j.h.length=i/\x.j.i.length=0/\x.k.length=i:=by rw [J];simp [bdN];omega
  have C:n.j.h.length=x.j.h.length+1/\n.j.i.length=x.j.i.length/\n.k.length=x.k.length+1:=by rw [g];simp
  have a5:=f.ga;have a6:=f.gV;have b0:=kC f.len;have b1:=f.ac a f.bc;have b2:=f.ac V f.bi;have a2:=f.ac b f.bb;have a8:∀ j∈a :: b :: V :: qs,j≠H.next+20+6:=λj hj=>by have:=(f.ac j hj).2;omega
  have p:∀ j∈b :: qs,j≠a/\j≠s/\j≠V/\j<H.next:=λj hj=>by
   rcases aS.1 hj with rfl|hj
   .exact ⟨bZ,bZ,bZ,a2.2⟩
   .exact ⟨(f.qn hj).1,E j (f.a6 hj),(f.qn hj).2.2,(f.ac j (f.a6 hj)).2⟩
  have K:∀ j∈a :: b :: V :: (qs++[H.next+20+6]),j≠s:=λj hj=>by
   have e:a :: b :: V :: (qs++[H.next+20+6])=(a :: b :: V :: qs)++[H.next+20+6]:=rfl;rw [e,bE,bU] at hj;rcases hj with hj|rfl
   .exact E j hj
   .omega
  have L:∀ j∈qs++[H.next+20+6],G.next<=j:=λj hj=>by
   rw [bE,bU] at hj;rcases hj with hj|rfl
   .exact R j hj
   .omega
  have f9:=xa2 (bP (bZ:s<H.next)) (bP (bZ:a<H.next)) (bP (bZ:b<H.next)) (bP (bZ:V<H.next));have Y:=xb0 Y h3 (aA h3) (Eq.symm hk) (aA S) (aA b4) a5 a6 b0 C @cL.eq_1 f9;exact wp (h:=wx f5 (i+1) ⟨X,w,n,(qs++[H.next+20+6]),wg,wn,wn,wn,wn,wn,wn,wj,(by rw [g];exact f.cd (by first|(simp [go_sem];done)|(simp [go_sem];omega)) (d9 _) a8 (by first|(simp [go_sem];done)|(simp [go_sem];omega)) (by simp [go_sem,Y,cI]) (by simp [go_sem,Y]) (by simp [go_sem,Y]) (λj hj=>by obtain ⟨k1,k2,Z,k4⟩:=p j hj;simp [go_sem,k1,k2,Z,bP k4])),(by exact B),(by exact K),(by exact L),(by intro j hj;simp [go_sem,j8,mV] at hj ⊢;exact ⟨bZ,q j bZ⟩),(by intro j hj A;simp only [aS,eC,or_false,not_or] at A;simp [go_sem,A,bP (bZ:j<H.next)];exact P j hj (by simp [A])),(by first|(simp [go_sem];done)|(simp [go_sem];omega)),(by exact f3)⟩)
 .have hx4:x=bdE h d o 0:=by rw [J,VE _ _ _ bZ]
  have f8:=xa2 (bP (bZ:s<H.next)) (bP (bZ:a<H.next)) (bP (bZ:b<H.next)) (bP (bZ:V<H.next));have Y:=wa Y f8;refine wp (h:=bC (λi e H=>∃ x:Host,(e 1=.ptr s 1 0 0/\e 3=.adr t.c/\e 5=.adr d.c/\e 6=.ptr X 1 0 0/\e 7=.ptr w 1 0 0/\e 73=dLI d.i/\e 74=dI d.i.length/\e 75=dI i)/\(H.get X=some ⟨50,3,[h.c],false⟩)/\(X<H.next)/\(H.get w=some ⟨29,2,[r.right.j.c],false⟩)/\(w<H.next)/\(H.get s=some ⟨52,38,[stpC r m h (.own a x.j.h.length) (.own b x.j.i.length) (.own V x.k.length) o u],false⟩)/\(s<H.next)/\(i<=d.i.length)/\(HH H 0 a b V qs x)/\(x=bdE h d o i)/\(∀ j,H.next<=j->¬ H.H j)/\(∀ j,j<G.next->j∉[s,a,b,V]->H.get j=G.get j)/\(G.next<=H.next)) (λi=>d.i.length - i) 0 ⟨x,wg,wn,wn,wn,wn,wn,wn,wi,(by exact f),(by exact hx4),(by exact q),(by exact P),(by exact N)⟩ λI2 f4 i e H e4=>?_);obtain ⟨x,E2,gX_2,nX_2,gYb_2,nYb_2,d1,c0,hi,f,J,q,P,N⟩:=e4;have g2:=xa2 (dE (bZ:w≠X)) (dE (bZ:w≠V)) (dE (bZ:w≠b)) (xb0 (dE (bZ:w≠a)) (dE (bZ:w≠s)) (dE (bZ:X≠V)) (dE (bZ:X≠b)) (dE (bZ:X≠a)) (dE (bZ:X≠s)) (dE (bZ:V≠b)) (dE (bZ:V≠a)) (dE (bZ:V≠s)) (dE (bZ:b≠a)) (dE (bZ:b≠s)) (dE (bZ:a≠s)));have Y:=xa7 Y E2 gX_2 (bP nX_2) gYb_2 (bP nYb_2) d1 (bP c0) g2;refine c8 (λh9=>?_) λh9=>?_
  .obtain ⟨k,hk⟩:∃ y,y=d.i[i]:=⟨_,rfl⟩;have b5:=f0 _ (aC h9);rw [<- hk] at b5;have S:k.toNat<h.j.i.length:=bZ;obtain ⟨y,hy⟩:=fH (h.j.i[k.toNat]);have a9:=(e6.2 _ (aC S)).2;rw [<- hy] at a9;have a1:y.B.toNat<o.h.length:=bZ;have a0:y.O.toNat<o.h.length:=bZ;have d7:eA h.j k=y:=by rw [hy];simp [eA,aA S]
   have e0:trE h o k=⟨y.type,o.h[y.B.toNat],o.h[y.O.toNat]⟩:=by unfold trE;rw [d7];simp [iA,aA a1,aA a0]
   obtain ⟨n,g⟩:∃ z:Host,z=⟨⟨x.j.h,x.j.i++[trE h o k]⟩,x.k⟩:=⟨_,rfl⟩;have B:n=bdE h d o (i+1):=by rw [g,J];unfold bdE;rw [aF h9,<- hk];simp
   have M:x.j.i.length=i:=by rw [J];simp [bdE];omega
   have C:n.j.h.length=x.j.h.length/\n.j.i.length=x.j.i.length+1/\n.k.length=x.k.length:=by rw [g];simp
   have a4:=f.gb;have b1:=f.ac a f.bc;have b2:=f.ac V f.bi;have a2:=f.ac b f.bb;have p:∀ j∈a :: V :: qs,j≠b/\j≠s/\j<H.next:=λj hj=>by
    have a3:j∈a :: b :: V :: qs:=by simp only [aS] at hj ⊢;rcases hj with h|h|h<;>simp [h]
    refine ⟨?_,E j a3,(f.ac j a3).2⟩;rintro rfl;have:=f.nd;simp only [gZ,aS,not_or] at this;simp only [aS] at hj;rcases hj with h|h|h
    .exact this.1.1 h.symm
    .exact this.2.1.1 h
    .exact this.2.1.2 h
   have f7:=xa2 (bP (bZ:s<H.next)) (bP (bZ:a<H.next)) (bP (bZ:b<H.next)) (bP (bZ:V<H.next));have Y:=xb0 Y h9 (aA h9) (Eq.symm hk) (aA S) (Eq.symm hy) (aA a1) (aA a0) a4 C @Edge.c.eq_1 f7;exact wp (h:=wx f4 (i+1) ⟨n,wg,wn,wn,wn,wn,wn,wn,wj,(by rw [g];exact f.i (by first|(simp [go_sem];done)|(simp [go_sem];omega)) (by simp [go_sem,Y,e0,Edge.c]) (λj hj=>by obtain ⟨k1,k2,Z⟩:=p j hj;simp [go_sem,k1,k2,bP Z])),(by exact B),(by intro j hj;simp [go_sem,j8,mV] at hj ⊢;first|exact ⟨bZ,q j bZ⟩|exact q j bZ|exact ⟨bZ,bZ,q j bZ⟩),(by intro j hj A;simp only [aS,eC,or_false,not_or] at A;simp [go_sem,A,bP (bZ:j<H.next)];exact P j hj (by simp [A])),(by first|(simp [go_sem];done)|(simp [go_sem];omega))⟩)
  .have hx5:x=GN t r (bdE h d o d.i.length) 0:=by rw [J,(bZ:i=d.i.length)];simp [GN,aN]
   have f6:=xa2 (bP (bZ:s<H.next)) (bP (bZ:a<H.next)) (bP (bZ:b<H.next)) (bP (bZ:V<H.next));have Y:=wa Y f6;refine wp (h:=bC (λi e H=>∃ x:Host,∃ qs:List Nat,(e 1=.ptr s 1 0 0/\e 3=.adr t.c/\e 5=.adr d.c/\e 7=.ptr w 1 0 0/\e 121=dLI r.right.j.h/\e 122=dI r.right.j.h.length/\e 123=dI i)/\(H.get w=some ⟨29,2,[r.right.j.c],false⟩)/\(w<H.next)/\(H.get s=some ⟨52,38,[stpC r m h (.own a x.j.h.length) (.own b x.j.i.length) (.own V x.k.length) o u],false⟩)/\(s<H.next)/\(i<=r.right.j.h.length)/\(HH H 0 a b V qs x)/\(x=GN t r (bdE h d o d.i.length) i)/\(∀ j∈a :: b :: V :: qs,j≠s)/\(∀ j∈qs,G.next<=j)/\(∀ j,H.next<=j->¬ H.H j)/\(∀ j,j<G.next->j∉[s,a,b,V]->H.get j=G.get j)/\(G.next<=H.next)) (λi=>r.right.j.h.length - i) 0 ⟨x,qs,wg,wn,wn,wn,wn,wi,(by exact f),(by exact hx5),(by exact E),(by exact R),(by exact q),(by exact P),(by exact N)⟩ λI4 c7 i e H e3=>?_);obtain ⟨x,qs,E4,gYb_4,nYb_4,d0,b9,hi,f,J,E,R,q,P,N⟩:=e3;have g1:=xa8 (dE (bZ:w≠V)) (dE (bZ:w≠b)) (dE (bZ:w≠a)) (dE (bZ:w≠s)) (dE (bZ:V≠b)) (dE (bZ:V≠a)) (dE (bZ:V≠s)) (dE (bZ:b≠a)) (dE (bZ:b≠s)) (dE (bZ:a≠s));have Y:=xa5 Y E4 gYb_4 (bP nYb_4) d0 (bP b9) g1;refine c8 (λW=>?_) λW=>?_
   .have hsu:=jG r.A.h i;obtain ⟨nd,c3⟩:∃ y,y=r.right.j.h[i]:=⟨_,rfl⟩;have e7:gN r.right.j (i:Int)=nd:=by rw [c3];simp [gN,aA W]
    have h1:=dJ r.A.h i;have T:i<u.h.length:=bZ;have O:=f1 i W;rw [aA T,aD] at O;have M:x.j.h.length=d.h.length+(aN r.A.h i).length/\x.k.length=x.j.h.length/\x.j.i.length<=100:=by rw [J];simp [GN,bdE];omega
    have a5:=f.ga;have a6:=f.gV;have b0:=kC f.len;have b1:=f.ac a f.bc;have b2:=f.ac V f.bi;have a2:=f.ac b f.bb;have d5:=xa2 (bP (bZ:s<H.next)) (bP (bZ:a<H.next)) (bP (bZ:b<H.next)) (bP (bZ:V<H.next));have Y:=xa7 Y W (aA W) (Eq.symm c3) (aA T) a5 a6 b0 d5;refine kI (λb7=>?_) λb7=>?_
    .have hm:mem r.A.h i=false:=O.1 (by simpa [M.1] using b7);rw [if_neg (by rw [hm];simp)] at hsu;have h4:(oU t nd).length<=8:=by unfold oU;rw [bI];exact uS hR.vf nd
     obtain ⟨n,g⟩:∃ y:Host,y=⟨⟨x.j.h++[nd],x.j.i⟩,x.k++[oU t nd]⟩:=⟨_,rfl⟩;obtain ⟨F,v⟩:∃ y,y=qs++[H.next]:=⟨_,rfl⟩;have B:n=GN t r (bdE h d o d.i.length) (i+1):=by rw [g,J];unfold GN;rw [hsu];simp [e7]
     have C:n.j.h.length=x.j.h.length+1/\n.j.i.length=x.j.i.length/\n.k.length=x.k.length+1:=by rw [g];simp
     have a8:∀ j∈a :: b :: V :: qs,j≠H.next:=λj hj=>by have:=(f.ac j hj).2;omega
     have p:∀ j∈b :: qs,j≠a/\j≠s/\j≠V/\j<H.next:=λj hj=>by
      rcases aS.1 hj with rfl|hj
      .exact ⟨bZ,bZ,bZ,a2.2⟩
      .exact ⟨(f.qn hj).1,E j (f.a6 hj),(f.qn hj).2.2,(f.ac j (f.a6 hj)).2⟩
     have K:∀ j∈a :: b :: V :: F,j≠s:=λj hj=>by
      have e:a :: b :: V :: F=(a :: b :: V :: qs)++[H.next]:=by rw [v];rfl
      rw [e,bE,bU] at hj;rcases hj with hj|rfl
      .exact E j hj
      .omega
     have L:∀ j∈F,G.next<=j:=λj hj=>by
      rw [v,bE,bU] at hj;rcases hj with hj|rfl
      .exact R j hj
      .omega
     have Y:=xa2 Y (aA W) (aA T) C;refine wp (h:=?_);refine pV H.next (G7 t ht nd) (by first|rfl|(simp [go_sem];done)) rfl (by first|omega|(simp [go_sem];done)|(first|(simp [go_sem];done)|(simp [go_sem];omega))) (by simp [j8,mV];exact q _ bZ) (by first|trivial|(simp [go_sem];done)|(simp [go_sem,BH];done)|(simp [go_sem,BH];omega)) ?_;exact wp (h:=wx c7 (i+1) ⟨n,F,wg,wn,wn,wn,wn,wj,(by first|exact l|exact l.same (by first|(simp [go_sem];done)|(simp [go_sem];omega)) (λ_ _=>rfl)|exact l.same (by first|(simp [go_sem];done)|(simp [go_sem];omega)) (λj hj=>by have:=(l.ac j hj).2;simp [go_sem,bP this])|(rw [g,v];exact f.cd (by first|(simp [go_sem];done)|(simp [go_sem];omega)) (d9 _) a8 (by first|(simp [go_sem];done)|(simp [go_sem];omega)) (by simp [go_sem,Y,cI]) (by simp [go_sem,Y]) (by simp [go_sem,Y]) (λj hj=>by obtain ⟨k1,k2,Z,k4⟩:=p j hj;simp [go_sem,k1,k2,Z,bP k4]))),(by exact B),(by exact K),(by exact L),(by intro j hj;simp [go_sem,j8,mV] at hj ⊢;first|exact ⟨bZ,q j bZ⟩|exact q j bZ),(by first|exact a7|(intro j hj A;simp only [aS,eC,or_false,not_or] at A;simp [go_sem,A,bP (bZ:j<H.next)];exact P j hj (by simp [A]))),(by first|(simp [go_sem];done)|(simp [go_sem];omega))⟩)
    .have hm:mem r.A.h i=true:=by
      cases b3:mem r.A.h i with
      | true=>rfl
      | false=>exact absurd (by simpa [M.1] using O.2 b3) b7
     rw [if_pos hm,cZ] at hsu;obtain ⟨n,g⟩:∃ y,y=x:=⟨_,rfl⟩;obtain ⟨F,v⟩:∃ y,y=qs:=⟨_,rfl⟩;have B:n=GN t r (bdE h d o d.i.length) (i+1):=by rw [g,J];unfold GN;rw [hsu]
     have l:HH H 0 a b V F n:=by rw [g,v];exact f
     have K:∀ j∈a :: b :: V :: F,j≠s:=by rw [v];exact E
     have L:∀ j∈F,G.next<=j:=by rw [v];exact R
     have a7:=P;have Y:=wa Y g;exact wp (h:=wx c7 (i+1) ⟨n,F,wg,wn,wn,wn,wn,wj,(by first|exact l|exact l.same (by first|(simp [go_sem];done)|(simp [go_sem];omega)) (λ_ _=>rfl)|exact l.same (by first|(simp [go_sem];done)|(simp [go_sem];omega)) (λj hj=>by have:=(l.ac j hj).2;simp [go_sem,bP this])|(rw [g,v];exact f.cd (by first|(simp [go_sem];done)|(simp [go_sem];omega)) (d9 _) a8 (by first|(simp [go_sem];done)|(simp [go_sem];omega)) (by simp [go_sem,Y,cI]) (by simp [go_sem,Y]) (by simp [go_sem,Y]) (λj hj=>by obtain ⟨k1,k2,Z,k4⟩:=p j hj;simp [go_sem,k1,k2,Z,bP k4]))),(by exact B),(by exact K),(by exact L),(by intro j hj;simp [go_sem,j8,mV] at hj ⊢;first|exact ⟨bZ,q j bZ⟩|exact q j bZ),(by first|exact a7|(intro j hj A;simp only [aS,eC,or_false,not_or] at A;simp [go_sem,A,bP (bZ:j<H.next)];exact P j hj (by simp [A]))),(by first|(simp [go_sem];done)|(simp [go_sem];omega))⟩)
   .have hie:i=r.right.j.h.length:=bZ;have d8:x=Q7 t r u (GN t r (bdE h d o d.i.length) r.right.j.h.length) 0:=by rw [J,hie];simp [Q7,aN]
    have d4:=xa2 (bP (bZ:s<H.next)) (bP (bZ:a<H.next)) (bP (bZ:b<H.next)) (bP (bZ:V<H.next));have Y:=wa Y d4;refine wp (h:=bC (λi e H=>∃ x:Host,(e 1=.ptr s 1 0 0/\e 3=.adr t.c/\e 5=.adr d.c/\e 174=.list (r.right.j.i.map Edge.c)/\e 175=dI r.right.j.i.length/\e 176=dI i)/\(H.get s=some ⟨52,38,[stpC r m h (.own a x.j.h.length) (.own b x.j.i.length) (.own V x.k.length) o u],false⟩)/\(s<H.next)/\(i<=r.right.j.i.length)/\(HH H 0 a b V qs x)/\(x=Q7 t r u (GN t r (bdE h d o d.i.length) r.right.j.h.length) i)/\(∀ j,j<G.next->j∉[s,a,b,V]->H.get j=G.get j)/\(G.next<=H.next)) (λi=>r.right.j.i.length - i) 0 ⟨x,wg,wn,wn,wi,(by exact f),(by exact d8),(by exact P),(by exact N)⟩ λI6 c6 i e H e2=>?_);obtain ⟨x,E6,c9,b8,hi,f,J,P,N⟩:=e2;have d6:=xa4 (dE (bZ:V≠b)) (dE (bZ:V≠a)) (dE (bZ:V≠s)) (dE (bZ:b≠a)) (dE (bZ:b≠s)) (dE (bZ:a≠s));have Y:=xa3 Y E6 c9 (bP b8) d6;refine c8 (λU=>?_) λU=>?_
    .have hsu:=jG r.A.i i;obtain ⟨y,hy⟩:=fH (r.right.j.i[i]);have c2:r.right.j.i[i]?.getD bX=y:=by rw [hy,aA U];rfl
     have a9:=(e8.2 _ (aC U)).2;rw [<- hy] at a9;have a1:y.B.toNat<u.h.length:=bZ;have a0:y.O.toNat<u.h.length:=bZ;have h2:=dJ r.A.i i;have T:i<u.i.length:=bZ;have O:=f2 i U;rw [aA T,aD] at O;have M:x.j.i.length=d.i.length+(aN r.A.i i).length:=by rw [J];simp [Q7,GN,bdE]
     have a4:=f.gb;have a2:=f.ac b f.bb;have b1:=f.ac a f.bc;have b2:=f.ac V f.bi;have d3:=xa2 (bP (bZ:s<H.next)) (bP (bZ:a<H.next)) (bP (bZ:b<H.next)) (bP (bZ:V<H.next));have Y:=xa8 Y U (aA U) (Eq.symm hy) (aA a1) (aA a0) (aA T) a4 @Edge.c.eq_1 d3;refine kI (λb6=>?_) λb6=>?_
     .have hm:mem r.A.i i=false:=O.1 (by simpa [M] using b6);rw [if_neg (by rw [hm];simp)] at hsu;have c4:freshE u y=⟨y.type,u.h[y.B.toNat],u.h[y.O.toNat]⟩:=by unfold freshE;rw [aA a1,aA a0];rfl
      obtain ⟨n,g⟩:∃ z:Host,z=⟨⟨x.j.h,x.j.i++[freshE u y]⟩,x.k⟩:=⟨_,rfl⟩;have B:n=Q7 t r u (GN t r (bdE h d o d.i.length) r.right.j.h.length) (i+1):=by rw [g,J];unfold Q7;rw [hsu];simp [c2]
      have C:n.j.h.length=x.j.h.length/\n.j.i.length=x.j.i.length+1/\n.k.length=x.k.length:=by rw [g];simp
      have p:∀ j∈a :: V :: qs,j≠b/\j≠s/\j<H.next:=λj hj=>by
       have a3:j∈a :: b :: V :: qs:=by simp only [aS] at hj ⊢;rcases hj with h|h|h<;>simp [h]
       refine ⟨?_,E j a3,(f.ac j a3).2⟩;rintro rfl;have:=f.nd;simp only [gZ,aS,not_or] at this;simp only [aS] at hj;rcases hj with h|h|h
       .exact this.1.1 h.symm
       .exact this.2.1.1 h
       .exact this.2.1.2 h
      have Y:=wa Y C;exact wp (h:=wx c6 (i+1) ⟨n,wg,wn,wn,wj,(by first|exact l|exact l.same (by first|(simp [go_sem];done)|(simp [go_sem];omega)) (λ_ _=>rfl)|exact l.same (by first|(simp [go_sem];done)|(simp [go_sem];omega)) (λj hj=>by have:=(l.ac j hj).2;simp [go_sem,bP this])|(rw [g];exact f.i (by first|(simp [go_sem];done)|(simp [go_sem];omega)) (by simp [go_sem,Y,c4,Edge.c]) (λj hj=>by obtain ⟨k1,k2,Z⟩:=p j hj;simp [go_sem,k1,k2,bP Z]))),(by exact B),(by first|exact a7|(intro j hj A;simp only [aS,eC,or_false,not_or] at A;simp [go_sem,A,bP (bZ:j<H.next)];exact P j hj (by simp [A]))),(by first|(simp [go_sem];done)|(simp [go_sem];omega))⟩)
     .have hm:mem r.A.i i=true:=by
       cases b3:mem r.A.i i with
       | true=>rfl
       | false=>exact absurd (by simpa [M] using O.2 b3) b6
      rw [if_pos hm,cZ] at hsu;obtain ⟨n,g⟩:∃ z,z=x:=⟨_,rfl⟩;have B:n=Q7 t r u (GN t r (bdE h d o d.i.length) r.right.j.h.length) (i+1):=by rw [g,J];unfold Q7;rw [hsu]
      have l:HH H 0 a b V qs n:=by rw [g];exact f
      have a7:=P;have Y:=wa Y g;exact wp (h:=wx c6 (i+1) ⟨n,wg,wn,wn,wj,(by first|exact l|exact l.same (by first|(simp [go_sem];done)|(simp [go_sem];omega)) (λ_ _=>rfl)|exact l.same (by first|(simp [go_sem];done)|(simp [go_sem];omega)) (λj hj=>by have:=(l.ac j hj).2;simp [go_sem,bP this])|(rw [g];exact f.i (by first|(simp [go_sem];done)|(simp [go_sem];omega)) (by simp [go_sem,Y,c4,Edge.c]) (λj hj=>by obtain ⟨k1,k2,Z⟩:=p j hj;simp [go_sem,k1,k2,bP Z]))),(by exact B),(by first|exact a7|(intro j hj A;simp only [aS,eC,or_false,not_or] at A;simp [go_sem,A,bP (bZ:j<H.next)];exact P j hj (by simp [A]))),(by first|(simp [go_sem];done)|(simp [go_sem];omega))⟩)
    .have hX:x=kP t r u (bdE h d o d.i.length):=by rw [J,(bZ:i=r.right.j.i.length)];rfl
     rw [hX] at f;have Y:=wa Y hX;refine wv (h:=?_);exact hQ qs _ f (by simp [go_sem,Y]) E R P N
end Go.Abs
end
