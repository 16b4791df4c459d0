/- Conditions of the program: placed, values, extensions. · Con -/
import Derived.Test.YtbgbahlipnaflaaGreatZuAG
import Derived.Test.YtbgbahlipnaflaaGreatZuAA
import Derived.Test.YtbgbahlipnaflaaGreatZuAR
import Derived.Test.YtbgbahlipnaflaaGreatZuAS
set_option linter.unusedVariables false
set_option linter.unusedSimpArgs false
section
set_option maxRecDepth 100000
set_option maxHeartbeats 4000000
open Go Go.Proofs Tryz
namespace Go.Abs
def scnC (t:Types)(h:Host)(inj:Bool):UN:=[.list (t.h.map NodeTy.c),.list (t.j.map EdgeTy.c),dLI h.i.h,.list (h.i.j.map Edge.c),.list (h.k.map cL),.bool inj]
def Ue (n i:Nat):List Bool:=List.replicate i true++List.replicate (n - i) false
theorem VW {n i:Nat}(h:i<=n):(Ue n i).length=n:=by simp [Ue];omega
theorem VV {n i:Nat}(h:i<n):(Ue n i).set i true=Ue n (i+1):=by
 unfold Ue;rw [nI _ _ aE,fI,uV,show n - i=(n - (i+1))+1 by omega,pV,wH,Bd,List.append_assoc];rfl
theorem xI (n:Nat)(m:n<=1000)(at_ a:V2)(p:∀ x∈at_,0<=x/\x<n)(u:at_.length<=a.length):Pua 416 [dI n,dLI at_,dLI a] (dLI (Ag n at_ a)):=by
 refine Tz.pK ⟨λt=>t==12,λ_=>[]⟩ func416 rfl (λQ o=>?_);have Y:=trivial;refine wv (h:=lU (Hd (-1) n m) wl ?_);refine wv (h:=?_);repeat first|intro _|refine ⟨fS,?_⟩
 refine bC (λk e H=>(e 0=dI n/\e 1=dLI at_/\e 2=dLI a/\e 7=.own 0 n/\e 13=dLI at_/\e 14=dI at_.length/\e 15=dI k)/\(H.get 0=some ⟨3,1,(Oz at_ a n k).map cI,false⟩)/\(0<H.next)/\(k<=at_.length)/\((Oz at_ a n k).length=n)) (λk=>at_.length - k) 0 ⟨wg,(by simp [go_sem,Y,Oz,cI]),wn,wi,(by exact CQ _ _ _ _)⟩ λv l k e H b=>?_;obtain ⟨q,f,c,r,g⟩:=b;have Y:=xa3 Y q f (cW c) g;refine dR (λd=>?_) λd=>?_
 .have hki:k<a.length:=aD;have s:=p _ (aC d);have j:at_[k]?.getD 0=at_[k]:=by rw [aA d];rfl
  have b:a[k]?.getD 0=a[k]:=by rw [aA hki];rfl
  have i:at_[k].toNat<(Oz at_ a n k).length:=aD;have Y:=xa3 Y d (aA d) (aA hki) (aA i);refine wv (h:=?_);repeat first|intro _|refine ⟨fS,?_⟩
  exact wx l (k+1) ⟨wg,(by simp [go_sem,Y,Hz,dB,j,b,cI]),wn,wj,(by exact CQ _ _ _ _)⟩
 .have hP:Ag n at_ a=Oz at_ a n k:=by unfold Ag Oz;rw [(aD:k=at_.length)]
  exact wv (h:=o _ _ (by simp [go_sem,Y,hP,dLI]))
theorem LO (t:Types)(inj:Bool)(p:Pattern)(h:Host)(m:Part)(T:SOk p h m)(vs:V2)(hl:vs.length<=p.vars.toNat)(hs:∀ v∈vs,-2000000<=v/\v<=2000000) :
  Pua 418 [.agg (scnC t h inj),p.d,m.d,dLI vs] (.tup [dLI (eX p h m vs).1,.bool (decide ((eX p h m vs).2=0))]):=by
 have hv:=T.vars;have h0:=Nz hv.1 hl hs;have I:LD p vs=(IR vs p.vars.toNat,Mj vs.length p.vars.toNat):=by unfold LD;rw [Mi _ _ hl];rfl
 have a4:(p.vars - (vs.length:Int)).toNat=p.vars.toNat - vs.length:=aD;have a3:vs.length+(p.vars.toNat - vs.length)=p.vars.toNat:=aD;have b0:(vs.map cI++List.replicate (p.vars.toNat - vs.length) [D.int .i64 0])=(IR vs p.vars.toNat).map cI:=by simp [IR,cI]
 refine Kp (by first|rfl|(simp [go_sem];done)) (λQ Z=>ACalls.cE 1 (Tz.cK ⟨λt=>t==22||t==11||t==14||t==20,λr=>match r with|1=>[(1,2),(1,3),(1,5)]|_=>[]⟩ func418 rfl ?_));have Y:=xa6 a4 a3 @Pattern.d.eq_1 @Pattern.c.eq_1 @scnC.eq_1 @Part.d.eq_1 @Part.c.eq_1 @Term.c.eq_1;refine wv (h:=?_);repeat first|intro _|refine ⟨fS,?_⟩
 refine mQ 0 (gG vs aD) (by first|rfl|(simp [go_sem];done)) rfl (by first|omega|simp [go_sem]) (by simp [lO,n8,y9,uK]) (by first|trivial|(simp [go_sem];done)|simp [go_sem,o6]) ?_;refine wv (h:=?_);repeat first|intro _|refine ⟨fS,?_⟩
 refine bC (λi e H=>(e 4=.adr (scnC t h inj)/\e 5=.adr p.c/\e 6=.adr m.c/\e 3=dLI vs/\e 10=.own 0 p.vars.toNat/\e 11=.own 10 p.vars.toNat/\e 33=dI vs.length/\e 34=dI i)/\(H.get 0=some ⟨3,1,(IR vs p.vars.toNat).map cI,false⟩)/\(0<H.next)/\(H.get 10=some ⟨4,1,(Ue p.vars.toNat i).map cB,false⟩)/\(10<H.next)/\(i<=vs.length)) (λi=>vs.length - i) 0 ⟨wg,(by simp [go_sem,Y,b0]),wn,(by simp [go_sem,Ue,cB]),wn,wi⟩ λI0 b8 i e H b3=>?_;obtain ⟨E0,a8,a2,X,L,hi⟩:=b3;have Y:=xa4 Y E0 a8 (cW a2) X (cW L);refine dR (λh4=>?_) λh4=>?_
 .have hTl:=VW (n:=p.vars.toNat) (i:=i) aD;have b5:i<(Ue p.vars.toNat i).length:=aD;have b4:((Ue p.vars.toNat i).map cB).set i [.bool true]=(Ue p.vars.toNat (i+1)).map cB:=by rw [<- VV aD,dB];rfl
  have Y:=xa3 Y h4 hTl (aA b5) b4;refine wv (h:=?_);repeat first|intro _|refine ⟨fS,?_⟩
  exact wx b8 (i+1) ⟨wg,wn,wn,(by simp [go_sem,Y]),wn,wj⟩
 .have hie:i=vs.length:=aD;have b6:Ue p.vars.toNat i=Mj vs.length p.vars.toNat:=by rw [hie,Mi _ _ hl];rfl
  have Y:=wa Y b6;refine wv (h:=?_);repeat first|intro _|refine ⟨fS,?_⟩
  refine bC (λi e H=>∃ l:V2 × List Bool,(e 4=.adr (scnC t h inj)/\e 5=.adr p.c/\e 6=.adr m.c/\e 3=dLI vs/\e 10=.own 0 p.vars.toNat/\e 11=.own 10 p.vars.toNat/\e 42=.list (p.o.map Slot.c)/\e 43=dI p.o.length/\e 44=dI i)/\(H.get 0=some ⟨3,1,l.1.map cI,false⟩)/\(0<H.next)/\(H.get 10=some ⟨4,1,l.2.map cB,false⟩)/\(10<H.next)/\(i<=p.o.length)/\(StOk p.vars.toNat l)/\(slotsV h m (LD p vs) (p.o.take i)=some l)) (λi=>p.o.length - i) 0 ⟨((IR vs p.vars.toNat,Mj vs.length p.vars.toNat)),wg,(by simp [go_sem,Y]),wn,(by simp [go_sem,Y]),wn,wi,(by rw [<- I];exact h0),(by rw [I];rfl)⟩ λI2 F i e H b2=>?_;obtain ⟨l,E2,a7,a1,W,K,hi,s,N⟩:=b2;have Y:=xa4 Y E2 a7 (cW a1) W (cW K);refine dR (λG=>?_) λG=>?_
  .obtain ⟨x,hx⟩:=c6 (p.o[i]);have C:x∈p.o:=hx ▸ aC G;have hn:=T.node x C;have u:x.node.toNat<m.h.length:=aD;have hk:=T.bO _ (aC u);have A:(m.h[x.node.toNat]).toNat<h.k.length:=aD;have ha:=T.H x C;rw [aA u,Option.getD_some,aA A,Option.getD_some] at ha;have E:x.H.toNat<(h.k[(m.h[x.node.toNat]).toNat]).length:=aD;have hV:haveV h m x=h.k[(m.h[x.node.toNat]).toNat][x.H.toNat]:=by unfold haveV;rw [aA u,Option.getD_some,aA A,Option.getD_some,aA E];rfl
   have hb:=T.cA C;have R:=T.y x C;have z:=s.l1;have O:=s.l2;have c1:=R.1;have c2:=R.2;have o:=uY G N;rw [<- hx] at o;obtain ⟨q,f⟩:∃ y,y=lX h m l x:=⟨_,rfl⟩;have j:StOk p.vars.toNat q:=f ▸ zU s hb R;rw [<- f] at o;have g:¬ 0<=x.y.O->q=l:=λhn=>by rw [f];unfold lX lT;rw [if_neg (by simp [hn])]
   have J:0<=x.y.O->x.y.O.toNat<l.2.length:=λhn=>by omega
   obtain ⟨kb,a5⟩:=c6 (l.2[x.y.O.toNat]?.getD false);have P:0<=x.y.O\/(¬ 0<=x.y.O/\l.2[x.y.O.toNat]?=none)\/(¬ 0<=x.y.O/\l.2[x.y.O.toNat]?=some kb):=by
    by_cases M:0<=x.y.O
    .exact .inl M
    .right
     cases ho:l.2[x.y.O.toNat]? with
     | none=>exact .inl ⟨M,rfl⟩
     | some b=>rw [ho] at a5;exact .inr ⟨M,by rw [a5];rfl⟩
   rcases P with hc|hc|hc
   .have Y:=xa3 Y G (aA G) (Eq.symm hx) (xb0 (aA u) (aA A) (aA E) (Eq.symm hV) @Slot.c.eq_1 @cL.eq_1 z O @lC @cB.eq_1 hc ((aA (J hc))));refine wv (h:=?_);repeat first|intro _|refine ⟨fS,?_⟩
    refine wq (λV=>?_) λV=>?_
    .have hF:lT l x=true:=by simp only [lT,aL,decide_eq_true_eq,cX];exact ⟨hc,by simpa [aA (J hc)] using V⟩
     unfold lX at f;rw [if_pos hF] at f;have a9:x.y.O.toNat<l.1.length:=aD;have e1:q.1.map cI=(l.1.map cI).set x.y.O.toNat (cI (haveV h m x - x.y.add)):=by rw [f,dB]
     have e2:q.2.map cB=(l.2.map cB).set x.y.O.toNat (cB true):=by rw [f,dB]
     have c0:D.R ((l.1.map cI).set x.y.O.toNat [D.int .i64 (haveV h m x - x.y.add)])=true:=by have:=rX q.1;rw [e1] at this;exact this
     have Y:=xa5 Y e1 e2 @dLI.eq_1 @cI.eq_1 (aA a9) c0;refine wv (h:=?_);repeat first|intro _|refine ⟨fS,?_⟩
     refine eH (n7 x.y q.1 (by rw [j.l1];exact R) j.bo) wr wl rfl ?_;refine wv (h:=?_);repeat first|intro _|refine ⟨fS,?_⟩
     refine wq (λa=>?_) λa=>?_
     .have hR:=eW (o.2 (by first|simpa using a|simpa [g hc.1] using a|simpa [f] using a));exact wv (h:=Z _ _ (by simp [go_sem,hR]))
     .have hstep:=o.1 (by first|simpa using a|simpa [g hc.1] using a|simpa [f] using a);refine wv (h:=?_);repeat first|intro _|refine ⟨fS,?_⟩
      exact wx F (i+1) ⟨q,wg,(by simp [go_sem,Y]),wn,(by simp [go_sem,Y]),wn,wj,(by exact j),(by exact hstep)⟩
    .have hF:¬ lT l x=true:=by simp only [lT,aL,decide_eq_true_eq,cX];rintro ⟨_,hk⟩;simp [aA (J hc)] at hk;simp [hk] at V
     unfold lX at f;rw [if_neg hF] at f;have Y:=wa Y f;refine wv (h:=eH (n7 x.y q.1 (by rw [j.l1];exact R) j.bo) wr wl rfl ?_);refine wv (h:=?_);repeat first|intro _|refine ⟨fS,?_⟩
     refine wq (λa=>?_) λa=>?_
     .have hR:=eW (o.2 (by first|simpa using a|simpa [g hc.1] using a|simpa [f] using a));exact wv (h:=Z _ _ (by simp [go_sem,hR]))
     .have hstep:=o.1 (by first|simpa using a|simpa [g hc.1] using a|simpa [f] using a);refine wv (h:=?_);repeat first|intro _|refine ⟨fS,?_⟩
      exact wx F (i+1) ⟨q,wg,(by simp [go_sem,Y]),wn,(by simp [go_sem,Y]),wn,wj,(by exact j),(by exact hstep)⟩
   .have Y:=xa4 Y G (aA G) (Eq.symm hx) (aA u) (xb0 (aA A) (aA E) (Eq.symm hV) @Slot.c.eq_1 @cL.eq_1 z O @lC @cB.eq_1 hc.1 hc.2 (g hc.1));refine wv (h:=?_);repeat first|intro _|refine ⟨fS,?_⟩
    refine eH (n7 x.y q.1 (by rw [j.l1];exact R) j.bo) wr wl rfl ?_;refine wv (h:=?_);repeat first|intro _|refine ⟨fS,?_⟩
    refine wq (λa=>?_) λa=>?_
    .have hR:=eW (o.2 (by first|simpa using a|simpa [g hc.1] using a|simpa [f] using a));exact wv (h:=Z _ _ (by simp [go_sem,hR]))
    .have hstep:=o.1 (by first|simpa using a|simpa [g hc.1] using a|simpa [f] using a);refine wv (h:=?_);repeat first|intro _|refine ⟨fS,?_⟩
     exact wx F (i+1) ⟨q,wg,(by simp [go_sem,Y]),wn,(by simp [go_sem,Y]),wn,wj,(by exact j),(by exact hstep)⟩
   .have Y:=xa4 Y G (aA G) (Eq.symm hx) (aA u) (xb0 (aA A) (aA E) (Eq.symm hV) @Slot.c.eq_1 @cL.eq_1 z O @lC @cB.eq_1 hc.1 hc.2 (g hc.1));refine wv (h:=?_);repeat first|intro _|refine ⟨fS,?_⟩
    refine eH (n7 x.y q.1 (by rw [j.l1];exact R) j.bo) wr wl rfl ?_;refine wv (h:=?_);repeat first|intro _|refine ⟨fS,?_⟩
    refine wq (λa=>?_) λa=>?_
    .have hR:=eW (o.2 (by first|simpa using a|simpa [g hc.1] using a|simpa [f] using a));exact wv (h:=Z _ _ (by simp [go_sem,hR]))
    .have hstep:=o.1 (by first|simpa using a|simpa [g hc.1] using a|simpa [f] using a);refine wv (h:=?_);repeat first|intro _|refine ⟨fS,?_⟩
     exact wx F (i+1) ⟨q,wg,(by simp [go_sem,Y]),wn,(by simp [go_sem,Y]),wn,wj,(by exact j),(by exact hstep)⟩
  .rw [aG aD] at N;have S:=p5 N;have z:=s.l1;have Y:=wa Y z;refine wv (h:=?_);repeat first|intro _|refine ⟨fS,?_⟩
   refine bC (λk e H=>(e 4=.adr (scnC t h inj)/\e 5=.adr p.c/\e 6=.adr m.c/\e 3=dLI vs/\e 10=.own 0 p.vars.toNat/\e 102=.list (p.E.map Test.c)/\e 103=dI p.E.length/\e 104=dI k)/\(H.get 0=some ⟨3,1,l.1.map cI,false⟩)/\(0<H.next)/\(k<=p.E.length)/\((p.E.take k).all (λx=>A6 x l.1)=true)) (λk=>p.E.length - k) 0 ⟨wg,wn,wn,wi,(by rfl)⟩ λI4 b7 k e H b1=>?_;obtain ⟨E4,a6,a0,hk,B⟩:=b1;have Y:=xa2 Y E4 a6 (cW a0);refine dR (λw=>?_) λw=>?_
   .have hX:=T.d2 _ (aC w);have Y:=xa2 Y w (aA w) @Test.c.eq_1;refine wv (h:=?_);repeat first|intro _|refine ⟨fS,?_⟩
    refine eH (xG p.E[k] l.1 (by rw [s.l1];exact hX) s.bo) wr wl rfl ?_;refine wv (h:=?_);repeat first|intro _|refine ⟨fS,?_⟩
    refine wq (λU=>?_) λU=>?_
    .have hR:eX p h m vs=([],16):=by
      rw [S,if_neg];intro ha;rw [b9] at ha;have:=ha _ (aC w);simp [this] at U
     exact wv (h:=Z _ _ (by simp [go_sem,hR]))
    .refine wv (h:=?_);repeat first|intro _|refine ⟨fS,?_⟩
     exact wx b7 (k+1) ⟨wg,wn,wn,wj,(by rw [List.take_succ_eq_append_getElem w,oW,B];simp;simpa using U)⟩
   .rw [aG aD] at B;rw [if_pos B] at S;exact wv (h:=Z _ _ (by simp [go_sem,Y,S,dLI]))
theorem D1 (t:Types)(K:t.ok)(p:Pattern)(c:Cond)(u:ExOk t p c.map c.l)(h:Host)(L:HostOk t h)(m:Mat)(w:MatOk t p h m)(inj:Bool) :
  Pua 410 [.agg (scnC t h inj),.agg c.c,m.d] (.tup [.list ((zI t c.map c.l h m inj).1.map Mat.c),dI (zI t c.map c.l h m inj).2]):=by
 obtain ⟨⟨R,P⟩,D,C⟩:=u.bO;have k:=bI u.pq.gg;have N:=w.gi.len;have M:=w.gi.cb;refine Tz.pK ⟨λt=>t==8||t==9||t==12||t==14,λr=>match r with|2=>[(0,21),(1,21),(2,21),(3,21),(4,21),(5,21),(6,21),(7,21),(8,21),(9,21),(10,21),(11,21),(12,21),(13,21),(14,21),(15,21),(16,21),(17,21),(18,21),(19,21)]|_=>[]⟩ func410 rfl (λQ G=>?_);obtain ⟨X,z⟩:=c6 (oS t c.l.i h.i (qE c.map c.l m.m) inj);have F:∀ x∈X.1,MOk t c.l.i h.i x:=λx J=>Ih (z ▸ J);have S:X.1.length<=5000:=z ▸ R5 _ _ _ _ _;have A:m.vars.length<=c.l.vars.toNat:=by have:=w.vl;have:=u.pv;have:=u.p0;omega
 have g:zI t c.map c.l h m inj=if X.2≠0 then ([],X.2) else (tP c.l h m.vars X.1,0):=by unfold zI;rw [<- z]
 have Y:=xa2 @Cond.x @scnC.eq_1 @Mat.d.eq_1 @Mat.c.eq_1;refine wp (h:=aI (xI c.l.i.h.length aD c.map.h m.m.h D aD) wl ?_);refine wp (h:=aI (xI c.l.i.j.length aD c.map.j m.m.j C aD) wl ?_);refine wp (h:=aB ((by have k:=Je t K c.l.i h.i (qE c.map c.l m.m) inj;rw [<- z] at k;unfold qE Types.d Types.c Graph.d Graph.c Part.d Part.c dLI at k;exact k)) wl ?_);refine mA (λI=>?_) λI=>?_
 .rw [if_pos I] at g;exact wv (h:=G _ _ (by simp [go_sem,g]))
 .rw [if_neg aD] at g;refine wp (h:=bC (λi e H=>∃ j:List Mat,(e 3=.adr (scnC t h inj)/\e 4=.adr c.c/\e 5=.adr m.c/\e 57=.list (X.1.map Part.c)/\e 58=dI X.1.length/\e 12=.own 24 j.length/\e 59=dI i)/\(H.get 24=some ⟨55,3,j.map Mat.c,false⟩)/\(24<H.next)/\(i<=X.1.length)/\(j=tP c.l h m.vars (X.1.take i))/\(j.length<=i)) (λi=>X.1.length - i) 0 ⟨([]),wg,wn,wn,wi,(by rfl),(by simp)⟩ λV s i e H E=>?_);obtain ⟨j,T,o,l,U,f,O⟩:=E;have Y:=xa2 Y T o (cW l);refine dR (λq=>?_) λq=>?_
  .obtain ⟨v,B⟩:=c6 (eX c.l h X.1[i] m.vars);obtain ⟨b,a⟩:∃ y,y=j++if v.2=0 then [(⟨X.1[i],v.1⟩:Mat)] else []:=⟨_,rfl⟩
   have Y:=xa3 Y q (aA q) @Part.c.eq_1 @Pattern.c.eq_1;refine wp (h:=aB ((by have k:=LO t inj c.l h X.1[i] (V3 u.pq L (F _ (aC q))) m.vars A w.vs;rw [<- B] at k;unfold scnC Pattern.d Pattern.c Part.d Part.c dLI at k;exact k)) wl ?_);refine mA (λn=>?_) λn=>?_
   .have hm3:b=j++[⟨X.1[i],v.1⟩]:=by rw [a,if_pos (bZ n)]
    have Y:=wa Y hm3;exact wp (h:=wx s (i+1) ⟨b,wg,wn,wn,wj,(by rw [List.take_succ_eq_append_getElem q,nK,<- f,<- B];exact a),(by rw [a];split<;>simp<;>omega)⟩)
   .have hm3:b=j:=by rw [a,if_neg (bZ n),dL]
    have Y:=wa Y hm3;exact wp (h:=wx s (i+1) ⟨b,wg,wn,wn,wj,(by rw [List.take_succ_eq_append_getElem q,nK,<- f,<- B];exact a),(by rw [a];split<;>simp<;>omega)⟩)
  .rw [aG aD] at f;exact wv (h:=G _ _ (by simp [go_sem,Y,g,<- f]))
def PU (t:Types)(h:Host)(inj:Bool)(c:Cond)(m:Mat):Prf × Int:=if (pX t h inj c m).2=0 then pX t h inj c m else (kJ,(pX t h inj c m).2)
def IX (W:Prf × Int):Prf × Int:=if W.2=0 then W else (kJ,W.2)
theorem T2 (t:Types)(h:Host)(inj:Bool)(c:Cond)(m:Mat):PU t h inj c m=IX (pX t h inj c m):=rfl
theorem DR (t:Types)(h:Host)(inj:Bool)(c:Cond)(m:Mat):∃ wc wm wk we,PU t h inj c m=(Prf.mk wc wm wk,we)/\(pX t h inj c m).2=we/\(we=0->pX t h inj c m=(Prf.mk wc wm wk,we)):=by
 cases d:PU t h inj c m with
 | mk a b =>
  cases a with
  | mk wc wm wk =>
   refine ⟨wc,wm,wk,b,rfl,?_,?_⟩
   .unfold PU at d;split at d
    .rw [d]
    .exact congrArg Prod.snd d
   .intro h0;unfold PU at d;split at d
    .exact d
    .rename_i h1;have:=congrArg Prod.snd d;simp only at this;exact absurd (this.trans h0) h1
theorem G3 (t:Types)(ht:t.ok)(h:Host)(M:HostOk t h)(inj:Bool)(c:Cond)(p:Pattern)(P:CondV t p c)(hp:PatOk t p)(f:c.B=5)
  (V:∀ k∈c.u,∀ m:Mat,MatOk t c.l h m->Pua 331 [.agg (scnC t h inj),.agg k.c,m.d] (.tup [.agg (PU t h inj k m).1.c,dI (PU t h inj k m).2])) (m:Mat) (N:MatOk t p h m) :
  Pua 379 [.agg (scnC t h inj),.agg c.c,m.d] (.tup [.agg (PU t h inj c m).1.c,dI (PU t h inj c m).2]):=by
 obtain ⟨J,a0⟩:=P.db;have o:=Cp t h inj c m;rw [T2];obtain ⟨W,I⟩:=c6 (pX t h inj c m);rw [<- I] at o ⊢;obtain ⟨O,a1⟩:=P.ex f hp;have C:0<c.u.length:=by have:=J (.inr f);omega
 obtain ⟨w,b⟩:∃ k,k=c.u[0]:=⟨_,rfl⟩;have D:w∈c.u:=b ▸ aC C;obtain ⟨X,G⟩:=c6 (zI t c.map c.l h m inj);have F:∀ x∈X.1,MatOk t c.l h x:=G ▸ R6 O M N;rw [if_neg aD,if_neg aD,if_neg aD,if_pos f,AS C,<- b,<- G] at o;refine vY (by first|rfl|(simp [go_sem];done)) (λQ y=>(Tz.cK ⟨λt=>t==6||t==11||t==12,λr=>match r with|7=>[(0,10),(1,10),(2,10),(3,10),(4,10),(5,10),(6,10)]|_=>[]⟩ func379 rfl ?_));have Y:=xa6 @Cond.x @scnC.eq_1 @Mat.d.eq_1 @Mat.c.eq_1 @Prf.x (aA C) (Eq.symm b) f;refine wv (h:=aB ((by have g:=D1 t ht p c O h M m N inj;rw [<- G,Cond.x,f] at g;unfold scnC Mat.d Mat.c dLI dI at g;exact g)) wl ?_);refine dR (λA=>?_) λA=>?_
 .rw [if_pos (bZ A)] at o;have j:IX W=(kJ,X.2):=by rw [o];unfold IX;rw [if_neg (bZ A)]
  refine wv (h:=?_);exact y _ _ (by simp [go_sem,Y,j,kJ,jJ,Prf.x,mL,iU,fD,dLI,eY,gK])
 .rw [if_neg (bZ A)] at o;refine wv (h:=?_);repeat first|intro _|refine ⟨fS,?_⟩
  refine bC (λi e H=>(e 3=.adr (scnC t h inj)/\e 4=.adr c.c/\e 5=.adr m.c/\e 6=.ptr 0 1 0 0/\e 25=.list (X.1.map Mat.c)/\e 26=dI X.1.length/\e 27=dI i)/\(H.get 0=some ⟨299,5,[[dI 0,.nil,.nil,.nil,.nil]],false⟩)/\(0<H.next)/\(i<=X.1.length)/\(Wz ((X.1.drop i).map λx=>(x,pX t h inj w x))=W)) (λi=>X.1.length - i) 0 ⟨wg,wn,wn,wi,(by exact o.symm)⟩ λI0 K i e H E=>?_;obtain ⟨E0,v,s,hi,z⟩:=E;have Y:=xa2 Y E0 v (cW s);refine dR (λf=>?_) λf=>?_
  .obtain ⟨T,R,S,q,Z,u,B⟩:=DR t h inj w X.1[i];have l:i<X.1.length:=f;have a:=z;rw [xF _ l] at a;simp only [Wz] at a;have U:=nxs H.next;have Y:=xa2 Y f (aA l) U;refine wv (h:=?_);repeat first|intro _|refine ⟨fS,?_⟩
   refine aI ((by have g:=V w D X.1[i] (F _ (aC l));simp only [Z,Prf.x,Cond.x] at g;unfold scnC Mat.d Mat.c dLI dI at g;exact g)) wl ?_;refine wv (h:=?_);repeat first|intro _|refine ⟨fS,?_⟩
   refine wq (λL=>?_) λL=>?_
   .have h8':q=0:=by simpa using L
    rw [B h8'] at a;simp only at a;rw [if_pos aD] at a;have j:IX W=(Prf.mk 0 X.1[i] [Prf.mk T R S],0):=by rw [<- a,h8'];rfl
    refine wv (h:=?_);exact y _ _ (by simp [go_sem,Y,j,kJ,jJ,Prf.x,mL,iU,fD,dLI,eY,gK])
   .have h8':q≠0:=by simpa using L
    refine dR (λn=>?_) λn=>?_
    .have h10':q≠10:=by simpa using n
     rw [u,if_pos h10'] at a;have j:IX W=(kJ,q):=by rw [<- a];unfold IX;rw [if_neg h8']
     refine wv (h:=?_);exact y _ _ (by simp [go_sem,Y,j,kJ,jJ,Prf.x,mL,iU,fD,dLI,eY,gK])
    .have h10':q=10:=by simpa using n
     rw [u,if_neg aD] at a;refine wv (h:=?_);repeat first|intro _|refine ⟨fS,?_⟩
     exact wx K (i+1) ⟨wg,wn,wn,wj,(by exact a)⟩
  .rw [kG aD] at z;simp only [jY,Wz] at z;have j:IX W=(kJ,10):=by rw [<- z];rfl
   have Y:=wa Y f;refine wv (h:=?_);exact y _ _ (by simp [go_sem,Y,j,kJ,jJ,Prf.x,mL,iU,fD,dLI,eY,gK])
theorem Jf (t:Types)(ht:t.ok)(h:Host)(ho:HostOk t h)(inj:Bool):∀ (c:Cond) (p:Pattern),CondV t p c->PatOk t p->∀ m:Mat,MatOk t p h m ->
  Pua 331 [.agg (scnC t h inj),.agg c.c,m.d] (.tup [.agg (PU t h inj c m).1.c,dI (PU t h inj c m).2]):=by
 refine jU λc ih p E S m hm=>?_;obtain ⟨a6,b1⟩:=E.db;have T:c.u.length<=1000000:=by have:=O0 c.u;have:=xU c;have:=E.Y;omega
 have D:c.B=5->Pua 379 [.agg (scnC t h inj),.agg c.c,m.d] (.tup [.agg (PU t h inj c m).1.c,dI (PU t h inj c m).2]):=λF=>by
  obtain ⟨hE,v⟩:=E.ex F S;exact G3 t ht h ho inj c p E S F (λk hk m' a1=>ih k hk c.l (v k hk) hE.pq m' a1) m hm
 have j:=Cp t h inj c m;rw [T2] at D ⊢;obtain ⟨W,a5⟩:=c6 (pX t h inj c m);rw [<- a5] at j D ⊢;refine vY (by first|rfl|(simp [go_sem];done)) (λQ y=>(Tz.cK ⟨λt=>t==6||t==8||t==10||t==12||t==13||t==16||t==17,λr=>match r with|3=>[(0,10),(1,10),(2,10),(3,10),(4,10),(5,10),(6,10)]|_=>[]⟩ func331 rfl ?_));have Y:=xa3 @Cond.x @scnC.eq_1 @Mat.d.eq_1 @Mat.c.eq_1 @Prf.x;refine dR (λh2=>?_) λh2=>?_
 .have h2':c.B=2:=by simpa using h2
  have hl:0<c.u.length:=by have:=a6 (.inl h2');omega
  obtain ⟨k0,u⟩:∃ k,k=c.u[0]:=⟨_,rfl⟩;have U:k0∈c.u:=u ▸ aC hl;have a9:=E.et aD k0 U;obtain ⟨wc,wm,wk,q,R,n,A⟩:=DR t h inj k0 m;rw [if_pos h2',AS hl,<- u,n] at j;unfold Wj at j;have Y:=xa2 Y (aA hl) (Eq.symm u) h2';refine wp (h:=aI ((by have o:=ih k0 U p a9 S m hm;simp only [R,Prf.x,Cond.x] at o;unfold scnC Mat.d Mat.c dLI dI at o;exact o)) wl ?_);refine mA (λF=>?_) λF=>?_
  .rw [if_pos (bZ F)] at j;have l:IX W=(kJ,10):=by rw [j];rfl
   refine wv (h:=?_);exact y _ _ (by simp [go_sem,Y,l,kJ,jJ,Prf.x,mL,iU,fD,dLI,eY,gK])
  .rw [if_neg (bZ F)] at j;refine dR (λh7=>?_) λh7=>?_
   .rw [if_pos (bZ h7)] at j;have l:IX W=(kJ,0):=by rw [j];rfl
    refine wv (h:=?_);exact y _ _ (by simp [go_sem,Y,l,kJ,jJ,Prf.x,mL,iU,fD,dLI,eY,gK])
   .rw [if_neg (bZ h7)] at j;have l:IX W=(kJ,q):=by rw [j];unfold IX;rw [if_neg (bZ F)]
    refine wv (h:=?_);exact y _ _ (by simp [go_sem,Y,l,kJ,jJ,Prf.x,mL,iU,fD,dLI,eY,gK])
 .have h2':c.B≠2:=by simpa using h2
  rw [if_neg h2'] at j;refine dR (λL=>?_) λL=>?_
  .have h10':c.B=3:=by simpa using L
   have v:=E.et aD;rw [if_pos h10'] at j;have Y:=wa Y h10';refine wp (h:=rE (Ghosts.step (Ghosts.refl _) 1 0 4 299 5 _ _ ((by simp [go_sem];rfl)) rfl rfl rfl) (λi e H=>∃ C:List Prf,(e 3=.adr (scnC t h inj)/\e 4=.adr c.c/\e 5=.adr m.c/\e 6=.ptr 0 1 0 0/\e 20=dI c.B/\e 10=.ptr 1 1 0 0/\e 45=.list (c.u.map Cond.c)/\e 46=dI c.u.length/\e 47=dI i)/\(H.get 0=some ⟨299,5,[[dI 0,.nil,.nil,.nil,.nil]],false⟩)/\(0<H.next)/\(H.get 1=some ⟨299,5,[[dI 0,.nil,.nil,.nil,.own 2 C.length]],false⟩)/\(1<H.next)/\(H.get 2=some ⟨299,5,C.map Prf.c,false⟩)/\(2<H.next)/\(i<=c.u.length)/\(MU ((c.u.drop i).map λk=>pX t h inj k m) C=W)/\(C.length<=i)/\(c.u.length<=1000000)) (λi=>c.u.length - i) 0 ⟨([]),wg,wn,wn,wn,wn,wn,wn,wi,(by exact j.symm),aE,(by exact T)⟩ λI2 a8 i e H a4=>?_);obtain ⟨C,E2,a0,P,X,N,V,M,hi,B,b0,a2⟩:=a4;have Y:=xa6 Y E2 a0 (cW P) X (cW N) V (cW M);refine dR (λx=>?_) λx=>?_
   .obtain ⟨z,g⟩:∃ k,k=c.u[i]:=⟨_,rfl⟩;have s:z∈c.u:=g ▸ aC x;obtain ⟨wc,wm,wk,q,R,n,A⟩:=DR t h inj z m;have f:=B;rw [xF _ x,<- g] at f;simp only [MU] at f;have Y:=xa2 Y x (aA x) (Eq.symm g);refine wp (h:=aB ((by have o:=ih z s p (v z s) S m hm;simp only [R,Prf.x,Cond.x] at o;unfold scnC Mat.d Mat.c dLI dI at o;exact o)) wl ?_);refine mA (λK=>?_) λK=>?_
    .have h16':q≠0:=by simpa using K
     rw [n,if_pos h16'] at f;have l:IX W=(kJ,q):=by rw [<- f];unfold IX;rw [if_neg h16']
     refine wv (h:=?_);exact y _ _ (by simp [go_sem,Y,l,kJ,jJ,Prf.x,mL,iU,fD,dLI,eY,gK])
    .have h16':q=0:=by simpa using K
     rw [n,if_neg aD,A h16'] at f;exact wp (h:=wx a8 (i+1) ⟨(C++[.mk wc wm wk]),wg,wn,wn,wn,wn,wn,wn,wj,(by exact f),(by simp;omega),(by exact a2)⟩)
   .rw [kG aD] at B;simp only [jY,MU] at B;have l:IX W=(.mk 0 jJ C,0):=by rw [<- B];rfl
    refine wv (h:=?_);exact y _ _ (by simp [go_sem,Y,l,kJ,jJ,Prf.x,mL,iU,fD,dLI,eY,gK])
  .have h10':c.B≠3:=by simpa using L
   rw [if_neg h10'] at j;refine dR (λJ=>?_) λJ=>?_
   .have h21':c.B=4:=by simpa using J
    have v:=E.et aD;rw [if_pos h21'] at j;have Y:=wa Y h21';refine wp (h:=bC (λi e H=>(e 3=.adr (scnC t h inj)/\e 4=.adr c.c/\e 5=.adr m.c/\e 6=.ptr 0 1 0 0/\e 20=dI c.B/\e 73=.list (c.u.map Cond.c)/\e 74=dI c.u.length/\e 75=dI i)/\(H.get 0=some ⟨299,5,[[dI 0,.nil,.nil,.nil,.nil]],false⟩)/\(0<H.next)/\(i<=c.u.length)/\(Wb ((c.u.drop i).map λk=>pX t h inj k m) i=W)) (λi=>c.u.length - i) 0 ⟨wg,wn,wn,wi,(by exact j.symm)⟩ λI4 a7 i e H a3=>?_);obtain ⟨E4,Z,O,hi,B⟩:=a3;have Y:=xa2 Y E4 Z (cW O);refine dR (λw=>?_) λw=>?_
    .obtain ⟨z,g⟩:∃ k,k=c.u[i]:=⟨_,rfl⟩;have s:z∈c.u:=g ▸ aC w;obtain ⟨wc,wm,wk,q,R,n,A⟩:=DR t h inj z m;have f:=B;rw [xF _ w,<- g] at f;simp only [Wb] at f;have Y:=xa2 Y w (aA w) (Eq.symm g);refine wp (h:=aB ((by have o:=ih z s p (v z s) S m hm;simp only [R,Prf.x,Cond.x] at o;unfold scnC Mat.d Mat.c dLI dI at o;exact o)) wl ?_);refine mA (λR1=>?_) λR1=>?_
     .have h26':q=0:=by simpa using R1
      rw [A h26'] at f;simp only at f;rw [if_pos aD] at f;have l:IX W=(.mk i jJ [.mk wc wm wk],0):=by rw [<- f,h26'];rfl
      refine wv (h:=?_);exact y _ _ (by simp [go_sem,Y,l,kJ,jJ,Prf.x,mL,iU,fD,dLI,eY,gK])
     .have h26':q≠0:=by simpa using R1
      refine dR (λI=>?_) λI=>?_
      .have h28':q≠10:=by simpa using I
       rw [n,if_pos h28'] at f;have l:IX W=(kJ,q):=by rw [<- f];unfold IX;rw [if_neg h26']
       refine wv (h:=?_);exact y _ _ (by simp [go_sem,Y,l,kJ,jJ,Prf.x,mL,iU,fD,dLI,eY,gK])
      .have h28':q=10:=by simpa using I
       rw [n,if_neg aD] at f;exact wp (h:=wx a7 (i+1) ⟨wg,wn,wn,wj,(by exact f)⟩)
    .rw [kG aD] at B;simp only [jY,Wb] at B;have l:IX W=(kJ,10):=by rw [<- B];rfl
     refine wv (h:=?_);exact y _ _ (by simp [go_sem,Y,l,kJ,jJ,Prf.x,mL,iU,fD,dLI,eY,gK])
   .have h21':c.B≠4:=by simpa using J
    rw [if_neg h21'] at j;refine dR (λG=>?_) λG=>?_
    .have h32':c.B=5:=by simpa using G
     obtain ⟨vc,vm,vk,ve,hV⟩:∃ vc vm vk ve,IX W=(Prf.mk vc vm vk,ve):=by
      cases hh:IX W with
      | mk a b=>cases a;exact ⟨_,_,_,_,rfl⟩
     have Y:=wa Y h32';refine wv (h:=aB ((by have o:=D h32';simp only [hV,Prf.x,Cond.x,h32'] at o;unfold scnC Mat.d Mat.c dLI dI at o;exact o)) wl ?_);refine wv (h:=?_);exact y _ _ (by simp [go_sem,Y,hV,kJ,jJ,Prf.x,mL,iU,fD,dLI,eY,gK])
    .have h32':c.B≠5:=by simpa using G
     rw [if_neg h32'] at j;have l:IX W=(kJ,0):=by rw [j];rfl
     refine wv (h:=?_);exact y _ _ (by simp [go_sem,Y,l,kJ,jJ,Prf.x,mL,iU,fD,dLI,eY,gK])
def WI (t:Types)(p:Pattern)(c:Cond)(h:Host)(m:Mat)(inj:Bool):Int :=
 if condF t p c≠0 then condF t p c
 else if fM t h≠0 then fM t h
 else if checkE t p.i h.i m.m inj≠0 then checkE t p.i h.i m.m inj
 else if (eF t p h m.m).2≠0 then (eF t p h m.m).2
 else if (eF t p h m.m).1≠m.vars then 11 else 0
theorem F8 (t:Types)(f:t.ok)(p:Pattern)(c:Cond)(n:c.ok)(l:c.size<=1000000)(h:Host)(m:Mat)(inj:Bool):Pua 330 [t.d,p.d,.agg c.c,h.d,m.d,.bool inj] (dI (WI t p c h m inj)):=by
 refine Tz.p0 func330 rfl λQ e _=>?_;have Y:=xa7 @Cond.x @Pattern.d.eq_1 @Pattern.c.eq_1 @Host.d.eq_1 @Host.c.eq_1 @Mat.d.eq_1 @Mat.c.eq_1 @Graph.c.eq_1 @Part.c.eq_1;refine wv (h:=aB ((by have g:=y3 t f p c n l;rw [Cond.x] at g;unfold Types.d Types.c Pattern.d Pattern.c dLI dI at g;exact g)) wl ?_);refine dR (λk=>?_) λk=>?_
 .have hM:WI t p c h m inj=condF t p c:=by unfold WI;rw [if_pos k]
  exact wv (h:=e _ _ (by simp [go_sem,hM]))
 .have hM:WI t p c h m inj=if fM t h≠0 then fM t h else if checkE t p.i h.i m.m inj≠0 then checkE t p.i h.i m.m inj else if (eF t p h m.m).2≠0 then (eF t p h m.m).2 else if (eF t p h m.m).1≠m.vars then 11 else 0:=by unfold WI;rw [if_neg (bZ k)]
  refine wv (h:=aB (BW t f h) wl ?_);refine dR (λj=>?_) λj=>?_
  .have h5':fM t h≠0:=j;rw [if_pos h5'] at hM;exact wv (h:=e _ _ (by simp [go_sem,hM,fM]))
  .have h5':¬ fM t h≠0:=by unfold fM;simpa using j
   rw [if_neg h5'] at hM;refine wv (h:=aB (xW t f p.i h.i m.m inj) wl ?_);refine dR (λi=>?_) λi=>?_
   .rw [if_pos (bZ i)] at hM;exact wv (h:=e _ _ (by simp [go_sem,hM]))
   .rw [if_neg (bZ i)] at hM;refine wv (h:=aB (y8 t f p h m.m) wl ?_);refine dR (λb=>?_) λb=>?_
    .rw [if_pos (bZ b)] at hM;exact wv (h:=e _ _ (by simp [go_sem,hM]))
    .rw [if_neg (bZ b)] at hM;refine wp (h:=aB (mE (eF t p h m.m).1 m.vars) wl ?_);refine mA (λa=>?_) λa=>?_
     .rw [if_pos (bZ a)] at hM;exact wv (h:=e _ _ (by simp [go_sem,hM]))
     .rw [if_neg (bZ a)] at hM;exact wv (h:=e _ _ (by simp [go_sem,hM]))
theorem Du (t:Types)(e:t.ok)(p:Pattern)(c:Cond)(n:c.ok)(f:CondV t p c)(j:PatOk t p)(h:Host)(k:HostOk t h)(m:Mat)(l:MatOk t p h m)(inj:Bool)(q:WI t p c h m inj=0) :
  Pua 249 [t.d,p.d,.agg c.c,h.d,m.d,.bool inj] (.tup [.agg (PU t h inj c m).1.c,dI (PU t h inj c m).2]):=by
 obtain ⟨v,r,s,u,b,i,g⟩:=DR t h inj c m;refine vY (by first|rfl|(simp [go_sem];done)) (λQ o=>(Tz.cK ⟨λt=>t==12,λ_=>[]⟩ func249 rfl ?_));have Y:=xa7 @Cond.x @scnC.eq_1 @Pattern.d.eq_1 @Pattern.c.eq_1 @Host.d.eq_1 @Host.c.eq_1 @Mat.d.eq_1 @Mat.c.eq_1 @Prf.x;refine wv (h:=aB ((by have a:=F8 t e p c n f.Y h m inj;rw [q,Cond.x] at a;unfold Types.d Types.c Pattern.d Pattern.c Host.d Host.c Mat.d Mat.c dLI dI at a;exact a)) wl ?_);refine wv (h:=aB ((by have a:=Jf t e h k inj c p f j m l;simp only [b,Prf.x,Cond.x] at a;unfold scnC Mat.d Mat.c dLI dI at a;exact a)) wl ?_);refine wv (h:=?_);exact o _ _ (by simp [go_sem,Y,b,Prf.x,mL,iU,fD,dLI,eY,gK])
theorem Bb (t:Types)(l:t.ok)(p:Pattern)(c:Cond)(r:c.ok)(s:CondV t p c)(n:PatOk t p)(h:Host)(o:HostOk t h)(m:Mat)(q:MatOk t p h m)(inj:Bool)(u:WI t p c h m inj=0) :
  Pua 156 [t.d,p.d,.agg c.c,h.d,m.d,.bool inj] (.tup [.bool (l6 t h inj c m).1,dI (l6 t h inj c m).2]):=by
 obtain ⟨x,v,w,b,k,e,j⟩:=DR t h inj c m;have a:l6 t h inj c m=if b=10 then (false,0) else (decide (b=0),b):=by unfold l6 Lu;rw [e]
 refine Tz.pK ⟨λt=>t==14,λ_=>[]⟩ func156 rfl (λQ i=>?_);have Y:=xa6 @Cond.x @Pattern.d.eq_1 @Pattern.c.eq_1 @Host.d.eq_1 @Host.c.eq_1 @Mat.d.eq_1 @Mat.c.eq_1 @Prf.x;refine wv (h:=aB ((by have f:=Du t l p c r s n h o m q inj u;simp only [k,Prf.x,Cond.x] at f;unfold Types.d Types.c Pattern.d Pattern.c Host.d Host.c Mat.d Mat.c dLI dI at f;exact f)) wl ?_);refine dR (λg=>?_) λg=>?_
 .rw [if_pos (bZ g)] at a;exact wv (h:=i _ _ (by simp [go_sem,a]))
 .rw [if_neg (bZ g)] at a;exact wv (h:=i _ _ (by simp [go_sem,a,Db]))
theorem RC {H:AHeap}{d:D}(h:d.Q=true):fW H d=d:=by cases d<;>first|rfl|simp [D.Q] at h
theorem RB {H:AHeap}{d:D}(h:d.Q=true):jG H d=d:=by
 cases d with
 | agg cs =>
  simp only [D.Q] at h;simp only [jG];congr 1;conv=>rhs;rw [<- List.map_id cs]
  exact cH λy a=>RC (kF h y a)
 | _=>exact RC (H:=H) h
theorem Rz (H:AHeap){d:D}(h:d.Q=true):oX H d=d:=by
 cases d with
 | tup vs =>
  simp only [D.Q] at h;simp only [oX];congr 1;conv=>rhs;rw [<- List.map_id vs]
  exact cH λy a=>RB (kF h y a)
 | _=>exact RB (H:=H) h
theorem Z6 {P:Program}{f:FuncId}{args:UN}{r:D}(a:r.Q=true)(h:ACalls P f args .as λd H'=>jK H' d=r):Pure P f args r:=by
 refine aU (ACalls.cN (h.mono λd H' e=>⟨?_,a⟩));rw [e];exact Rz _ a
theorem SL {H:AHeap}{a:List Nat}{vals:Yb}(d:a.length=vals.length)(f:∀ (i q:Nat) (v:V2),a[i]?=some q->vals[i]?=some v->H.get q=some ⟨3,1,v.map cI,false⟩):(lZ a vals).map (·.map (fW H))=vals.map cL:=by
 apply iF;intro i;simp only [aM];by_cases e:i<vals.length
 .have hq:i<a.length:=aD;have b:=aA e;have c:=aA hq;rw [tE c b,b];have:=f i _ _ c b;simp [fW,this,cL,dLI]
 .rw [bY (by rw [j9 d];omega),bY aD];rfl
theorem I8 (h:Host)(hn:h.i.h.length<=100000)(he:h.i.j.length<=100000)(hv:h.k.length<=100000)(hr:∀ v∈h.k,v.length<=100000):Pua 158 [h.d] h.d:=by
 refine Z6 (Host.hb h) ?_;obtain ⟨Q,hQ⟩:∃ Q:D->AHeap->Prop,∀ d H',Q d H'↔jK H' d=h.d:=⟨_,λ_ _=>Iff.rfl⟩;rw [show (λd H'=>jK H' d=h.d)=Q from funext λd=>funext λH'=>propext (hQ d H').symm];refine (Tz.cK ⟨λt=>t==2||t==3||t==25||t==1000001,λr=>match r with|1=>[(0,10),(1,10),(2,10),(3,10),(4,10),(5,10),(6,10),(7,10)]|5=>[(0,2),(1,2),(0,4),(1,4),(0,5),(1,5)]|_=>[]⟩ func158 rfl ?_);have Y:=wa @Host.d.eq_1 @Host.c.eq_1;refine wv (h:=?_);refine n3 (gG h.i.h aD) (by simp [go_sem,dLI]) (by simp [go_sem]) (KT _) rfl (by simp [go_sem]) ?_;refine wv (h:=?_);refine n3 (yM h.i.j aD) (by simp [go_sem]) (by simp [go_sem]) (U9 _) rfl (by simp [go_sem]) ?_;refine wp (h:=rE (Ghosts.step (Ghosts.refl _) 11 0 2 26 1 _ _ ((by simp [go_sem];rfl)) rfl rfl rfl) (λi e H=>∃ qs:List Nat,(e 1=.adr h.c/\e 2=.ptr 0 1 0 0/\e 3=.ptr 11 1 0 0/\e 17=.list (h.k.map cL)/\e 18=dI h.k.length/\e 19=dI i)/\(H.get 0=some ⟨44,3,[[.nil,.nil,.nil]],false⟩)/\(0<H.next)/\(H.get 11=some ⟨44,3,[[dLI h.i.h,.list (h.i.j.map Edge.c),.own 13 i]],false⟩)/\(11<H.next)/\(H.get 13=some ⟨26,1,lZ qs (h.k.take i),false⟩)/\(13<H.next)/\(i<=h.k.length)/\(qs.length=(h.k.take i).length)/\(∀ q∈qs,13<q/\q<H.next)/\(13<H.next)/\(∀ (k q:Nat) (v:V2),qs[k]?=some q->(h.k.take i)[k]?=some v->H.get q=some ⟨3,1,v.map cI,false⟩)) (λi=>h.k.length - i) 0 ⟨([]),wg,wn,wn,wn,wn,(by simp [go_sem,Y,lZ]),wn,wi,(by rfl),(by intro q hq;cases hq),(by simp [go_sem]),(by intro k q v hk;simp at hk)⟩ λI0 hI0 i e H hi0=>?_);obtain ⟨qs,E0,g0_0,n0_0,g11_0,n11_0,g13_0,n13_0,hi,hql,hqr,hnx,hgq⟩:=hi0;have Y:=xa6 Y E0 g0_0 (cW n0_0) g11_0 (cW n11_0) g13_0 (cW n13_0);refine dR (λh3=>?_) λh3=>?_
 .have hr8:=hr _ (aC h3);have hrl:(lZ qs (h.k.take i)).length=i:=by rw [j9 hql];simp;omega
  have hgq2:∀ H2:AHeap,H2.get (H.next+2)=some ⟨3,1,h.k[i].map cI,false⟩->(∀ q∈qs,H2.get q=H.get q)->∀ (k q:Nat) (v:V2),(qs++[H.next+2])[k]?=some q->(h.k.take (i+1))[k]?=some v->H2.get q=some ⟨3,1,v.map cI,false⟩:=λH2 g1 g2 k q v e1 e2=>by
   rw [List.take_succ_eq_append_getElem h3] at e2;have hqi:qs.length=i:=by rw [hql];simp;omega
   have hti:(h.k.take i).length=i:=by simp;omega
   by_cases hk:k<i
   .rw [aS aD] at e1;rw [aS aD] at e2;rw [g2 q (aK e1)];exact hgq k q v e1 e2
   .have h1':=(aO.1 e1).1;have:k=i:=by simp at h1';omega
    subst this;rw [bD aD,hqi,uV] at e1;rw [bD aD,hti,uV] at e2;simp at e1 e2;subst e1 e2;exact g1
  have Y:=xa3 Y h3 (aA h3) @cL.eq_1 hrl;exact wp (h:=wx hI0 (i+1) ⟨(qs++[H.next+2]),wg,wn,wn,wn,wn,(by rw [List.take_succ_eq_append_getElem h3,xZ hql];simp [go_sem,Y,cL]),wn,wj,(by simp [hql];omega),(by intro q hq;rw [aZ,bP] at hq;rcases hq with hq|rfl;(have:=hqr q hq;simp [go_sem];omega);(simp [go_sem];omega)),(by simp [go_sem];omega),(by exact hgq2 _ (by simp [go_sem,Y,cL]) (λq hq=>by have:=hqr q hq;simp [go_sem,cW this.2,(aD:q≠13),(aD:q≠11)]))⟩)
 .rw [aG aD] at hql hgq;have hie:i=h.k.length:=aD;refine wv (h:=?_);refine (hQ _ _).2 ?_;obtain ⟨E,hEq⟩:=c6 (H.put 0 ⟨44,3,[[D.list (List.map cI h.i.h),D.list (List.map Edge.c h.i.j),D.own 13 i]],false⟩);rw [<- hEq];have hE13:E.get 13=some ⟨26,1,lZ qs (h.k.take i),false⟩:=by rw [hEq];simp [go_sem,g13_0]
  rw [aG (aD:h.k.length<=i)] at hE13;have hR:=SL (H:=E) hql (λk q v e1 e2=>by
   have:=hqr q (aK e1);rw [hEq];simp [go_sem,(aD:q≠0)];exact hgq k q v e1 e2)
  have hrl:=j9 hql;simp only [jK,kQ,qX,fW,iX,jY,hE13,hrl,hR,hie,if_true];rfl
theorem GN (t:Types)(o:t.ok)(k:Int):Own prog 252 [t.d,dI k] 3 1 ((i4 t k).map cI):=by
 have p:=rQ o k;refine Tz.oK ⟨λt=>t==9||t==16,λ_=>[]⟩ func252 rfl (λQ q=>?_);have Y:=trivial;refine wv (h:=aB (nO t o k) wl ?_);refine wo (h:=bC (λi e H=>∃ b:V2,(e 2=.adr t.c/\e 17=.list ((bQ t k).map Attr.c)/\e 18=dI (bQ t k).length/\e 19=dI i/\e 7=.own 0 b.length)/\(H.get 0=some ⟨3,1,b.map cI,false⟩)/\(0<H.next)/\(i<=(bQ t k).length)/\(b=((bQ t k).take i).map (λa=>a.ap))) (λi=>(bQ t k).length - i) 0 ⟨([]),wg,wn,wn,wi,(by rfl)⟩ λu n i e H m=>?_);obtain ⟨b,r,g,f,s,l⟩:=m;have Y:=xa2 Y r g (cW f);refine dR (λj=>?_) λj=>?_
 .have hxl:b.length=i:=by rw [l];simp;omega
  have Y:=xa2 Y j (aA j) @Attr.c.eq_1;exact wo (h:=wx n (i+1) ⟨(b++[(bQ t k)[i].ap]),wg,wn,wn,wj,(by rw [j5 _ j,<- l])⟩)
 .have hX:b=i4 t k:=by rw [l,lH _ aD];rfl
  refine wv (h:=?_);exact q _ _ _ (by simp [go_sem,Y,hX,dLI]) (by simp [go_sem,Y,hX,dLI])
theorem HH.cw {H H':AHeap}{lo a b V:Nat}{qs:List Nat}{x:Host}(h:HH H lo a b V qs x)(hn:H.next<=H'.next){q:Nat}{nd:Int}{v:V2}(hlo:lo<=q)(hq:∀ j∈a :: b :: V :: qs,j≠q)(hq2:q<H'.next)
  (ga:H'.get a=some ⟨3,1,(x.i.h++[nd]).map cI,false⟩) (gq:H'.get q=some ⟨3,1,v.map cI,false⟩) (gV:H'.get V=some ⟨26,1,lZ qs x.k++[[.own q v.length]],false⟩) (hf:∀ j∈b :: qs,H'.get j=H.get j) :
  HH H' lo a b V (qs++[q]) ⟨⟨x.i.h++[nd],x.i.j⟩,x.k++[v]⟩ where
 ga:=ga
 gb:=(hf b aE).trans h.gb
 gV:=by rw [xZ h.len];exact gV
 len:=by simp [h.len]
 gq i q' v' h1 h2:=by
  by_cases hi:i<qs.length
  .rw [aS hi] at h1;rw [aS (by rw [<- h.len];exact hi)] at h2;exact (hf q' (by simp [aK h1])).trans (h.gq i q' v' h1 h2)
  .have h1':=(aO.1 h1).1;have:i=qs.length:=by simp at h1';omega
   subst this;simp at h1;rw [h.len] at h2;simp at h2;subst h1 h2;exact gq
 nd:=by
  have:=h.nd;have e:a :: b :: V :: (qs++[q])=(a :: b :: V :: qs)++[q]:=rfl;rw [e,oU];exact ⟨this,by simp,λy hy z hz=>by rw [bP] at hz;subst hz;exact hq y hy⟩
 W j hj:=by
  have e:a :: b :: V :: (qs++[q])=(a :: b :: V :: qs)++[q]:=rfl;rw [e,aZ,bP] at hj;rcases hj with hj|rfl
  .exact ⟨(h.W j hj).1,dC (h.W j hj).2 hn⟩
  .exact ⟨hlo,hq2⟩
def stpC (r:Rule)(m:Mat)(h:Host)(A B C:D)(tr co:Part):UN:=[.str r.name,dLI r.left.i.h,.list (r.left.i.j.map Edge.c),.list (r.left.o.map Slot.c),dI r.left.vars,.list (r.left.E.map Test.c),
 dLI r.right.i.h,.list (r.right.i.j.map Edge.c),.list (r.right.o.map Slot.c),dI r.right.vars,.list (r.right.E.map Test.c),
 dLI r.q.h,dLI r.q.j,dLI r.s.h,dLI r.s.j,.bool r.inj,
 dI r.cond.B,.list (r.cond.u.map Cond.c),dLI r.cond.map.h,dLI r.cond.map.j,dLI r.cond.l.i.h,.list (r.cond.l.i.j.map Edge.c),.list (r.cond.l.o.map Slot.c),dI r.cond.l.vars,.list (r.cond.l.E.map Test.c),
 dLI m.m.h,dLI m.m.j,dLI m.vars,dLI h.i.h,.list (h.i.j.map Edge.c),.list (h.k.map cL),A,B,C,dLI tr.h,dLI tr.j,dLI co.h,dLI co.j]
def trE (h:Host)(tr:Part)(k:Int):Edge:=⟨(eA h.i k).type,iA tr.h (eA h.i k).w,iA tr.h (eA h.i k).M⟩
def Zo (h:Host)(d:Part)(i:Nat):Host:=⟨⟨(d.h.take i).map (gN h.i),[]⟩,(d.h.take i).map λk=>h.k[k.toNat]?.getD []⟩
def bdE (h:Host)(d tr:Part)(i:Nat):Host:=⟨⟨d.h.map (gN h.i),(d.j.take i).map (trE h tr)⟩,d.h.map λk=>h.k[k.toNat]?.getD []⟩
theorem Vs (h:Host)(d a:Part){i:Nat}(b:d.h.length<=i):bdE h d a 0=Zo h d i:=by unfold bdE Zo;rw [aG b];rfl
theorem P5 (t:Types)(ht:t.ok)(r:Rule)(hR:RuleV t r)(m:Mat)(h:Host)(ho:HostOk t h)(d o u:Part)(e8:∀ x∈d.h,0<=x/\x<h.i.h.length)(e9:∀ x∈d.j,0<=x/\x<h.i.j.length)
  (h7:d.h.length<=40/\d.j.length<=80) (g6:o.h.length=h.i.h.length) (h8:u.h.length=r.right.i.h.length/\u.j.length=r.right.i.j.length)
  (f0:∀ i,i<r.right.i.h.length->(u.h[i]?.getD 0=((d.h.length+(bG r.s.h i).length:Nat):Int)↔mem r.s.h i=false))
  (f1:∀ i,i<r.right.i.j.length->(u.j[i]?.getD 0=((d.j.length+(bG r.s.j i).length:Nat):Int)↔mem r.s.j i=false))
  (s a b V:Nat) (G:AHeap) (hs:G.get s=some ⟨57,38,[stpC r m h (.own a 0) (.own b 0) (.own V 0) o u],false⟩) (I:HH G 0 a b V [] ⟨⟨[],[]⟩,[]⟩) (g7:s<G.next) (e0:s≠a/\s≠b/\s≠V) (c5:∀ j,G.next<=j->¬ G.D j) (Q:D->AHeap->Prop)
  (hQ:∀ qs H',HH H' 0 a b V qs (j6 t r u (bdE h d o d.j.length))->H'.get s=some ⟨57,38,[stpC r m h (.own a (j6 t r u (bdE h d o d.j.length)).i.h.length) (.own b (j6 t r u (bdE h d o d.j.length)).i.j.length) (.own V (j6 t r u (bdE h d o d.j.length)).k.length) o u],false⟩ ->
   (∀ j∈a :: b :: V :: qs,j≠s)->(∀ j∈qs,G.next<=j)->(∀ j,j<G.next->j∉[s,a,b,V]->H'.get j=G.get j)->G.next<=H'.next->Q (.tup []) H') :
  ACalls prog 161 [t.d,.ptr s 1 0 0,d.d] G Q:=by
 have h6:=bI hR.gr;have e7:=dX hR.gr;have h5:=bI ho.gg;have e5:=dX ho.gg;have g5:=ho.vl;have i2:=I.W a I.bq;have i0:=I.W b I.bp;have i3:=I.W V I.bw;have i1:=I.ab;obtain ⟨h0,g9,g8⟩:=e0;refine (Tz.cK ⟨λt=>t==6||t==7||t==12||t==16||t==59||t==166||t==1000001,λr=>match r with|1=>[(1,10),(2,10),(3,10),(5,10),(6,10),(7,10),(8,10),(9,10),(1,11),(2,11),(3,11),(5,11),(6,11),(7,11),(8,11),(9,11),(10,11),(5,12),(6,12),(7,12),(8,12),(9,12)]|5=>[(2,13),(3,13),(4,13),(5,13),(6,13)]|6=>[(2,6),(3,6),(4,6),(5,6),(6,7),(6,8),(6,10),(6,11),(2,12),(3,12),(4,12),(5,12),(2,13),(3,13),(4,13),(5,13)]|12=>[(2,28),(3,28),(4,28),(5,28),(6,28)]|19=>[(2,8),(3,8),(4,8),(5,8),(2,9),(3,9),(4,9),(5,9)]|25=>[(2,28),(3,28),(4,28),(5,28),(6,28)]|_=>[]⟩ func161 rfl ?_);have g3:=xa4 (dZ (aD:V≠b)) (dZ (aD:V≠a)) (dZ (aD:V≠s)) (dZ (aD:b≠a)) (dZ (aD:b≠s)) (dZ (aD:a≠s));have f9:=xa2 (cW (aD:s<G.next)) (cW (aD:a<G.next)) (cW (aD:b<G.next)) (cW (aD:V<G.next));have Y:=xa6 hs @stpC.eq_1 @Part.d.eq_1 @Part.c.eq_1 @Host.c.eq_1 @Graph.c.eq_1 g3 f9;refine wp (h:=bC (λi e H=>∃ X:Nat,∃ w:Nat,∃ x:Host,∃ qs:List Nat,(e 1=.ptr s 1 0 0/\e 3=.adr t.c/\e 5=.adr d.c/\e 6=.ptr X 1 0 0/\e 7=.ptr w 1 0 0/\e 28=dLI d.h/\e 29=dI d.h.length/\e 30=dI i)/\(H.get X=some ⟨44,3,[h.c],false⟩)/\(X<H.next)/\(H.get w=some ⟨29,2,[r.right.i.c],false⟩)/\(w<H.next)/\(H.get s=some ⟨57,38,[stpC r m h (.own a x.i.h.length) (.own b x.i.j.length) (.own V x.k.length) o u],false⟩)/\(s<H.next)/\(i<=d.h.length)/\(HH H 0 a b V qs x)/\(x=Zo h d i)/\(∀ j∈a :: b :: V :: qs,j≠s)/\(∀ j∈qs,G.next<=j)/\(∀ j,H.next<=j->¬ H.D j)/\(∀ j,j<G.next->j∉[s,a,b,V]->H.get j=G.get j)/\(G.next<=H.next)/\(G.next<=X/\X<w)) (λi=>d.h.length - i) 0 ⟨(G.next+10),(G.next+11),(⟨⟨[],[]⟩,[]⟩),([]),wg,wn,wn,wn,wn,wn,wn,wi,(by exact I.same (by first|(simp [go_sem];done)|(simp [go_sem];omega)) (λj hj=>by have:=(I.W j hj).2;simp [go_sem,cW this])),(by rfl),(by intro j hj;simp at hj;omega),(by intro j hj;cases hj),(by intro j hj;simp [go_sem,lO,n8,y9] at hj ⊢;exact ⟨aD,aD,c5 j aD⟩),(by intro j hj A;simp [go_sem,cW hj]),(by first|(simp [go_sem];done)|(simp [go_sem];omega)),aD⟩ λI0 f4 i e H e4=>?_);obtain ⟨X,w,x,qs,E0,gX_0,nX_0,gYb_0,nYb_0,d2,c1,hi,f,J,E,R,q,P,N,f2⟩:=e4;have g2:=xa2 (dZ (aD:w≠X)) (dZ (aD:w≠V)) (dZ (aD:w≠b)) (xb0 (dZ (aD:w≠a)) (dZ (aD:w≠s)) (dZ (aD:X≠V)) (dZ (aD:X≠b)) (dZ (aD:X≠a)) (dZ (aD:X≠s)) (dZ (aD:V≠b)) (dZ (aD:V≠a)) (dZ (aD:V≠s)) (dZ (aD:b≠a)) (dZ (aD:b≠s)) (dZ (aD:a≠s)));have Y:=xa7 Y E0 gX_0 (cW nX_0) gYb_0 (cW nYb_0) d2 (cW c1) g2;refine dR (λh3=>?_) λh3=>?_
 .obtain ⟨k,hk⟩:∃ y,y=d.h[i]:=⟨_,rfl⟩;have b5:=e8 _ (aC h3);rw [<- hk] at b5;have S:k.toNat<h.i.h.length:=aD;have b4:k.toNat<h.k.length:=aD;obtain ⟨n,g⟩:∃ y:Host,y=⟨⟨x.i.h++[h.i.h[k.toNat]],x.i.j⟩,x.k++[h.k[k.toNat]]⟩:=⟨_,rfl⟩;have B:n=Zo h d (i+1):=by rw [g,J];unfold Zo;rw [List.take_succ_eq_append_getElem h3,<- hk];simp [gN,aA S,aA b4]
  have g4:(h.k[k.toNat]).length<=1000:=by
   have:=(ho.row _ (aC b4)).1;omega
  have M:x.i.h.length=i/\x.i.j.length=0/\x.k.length=i:=by rw [J];simp [Zo];omega
  have C:n.i.h.length=x.i.h.length+1/\n.i.j.length=x.i.j.length/\n.k.length=x.k.length+1:=by rw [g];simp
  have a5:=f.ga;have a6:=f.gV;have b0:=j9 f.len;have b1:=f.W a f.bq;have b2:=f.W V f.bw;have a2:=f.W b f.bp;have a8:∀ j∈a :: b :: V :: qs,j≠H.next+20+6:=λj hj=>by have:=(f.W j hj).2;omega
  have p:∀ j∈b :: qs,j≠a/\j≠s/\j≠V/\j<H.next:=λj hj=>by
   rcases aV.1 hj with rfl|hj
   .exact ⟨aD,aD,aD,a2.2⟩
   .exact ⟨(f.qn hj).1,E j (f.bi hj),(f.qn hj).2.2,(f.W j (f.bi hj)).2⟩
  have K:∀ j∈a :: b :: V :: (qs++[H.next+20+6]),j≠s:=λj hj=>by
   have e:a :: b :: V :: (qs++[H.next+20+6])=(a :: b :: V :: qs)++[H.next+20+6]:=rfl;rw [e,aZ,bP] at hj;rcases hj with hj|rfl
   .exact E j hj
   .omega
  have L:∀ j∈qs++[H.next+20+6],G.next<=j:=λj hj=>by
   rw [aZ,bP] at hj;rcases hj with hj|rfl
   .exact R j hj
   .omega
  have f8:=xa2 (cW (aD:s<H.next)) (cW (aD:a<H.next)) (cW (aD:b<H.next)) (cW (aD:V<H.next));have Y:=xb0 Y h3 (aA h3) (Eq.symm hk) (aA S) (aA b4) a5 a6 b0 C @cL.eq_1 f8;exact wp (h:=wx f4 (i+1) ⟨X,w,n,(qs++[H.next+20+6]),wg,wn,wn,wn,wn,wn,wn,wj,(by rw [g];exact f.cw (by first|(simp [go_sem];done)|(simp [go_sem];omega)) (eP _) a8 (by first|(simp [go_sem];done)|(simp [go_sem];omega)) (by simp [go_sem,Y,cI]) (by simp [go_sem,Y]) (by simp [go_sem,Y]) (λj hj=>by obtain ⟨k1,k2,Z,k4⟩:=p j hj;simp [go_sem,k1,k2,Z,cW k4])),(by exact B),(by exact K),(by exact L),(by intro j hj;simp [go_sem,lO,n8] at hj ⊢;exact ⟨aD,q j aD⟩),(by intro j hj A;simp only [aV,gH,or_false,not_or] at A;simp [go_sem,A,cW (aD:j<H.next)];exact P j hj (by simp [A])),(by first|(simp [go_sem];done)|(simp [go_sem];omega)),(by exact f2)⟩)
 .have hx4:x=bdE h d o 0:=by rw [J,Vs _ _ _ aD]
  have f7:=xa2 (cW (aD:s<H.next)) (cW (aD:a<H.next)) (cW (aD:b<H.next)) (cW (aD:V<H.next));have Y:=wa Y f7;refine wp (h:=bC (λi e H=>∃ x:Host,(e 1=.ptr s 1 0 0/\e 3=.adr t.c/\e 5=.adr d.c/\e 6=.ptr X 1 0 0/\e 7=.ptr w 1 0 0/\e 73=dLI d.j/\e 74=dI d.j.length/\e 75=dI i)/\(H.get X=some ⟨44,3,[h.c],false⟩)/\(X<H.next)/\(H.get w=some ⟨29,2,[r.right.i.c],false⟩)/\(w<H.next)/\(H.get s=some ⟨57,38,[stpC r m h (.own a x.i.h.length) (.own b x.i.j.length) (.own V x.k.length) o u],false⟩)/\(s<H.next)/\(i<=d.j.length)/\(HH H 0 a b V qs x)/\(x=bdE h d o i)/\(∀ j,H.next<=j->¬ H.D j)/\(∀ j,j<G.next->j∉[s,a,b,V]->H.get j=G.get j)/\(G.next<=H.next)) (λi=>d.j.length - i) 0 ⟨x,wg,wn,wn,wn,wn,wn,wn,wi,(by exact f),(by exact hx4),(by exact q),(by exact P),(by exact N)⟩ λI2 f3 i e H e3=>?_);obtain ⟨x,E2,gX_2,nX_2,gYb_2,nYb_2,d1,c0,hi,f,J,q,P,N⟩:=e3;have g1:=xa2 (dZ (aD:w≠X)) (dZ (aD:w≠V)) (dZ (aD:w≠b)) (xb0 (dZ (aD:w≠a)) (dZ (aD:w≠s)) (dZ (aD:X≠V)) (dZ (aD:X≠b)) (dZ (aD:X≠a)) (dZ (aD:X≠s)) (dZ (aD:V≠b)) (dZ (aD:V≠a)) (dZ (aD:V≠s)) (dZ (aD:b≠a)) (dZ (aD:b≠s)) (dZ (aD:a≠s)));have Y:=xa7 Y E2 gX_2 (cW nX_2) gYb_2 (cW nYb_2) d1 (cW c0) g1;refine dR (λh9=>?_) λh9=>?_
  .obtain ⟨k,hk⟩:∃ y,y=d.j[i]:=⟨_,rfl⟩;have b5:=e9 _ (aC h9);rw [<- hk] at b5;have S:k.toNat<h.i.j.length:=aD;obtain ⟨y,hy⟩:=c6 (h.i.j[k.toNat]);have a9:=(e5.2 _ (aC S)).2;rw [<- hy] at a9;have a1:y.w.toNat<o.h.length:=aD;have a0:y.M.toNat<o.h.length:=aD;have d7:eA h.i k=y:=by rw [hy];simp [eA,aA S]
   have d9:trE h o k=⟨y.type,o.h[y.w.toNat],o.h[y.M.toNat]⟩:=by unfold trE;rw [d7];simp [iA,aA a1,aA a0]
   obtain ⟨n,g⟩:∃ z:Host,z=⟨⟨x.i.h,x.i.j++[trE h o k]⟩,x.k⟩:=⟨_,rfl⟩;have B:n=bdE h d o (i+1):=by rw [g,J];unfold bdE;rw [List.take_succ_eq_append_getElem h9,<- hk];simp
   have M:x.i.j.length=i:=by rw [J];simp [bdE];omega
   have C:n.i.h.length=x.i.h.length/\n.i.j.length=x.i.j.length+1/\n.k.length=x.k.length:=by rw [g];simp
   have a4:=f.gb;have b1:=f.W a f.bq;have b2:=f.W V f.bw;have a2:=f.W b f.bp;have p:∀ j∈a :: V :: qs,j≠b/\j≠s/\j<H.next:=λj hj=>by
    have a3:j∈a :: b :: V :: qs:=by simp only [aV] at hj ⊢;rcases hj with h|h|h<;>simp [h]
    refine ⟨?_,E j a3,(f.W j a3).2⟩;rintro rfl;have:=f.nd;simp only [iS,aV,not_or] at this;simp only [aV] at hj;rcases hj with h|h|h
    .exact this.1.1 h.symm
    .exact this.2.1.1 h
    .exact this.2.1.2 h
   have f6:=xa2 (cW (aD:s<H.next)) (cW (aD:a<H.next)) (cW (aD:b<H.next)) (cW (aD:V<H.next));have Y:=xb0 Y h9 (aA h9) (Eq.symm hk) (aA S) (Eq.symm hy) (aA a1) (aA a0) a4 C @Edge.c.eq_1 f6;exact wp (h:=wx f3 (i+1) ⟨n,wg,wn,wn,wn,wn,wn,wn,wj,(by rw [g];exact f.j (by first|(simp [go_sem];done)|(simp [go_sem];omega)) (by simp [go_sem,Y,d9,Edge.c]) (λj hj=>by obtain ⟨k1,k2,Z⟩:=p j hj;simp [go_sem,k1,k2,cW Z])),(by exact B),(by intro j hj;simp [go_sem,lO,n8] at hj ⊢;first|exact ⟨aD,q j aD⟩|exact q j aD|exact ⟨aD,aD,q j aD⟩),(by intro j hj A;simp only [aV,gH,or_false,not_or] at A;simp [go_sem,A,cW (aD:j<H.next)];exact P j hj (by simp [A])),(by first|(simp [go_sem];done)|(simp [go_sem];omega))⟩)
  .have hx5:x=Gt t r (bdE h d o d.j.length) 0:=by rw [J,(aD:i=d.j.length)];simp [Gt,bG]
   have f5:=xa2 (cW (aD:s<H.next)) (cW (aD:a<H.next)) (cW (aD:b<H.next)) (cW (aD:V<H.next));have Y:=wa Y f5;refine wp (h:=bC (λi e H=>∃ x:Host,∃ qs:List Nat,(e 1=.ptr s 1 0 0/\e 3=.adr t.c/\e 5=.adr d.c/\e 7=.ptr w 1 0 0/\e 121=dLI r.right.i.h/\e 122=dI r.right.i.h.length/\e 123=dI i)/\(H.get w=some ⟨29,2,[r.right.i.c],false⟩)/\(w<H.next)/\(H.get s=some ⟨57,38,[stpC r m h (.own a x.i.h.length) (.own b x.i.j.length) (.own V x.k.length) o u],false⟩)/\(s<H.next)/\(i<=r.right.i.h.length)/\(HH H 0 a b V qs x)/\(x=Gt t r (bdE h d o d.j.length) i)/\(∀ j∈a :: b :: V :: qs,j≠s)/\(∀ j∈qs,G.next<=j)/\(∀ j,H.next<=j->¬ H.D j)/\(∀ j,j<G.next->j∉[s,a,b,V]->H.get j=G.get j)/\(G.next<=H.next)) (λi=>r.right.i.h.length - i) 0 ⟨x,qs,wg,wn,wn,wn,wn,wi,(by exact f),(by exact hx5),(by exact E),(by exact R),(by exact q),(by exact P),(by exact N)⟩ λI4 c8 i e H e2=>?_);obtain ⟨x,qs,E4,gYb_4,nYb_4,d0,b9,hi,f,J,E,R,q,P,N⟩:=e2;have g0:=xa8 (dZ (aD:w≠V)) (dZ (aD:w≠b)) (dZ (aD:w≠a)) (dZ (aD:w≠s)) (dZ (aD:V≠b)) (dZ (aD:V≠a)) (dZ (aD:V≠s)) (dZ (aD:b≠a)) (dZ (aD:b≠s)) (dZ (aD:a≠s));have Y:=xa5 Y E4 gYb_4 (cW nYb_4) d0 (cW b9) g0;refine dR (λW=>?_) λW=>?_
   .have hsu:=qF r.s.h i;obtain ⟨nd,c3⟩:∃ y,y=r.right.i.h[i]:=⟨_,rfl⟩;have e6:gN r.right.i (i:Int)=nd:=by rw [c3];simp [gN,aA W]
    have h1:=lF r.s.h i;have T:i<u.h.length:=aD;have O:=f0 i W;rw [aA T,Option.getD_some] at O;have M:x.i.h.length=d.h.length+(bG r.s.h i).length/\x.k.length=x.i.h.length/\x.i.j.length<=100:=by rw [J];simp [Gt,bdE];omega
    have a5:=f.ga;have a6:=f.gV;have b0:=j9 f.len;have b1:=f.W a f.bq;have b2:=f.W V f.bw;have a2:=f.W b f.bp;have d5:=xa2 (cW (aD:s<H.next)) (cW (aD:a<H.next)) (cW (aD:b<H.next)) (cW (aD:V<H.next));have Y:=xa7 Y W (aA W) (Eq.symm c3) (aA T) a5 a6 b0 d5;refine mA (λb7=>?_) λb7=>?_
    .have hm:mem r.s.h i=false:=O.1 (by simpa [M.1] using b7);rw [if_neg (by rw [hm];simp)] at hsu;have h4:(i4 t nd).length<=8:=by unfold i4;rw [aR];exact n5 hR.vf nd
     obtain ⟨n,g⟩:∃ y:Host,y=⟨⟨x.i.h++[nd],x.i.j⟩,x.k++[i4 t nd]⟩:=⟨_,rfl⟩;obtain ⟨F,v⟩:∃ y,y=qs++[H.next]:=⟨_,rfl⟩;have B:n=Gt t r (bdE h d o d.j.length) (i+1):=by rw [g,J];unfold Gt;rw [hsu];simp [e6]
     have C:n.i.h.length=x.i.h.length+1/\n.i.j.length=x.i.j.length/\n.k.length=x.k.length+1:=by rw [g];simp
     have a8:∀ j∈a :: b :: V :: qs,j≠H.next:=λj hj=>by have:=(f.W j hj).2;omega
     have p:∀ j∈b :: qs,j≠a/\j≠s/\j≠V/\j<H.next:=λj hj=>by
      rcases aV.1 hj with rfl|hj
      .exact ⟨aD,aD,aD,a2.2⟩
      .exact ⟨(f.qn hj).1,E j (f.bi hj),(f.qn hj).2.2,(f.W j (f.bi hj)).2⟩
     have K:∀ j∈a :: b :: V :: F,j≠s:=λj hj=>by
      have e:a :: b :: V :: F=(a :: b :: V :: qs)++[H.next]:=by rw [v];rfl
      rw [e,aZ,bP] at hj;rcases hj with hj|rfl
      .exact E j hj
      .omega
     have L:∀ j∈F,G.next<=j:=λj hj=>by
      rw [v,aZ,bP] at hj;rcases hj with hj|rfl
      .exact R j hj
      .omega
     have Y:=xa2 Y (aA W) (aA T) C;refine wp (h:=?_);refine mQ H.next (GN t ht nd) (by first|rfl|(simp [go_sem];done)) rfl (by first|omega|(simp [go_sem];done)|(first|(simp [go_sem];done)|(simp [go_sem];omega))) (by simp [lO,n8];exact q _ aD) (by first|trivial|(simp [go_sem];done)|(simp [go_sem,o6];done)|(simp [go_sem,o6];omega)) ?_;exact wp (h:=wx c8 (i+1) ⟨n,F,wg,wn,wn,wn,wn,wj,(by first|exact l|exact l.same (by first|(simp [go_sem];done)|(simp [go_sem];omega)) (λ_ _=>rfl)|exact l.same (by first|(simp [go_sem];done)|(simp [go_sem];omega)) (λj hj=>by have:=(l.W j hj).2;simp [go_sem,cW this])|(rw [g,v];exact f.cw (by first|(simp [go_sem];done)|(simp [go_sem];omega)) (eP _) a8 (by first|(simp [go_sem];done)|(simp [go_sem];omega)) (by simp [go_sem,Y,cI]) (by simp [go_sem,Y]) (by simp [go_sem,Y]) (λj hj=>by obtain ⟨k1,k2,Z,k4⟩:=p j hj;simp [go_sem,k1,k2,Z,cW k4]))),(by exact B),(by exact K),(by exact L),(by intro j hj;simp [go_sem,lO,n8] at hj ⊢;first|exact ⟨aD,q j aD⟩|exact q j aD),(by first|exact a7|(intro j hj A;simp only [aV,gH,or_false,not_or] at A;simp [go_sem,A,cW (aD:j<H.next)];exact P j hj (by simp [A]))),(by first|(simp [go_sem];done)|(simp [go_sem];omega))⟩)
    .have hm:mem r.s.h i=true:=by
      cases b3:mem r.s.h i with
      | true=>rfl
      | false=>exact absurd (by simpa [M.1] using O.2 b3) b7
     rw [if_pos hm,dL] at hsu;obtain ⟨n,g⟩:∃ y,y=x:=⟨_,rfl⟩;obtain ⟨F,v⟩:∃ y,y=qs:=⟨_,rfl⟩;have B:n=Gt t r (bdE h d o d.j.length) (i+1):=by rw [g,J];unfold Gt;rw [hsu]
     have l:HH H 0 a b V F n:=by rw [g,v];exact f
     have K:∀ j∈a :: b :: V :: F,j≠s:=by rw [v];exact E
     have L:∀ j∈F,G.next<=j:=by rw [v];exact R
     have a7:=P;have Y:=wa Y g;exact wp (h:=wx c8 (i+1) ⟨n,F,wg,wn,wn,wn,wn,wj,(by first|exact l|exact l.same (by first|(simp [go_sem];done)|(simp [go_sem];omega)) (λ_ _=>rfl)|exact l.same (by first|(simp [go_sem];done)|(simp [go_sem];omega)) (λj hj=>by have:=(l.W j hj).2;simp [go_sem,cW this])|(rw [g,v];exact f.cw (by first|(simp [go_sem];done)|(simp [go_sem];omega)) (eP _) a8 (by first|(simp [go_sem];done)|(simp [go_sem];omega)) (by simp [go_sem,Y,cI]) (by simp [go_sem,Y]) (by simp [go_sem,Y]) (λj hj=>by obtain ⟨k1,k2,Z,k4⟩:=p j hj;simp [go_sem,k1,k2,Z,cW k4]))),(by exact B),(by exact K),(by exact L),(by intro j hj;simp [go_sem,lO,n8] at hj ⊢;first|exact ⟨aD,q j aD⟩|exact q j aD),(by first|exact a7|(intro j hj A;simp only [aV,gH,or_false,not_or] at A;simp [go_sem,A,cW (aD:j<H.next)];exact P j hj (by simp [A]))),(by first|(simp [go_sem];done)|(simp [go_sem];omega))⟩)
   .have hie:i=r.right.i.h.length:=aD;have d8:x=QT t r u (Gt t r (bdE h d o d.j.length) r.right.i.h.length) 0:=by rw [J,hie];simp [QT,bG]
    have d4:=xa2 (cW (aD:s<H.next)) (cW (aD:a<H.next)) (cW (aD:b<H.next)) (cW (aD:V<H.next));have Y:=wa Y d4;refine wp (h:=bC (λi e H=>∃ x:Host,(e 1=.ptr s 1 0 0/\e 3=.adr t.c/\e 5=.adr d.c/\e 174=.list (r.right.i.j.map Edge.c)/\e 175=dI r.right.i.j.length/\e 176=dI i)/\(H.get s=some ⟨57,38,[stpC r m h (.own a x.i.h.length) (.own b x.i.j.length) (.own V x.k.length) o u],false⟩)/\(s<H.next)/\(i<=r.right.i.j.length)/\(HH H 0 a b V qs x)/\(x=QT t r u (Gt t r (bdE h d o d.j.length) r.right.i.h.length) i)/\(∀ j,j<G.next->j∉[s,a,b,V]->H.get j=G.get j)/\(G.next<=H.next)) (λi=>r.right.i.j.length - i) 0 ⟨x,wg,wn,wn,wi,(by exact f),(by exact d8),(by exact P),(by exact N)⟩ λI6 c7 i e H e1=>?_);obtain ⟨x,E6,c9,b8,hi,f,J,P,N⟩:=e1;have d6:=xa4 (dZ (aD:V≠b)) (dZ (aD:V≠a)) (dZ (aD:V≠s)) (dZ (aD:b≠a)) (dZ (aD:b≠s)) (dZ (aD:a≠s));have Y:=xa3 Y E6 c9 (cW b8) d6;refine dR (λU=>?_) λU=>?_
    .have hsu:=qF r.s.j i;obtain ⟨y,hy⟩:=c6 (r.right.i.j[i]);have c2:r.right.i.j[i]?.getD cY=y:=by rw [hy,aA U];rfl
     have a9:=(e7.2 _ (aC U)).2;rw [<- hy] at a9;have a1:y.w.toNat<u.h.length:=aD;have a0:y.M.toNat<u.h.length:=aD;have h2:=lF r.s.j i;have T:i<u.j.length:=aD;have O:=f1 i U;rw [aA T,Option.getD_some] at O;have M:x.i.j.length=d.j.length+(bG r.s.j i).length:=by rw [J];simp [QT,Gt,bdE]
     have a4:=f.gb;have a2:=f.W b f.bp;have b1:=f.W a f.bq;have b2:=f.W V f.bw;have d3:=xa2 (cW (aD:s<H.next)) (cW (aD:a<H.next)) (cW (aD:b<H.next)) (cW (aD:V<H.next));have Y:=xa8 Y U (aA U) (Eq.symm hy) (aA a1) (aA a0) (aA T) a4 @Edge.c.eq_1 d3;refine mA (λb6=>?_) λb6=>?_
     .have hm:mem r.s.j i=false:=O.1 (by simpa [M] using b6);rw [if_neg (by rw [hm];simp)] at hsu;have c4:freshE u y=⟨y.type,u.h[y.w.toNat],u.h[y.M.toNat]⟩:=by unfold freshE;rw [aA a1,aA a0];rfl
      obtain ⟨n,g⟩:∃ z:Host,z=⟨⟨x.i.h,x.i.j++[freshE u y]⟩,x.k⟩:=⟨_,rfl⟩;have B:n=QT t r u (Gt t r (bdE h d o d.j.length) r.right.i.h.length) (i+1):=by rw [g,J];unfold QT;rw [hsu];simp [c2]
      have C:n.i.h.length=x.i.h.length/\n.i.j.length=x.i.j.length+1/\n.k.length=x.k.length:=by rw [g];simp
      have p:∀ j∈a :: V :: qs,j≠b/\j≠s/\j<H.next:=λj hj=>by
       have a3:j∈a :: b :: V :: qs:=by simp only [aV] at hj ⊢;rcases hj with h|h|h<;>simp [h]
       refine ⟨?_,E j a3,(f.W j a3).2⟩;rintro rfl;have:=f.nd;simp only [iS,aV,not_or] at this;simp only [aV] at hj;rcases hj with h|h|h
       .exact this.1.1 h.symm
       .exact this.2.1.1 h
       .exact this.2.1.2 h
      have Y:=wa Y C;exact wp (h:=wx c7 (i+1) ⟨n,wg,wn,wn,wj,(by first|exact l|exact l.same (by first|(simp [go_sem];done)|(simp [go_sem];omega)) (λ_ _=>rfl)|exact l.same (by first|(simp [go_sem];done)|(simp [go_sem];omega)) (λj hj=>by have:=(l.W j hj).2;simp [go_sem,cW this])|(rw [g];exact f.j (by first|(simp [go_sem];done)|(simp [go_sem];omega)) (by simp [go_sem,Y,c4,Edge.c]) (λj hj=>by obtain ⟨k1,k2,Z⟩:=p j hj;simp [go_sem,k1,k2,cW Z]))),(by exact B),(by first|exact a7|(intro j hj A;simp only [aV,gH,or_false,not_or] at A;simp [go_sem,A,cW (aD:j<H.next)];exact P j hj (by simp [A]))),(by first|(simp [go_sem];done)|(simp [go_sem];omega))⟩)
     .have hm:mem r.s.j i=true:=by
       cases b3:mem r.s.j i with
       | true=>rfl
       | false=>exact absurd (by simpa [M] using O.2 b3) b6
      rw [if_pos hm,dL] at hsu;obtain ⟨n,g⟩:∃ z,z=x:=⟨_,rfl⟩;have B:n=QT t r u (Gt t r (bdE h d o d.j.length) r.right.i.h.length) (i+1):=by rw [g,J];unfold QT;rw [hsu]
      have l:HH H 0 a b V qs n:=by rw [g];exact f
      have a7:=P;have Y:=wa Y g;exact wp (h:=wx c7 (i+1) ⟨n,wg,wn,wn,wj,(by first|exact l|exact l.same (by first|(simp [go_sem];done)|(simp [go_sem];omega)) (λ_ _=>rfl)|exact l.same (by first|(simp [go_sem];done)|(simp [go_sem];omega)) (λj hj=>by have:=(l.W j hj).2;simp [go_sem,cW this])|(rw [g];exact f.j (by first|(simp [go_sem];done)|(simp [go_sem];omega)) (by simp [go_sem,Y,c4,Edge.c]) (λj hj=>by obtain ⟨k1,k2,Z⟩:=p j hj;simp [go_sem,k1,k2,cW Z]))),(by exact B),(by first|exact a7|(intro j hj A;simp only [aV,gH,or_false,not_or] at A;simp [go_sem,A,cW (aD:j<H.next)];exact P j hj (by simp [A]))),(by first|(simp [go_sem];done)|(simp [go_sem];omega))⟩)
    .have hX:x=j6 t r u (bdE h d o d.j.length):=by rw [J,(aD:i=r.right.i.j.length)];rfl
     rw [hX] at f;have Y:=wa Y hX;refine wv (h:=?_);exact hQ qs _ f (by simp [go_sem,Y]) E R P N
end Go.Abs
end
