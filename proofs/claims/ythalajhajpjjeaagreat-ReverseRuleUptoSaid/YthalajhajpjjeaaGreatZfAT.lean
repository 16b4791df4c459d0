/- Conditions of the program: placed, values, extensions. · Con -/
import Derived.Test.YthalajhajpjjeaaGreatZfAF
import Derived.Test.YthalajhajpjjeaaGreatZfAA
import Derived.Test.YthalajhajpjjeaaGreatZfAR
import Derived.Test.YthalajhajpjjeaaGreatZfAQ
import Derived.Test.YthalajhajpjjeaaGreatZfAS
set_option linter.unusedVariables false
set_option linter.unusedSimpArgs false
section
set_option maxRecDepth 100000
set_option maxHeartbeats 4000000
open Go Go.Proofs
namespace Go.Abs
def scnC (t:Types)(h:Host)(inj:Bool):List D:=[.list (t.nodes.map NodeTy.c),.list (t.edges.map EdgeTy.c),dLI h.graph.nodes,.list (h.graph.edges.map Edge.c),.list (h.values.map cL),.bool inj]
def Rh (n i:Nat):List Bool:=List.replicate i true++List.replicate (n - i) false
theorem SK {n i:Nat}(h:i<=n):(Rh n i).length=n:=by simp [Rh];omega
theorem SJ {n i:Nat}(h:i<n):(Rh n i).set i true=Rh n (i+1):=by
 unfold Rh
 rw [l5 _ _ bV,d7,w3,show n - i=(n - (i+1))+1 by omega,sI,tY,List.replicate_succ',List.append_assoc];rfl
theorem uY (n:Nat)(hn:n<=1000)(at_ im:List Int)(h1:∀ x∈at_,0<=x/\x<n)(h2:at_.length<=im.length):Pure Tryz.prog 457 [dI n,dLI at_,dLI im] (dLI (xV n at_ im)):=by
 refine Tz.pK ⟨λt=>t==12,λ_=>[]⟩ Tryz.func457 rfl (λQ hQ=>?_)
 have Y:=trivial
 refine wv (h:=lN (Fq (-1) n hn) wl ?_)
 refine wv (h:=?_)
 repeat first|intro _|refine ⟨eQ,?_⟩
 refine bF (λk e H=>(e 0=dI n/\e 1=dLI at_/\e 2=dLI im/\e 7=.own 0 n/\e 13=dLI at_/\e 14=dI at_.length/\e 15=dI k)/\(H.get 0=some ⟨3,1,(L0 at_ im n k).map cI,false⟩)/\(0<H.next)/\(k<=at_.length)/\((L0 at_ im n k).length=n)) (λk=>at_.length - k) 0 ⟨wg,(by simp [go_sem,Y,L0,cI]),wn,wi,(by exact Bt _ _ _ _)⟩ λI0 hI0 k e H hi0=>?_
 obtain ⟨E0,g0_0,n0_0,hk,hpl⟩:=hi0
 have Y:=wa Y (wa E0 (wa g0_0 (wa (cD n0_0) hpl)))
 refine dP (λh3=>?_) λh3=>?_
 .have hki:k<im.length:=aD
  have ha:=h1 _ (aC h3)
  have ha0:at_[k]?.getD 0=at_[k]:=by rw [aA h3];rfl
  have hi0:im[k]?.getD 0=im[k]:=by rw [aA hki];rfl
  have hal:at_[k].toNat<(L0 at_ im n k).length:=aD
  have Y:=wa Y (wa h3 (wa (aA h3) (wa (aA hki) (aA hal))))
  refine wv (h:=?_)
  repeat first|intro _|refine ⟨eQ,?_⟩
  exact wx hI0 (k+1) ⟨wg,(by simp [go_sem,Y,FQ,bX,ha0,hi0,cI]),wn,wj,(by exact Bt _ _ _ _)⟩
 .have hP:xV n at_ im=L0 at_ im n k:=by unfold xV L0;rw [(aD:k=at_.length)]
  exact wv (h:=hQ _ _ (by simp [go_sem,Y,hP,dLI]))
theorem JH (t:Types)(inj:Bool)(p:Pattern)(h:Host)(m:Part)(hO:SOk p h m)(vs:List Int)(hl:vs.length<=p.vars.toNat)(hs:∀ v∈vs,-2000000<=v/\v<=2000000) :
  Pure Tryz.prog 459 [.agg (scnC t h inj),p.d,m.d,dLI vs] (.tup [dLI (fC p h m vs).1,.bool (decide ((fC p h m vs).2=0))]):=by
 have hv:=hO.vars
 have h0:=Lf hv.1 hl hs
 have hst0:Jv p vs=(G3 vs p.vars.toNat,Ka vs.length p.vars.toNat):=by unfold Jv;rw [J9 _ _ hl];rfl
 have hsub:(p.vars - (vs.length:Int)).toNat=p.vars.toNat - vs.length:=aD
 have hsum:vs.length+(p.vars.toNat - vs.length)=p.vars.toNat:=aD
 have hva:(vs.map cI++List.replicate (p.vars.toNat - vs.length) [D.int .i64 0])=(G3 vs p.vars.toNat).map cI:=by simp [G3,cI]
 refine O9 (by first|rfl|(simp [go_sem];done)) (λQ hQ=>ACalls.bump 1 (aI (cfg:=⟨λt=>t==22||t==11||t==14||t==20,λr=>match r with|1=>[(1,2),(1,3),(1,5)]|_=>[]⟩) Tz.mixed Tryz.func459 rfl rfl (aF rfl) (by kernel_rfl) ?_))
 have Y:=wa hsub (wa hsum (wa @Pattern.d.eq_1 (wa @Pattern.c.eq_1 (wa @scnC.eq_1 (wa @Part.d.eq_1 (wa @Part.c.eq_1 @Term.c.eq_1))))))
 refine wv (h:=?_)
 repeat first|intro _|refine ⟨eQ,?_⟩
 refine DP 0 (jG vs aD) (by first|rfl|(simp [go_sem];done)) rfl (by first|omega|simp [go_sem]) (by simp [oZ,sD,Jg,GX]) (by first|trivial|(simp [go_sem];done)|simp [go_sem,G4]) ?_
 refine wv (h:=?_)
 repeat first|intro _|refine ⟨eQ,?_⟩
 refine bF (λi e H=>(e 4=.adr (scnC t h inj)/\e 5=.adr p.c/\e 6=.adr m.c/\e 3=dLI vs/\e 10=.own 0 p.vars.toNat/\e 11=.own 10 p.vars.toNat/\e 33=dI vs.length/\e 34=dI i)/\(H.get 0=some ⟨3,1,(G3 vs p.vars.toNat).map cI,false⟩)/\(0<H.next)/\(H.get 10=some ⟨4,1,(Rh p.vars.toNat i).map cB,false⟩)/\(10<H.next)/\(i<=vs.length)) (λi=>vs.length - i) 0 ⟨wg,(by simp [go_sem,Y,hva]),wn,(by simp [go_sem,Rh,cB]),wn,wi⟩ λI0 hI0 i e H hi0=>?_
 obtain ⟨E0,g0_0,n0_0,g10_0,n10_0,hi⟩:=hi0
 have Y:=wa Y (wa E0 (wa g0_0 (wa (cD n0_0) (wa g10_0 (cD n10_0)))))
 refine dP (λh4=>?_) λh4=>?_
 .have hTl:=SK (n:=p.vars.toNat) (i:=i) aD
  have hTi:i<(Rh p.vars.toNat i).length:=aD
  have hTs:((Rh p.vars.toNat i).map cB).set i [.bool true]=(Rh p.vars.toNat (i+1)).map cB:=by rw [<- SJ aD,bX];rfl
  have Y:=wa Y (wa h4 (wa hTl (wa (aA hTi) hTs)))
  refine wv (h:=?_)
  repeat first|intro _|refine ⟨eQ,?_⟩
  exact wx hI0 (i+1) ⟨wg,wn,wn,(by simp [go_sem,Y]),wn,wj⟩
 .have hie:i=vs.length:=aD
  have hTe:Rh p.vars.toNat i=Ka vs.length p.vars.toNat:=by rw [hie,J9 _ _ hl];rfl
  have Y:=wa Y hTe
  refine wv (h:=?_)
  repeat first|intro _|refine ⟨eQ,?_⟩
  refine bF (λi e H=>∃ st:List Int × List Bool,(e 4=.adr (scnC t h inj)/\e 5=.adr p.c/\e 6=.adr m.c/\e 3=dLI vs/\e 10=.own 0 p.vars.toNat/\e 11=.own 10 p.vars.toNat/\e 42=.list (p.slots.map Slot.c)/\e 43=dI p.slots.length/\e 44=dI i)/\(H.get 0=some ⟨3,1,st.1.map cI,false⟩)/\(0<H.next)/\(H.get 10=some ⟨4,1,st.2.map cB,false⟩)/\(10<H.next)/\(i<=p.slots.length)/\(StOk p.vars.toNat st)/\(jA h m (Jv p vs) (p.slots.take i)=some st)) (λi=>p.slots.length - i) 0 ⟨((G3 vs p.vars.toNat,Ka vs.length p.vars.toNat)),wg,(by simp [go_sem,Y]),wn,(by simp [go_sem,Y]),wn,wi,(by rw [<- hst0];exact h0),(by rw [hst0];rfl)⟩ λI2 hI2 i e H hi2=>?_
  obtain ⟨st,E2,g0_2,n0_2,g10_2,n10_2,hi,hst,hsl⟩:=hi2
  have Y:=wa Y (wa E2 (wa g0_2 (wa (cD n0_2) (wa g10_2 (cD n10_2)))))
  refine dP (λh9=>?_) λh9=>?_
  .obtain ⟨x,hx⟩:=cF (p.slots[i])
   have hxm:x∈p.slots:=hx ▸ aC h9
   have hn:=hO.node x hxm
   have hn2:x.node.toNat<m.nodes.length:=aD
   have hk:=hO.img _ (aC hn2)
   have hk2:(m.nodes[x.node.toNat]).toNat<h.values.length:=aD
   have ha:=hO.attr x hxm
   rw [aA hn2,Option.getD_some,aA hk2,Option.getD_some] at ha
   have ha2:x.attr.toNat<(h.values[(m.nodes[x.node.toNat]).toNat]).length:=aD
   have hV:lH h m x=h.values[(m.nodes[x.node.toNat]).toNat][x.attr.toNat]:=by unfold lH;rw [aA hn2,Option.getD_some,aA hk2,Option.getD_some,aA ha2];rfl
   have hb:=hO.have_ hxm
   have hT:=hO.term x hxm
   have hl1:=hst.l1
   have hl2:=hst.l2
   have hTv:=hT.1
   have hTa:=hT.2
   have hSt:=sP h9 hsl
   rw [<- hx] at hSt
   obtain ⟨s2,hs2e⟩:∃ y,y=lP h m st x:=⟨_,rfl⟩
   have hs2:StOk p.vars.toNat s2:=hs2e ▸ xF hst hb hT
   rw [<- hs2e] at hSt
   have hs2n:¬ 0<=x.term.var->s2=st:=λhn=>by rw [hs2e];unfold lP kJ;rw [if_neg (by simp [hn])]
   have vlt:0<=x.term.var->x.term.var.toNat<st.2.length:=λhn=>by omega
   obtain ⟨kb,hkb⟩:=cF (st.2[x.term.var.toNat]?.getD false)
   have hcase:0<=x.term.var\/(¬ 0<=x.term.var/\st.2[x.term.var.toNat]?=none)\/(¬ 0<=x.term.var/\st.2[x.term.var.toNat]?=some kb):=by
    by_cases hsp:0<=x.term.var
    .exact .inl hsp
    .right
     cases ho:st.2[x.term.var.toNat]? with
     | none=>exact .inl ⟨hsp,rfl⟩
     | some b=>rw [ho] at hkb;exact .inr ⟨hsp,by rw [hkb];rfl⟩
   rcases hcase with hc|hc|hc
   .have Y:=wa Y (wa h9 (wa (aA h9) (wa (Eq.symm hx) (wa (aA hn2) (wa (aA hk2) (wa (aA ha2) (wa (Eq.symm hV) (wa @Slot.c.eq_1 (wa @cL.eq_1 (wa hl1 (wa hl2 (wa @j5 (wa @cB.eq_1 (wa hc ((aA (vlt hc)))))))))))))))))
    refine wv (h:=?_)
    repeat first|intro _|refine ⟨eQ,?_⟩
    refine wq (λh13=>?_) λh13=>?_
    .have hF:kJ st x=true:=by simp only [kJ,aR,decide_eq_true_eq,c9];exact ⟨hc,by simpa [aA (vlt hc)] using h13⟩
     unfold lP at hs2e
     rw [if_pos hF] at hs2e
     have hvl:x.term.var.toNat<st.1.length:=aD
     have e1:s2.1.map cI=(st.1.map cI).set x.term.var.toNat (cI (lH h m x - x.term.add)):=by rw [hs2e,bX]
     have e2:s2.2.map cB=(st.2.map cB).set x.term.var.toNat (cB true):=by rw [hs2e,bX]
     have ecl:D.clLL ((st.1.map cI).set x.term.var.toNat [D.int .i64 (lH h m x - x.term.add)])=true:=by have:=pZ s2.1;rw [e1] at this;exact this
     have Y:=wa Y (wa e1 (wa e2 (wa @dLI.eq_1 (wa @cI.eq_1 (wa (aA hvl) ecl)))))
     refine wv (h:=?_)
     repeat first|intro _|refine ⟨eQ,?_⟩
     refine dW (mH x.term s2.1 (by rw [hs2.l1];exact hT) hs2.big) wr wl rfl ?_
     refine wv (h:=?_)
     repeat first|intro _|refine ⟨eQ,?_⟩
     refine wq (λh16=>?_) λh16=>?_
     .have hR:=eG (hSt.2 (by first|simpa using h16|simpa [hs2n hc.1] using h16|simpa [hs2e] using h16))
      exact wv (h:=hQ _ _ (by simp [go_sem,hR]))
     .have hstep:=hSt.1 (by first|simpa using h16|simpa [hs2n hc.1] using h16|simpa [hs2e] using h16)
      refine wv (h:=?_)
      repeat first|intro _|refine ⟨eQ,?_⟩
      exact wx hI2 (i+1) ⟨s2,wg,(by simp [go_sem,Y]),wn,(by simp [go_sem,Y]),wn,wj,(by exact hs2),(by exact hstep)⟩
    .have hF:¬ kJ st x=true:=by simp only [kJ,aR,decide_eq_true_eq,c9];rintro ⟨_,hk⟩;simp [aA (vlt hc)] at hk;simp [hk] at h13
     unfold lP at hs2e
     rw [if_neg hF] at hs2e
     have Y:=wa Y hs2e
     refine wv (h:=dW (mH x.term s2.1 (by rw [hs2.l1];exact hT) hs2.big) wr wl rfl ?_)
     refine wv (h:=?_)
     repeat first|intro _|refine ⟨eQ,?_⟩
     refine wq (λh16=>?_) λh16=>?_
     .have hR:=eG (hSt.2 (by first|simpa using h16|simpa [hs2n hc.1] using h16|simpa [hs2e] using h16))
      exact wv (h:=hQ _ _ (by simp [go_sem,hR]))
     .have hstep:=hSt.1 (by first|simpa using h16|simpa [hs2n hc.1] using h16|simpa [hs2e] using h16)
      refine wv (h:=?_)
      repeat first|intro _|refine ⟨eQ,?_⟩
      exact wx hI2 (i+1) ⟨s2,wg,(by simp [go_sem,Y]),wn,(by simp [go_sem,Y]),wn,wj,(by exact hs2),(by exact hstep)⟩
   .have Y:=wa Y (wa h9 (wa (aA h9) (wa (Eq.symm hx) (wa (aA hn2) (wa (aA hk2) (wa (aA ha2) (wa (Eq.symm hV) (wa @Slot.c.eq_1 (wa @cL.eq_1 (wa hl1 (wa hl2 (wa @j5 (wa @cB.eq_1 (wa hc.1 (wa hc.2 (hs2n hc.1))))))))))))))))
    refine wv (h:=?_)
    repeat first|intro _|refine ⟨eQ,?_⟩
    refine dW (mH x.term s2.1 (by rw [hs2.l1];exact hT) hs2.big) wr wl rfl ?_
    refine wv (h:=?_)
    repeat first|intro _|refine ⟨eQ,?_⟩
    refine wq (λh16=>?_) λh16=>?_
    .have hR:=eG (hSt.2 (by first|simpa using h16|simpa [hs2n hc.1] using h16|simpa [hs2e] using h16))
     exact wv (h:=hQ _ _ (by simp [go_sem,hR]))
    .have hstep:=hSt.1 (by first|simpa using h16|simpa [hs2n hc.1] using h16|simpa [hs2e] using h16)
     refine wv (h:=?_)
     repeat first|intro _|refine ⟨eQ,?_⟩
     exact wx hI2 (i+1) ⟨s2,wg,(by simp [go_sem,Y]),wn,(by simp [go_sem,Y]),wn,wj,(by exact hs2),(by exact hstep)⟩
   .have Y:=wa Y (wa h9 (wa (aA h9) (wa (Eq.symm hx) (wa (aA hn2) (wa (aA hk2) (wa (aA ha2) (wa (Eq.symm hV) (wa @Slot.c.eq_1 (wa @cL.eq_1 (wa hl1 (wa hl2 (wa @j5 (wa @cB.eq_1 (wa hc.1 (wa hc.2 (hs2n hc.1))))))))))))))))
    refine wv (h:=?_)
    repeat first|intro _|refine ⟨eQ,?_⟩
    refine dW (mH x.term s2.1 (by rw [hs2.l1];exact hT) hs2.big) wr wl rfl ?_
    refine wv (h:=?_)
    repeat first|intro _|refine ⟨eQ,?_⟩
    refine wq (λh16=>?_) λh16=>?_
    .have hR:=eG (hSt.2 (by first|simpa using h16|simpa [hs2n hc.1] using h16|simpa [hs2e] using h16))
     exact wv (h:=hQ _ _ (by simp [go_sem,hR]))
    .have hstep:=hSt.1 (by first|simpa using h16|simpa [hs2n hc.1] using h16|simpa [hs2e] using h16)
     refine wv (h:=?_)
     repeat first|intro _|refine ⟨eQ,?_⟩
     exact wx hI2 (i+1) ⟨s2,wg,(by simp [go_sem,Y]),wn,(by simp [go_sem,Y]),wn,wj,(by exact hs2),(by exact hstep)⟩
  .rw [aH aD] at hsl
   have hR0:=oH hsl
   have hl1:=hst.l1
   have Y:=wa Y hl1
   refine wv (h:=?_)
   repeat first|intro _|refine ⟨eQ,?_⟩
   refine bF (λk e H=>(e 4=.adr (scnC t h inj)/\e 5=.adr p.c/\e 6=.adr m.c/\e 3=dLI vs/\e 10=.own 0 p.vars.toNat/\e 102=.list (p.tests.map Test.c)/\e 103=dI p.tests.length/\e 104=dI k)/\(H.get 0=some ⟨3,1,st.1.map cI,false⟩)/\(0<H.next)/\(k<=p.tests.length)/\((p.tests.take k).all (λx=>zK x st.1)=true)) (λk=>p.tests.length - k) 0 ⟨wg,wn,wn,wi,(by rfl)⟩ λI4 hI4 k e H hi4=>?_
   obtain ⟨E4,g0_4,n0_4,hk,hall⟩:=hi4
   have Y:=wa Y (wa E4 (wa g0_4 (cD n0_4)))
   refine dP (λh20=>?_) λh20=>?_
   .have hX:=hO.test _ (aC h20)
    have Y:=wa Y (wa h20 (wa (aA h20) @Test.c.eq_1))
    refine wv (h:=?_)
    repeat first|intro _|refine ⟨eQ,?_⟩
    refine dW (uX p.tests[k] st.1 (by rw [hst.l1];exact hX) hst.big) wr wl rfl ?_
    refine wv (h:=?_)
    repeat first|intro _|refine ⟨eQ,?_⟩
    refine wq (λh22=>?_) λh22=>?_
    .have hR:fC p h m vs=([],16):=by
      rw [hR0,if_neg]
      intro ha
      rw [cO] at ha
      have:=ha _ (aC h20)
      simp [this] at h22
     exact wv (h:=hQ _ _ (by simp [go_sem,hR]))
    .refine wv (h:=?_)
     repeat first|intro _|refine ⟨eQ,?_⟩
     exact wx hI4 (k+1) ⟨wg,wn,wn,wj,(by rw [aE h20,A0,hall];simp;simpa using h22)⟩
   .rw [aH aD] at hall
    rw [if_pos hall] at hR0
    exact wv (h:=hQ _ _ (by simp [go_sem,Y,hR0,dLI]))
theorem Cy (t:Types)(ht:t.ok)(p:Pattern)(c:Cond)(hE:ExOk t p c.map c.pattern)(h:Host)(ho:HostOk t h)(m:Mat)(hm:MatOk t p h m)(inj:Bool) :
  Pure Tryz.prog 439 [.agg (scnC t h inj),.agg c.c,m.d] (.tup [.list ((wX t c.map c.pattern h m inj).1.map Mat.c),dI (wX t c.map c.pattern h m inj).2]):=by
 obtain ⟨⟨hl1,hl2⟩,hi1,hi2⟩:=hE.img
 have hq:=bR hE.pq.gg
 have hn1:=hm.mok.len
 have hn2:=hm.mok.elen
 refine Tz.pK ⟨λt=>t==8||t==9||t==12||t==14,λr=>match r with|2=>[(0,21),(1,21),(2,21),(3,21),(4,21),(5,21),(6,21),(7,21),(8,21),(9,21),(10,21),(11,21),(12,21),(13,21),(14,21),(15,21),(16,21),(17,21),(18,21),(19,21)]|_=>[]⟩ Tryz.func439 rfl (λQ hQ=>?_)
 obtain ⟨X,hX⟩:=cF (mY t c.pattern.graph h.graph (oO c.map c.pattern m.m) inj)
 have hXm:∀ x∈X.1,MOk t c.pattern.graph h.graph x:=λx hx=>Gt (hX ▸ hx)
 have hX5:X.1.length<=5000:=hX ▸ Ps _ _ _ _ _
 have hvl:m.vars.length<=c.pattern.vars.toNat:=by have:=hm.vl;have:=hE.pv;have:=hE.p0;omega
 have hXE:wX t c.map c.pattern h m inj=if X.2≠0 then ([],X.2) else (zT c.pattern h m.vars X.1,0):=by unfold wX;rw [<- hX]
 have Y:=wa @Cond.c_eq (wa @scnC.eq_1 (wa @Mat.d.eq_1 @Mat.c.eq_1))
 refine wp (h:=aJ (uY c.pattern.graph.nodes.length aD c.map.nodes m.m.nodes hi1 aD) wl ?_)
 refine wp (h:=aJ (uY c.pattern.graph.edges.length aD c.map.edges m.m.edges hi2 aD) wl ?_)
 refine wp (h:=aB ((by have hq:=Hi t ht c.pattern.graph h.graph (oO c.map c.pattern m.m) inj;rw [<- hX] at hq;unfold oO Types.d Types.c Graph.d Graph.c Part.d Part.c dLI at hq;exact hq)) wl ?_)
 refine sG (λh4=>?_) λh4=>?_
 .rw [if_pos h4] at hXE
  exact wv (h:=hQ _ _ (by simp [go_sem,hXE]))
 .rw [if_neg aD] at hXE
  refine wp (h:=bF (λi e H=>∃ ms:List Mat,(e 3=.adr (scnC t h inj)/\e 4=.adr c.c/\e 5=.adr m.c/\e 57=.list (X.1.map Part.c)/\e 58=dI X.1.length/\e 12=.own 24 ms.length/\e 59=dI i)/\(H.get 24=some ⟨46,3,ms.map Mat.c,false⟩)/\(24<H.next)/\(i<=X.1.length)/\(ms=zT c.pattern h m.vars (X.1.take i))/\(ms.length<=i)) (λi=>X.1.length - i) 0 ⟨([]),wg,wn,wn,wi,(by rfl),(by simp)⟩ λI0 hI0 i e H hi0=>?_)
  obtain ⟨ms,E0,g24_0,n24_0,hi,hms,hml⟩:=hi0
  have Y:=wa Y (wa E0 (wa g24_0 (cD n24_0)))
  refine dP (λh8=>?_) λh8=>?_
  .obtain ⟨v,hv⟩:=cF (fC c.pattern h X.1[i] m.vars)
   obtain ⟨ms2,hms2⟩:∃ y,y=ms++if v.2=0 then [(⟨X.1[i],v.1⟩:Mat)] else []:=⟨_,rfl⟩
   have Y:=wa Y (wa h8 (wa (aA h8) (wa @Part.c.eq_1 @Pattern.c.eq_1)))
   refine wp (h:=aB ((by have hq:=JH t inj c.pattern h X.1[i] (Ue hE.pq ho (hXm _ (aC h8))) m.vars hvl hm.vs;rw [<- hv] at hq;unfold scnC Pattern.d Pattern.c Part.d Part.c dLI at hq;exact hq)) wl ?_)
   refine sG (λh11=>?_) λh11=>?_
   .have hm3:ms2=ms++[⟨X.1[i],v.1⟩]:=by rw [hms2,if_pos (bW h11)]
    have Y:=wa Y hm3
    exact wp (h:=wx hI0 (i+1) ⟨ms2,wg,wn,wn,wj,(by rw [aE h8,u9,<- hms,<- hv];exact hms2),(by rw [hms2];split<;>simp<;>omega)⟩)
   .have hm3:ms2=ms:=by rw [hms2,if_neg (bW h11),dG]
    have Y:=wa Y hm3
    exact wp (h:=wx hI0 (i+1) ⟨ms2,wg,wn,wn,wj,(by rw [aE h8,u9,<- hms,<- hv];exact hms2),(by rw [hms2];split<;>simp<;>omega)⟩)
  .rw [aH aD] at hms
   exact wv (h:=hQ _ _ (by simp [go_sem,Y,hXE,<- hms]))
def Ni (t:Types)(h:Host)(inj:Bool)(c:Cond)(m:Mat):Prf × Int:=if (oB t h inj c m).2=0 then oB t h inj c m else (jN,(oB t h inj c m).2)
def G7 (W:Prf × Int):Prf × Int:=if W.2=0 then W else (jN,W.2)
theorem Q8 (t:Types)(h:Host)(inj:Bool)(c:Cond)(m:Mat):Ni t h inj c m=G7 (oB t h inj c m):=rfl
theorem Cp (t:Types)(h:Host)(inj:Bool)(c:Cond)(m:Mat):∃ wc wm wk we,Ni t h inj c m=(Prf.mk wc wm wk,we)/\(oB t h inj c m).2=we/\(we=0->oB t h inj c m=(Prf.mk wc wm wk,we)):=by
 cases hh:Ni t h inj c m with
 | mk a b =>
  cases a with
  | mk wc wm wk =>
   refine ⟨wc,wm,wk,b,rfl,?_,?_⟩
   .unfold Ni at hh
    split at hh
    .rw [hh]
    .exact congrArg Prod.snd hh
   .intro h0
    unfold Ni at hh
    split at hh
    .exact hh
    .rename_i h1
     have:=congrArg Prod.snd hh
     simp only at this
     exact absurd (this.trans h0) h1
theorem Fi (t:Types)(ht:t.ok)(h:Host)(ho:HostOk t h)(inj:Bool)(c:Cond)(p:Pattern)(hC:CondV t p c)(hp:PatOk t p)(h5:c.kind=5)
  (ih:∀ k∈c.kids,∀ m:Mat,MatOk t c.pattern h m->Pure Tryz.prog 332 [.agg (scnC t h inj),.agg k.c,m.d] (.tup [.agg (Ni t h inj k m).1.c,dI (Ni t h inj k m).2])) (m:Mat) (hm:MatOk t p h m) :
  Pure Tryz.prog 388 [.agg (scnC t h inj),.agg c.c,m.d] (.tup [.agg (Ni t h inj c m).1.c,dI (Ni t h inj c m).2]):=by
 obtain ⟨hK1,hK2⟩:=hC.kinds
 have hW:=Jm t h inj c m
 rw [Q8]
 obtain ⟨W,hWW⟩:=cF (oB t h inj c m)
 rw [<- hWW] at hW ⊢
 obtain ⟨hE,hCk⟩:=hC.ex h5 hp
 have hl:0<c.kids.length:=by have:=hK1 (.inr h5);omega
 obtain ⟨k0,hk0e⟩:∃ k,k=c.kids[0]:=⟨_,rfl⟩
 have hk0:k0∈c.kids:=hk0e ▸ aC hl
 obtain ⟨X,hX⟩:=cF (wX t c.map c.pattern h m inj)
 have hXm:∀ x∈X.1,MatOk t c.pattern h x:=hX ▸ Pt hE ho hm
 rw [if_neg aD,if_neg aD,if_neg aD,if_pos h5,y5 hl,<- hk0e,<- hX] at hW
 refine tK (by first|rfl|(simp [go_sem];done)) (λQ hQ=>(aI (cfg:=⟨λt=>t==6||t==11||t==12,λr=>match r with|7=>[(0,10),(1,10),(2,10),(3,10),(4,10),(5,10),(6,10)]|_=>[]⟩) Tz.mixed Tryz.func388 rfl rfl (aF rfl) (by kernel_rfl) ?_))
 have Y:=wa @Cond.c_eq (wa @scnC.eq_1 (wa @Mat.d.eq_1 (wa @Mat.c.eq_1 (wa @Prf.c_eq (wa (aA hl) (wa (Eq.symm hk0e) h5))))))
 refine wv (h:=aB ((by have hq:=Cy t ht p c hE h ho m hm inj;rw [<- hX,Cond.c_eq,h5] at hq;unfold scnC Mat.d Mat.c dLI dI at hq;exact hq)) wl ?_)
 refine dP (λh2=>?_) λh2=>?_
 .rw [if_pos (bW h2)] at hW
  have hR:G7 W=(jN,X.2):=by rw [hW];unfold G7;rw [if_neg (bW h2)]
  refine wv (h:=?_)
  exact hQ _ _ (by simp [go_sem,Y,hR,jN,g8,Prf.c_eq,lU,i6,eR,dLI,eI,fZ])
 .rw [if_neg (bW h2)] at hW
  refine wv (h:=?_)
  repeat first|intro _|refine ⟨eQ,?_⟩
  refine bF (λi e H=>(e 3=.adr (scnC t h inj)/\e 4=.adr c.c/\e 5=.adr m.c/\e 6=.ptr 0 1 0 0/\e 25=.list (X.1.map Mat.c)/\e 26=dI X.1.length/\e 27=dI i)/\(H.get 0=some ⟨282,5,[[dI 0,.nil,.nil,.nil,.nil]],false⟩)/\(0<H.next)/\(i<=X.1.length)/\(Tg ((X.1.drop i).map λx=>(x,oB t h inj k0 x))=W)) (λi=>X.1.length - i) 0 ⟨wg,wn,wn,wi,(by exact hW.symm)⟩ λI0 hI0 i e H hi0=>?_
  obtain ⟨E0,g0_0,n0_0,hi,hA⟩:=hi0
  have Y:=wa Y (wa E0 (wa g0_0 (cD n0_0)))
  refine dP (λh5=>?_) λh5=>?_
  .obtain ⟨wc,wm,wk,we,hw,hw2,hw3⟩:=Cp t h inj k0 X.1[i]
   have h5':i<X.1.length:=h5
   have hst:=hA
   rw [uW _ h5'] at hst
   simp only [Tg] at hst
   have nx:=W6 H.next
   have Y:=wa Y (wa h5 (wa (aA h5') nx))
   refine wv (h:=?_)
   repeat first|intro _|refine ⟨eQ,?_⟩
   refine aJ ((by have hq:=ih k0 hk0 X.1[i] (hXm _ (aC h5'));simp only [hw,Prf.c_eq,Cond.c_eq] at hq;unfold scnC Mat.d Mat.c dLI dI at hq;exact hq)) wl ?_
   refine wv (h:=?_)
   repeat first|intro _|refine ⟨eQ,?_⟩
   refine wq (λh8=>?_) λh8=>?_
   .have h8':we=0:=by simpa using h8
    rw [hw3 h8'] at hst
    simp only at hst
    rw [if_pos aD] at hst
    have hR:G7 W=(Prf.mk 0 X.1[i] [Prf.mk wc wm wk],0):=by rw [<- hst,h8'];rfl
    refine wv (h:=?_)
    exact hQ _ _ (by simp [go_sem,Y,hR,jN,g8,Prf.c_eq,lU,i6,eR,dLI,eI,fZ])
   .have h8':we≠0:=by simpa using h8
    refine dP (λh10=>?_) λh10=>?_
    .have h10':we≠10:=by simpa using h10
     rw [hw2,if_pos h10'] at hst
     have hR:G7 W=(jN,we):=by rw [<- hst];unfold G7;rw [if_neg h8']
     refine wv (h:=?_)
     exact hQ _ _ (by simp [go_sem,Y,hR,jN,g8,Prf.c_eq,lU,i6,eR,dLI,eI,fZ])
    .have h10':we=10:=by simpa using h10
     rw [hw2,if_neg aD] at hst
     refine wv (h:=?_)
     repeat first|intro _|refine ⟨eQ,?_⟩
     exact wx hI0 (i+1) ⟨wg,wn,wn,wj,(by exact hst)⟩
  .rw [jL aD] at hA
   simp only [jD,Tg] at hA
   have hR:G7 W=(jN,10):=by rw [<- hA];rfl
   have Y:=wa Y h5
   refine wv (h:=?_)
   exact hQ _ _ (by simp [go_sem,Y,hR,jN,g8,Prf.c_eq,lU,i6,eR,dLI,eI,fZ])
theorem Hj (t:Types)(ht:t.ok)(h:Host)(ho:HostOk t h)(inj:Bool):∀ (c:Cond) (p:Pattern),CondV t p c->PatOk t p->∀ m:Mat,MatOk t p h m ->
  Pure Tryz.prog 332 [.agg (scnC t h inj),.agg c.c,m.d] (.tup [.agg (Ni t h inj c m).1.c,dI (Ni t h inj c m).2]):=by
 refine i9 λc ih p hC hp m hm=>?_
 obtain ⟨hK1,hK2⟩:=hC.kinds
 have hkl0:c.kids.length<=1000000:=by have:=Mp c.kids;have:=vF c;have:=hC.sz;omega
 have hex:c.kind=5->Pure Tryz.prog 388 [.agg (scnC t h inj),.agg c.c,m.d] (.tup [.agg (Ni t h inj c m).1.c,dI (Ni t h inj c m).2]):=λh5=>by
  obtain ⟨hE,hCk⟩:=hC.ex h5 hp
  exact Fi t ht h ho inj c p hC hp h5 (λk hk m' hm'=>ih k hk c.pattern (hCk k hk) hE.pq m' hm') m hm
 have hW:=Jm t h inj c m
 rw [Q8] at hex ⊢
 obtain ⟨W,hWW⟩:=cF (oB t h inj c m)
 rw [<- hWW] at hW hex ⊢
 refine tK (by first|rfl|(simp [go_sem];done)) (λQ hQ=>(aI (cfg:=⟨λt=>t==6||t==8||t==10||t==12||t==13||t==16||t==17,λr=>match r with|3=>[(0,10),(1,10),(2,10),(3,10),(4,10),(5,10),(6,10)]|_=>[]⟩) Tz.mixed Tryz.func332 rfl rfl (aF rfl) (by kernel_rfl) ?_))
 have Y:=wa @Cond.c_eq (wa @scnC.eq_1 (wa @Mat.d.eq_1 (wa @Mat.c.eq_1 @Prf.c_eq)))
 refine dP (λh2=>?_) λh2=>?_
 .have h2':c.kind=2:=by simpa using h2
  have hl:0<c.kids.length:=by have:=hK1 (.inl h2');omega
  obtain ⟨k0,hk0e⟩:∃ k,k=c.kids[0]:=⟨_,rfl⟩
  have hk0:k0∈c.kids:=hk0e ▸ aC hl
  have hC0:=hC.kid aD k0 hk0
  obtain ⟨wc,wm,wk,we,hw,hw2,hw3⟩:=Cp t h inj k0 m
  rw [if_pos h2',y5 hl,<- hk0e,hw2] at hW
  unfold S1 at hW
  have Y:=wa Y (wa (aA hl) (wa (Eq.symm hk0e) h2'))
  refine wp (h:=aJ ((by have hq:=ih k0 hk0 p hC0 hp m hm;simp only [hw,Prf.c_eq,Cond.c_eq] at hq;unfold scnC Mat.d Mat.c dLI dI at hq;exact hq)) wl ?_)
  refine sG (λh5=>?_) λh5=>?_
  .rw [if_pos (bW h5)] at hW
   have hR:G7 W=(jN,10):=by rw [hW];rfl
   refine wv (h:=?_)
   exact hQ _ _ (by simp [go_sem,Y,hR,jN,g8,Prf.c_eq,lU,i6,eR,dLI,eI,fZ])
  .rw [if_neg (bW h5)] at hW
   refine dP (λh7=>?_) λh7=>?_
   .rw [if_pos (bW h7)] at hW
    have hR:G7 W=(jN,0):=by rw [hW];rfl
    refine wv (h:=?_)
    exact hQ _ _ (by simp [go_sem,Y,hR,jN,g8,Prf.c_eq,lU,i6,eR,dLI,eI,fZ])
   .rw [if_neg (bW h7)] at hW
    have hR:G7 W=(jN,we):=by rw [hW];unfold G7;rw [if_neg (bW h5)]
    refine wv (h:=?_)
    exact hQ _ _ (by simp [go_sem,Y,hR,jN,g8,Prf.c_eq,lU,i6,eR,dLI,eI,fZ])
 .have h2':c.kind≠2:=by simpa using h2
  rw [if_neg h2'] at hW
  refine dP (λh10=>?_) λh10=>?_
  .have h10':c.kind=3:=by simpa using h10
   have hCk:=hC.kid aD
   rw [if_pos h10'] at hW
   have Y:=wa Y h10'
   refine wp (h:=tN (Ghosts.step (Ghosts.refl _) 1 0 4 282 5 _ _ ((by simp [go_sem];rfl)) rfl rfl rfl) (λi e H=>∃ ps:List Prf,(e 3=.adr (scnC t h inj)/\e 4=.adr c.c/\e 5=.adr m.c/\e 6=.ptr 0 1 0 0/\e 20=dI c.kind/\e 10=.ptr 1 1 0 0/\e 45=.list (c.kids.map Cond.c)/\e 46=dI c.kids.length/\e 47=dI i)/\(H.get 0=some ⟨282,5,[[dI 0,.nil,.nil,.nil,.nil]],false⟩)/\(0<H.next)/\(H.get 1=some ⟨282,5,[[dI 0,.nil,.nil,.nil,.own 2 ps.length]],false⟩)/\(1<H.next)/\(H.get 2=some ⟨282,5,ps.map Prf.c,false⟩)/\(2<H.next)/\(i<=c.kids.length)/\(Kz ((c.kids.drop i).map λk=>oB t h inj k m) ps=W)/\(ps.length<=i)/\(c.kids.length<=1000000)) (λi=>c.kids.length - i) 0 ⟨([]),wg,wn,wn,wn,wn,wn,wn,wi,(by exact hW.symm),bV,(by exact hkl0)⟩ λI2 hI2 i e H hi2=>?_)
   obtain ⟨ps,E2,g0_2,n0_2,g1_2,n1_2,g2_2,n2_2,hi,hA,hpl,hkl⟩:=hi2
   have Y:=wa Y (wa E2 (wa g0_2 (wa (cD n0_2) (wa g1_2 (wa (cD n1_2) (wa g2_2 (cD n2_2)))))))
   refine dP (λh13=>?_) λh13=>?_
   .obtain ⟨k1,hk1e⟩:∃ k,k=c.kids[i]:=⟨_,rfl⟩
    have hk1:k1∈c.kids:=hk1e ▸ aC h13
    obtain ⟨wc,wm,wk,we,hw,hw2,hw3⟩:=Cp t h inj k1 m
    have hst:=hA
    rw [uW _ h13,<- hk1e] at hst
    simp only [Kz] at hst
    have Y:=wa Y (wa h13 (wa (aA h13) (Eq.symm hk1e)))
    refine wp (h:=aB ((by have hq:=ih k1 hk1 p (hCk k1 hk1) hp m hm;simp only [hw,Prf.c_eq,Cond.c_eq] at hq;unfold scnC Mat.d Mat.c dLI dI at hq;exact hq)) wl ?_)
    refine sG (λh16=>?_) λh16=>?_
    .have h16':we≠0:=by simpa using h16
     rw [hw2,if_pos h16'] at hst
     have hR:G7 W=(jN,we):=by rw [<- hst];unfold G7;rw [if_neg h16']
     refine wv (h:=?_)
     exact hQ _ _ (by simp [go_sem,Y,hR,jN,g8,Prf.c_eq,lU,i6,eR,dLI,eI,fZ])
    .have h16':we=0:=by simpa using h16
     rw [hw2,if_neg aD,hw3 h16'] at hst
     exact wp (h:=wx hI2 (i+1) ⟨(ps++[.mk wc wm wk]),wg,wn,wn,wn,wn,wn,wn,wj,(by exact hst),(by simp;omega),(by exact hkl)⟩)
   .rw [jL aD] at hA
    simp only [jD,Kz] at hA
    have hR:G7 W=(.mk 0 g8 ps,0):=by rw [<- hA];rfl
    refine wv (h:=?_)
    exact hQ _ _ (by simp [go_sem,Y,hR,jN,g8,Prf.c_eq,lU,i6,eR,dLI,eI,fZ])
  .have h10':c.kind≠3:=by simpa using h10
   rw [if_neg h10'] at hW
   refine dP (λh21=>?_) λh21=>?_
   .have h21':c.kind=4:=by simpa using h21
    have hCk:=hC.kid aD
    rw [if_pos h21'] at hW
    have Y:=wa Y h21'
    refine wp (h:=bF (λi e H=>(e 3=.adr (scnC t h inj)/\e 4=.adr c.c/\e 5=.adr m.c/\e 6=.ptr 0 1 0 0/\e 20=dI c.kind/\e 73=.list (c.kids.map Cond.c)/\e 74=dI c.kids.length/\e 75=dI i)/\(H.get 0=some ⟨282,5,[[dI 0,.nil,.nil,.nil,.nil]],false⟩)/\(0<H.next)/\(i<=c.kids.length)/\(SU ((c.kids.drop i).map λk=>oB t h inj k m) i=W)) (λi=>c.kids.length - i) 0 ⟨wg,wn,wn,wi,(by exact hW.symm)⟩ λI4 hI4 i e H hi4=>?_)
    obtain ⟨E4,g0_4,n0_4,hi,hA⟩:=hi4
    have Y:=wa Y (wa E4 (wa g0_4 (cD n0_4)))
    refine dP (λh23=>?_) λh23=>?_
    .obtain ⟨k1,hk1e⟩:∃ k,k=c.kids[i]:=⟨_,rfl⟩
     have hk1:k1∈c.kids:=hk1e ▸ aC h23
     obtain ⟨wc,wm,wk,we,hw,hw2,hw3⟩:=Cp t h inj k1 m
     have hst:=hA
     rw [uW _ h23,<- hk1e] at hst
     simp only [SU] at hst
     have Y:=wa Y (wa h23 (wa (aA h23) (Eq.symm hk1e)))
     refine wp (h:=aB ((by have hq:=ih k1 hk1 p (hCk k1 hk1) hp m hm;simp only [hw,Prf.c_eq,Cond.c_eq] at hq;unfold scnC Mat.d Mat.c dLI dI at hq;exact hq)) wl ?_)
     refine sG (λKO=>?_) λKO=>?_
     .have h26':we=0:=by simpa using KO
      rw [hw3 h26'] at hst
      simp only at hst
      rw [if_pos aD] at hst
      have hR:G7 W=(.mk i g8 [.mk wc wm wk],0):=by rw [<- hst,h26'];rfl
      refine wv (h:=?_)
      exact hQ _ _ (by simp [go_sem,Y,hR,jN,g8,Prf.c_eq,lU,i6,eR,dLI,eI,fZ])
     .have h26':we≠0:=by simpa using KO
      refine dP (λh28=>?_) λh28=>?_
      .have h28':we≠10:=by simpa using h28
       rw [hw2,if_pos h28'] at hst
       have hR:G7 W=(jN,we):=by rw [<- hst];unfold G7;rw [if_neg h26']
       refine wv (h:=?_)
       exact hQ _ _ (by simp [go_sem,Y,hR,jN,g8,Prf.c_eq,lU,i6,eR,dLI,eI,fZ])
      .have h28':we=10:=by simpa using h28
       rw [hw2,if_neg aD] at hst
       exact wp (h:=wx hI4 (i+1) ⟨wg,wn,wn,wj,(by exact hst)⟩)
    .rw [jL aD] at hA
     simp only [jD,SU] at hA
     have hR:G7 W=(jN,10):=by rw [<- hA];rfl
     refine wv (h:=?_)
     exact hQ _ _ (by simp [go_sem,Y,hR,jN,g8,Prf.c_eq,lU,i6,eR,dLI,eI,fZ])
   .have h21':c.kind≠4:=by simpa using h21
    rw [if_neg h21'] at hW
    refine dP (λh32=>?_) λh32=>?_
    .have h32':c.kind=5:=by simpa using h32
     obtain ⟨vc,vm,vk,ve,hV⟩:∃ vc vm vk ve,G7 W=(Prf.mk vc vm vk,ve):=by
      cases hh:G7 W with
      | mk a b=>cases a;exact ⟨_,_,_,_,rfl⟩
     have Y:=wa Y h32'
     refine wv (h:=aB ((by have hq:=hex h32';simp only [hV,Prf.c_eq,Cond.c_eq,h32'] at hq;unfold scnC Mat.d Mat.c dLI dI at hq;exact hq)) wl ?_)
     refine wv (h:=?_)
     exact hQ _ _ (by simp [go_sem,Y,hV,jN,g8,Prf.c_eq,lU,i6,eR,dLI,eI,fZ])
    .have h32':c.kind≠5:=by simpa using h32
     rw [if_neg h32'] at hW
     have hR:G7 W=(jN,0):=by rw [hW];rfl
     refine wv (h:=?_)
     exact hQ _ _ (by simp [go_sem,Y,hR,jN,g8,Prf.c_eq,lU,i6,eR,dLI,eI,fZ])
def Tr (t:Types)(p:Pattern)(c:Cond)(h:Host)(m:Mat)(inj:Bool):Int :=
 if condF t p c≠0 then condF t p c
 else if iF t h≠0 then iF t h
 else if fN t p.graph h.graph m.m inj≠0 then fN t p.graph h.graph m.m inj
 else if (d9 t p h m.m).2≠0 then (d9 t p h m.m).2
 else if (d9 t p h m.m).1≠m.vars then 11 else 0
theorem Ek (t:Types)(ht:t.ok)(p:Pattern)(c:Cond)(hc:c.ok)(hs:c.size<=1000000)(h:Host)(m:Mat)(inj:Bool):Pure Tryz.prog 331 [t.d,p.d,.agg c.c,h.d,m.d,.bool inj] (dI (Tr t p c h m inj)):=by
 refine Tz.pK ⟨λ_=>false,λ_=>[]⟩ Tryz.func331 rfl (λQ hQ=>?_)
 have Y:=wa @Cond.c_eq (wa @Pattern.d.eq_1 (wa @Pattern.c.eq_1 (wa @Host.d.eq_1 (wa @Host.c.eq_1 (wa @Mat.d.eq_1 (wa @Mat.c.eq_1 (wa @Graph.c.eq_1 @Part.c.eq_1)))))))
 refine wv (h:=aB ((by have hq:=wL t ht p c hc hs;rw [Cond.c_eq] at hq;unfold Types.d Types.c Pattern.d Pattern.c dLI dI at hq;exact hq)) wl ?_)
 refine dP (λh2=>?_) λh2=>?_
 .have hM:Tr t p c h m inj=condF t p c:=by unfold Tr;rw [if_pos h2]
  exact wv (h:=hQ _ _ (by simp [go_sem,hM]))
 .have hM:Tr t p c h m inj=if iF t h≠0 then iF t h else if fN t p.graph h.graph m.m inj≠0 then fN t p.graph h.graph m.m inj else if (d9 t p h m.m).2≠0 then (d9 t p h m.m).2 else if (d9 t p h m.m).1≠m.vars then 11 else 0:=by unfold Tr;rw [if_neg (bW h2)]
  refine wv (h:=aB (AE t ht h) wl ?_)
  refine dP (λh5=>?_) λh5=>?_
  .have h5':iF t h≠0:=h5
   rw [if_pos h5'] at hM
   exact wv (h:=hQ _ _ (by simp [go_sem,hM,iF]))
  .have h5':¬ iF t h≠0:=by unfold iF;simpa using h5
   rw [if_neg h5'] at hM
   refine wv (h:=aB (vJ t ht p.graph h.graph m.m inj) wl ?_)
   refine dP (λh8=>?_) λh8=>?_
   .rw [if_pos (bW h8)] at hM
    exact wv (h:=hQ _ _ (by simp [go_sem,hM]))
   .rw [if_neg (bW h8)] at hM
    refine wv (h:=aB (wO t ht p h m.m) wl ?_)
    refine dP (λh11=>?_) λh11=>?_
    .rw [if_pos (bW h11)] at hM
     exact wv (h:=hQ _ _ (by simp [go_sem,hM]))
    .rw [if_neg (bW h11)] at hM
     refine wp (h:=aB (k7 (d9 t p h m.m).1 m.vars) wl ?_)
     refine sG (λh13=>?_) λh13=>?_
     .rw [if_pos (bW h13)] at hM
      exact wv (h:=hQ _ _ (by simp [go_sem,hM]))
     .rw [if_neg (bW h13)] at hM
      exact wv (h:=hQ _ _ (by simp [go_sem,hM]))
theorem B7 (t:Types)(ht:t.ok)(p:Pattern)(c:Cond)(hc:c.ok)(hC:CondV t p c)(hp:PatOk t p)(h:Host)(ho:HostOk t h)(m:Mat)(hm:MatOk t p h m)(inj:Bool)(h0:Tr t p c h m inj=0) :
  Pure Tryz.prog 239 [t.d,p.d,.agg c.c,h.d,m.d,.bool inj] (.tup [.agg (Ni t h inj c m).1.c,dI (Ni t h inj c m).2]):=by
 obtain ⟨wc,wm,wk,we,hw,hw2,hw3⟩:=Cp t h inj c m
 refine tK (by first|rfl|(simp [go_sem];done)) (λQ hQ=>(aI (cfg:=⟨λt=>t==12,λ_=>[]⟩) Tz.mixed Tryz.func239 rfl rfl (aF rfl) (by kernel_rfl) ?_))
 have Y:=wa @Cond.c_eq (wa @scnC.eq_1 (wa @Pattern.d.eq_1 (wa @Pattern.c.eq_1 (wa @Host.d.eq_1 (wa @Host.c.eq_1 (wa @Mat.d.eq_1 (wa @Mat.c.eq_1 @Prf.c_eq)))))))
 refine wv (h:=aB ((by have hq:=Ek t ht p c hc hC.sz h m inj;rw [h0,Cond.c_eq] at hq;unfold Types.d Types.c Pattern.d Pattern.c Host.d Host.c Mat.d Mat.c dLI dI at hq;exact hq)) wl ?_)
 refine wv (h:=aB ((by have hq:=Hj t ht h ho inj c p hC hp m hm;simp only [hw,Prf.c_eq,Cond.c_eq] at hq;unfold scnC Mat.d Mat.c dLI dI at hq;exact hq)) wl ?_)
 refine wv (h:=?_)
 exact hQ _ _ (by simp [go_sem,Y,hw,Prf.c_eq,lU,i6,eR,dLI,eI,fZ])
theorem zP (t:Types)(ht:t.ok)(p:Pattern)(c:Cond)(hc:c.ok)(hC:CondV t p c)(hp:PatOk t p)(h:Host)(ho:HostOk t h)(m:Mat)(hm:MatOk t p h m)(inj:Bool)(h0:Tr t p c h m inj=0) :
  Pure Tryz.prog 141 [t.d,p.d,.agg c.c,h.d,m.d,.bool inj] (.tup [.bool (nE t h inj c m).1,dI (nE t h inj c m).2]):=by
 obtain ⟨wc,wm,wk,we,hw,hw2,hw3⟩:=Cp t h inj c m
 have hH:nE t h inj c m=if we=10 then (false,0) else (decide (we=0),we):=by unfold nE Rb;rw [hw2]
 refine Tz.pK ⟨λt=>t==14,λ_=>[]⟩ Tryz.func141 rfl (λQ hQ=>?_)
 have Y:=wa @Cond.c_eq (wa @Pattern.d.eq_1 (wa @Pattern.c.eq_1 (wa @Host.d.eq_1 (wa @Host.c.eq_1 (wa @Mat.d.eq_1 (wa @Mat.c.eq_1 @Prf.c_eq))))))
 refine wv (h:=aB ((by have hq:=B7 t ht p c hc hC hp h ho m hm inj h0;simp only [hw,Prf.c_eq,Cond.c_eq] at hq;unfold Types.d Types.c Pattern.d Pattern.c Host.d Host.c Mat.d Mat.c dLI dI at hq;exact hq)) wl ?_)
 refine dP (λh2=>?_) λh2=>?_
 .rw [if_pos (bW h2)] at hH
  exact wv (h:=hQ _ _ (by simp [go_sem,hH]))
 .rw [if_neg (bW h2)] at hH
  exact wv (h:=hQ _ _ (by simp [go_sem,hH,BN]))
theorem O6 {H:AHeap}{d:D}(h:d.cl=true):fH H d=d:=by cases d<;>first|rfl|simp [D.cl] at h
theorem O5 {H:AHeap}{d:D}(h:d.cl=true):iN H d=d:=by
 cases d with
 | agg cs =>
  simp only [D.cl] at h
  simp only [iN]
  congr 1
  conv=>rhs;rw [<- List.map_id cs]
  exact b6 λy hy=>O6 (jK h y hy)
 | _=>exact O6 (H:=H) h
theorem O3 (H:AHeap){d:D}(h:d.cl=true):p9 H d=d:=by
 cases d with
 | tup vs =>
  simp only [D.cl] at h
  simp only [p9]
  congr 1
  conv=>rhs;rw [<- List.map_id vs]
  exact b6 λy hy=>O5 (jK h y hy)
 | _=>exact O5 (H:=H) h
theorem WK {P:Program}{f:FuncId}{args:List D}{r:D}(hcl:r.cl=true)(h:ACalls P f args .emp λd H'=>iR H' d=r):Pure P f args r:=by
 refine aS (ACalls.deep (h.mono λd H' e=>⟨?_,hcl⟩))
 rw [e];exact O3 _ hcl
theorem P1 {H:AHeap}{qs:List Nat}{vals:List (List Int)}(hl:qs.length=vals.length)(hg:∀ (i q:Nat) (v:List Int),qs[i]?=some q->vals[i]?=some v->H.get q=some ⟨3,1,v.map cI,false⟩):(kQ qs vals).map (·.map (fH H))=vals.map cL:=by
 apply gL
 intro i
 simp only [aN]
 by_cases hi:i<vals.length
 .have hq:i<qs.length:=aD
  have e1:=aA hi
  have e2:=aA hq
  rw [rE e2 e1,e1]
  have:=hg i _ _ e2 e1
  simp [fH,this,cL,dLI]
 .rw [b5 (by rw [jF hl];omega),b5 aD];rfl
theorem Hc (h:Host)(hn:h.graph.nodes.length<=100000)(he:h.graph.edges.length<=100000)(hv:h.values.length<=100000)(hr:∀ v∈h.values,v.length<=100000):Pure Tryz.prog 143 [h.d] h.d:=by
 refine WK (Host.cld h) ?_
 obtain ⟨Q,hQ⟩:∃ Q:D->AHeap->Prop,∀ d H',Q d H'↔iR H' d=h.d:=⟨_,λ_ _=>Iff.rfl⟩
 rw [show (λd H'=>iR H' d=h.d)=Q from funext λd=>funext λH'=>propext (hQ d H').symm]
 refine (aI (cfg:=⟨λt=>t==2||t==3||t==25||t==1000001,λr=>match r with|1=>[(0,10),(1,10),(2,10),(3,10),(4,10),(5,10),(6,10),(7,10)]|5=>[(0,2),(1,2),(0,4),(1,4),(0,5),(1,5)]|_=>[]⟩) Tz.mixed Tryz.func143 rfl rfl (aF rfl) (by kernel_rfl) ?_)
 have Y:=wa @Host.d.eq_1 @Host.c.eq_1
 refine wv (h:=?_)
 refine mE (jG h.graph.nodes aD) (by simp [go_sem,dLI]) (by simp [go_sem]) (IQ _) rfl (by simp [go_sem]) ?_
 refine wv (h:=?_)
 refine mE (AQ h.graph.edges aD) (by simp [go_sem]) (by simp [go_sem]) (RW _) rfl (by simp [go_sem]) ?_
 refine wp (h:=tN (Ghosts.step (Ghosts.refl _) 11 0 2 26 1 _ _ ((by simp [go_sem];rfl)) rfl rfl rfl) (λi e H=>∃ qs:List Nat,(e 1=.adr h.c/\e 2=.ptr 0 1 0 0/\e 3=.ptr 11 1 0 0/\e 17=.list (h.values.map cL)/\e 18=dI h.values.length/\e 19=dI i)/\(H.get 0=some ⟨44,3,[[.nil,.nil,.nil]],false⟩)/\(0<H.next)/\(H.get 11=some ⟨44,3,[[dLI h.graph.nodes,.list (h.graph.edges.map Edge.c),.own 13 i]],false⟩)/\(11<H.next)/\(H.get 13=some ⟨26,1,kQ qs (h.values.take i),false⟩)/\(13<H.next)/\(i<=h.values.length)/\(qs.length=(h.values.take i).length)/\(∀ q∈qs,13<q/\q<H.next)/\(13<H.next)/\(∀ (k q:Nat) (v:List Int),qs[k]?=some q->(h.values.take i)[k]?=some v->H.get q=some ⟨3,1,v.map cI,false⟩)) (λi=>h.values.length - i) 0 ⟨([]),wg,wn,wn,wn,wn,(by simp [go_sem,Y,kQ]),wn,wi,(by rfl),(by intro q hq;cases hq),(by simp [go_sem]),(by intro k q v hk;simp at hk)⟩ λI0 hI0 i e H hi0=>?_)
 obtain ⟨qs,E0,g0_0,n0_0,g11_0,n11_0,g13_0,n13_0,hi,hql,hqr,hnx,hgq⟩:=hi0
 have Y:=wa Y (wa E0 (wa g0_0 (wa (cD n0_0) (wa g11_0 (wa (cD n11_0) (wa g13_0 (cD n13_0)))))))
 refine dP (λh3=>?_) λh3=>?_
 .have hr8:=hr _ (aC h3)
  have hrl:(kQ qs (h.values.take i)).length=i:=by rw [jF hql];simp;omega
  have hgq2:∀ H2:AHeap,H2.get (H.next+2)=some ⟨3,1,h.values[i].map cI,false⟩->(∀ q∈qs,H2.get q=H.get q)->∀ (k q:Nat) (v:List Int),(qs++[H.next+2])[k]?=some q->(h.values.take (i+1))[k]?=some v->H2.get q=some ⟨3,1,v.map cI,false⟩:=λH2 g1 g2 k q v e1 e2=>by
   rw [aE h3] at e2
   have hqi:qs.length=i:=by rw [hql];simp;omega
   have hti:(h.values.take i).length=i:=by simp;omega
   by_cases hk:k<i
   .rw [aQ aD] at e1
    rw [aQ aD] at e2
    rw [g2 q (aK e1)];exact hgq k q v e1 e2
   .have h1':=(aM.1 e1).1
    have:k=i:=by simp at h1';omega
    subst this
    rw [aZ aD,hqi,w3] at e1
    rw [aZ aD,hti,w3] at e2
    simp at e1 e2
    subst e1 e2;exact g1
  have Y:=wa Y (wa h3 (wa (aA h3) (wa @cL.eq_1 hrl)))
  exact wp (h:=wx hI0 (i+1) ⟨(qs++[H.next+2]),wg,wn,wn,wn,wn,(by rw [aE h3,vM hql];simp [go_sem,Y,cL]),wn,wj,(by simp [hql];omega),(by intro q hq;rw [aV,bK] at hq;rcases hq with hq|rfl;(have:=hqr q hq;simp [go_sem];omega);(simp [go_sem];omega)),(by simp [go_sem];omega),(by exact hgq2 _ (by simp [go_sem,Y,cL]) (λq hq=>by have:=hqr q hq;simp [go_sem,cD this.2,(aD:q≠13),(aD:q≠11)]))⟩)
 .rw [aH aD] at hql hgq
  have hie:i=h.values.length:=aD
  refine wv (h:=?_)
  refine (hQ _ _).2 ?_
  obtain ⟨E,hEq⟩:=cF (H.put 0 ⟨44,3,[[D.list (List.map cI h.graph.nodes),D.list (List.map Edge.c h.graph.edges),D.own 13 i]],false⟩)
  rw [<- hEq]
  have hE13:E.get 13=some ⟨26,1,kQ qs (h.values.take i),false⟩:=by rw [hEq];simp [go_sem,g13_0]
  rw [aH (aD:h.values.length<=i)] at hE13
  have hR:=P1 (H:=E) hql (λk q v e1 e2=>by
   have:=hqr q (aK e1)
   rw [hEq];simp [go_sem,(aD:q≠0)];exact hgq k q v e1 e2)
  have hrl:=jF hql
  simp only [iR,jT,o9,fH,g6,jD,hE13,hrl,hR,hie,if_true]
  rfl
end Go.Abs
end
