/- Conditions of the program: placed, values, extensions. · Con -/
import Derived.Test.YtjfaalokjnmdoaaGreatZaF
import Derived.Test.YtjfaalokjnmdoaaGreatZaA
import Derived.Test.YtjfaalokjnmdoaaGreatZaS
import Derived.Test.YtjfaalokjnmdoaaGreatZaR
set_option linter.unusedVariables false
set_option linter.unusedSimpArgs false
section
set_option maxRecDepth 100000
set_option maxHeartbeats 4000000
open Go Go.Proofs
namespace Go.Abs
def scnC (t:Types)(h:Host)(inj:Bool):List D:=[.list (t.nodes.map NodeTy.c),.list (t.edges.map EdgeTy.c),dLI h.graph.nodes,.list (h.graph.edges.map Edge.c),.list (h.values.map cL),.bool inj]
def Ny (n i:Nat):List Bool:=List.replicate i true++List.replicate (n - i) false
theorem OP {n i:Nat}(h:i≤n):(Ny n i).length=n:=by simp [Ny];omega
theorem OO {n i:Nat}(h:i<n):(Ny n i).set i true=Ny n (i+1):=by
 unfold Ny
 rw [kB _ _ (by simp),nY,qN,show n - i=(n - (i+1))+1 by omega,l5,rY,w8,List.append_assoc];rfl
theorem sV (n:Nat)(hn:n≤1000)(at_ im:List Int)(h1:∀ x∈at_,0≤x∧x<n)(h2:at_.length≤im.length):Pure Tryz.prog 449 [dI n,dLI at_,dLI im] (dLI (vG n at_ im)):=by
 refine Tz.pK ⟨fun t=>t==12,fun _=>[]⟩ Tryz.func449 rfl (fun Q hQ=>?_)
 have Y:=trivial
 refine wv (h:=lU (C8 (-1) n hn) wl ?_)
 refine wv (h:=?_)
 repeat first|intro _|refine ⟨eM,?_⟩
 refine bB (fun k e H=>(e 0=dI n∧e 1=dLI at_∧e 2=dLI im∧e 7=.own 0 n∧e 13=dLI at_∧e 14=dI at_.length∧e 15=dI k)∧(H.get 0=some ⟨3,1,(IK at_ im n k).map cI,false⟩)∧(0<H.next)∧(k≤at_.length)∧((IK at_ im n k).length=n)) (fun k=>at_.length - k) 0 ⟨wg,(by (simp [go_sem,Y,IK,cI])),wn,wi,(by (exact zL _ _ _ _))⟩ fun I0 hI0 k e H hi0=>?_
 obtain ⟨E0,g0_0,n0_0,hk,hpl⟩:=hi0
 have Y:=wa Y (wa E0 (wa g0_0 (wa (bY n0_0) hpl)))
 refine cT (fun h3=>?_) fun h3=>?_
 ·have hki:k<im.length:=by omega
  have ha:=h1 _ (aC h3)
  have ha0:at_[k]?.getD 0=at_[k]:=by rw [aA h3];rfl
  have hi0:im[k]?.getD 0=im[k]:=by rw [aA hki];rfl
  have hal:at_[k].toNat<(IK at_ im n k).length:=by omega
  have Y:=wa Y (wa h3 (wa (aA h3) (wa (aA hki) (aA hal))))
  refine wv (h:=?_)
  repeat first|intro _|refine ⟨eM,?_⟩
  exact wx hI0 (k+1) ⟨wg,(by (simp [go_sem,Y,Dr,cG,ha0,hi0,cI])),wn,wj,(by (exact zL _ _ _ _))⟩
 ·have hP:vG n at_ im=IK at_ im n k:=by unfold vG IK;rw [show k=at_.length by omega]
  exact wv (h:=hQ _ _ (by simp [go_sem,Y,hP,dLI]))
theorem GO (t:Types)(inj:Bool)(p:Pattern)(h:Host)(m:Part)(hO:SOk p h m)(vs:List Int)(hl:vs.length≤p.vars.toNat)(hs:∀ v∈vs,-2000000≤v∧v≤2000000) :
  Pure Tryz.prog 451 [.agg (scnC t h inj),p.d,m.d,dLI vs] (.tup [dLI (dH p h m vs).1,.bool (decide ((dH p h m vs).2=0))]):=by
 have hv:=hO.vars
 have h0:=H5 hv.1 hl hs
 have hst0:GE p vs=(Em vs p.vars.toNat,Ha vs.length p.vars.toNat):=by unfold GE;rw [G9 _ _ hl];rfl
 have hsub:(p.vars - (vs.length:Int)).toNat=p.vars.toNat - vs.length:=by omega
 have hsum:vs.length+(p.vars.toNat - vs.length)=p.vars.toNat:=by omega
 have hva:(vs.map cI++List.replicate (p.vars.toNat - vs.length) [D.int .i64 0])=(Em vs p.vars.toNat).map cI:=by simp [Em,cI]
 refine LA (by first|rfl|(simp [go_sem];done)) (fun Q hQ=>ACalls.bump 1 (aG (cfg:=⟨fun t=>t==22||t==11||t==14||t==20,fun r=>match r with|1=>[(1,2),(1,3),(1,5)]|_=>[]⟩) Tz.mixed Tryz.func451 rfl rfl (aE rfl) (by kernel_rfl) ?_))
 have Y:=wa hsub (wa hsum (wa @Pattern.d.eq_1 (wa @Pattern.c.eq_1 (wa @scnC.eq_1 (wa @Part.d.eq_1 (wa @Part.c.eq_1 @Term.c.eq_1))))))
 refine wv (h:=?_)
 repeat first|intro _|refine ⟨eM,?_⟩
 refine BP 0 (jW vs (by omega)) (by first|rfl|(simp [go_sem];done)) rfl (by first|omega|simp [go_sem]) (by simp [mS,qC,Gs,Eg]) (by first|trivial|(simp [go_sem];done)|simp [go_sem,En]) ?_
 refine wv (h:=?_)
 repeat first|intro _|refine ⟨eM,?_⟩
 refine bB (fun i e H=>(e 4=.adr (scnC t h inj)∧e 5=.adr p.c∧e 6=.adr m.c∧e 3=dLI vs∧e 10=.own 0 p.vars.toNat∧e 11=.own 10 p.vars.toNat∧e 33=dI vs.length∧e 34=dI i)∧(H.get 0=some ⟨3,1,(Em vs p.vars.toNat).map cI,false⟩)∧(0<H.next)∧(H.get 10=some ⟨4,1,(Ny p.vars.toNat i).map cB,false⟩)∧(10<H.next)∧(i≤vs.length)) (fun i=>vs.length - i) 0 ⟨wg,(by (simp [go_sem,Y,hva])),wn,(by (simp [go_sem,Ny,cB])),wn,wi⟩ fun I0 hI0 i e H hi0=>?_
 obtain ⟨E0,g0_0,n0_0,g10_0,n10_0,hi⟩:=hi0
 have Y:=wa Y (wa E0 (wa g0_0 (wa (bY n0_0) (wa g10_0 (bY n10_0)))))
 refine cT (fun h4=>?_) fun h4=>?_
 ·have hTl:=OP (n:=p.vars.toNat) (i:=i) (by omega)
  have hTi:i<(Ny p.vars.toNat i).length:=by omega
  have hTs:((Ny p.vars.toNat i).map cB).set i [.bool true]=(Ny p.vars.toNat (i+1)).map cB:=by rw [← OO (by omega),cG];rfl
  have Y:=wa Y (wa h4 (wa hTl (wa (aA hTi) hTs)))
  refine wv (h:=?_)
  repeat first|intro _|refine ⟨eM,?_⟩
  exact wx hI0 (i+1) ⟨wg,wn,wn,(by (simp [go_sem,Y])),wn,wj⟩
 ·have hie:i=vs.length:=by omega
  have hTe:Ny p.vars.toNat i=Ha vs.length p.vars.toNat:=by rw [hie,G9 _ _ hl];rfl
  have Y:=wa Y hTe
  refine wv (h:=?_)
  repeat first|intro _|refine ⟨eM,?_⟩
  refine bB (fun i e H=>∃ st:List Int × List Bool,(e 4=.adr (scnC t h inj)∧e 5=.adr p.c∧e 6=.adr m.c∧e 3=dLI vs∧e 10=.own 0 p.vars.toNat∧e 11=.own 10 p.vars.toNat∧e 42=.list (p.slots.map Slot.c)∧e 43=dI p.slots.length∧e 44=dI i)∧(H.get 0=some ⟨3,1,st.1.map cI,false⟩)∧(0<H.next)∧(H.get 10=some ⟨4,1,st.2.map cB,false⟩)∧(10<H.next)∧(i≤p.slots.length)∧(StOk p.vars.toNat st)∧(gW h m (GE p vs) (p.slots.take i)=some st)) (fun i=>p.slots.length - i) 0 ⟨((Em vs p.vars.toNat,Ha vs.length p.vars.toNat)),wg,(by (simp [go_sem,Y])),wn,(by (simp [go_sem,Y])),wn,wi,(by (rw [← hst0];exact h0)),(by (rw [hst0];rfl))⟩ fun I2 hI2 i e H hi2=>?_
  obtain ⟨st,E2,g0_2,n0_2,g10_2,n10_2,hi,hst,hsl⟩:=hi2
  have Y:=wa Y (wa E2 (wa g0_2 (wa (bY n0_2) (wa g10_2 (bY n10_2)))))
  refine cT (fun h9=>?_) fun h9=>?_
  ·obtain ⟨x,hx⟩:∃ x,x=p.slots[i]:=⟨_,rfl⟩
   have hxm:x∈p.slots:=hx ▸ aC h9
   have hn:=hO.node x hxm
   have hn2:x.node.toNat<m.nodes.length:=by omega
   have hk:=hO.img _ (aC hn2)
   have hk2:(m.nodes[x.node.toNat]).toNat<h.values.length:=by omega
   have ha:=hO.attr x hxm
   rw [aA hn2,aD,aA hk2,aD] at ha
   have ha2:x.attr.toNat<(h.values[(m.nodes[x.node.toNat]).toNat]).length:=by omega
   have hV:jM h m x=h.values[(m.nodes[x.node.toNat]).toNat][x.attr.toNat]:=by unfold jM;rw [aA hn2,aD,aA hk2,aD,aA ha2];rfl
   have hb:=hO.have_ hxm
   have hT:=hO.term x hxm
   have hl1:=hst.l1
   have hl2:=hst.l2
   have hTv:=hT.1
   have hTa:=hT.2
   have hSt:=qS h9 hsl
   rw [← hx] at hSt
   obtain ⟨s2,hs2e⟩:∃ y,y=jS h m st x:=⟨_,rfl⟩
   have hs2:StOk p.vars.toNat s2:=hs2e ▸ u3 hst hb hT
   rw [← hs2e] at hSt
   have hs2n:¬ 0≤x.term.var→s2=st:=fun hn=>by rw [hs2e];unfold jS i7;rw [if_neg (by simp [hn])]
   have vlt:0≤x.term.var→x.term.var.toNat<st.2.length:=fun hn=>by omega
   obtain ⟨kb,hkb⟩:∃ kb,kb=st.2[x.term.var.toNat]?.getD false:=⟨_,rfl⟩
   have hcase:0≤x.term.var∨(¬ 0≤x.term.var∧st.2[x.term.var.toNat]?=none)∨(¬ 0≤x.term.var∧st.2[x.term.var.toNat]?=some kb):=by
    by_cases hsp:0≤x.term.var
    ·exact .inl hsp
    ·right
     cases ho:st.2[x.term.var.toNat]? with
     | none=>exact .inl ⟨hsp,rfl⟩
     | some b=>rw [ho] at hkb;exact .inr ⟨hsp,by rw [hkb];rfl⟩
   rcases hcase with hc|hc|hc
   ·have Y:=wa Y (wa h9 (wa (aA h9) (wa (Eq.symm hx) (wa (aA hn2) (wa (aA hk2) (wa (aA ha2) (wa (Eq.symm hV) (wa @Slot.c.eq_1 (wa @cL.eq_1 (wa hl1 (wa hl2 (wa @iR (wa @cB.eq_1 (wa hc ((aA (vlt hc)))))))))))))))))
    refine wv (h:=?_)
    repeat first|intro _|refine ⟨eM,?_⟩
    refine wq (fun h13=>?_) fun h13=>?_
    ·have hF:i7 st x=true:=by simp only [i7,aP,decide_eq_true_eq,cD];exact ⟨hc,by simpa [aA (vlt hc)] using h13⟩
     unfold jS at hs2e
     rw [if_pos hF] at hs2e
     have hvl:x.term.var.toNat<st.1.length:=by omega
     have e1:s2.1.map cI=(st.1.map cI).set x.term.var.toNat (cI (jM h m x - x.term.add)):=by rw [hs2e,cG]
     have e2:s2.2.map cB=(st.2.map cB).set x.term.var.toNat (cB true):=by rw [hs2e,cG]
     have ecl:D.clLL ((st.1.map cI).set x.term.var.toNat [D.int .i64 (jM h m x - x.term.add)])=true:=by have:=nU s2.1;rw [e1] at this;exact this
     have Y:=wa Y (wa e1 (wa e2 (wa @dLI.eq_1 (wa @cI.eq_1 (wa (aA hvl) ecl)))))
     refine wv (h:=?_)
     repeat first|intro _|refine ⟨eM,?_⟩
     refine cY (kU x.term s2.1 (by rw [hs2.l1];exact hT) hs2.big) wr wl rfl ?_
     refine wv (h:=?_)
     repeat first|intro _|refine ⟨eM,?_⟩
     refine wq (fun h16=>?_) fun h16=>?_
     ·have hR:=dC (hSt.2 (by first|simpa using h16|simpa [hs2n hc.1] using h16|simpa [hs2e] using h16))
      exact wv (h:=hQ _ _ (by simp [go_sem,hR]))
     ·have hstep:=hSt.1 (by first|simpa using h16|simpa [hs2n hc.1] using h16|simpa [hs2e] using h16)
      refine wv (h:=?_)
      repeat first|intro _|refine ⟨eM,?_⟩
      exact wx hI2 (i+1) ⟨s2,wg,(by (simp [go_sem,Y])),wn,(by (simp [go_sem,Y])),wn,wj,(by exact hs2),(by exact hstep)⟩
    ·have hF:¬ i7 st x=true:=by simp only [i7,aP,decide_eq_true_eq,cD];rintro ⟨_,hk⟩;simp [aA (vlt hc)] at hk;simp [hk] at h13
     unfold jS at hs2e
     rw [if_neg hF] at hs2e
     have Y:=wa Y hs2e
     refine wv (h:=cY (kU x.term s2.1 (by rw [hs2.l1];exact hT) hs2.big) wr wl rfl ?_)
     refine wv (h:=?_)
     repeat first|intro _|refine ⟨eM,?_⟩
     refine wq (fun h16=>?_) fun h16=>?_
     ·have hR:=dC (hSt.2 (by first|simpa using h16|simpa [hs2n hc.1] using h16|simpa [hs2e] using h16))
      exact wv (h:=hQ _ _ (by simp [go_sem,hR]))
     ·have hstep:=hSt.1 (by first|simpa using h16|simpa [hs2n hc.1] using h16|simpa [hs2e] using h16)
      refine wv (h:=?_)
      repeat first|intro _|refine ⟨eM,?_⟩
      exact wx hI2 (i+1) ⟨s2,wg,(by (simp [go_sem,Y])),wn,(by (simp [go_sem,Y])),wn,wj,(by exact hs2),(by exact hstep)⟩
   ·have Y:=wa Y (wa h9 (wa (aA h9) (wa (Eq.symm hx) (wa (aA hn2) (wa (aA hk2) (wa (aA ha2) (wa (Eq.symm hV) (wa @Slot.c.eq_1 (wa @cL.eq_1 (wa hl1 (wa hl2 (wa @iR (wa @cB.eq_1 (wa hc.1 (wa hc.2 (hs2n hc.1))))))))))))))))
    refine wv (h:=?_)
    repeat first|intro _|refine ⟨eM,?_⟩
    refine cY (kU x.term s2.1 (by rw [hs2.l1];exact hT) hs2.big) wr wl rfl ?_
    refine wv (h:=?_)
    repeat first|intro _|refine ⟨eM,?_⟩
    refine wq (fun h16=>?_) fun h16=>?_
    ·have hR:=dC (hSt.2 (by first|simpa using h16|simpa [hs2n hc.1] using h16|simpa [hs2e] using h16))
     exact wv (h:=hQ _ _ (by simp [go_sem,hR]))
    ·have hstep:=hSt.1 (by first|simpa using h16|simpa [hs2n hc.1] using h16|simpa [hs2e] using h16)
     refine wv (h:=?_)
     repeat first|intro _|refine ⟨eM,?_⟩
     exact wx hI2 (i+1) ⟨s2,wg,(by (simp [go_sem,Y])),wn,(by (simp [go_sem,Y])),wn,wj,(by exact hs2),(by exact hstep)⟩
   ·have Y:=wa Y (wa h9 (wa (aA h9) (wa (Eq.symm hx) (wa (aA hn2) (wa (aA hk2) (wa (aA ha2) (wa (Eq.symm hV) (wa @Slot.c.eq_1 (wa @cL.eq_1 (wa hl1 (wa hl2 (wa @iR (wa @cB.eq_1 (wa hc.1 (wa hc.2 (hs2n hc.1))))))))))))))))
    refine wv (h:=?_)
    repeat first|intro _|refine ⟨eM,?_⟩
    refine cY (kU x.term s2.1 (by rw [hs2.l1];exact hT) hs2.big) wr wl rfl ?_
    refine wv (h:=?_)
    repeat first|intro _|refine ⟨eM,?_⟩
    refine wq (fun h16=>?_) fun h16=>?_
    ·have hR:=dC (hSt.2 (by first|simpa using h16|simpa [hs2n hc.1] using h16|simpa [hs2e] using h16))
     exact wv (h:=hQ _ _ (by simp [go_sem,hR]))
    ·have hstep:=hSt.1 (by first|simpa using h16|simpa [hs2n hc.1] using h16|simpa [hs2e] using h16)
     refine wv (h:=?_)
     repeat first|intro _|refine ⟨eM,?_⟩
     exact wx hI2 (i+1) ⟨s2,wg,(by (simp [go_sem,Y])),wn,(by (simp [go_sem,Y])),wn,wj,(by exact hs2),(by exact hstep)⟩
  ·rw [aJ (by omega)] at hsl
   have hR0:=mB hsl
   have hl1:=hst.l1
   have Y:=wa Y hl1
   refine wv (h:=?_)
   repeat first|intro _|refine ⟨eM,?_⟩
   refine bB (fun k e H=>(e 4=.adr (scnC t h inj)∧e 5=.adr p.c∧e 6=.adr m.c∧e 3=dLI vs∧e 10=.own 0 p.vars.toNat∧e 102=.list (p.tests.map Test.c)∧e 103=dI p.tests.length∧e 104=dI k)∧(H.get 0=some ⟨3,1,st.1.map cI,false⟩)∧(0<H.next)∧(k≤p.tests.length)∧((p.tests.take k).all (fun x=>wY x st.1)=true)) (fun k=>p.tests.length - k) 0 ⟨wg,wn,wn,wi,(by rfl)⟩ fun I4 hI4 k e H hi4=>?_
   obtain ⟨E4,g0_4,n0_4,hk,hall⟩:=hi4
   have Y:=wa Y (wa E4 (wa g0_4 (bY n0_4)))
   refine cT (fun h20=>?_) fun h20=>?_
   ·have hX:=hO.test _ (aC h20)
    have Y:=wa Y (wa h20 (wa (aA h20) @Test.c.eq_1))
    refine wv (h:=?_)
    repeat first|intro _|refine ⟨eM,?_⟩
    refine cY (sU p.tests[k] st.1 (by rw [hst.l1];exact hX) hst.big) wr wl rfl ?_
    refine wv (h:=?_)
    repeat first|intro _|refine ⟨eM,?_⟩
    refine wq (fun h22=>?_) fun h22=>?_
    ·have hR:dH p h m vs=([],16):=by
      rw [hR0,if_neg]
      intro ha
      rw [bV] at ha
      have:=ha _ (aC h20)
      simp [this] at h22
     exact wv (h:=hQ _ _ (by simp [go_sem,hR]))
    ·refine wv (h:=?_)
     repeat first|intro _|refine ⟨eM,?_⟩
     exact wx hI4 (k+1) ⟨wg,wn,wn,wj,(by (rw [aF h20,yV,hall];simp;simpa using h22))⟩
   ·rw [aJ (by omega)] at hall
    rw [if_pos hall] at hR0
    exact wv (h:=hQ _ _ (by simp [go_sem,Y,hR0,dLI]))
theorem AH (t:Types)(ht:t.ok)(p:Pattern)(c:Cond)(hE:ExOk t p c.map c.pattern)(h:Host)(ho:HostOk t h)(m:Mat)(hm:MatOk t p h m)(inj:Bool) :
  Pure Tryz.prog 427 [.agg (scnC t h inj),.agg c.c,m.d] (.tup [.list ((uP t c.map c.pattern h m inj).1.map Mat.c),dI (uP t c.map c.pattern h m inj).2]):=by
 obtain ⟨⟨hl1,hl2⟩,hi1,hi2⟩:=hE.img
 have hq:=bJ hE.pq.gg
 have hn1:=hm.mok.len
 have hn2:=hm.mok.elen
 refine Tz.pK ⟨fun t=>t==8||t==9||t==12||t==14,fun r=>match r with|2=>[(0,21),(1,21),(2,21),(3,21),(4,21),(5,21),(6,21),(7,21),(8,21),(9,21),(10,21),(11,21),(12,21),(13,21),(14,21),(15,21),(16,21),(17,21),(18,21),(19,21)]|_=>[]⟩ Tryz.func427 rfl (fun Q hQ=>?_)
 obtain ⟨X,hX⟩:∃ X,X=lC t c.pattern.graph h.graph (mI c.map c.pattern m.m) inj:=⟨_,rfl⟩
 have hXm:∀ x∈X.1,MOk t c.pattern.graph h.graph x:=fun x hx=>DV (hX ▸ hx)
 have hX5:X.1.length≤5000:=hX ▸ LT _ _ _ _ _
 have hvl:m.vars.length≤c.pattern.vars.toNat:=by have:=hm.vl;have:=hE.pv;have:=hE.p0;omega
 have hXE:uP t c.map c.pattern h m inj=if X.2≠0 then ([],X.2) else (pM c.pattern h m.vars X.1,0):=by unfold uP;rw [← hX]
 have Y:=wa @Cond.c_eq (wa @scnC.eq_1 (wa @Mat.d.eq_1 @Mat.c.eq_1))
 refine wp (h:=aI (sV c.pattern.graph.nodes.length (by omega) c.map.nodes m.m.nodes hi1 (by omega)) wl ?_)
 refine wp (h:=aI (sV c.pattern.graph.edges.length (by omega) c.map.edges m.m.edges hi2 (by omega)) wl ?_)
 refine wp (h:=aB ((by have hq:=ED t ht c.pattern.graph h.graph (mI c.map c.pattern m.m) inj;rw [← hX] at hq;unfold mI Types.d Types.c Graph.d Graph.c Part.d Part.c dLI at hq;exact hq)) wl ?_)
 refine qP (fun h4=>?_) fun h4=>?_
 ·rw [if_pos h4] at hXE
  exact wv (h:=hQ _ _ (by simp [go_sem,hXE]))
 ·rw [if_neg (by omega)] at hXE
  refine wp (h:=bB (fun i e H=>∃ ms:List Mat,(e 3=.adr (scnC t h inj)∧e 4=.adr c.c∧e 5=.adr m.c∧e 57=.list (X.1.map Part.c)∧e 58=dI X.1.length∧e 12=.own 24 ms.length∧e 59=dI i)∧(H.get 24=some ⟨65,3,ms.map Mat.c,false⟩)∧(24<H.next)∧(i≤X.1.length)∧(ms=pM c.pattern h m.vars (X.1.take i))∧(ms.length≤i)) (fun i=>X.1.length - i) 0 ⟨([]),wg,wn,wn,wi,(by rfl),(by (simp))⟩ fun I0 hI0 i e H hi0=>?_)
  obtain ⟨ms,E0,g24_0,n24_0,hi,hms,hml⟩:=hi0
  have Y:=wa Y (wa E0 (wa g24_0 (bY n24_0)))
  refine cT (fun h8=>?_) fun h8=>?_
  ·obtain ⟨v,hv⟩:∃ v,v=dH c.pattern h X.1[i] m.vars:=⟨_,rfl⟩
   obtain ⟨ms2,hms2⟩:∃ y,y=ms++if v.2=0 then [(⟨X.1[i],v.1⟩:Mat)] else []:=⟨_,rfl⟩
   have Y:=wa Y (wa h8 (wa (aA h8) (wa @Part.c.eq_1 @Pattern.c.eq_1)))
   refine wp (h:=aB ((by have hq:=GO t inj c.pattern h X.1[i] (OU hE.pq ho (hXm _ (aC h8))) m.vars hvl hm.vs;rw [← hv] at hq;unfold scnC Pattern.d Pattern.c Part.d Part.c dLI at hq;exact hq)) wl ?_)
   refine qP (fun h11=>?_) fun h11=>?_
   ·have hm3:ms2=ms++[⟨X.1[i],v.1⟩]:=by rw [hms2,if_pos (by simpa using h11)]
    have Y:=wa Y hm3
    exact wp (h:=wx hI0 (i+1) ⟨ms2,wg,wn,wn,wj,(by (rw [aF h8,kF,← hms,← hv];exact hms2)),(by (rw [hms2];split<;>simp<;>omega))⟩)
   ·have hm3:ms2=ms:=by rw [hms2,if_neg (by simpa using h11),c5]
    have Y:=wa Y hm3
    exact wp (h:=wx hI0 (i+1) ⟨ms2,wg,wn,wn,wj,(by (rw [aF h8,kF,← hms,← hv];exact hms2)),(by (rw [hms2];split<;>simp<;>omega))⟩)
  ·rw [aJ (by omega)] at hms
   exact wv (h:=hQ _ _ (by simp [go_sem,Y,hXE,← hms]))
def JV (t:Types)(h:Host)(inj:Bool)(c:Cond)(m:Mat):Prf × Int:=if (l8 t h inj c m).2=0 then l8 t h inj c m else (iG,(l8 t h inj c m).2)
def Et (W:Prf × Int):Prf × Int:=if W.2=0 then W else (iG,W.2)
theorem Nq (t:Types)(h:Host)(inj:Bool)(c:Cond)(m:Mat):JV t h inj c m=Et (l8 t h inj c m):=rfl
theorem Ax (t : Types) (h : Host) (inj : Bool) (c : Cond) (m : Mat) : ∃ wc wm wk we, JV t h inj c m = (Prf.mk wc wm wk, we) ∧ (l8 t h inj c m).2 = we ∧ (we = 0 → l8 t h inj c m = (Prf.mk wc wm wk, we)) := by
  cases hh : JV t h inj c m with
  | mk a b =>
    cases a with
    | mk wc wm wk =>
      refine ⟨wc, wm, wk, b, rfl, ?_, ?_⟩
      · unfold JV at hh
        split at hh
        · rw [hh]
        · exact congrArg Prod.snd hh
      · intro h0
        unfold JV at hh
        split at hh
        · exact hh
        · rename_i h1
          have := congrArg Prod.snd hh
          simp only at this
          exact absurd (this.trans h0) h1
theorem C1 (t:Types)(ht:t.ok)(h:Host)(ho:HostOk t h)(inj:Bool)(c:Cond)(p:Pattern)(hC:CondV t p c)(hp:PatOk t p)(h5:c.kind=5)
  (ih:∀ k∈c.kids,∀ m:Mat,MatOk t c.pattern h m→Pure Tryz.prog 328 [.agg (scnC t h inj),.agg k.c,m.d] (.tup [.agg (JV t h inj k m).1.c,dI (JV t h inj k m).2])) (m:Mat) (hm:MatOk t p h m) :
  Pure Tryz.prog 384 [.agg (scnC t h inj),.agg c.c,m.d] (.tup [.agg (JV t h inj c m).1.c,dI (JV t h inj c m).2]):=by
 obtain ⟨hK1,hK2⟩:=hC.kinds
 have hW:=Gx t h inj c m
 rw [Nq]
 obtain ⟨W,hWW⟩:∃ W,W=l8 t h inj c m:=⟨_,rfl⟩
 rw [← hWW] at hW ⊢
 obtain ⟨hE,hCk⟩:=hC.ex h5 hp
 have hl:0<c.kids.length:=by have:=hK1 (.inr h5);omega
 obtain ⟨k0,hk0e⟩:∃ k,k=c.kids[0]:=⟨_,rfl⟩
 have hk0:k0∈c.kids:=hk0e ▸ aC hl
 obtain ⟨X,hX⟩:∃ X,X=uP t c.map c.pattern h m inj:=⟨_,rfl⟩
 have hXm:∀ x∈X.1,MatOk t c.pattern h x:=hX ▸ LU hE ho hm
 rw [if_neg (by omega),if_neg (by omega),if_neg (by omega),if_pos h5,wK hl,← hk0e,← hX] at hW
 refine vF (by first|rfl|(simp [go_sem];done)) (fun Q hQ=>(aG (cfg:=⟨fun t=>t==6||t==11||t==12,fun r=>match r with|7=>[(0,10),(1,10),(2,10),(3,10),(4,10),(5,10),(6,10)]|_=>[]⟩) Tz.mixed Tryz.func384 rfl rfl (aE rfl) (by kernel_rfl) ?_))
 have Y:=wa @Cond.c_eq (wa @scnC.eq_1 (wa @Mat.d.eq_1 (wa @Mat.c.eq_1 (wa @Prf.c_eq (wa (aA hl) (wa (Eq.symm hk0e) h5))))))
 refine wv (h:=aB ((by have hq:=AH t ht p c hE h ho m hm inj;rw [← hX,Cond.c_eq,h5] at hq;unfold scnC Mat.d Mat.c dLI dI at hq;exact hq)) wl ?_)
 refine cT (fun h2=>?_) fun h2=>?_
 ·rw [if_pos (by simpa using h2)] at hW
  have hR:Et W=(iG,X.2):=by rw [hW];unfold Et;rw [if_neg (by simpa using h2)]
  refine wv (h:=?_)
  exact hQ _ _ (by simp [go_sem,Y,hR,iG,gX,Prf.c_eq,lK,i4,eE,dLI,eH,eQ])
 ·rw [if_neg (by simpa using h2)] at hW
  refine wv (h:=?_)
  repeat first|intro _|refine ⟨eM,?_⟩
  refine bB (fun i e H=>(e 3=.adr (scnC t h inj)∧e 4=.adr c.c∧e 5=.adr m.c∧e 6=.ptr 0 1 0 0∧e 25=.list (X.1.map Mat.c)∧e 26=dI X.1.length∧e 27=dI i)∧(H.get 0=some ⟨306,5,[[dI 0,.nil,.nil,.nil,.nil]],false⟩)∧(0<H.next)∧(i≤X.1.length)∧(Ph ((X.1.drop i).map fun x=>(x,l8 t h inj k0 x))=W)) (fun i=>X.1.length - i) 0 ⟨wg,wn,wn,wi,(by (exact hW.symm))⟩ fun I0 hI0 i e H hi0=>?_
  obtain ⟨E0,g0_0,n0_0,hi,hA⟩:=hi0
  have Y:=wa Y (wa E0 (wa g0_0 (bY n0_0)))
  refine cT (fun h5=>?_) fun h5=>?_
  ·obtain ⟨wc,wm,wk,we,hw,hw2,hw3⟩:=Ax t h inj k0 X.1[i]
   have h5':i<X.1.length:=h5
   have hst:=hA
   rw [sS _ h5'] at hst
   simp only [Ph] at hst
   have nx:=T5 H.next
   have Y:=wa Y (wa h5 (wa (aA h5') nx))
   refine wv (h:=?_)
   repeat first|intro _|refine ⟨eM,?_⟩
   refine aI ((by have hq:=ih k0 hk0 X.1[i] (hXm _ (aC h5'));simp only [hw,Prf.c_eq,Cond.c_eq] at hq;unfold scnC Mat.d Mat.c dLI dI at hq;exact hq)) wl ?_
   refine wv (h:=?_)
   repeat first|intro _|refine ⟨eM,?_⟩
   refine wq (fun h8=>?_) fun h8=>?_
   ·have h8':we=0:=by simpa using h8
    rw [hw3 h8'] at hst
    simp only at hst
    rw [if_pos (by omega)] at hst
    have hR:Et W=(Prf.mk 0 X.1[i] [Prf.mk wc wm wk],0):=by rw [← hst,h8'];rfl
    refine wv (h:=?_)
    exact hQ _ _ (by simp [go_sem,Y,hR,iG,gX,Prf.c_eq,lK,i4,eE,dLI,eH,eQ])
   ·have h8':we≠0:=by simpa using h8
    refine cT (fun h10=>?_) fun h10=>?_
    ·have h10':we≠10:=by simpa using h10
     rw [hw2,if_pos h10'] at hst
     have hR:Et W=(iG,we):=by rw [← hst];unfold Et;rw [if_neg h8']
     refine wv (h:=?_)
     exact hQ _ _ (by simp [go_sem,Y,hR,iG,gX,Prf.c_eq,lK,i4,eE,dLI,eH,eQ])
    ·have h10':we=10:=by simpa using h10
     rw [hw2,if_neg (by omega)] at hst
     refine wv (h:=?_)
     repeat first|intro _|refine ⟨eM,?_⟩
     exact wx hI0 (i+1) ⟨wg,wn,wn,wj,(by (exact hst))⟩
  ·rw [iE (by omega)] at hA
   simp only [g5,Ph] at hA
   have hR:Et W=(iG,10):=by rw [← hA];rfl
   have Y:=wa Y h5
   refine wv (h:=?_)
   exact hQ _ _ (by simp [go_sem,Y,hR,iG,gX,Prf.c_eq,lK,i4,eE,dLI,eH,eQ])
theorem EE (t:Types)(ht:t.ok)(h:Host)(ho:HostOk t h)(inj:Bool):∀ (c:Cond) (p:Pattern),CondV t p c→PatOk t p→∀ m:Mat,MatOk t p h m →
  Pure Tryz.prog 328 [.agg (scnC t h inj),.agg c.c,m.d] (.tup [.agg (JV t h inj c m).1.c,dI (JV t h inj c m).2]):=by
 refine jH fun c ih p hC hp m hm=>?_
 obtain ⟨hK1,hK2⟩:=hC.kinds
 have hkl0:c.kids.length≤1000000:=by have:=Jc c.kids;have:=tA c;have:=hC.sz;omega
 have hex:c.kind=5→Pure Tryz.prog 384 [.agg (scnC t h inj),.agg c.c,m.d] (.tup [.agg (JV t h inj c m).1.c,dI (JV t h inj c m).2]):=fun h5=>by
  obtain ⟨hE,hCk⟩:=hC.ex h5 hp
  exact C1 t ht h ho inj c p hC hp h5 (fun k hk m' hm'=>ih k hk c.pattern (hCk k hk) hE.pq m' hm') m hm
 have hW:=Gx t h inj c m
 rw [Nq] at hex ⊢
 obtain ⟨W,hWW⟩:∃ W,W=l8 t h inj c m:=⟨_,rfl⟩
 rw [← hWW] at hW hex ⊢
 refine vF (by first|rfl|(simp [go_sem];done)) (fun Q hQ=>(aG (cfg:=⟨fun t=>t==6||t==8||t==10||t==12||t==13||t==16||t==17,fun r=>match r with|3=>[(0,10),(1,10),(2,10),(3,10),(4,10),(5,10),(6,10)]|_=>[]⟩) Tz.mixed Tryz.func328 rfl rfl (aE rfl) (by kernel_rfl) ?_))
 have Y:=wa @Cond.c_eq (wa @scnC.eq_1 (wa @Mat.d.eq_1 (wa @Mat.c.eq_1 @Prf.c_eq)))
 refine cT (fun h2=>?_) fun h2=>?_
 ·have h2':c.kind=2:=by simpa using h2
  have hl:0<c.kids.length:=by have:=hK1 (.inl h2');omega
  obtain ⟨k0,hk0e⟩:∃ k,k=c.kids[0]:=⟨_,rfl⟩
  have hk0:k0∈c.kids:=hk0e ▸ aC hl
  have hC0:=hC.kid (by omega) k0 hk0
  obtain ⟨wc,wm,wk,we,hw,hw2,hw3⟩:=Ax t h inj k0 m
  rw [if_pos h2',wK hl,← hk0e,hw2] at hW
  unfold O3 at hW
  have Y:=wa Y (wa (aA hl) (wa (Eq.symm hk0e) h2'))
  refine wp (h:=aI ((by have hq:=ih k0 hk0 p hC0 hp m hm;simp only [hw,Prf.c_eq,Cond.c_eq] at hq;unfold scnC Mat.d Mat.c dLI dI at hq;exact hq)) wl ?_)
  refine qP (fun h5=>?_) fun h5=>?_
  ·rw [if_pos (by simpa using h5)] at hW
   have hR:Et W=(iG,10):=by rw [hW];rfl
   refine wv (h:=?_)
   exact hQ _ _ (by simp [go_sem,Y,hR,iG,gX,Prf.c_eq,lK,i4,eE,dLI,eH,eQ])
  ·rw [if_neg (by simpa using h5)] at hW
   refine cT (fun h7=>?_) fun h7=>?_
   ·rw [if_pos (by simpa using h7)] at hW
    have hR:Et W=(iG,0):=by rw [hW];rfl
    refine wv (h:=?_)
    exact hQ _ _ (by simp [go_sem,Y,hR,iG,gX,Prf.c_eq,lK,i4,eE,dLI,eH,eQ])
   ·rw [if_neg (by simpa using h7)] at hW
    have hR:Et W=(iG,we):=by rw [hW];unfold Et;rw [if_neg (by simpa using h5)]
    refine wv (h:=?_)
    exact hQ _ _ (by simp [go_sem,Y,hR,iG,gX,Prf.c_eq,lK,i4,eE,dLI,eH,eQ])
 ·have h2':c.kind≠2:=by simpa using h2
  rw [if_neg h2'] at hW
  refine cT (fun h10=>?_) fun h10=>?_
  ·have h10':c.kind=3:=by simpa using h10
   have hCk:=hC.kid (by omega)
   rw [if_pos h10'] at hW
   have Y:=wa Y h10'
   refine wp (h:=vK (Ghosts.step (Ghosts.refl _) 1 0 4 306 5 _ _ ((by simp [go_sem];rfl)) rfl rfl rfl) (fun i e H=>∃ ps:List Prf,(e 3=.adr (scnC t h inj)∧e 4=.adr c.c∧e 5=.adr m.c∧e 6=.ptr 0 1 0 0∧e 20=dI c.kind∧e 10=.ptr 1 1 0 0∧e 45=.list (c.kids.map Cond.c)∧e 46=dI c.kids.length∧e 47=dI i)∧(H.get 0=some ⟨306,5,[[dI 0,.nil,.nil,.nil,.nil]],false⟩)∧(0<H.next)∧(H.get 1=some ⟨306,5,[[dI 0,.nil,.nil,.nil,.own 2 ps.length]],false⟩)∧(1<H.next)∧(H.get 2=some ⟨306,5,ps.map Prf.c,false⟩)∧(2<H.next)∧(i≤c.kids.length)∧(Hw ((c.kids.drop i).map fun k=>l8 t h inj k m) ps=W)∧(ps.length≤i)∧(c.kids.length≤1000000)) (fun i=>c.kids.length - i) 0 ⟨([]),wg,wn,wn,wn,wn,wn,wn,wi,(by (exact hW.symm)),(by simp),(by (exact hkl0))⟩ fun I2 hI2 i e H hi2=>?_)
   obtain ⟨ps,E2,g0_2,n0_2,g1_2,n1_2,g2_2,n2_2,hi,hA,hpl,hkl⟩:=hi2
   have Y:=wa Y (wa E2 (wa g0_2 (wa (bY n0_2) (wa g1_2 (wa (bY n1_2) (wa g2_2 (bY n2_2)))))))
   refine cT (fun h13=>?_) fun h13=>?_
   ·obtain ⟨k1,hk1e⟩:∃ k,k=c.kids[i]:=⟨_,rfl⟩
    have hk1:k1∈c.kids:=hk1e ▸ aC h13
    obtain ⟨wc,wm,wk,we,hw,hw2,hw3⟩:=Ax t h inj k1 m
    have hst:=hA
    rw [sS _ h13,← hk1e] at hst
    simp only [Hw] at hst
    have Y:=wa Y (wa h13 (wa (aA h13) (Eq.symm hk1e)))
    refine wp (h:=aB ((by have hq:=ih k1 hk1 p (hCk k1 hk1) hp m hm;simp only [hw,Prf.c_eq,Cond.c_eq] at hq;unfold scnC Mat.d Mat.c dLI dI at hq;exact hq)) wl ?_)
    refine qP (fun h16=>?_) fun h16=>?_
    ·have h16':we≠0:=by simpa using h16
     rw [hw2,if_pos h16'] at hst
     have hR:Et W=(iG,we):=by rw [← hst];unfold Et;rw [if_neg h16']
     refine wv (h:=?_)
     exact hQ _ _ (by simp [go_sem,Y,hR,iG,gX,Prf.c_eq,lK,i4,eE,dLI,eH,eQ])
    ·have h16':we=0:=by simpa using h16
     rw [hw2,if_neg (by omega),hw3 h16'] at hst
     exact wp (h:=wx hI2 (i+1) ⟨(ps++[.mk wc wm wk]),wg,wn,wn,wn,wn,wn,wn,wj,(by (exact hst)),(by (simp;omega)),(by exact hkl)⟩)
   ·rw [iE (by omega)] at hA
    simp only [g5,Hw] at hA
    have hR:Et W=(.mk 0 gX ps,0):=by rw [← hA];rfl
    refine wv (h:=?_)
    exact hQ _ _ (by simp [go_sem,Y,hR,iG,gX,Prf.c_eq,lK,i4,eE,dLI,eH,eQ])
  ·have h10':c.kind≠3:=by simpa using h10
   rw [if_neg h10'] at hW
   refine cT (fun h21=>?_) fun h21=>?_
   ·have h21':c.kind=4:=by simpa using h21
    have hCk:=hC.kid (by omega)
    rw [if_pos h21'] at hW
    have Y:=wa Y h21'
    refine wp (h:=bB (fun i e H=>(e 3=.adr (scnC t h inj)∧e 4=.adr c.c∧e 5=.adr m.c∧e 6=.ptr 0 1 0 0∧e 20=dI c.kind∧e 73=.list (c.kids.map Cond.c)∧e 74=dI c.kids.length∧e 75=dI i)∧(H.get 0=some ⟨306,5,[[dI 0,.nil,.nil,.nil,.nil]],false⟩)∧(0<H.next)∧(i≤c.kids.length)∧(O0 ((c.kids.drop i).map fun k=>l8 t h inj k m) i=W)) (fun i=>c.kids.length - i) 0 ⟨wg,wn,wn,wi,(by (exact hW.symm))⟩ fun I4 hI4 i e H hi4=>?_)
    obtain ⟨E4,g0_4,n0_4,hi,hA⟩:=hi4
    have Y:=wa Y (wa E4 (wa g0_4 (bY n0_4)))
    refine cT (fun h23=>?_) fun h23=>?_
    ·obtain ⟨k1,hk1e⟩:∃ k,k=c.kids[i]:=⟨_,rfl⟩
     have hk1:k1∈c.kids:=hk1e ▸ aC h23
     obtain ⟨wc,wm,wk,we,hw,hw2,hw3⟩:=Ax t h inj k1 m
     have hst:=hA
     rw [sS _ h23,← hk1e] at hst
     simp only [O0] at hst
     have Y:=wa Y (wa h23 (wa (aA h23) (Eq.symm hk1e)))
     refine wp (h:=aB ((by have hq:=ih k1 hk1 p (hCk k1 hk1) hp m hm;simp only [hw,Prf.c_eq,Cond.c_eq] at hq;unfold scnC Mat.d Mat.c dLI dI at hq;exact hq)) wl ?_)
     refine qP (fun h26=>?_) fun h26=>?_
     ·have h26':we=0:=by simpa using h26
      rw [hw3 h26'] at hst
      simp only at hst
      rw [if_pos (by omega)] at hst
      have hR:Et W=(.mk i gX [.mk wc wm wk],0):=by rw [← hst,h26'];rfl
      refine wv (h:=?_)
      exact hQ _ _ (by simp [go_sem,Y,hR,iG,gX,Prf.c_eq,lK,i4,eE,dLI,eH,eQ])
     ·have h26':we≠0:=by simpa using h26
      refine cT (fun h28=>?_) fun h28=>?_
      ·have h28':we≠10:=by simpa using h28
       rw [hw2,if_pos h28'] at hst
       have hR:Et W=(iG,we):=by rw [← hst];unfold Et;rw [if_neg h26']
       refine wv (h:=?_)
       exact hQ _ _ (by simp [go_sem,Y,hR,iG,gX,Prf.c_eq,lK,i4,eE,dLI,eH,eQ])
      ·have h28':we=10:=by simpa using h28
       rw [hw2,if_neg (by omega)] at hst
       exact wp (h:=wx hI4 (i+1) ⟨wg,wn,wn,wj,(by (exact hst))⟩)
    ·rw [iE (by omega)] at hA
     simp only [g5,O0] at hA
     have hR:Et W=(iG,10):=by rw [← hA];rfl
     refine wv (h:=?_)
     exact hQ _ _ (by simp [go_sem,Y,hR,iG,gX,Prf.c_eq,lK,i4,eE,dLI,eH,eQ])
   ·have h21':c.kind≠4:=by simpa using h21
    rw [if_neg h21'] at hW
    refine cT (fun h32=>?_) fun h32=>?_
    ·have h32':c.kind=5:=by simpa using h32
     obtain ⟨vc,vm,vk,ve,hV⟩:∃ vc vm vk ve,Et W=(Prf.mk vc vm vk,ve):=by
      cases hh:Et W with
      | mk a b=>cases a;exact ⟨_,_,_,_,rfl⟩
     have Y:=wa Y h32'
     refine wv (h:=aB ((by have hq:=hex h32';simp only [hV,Prf.c_eq,Cond.c_eq,h32'] at hq;unfold scnC Mat.d Mat.c dLI dI at hq;exact hq)) wl ?_)
     refine wv (h:=?_)
     exact hQ _ _ (by simp [go_sem,Y,hV,iG,gX,Prf.c_eq,lK,i4,eE,dLI,eH,eQ])
    ·have h32':c.kind≠5:=by simpa using h32
     rw [if_neg h32'] at hW
     have hR:Et W=(iG,0):=by rw [hW];rfl
     refine wv (h:=?_)
     exact hQ _ _ (by simp [go_sem,Y,hR,iG,gX,Prf.c_eq,lK,i4,eE,dLI,eH,eQ])
def Pq (t:Types)(p:Pattern)(c:Cond)(h:Host)(m:Mat)(inj:Bool):Int :=
 if condF t p c≠0 then condF t p c
 else if fM t h≠0 then fM t h
 else if eG t p.graph h.graph m.m inj≠0 then eG t p.graph h.graph m.m inj
 else if (dA t p h m.m).2≠0 then (dA t p h m.m).2
 else if (dA t p h m.m).1≠m.vars then 11 else 0
theorem Ck (t:Types)(ht:t.ok)(p:Pattern)(c:Cond)(hc:c.ok)(hs:c.size≤1000000)(h:Host)(m:Mat)(inj:Bool):Pure Tryz.prog 327 [t.d,p.d,.agg c.c,h.d,m.d,.bool inj] (dI (Pq t p c h m inj)):=by
 refine Tz.pK ⟨fun _=>false,fun _=>[]⟩ Tryz.func327 rfl (fun Q hQ=>?_)
 have Y:=wa @Cond.c_eq (wa @Pattern.d.eq_1 (wa @Pattern.c.eq_1 (wa @Host.d.eq_1 (wa @Host.c.eq_1 (wa @Mat.d.eq_1 (wa @Mat.c.eq_1 (wa @Graph.c.eq_1 @Part.c.eq_1)))))))
 refine wv (h:=aB ((by have hq:=uC t ht p c hc hs;rw [Cond.c_eq] at hq;unfold Types.d Types.c Pattern.d Pattern.c dLI dI at hq;exact hq)) wl ?_)
 refine cT (fun h2=>?_) fun h2=>?_
 ·have hM:Pq t p c h m inj=condF t p c:=by unfold Pq;rw [if_pos h2]
  exact wv (h:=hQ _ _ (by simp [go_sem,hM]))
 ·have hM:Pq t p c h m inj=if fM t h≠0 then fM t h else if eG t p.graph h.graph m.m inj≠0 then eG t p.graph h.graph m.m inj else if (dA t p h m.m).2≠0 then (dA t p h m.m).2 else if (dA t p h m.m).1≠m.vars then 11 else 0:=by unfold Pq;rw [if_neg (by simpa using h2)]
  refine wv (h:=aB (yG t ht h) wl ?_)
  refine cT (fun h5=>?_) fun h5=>?_
  ·have h5':fM t h≠0:=h5
   rw [if_pos h5'] at hM
   exact wv (h:=hQ _ _ (by simp [go_sem,hM,fM]))
  ·have h5':¬ fM t h≠0:=by unfold fM;simpa using h5
   rw [if_neg h5'] at hM
   refine wv (h:=aB (tC t ht p.graph h.graph m.m inj) wl ?_)
   refine cT (fun h8=>?_) fun h8=>?_
   ·rw [if_pos (by simpa using h8)] at hM
    exact wv (h:=hQ _ _ (by simp [go_sem,hM]))
   ·rw [if_neg (by simpa using h8)] at hM
    refine wv (h:=aB (uH t ht p h m.m) wl ?_)
    refine cT (fun h11=>?_) fun h11=>?_
    ·rw [if_pos (by simpa using h11)] at hM
     exact wv (h:=hQ _ _ (by simp [go_sem,hM]))
    ·rw [if_neg (by simpa using h11)] at hM
     refine wp (h:=aB (Gd (dA t p h m.m).1 m.vars) wl ?_)
     refine qP (fun h13=>?_) fun h13=>?_
     ·rw [if_pos (by simpa using h13)] at hM
      exact wv (h:=hQ _ _ (by simp [go_sem,hM]))
     ·rw [if_neg (by simpa using h13)] at hM
      exact wv (h:=hQ _ _ (by simp [go_sem,hM]))
theorem Ai (t:Types)(ht:t.ok)(p:Pattern)(c:Cond)(hc:c.ok)(hC:CondV t p c)(hp:PatOk t p)(h:Host)(ho:HostOk t h)(m:Mat)(hm:MatOk t p h m)(inj:Bool)(h0:Pq t p c h m inj=0) :
  Pure Tryz.prog 232 [t.d,p.d,.agg c.c,h.d,m.d,.bool inj] (.tup [.agg (JV t h inj c m).1.c,dI (JV t h inj c m).2]):=by
 obtain ⟨wc,wm,wk,we,hw,hw2,hw3⟩:=Ax t h inj c m
 refine vF (by first|rfl|(simp [go_sem];done)) (fun Q hQ=>(aG (cfg:=⟨fun t=>t==12,fun _=>[]⟩) Tz.mixed Tryz.func232 rfl rfl (aE rfl) (by kernel_rfl) ?_))
 have Y:=wa @Cond.c_eq (wa @scnC.eq_1 (wa @Pattern.d.eq_1 (wa @Pattern.c.eq_1 (wa @Host.d.eq_1 (wa @Host.c.eq_1 (wa @Mat.d.eq_1 (wa @Mat.c.eq_1 @Prf.c_eq)))))))
 refine wv (h:=aB ((by have hq:=Ck t ht p c hc hC.sz h m inj;rw [h0,Cond.c_eq] at hq;unfold Types.d Types.c Pattern.d Pattern.c Host.d Host.c Mat.d Mat.c dLI dI at hq;exact hq)) wl ?_)
 refine wv (h:=aB ((by have hq:=EE t ht h ho inj c p hC hp m hm;simp only [hw,Prf.c_eq,Cond.c_eq] at hq;unfold scnC Mat.d Mat.c dLI dI at hq;exact hq)) wl ?_)
 refine wv (h:=?_)
 exact hQ _ _ (by simp [go_sem,Y,hw,Prf.c_eq,lK,i4,eE,dLI,eH,eQ])
theorem w5 (t:Types)(ht:t.ok)(p:Pattern)(c:Cond)(hc:c.ok)(hC:CondV t p c)(hp:PatOk t p)(h:Host)(ho:HostOk t h)(m:Mat)(hm:MatOk t p h m)(inj:Bool)(h0:Pq t p c h m inj=0) :
  Pure Tryz.prog 137 [t.d,p.d,.agg c.c,h.d,m.d,.bool inj] (.tup [.bool (lI t h inj c m).1,dI (lI t h inj c m).2]):=by
 obtain ⟨wc,wm,wk,we,hw,hw2,hw3⟩:=Ax t h inj c m
 have hH:lI t h inj c m=if we=10 then (false,0) else (decide (we=0),we):=by unfold lI Nu;rw [hw2]
 refine Tz.pK ⟨fun t=>t==14,fun _=>[]⟩ Tryz.func137 rfl (fun Q hQ=>?_)
 have Y:=wa @Cond.c_eq (wa @Pattern.d.eq_1 (wa @Pattern.c.eq_1 (wa @Host.d.eq_1 (wa @Host.c.eq_1 (wa @Mat.d.eq_1 (wa @Mat.c.eq_1 @Prf.c_eq))))))
 refine wv (h:=aB ((by have hq:=Ai t ht p c hc hC hp h ho m hm inj h0;simp only [hw,Prf.c_eq,Cond.c_eq] at hq;unfold Types.d Types.c Pattern.d Pattern.c Host.d Host.c Mat.d Mat.c dLI dI at hq;exact hq)) wl ?_)
 refine cT (fun h2=>?_) fun h2=>?_
 ·rw [if_pos (by simpa using h2)] at hH
  exact wv (h:=hQ _ _ (by simp [go_sem,hH]))
 ·rw [if_neg (by simpa using h2)] at hH
  exact wv (h:=hQ _ _ (by simp [go_sem,hH,zX]))
theorem Gl {l:List Int}(hs:l.Pairwise (· < ·))(v:Int):f6 l l.length v=if mem l v=true then (sE l v:Int) else -1:=by
 by_cases h:mem l v=true
 ·rw [if_pos h,← zY hs h]
  obtain ⟨p,hp,he⟩:=aN ((cW l v).1 h)
  have hpw:=dX.1 hs
  rw [sK (i:=p) (fun j hj h2=>by
   have hjl:j<l.length:=by omega
   rw [aA hjl] at h2
   have:=hpw j p hjl hp hj
   simp at h2;omega) (by rw [aA hp,he]),← he,vZ (Ba hs) hp]
 ·rw [if_neg h,wV (fun hm=>h ((cW _ _).2 hm)) _ (bC _)]
def B7 (d:List Int)(n i:Nat):List Int:=jF d i++List.replicate (n - i) 0
theorem CM {d:List Int}{n i:Nat}(h:i≤n):(B7 d n i).length=n:=by simp [B7,jX];omega
theorem HU {d:List Int}{n i:Nat}(h:i<n):(B7 d n i).set i (f6 d d.length i)=B7 d n (i+1):=by
 unfold B7
 rw [kB _ _ (by rw [jX];omega),jX,qN,Ec,show n - i=(n - (i+1))+1 by omega,l5,rY,List.append_assoc];rfl
theorem CP (n:Nat)(hn:n≤1000000)(d:List Int)(hd:d.Pairwise (· < ·))(hl:d.length≤1000000):Pure Tryz.prog 140 [dI n,dLI d] (dLI (pN d n)):=by
 refine Tz.pK ⟨fun _=>false,fun _=>[]⟩ Tryz.func140 rfl (fun Q hQ=>?_)
 have Y:=trivial
 refine wp (h:=bB (fun i e H=>(e 1=dLI d∧e 5=.own 0 n∧e 12=dI n∧e 13=dI i)∧(H.get 0=some ⟨3,1,(B7 d n i).map cI,false⟩)∧(0<H.next)∧(i≤n)) (fun i=>n - i) 0 ⟨wg,(by (simp [go_sem,B7,jF,cI])),wn,wi⟩ fun I0 hI0 i e H hi0=>?_)
 obtain ⟨E0,g0_0,n0_0,hi⟩:=hi0
 have Y:=wa Y (wa E0 (wa g0_0 (bY n0_0)))
 refine cT (fun h3=>?_) fun h3=>?_
 ·have hB:=Gl hd (i:Int)
  have hil:i<(B7 d n i).length:=by rw [CM (by omega)];exact h3
  have hll:(B7 d n i).length=n:=CM (by omega)
  have Y:=wa Y (wa h3 (wa (aA hil) hll))
  refine wv (h:=aB (rI d i hd hl) wl ?_)
  refine qP (fun h6=>?_) fun h6=>?_
  ·rw [if_neg (by simpa using h6)] at hB
   have Y:=wa Y hB
   exact wp (h:=wx hI0 (i+1) ⟨wg,(by (simp [go_sem,Y,← HU h3,cG,cI])),wn,wj⟩)
  ·rw [if_pos (by simpa using h6)] at hB
   have Y:=wa Y hB
   exact wp (h:=wx hI0 (i+1) ⟨wg,(by (simp [go_sem,Y,← HU h3,cG,cI])),wn,wj⟩)
 ·have hll:(B7 d n i).length=n:=CM (by omega)
  have hT:pN d n=B7 d n i:=by unfold B7 pN;rw [show i=n by omega];simp
  have Y:=wa Y hll
  exact wv (h:=hQ _ _ (by simp [go_sem,Y,hT,dLI]))
/-! ### comatch -/
def Oh (keep into at_:List Int)(n j:Nat):Int:=if 0≤f6 into n j then at_[(keep[(f6 into n j).toNat]?.getD 0).toNat]?.getD 0 else -1
def KZ (keep into at_:List Int)(count n:Nat):List Int:=(List.range count).map (Oh keep into at_ n)
def D6 (keep into at_:List Int)(count remain i:Nat):List Int:=(List.range count).map fun j=>if j<i then Gg keep into at_ remain j else Oh keep into at_ into.length j
theorem Pp (keep into at_:List Int)(count n:Nat):(KZ keep into at_ count n).length=count:=by simp [KZ]
theorem Ho (keep into at_:List Int)(count remain i:Nat):(D6 keep into at_ count remain i).length=count:=by simp [D6]
theorem Oj (keep into at_:List Int)(count:Nat):KZ keep into at_ count 0=List.replicate count (-1):=by
 apply fU (by simp [KZ]);intro i h1 h2;simp [KZ,Oh,f6]
theorem Ok (keep into at_:List Int)(count n:Nat)(h:n<into.length)(h0:0≤into[n]):KZ keep into at_ count (n+1)=(KZ keep into at_ count n).set into[n].toNat (at_[(keep[n]?.getD 0).toNat]?.getD 0):=by
 apply fU (by simp [KZ]);intro i h1 h2
 rw [wX]
 simp only [KZ,qF,mY,Oh,nM,aA h,aD]
 by_cases he:into[n]=(i:Int)
 ·rw [if_pos he,if_pos (by omega),if_pos (by omega),Int.toNat_natCast]
 ·rw [if_neg he,if_neg (show ¬ into[n].toNat=i by omega)]
theorem Oi (keep into at_:List Int)(count remain:Nat):D6 keep into at_ count remain 0=KZ keep into at_ count into.length:=by simp [D6,KZ]
theorem Pm (keep into at_:List Int)(count remain:Nat){i:Nat}(h:i<count):(D6 keep into at_ count remain i).set i (Gg keep into at_ remain i)=D6 keep into at_ count remain (i+1):=by
 apply fU (by simp [D6]);intro j h1 h2
 rw [wX]
 simp only [D6,qF,mY]
 by_cases he:i=j
 ·subst he;rw [if_pos rfl,if_pos (by omega)]
 ·rw [if_neg he]
  by_cases h3:j<i
  ·rw [if_pos h3,if_pos (by omega)]
  ·rw [if_neg h3,if_neg (by omega)]
theorem Po (keep into at_:List Int)(count remain:Nat):D6 keep into at_ count remain count=Cl keep into at_ count remain:=by
 unfold D6 Cl
 exact bS fun j hj=>by rw [if_pos (bZ.1 hj)]
theorem Pn (keep into at_:List Int)(count remain:Nat){i:Nat}(h:i<count):(D6 keep into at_ count remain i)[i]?=some (Oh keep into at_ into.length i):=by
 simp [D6,h]
theorem y3 (count:Nat)(hc:count≤1000)(keep into im tr:List Int)(n:Nat)(hn:n≤1000)(hl:into.length≤keep.length)(hin:∀ x∈into,0≤x∧x<count)(hk0:∀ x∈keep,0≤x∧x<im.length)(hm0:∀ x∈keep,0≤iA im x∧iA im x<tr.length)
  (hp:∀ x∈keep,0≤(mX im tr)[x.toNat]?.getD 0):Pure Tryz.prog 141 [dI count,dLI keep,dLI into,dLI im,dLI tr,dI n] (dLI (Cl keep into (mX im tr) count n)):=by
 refine Tz.pK ⟨fun t=>t==19,fun _=>[]⟩ Tryz.func141 rfl (fun Q hQ=>?_)
 have Y:=trivial
 refine wv (h:=lU (C8 (-1) count hc) wl ?_)
 refine wv (h:=?_)
 repeat first|intro _|refine ⟨eM,?_⟩
 refine bB (fun i e H=>(e 1=dLI keep∧e 2=dLI into∧e 3=dLI im∧e 4=dLI tr∧e 13=.own 0 count∧e 20=dLI into∧e 21=dI into.length∧e 22=dI i∧e 5=dI n)∧(H.get 0=some ⟨3,1,(KZ keep into (mX im tr) count i).map cI,false⟩)∧(0<H.next)∧(i≤into.length)) (fun i=>into.length - i) 0 ⟨wg,(by (simp [go_sem,Oj,cI])),wn,wi⟩ fun I0 hI0 i e H hi0=>?_
 obtain ⟨E0,g0_0,n0_0,hi⟩:=hi0
 have Y:=wa Y (wa E0 (wa g0_0 (bY n0_0)))
 refine cT (fun h3=>?_) fun h3=>?_
 ·have hki:i<keep.length:=by omega
  have hkb:=hk0 _ (aC hki)
  have hmb:=hm0 _ (aC hki)
  have hkm:keep[i].toNat<im.length:=by omega
  have hiA:iA im keep[i]=im[keep[i].toNat]:=by unfold iA;rw [aA hkm];rfl
  rw [hiA] at hmb
  have hmt:(im[keep[i].toNat]).toNat<tr.length:=by omega
  have hib:=hin _ (aC h3)
  have hcl:(KZ keep into (mX im tr) count i).length=count:=Pp _ _ _ _ _
  have hcb:into[i].toNat<(KZ keep into (mX im tr) count i).length:=by omega
  have hv:(mX im tr)[(keep[i]?.getD 0).toNat]?.getD 0=tr[(im[keep[i].toNat]).toNat]:=by
   rw [aA hki,aD];unfold mX
   rw [aQ,aA hkm,eD,aD,aA hmt,aD]
  have hsu:=Ok keep into (mX im tr) count i h3 hib.1
  rw [hv] at hsu
  have Y:=wa Y (wa h3 (wa (aA h3) (wa (aA hki) (wa (aA hkm) (wa (aA hmt) (wa (aA hcb) hcl))))))
  refine wv (h:=?_)
  repeat first|intro _|refine ⟨eM,?_⟩
  exact wx hI0 (i+1) ⟨wg,(by (simp [go_sem,Y,hsu,cG,cI])),wn,wj⟩
 ·have hA:KZ keep into (mX im tr) count i=D6 keep into (mX im tr) count n 0:=by rw [Oi,show i=into.length by omega]
  have hcl:(D6 keep into (mX im tr) count n 0).length=count:=Ho _ _ _ _ _ _
  have hn0:yA into 0=0:=FL into
  have Y:=wa Y (wa hA (wa hcl hn0))
  refine wv (h:=?_)
  repeat first|intro _|refine ⟨eM,?_⟩
  refine bB (fun k e H=>(e 1=dLI keep∧e 2=dLI into∧e 3=dLI im∧e 4=dLI tr∧e 13=.own 0 count∧e 42=dI count∧e 43=dI k∧e 5=dI ((n+yA into k:Nat):Int))∧(H.get 0=some ⟨3,1,(D6 keep into (mX im tr) count n k).map cI,false⟩)∧(0<H.next)∧(k≤count)) (fun k=>count - k) 0 ⟨wg,(by (simp [go_sem,Y])),wn,wi⟩ fun I2 hI2 k e H hi2=>?_
  obtain ⟨E2,g0_2,n0_2,hk⟩:=hi2
  have Y:=wa Y (wa E2 (wa g0_2 (bY n0_2)))
  refine cT (fun h8=>?_) fun h8=>?_
  ·have hnl:=LL into k
   have hcl:(D6 keep into (mX im tr) count n k).length=count:=Ho _ _ _ _ _ _
   have hck:k<(D6 keep into (mX im tr) count n k).length:=by omega
   have hg:=Pn keep into (mX im tr) count n h8
   have hge:(D6 keep into (mX im tr) count n k)[k]=Oh keep into (mX im tr) into.length k:=by rw [aA hck] at hg;exact Option.some.inj hg
   have hsb:=Pm keep into (mX im tr) count n h8
   have hns:=FN into k
   have hbl:=Ak into (k:Int) into.length
   have Y:=wa Y (wa hcl (wa h8 hg))
   refine wv (h:=?_)
   repeat first|intro _|refine ⟨eM,?_⟩
   refine wq (fun h10=>?_) fun h10=>?_
   ·rw [hge] at h10
    have hneg:¬ 0≤f6 into into.length k:=by
     intro h0
     have hlt:(f6 into into.length k).toNat<keep.length:=by omega
     have:=hp _ (aC hlt)
     simp only [Oh,if_pos h0,aA hlt,aD] at h10
     omega
    have hco:Gg keep into (mX im tr) n k=((n+yA into k:Nat):Int):=by unfold Gg;rw [if_neg hneg]
    rw [hco] at hsb
    rw [if_pos (by omega)] at hns
    have hset:(D6 keep into (mX im tr) count n (k+1)).map cI=((D6 keep into (mX im tr) count n k).map cI).set k [.int .i64 ((n+yA into k:Nat):Int)]:=by rw [← hsb,cG];rfl
    have Y:=wa Y hns
    refine wv (h:=?_)
    repeat first|intro _|refine ⟨eM,?_⟩
    exact wx hI2 (k+1) ⟨wg,(by (simp [go_sem,Y,hset])),wn,wj⟩
   ·rw [hge] at h10
    have hco:Gg keep into (mX im tr) n k=Oh keep into (mX im tr) into.length k:=by
     unfold Gg Oh
     split
     ·rfl
     ·rename_i h0;exfalso;unfold Oh at h10;rw [if_neg h0] at h10;omega
    have hpos:0≤f6 into into.length k:=by
     refine bD fun h0=>?_
     unfold Oh at h10;rw [if_neg h0] at h10;omega
    rw [hco,← hge,List.set_getElem_self] at hsb
    rw [if_neg (by omega)] at hns
    have hset:(D6 keep into (mX im tr) count n (k+1))=D6 keep into (mX im tr) count n k:=hsb.symm
    have Y:=wa Y hns
    refine wv (h:=?_)
    repeat first|intro _|refine ⟨eM,?_⟩
    exact wx hI2 (k+1) ⟨wg,(by (simp [go_sem,Y,hset])),wn,wj⟩
  ·have hE:=Po keep into (mX im tr) count n
   have hke:k=count:=by omega
   have hcl:(D6 keep into (mX im tr) count n count).length=count:=Ho _ _ _ _ _ _
   rw [hE] at hcl
   have Y:=wa Y (wa hcl (wa hke hE))
   exact wv (h:=hQ _ _ (by simp [go_sem,Y,hE,dLI]))
/-! ### copies -/
@[go_sem] theorem Mat.cld (m:Mat):m.d.cl=true:=by simp [Mat.d,D.cl,Mat.cl]
theorem CS (m:Mat)(h1:m.m.nodes.length≤1000000)(h2:m.m.edges.length≤1000000)(h3:m.vars.length≤1000000):Pure Tryz.prog 138 [m.d] m.d:=by
 refine Tz.pK ⟨fun t=>t==2,fun _=>[]⟩ Tryz.func138 rfl (fun Q hQ=>?_)
 have Y:=wa @Mat.d.eq_1 @Mat.c.eq_1
 refine wv (h:=?_)
 refine kQ (jW m.m.nodes h1) (by simp [go_sem,dLI]) (by simp [go_sem]) (F7 _) rfl (by simp [go_sem]) ?_
 refine wv (h:=?_)
 refine kQ (jW m.m.edges h2) (by simp [go_sem,dLI]) (by simp [go_sem]) (F7 _) rfl (by simp [go_sem]) ?_
 refine wv (h:=?_)
 refine kQ (jW m.vars h3) (by simp [go_sem,dLI]) (by simp [go_sem]) (F7 _) rfl (by simp [go_sem]) ?_
 exact wv (h:=hQ _ _ (by simp [go_sem,Y,dLI]))
def Cc (t:Types)(r:Rule)(h:Host)(m:Mat):Int :=
 if eG t r.left.graph h.graph m.m r.inj≠0 then 1
 else if (dA t r.left h m.m).2≠0 then (dA t r.left h m.m).2
 else if (dA t r.left h m.m).1≠m.vars then 11 else 0
theorem IJ (t:Types)(r:Rule)(h:Host)(m:Mat):qJ t r h m=if Cc t r h m≠0 then Cc t r h m else oU (oB r.left.graph h.graph m.m) h.graph r.keep m.m:=by
 unfold qJ Cc
 by_cases h1:eG t r.left.graph h.graph m.m r.inj≠0
 ·rw [if_pos h1,if_pos h1];simp
 ·rw [if_neg h1,if_neg h1]
  by_cases h2:(dA t r.left h m.m).2≠0
  ·rw [if_pos h2,if_pos h2,if_pos h2]
  ·rw [if_neg h2,if_neg h2]
   by_cases h3:(dA t r.left h m.m).1≠m.vars
   ·rw [if_pos h3,if_pos h3];simp
   ·rw [if_neg h3,if_neg h3];simp
theorem GD (t:Types)(ht:t.ok)(r:Rule)(h:Host)(m:Mat):Pure Tryz.prog 134 [t.d,r.d,h.d,m.d] (dI (Cc t r h m)):=by
 refine Tz.pK ⟨fun _=>false,fun _=>[]⟩ Tryz.func134 rfl (fun Q hQ=>?_)
 have Y:=wa @Rule.d.eq_1 (wa @Rule.c.eq_1 (wa @Pattern.c.eq_1 (wa @Host.d.eq_1 (wa @Host.c.eq_1 (wa @Mat.d.eq_1 (wa @Mat.c.eq_1 (wa @Graph.c.eq_1 @Part.c.eq_1)))))))
 refine wv (h:=aB (tC t ht r.left.graph h.graph m.m r.inj) wl ?_)
 refine cT (fun h1=>?_) fun h1=>?_
 ·have hM:Cc t r h m=1:=by unfold Cc;rw [if_pos (by simpa using h1)]
  exact wv (h:=hQ _ _ (by simp [go_sem,hM]))
 ·have hM:Cc t r h m=if (dA t r.left h m.m).2≠0 then (dA t r.left h m.m).2 else if (dA t r.left h m.m).1≠m.vars then 11 else 0:=by unfold Cc;rw [if_neg (by simpa using h1)]
  refine wv (h:=aB (uH t ht r.left h m.m) wl ?_)
  refine cT (fun h4=>?_) fun h4=>?_
  ·rw [if_pos (by simpa using h4)] at hM
   exact wv (h:=hQ _ _ (by simp [go_sem,hM]))
  ·rw [if_neg (by simpa using h4)] at hM
   refine wo (h:=aB (Gd (dA t r.left h m.m).1 m.vars) wl ?_)
   refine dV (fun h6=>?_) fun h6=>?_
   ·rw [if_pos (by simpa using h6)] at hM
    exact wv (h:=hQ _ _ (by simp [go_sem,hM]))
   ·rw [if_neg (by simpa using h6)] at hM
    exact wv (h:=hQ _ _ (by simp [go_sem,hM]))
theorem CR (t:Types)(ht:t.ok)(r:Rule)(hr:r.ok)(h:Host):Pure Tryz.prog 62 [t.d,r.d,h.d] (dI (eW t r h)):=by
 refine Tz.pK ⟨fun _=>false,fun _=>[]⟩ Tryz.func62 rfl (fun Q hQ=>?_)
 have Y:=trivial
 refine wv (h:=aB (lV t ht) wl ?_)
 refine cT (fun h2=>?_) fun h2=>?_
 ·have hE:ruleF t r=(cA t).2:=by unfold ruleF;rw [if_pos (by simpa using h2)]
  have hG:eW t r h=(cA t).2:=by unfold eW;rw [if_pos (by rw [hE];simpa using h2),hE]
  exact wv (h:=hQ _ _ (by simp [go_sem,hG]))
 ·refine wv (h:=aB (Kh t ht r hr) wl ?_)
  refine cT (fun h5=>?_) fun h5=>?_
  ·have hG:eW t r h=ruleF t r:=by unfold eW;rw [if_pos (by simpa using h5)]
   exact wv (h:=hQ _ _ (by simp [go_sem,hG]))
  ·have hG:eW t r h=fM t h:=by unfold eW;rw [if_neg (by simpa using h5)]
   refine wv (h:=aB (yG t ht h) wl ?_)
   exact wv (h:=hQ _ _ (by simp [go_sem,hG,fM]))
theorem Lx {H:AHeap}{d:D}(h:d.cl=true):eB H d=d:=by cases d<;>first|rfl|simp [D.cl] at h
theorem Lw {H:AHeap}{d:D}(h:d.cl=true):gQ H d=d:=by
 cases d with
 | agg cs =>
  simp only [D.cl] at h
  simp only [gQ]
  congr 1
  conv=>rhs;rw [← List.map_id cs]
  exact bS fun y hy=>Lx (iD h y hy)
 | _=>exact Lx (H:=H) h
theorem Lu (H:AHeap){d:D}(h:d.cl=true):n5 H d=d:=by
 cases d with
 | tup vs =>
  simp only [D.cl] at h
  simp only [n5]
  congr 1
  conv=>rhs;rw [← List.map_id vs]
  exact bS fun y hy=>Lw (iD h y hy)
 | _=>exact Lw (H:=H) h
theorem Sr {P:Program}{f:FuncId}{args:List D}{r:D}(hcl:r.cl=true)(h:ACalls P f args .emp fun d H'=>gF H' d=r):Pure P f args r:=by
 refine aM (ACalls.deep (h.mono fun d H' e=>⟨?_,hcl⟩))
 rw [e];exact Lu _ hcl
theorem Ml {H:AHeap}{qs:List Nat}{vals:List (List Int)}(hl:qs.length=vals.length)(hg:∀ (i q:Nat) (v:List Int),qs[i]?=some q→vals[i]?=some v→H.get q=some ⟨3,1,v.map cI,false⟩):(jA qs vals).map (·.map (eB H))=vals.map cL:=by
 apply fH
 intro i
 simp only [aQ]
 by_cases hi:i<vals.length
 ·have hq:i<qs.length:=by omega
  have e1:=aA hi
  have e2:=aA hq
  rw [pC e2 e1,e1]
  have:=hg i _ _ e2 e1
  simp [eB,this,cL,dLI]
 ·rw [bM (by rw [g8 hl];omega),bM (by omega)];rfl
theorem Ex (h:Host)(hn:h.graph.nodes.length≤100000)(he:h.graph.edges.length≤100000)(hv:h.values.length≤100000)(hr:∀ v∈h.values,v.length≤100000):Pure Tryz.prog 139 [h.d] h.d:=by
 refine Sr (Host.cld h) ?_
 obtain ⟨Q,hQ⟩:∃ Q:D→AHeap→Prop,∀ d H',Q d H'↔gF H' d=h.d:=⟨_,fun _ _=>Iff.rfl⟩
 rw [show (fun d H'=>gF H' d=h.d)=Q from funext fun d=>funext fun H'=>propext (hQ d H').symm]
 refine (aG (cfg:=⟨fun t=>t==2||t==3||t==25||t==1000001,fun r=>match r with|1=>[(0,10),(1,10),(2,10),(3,10),(4,10),(5,10),(6,10),(7,10)]|5=>[(0,2),(1,2),(0,4),(1,4),(0,5),(1,5)]|_=>[]⟩) Tz.mixed Tryz.func139 rfl rfl (aE rfl) (by kernel_rfl) ?_)
 have Y:=wa @Host.d.eq_1 @Host.c.eq_1
 refine wv (h:=?_)
 refine kQ (jW h.graph.nodes (by omega)) (by simp [go_sem,dLI]) (by simp [go_sem]) (F7 _) rfl (by simp [go_sem]) ?_
 refine wv (h:=?_)
 refine kQ (D7 h.graph.edges (by omega)) (by simp [go_sem]) (by simp [go_sem]) (PR _) rfl (by simp [go_sem]) ?_
 refine wp (h:=vK (Ghosts.step (Ghosts.refl _) 11 0 2 34 1 _ _ ((by simp [go_sem];rfl)) rfl rfl rfl) (fun i e H=>∃ qs:List Nat,(e 1=.adr h.c∧e 2=.ptr 0 1 0 0∧e 3=.ptr 11 1 0 0∧e 17=.list (h.values.map cL)∧e 18=dI h.values.length∧e 19=dI i)∧(H.get 0=some ⟨40,3,[[.nil,.nil,.nil]],false⟩)∧(0<H.next)∧(H.get 11=some ⟨40,3,[[dLI h.graph.nodes,.list (h.graph.edges.map Edge.c),.own 13 i]],false⟩)∧(11<H.next)∧(H.get 13=some ⟨34,1,jA qs (h.values.take i),false⟩)∧(13<H.next)∧(i≤h.values.length)∧(qs.length=(h.values.take i).length)∧(∀ q∈qs,13<q∧q<H.next)∧(13<H.next)∧(∀ (k q:Nat) (v:List Int),qs[k]?=some q→(h.values.take i)[k]?=some v→H.get q=some ⟨3,1,v.map cI,false⟩)) (fun i=>h.values.length - i) 0 ⟨([]),wg,wn,wn,wn,wn,(by (simp [go_sem,Y,jA])),wn,wi,(by rfl),(by (intro q hq;cases hq)),(by (simp [go_sem])),(by (intro k q v hk;simp at hk))⟩ fun I0 hI0 i e H hi0=>?_)
 obtain ⟨qs,E0,g0_0,n0_0,g11_0,n11_0,g13_0,n13_0,hi,hql,hqr,hnx,hgq⟩:=hi0
 have Y:=wa Y (wa E0 (wa g0_0 (wa (bY n0_0) (wa g11_0 (wa (bY n11_0) (wa g13_0 (bY n13_0)))))))
 refine cT (fun h3=>?_) fun h3=>?_
 ·have hr8:=hr _ (aC h3)
  have hrl:(jA qs (h.values.take i)).length=i:=by rw [g8 hql];simp;omega
  have hgq2:∀ H2:AHeap,H2.get (H.next+2)=some ⟨3,1,h.values[i].map cI,false⟩→(∀ q∈qs,H2.get q=H.get q)→∀ (k q:Nat) (v:List Int),(qs++[H.next+2])[k]?=some q→(h.values.take (i+1))[k]?=some v→H2.get q=some ⟨3,1,v.map cI,false⟩:=fun H2 g1 g2 k q v e1 e2=>by
   rw [aF h3] at e2
   have hqi:qs.length=i:=by rw [hql];simp;omega
   have hti:(h.values.take i).length=i:=by simp;omega
   by_cases hk:k<i
   ·rw [aR (by omega)] at e1
    rw [aR (by omega)] at e2
    rw [g2 q (aH e1)];exact hgq k q v e1 e2
   ·have h1':=(aL.1 e1).1
    have:k=i:=by simp at h1';omega
    subst this
    rw [aY (by omega),hqi,qN] at e1
    rw [aY (by omega),hti,qN] at e2
    simp at e1 e2
    subst e1 e2;exact g1
  have Y:=wa Y (wa h3 (wa (aA h3) (wa @cL.eq_1 hrl)))
  exact wp (h:=wx hI0 (i+1) ⟨(qs++[H.next+2]),wg,wn,wn,wn,wn,(by (rw [aF h3,tF hql];simp [go_sem,Y,cL])),wn,wj,(by (simp [hql];omega)),(by (intro q hq;rw [aW,bL] at hq;rcases hq with hq|rfl;(have:=hqr q hq;simp [go_sem];omega);(simp [go_sem];omega))),(by (simp [go_sem];omega)),(by (exact hgq2 _ (by simp [go_sem,Y,cL]) (fun q hq=>by have:=hqr q hq;simp [go_sem,bY this.2,show q≠13 by omega,show q≠11 by omega])))⟩)
 ·rw [aJ (by omega)] at hql hgq
  have hie:i=h.values.length:=by omega
  refine wv (h:=?_)
  refine (hQ _ _).2 ?_
  obtain ⟨E,hEq⟩:∃ E,E=H.put 0 ⟨40,3,[[D.list (List.map cI h.graph.nodes),D.list (List.map Edge.c h.graph.edges),D.own 13 i]],false⟩:=⟨_,rfl⟩
  rw [← hEq]
  have hE13:E.get 13=some ⟨34,1,jA qs (h.values.take i),false⟩:=by rw [hEq];simp [go_sem,g13_0]
  rw [aJ (show h.values.length≤i by omega)] at hE13
  have hR:=Ml (H:=E) hql (fun k q v e1 e2=>by
   have:=hqr q (aH e1)
   rw [hEq];simp [go_sem,show q≠0 by omega];exact hgq k q v e1 e2)
  have hrl:=g8 hql
  simp only [gF,iM,mW,eB,fT,g5,hE13,hrl,hR,hie,if_true]
  rfl
end Go.Abs
end
