/- Layer 22 of the reference: values, extensions, the first wit -/
import Derived.Test.YtjfaalokjnmdoaaGreatZaAF
import Derived.Test.YtjfaalokjnmdoaaGreatZaAA
import Derived.Test.YtjfaalokjnmdoaaGreatZaAT
set_option linter.unusedVariables false
set_option linter.unusedSimpArgs false
section
set_option maxRecDepth 100000
set_option maxHeartbeats 4000000
open Go Go.Proofs
namespace Go.Abs
def RI (at_ im:List Int)(n i:Nat):List Int:=(List.range i).foldl (fun acc i=>acc.set (at_[i]?.getD 0).toNat (im[i]?.getD 0)) (List.replicate n (-1))
theorem LH (at_ im:List Int)(n i:Nat):RI at_ im n (i+1)=(RI at_ im n i).set (at_[i]?.getD 0).toNat (im[i]?.getD 0):=by unfold RI;rw [fL]
theorem JO (at_ im:List Int)(n:Nat):∀ i,(RI at_ im n i).length=n
 | 0=>by simp [RI]
 | i+1=>by rw [LH,dX];exact JO at_ im n i
theorem AL (n:Nat)(hn:n≤1000000)(at_ im:List Int)(h1:∀ x∈at_,0≤x∧x<n)(h2:at_.length≤im.length):Pure Tryz.prog 397 [dI n,dLI at_,dLI im] (dLI (E8 n at_ im)):=by
 refine Tz.pK ⟨fun t=>t==7,fun _=>[]⟩ Tryz.func397 rfl (fun Q hQ=>?_)
 have Y:=trivial
 refine wv (h:=bG (fun i e H=>(e 0=dI n∧e 1=dLI at_∧e 2=dLI im∧e 7=.own 0 i∧e 8=dI i)∧(H.get 0=some ⟨3,1,(List.replicate i (-1:Int)).map cI,false⟩)∧(0<H.next)∧(i≤n)) (fun i=>n - i) 0 ⟨wg,(by (simp [go_sem])),wn,wi⟩ fun I0 hI0 i e H hi0=>?_)
 obtain ⟨E0,g0_0,n0_0,hi⟩:=hi0
 have Y:=wa Y (wa E0 (wa g0_0 (cG n0_0)))
 refine d7 (fun h3=>?_) fun h3=>?_
 ·have Y:=wa Y h3
  exact wp (h:=wx hI0 (i+1) ⟨wg,(by (simp [go_sem,Y,y3,cI])),wn,wj⟩)
 ·have hin:i=n:=by omega
  refine wv (h:=bG (fun k e H=>(e 0=dI n∧e 1=dLI at_∧e 2=dLI im∧e 7=.own 0 n∧e 9=dI k)∧(H.get 0=some ⟨3,1,(RI at_ im n k).map cI,false⟩)∧(0<H.next)∧(k≤at_.length)∧((RI at_ im n k).length=n)) (fun k=>at_.length - k) 0 ⟨wg,(by (simp [go_sem,Y,RI,hin])),wn,wi,(by (exact JO _ _ _ _))⟩ fun I2 hI2 k e H hi2=>?_)
  obtain ⟨E2,g0_2,n0_2,hk,hpl⟩:=hi2
  have Y:=wa Y (wa E2 (wa g0_2 (wa (cG n0_2) hpl)))
  refine wv (h:=?_)
  repeat first|intro _|refine ⟨eI,?_⟩
  refine wq (fun h7=>?_) fun h7=>?_
  ·have hki:k<im.length:=by omega
   have ha:=h1 _ (aB h7)
   have ha0:at_[k]?.getD 0=at_[k]:=by rw [aA h7];rfl
   have hi0:im[k]?.getD 0=im[k]:=by rw [aA hki];rfl
   have hal:at_[k].toNat<(RI at_ im n k).length:=by omega
   have Y:=wa Y (wa h7 (wa (aA h7) (wa (aA hki) (aA hal))))
   exact wp (h:=wx hI2 (k+1) ⟨wg,(by (simp [go_sem,Y,LH,cK,ha0,hi0,cI])),wn,wj,(by (exact JO _ _ _ _))⟩)
  ·have hP:E8 n at_ im=RI at_ im n k:=by unfold E8 RI;rw [show k=at_.length by omega]
   exact wv (h:=hQ _ _ (by simp [go_sem,Y,hP,dLI]))
def M9 (len i:Nat):List Bool:=(List.range i).map fun j=>decide (j<len)
theorem R6 (len i:Nat):M9 len (i+1)=M9 len i++[decide (i<len)]:=by simp [M9,bL]
theorem JW (len i:Nat):(M9 len i).length=i:=by simp [M9]
theorem Ti (len n:Nat)(h:len≤n):M9 len n=List.replicate len true++List.replicate (n - len) false:=by
 apply kH (by simp [M9];omega)
 intro i h1 h2
 simp only [M9,List.getElem_map,List.getElem_range,List.getElem_append,List.getElem_replicate,gI]
 split
 ·rename_i h3;simpa using h3
 ·rename_i h3;simpa using h3
theorem Th (len i n:Nat)(h:i<n):(M9 len i++List.replicate (n - i) false).set i (decide (i<len))=M9 len (i+1)++List.replicate (n - (i+1)) false:=by
 rw [oE _ _ (by rw [JW];omega),JW,Nat.sub_self,R6,show n - i=(n - (i+1))+1 by omega,jY]
 simp
def QD (len n i:Nat):List Bool:=M9 len i++List.replicate (n - i) false
theorem R7 (len n:Nat):QD len n 0=List.replicate n false:=by simp [QD,M9]
theorem Tk {len n i:Nat}(h:i≤n):(QD len n i).length=n:=by simp [QD,JW];omega
theorem Tj {len n i:Nat}(h:i<n):(QD len n i).set i (decide (i<len))=QD len n (i+1):=Th len i n h
theorem Pp (len n:Nat):QD len n n=M9 len n:=by simp [QD]
def KG (vs:List Int)(i:Nat):List Int:=vs++List.replicate (i - vs.length) 0
theorem KF (vs:List Int)(i:Nat):KG vs (i+1)=if vs.length≤i then KG vs i++[0] else KG vs i:=by
 unfold KG
 split
 ·rename_i h;rw [show i+1 - vs.length=(i - vs.length)+1 by omega,y3,List.append_assoc]
 ·rename_i h;rw [show i+1 - vs.length=0 by omega,show i - vs.length=0 by omega]
theorem O2 (vs:List Int)(i:Nat):(KG vs i).length=max vs.length i:=by simp [KG];omega
theorem Rl {x:Test}{vs:List Int}{n:Nat}(hx:Kq x n):En x vs = !((decide (x.kind=1)&&decide (gA x.right vs<gA x.left vs))||(decide (x.kind=2)&&!decide (gA x.left vs=gA x.right vs))):=by
 rcases hx.1 with h|h
 ·unfold En;rw [h];simp
  rw [aY];simp
 ·unfold En;rw [h];simp
theorem JG (p:Pattern)(h:Host)(m:Part)(hO:SOk p h m)(vs:List Int)(hl:vs.length≤p.vars.toNat)(hs:∀ v∈vs,-2000000≤v∧v≤2000000) :
  Pure Tryz.prog 399 [p.d,h.d,m.d,dLI vs] (.tup [dLI (fX p h m vs).1,.bool (decide ((fX p h m vs).2=0))]):=by
 have hv:=hO.vars
 have h0:=Rs hv.1 hl hs
 have hva0:KG vs 0=vs:=by simp [KG]
 have hst0:Nt p vs=(KG vs p.vars.toNat,M9 vs.length p.vars.toNat):=by unfold Nt;rw [Ti _ _ hl];rfl
 refine Tz.pK ⟨fun t=>t==14||t==19||t==24,fun r=>match r with|15=>[(5,14),(6,14),(7,14)]|_=>[]⟩ Tryz.func399 rfl (fun Q hQ=>?_)
 have Y:=wa hva0 (wa @Pattern.d.eq_1 (wa @Pattern.c.eq_1 (wa @Host.d.eq_1 (wa @Host.c.eq_1 (wa @Part.d.eq_1 (wa @Part.c.eq_1 @Term.c.eq_1))))))
 refine wp (h:=bG (fun i e H=>(e 4=.adr p.c∧e 5=.adr h.c∧e 6=.adr m.c∧e 3=dLI vs∧e 10=.own 0 (KG vs i).length∧e 11=.own 1 p.vars.toNat∧e 12=dI i)∧(H.get 0=some ⟨3,1,(KG vs i).map cI,false⟩)∧(0<H.next)∧(H.get 1=some ⟨4,1,(QD vs.length p.vars.toNat i).map cB,false⟩)∧(1<H.next)∧(i≤p.vars.toNat)) (fun i=>p.vars.toNat - i) 0 ⟨wg,(by (simp [go_sem,KG])),wn,(by (simp [go_sem,R7,cB])),wn,wi⟩ fun I0 hI0 i e H hi0=>?_)
 obtain ⟨E0,g0_0,n0_0,g1_0,n1_0,hi⟩:=hi0
 have Y:=wa Y (wa E0 (wa g0_0 (wa (cG n0_0) (wa g1_0 (cG n1_0)))))
 refine d7 (fun h4=>?_) fun h4=>?_
 ·have hI:=O2 vs i
  have hK:=Tj (len:=vs.length) (n:=p.vars.toNat) (i:=i) (by omega)
  have hKl:=Tk (len:=vs.length) (n:=p.vars.toNat) (i:=i) (by omega)
  have hKi:i<(QD vs.length p.vars.toNat i).length:=by omega
  have hKm:((QD vs.length p.vars.toNat i).map cB).set i [.bool (decide (i<vs.length))]=(QD vs.length p.vars.toNat (i+1)).map cB:=by rw [← hK,cK];rfl
  have Y:=wa Y (wa h4 (wa hKl (wa (aA hKi) hKm)))
  refine wv (h:=?_)
  repeat first|intro _|refine ⟨eI,?_⟩
  refine wq (fun h7=>?_) fun h7=>?_
  ·have hVs:KG vs (i+1)=KG vs i++[0]:=by rw [KF,if_pos (by omega)]
   have Y:=wa Y hVs
   exact wp (h:=wx hI0 (i+1) ⟨wg,(by (simp [go_sem,Y])),wn,(by (simp [go_sem,Y])),wn,wj⟩)
  ·have hVs:KG vs (i+1)=KG vs i:=by rw [KF,if_neg (by omega)]
   have Y:=wa Y hVs
   exact wp (h:=wx hI0 (i+1) ⟨wg,(by (simp [go_sem,Y])),wn,(by (simp [go_sem,Y])),wn,wj⟩)
 ·have hin:i=p.vars.toNat:=by omega
  have hI:=O2 vs i
  rw [hin,Nat.max_eq_right hl] at hI
  have hK0:QD vs.length i i=M9 vs.length i:=Pp _ _
  have hK1:=Pp vs.length p.vars.toNat
  have Y:=wa Y (wa hin (wa hI hK1))
  refine wv (h:=bG (fun i e H=>∃ st:List Int × List Bool,(e 4=.adr p.c∧e 5=.adr h.c∧e 6=.adr m.c∧e 3=dLI vs∧e 10=.own 0 p.vars.toNat∧e 11=.own 1 p.vars.toNat∧e 13=dI i)∧(H.get 0=some ⟨3,1,st.1.map cI,false⟩)∧(0<H.next)∧(H.get 1=some ⟨4,1,st.2.map cB,false⟩)∧(1<H.next)∧(i≤p.slots.length)∧(StOk p.vars.toNat st)∧(iU h m (Nt p vs) (p.slots.take i)=some st)) (fun i=>p.slots.length - i) 0 ⟨((KG vs p.vars.toNat,M9 vs.length p.vars.toNat)),wg,(by (simp [go_sem,Y,hin])),wn,(by (simp [go_sem,Y,hin,hK1])),wn,wi,(by (rw [← hst0];exact h0)),(by (rw [hst0];rfl))⟩ fun I2 hI2 i e H hi2=>?_)
  obtain ⟨st,E2,g0_2,n0_2,g1_2,n1_2,hi,hst,hsl⟩:=hi2
  have Y:=wa Y (wa E2 (wa g0_2 (wa (cG n0_2) (wa g1_2 (cG n1_2)))))
  refine wv (h:=?_)
  repeat first|intro _|refine ⟨eI,?_⟩
  refine wq (fun h10=>?_) fun h10=>?_
  ·obtain ⟨x,hx⟩:∃ x,x=p.slots[i]:=⟨_,rfl⟩
   have hxm:x∈p.slots:=hx ▸ aB h10
   have hn:=hO.node x hxm
   have hn2:x.node.toNat<m.nodes.length:=by omega
   have hk:=hO.img _ (aB hn2)
   have hk2:(m.nodes[x.node.toNat]).toNat<h.values.length:=by omega
   have ha:=hO.attr x hxm
   rw [aA hn2,aD,aA hk2,aD] at ha
   have ha2:x.attr.toNat<(h.values[(m.nodes[x.node.toNat]).toNat]).length:=by omega
   have hV:nQ h m x=h.values[(m.nodes[x.node.toNat]).toNat][x.attr.toNat]:=by unfold nQ;rw [aA hn2,aD,aA hk2,aD,aA ha2];rfl
   have hb:=hO.have_ hxm
   have hT:=hO.term x hxm
   have hl1:=hst.l1
   have hl2:=hst.l2
   have hTv:=hT.1
   have hTa:=hT.2
   have hSt:=CX h10 hsl
   rw [← hx] at hSt
   obtain ⟨s2,hs2e⟩:∃ y,y=oI h m st x:=⟨_,rfl⟩
   have hs2:StOk p.vars.toNat s2:=hs2e ▸ Ew hst hb hT
   rw [← hs2e] at hSt
   have hs2n:¬ 0≤x.term.var→s2=st:=fun hn=>by rw [hs2e];unfold oI qW;rw [if_neg (by simp [hn])]
   have vlt:0≤x.term.var→x.term.var.toNat<st.2.length:=fun hn=>by omega
   obtain ⟨kb,hkb⟩:∃ kb,kb=st.2[x.term.var.toNat]?.getD false:=⟨_,rfl⟩
   have hcase:0≤x.term.var∨(¬ 0≤x.term.var∧st.2[x.term.var.toNat]?=none)∨(¬ 0≤x.term.var∧st.2[x.term.var.toNat]?=some kb):=by
    by_cases hsp:0≤x.term.var
    ·exact .inl hsp
    ·right
     cases ho:st.2[x.term.var.toNat]? with
     | none=>exact .inl ⟨hsp,rfl⟩
     | some b=>rw [ho] at hkb;exact .inr ⟨hsp,by rw [hkb];rfl⟩
   rcases hcase with hc|hc|hc
   ·have Y:=wa Y (wa h10 (wa (aA h10) (wa (Eq.symm hx) (wa (aA hn2) (wa (aA hk2) (wa (aA ha2) (wa (Eq.symm hV) (wa @Slot.c.eq_1 (wa @cL.eq_1 (wa hl1 (wa hl2 (wa @p5 (wa @cB.eq_1 (wa hc ((aA (vlt hc)))))))))))))))))
    refine wv (h:=?_)
    repeat first|intro _|refine ⟨eI,?_⟩
    refine wq (fun h14=>?_) fun h14=>?_
    ·have hF:qW st x=true:=by simp only [qW,aL,decide_eq_true_eq,cV];exact ⟨hc,by simpa [aA (vlt hc)] using h14⟩
     unfold oI at hs2e
     rw [if_pos hF] at hs2e
     have hvl:x.term.var.toNat<st.1.length:=by omega
     have e1:s2.1.map cI=(st.1.map cI).set x.term.var.toNat (cI (nQ h m x - x.term.add)):=by rw [hs2e,cK]
     have e2:s2.2.map cB=(st.2.map cB).set x.term.var.toNat (cB true):=by rw [hs2e,cK]
     have ecl:D.clLL ((st.1.map cI).set x.term.var.toNat [D.int .i64 (nQ h m x - x.term.add)])=true:=by have:=yF s2.1;rw [e1] at this;exact this
     have Y:=wa Y (wa e1 (wa e2 (wa @dLI.eq_1 (wa @cI.eq_1 (wa (aA hvl) ecl)))))
     refine wp (h:=eR (iF x.term s2.1 (by rw [hs2.l1];exact hT) hs2.big) wr wl rfl ?_)
     refine wv (h:=?_)
     repeat first|intro _|refine ⟨eI,?_⟩
     refine wq (fun h17=>?_) fun h17=>?_
     ·have hR:=g5 (hSt.2 (by first|simpa using h17|simpa [hs2n hc.1] using h17|simpa [hs2e] using h17))
      exact wv (h:=hQ _ _ (by simp [go_sem,hR]))
     ·have hstep:=hSt.1 (by first|simpa using h17|simpa [hs2n hc.1] using h17|simpa [hs2e] using h17)
      exact wp (h:=wx hI2 (i+1) ⟨s2,wg,(by (simp [go_sem,Y])),wn,(by (simp [go_sem,Y])),wn,wj,(by exact hs2),(by exact hstep)⟩)
    ·have hF:¬ qW st x=true:=by simp only [qW,aL,decide_eq_true_eq,cV];rintro ⟨_,hk⟩;simp [aA (vlt hc)] at hk;simp [hk] at h14
     unfold oI at hs2e
     rw [if_neg hF] at hs2e
     have Y:=wa Y hs2e
     refine wv (h:=eR ((by first|exact iF x.term s2.1 (by rw [hs2.l1];exact hT) hs2.big|exact iF p.tests[k].left st.1 (by rw [hst.l1];exact hX.2.1) hst.big)) wr wl rfl ?_)
     refine d7 (fun h17=>?_) fun h17=>?_
     ·have hR:=g5 (hSt.2 (by first|simpa using h17|simpa [hs2n hc.1] using h17|simpa [hs2e] using h17))
      exact wv (h:=hQ _ _ (by simp [go_sem,hR]))
     ·have hstep:=hSt.1 (by first|simpa using h17|simpa [hs2n hc.1] using h17|simpa [hs2e] using h17)
      exact wp (h:=wx hI2 (i+1) ⟨s2,wg,(by (simp [go_sem,Y])),wn,(by (simp [go_sem,Y])),wn,wj,(by exact hs2),(by exact hstep)⟩)
   ·have Y:=wa Y (wa h10 (wa (aA h10) (wa (Eq.symm hx) (wa (aA hn2) (wa (aA hk2) (wa (aA ha2) (wa (Eq.symm hV) (wa @Slot.c.eq_1 (wa @cL.eq_1 (wa hl1 (wa hl2 (wa @p5 (wa @cB.eq_1 (wa hc.1 (wa hc.2 (hs2n hc.1))))))))))))))))
    refine wp (h:=eR (iF x.term s2.1 (by rw [hs2.l1];exact hT) hs2.big) wr wl rfl ?_)
    refine wv (h:=?_)
    repeat first|intro _|refine ⟨eI,?_⟩
    refine wq (fun h17=>?_) fun h17=>?_
    ·have hR:=g5 (hSt.2 (by first|simpa using h17|simpa [hs2n hc.1] using h17|simpa [hs2e] using h17))
     exact wv (h:=hQ _ _ (by simp [go_sem,hR]))
    ·have hstep:=hSt.1 (by first|simpa using h17|simpa [hs2n hc.1] using h17|simpa [hs2e] using h17)
     exact wp (h:=wx hI2 (i+1) ⟨s2,wg,(by (simp [go_sem,Y])),wn,(by (simp [go_sem,Y])),wn,wj,(by exact hs2),(by exact hstep)⟩)
   ·have Y:=wa Y (wa h10 (wa (aA h10) (wa (Eq.symm hx) (wa (aA hn2) (wa (aA hk2) (wa (aA ha2) (wa (Eq.symm hV) (wa @Slot.c.eq_1 (wa @cL.eq_1 (wa hl1 (wa hl2 (wa @p5 (wa @cB.eq_1 (wa hc.1 (wa hc.2 (hs2n hc.1))))))))))))))))
    refine wp (h:=eR (iF x.term s2.1 (by rw [hs2.l1];exact hT) hs2.big) wr wl rfl ?_)
    refine wv (h:=?_)
    repeat first|intro _|refine ⟨eI,?_⟩
    refine wq (fun h17=>?_) fun h17=>?_
    ·have hR:=g5 (hSt.2 (by first|simpa using h17|simpa [hs2n hc.1] using h17|simpa [hs2e] using h17))
     exact wv (h:=hQ _ _ (by simp [go_sem,hR]))
    ·have hstep:=hSt.1 (by first|simpa using h17|simpa [hs2n hc.1] using h17|simpa [hs2e] using h17)
     exact wp (h:=wx hI2 (i+1) ⟨s2,wg,(by (simp [go_sem,Y])),wn,(by (simp [go_sem,Y])),wn,wj,(by exact hs2),(by exact hstep)⟩)
  ·rw [aI (by omega)] at hsl
   have hR0:=uJ hsl
   have hl1:=hst.l1
   have Y:=wa Y hl1
   refine wv (h:=bG (fun k e H=>(e 4=.adr p.c∧e 5=.adr h.c∧e 6=.adr m.c∧e 3=dLI vs∧e 10=.own 0 p.vars.toNat∧e 18=dI k)∧(H.get 0=some ⟨3,1,st.1.map cI,false⟩)∧(0<H.next)∧(k≤p.tests.length)∧((p.tests.take k).all (fun x=>En x st.1)=true)) (fun k=>p.tests.length - k) 0 ⟨wg,wn,wn,wi,(by rfl)⟩ fun I4 hI4 k e H hi4=>?_)
   obtain ⟨E4,g0_4,n0_4,hk,hall⟩:=hi4
   have Y:=wa Y (wa E4 (wa g0_4 (cG n0_4)))
   refine wv (h:=?_)
   repeat first|intro _|refine ⟨eI,?_⟩
   refine wq (fun h20=>?_) fun h20=>?_
   ·have hX:=hO.test _ (aB h20)
    have hTn:=Rl (vs:=st.1) hX
    have Y:=wa Y (wa h20 (wa (aA h20) @Test.c.eq_1))
    refine wp (h:=eR ((by first|exact iF x.term s2.1 (by rw [hs2.l1];exact hT) hs2.big|exact iF p.tests[k].left st.1 (by rw [hst.l1];exact hX.2.1) hst.big)) wr wl rfl ?_)
    refine wp (h:=eR (iF p.tests[k].right st.1 (by rw [hst.l1];exact hX.2.2) hst.big) wr wl rfl ?_)
    refine wv (h:=?_)
    repeat first|intro _|refine ⟨eI,?_⟩
    refine wq (fun h25=>?_) fun h25=>?_
    ·have hT0:En p.tests[k] st.1=false:=by
      rw [hTn,Bool.not_eq_false']
      rcases h25 with ⟨a,b⟩|⟨a,b⟩
      ·simp [a,b]
      ·simp [a,b]
     have hR:fX p h m vs=([],16):=by
      rw [hR0,if_neg]
      intro ha
      rw [cQ] at ha
      have:=ha _ (aB h20)
      rw [hT0] at this;cases this
     exact wv (h:=hQ _ _ (by simp [go_sem,hR]))
    ·have hT1:En p.tests[k] st.1=true:=by
      rw [hTn];simp
      exact ⟨by by_cases hk1:p.tests[k].kind=1;exact .inr (h25.1 hk1);exact .inl hk1,by by_cases hk2:p.tests[k].kind=2;exact .inr (h25.2 hk2);exact .inl hk2⟩
     exact wp (h:=wx hI4 (k+1) ⟨wg,wn,wn,wj,(by (rw [aF h20,List.all_append,hall];simp;exact hT1))⟩)
   ·rw [aI (by omega)] at hall
    rw [if_pos hall] at hR0
    exact wv (h:=hQ _ _ (by simp [go_sem,Y,hR0,dLI]))
/-! ### extensions -/
structure MatOk (t:Types) (p:Pattern) (h:Host) (m:Mat):Prop where
 mok:MOk t p.graph h.graph m.m
 vl:m.vars.length=p.vars.toNat
 vs:∀ v∈m.vars,-2000000≤v∧v≤2000000
structure ExOk (t:Types) (p:Pattern) (mp:Part) (q:Pattern):Prop where
 pq:PatOk t q
 pv:p.vars≤q.vars
 p0:0≤p.vars
 mo:eN p.graph q.graph mp=0
theorem ExOk.img {t:Types}{p:Pattern}{mp:Part}{q:Pattern}(h:ExOk t p mp q):(mp.nodes.length=p.graph.nodes.length∧mp.edges.length=p.graph.edges.length)∧(∀ x∈mp.nodes,0≤x∧x<q.graph.nodes.length)∧(∀ x∈mp.edges,0≤x∧x<q.graph.edges.length):=by
 have:=lX h.mo
 exact ⟨this.2.2,(Ca h.mo).1,(Ca h.mo).2⟩
theorem Mj {t:Types}{p g:Graph}{q:Part}{inj:Bool}{m:Part}(h:m∈(tZ t p g q inj).1):MOk t p g m:=by
 unfold tZ at h
 split at h
 ·cases h
 ·split at h
  ·cases h
  ·split at h
   ·cases h
   ·split at h
    ·cases h
    ·unfold Mu at h
     split at h
     ·cases h
     ·exact MW (S:=⟨t,p,g,_,_,inj⟩) (cE h)
theorem Rg {t:Types}{q:Pattern}{h:Host}{vars:List Int}{l:List Part}(hp:PatOk t q)(ho:HostOk t h)(hl:∀ x∈l,MOk t q.graph h.graph x)(hv:vars.length≤q.vars.toNat)(hs:∀ v∈vars,-2000000≤v∧v≤2000000):∀ m∈wF q h vars l,MatOk t q h m:=fun m hm=>by
 unfold wF at hm
 rw [List.mem_filterMap] at hm
 obtain ⟨x,hx,he⟩:=hm
 split at he
 ·rename_i h0
  cases he
  obtain ⟨h1,h2⟩:=zT (Vt hp ho (hl x hx)) hv hs h0
  exact ⟨hl x hx,h1,h2⟩
 ·cases he
theorem Tu {t:Types}{p:Pattern}{mp:Part}{q:Pattern}{h:Host}{m:Mat}{inj:Bool}(hE:ExOk t p mp q)(ho:HostOk t h)(hm:MatOk t p h m):∀ x∈(Cr t mp q h m inj).1,MatOk t q h x:=by
 unfold Cr
 split
 ·simp
 ·exact Rg hE.pq ho (fun x hx=>Mj hx) (by have:=hm.vl;have:=hE.pv;have:=hE.p0;omega) hm.vs
theorem B5 (t:Types)(ht:t.ok)(p:Pattern)(c:Cond)(hE:ExOk t p c.map c.pattern)(h:Host)(ho:HostOk t h)(m:Mat)(hm:MatOk t p h m)(inj:Bool) :
  Pure Tryz.prog 349 [t.d,.agg c.c,h.d,m.d,.bool inj] (.tup [.list ((Cr t c.map c.pattern h m inj).1.map Mat.c),dI (Cr t c.map c.pattern h m inj).2]):=by
 obtain ⟨⟨hl1,hl2⟩,hi1,hi2⟩:=hE.img
 have hq:=bZ hE.pq.gg
 have hn1:=hm.mok.len
 have hn2:=hm.mok.elen
 refine Tz.pK ⟨fun t=>t==12||t==13||t==16,fun r=>match r with|2=>[(0,23),(1,23),(2,23),(3,23),(4,23),(5,23),(6,23),(7,23),(8,23),(9,23),(10,23),(11,23),(12,23),(13,23),(14,23),(15,23),(16,23),(17,23),(18,23),(19,23),(20,23),(21,23)]|_=>[]⟩ Tryz.func349 rfl (fun Q hQ=>?_)
 obtain ⟨X,hX⟩:∃ X,X=tZ t c.pattern.graph h.graph (tO c.map c.pattern m.m) inj:=⟨_,rfl⟩
 have hXm:∀ x∈X.1,MOk t c.pattern.graph h.graph x:=fun x hx=>Mj (hX ▸ hx)
 have hX5:X.1.length≤5000:=hX ▸ Tt _ _ _ _ _
 have hvl:m.vars.length≤c.pattern.vars.toNat:=by have:=hm.vl;have:=hE.pv;have:=hE.p0;omega
 have hXE:Cr t c.map c.pattern h m inj=if X.2≠0 then ([],X.2) else (wF c.pattern h m.vars X.1,0):=by unfold Cr;rw [← hX]
 have Y:=wa @Cond.c_eq (wa @Host.d.eq_1 (wa @Host.c.eq_1 (wa @Mat.d.eq_1 @Mat.c.eq_1)))
 refine wp (h:=aM (AL c.pattern.graph.nodes.length (by omega) c.map.nodes m.m.nodes hi1 (by omega)) wl ?_)
 refine wp (h:=aM (AL c.pattern.graph.edges.length (by omega) c.map.edges m.m.edges hi2 (by omega)) wl ?_)
 refine wp (h:=aC ((by have hq:=JI t ht c.pattern.graph h.graph (tO c.map c.pattern m.m) inj;rw [← hX] at hq;unfold tO Types.d Types.c Graph.d Graph.c Part.d Part.c dLI at hq;exact hq)) wl ?_)
 refine pH (fun h4=>?_) fun h4=>?_
 ·rw [if_pos h4] at hXE
  exact wv (h:=hQ _ _ (by simp [go_sem,hXE]))
 ·rw [if_neg (by omega)] at hXE
  refine wv (h:=bG (fun i e H=>∃ ms:List Mat,(e 5=.adr t.c∧e 6=.adr c.c∧e 7=.adr h.c∧e 8=.adr m.c∧e 4=.bool inj∧e 12=.ptr 0 1 0 0∧e 14=.list (X.1.map Part.c)∧e 16=.own 26 ms.length∧e 17=dI i)∧(H.get 0=some ⟨53,5,[c.pattern.c],false⟩)∧(0<H.next)∧(H.get 26=some ⟨65,3,ms.map Mat.c,false⟩)∧(26<H.next)∧(i≤X.1.length)∧(ms=wF c.pattern h m.vars (X.1.take i))∧(ms.length≤i)) (fun i=>X.1.length - i) 0 ⟨([]),wg,wn,wn,wn,wn,wi,(by rfl),(by (simp))⟩ fun I0 hI0 i e H hi0=>?_)
  obtain ⟨ms,E0,g0_0,n0_0,g26_0,n26_0,hi,hms,hml⟩:=hi0
  have Y:=wa Y (wa E0 (wa g0_0 (wa (cG n0_0) (wa g26_0 (cG n26_0)))))
  refine pH (fun h8=>?_) fun h8=>?_
  ·obtain ⟨v,hv⟩:∃ v,v=fX c.pattern h X.1[i] m.vars:=⟨_,rfl⟩
   obtain ⟨ms2,hms2⟩:∃ y,y=ms++if v.2=0 then [(⟨X.1[i],v.1⟩:Mat)] else []:=⟨_,rfl⟩
   have Y:=wa Y (wa h8 (wa (aA h8) (wa @Part.c.eq_1 @Pattern.c.eq_1)))
   refine wp (h:=aM ((by have hq:=JG c.pattern h X.1[i] (Vt hE.pq ho (hXm _ (aB h8))) m.vars hvl hm.vs;rw [← hv] at hq;unfold Pattern.d Pattern.c Host.d Host.c Part.d Part.c dLI at hq;exact hq)) wl ?_)
   refine pH (fun h11=>?_) fun h11=>?_
   ·have hm3:ms2=ms++[⟨X.1[i],v.1⟩]:=by rw [hms2,if_pos (by simpa using h11)]
    have Y:=wa Y hm3
    exact wp (h:=wx hI0 (i+1) ⟨ms2,wg,wn,wn,wn,wn,wj,(by (rw [aF h8,uH,← hms,← hv];exact hms2)),(by (rw [hms2];split<;>simp<;>omega))⟩)
   ·have hm3:ms2=ms:=by rw [hms2,if_neg (by simpa using h11),fE]
    have Y:=wa Y hm3
    exact wp (h:=wx hI0 (i+1) ⟨ms2,wg,wn,wn,wn,wn,wj,(by (rw [aF h8,uH,← hms,← hv];exact hms2)),(by (rw [hms2];split<;>simp<;>omega))⟩)
  ·rw [aI (by omega)] at hms
   exact wv (h:=hQ _ _ (by simp [go_sem,Y,hXE,← hms]))
theorem R8 (l:List Cond):l.length≤Cond.sizes l:=by
 induction l with
 | nil=>simp [Cond.sizes]
 | cons a l ih=>have:=yA a;simp only [Cond.sizes,eU];omega
structure CondV (t:Types) (p:Pattern) (c:Cond):Prop where
 wf:KA c=true
 ins:oR t p c=0
 sz:c.size≤1000000
theorem CondV.kinds {t:Types}{p:Pattern}{c:Cond}(h:CondV t p c):(c.kind=2∨c.kind=5→c.kids.length=1)∧(1≤c.kind∧c.kind≤5):=by
 have:=h.wf
 rw [sJ,aL] at this
 have h1:=this.1
 unfold pF at h1
 split at h1
 ·omega
 ·split at h1
  ·rw [aL,decide_eq_true_eq] at h1;omega
  ·split at h1
   ·omega
   ·rw [aL,decide_eq_true_eq,decide_eq_true_eq] at h1;omega
theorem CondV.ex {t:Types}{p:Pattern}{c:Cond}(h:CondV t p c)(h5:c.kind=5)(hp:PatOk t p):ExOk t p c.map c.pattern∧∀ k∈c.kids,CondV t c.pattern k:=by
 have hi:=h.ins
 have hw:=h.wf
 rw [D7,if_pos h5,if_pos h5] at hi
 rw [sJ,aL,cQ] at hw
 by_cases h0:iM t p c.map c.pattern=0
 ·rw [if_neg (by omega)] at hi
  refine ⟨?_,fun k hk=>⟨hw.2 k hk,nY hi k hk,by have:=yA c;have:=AA hk;have:=h.sz;omega⟩⟩
  unfold iM at h0
  split at h0
  ·cases h0
  ·rename_i h1
   split at h0
   ·exact absurd h0 (by assumption)
   ·rename_i h2
    split at h0
    ·exact absurd h0 (by assumption)
    ·rename_i h3
     rw [fV] at h2 h3
     refine ⟨LK ?_,by omega,hp.vars.1,h3⟩
     unfold lY at h2
     split at h2
     ·exact .inr h2
     ·rename_i h4;left;omega
 ·rw [if_pos h0] at hi;exact absurd hi h0
theorem CondV.kid {t:Types}{p:Pattern}{c:Cond}(h:CondV t p c)(h5:c.kind≠5):∀ k∈c.kids,CondV t p k:=by
 have hi:=h.ins
 have hw:=h.wf
 rw [D7,if_neg h5,if_neg h5,if_neg (by omega)] at hi
 rw [sJ,aL,cQ] at hw
 exact fun k hk=>⟨hw.2 k hk,nY hi k hk,by have:=yA c;have:=AA hk;have:=h.sz;omega⟩
theorem FZ {α β:Type}(f:α→β){l:List α}{i:Nat}(h:i<l.length):(l.drop i).map f=f l[i] :: (l.drop (i+1)).map f:=by rw [cX h,fA]
theorem IE {t:Types}{h:Host}{inj:Bool}{l:List Cond}(hl:0<l.length):Me (l.map (uI t h inj))=uI t h inj l[0]:=by
 cases l with
 | nil=>cases hl
 | cons a l=>rfl
theorem At (t:Types)(h:Host)(inj:Bool)(c:Cond)(m:Mat):∃ wc wm wk we,uI t h inj c m=(Prf.mk wc wm wk,we):=by
 cases hh:uI t h inj c m with
 | mk a b=>cases a;exact ⟨_,_,_,_,rfl⟩
theorem Ll (t:Types)(ht:t.ok)(h:Host)(ho:HostOk t h)(inj:Bool):∀ (c:Cond) (p:Pattern),CondV t p c→PatOk t p→∀ m:Mat,MatOk t p h m →
  Pure Tryz.prog 270 [t.d,.agg c.c,h.d,m.d,.bool inj] (.tup [.agg (uI t h inj c m).1.c,dI (uI t h inj c m).2]):=by
 refine kY fun c ih p hC hp m hm=>?_
 obtain ⟨hK1,hK2⟩:=hC.kinds
 have hkl0:c.kids.length≤1000000:=by have:=R8 c.kids;have:=yA c;have:=hC.sz;omega
 have hW:=ST t h inj c m
 obtain ⟨W,hWW⟩:∃ W,W=uI t h inj c m:=⟨_,rfl⟩
 rw [← hWW] at hW ⊢
 refine zZ (by first|rfl|(simp [go_sem];done)) (fun Q hQ=>(aH (cfg:=⟨fun t=>t==10||t==12||t==14||t==16||t==19||t==24,fun r=>match r with|3=>[(0,12),(1,12),(2,12),(3,12),(4,12),(5,12),(6,12),(8,12)]|14=>[(0,13),(1,13),(2,13),(4,13),(5,13),(6,13),(7,13),(9,13)]|23=>[(0,13),(1,13),(2,13),(4,13),(5,13),(6,13),(7,13),(9,13)]|34=>[(0,15),(1,15),(2,15),(3,15),(4,15),(5,15),(8,15),(9,15),(11,15)]|36=>[(2,5),(3,5)]|_=>[]⟩) Tz.mixed Tryz.func270 rfl rfl (aE rfl) (by kernel_rfl) ?_))
 have Y:=wa @Cond.c_eq (wa @Host.d.eq_1 (wa @Host.c.eq_1 (wa @Mat.d.eq_1 (wa @Mat.c.eq_1 @Prf.c_eq))))
 refine d7 (fun h2=>?_) fun h2=>?_
 ·have h2':c.kind=2:=by simpa using h2
  have hl:0<c.kids.length:=by have:=hK1 (.inl h2');omega
  obtain ⟨k0,hk0e⟩:∃ k,k=c.kids[0]:=⟨_,rfl⟩
  have hk0:k0∈c.kids:=hk0e ▸ aB hl
  have hC0:=hC.kid (by omega) k0 hk0
  obtain ⟨wc,wm,wk,we,hw⟩:=At t h inj k0 m
  rw [if_pos h2',IE hl,← hk0e,hw] at hW
  unfold UF at hW
  have Y:=wa Y (wa (aA hl) (wa (Eq.symm hk0e) h2'))
  refine wp (h:=aM ((by have hq:=ih k0 hk0 p hC0 hp m hm;simp only [hw,Prf.c_eq,Cond.c_eq] at hq;unfold Types.d Types.c Host.d Host.c Mat.d Mat.c dLI dI at hq;exact hq)) wl ?_)
  refine wv (h:=?_)
  repeat first|intro _|refine ⟨eI,?_⟩
  refine wq (fun h4=>?_) fun h4=>?_
  ·rw [if_pos (by simpa using h4)] at hW
   refine wv (h:=?_)
   exact hQ _ _ (by simp [go_sem,Y,hW,sR,tU,Prf.c_eq,qL,nH,f6,dLI,jH,mV])
  ·rw [if_neg (by simpa using h4)] at hW
   refine d7 (fun h6=>?_) fun h6=>?_
   ·rw [if_pos (by simpa using h6)] at hW
    refine wv (h:=?_)
    exact hQ _ _ (by simp [go_sem,Y,hW,sR,tU,Prf.c_eq,qL,nH,f6,dLI,jH,mV])
   ·rw [if_neg (by simpa using h6)] at hW
    refine wv (h:=?_)
    exact hQ _ _ (by simp [go_sem,Y,hW,sR,tU,Prf.c_eq,qL,nH,f6,dLI,jH,mV])
 ·have h2':c.kind≠2:=by simpa using h2
  rw [if_neg h2'] at hW
  refine d7 (fun h9=>?_) fun h9=>?_
  ·have h9':c.kind=3:=by simpa using h9
   have hCk:=hC.kid (by omega)
   rw [if_pos h9'] at hW
   have Y:=wa Y h9'
   refine wv (h:=uX (Ghosts.step (Ghosts.refl _) 1 0 4 306 5 _ _ ((by simp [go_sem];rfl)) rfl rfl rfl) (fun i e H=>∃ ps:List Prf,(e 5=.adr t.c∧e 6=.adr c.c∧e 7=.adr h.c∧e 8=.adr m.c∧e 4=.bool inj∧e 10=.ptr 0 1 0 0∧e 14=.ptr 1 1 0 0∧e 15=dI i)∧(H.get 0=some ⟨306,5,[[dI 0,.nil,.nil,.nil,.nil]],false⟩)∧(0<H.next)∧(H.get 1=some ⟨306,5,[[dI 0,.nil,.nil,.nil,.own 2 ps.length]],false⟩)∧(1<H.next)∧(H.get 2=some ⟨306,5,ps.map Prf.c,false⟩)∧(2<H.next)∧(i≤c.kids.length)∧(Q5 ((c.kids.drop i).map fun k=>uI t h inj k m) ps=W)∧(ps.length≤i)∧(c.kids.length≤1000000)) (fun i=>c.kids.length - i) 0 ⟨([]),wg,wn,wn,wn,wn,wn,wn,wi,(by (exact hW.symm)),(by simp),(by (exact hkl0))⟩ fun I1 hI1 i e H hi1=>?_)
   obtain ⟨ps,E1,g0_1,n0_1,g1_1,n1_1,g2_1,n2_1,hi,hA,hpl,hkl⟩:=hi1
   have Y:=wa Y (wa E1 (wa g0_1 (wa (cG n0_1) (wa g1_1 (wa (cG n1_1) (wa g2_1 (cG n2_1)))))))
   refine wv (h:=?_)
   repeat first|intro _|refine ⟨eI,?_⟩
   refine wq (fun h12=>?_) fun h12=>?_
   ·obtain ⟨k1,hk1e⟩:∃ k,k=c.kids[i]:=⟨_,rfl⟩
    have hk1:k1∈c.kids:=hk1e ▸ aB h12
    obtain ⟨wc,wm,wk,we,hw⟩:=At t h inj k1 m
    have hst:=hA
    rw [FZ _ h12,← hk1e,hw] at hst
    simp only [Q5] at hst
    have Y:=wa Y (wa h12 (wa (aA h12) (Eq.symm hk1e)))
    refine wp (h:=aM ((by have hq:=ih k1 hk1 p (hCk k1 hk1) hp m hm;simp only [hw,Prf.c_eq,Cond.c_eq] at hq;unfold Types.d Types.c Host.d Host.c Mat.d Mat.c dLI dI at hq;exact hq)) wl ?_)
    refine wv (h:=?_)
    repeat first|intro _|refine ⟨eI,?_⟩
    refine wq (fun h15=>?_) fun h15=>?_
    ·rw [if_pos (by simpa using h15)] at hst
     refine wv (h:=?_)
     exact hQ _ _ (by simp [go_sem,Y,← hst,sR,tU,Prf.c_eq,qL,nH,f6,dLI,jH,mV])
    ·rw [if_neg (by simpa using h15)] at hst
     exact wp (h:=wx hI1 (i+1) ⟨(ps++[.mk wc wm wk]),wg,wn,wn,wn,wn,wn,wn,wj,(by (exact hst)),(by (simp;omega)),(by exact hkl)⟩)
   ·rw [iE (by omega)] at hA
    simp only [rK,Q5] at hA
    refine wv (h:=?_)
    exact hQ _ _ (by simp [go_sem,Y,← hA,sR,tU,Prf.c_eq,qL,nH,f6,dLI,jH,mV])
  ·have h9':c.kind≠3:=by simpa using h9
   rw [if_neg h9'] at hW
   refine d7 (fun h19=>?_) fun h19=>?_
   ·have h19':c.kind=4:=by simpa using h19
    have hCk:=hC.kid (by omega)
    rw [if_pos h19'] at hW
    have Y:=wa Y h19'
    refine wv (h:=bG (fun i e H=>(e 5=.adr t.c∧e 6=.adr c.c∧e 7=.adr h.c∧e 8=.adr m.c∧e 4=.bool inj∧e 10=.ptr 0 1 0 0∧e 18=dI i)∧(H.get 0=some ⟨306,5,[[dI 0,.nil,.nil,.nil,.nil]],false⟩)∧(0<H.next)∧(i≤c.kids.length)∧(VI ((c.kids.drop i).map fun k=>uI t h inj k m) i=W)) (fun i=>c.kids.length - i) 0 ⟨wg,wn,wn,wi,(by (exact hW.symm))⟩ fun I3 hI3 i e H hi3=>?_)
    obtain ⟨E3,g0_3,n0_3,hi,hA⟩:=hi3
    have Y:=wa Y (wa E3 (wa g0_3 (cG n0_3)))
    refine wv (h:=?_)
    repeat first|intro _|refine ⟨eI,?_⟩
    refine wq (fun h21=>?_) fun h21=>?_
    ·obtain ⟨k1,hk1e⟩:∃ k,k=c.kids[i]:=⟨_,rfl⟩
     have hk1:k1∈c.kids:=hk1e ▸ aB h21
     obtain ⟨wc,wm,wk,we,hw⟩:=At t h inj k1 m
     have hst:=hA
     rw [FZ _ h21,← hk1e,hw] at hst
     simp only [VI] at hst
     have Y:=wa Y (wa h21 (wa (aA h21) (Eq.symm hk1e)))
     refine wp (h:=aM ((by have hq:=ih k1 hk1 p (hCk k1 hk1) hp m hm;simp only [hw,Prf.c_eq,Cond.c_eq] at hq;unfold Types.d Types.c Host.d Host.c Mat.d Mat.c dLI dI at hq;exact hq)) wl ?_)
     refine wv (h:=?_)
     repeat first|intro _|refine ⟨eI,?_⟩
     refine wq (fun h24=>?_) fun h24=>?_
     ·rw [if_pos (by simpa using h24)] at hst
      refine wv (h:=?_)
      exact hQ _ _ (by simp [go_sem,Y,← hst,sR,tU,Prf.c_eq,qL,nH,f6,dLI,jH,mV])
     ·rw [if_neg (by simpa using h24)] at hst
      exact wp (h:=wx hI3 (i+1) ⟨wg,wn,wn,wj,(by (exact hst))⟩)
    ·rw [iE (by omega)] at hA
     simp only [rK,VI] at hA
     refine wv (h:=?_)
     exact hQ _ _ (by simp [go_sem,Y,← hA,sR,tU,Prf.c_eq,qL,nH,f6,dLI,jH,mV])
   ·have h19':c.kind≠4:=by simpa using h19
    rw [if_neg h19'] at hW
    refine d7 (fun h27=>?_) fun h27=>?_
    ·have h27':c.kind=5:=by simpa using h27
     obtain ⟨hE,hCk⟩:=hC.ex h27' hp
     have hl:0<c.kids.length:=by have:=hK1 (.inr h27');omega
     obtain ⟨k0,hk0e⟩:∃ k,k=c.kids[0]:=⟨_,rfl⟩
     have hk0:k0∈c.kids:=hk0e ▸ aB hl
     obtain ⟨X,hX⟩:∃ X,X=Cr t c.map c.pattern h m inj:=⟨_,rfl⟩
     have hXm:∀ x∈X.1,MatOk t c.pattern h x:=hX ▸ Tu hE ho hm
     rw [if_pos h27',IE hl,← hk0e,← hX] at hW
     have Y:=wa Y (wa (aA hl) (wa (Eq.symm hk0e) h27'))
     refine wv (h:=aC ((by have hq:=B5 t ht p c hE h ho m hm inj;rw [← hX,Cond.c_eq,h27'] at hq;unfold Types.d Types.c Host.d Host.c Mat.d Mat.c dLI dI at hq;exact hq)) wl ?_)
     refine d7 (fun h29=>?_) fun h29=>?_
     ·rw [if_pos (by simpa using h29)] at hW
      refine wv (h:=?_)
      exact hQ _ _ (by simp [go_sem,Y,hW,sR,tU,Prf.c_eq,qL,nH,f6,dLI,jH,mV])
     ·rw [if_neg (by simpa using h29)] at hW
      refine wv (h:=bG (fun i e H=>(e 5=.adr t.c∧e 6=.adr c.c∧e 7=.adr h.c∧e 8=.adr m.c∧e 4=.bool inj∧e 10=.ptr 0 1 0 0∧e 21=.list (X.1.map Mat.c)∧e 23=dI i)∧(H.get 0=some ⟨306,5,[[dI 0,.nil,.nil,.nil,.nil]],false⟩)∧(0<H.next)∧(i≤X.1.length)∧(VT ((X.1.drop i).map fun x=>(x,uI t h inj k0 x))=W)) (fun i=>X.1.length - i) 0 ⟨wg,wn,wn,wi,(by (exact hW.symm))⟩ fun I5 hI5 i e H hi5=>?_)
      obtain ⟨E5,g0_5,n0_5,hi,hA⟩:=hi5
      have Y:=wa Y (wa E5 (wa g0_5 (cG n0_5)))
      refine wv (h:=?_)
      repeat first|intro _|refine ⟨eI,?_⟩
      refine wq (fun h32=>?_) fun h32=>?_
      ·obtain ⟨wc,wm,wk,we,hw⟩:=At t h inj k0 X.1[i]
       have hst:=hA
       rw [FZ _ h32,hw] at hst
       simp only [VT] at hst
       have Y:=wa Y (wa h32 (aA h32))
       refine wp (h:=aM ((by have hq:=ih k0 hk0 c.pattern (hCk k0 hk0) hE.pq X.1[i] (hXm _ (aB h32));simp only [hw,Prf.c_eq,Cond.c_eq] at hq;unfold Types.d Types.c Host.d Host.c Mat.d Mat.c dLI dI at hq;exact hq)) wl ?_)
       refine wv (h:=?_)
       repeat first|intro _|refine ⟨eI,?_⟩
       refine wq (fun h35=>?_) fun h35=>?_
       ·rw [if_pos (by simpa using h35)] at hst
        refine wp (h:=?_)
        exact hQ _ _ (by simp [go_sem,Y,← hst,sR,tU,Prf.c_eq,qL,nH,f6,dLI,jH,mV])
       ·rw [if_neg (by simpa using h35)] at hst
        exact wp (h:=wx hI5 (i+1) ⟨wg,wn,wn,wj,(by (exact hst))⟩)
      ·rw [iE (by omega)] at hA
       simp only [rK,VT] at hA
       refine wv (h:=?_)
       exact hQ _ _ (by simp [go_sem,Y,← hA,sR,tU,Prf.c_eq,qL,nH,f6,dLI,jH,mV])
    ·have h27':c.kind≠5:=by simpa using h27
     rw [if_neg h27'] at hW
     refine wv (h:=?_)
     exact hQ _ _ (by simp [go_sem,Y,hW,sR,tU,Prf.c_eq,qL,nH,f6,dLI,jH,mV])
theorem Lo (t:Types)(ht:t.ok)(h:Host)(ho:HostOk t h)(inj:Bool)(c:Cond)(p:Pattern)(hC:CondV t p c)(hp:PatOk t p)(m:Mat)(hm:MatOk t p h m) :
  Pure Tryz.prog 170 [t.d,.agg c.c,h.d,m.d,.bool inj] (.tup [.bool (xD t h inj c m).1,dI (xD t h inj c m).2]):=by
 have hq:=Ll t ht h ho inj c p hC hp m hm
 rw [Cond.c_eq] at hq
 obtain ⟨wc,wm,wk,we,hw⟩:=At t h inj c m
 have hH:xD t h inj c m=if we=10 then (false,0) else (decide (we=0),we):=by unfold xD SU;rw [hw]
 simp only [hw,Prf.c_eq] at hq
 refine Tz.pK ⟨fun t=>t==12,fun _=>[]⟩ Tryz.func170 rfl (fun Q hQ=>?_)
 have Y:=wa @Cond.c_eq (wa @Host.d.eq_1 (wa @Host.c.eq_1 (wa @Mat.d.eq_1 (wa @Mat.c.eq_1 @Prf.c_eq))))
 refine wv (h:=aC ((by have hq:=hq;unfold Types.d Types.c Host.d Host.c Mat.d Mat.c dLI dI at hq;exact hq)) wl ?_)
 refine d7 (fun h2=>?_) fun h2=>?_
 ·rw [if_pos (by simpa using h2)] at hH
  exact wv (h:=hQ _ _ (by simp [go_sem,hH]))
 ·rw [if_neg (by simpa using h2)] at hH
  exact wv (h:=hQ _ _ (by simp [go_sem,hH,JY]))
theorem UL {l:List Int}{v:Int}(h:mem l v=true):0≤Ky l v∧(Ky l v).toNat<l.length∧l[(Ky l v).toNat]?=some v:=by
 obtain ⟨i,hi,he⟩:=aT ((dM l v).1 h)
 have h0:0≤Ky l v:=by simpa [mem] using h
 unfold Ky at h0 ⊢
 cases hf:l.findIdx? (fun x=>decide (x=v)) with
 | none=>rw [hf] at h0;simp at h0
 | some k =>
  rw [gU] at hf
  obtain ⟨hk,hv,_⟩:=hf
  simp only [decide_eq_true_eq] at hv
  exact ⟨by simp,by simpa using hk,by simp [hk,hv]⟩
theorem pY {f:Nat→Int}:∀ (n k:Nat),(∀ j,k≤j→j<k+n→f j=0)→b9 f k n=0
 | 0,k,_=>rfl
 | n+1,k,h=>by
  unfold b9
  rw [if_neg (by rw [h k (bQ _) (by omega)];simp)]
  exact pY n (k+1) fun j h1 h2=>h j (by omega) (by omega)
theorem SD {l:List Int}{n:Int}(h1:∀ x∈l,0≤x∧x<n)(h2:l.Pairwise (· < ·)):DY l n=0:=by
 refine pY _ _ fun j _ hj=>?_
 have hj':j<l.length:=by omega
 have hx:=h1 _ (aB hj')
 unfold Gs
 rw [aA hj',aD,if_neg (by omega),if_neg]
 rintro ⟨h0,hle⟩
 rw [aA (show j - 1<l.length by omega),aD] at hle
 have:=dZ.1 h2 (j - 1) j (by omega) hj' (by omega)
 omega
theorem SF {l:List Int}(h:l.Pairwise (· < ·))(h0:∀ x∈l,0≤x):∀ i (hi:i<l.length),(i:Int)≤l[i]
 | 0,hi=>by have:=h0 _ (aB hi);omega
 | i+1,hi=>by
  have h1:=SF h h0 i (by omega)
  have h2:=dZ.1 h i (i+1) (by omega) hi (by omega)
  omega
theorem w9 {α:Type}{f:α→Int}:∀ {l:List α},(∀ x∈l,f x=0)→dL f l=0
 | [],_=>rfl
 | x :: l,h=>by
  unfold dL
  rw [if_neg (by rw [h x (jE ..)];simp)]
  exact w9 fun y hy=>h y (eH _ hy)
def eA (g:Graph)(k:Int):Edge:=g.edges[k.toNat]?.getD bS
def iA (l:List Int)(k:Int):Int:=l[k.toNat]?.getD 0
theorem S0 {g:Graph}{p:Part}(hg:graphF g=0)(hn:∀ x∈p.nodes,0≤x∧x<g.nodes.length)(hns:p.nodes.Pairwise (· < ·))(he:∀ x∈p.edges,0≤x∧x<g.edges.length)(hes:p.edges.Pairwise (· < ·))
  (hends:∀ k∈p.edges,(eA g k).from_∈p.nodes∧(eA g k).to_∈p.nodes):subF g p=0:=by
 unfold subF pD
 rw [if_neg (by rw [hg];simp),if_neg (by rw [SD hn hns];simp),if_neg (by rw [SD he hes];simp)]
 refine w9 fun k hk=>?_
 have h1:=(dM _ _).2 (hends k hk).1
 have h2:=(dM _ _).2 (hends k hk).2
 unfold eA at h1 h2
 unfold xJ;rw [if_pos (by rw [h1,h2];rfl)]
theorem NZ (p:Nat→Bool)(n:Nat):(((List.range n).filter p).map fun (b:Nat)=>(b:Int)).Pairwise (· < ·):=by
 rw [List.pairwise_map]
 have h:((List.range n).filter p).Pairwise (· < ·):=List.Pairwise.filter _ List.pairwise_lt_range
 exact h.imp fun h=>by omega
theorem EW (p:Nat→Bool)(n:Nat)(x:Int):x∈(((List.range n).filter p).map fun (b:Nat)=>(b:Int))↔(0≤x∧x<n)∧p x.toNat=true:=by
 simp only [aU,cO,aZ]
 constructor
 ·rintro ⟨a,⟨h1,h2⟩,rfl⟩;exact ⟨by omega,by simpa using h2⟩
 ·rintro ⟨⟨h1,h2⟩,h3⟩;exact ⟨x.toNat,⟨by omega,h3⟩,by omega⟩
theorem l8 {l:List Int}{n:Nat}{x:Int}:x∈cZ l n↔(0≤x∧x<n)∧x∉l:=by
 unfold cZ
 rw [EW]
 constructor
 ·rintro ⟨h,h2⟩
  refine ⟨h,fun hm=>?_⟩
  rw [show ((x.toNat:Nat):Int)=x by omega,(dM l x).2 hm] at h2;cases h2
 ·rintro ⟨h,h2⟩
  refine ⟨h,?_⟩
  rw [show ((x.toNat:Nat):Int)=x by omega,cV,bO]
  exact fun hm=>h2 ((dM l x).1 hm)
theorem rX (l:List Int)(n:Nat):(cZ l n).Pairwise (· < ·):=NZ _ n
theorem Iq {a b:Graph}{m:Part}(h:eN a b m=0):(∀ i,i<a.nodes.length→jK a b m i=0)∧∀ k,k<a.edges.length→jL a b m k=0:=by
 obtain ⟨g1,g2,h3,h4⟩:=lX h
 have hM:eN a b m=(if b9 (jK a b m) 0 a.nodes.length≠0 then b9 (jK a b m) 0 a.nodes.length else b9 (jL a b m) 0 a.edges.length):=by
  unfold eN;rw [if_neg (by rw [g1];simp),if_neg (by rw [g2];simp),if_neg (by omega)]
 rw [hM] at h
 split at h
 ·rename_i q;exact absurd h q
 ·rename_i q
  exact ⟨fun i hi=>fI a.nodes.length 0 (show b9 (jK a b m) 0 a.nodes.length=0 by omega) i (by omega) (by omega),fun k hk=>fI a.edges.length 0 h k (by omega) (by omega)⟩
theorem N6 {a b:Graph}{m:Part}(h:eN a b m=0){i:Int}(h0:0≤i)(hi:i<a.nodes.length):(0≤iA m.nodes i∧iA m.nodes i<b.nodes.length)∧gN b (iA m.nodes i)=gN a i:=by
 have q:=(Iq h).1 i.toNat (by omega)
 unfold jK at q
 split at q
 ·cases q
 ·rename_i q1
  split at q
  ·cases q
  ·rename_i q2
   exact ⟨by unfold iA;omega,by unfold gN iA;simpa using q2⟩
theorem Fi {a b:Graph}{m:Part}(h:eN a b m=0){k:Int}(h0:0≤k)(hk:k<a.edges.length):(0≤iA m.edges k∧iA m.edges k<b.edges.length)∧(eA a k).type=(eA b (iA m.edges k)).type ∧
  iA m.nodes (eA a k).from_=(eA b (iA m.edges k)).from_∧iA m.nodes (eA a k).to_=(eA b (iA m.edges k)).to_:=by
 have q:=(Iq h).2 k.toNat (by omega)
 unfold jL at q
 split at q
 ·cases q
 ·rename_i q1
  split at q
  ·cases q
  ·rename_i q2
   split at q
   ·cases q
   ·rename_i q3
    unfold eA iA
    refine ⟨by omega,by simpa using q2,?_,?_⟩<;>exact bP fun hc=>q3 (by first|exact .inl hc|exact .inr hc)
theorem Px {g:Graph}(hg:graphF g=0){k:Int}(h0:0≤k)(hk:k<g.edges.length):(0≤(eA g k).from_∧(eA g k).from_<g.nodes.length)∧(0≤(eA g k).to_∧(eA g k).to_<g.nodes.length)∧0≤(eA g k).type∧(eA g k).type≤99:=by
 have hk':k.toNat<g.edges.length:=by omega
 have hx:=(eP hg).2 _ (aB hk')
 unfold eA
 rw [aA hk',aD]
 exact ⟨hx.2.1,hx.2.2,hx.1⟩
theorem Mp {im keep:List Int}(h:v6 im keep=[]){i k:Nat}(hik:i<k)(hk:k<im.length):Am im keep i k=false:=by
 rw [bO]
 intro hd
 have hm:(i,k)∈v6 im keep:=by
  unfold v6 J9
  rw [bU]
  refine ⟨i,aZ.2 (by omega),?_⟩
  unfold m5
  rw [aU]
  exact ⟨k - (i+1),cO.2 ⟨aZ.2 (by omega),by rw [show i+1+(k - (i+1))=k by omega];exact hd⟩,by simp;omega⟩
 rw [h] at hm;cases hm
theorem Mq {im keep:List Int}(h:v6 im keep=[]){i k:Nat}(hi:i<im.length)(hk:k<im.length)(hne:i≠k)(he:im[i]?.getD 0=im[k]?.getD 0):mem keep i=true∧mem keep k=true:=by
 rcases Nat.lt_or_gt_of_ne hne with hlt|hlt
 ·have:=Mp h hlt hk
  unfold Am at this;rw [he] at this;simpa using this
 ·have:=Mp h hlt hi
  unfold Am at this;rw [he] at this;simp at this;exact ⟨this.2,this.1⟩
theorem D9 {l g:Graph}{keep m:Part}(h:xM l g keep m=0):eN l g m=0∧subF l keep=0∧v6 m.nodes keep.nodes=[]∧v6 m.edges keep.edges=[]∧F3 g m.edges (iR m.nodes keep.nodes)=[]:=by
 unfold xM at h
 split at h
 ·rename_i q;exact absurd h q
 ·rename_i q
  have q':compG l g keep m=0:=by omega
  unfold compG at q'
  split at h
  ·cases h
  ·rename_i q2
   split at h
   ·cases h
   ·rename_i q3
    have q4:eN l g m=0∧subF l keep=0:=by
     split at q'
     ·rename_i q5;exact absurd q' q5
     ·rename_i q5;exact ⟨by omega,q'⟩
    exact ⟨q4.1,q4.2,bW (by omega),bW (by omega),bW (by omega)⟩
theorem Cm {im keep:List Int}(hd:v6 im keep=[]){j:Int}(h0:0≤j)(hj:j<im.length)(hk:j∈keep):iA im j∉iR im keep:=by
 intro hm
 obtain ⟨i,hi,hki,he⟩:=yG.1 hm
 have hne:i≠j.toNat:=by
  rintro rfl
  rw [show ((j.toNat:Nat):Int)=j by omega,(dM _ _).2 hk] at hki;cases hki
 have:=Mq hd hi (show j.toNat<im.length by omega) hne (by rw [he];rfl)
 rw [hki] at this;exact absurd this.1 (by simp)
theorem TC {l g:Graph}{keep m:Part}(h:xM l g keep m=0):subF g (Bw l g keep m)=0:=by
 obtain ⟨hm,hs,hd1,hd2,hda⟩:=D9 h
 unfold Bw;rw [if_pos h]
 obtain ⟨hgl,hg,hln,hle⟩:=lX hm
 refine S0 hg (fun x hx=>dQ hx) (rX _ _) (fun x hx=>dQ hx) (rX _ _) fun k hk=>?_
 obtain ⟨hkr,hkn⟩:=l8.1 hk
 have hen:=Px hg hkr.1 hkr.2
 by_cases hkm:k∈m.edges
 ·obtain ⟨i,hi,hik⟩:=aT hkm
  have hkeep:(i:Int)∈keep.edges:=by
   refine bP fun hc=>hkn (yG.2 ⟨i,hi,?_,?_⟩)
   ·rw [bO];exact fun h'=>hc ((dM _ _).1 h')
   ·rw [aA hi,hik]
  have hse:=BP hs i hkeep
  have hei:=Px (k:=(i:Int)) hgl (by omega) (by omega)
  have hme:=Fi (k:=(i:Int)) hm (by omega) (by omega)
  have hii:iA m.edges i=k:=by unfold iA;simp [hi,hik]
  rw [hii] at hme
  have g1:=Cm hd1 hei.1.1 (by omega) ((dM _ _).1 hse.1)
  have g2:=Cm hd1 hei.2.1.1 (by omega) ((dM _ _).1 hse.2)
  rw [hme.2.2.1] at g1
  rw [hme.2.2.2] at g2
  exact ⟨l8.2 ⟨hen.1,g1⟩,l8.2 ⟨hen.2.1,g2⟩⟩
 ·have hb:Ds g m.edges (iR m.nodes keep.nodes) k.toNat=false:=by
   rw [bO]
   intro hb
   have hmm:k∈F3 g m.edges (iR m.nodes keep.nodes):=by
    unfold F3;rw [EW];exact ⟨hkr,hb⟩
   rw [hda] at hmm;cases hmm
  unfold Ds at hb
  rw [show ((k.toNat:Nat):Int)=k by omega,show mem m.edges k=false by rw [bO];exact fun h'=>hkm ((dM _ _).1 h')] at hb
  simp only [p8,dU,Bool.or_eq_false_iff] at hb
  exact ⟨l8.2 ⟨hen.1,fun h'=>by have:=(dM _ _).2 h';unfold eA at this;rw [hb.1] at this;cases this⟩,l8.2 ⟨hen.2.1,fun h'=>by have:=(dM _ _).2 h';unfold eA at this;rw [hb.2] at this;cases this⟩⟩
theorem IF {g:Graph}(h1:g.nodes.length≤40)(h2:g.edges.length≤80)(hn:∀ a∈g.nodes,0≤a∧a≤99)
  (he:∀ x∈g.edges,(0≤x.type∧x.type≤99)∧(0≤x.from_∧x.from_<g.nodes.length)∧(0≤x.to_∧x.to_<g.nodes.length)):graphF g=0:=by
 unfold graphF
 rw [if_neg (by omega),if_neg,if_neg]
 ·rw [List.any_eq_true];rintro ⟨x,hx,hf⟩
  have h3:=he x hx
  have h4:sB x g.nodes.length=true:=by simp [sB,gF];omega
  rw [h4] at hf;cases hf
 ·rw [List.any_eq_true];rintro ⟨a,ha,hf⟩
  have h3:=hn a ha
  have h4:gF a 99=true:=by simp [gF];omega
  rw [h4] at hf;cases hf
theorem J6 {g:Graph}{n:Int}(h0:0≤n)(h:n<g.nodes.length):gN g n∈g.nodes:=by
 unfold gN;rw [aA (show n.toNat<g.nodes.length by omega),aD];exact aB _
theorem U3 {g:Graph}{n:Int}(h0:0≤n)(h:n<g.edges.length):eA g n∈g.edges:=by
 unfold eA;rw [aA (show n.toNat<g.edges.length by omega),aD];exact aB _
theorem SE {l:List Int}{n:Nat}(h:l.Pairwise (· < ·))(hr:∀ x∈l,0≤x∧x<n):l.length≤n:=by
 rcases CS l.length with h1|h1
 ·omega
 ·have h2:=SF h (fun x hx=>(hr x hx).1) (l.length - 1) (by omega)
  have h3:=hr _ (aB (show l.length - 1<l.length by omega))
  omega
theorem RH {l:List Int}(hs:l.Pairwise (· < ·)){v:Int}(hv:v∈l):vY l v<l.length∧iA l (vY l v)=v∧Ky l v=vY l v:=by
 have hm:=(dM l v).2 hv
 have h1:=FH hs hm
 obtain ⟨h2,h3,h4⟩:=UL hm
 rw [h1] at h2 h3 h4
 refine ⟨by simpa using h3,?_,h1⟩
 unfold iA;rw [h4];rfl
theorem Rp {g:Graph}{p:Part}(h:subF g p=0){k:Int}(hk:k∈p.edges):(eA g k).from_∈p.nodes∧(eA g k).to_∈p.nodes:=by
 have:=BP h k hk
 exact ⟨(dM _ _).1 this.1,(dM _ _).1 this.2⟩
theorem UZ (g:Graph)(p:Part)(k:Int):gEd g p k=⟨(eA g k).type,vY p.nodes (eA g k).from_,vY p.nodes (eA g k).to_⟩:=rfl
theorem UG {α β:Type}(f:α→β)(l:List α)(d:α)(e:β){i:Nat}(h:i<l.length):((l.map f)[i]?).getD e=f ((l[i]?).getD d):=by simp [h]
theorem J8 {g:Graph}{p:Part}(h:subF g p=0){i:Int}(h0:0≤i)(hi:i<p.nodes.length):gN (cM g p) i=gN g (iA p.nodes i):=by
 unfold cM;rw [if_pos h]
 exact UG (gN g) p.nodes 0 0 (by omega)
structure RuleV (t:Types) (r:Rule):Prop where
 vf:(cW t).2=0
 pl:PatOk t r.left
 gr:graphF r.right.graph=0
 tr:iT t r.right.graph=true
 sub:subF r.left.graph r.keep=0
 mo:eN (cM r.left.graph r.keep) r.right.graph r.into=0
 inj:He (cM r.left.graph r.keep) r.right.graph r.into=true
 mkb:zF t r.right.graph r.freshN r.freshE=true
 vars:r.right.vars=r.left.vars
 few:r.right.slots.length≤10
 slot:∀ s∈r.right.slots,fS t r.right s=0
 cond:CondV t r.left r.cond
 kl:r.keep.nodes.length≤1000000∧r.keep.edges.length≤1000000
theorem We {t:Types}{r:Rule}(hr:r.ok)(h:ruleF t r=0):RuleV t r:=by
 unfold ruleF at h
 split at h
 ·rename_i h1;exact absurd h h1
 ·rename_i h1
  split at h
  ·cases h
  ·split at h
   ·rename_i h3;exact absurd h h3
   ·rename_i h3
    split at h
    ·rename_i h4;exact absurd h h4
    ·rename_i h4
     split at h
     ·rename_i h5;exact absurd h h5
     ·rename_i h5
      split at h
      ·cases h
      ·rename_i h6
       rw [fV] at h1 h3 h4 h5
       have hR:=yC h4
       unfold gS at h4
       rw [if_neg (by omega),if_neg (by simp [hR.2])] at h4
       split at h4
       ·cases h4
       ·rename_i h7
        split at h4
        ·cases h4
        ·rename_i h8
         have hk:subF r.left.graph r.keep=0∧eN (cM r.left.graph r.keep) r.right.graph r.into=0∧He (cM r.left.graph r.keep) r.right.graph r.into=true:=by
          unfold keptF at h5
          split at h5
          ·rename_i q;exact absurd h5 q
          ·rename_i q
           split at h5
           ·rename_i q2;exact absurd h5 q2
           ·rename_i q2
            split at h5
            ·cases h5
            ·rename_i q3;exact ⟨by omega,by omega,by simpa using q3⟩
         unfold condF at h
         rw [if_neg (by omega)] at h
         split at h
         ·rename_i q;exact absurd h q
         ·rename_i h9
          refine ⟨h1,LK (.inr h3),hR.1,hR.2,hk.1,hk.2.1,hk.2.2,by simpa using h6,by omega,by omega,fun s hs=>?_,⟨?_,h,hr.size⟩,hr.k1,hr.k2⟩
          ·obtain ⟨i,hi,rfl⟩:=aT hs
           have:=fI _ _ h4 i (dY _) (by omega)
           rw [BR hi] at this
           split at this
           ·cases this
           ·rename_i q;exact fV.1 q
          ·rw [fV] at h9
           unfold qE at h9
           split at h9
           ·cases h9
           ·rename_i q;simpa using q
theorem RuleV.keep {t:Types}{r:Rule}(h:RuleV t r):(r.keep.nodes.length=r.into.nodes.length∧r.keep.edges.length=r.into.edges.length)∧(∀ x∈r.keep.nodes,0≤x∧x<r.left.graph.nodes.length)∧(∀ x∈r.keep.edges,0≤x∧x<r.left.graph.edges.length) ∧
  (∀ x∈r.into.nodes,0≤x∧x<r.right.graph.nodes.length)∧∀ x∈r.into.edges,0≤x∧x<r.right.graph.edges.length:=by
 obtain ⟨h1,h2,h3,h4⟩:=x9 h.sub
 obtain ⟨_,_,h5,h6⟩:=lX h.mo
 obtain ⟨h7,h8⟩:=Ca h.mo
 have e1:(cM r.left.graph r.keep).nodes.length=r.keep.nodes.length:=by unfold cM;rw [if_pos h.sub];simp
 have e2:(cM r.left.graph r.keep).edges.length=r.keep.edges.length:=by unfold cM;rw [if_pos h.sub];simp
 exact ⟨⟨by omega,by omega⟩,h3,h4,h7,h8⟩
theorem RuleV.slots {t:Types}{r:Rule}(h:RuleV t r):∀ s∈r.right.slots,(0≤s.node∧s.node<r.right.graph.nodes.length)∧(0≤s.attr∧s.attr<(b7 t (r.right.graph.nodes[s.node.toNat]?.getD 0)).length)∧s8 s.term r.left.vars.toNat:=fun s hs=>by
 have:=h.slot s hs
 have hv:=h.pl.vars
 have he:=h.vars
 unfold fS at this
 split at this
 ·rename_i h1
  simp only [aL,jR,decide_eq_true_eq,inF,Pattern.kind] at h1
  exact ⟨h1.1.1.1,⟨h1.1.1.2.1,of_decide_eq_true h1.1.1.2.2⟩,⟨by omega,by omega⟩,by omega,by omega⟩
 ·cases this
theorem C3 (t:Types)(ht:t.ok)(r:Rule)(hr:r.ok)(h:Host):Pure Tryz.prog 65 [t.d,r.d,h.d] (dI (lV t r h)):=by
 refine Tz.pK ⟨fun _=>false,fun _=>[]⟩ Tryz.func65 rfl (fun Q hQ=>?_)
 have Y:=wa @Host.d.eq_1 @Host.c.eq_1
 refine wv (h:=aC (rO t ht r hr) wl ?_)
 refine d7 (fun h2=>?_) fun h2=>?_
 ·exact wv (h:=hQ _ _ (by simp [go_sem,lV,h2]))
 ·refine wv (h:=aC (wU t ht h) wl ?_)
  exact wv (h:=hQ _ _ (by simp [go_sem,lV,h2,lH]))
theorem q6 (l:List Int)(k:Nat)(v:Int):j6 l (k+1) v=if l[k]?.getD (-1)=v then (k:Int) else j6 l k v:=by unfold j6;rw [fL]
theorem MR (l:List Int)(v:Int):∀ n,-1≤j6 l n v∧j6 l n v<n
 | 0=>by simp [j6]
 | n+1=>by
  have:=MR l v n
  rw [q6];split<;>omega
theorem OR (l:List Int)(v:Nat):kF l (v+1)=kF l v++[j6 l l.length v]:=by simp [kF,bL]
theorem uD (l:List Int)(v:Nat):(kF l v).length=v:=by simp [kF]
theorem I7 (l:List Int){n i:Nat}(h:i<n):(kF l n)[i]?=some (j6 l l.length i):=by simp [kF,h]
theorem ER (l:List Int)(n:Nat)(hn:n≤1000000):Pure Tryz.prog 173 [dLI l,dI n] (dLI (kF l n)):=by
 refine Tz.pK ⟨fun t=>t==5,fun _=>[]⟩ Tryz.func173 rfl (fun Q hQ=>?_)
 have Y:=trivial
 refine wv (h:=bG (fun v e H=>(e 0=dLI l∧e 1=dI n∧e 5=.own 0 v∧e 6=dI v)∧(H.get 0=some ⟨3,1,(kF l v).map cI,false⟩)∧(0<H.next)∧(v≤n)) (fun v=>n - v) 0 ⟨wg,(by (simp [go_sem,kF])),wn,wi⟩ fun I0 hI0 v e H hi0=>?_)
 obtain ⟨E0,g0_0,n0_0,hv⟩:=hi0
 have Y:=wa Y (wa E0 (wa g0_0 (cG n0_0)))
 refine d7 (fun h3=>?_) fun h3=>?_
 ·have hbl:=uD l v
  have Y:=wa Y h3
  refine wp (h:=bG (fun k e H=>∃ B:List Int,(e 0=dLI l∧e 1=dI n∧e 5=.own 0 (v+1)∧e 6=dI v∧e 7=dI k)∧(H.get 0=some ⟨3,1,B.map cI,false⟩)∧(0<H.next)∧(k≤l.length)∧(B=kF l v++[j6 l k v])∧(B.length=v+1)) (fun k=>l.length - k) 0 ⟨(kF l v++[-1]),wg,(by (simp [go_sem,Y,cI])),wn,wi,(by rfl),(by (simp [hbl]))⟩ fun I2 hI2 k e H hi2=>?_)
  obtain ⟨B,E2,g0_2,n0_2,hk,hB,hBl⟩:=hi2
  have Y:=wa Y (wa E2 (wa g0_2 (wa (cG n0_2) hBl)))
  refine wv (h:=?_)
  repeat first|intro _|refine ⟨eI,?_⟩
  refine wq (fun h7=>?_) fun h7=>?_
  ·have hvB:v<B.length:=by omega
   have Y:=wa Y (wa h7 (wa (aA h7) (aA hvB)))
   refine wv (h:=?_)
   repeat first|intro _|refine ⟨eI,?_⟩
   refine wq (fun h9=>?_) fun h9=>?_
   ·obtain ⟨B2,hB2⟩:∃ y,y=B.set v (k:Int):=⟨_,rfl⟩
    have hm:B2.map cI=(B.map cI).set v (cI k):=by rw [hB2,cK]
    have hB3:B.set v (k:Int)=kF l v++[j6 l (k+1) v]:=by
     rw [q6,aA h7,aD,if_pos (by omega),hB,oE _ _ (by omega),hbl,Nat.sub_self];rfl
    have Y:=wa Y (wa hm @cI.eq_1)
    exact wp (h:=wx hI2 (k+1) ⟨B2,wg,(by (simp [go_sem,Y])),wn,wj,(by (rw [hB2];exact hB3)),(by (rw [hB2];simp [hBl]))⟩)
   ·obtain ⟨B2,hB2⟩:∃ y,y=B:=⟨_,rfl⟩
    have hB3:B=kF l v++[j6 l (k+1) v]:=by
     rw [q6,aA h7,aD,if_neg (by omega)];exact hB
    have Y:=wa Y hB2
    exact wp (h:=wx hI2 (k+1) ⟨B2,wg,(by (simp [go_sem,Y])),wn,wj,(by (rw [hB2];exact hB3)),(by (rw [hB2];simp [hBl]))⟩)
  ·have hBe:B.map cI=(kF l v).map cI++[cI (j6 l l.length v)]:=by rw [hB,show k=l.length by omega];simp
   exact wp (h:=wx hI0 (v+1) ⟨wg,(by (simp [go_sem,Y,OR,hBe])),wn,wj⟩)
 ·have hve:v=n:=by omega
  exact wv (h:=hQ _ _ (by simp [go_sem,Y,hve,dLI,uD]))
theorem AK (l:List Int)(n:Nat)(hn:n≤1000000):Pure Tryz.prog 172 [dI n,dLI l] (dLI (kF l n)):=by
 refine Tz.pK ⟨fun _=>false,fun _=>[]⟩ Tryz.func172 rfl (fun Q hQ=>?_)
 have Y:=trivial
 refine wv (h:=aC (ER l n hn) wl ?_)
 exact wv (h:=hQ _ _ wy)
theorem GZ (t:Types)(ht:t.ok)(h:Host)(p:Part)(hl:p.nodes.length≤1000000)(hle:p.edges.length≤1000000)(hn:h.graph.nodes.length≤1000000)(he:h.graph.edges.length≤1000000) :
  Pure Tryz.prog 83 [t.d,h.d,p.d] (.tup [(SR t h p).d,Part.d ⟨kF p.nodes h.graph.nodes.length,kF p.edges h.graph.edges.length⟩]):=by
 refine Tz.pK ⟨fun t=>t==6||t==7||t==8,fun _=>[]⟩ Tryz.func83 rfl (fun Q hQ=>?_)
 have Y:=wa @Host.d.eq_1 (wa @Host.c.eq_1 (wa @Part.d.eq_1 @Part.c.eq_1))
 refine wv (h:=aC (G7 t ht h p hl hle) wl ?_)
 refine wp (h:=aM (AK p.nodes h.graph.nodes.length hn) wl ?_)
 refine wp (h:=aM (AK p.edges h.graph.edges.length he) wl ?_)
 exact wp (h:=hQ _ _ wy)
theorem y7 (l:List Int)(n:Int):Pure Tryz.prog 174 [dLI l,dI n] (.bool (!mem l n)):=by
 refine Tz.pK ⟨fun _=>false,fun _=>[]⟩ Tryz.func174 rfl (fun Q hQ=>?_)
 have Y:=trivial
 refine wv (h:=bG (fun i e H=>(e 0=dLI l∧e 1=dI n∧e 5=dI i)∧(i≤l.length)∧(∀ j,j<i→∀ hj:j<l.length,l[j]≠n)) (fun i=>l.length - i) 0 ⟨wg,wi,(by (intro j hj;omega))⟩ fun I0 hI0 i e H hi0=>?_)
 obtain ⟨E0,hi,hN⟩:=hi0
 have Y:=wa Y E0
 refine wv (h:=?_)
 repeat first|intro _|refine ⟨d8,?_⟩
 refine wq (fun h2=>?_) fun h2=>?_
 ·have Y:=wa Y (wa h2 (aA h2))
  refine wv (h:=?_)
  repeat first|intro _|refine ⟨d8,?_⟩
  refine wq (fun h4=>?_) fun h4=>?_
  ·have hm:mem l n=true:=(dM _ _).2 (h4 ▸ aB h2)
   exact wv (h:=hQ _ _ (by simp [go_sem,hm]))
  ·exact wo (h:=wx hI0 (i+1) ⟨wg,wj,(by (intro j hj hjl;rcases b8 j i with hji|hji;exact hN j hji hjl;(obtain rfl:j=i:=(by omega);exact h4)))⟩)
 ·have hm:mem l n=false:=by
   rw [bO];intro hm
   obtain ⟨j,hj,he⟩:=aT ((dM _ _).1 hm)
   exact hN j (by omega) hj he
  exact wv (h:=hQ _ _ (by simp [go_sem,hm]))
theorem wR (im tr:List Int)(hl:im.length≤1000000)(hi:∀ x∈im,0≤x∧x<tr.length):Pure Tryz.prog 84 [dLI im,dLI tr] (dLI (Ea im tr)):=by
 refine Tz.pK ⟨fun t=>t==5,fun _=>[]⟩ Tryz.func84 rfl (fun Q hQ=>?_)
 have Y:=trivial
 refine wv (h:=bG (fun i e H=>(e 0=dLI im∧e 1=dLI tr∧e 5=.own 0 i∧e 6=dI i)∧(H.get 0=some ⟨3,1,(Ea (im.take i) tr).map cI,false⟩)∧(0<H.next)∧(i≤im.length)) (fun i=>im.length - i) 0 ⟨wg,(by (simp [go_sem,Ea])),wn,wi⟩ fun I0 hI0 i e H hi0=>?_)
 obtain ⟨E0,g0_0,n0_0,hii⟩:=hi0
 have Y:=wa Y (wa E0 (wa g0_0 (cG n0_0)))
 refine pH (fun h3=>?_) fun h3=>?_
 ·have hx:=hi _ (aB h3)
  have hk:im[i].toNat<tr.length:=by omega
  have hSt:Ea (im.take (i+1)) tr=Ea (im.take i) tr++[tr[im[i].toNat]]:=by unfold Ea;rw [aF h3,List.map_append];simp [aA hk]
  have hal:(Ea (im.take i) tr).length=i:=by simp [Ea];omega
  have Y:=wa Y (wa h3 (wa (aA h3) (wa (aA hk) hal)))
  exact wp (h:=wx hI0 (i+1) ⟨wg,(by (simp [go_sem,Y,hSt,cI])),wn,wj⟩)
 ·rw [aI (by omega)] at g0_0
  have hie:i=im.length:=by omega
  have hal:(Ea im tr).length=im.length:=by simp [Ea]
  exact wv (h:=hQ _ _ (by simp [go_sem,Y,hie,hal,dLI]))
theorem Qs (into:List Int)(i:Nat):Fh into (i+1)=Fh into i+if j6 into into.length i<0 then 1 else 0:=by
 unfold Fh;rw [bL,eY,aG]
 congr 1
 simp only [HC,List.filter_nil]
 split<;>simp_all
theorem Qr (into:List Int):Fh into 0=0:=rfl
theorem Tc (into:List Int)(i:Nat):Fh into i≤i:=by
 unfold Fh;exact cN (kJ _ _) (by simp)
theorem My (keep into at_:List Int)(i remain:Nat):Na keep into at_ (i+1) remain=Na keep into at_ i remain++[Ss keep into at_ remain i]:=by simp [Na,bL]
theorem y8 (keep into at_:List Int)(right remain:Nat)(k1:into.length≤keep.length)(k2:∀ x∈keep,0≤x∧x<at_.length)(k3:right≤1000000)(k4:remain≤1000000) :
  Pure Tryz.prog 85 [dLI keep,dLI into,dI right,dLI at_,dI remain] (dLI (Na keep into at_ right remain)):=by
 refine Tz.pK ⟨fun t=>t==12,fun _=>[]⟩ Tryz.func85 rfl (fun Q hQ=>?_)
 have Y:=@Qr
 refine wv (h:=aC (ER into right k3) wl ?_)
 refine wv (h:=bG (fun i e H=>(e 0=dLI keep∧e 1=dLI into∧e 2=dI right∧e 3=dLI at_∧e 4=dI ((remain+Fh into i:Nat):Int)∧e 11=dLI (kF into right)∧e 12=.own 0 i∧e 13=dI i)∧(H.get 0=some ⟨3,1,(Na keep into at_ i remain).map cI,false⟩)∧(0<H.next)∧(i≤right)) (fun i=>right - i) 0 ⟨wg,(by (simp [go_sem,Na])),wn,wi⟩ fun I0 hI0 i e H hi0=>?_)
 obtain ⟨E0,g0_0,n0_0,hi⟩:=hi0
 have Y:=wa Y (wa E0 (wa g0_0 (cG n0_0)))
 refine d7 (fun h4=>?_) fun h4=>?_
 ·have hg:=I7 into (n:=right) (i:=i) (by omega)
  have hb:=MR into i into.length
  have hbl:=uD into right
  have hnc:=Qs into i
  have hnl:=Tc into i
  have hcl:(Na keep into at_ i remain).length=i:=by simp [Na]
  have hg2:(kF into right)[i]'(by omega)=j6 into into.length i:=by simp [kF]
  have Y:=wa Y (wa h4 (wa hg (wa hg2 (wa hbl hcl))))
  refine pH (fun h6=>?_) fun h6=>?_
  ·have hb2:(j6 into into.length i).toNat<keep.length:=by omega
   have hx:=k2 _ (aB hb2)
   have hk:keep[(j6 into into.length i).toNat].toNat<at_.length:=by omega
   have hC:Ss keep into at_ remain i=at_[keep[(j6 into into.length i).toNat].toNat]:=by unfold Ss;rw [if_pos (by omega),aA hb2,aD,aA hk];rfl
   rw [if_neg (by omega)] at hnc
   have Y:=wa Y (wa (aA hb2) (wa (aA hk) hnc))
   exact wp (h:=wx hI0 (i+1) ⟨wg,(by (simp [go_sem,Y,My,hC,cI])),wn,wj⟩)
  ·have hC:Ss keep into at_ remain i=((remain+Fh into i:Nat):Int):=by unfold Ss;rw [if_neg (by omega)]
   rw [if_pos (by omega)] at hnc
   have Y:=wa Y hnc
   exact wp (h:=wx hI0 (i+1) ⟨wg,(by (simp [go_sem,Y,My,hC,cI])),wn,wj⟩)
 ·have hie:i=right:=by omega
  exact wv (h:=hQ _ _ (by simp [go_sem,Y,hie,dLI];simp [Na]))
theorem ET (a b:List Int):Pure Tryz.prog 80 [dLI a,dLI b] (.bool (decide (a=b))):=by
 refine Tz.pK ⟨fun _=>false,fun _=>[]⟩ Tryz.func80 rfl (fun Q hQ=>?_)
 have Y:=trivial
 refine wv (h:=?_)
 repeat first|intro _|refine ⟨d8,?_⟩
 refine wq (fun h1=>?_) fun h1=>?_
 ·refine wv (h:=?_)
  have hne:a≠b:=by intro h;subst h;omega
  exact hQ _ _ (by simp [go_sem,hne])
 ·refine wv (h:=bG (fun i e H=>(e 0=dLI a∧e 1=dLI b∧e 5=dI i)∧(i≤a.length)∧(a.take i=b.take i)) (fun i=>a.length - i) 0 ⟨wg,wi,(by rfl)⟩ fun I0 hI0 i e H hi0=>?_)
  obtain ⟨E0,hi,he⟩:=hi0
  have Y:=wa Y E0
  refine wv (h:=?_)
  repeat first|intro _|refine ⟨d8,?_⟩
  refine wq (fun h4=>?_) fun h4=>?_
  ·have hib:i<b.length:=by omega
   have Y:=wa Y (wa h4 hib)
   refine wv (h:=?_)
   repeat first|intro _|refine ⟨d8,?_⟩
   refine wq (fun h6=>?_) fun h6=>?_
   ·refine wv (h:=?_)
    have hne:a≠b:=by intro h;subst h;exact h6 rfl
    exact hQ _ _ (by simp [go_sem,hne])
   ·exact wo (h:=wx hI0 (i+1) ⟨wg,wj,(by (rw [aF h4,aF hib,he,h6]))⟩)
  ·rw [aI (by omega),aI (by omega)] at he
   exact wv (h:=hQ _ _ (by simp [go_sem,he]))
def tN (t:Types)(r:Rule)(h:Host)(m:Mat):Part:=if yU t r h m=0 then dD r h m else ⟨[],[]⟩
theorem HN {t:Types}{p:Pattern}{h:Host}{m:Part}(h0:(jT t p h m).2=0):PatOk t p∧HostOk t h∧m9 t p.graph h.graph m false=0∧jT t p h m=fX p h m []:=by
 unfold jT at h0 ⊢
 split at h0
 ·exact absurd h0 (by assumption)
 ·rename_i h1
  split at h0
  ·exact absurd h0 (by assumption)
  ·rename_i h2
   split at h0
   ·exact absurd h0 (by assumption)
   ·rename_i h3
    rw [fV] at h1 h2 h3
    rw [if_neg (by omega),if_neg (by omega),if_neg (by omega)]
    exact ⟨LK (.inr h1),Ck h2,h3,rfl⟩
theorem EJ (t:Types)(ht:t.ok)(r:Rule)(hR:RuleV t r)(h:Host)(ho:HostOk t h)(m:Mat) :
  Pure Tryz.prog 82 [t.d,r.d,h.d,m.d] (.tup [(tN t r h m).d,dI (nK t r h m)]):=by
 refine Tz.pK ⟨fun t=>t==8||t==12||t==13,fun _=>[]⟩ Tryz.func82 rfl (fun Q hQ=>?_)
 have Y:=wa @Host.d.eq_1 (wa @Host.c.eq_1 (wa @Mat.d.eq_1 @Mat.c.eq_1))
 refine wv (h:=aC (wT t ht r.left.graph h.graph m.m r.inj) wl ?_)
 refine d7 (fun h1=>?_) fun h1=>?_
 ·have hP:yU t r h m=1:=by unfold yU;rw [if_pos (by simpa using h1)]
  have hE:nK t r h m=1:=by unfold nK;rw [if_pos (by omega),hP]
  have hD:tN t r h m=⟨[],[]⟩:=by unfold tN;rw [if_neg (by omega)]
  exact wv (h:=hQ _ _ (by simp [go_sem,hE,hD,Part.d,Part.c,dLI]))
 ·have hc:m9 t r.left.graph h.graph m.m r.inj=0:=by simpa using h1
  refine wv (h:=aC (Lp t ht r.left h m.m) wl ?_)
  refine d7 (fun h4=>?_) fun h4=>?_
  ·have hP:yU t r h m=(jT t r.left h m.m).2:=by unfold yU;rw [if_neg (by omega),if_pos h4]
   have hE:nK t r h m=(jT t r.left h m.m).2:=by unfold nK;rw [if_pos (by omega),hP]
   have hD:tN t r h m=⟨[],[]⟩:=by unfold tN;rw [if_neg (by omega)]
   exact wv (h:=hQ _ _ (by simp [go_sem,hE,hD,Part.d,Part.c,dLI]))
  ·obtain ⟨hso1,hso2,hso3,hso4⟩:=HN (by simpa using h4)
   have hmo:=z2 (yM hc).2
   refine wp (h:=aC (ET (jT t r.left h m.m).1 m.vars) wl ?_)
   refine pH (fun h6=>?_) fun h6=>?_
   ·have h6':(jT t r.left h m.m).1≠m.vars:=by simpa using h6
    have hP:yU t r h m=11:=by unfold yU;rw [if_neg (by omega),if_neg (by omega),if_pos h6']
    have hE:nK t r h m=11:=by unfold nK;rw [if_pos (by omega),hP]
    have hD:tN t r h m=⟨[],[]⟩:=by unfold tN;rw [if_neg (by omega)]
    exact wv (h:=hQ _ _ (by simp [go_sem,hE,hD,Part.d,Part.c,dLI]))
   ·have h6':(jT t r.left h m.m).1=m.vars:=by simpa using h6
    have hin:Oh t r.left.graph h.graph m.m=vL r.left.graph h.graph m.m:=by unfold Oh;rw [if_pos hso3]
    have hP:yU t r h m=xM (vL r.left.graph h.graph m.m) h.graph r.keep m.m:=by unfold yU;rw [if_neg (by omega),if_neg (by omega),if_neg (by rw [h6'];simp)]
    have hK:=hR.keep
    have hgl:=bZ hR.pl.gg
    have hgh:=bZ ho.gg
    have hml:=hmo.len
    have hme:=hmo.elen
    have hkl:=hR.kl.1
    have hMat:MatOk t r.left h m:=by
     rw [hso4] at h6'
     have hz:(fX r.left h m.m []).2=0:=by rw [← hso4];simpa using h4
     obtain ⟨a1,a2⟩:=zT (Vt hR.pl ho hmo) (vs:=[]) (by simp) (by simp) hz
     rw [h6'] at a1 a2
     exact ⟨hmo,a1,a2⟩
    have Y:=wa Y (wa hin hso3)
    refine wv (h:=aC (EN t ht r.left.graph h.graph m.m) wl ?_)
    refine wv (h:=aC (RF (vL r.left.graph h.graph m.m) h.graph r.keep m.m (by omega) (by omega) (by omega) (by omega) (by omega)) wl ?_)
    refine d7 (fun h12=>?_) fun h12=>?_
    ·have hE:nK t r h m=xM (vL r.left.graph h.graph m.m) h.graph r.keep m.m:=by unfold nK;rw [if_pos (by omega),hP]
     have hD:tN t r h m=⟨[],[]⟩:=by unfold tN;rw [if_neg (by omega)]
     exact wv (h:=hQ _ _ (by simp [go_sem,hE,hD,Part.d,Part.c,dLI]))
    ·have hD:tN t r h m=dD r h m:=by unfold tN;rw [if_pos (by omega)]
     have hE0:nK t r h m=if (xD t h r.inj r.cond m).2≠0 then (xD t h r.inj r.cond m).2 else if (xD t h r.inj r.cond m).1=false then 16 else 0:=by unfold nK;rw [if_neg (by omega)]
     refine wv (h:=aC ((by have hq:=Lo t ht h ho r.inj r.cond r.left hR.cond hR.pl m hMat;rwa [Cond.c_eq] at hq)) wl ?_)
     refine pH (fun h15=>?_) fun h15=>?_
     ·rw [if_neg (by rw [h15.1];simp),if_pos h15.2] at hE0
      exact wv (h:=hQ _ _ (by simp [go_sem,Y,hE0,hD,dD]))
     ·have hE2:nK t r h m=(xD t h r.inj r.cond m).2:=by
       rw [hE0];split
       ·rfl
       ·rename_i hz;rw [fV] at hz;simp [hz] at h15;simp [hz,h15]
      exact wv (h:=hQ _ _ (by simp [go_sem,Y,hE2,hD,dD]))
end Go.Abs
end
