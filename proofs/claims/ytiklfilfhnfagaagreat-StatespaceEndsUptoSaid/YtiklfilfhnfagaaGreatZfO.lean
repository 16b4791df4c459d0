/- Values of a match, Solve, Matches of the program. · slices.R -/
import Derived.Test.YtiklfilfhnfagaaGreatZfG
import Derived.Test.YtiklfilfhnfagaaGreatZfA
import Derived.Test.YtiklfilfhnfagaaGreatZfM
import Derived.Test.YtiklfilfhnfagaaGreatZfN
import Derived.Test.YtiklfilfhnfagaaGreatZfJ
import Derived.Shelf.Spec.SlicesInsert
import Derived.Lib.AppendZerosOnto
import Derived.Shelf.Bits.Mul64
import Derived.Deep.OwnRows
import Derived.Laws.NewBlocks
import Derived.Laws.CopyOwn
set_option linter.unusedVariables false
set_option linter.unusedSimpArgs false
section
set_option maxRecDepth 100000
set_option maxHeartbeats 4000000
open Go Go.Proofs
namespace Go.Abs
theorem vM (p:Pattern)(h:Host)(m:Part)(hO:SOk p h m):Pure Tryz.prog 106 [p.d,h.d,m.d] (.tup [dLI (gH p h m []).1,dI (gH p h m []).2]):=by
 have hv:=hO.vars
 have h0:=Qe (vs:=[]) hv.1 (by simp) (by simp)
 rw [Nd] at h0
 refine Tz.pK ⟨fun t=>t==11||t==15,fun r=>match r with|1=>[(2,3),(2,4),(0,5),(1,5),(2,5)]|_=>[]⟩ Tryz.func106 rfl (fun Q hQ=>?_)
 have Y:=wa @Pattern.d.eq_1 (wa @Pattern.c.eq_1 (wa @Host.d.eq_1 (wa @Host.c.eq_1 (wa @Part.d.eq_1 (wa @Part.c.eq_1 @Term.c.eq_1)))))
 refine wv (h:=?_)
 repeat first|intro _|refine ⟨fT,?_⟩
 refine cD (fun i e H=>∃ st:List Int × List Bool,(e 3=.adr p.c∧e 4=.adr h.c∧e 5=.adr m.c∧e 8=.own 2 p.vars.toNat∧e 9=.own 5 p.vars.toNat∧e 23=.list (p.slots.map Slot.c)∧e 24=dI p.slots.length∧e 25=dI i)∧(H.get 2=some ⟨3,1,st.1.map cI,false⟩)∧(2<H.next)∧(H.get 5=some ⟨4,1,st.2.map cB,false⟩)∧(5<H.next)∧(i≤p.slots.length)∧(StOk p.vars.toNat st)∧(i7 h m (LS p []) (p.slots.take i)=some st)) (fun i=>p.slots.length - i) 0 ⟨((List.replicate p.vars.toNat 0,List.replicate p.vars.toNat false)),wg,(by (simp [go_sem,cI])),wn,(by (simp [go_sem,cB])),wn,wi,(by exact h0),(by (rw [Nd];rfl))⟩ fun I0 hI0 i e H hi0=>?_
 obtain ⟨st,E0,g2_0,n2_0,g5_0,n5_0,hi,hst,hsl⟩:=hi0
 have Y:=wa Y (wa E0 (wa g2_0 (wa (cO n2_0) (wa g5_0 (cO n5_0)))))
 refine dU (fun h3=>?_) fun h3=>?_
 ·obtain ⟨x,hx⟩:∃ x,x=p.slots[i]:=⟨_,rfl⟩
  have hxm:x∈p.slots:=hx ▸ aC h3
  have hn:=hO.node x hxm
  have hn2:x.node.toNat<m.nodes.length:=by omega
  have hk:=hO.img _ (aC hn2)
  have hk2:(m.nodes[x.node.toNat]).toNat<h.values.length:=by omega
  have ha:=hO.attr x hxm
  rw [aA hn2,aF,aA hk2,aF] at ha
  have ha2:x.attr.toNat<(h.values[(m.nodes[x.node.toNat]).toNat]).length:=by omega
  have hV:oF h m x=h.values[(m.nodes[x.node.toNat]).toNat][x.attr.toNat]:=by unfold oF;rw [aA hn2,aF,aA hk2,aF,aA ha2];rfl
  have hb:=hO.have_ hxm
  have hT:=hO.term x hxm
  have hl1:=hst.l1
  have hl2:=hst.l2
  have hTv:=hT.1
  have hTa:=hT.2
  have hSt:=CF h3 hsl
  rw [← hx] at hSt
  obtain ⟨s2,hs2e⟩:∃ y,y=o8 h m st x:=⟨_,rfl⟩
  have hs2:StOk p.vars.toNat s2:=hs2e ▸ Ee hst hb hT
  rw [← hs2e] at hSt
  have hs2n:¬ 0≤x.term.var→s2=st:=fun hn=>by rw [hs2e];unfold o8 q9;rw [if_neg (by simp [hn])]
  have vlt:0≤x.term.var→x.term.var.toNat<st.2.length:=fun hn=>by omega
  obtain ⟨kb,hkb⟩:∃ kb,kb=st.2[x.term.var.toNat]?.getD false:=⟨_,rfl⟩
  have hcase:0≤x.term.var∨(¬ 0≤x.term.var∧st.2[x.term.var.toNat]?=none)∨(¬ 0≤x.term.var∧st.2[x.term.var.toNat]?=some kb):=by
   by_cases hsp:0≤x.term.var
   ·exact .inl hsp
   ·right
    cases ho:st.2[x.term.var.toNat]? with
    | none=>exact .inl ⟨hsp,rfl⟩
    | some b=>rw [ho] at hkb;exact .inr ⟨hsp,by rw [hkb];rfl⟩
  rcases hcase with hc|hc|hc
  ·have Y:=wa Y (wa h3 (wa (aA h3) (wa (Eq.symm hx) (wa (aA hn2) (wa (aA hk2) (wa (aA ha2) (wa (Eq.symm hV) (wa @Slot.c.eq_1 (wa @cL.eq_1 (wa hl1 (wa hl2 (wa @qE (wa @cB.eq_1 (wa hc ((aA (vlt hc)))))))))))))))))
   refine wv (h:=?_)
   repeat first|intro _|refine ⟨fT,?_⟩
   refine wq (fun h7=>?_) fun h7=>?_
   ·have hF:q9 st x=true:=by simp only [q9,aQ,decide_eq_true_eq,cH];exact ⟨hc,by simpa [aA (vlt hc)] using h7⟩
    unfold o8 at hs2e
    rw [if_pos hF] at hs2e
    have hvl:x.term.var.toNat<st.1.length:=by omega
    have e1:s2.1.map cI=(st.1.map cI).set x.term.var.toNat (cI (oF h m x - x.term.add)):=by rw [hs2e,eF]
    have e2:s2.2.map cB=(st.2.map cB).set x.term.var.toNat (cB true):=by rw [hs2e,eF]
    have ecl:D.clLL ((st.1.map cI).set x.term.var.toNat [D.int .i64 (oF h m x - x.term.add)])=true:=by have:=sD s2.1;rw [e1] at this;exact this
    have Y:=wa Y (wa e1 (wa e2 (wa @dLI.eq_1 (wa @cI.eq_1 (wa (aA hvl) ecl)))))
    refine wv (h:=?_)
    repeat first|intro _|refine ⟨fT,?_⟩
    refine iC (kL x.term s2.1 (by rw [hs2.l1];exact hT) hs2.big) wr wl rfl ?_
    refine wv (h:=?_)
    repeat first|intro _|refine ⟨fT,?_⟩
    refine wq (fun h9=>?_) fun h9=>?_
    ·have hR:=iK (hSt.2 (by first|simpa using h9|simpa [hs2n hc.1] using h9|simpa [hs2e] using h9))
     exact wv (h:=hQ _ _ (by simp [go_sem,hR]))
    ·have hstep:=hSt.1 (by first|simpa using h9|simpa [hs2n hc.1] using h9|simpa [hs2e] using h9)
     refine wv (h:=?_)
     repeat first|intro _|refine ⟨fT,?_⟩
     exact wx hI0 (i+1) ⟨s2,wg,(by (simp [go_sem,Y])),wn,(by (simp [go_sem,Y])),wn,wj,(by exact hs2),(by exact hstep)⟩
   ·have hF:¬ q9 st x=true:=by simp only [q9,aQ,decide_eq_true_eq,cH];rintro ⟨_,hk⟩;simp [aA (vlt hc)] at hk;simp [hk] at h7
    unfold o8 at hs2e
    rw [if_neg hF] at hs2e
    have Y:=wa Y hs2e
    refine wv (h:=iC (kL x.term s2.1 (by rw [hs2.l1];exact hT) hs2.big) wr wl rfl ?_)
    refine dU (fun h9=>?_) fun h9=>?_
    ·have hR:=iK (hSt.2 (by first|simpa using h9|simpa [hs2n hc.1] using h9|simpa [hs2e] using h9))
     exact wv (h:=hQ _ _ (by simp [go_sem,hR]))
    ·have hstep:=hSt.1 (by first|simpa using h9|simpa [hs2n hc.1] using h9|simpa [hs2e] using h9)
     refine wv (h:=?_)
     repeat first|intro _|refine ⟨fT,?_⟩
     exact wx hI0 (i+1) ⟨s2,wg,(by (simp [go_sem,Y])),wn,(by (simp [go_sem,Y])),wn,wj,(by exact hs2),(by exact hstep)⟩
  ·have Y:=wa Y (wa h3 (wa (aA h3) (wa (Eq.symm hx) (wa (aA hn2) (wa (aA hk2) (wa (aA ha2) (wa (Eq.symm hV) (wa @Slot.c.eq_1 (wa @cL.eq_1 (wa hl1 (wa hl2 (wa @qE (wa @cB.eq_1 (wa hc.1 (wa hc.2 (hs2n hc.1))))))))))))))))
   refine wv (h:=?_)
   repeat first|intro _|refine ⟨fT,?_⟩
   refine iC (kL x.term s2.1 (by rw [hs2.l1];exact hT) hs2.big) wr wl rfl ?_
   refine wv (h:=?_)
   repeat first|intro _|refine ⟨fT,?_⟩
   refine wq (fun h9=>?_) fun h9=>?_
   ·have hR:=iK (hSt.2 (by first|simpa using h9|simpa [hs2n hc.1] using h9|simpa [hs2e] using h9))
    exact wv (h:=hQ _ _ (by simp [go_sem,hR]))
   ·have hstep:=hSt.1 (by first|simpa using h9|simpa [hs2n hc.1] using h9|simpa [hs2e] using h9)
    refine wv (h:=?_)
    repeat first|intro _|refine ⟨fT,?_⟩
    exact wx hI0 (i+1) ⟨s2,wg,(by (simp [go_sem,Y])),wn,(by (simp [go_sem,Y])),wn,wj,(by exact hs2),(by exact hstep)⟩
  ·have Y:=wa Y (wa h3 (wa (aA h3) (wa (Eq.symm hx) (wa (aA hn2) (wa (aA hk2) (wa (aA ha2) (wa (Eq.symm hV) (wa @Slot.c.eq_1 (wa @cL.eq_1 (wa hl1 (wa hl2 (wa @qE (wa @cB.eq_1 (wa hc.1 (wa hc.2 (hs2n hc.1))))))))))))))))
   refine wv (h:=?_)
   repeat first|intro _|refine ⟨fT,?_⟩
   refine iC (kL x.term s2.1 (by rw [hs2.l1];exact hT) hs2.big) wr wl rfl ?_
   refine wv (h:=?_)
   repeat first|intro _|refine ⟨fT,?_⟩
   refine wq (fun h9=>?_) fun h9=>?_
   ·have hR:=iK (hSt.2 (by first|simpa using h9|simpa [hs2n hc.1] using h9|simpa [hs2e] using h9))
    exact wv (h:=hQ _ _ (by simp [go_sem,hR]))
   ·have hstep:=hSt.1 (by first|simpa using h9|simpa [hs2n hc.1] using h9|simpa [hs2e] using h9)
    refine wv (h:=?_)
    repeat first|intro _|refine ⟨fT,?_⟩
    exact wx hI0 (i+1) ⟨s2,wg,(by (simp [go_sem,Y])),wn,(by (simp [go_sem,Y])),wn,wj,(by exact hs2),(by exact hstep)⟩
 ·rw [aK (by omega)] at hsl
  have hR0:=uG hsl
  have hl1:=hst.l1
  have Y:=wa Y hl1
  refine wv (h:=?_)
  repeat first|intro _|refine ⟨fT,?_⟩
  refine cD (fun k e H=>(e 3=.adr p.c∧e 4=.adr h.c∧e 5=.adr m.c∧e 8=.own 2 p.vars.toNat∧e 74=.list (p.tests.map Test.c)∧e 75=dI p.tests.length∧e 76=dI k)∧(H.get 2=some ⟨3,1,st.1.map cI,false⟩)∧(2<H.next)∧(k≤p.tests.length)∧((p.tests.take k).all (fun x=>LI x st.1)=true)) (fun k=>p.tests.length - k) 0 ⟨wg,wn,wn,wi,(by rfl)⟩ fun I2 hI2 k e H hi2=>?_
  obtain ⟨E2,g2_2,n2_2,hk,hall⟩:=hi2
  have Y:=wa Y (wa E2 (wa g2_2 (cO n2_2)))
  refine dU (fun h13=>?_) fun h13=>?_
  ·have Y:=wa Y (wa h13 (wa (aA h13) @Test.c.eq_1))
   refine wv (h:=?_)
   repeat first|intro _|refine ⟨fT,?_⟩
   refine iC (tX p.tests[k] st.1 (by rw [hst.l1];exact hO.test _ (aC h13)) hst.big) wr wl rfl ?_
   refine wv (h:=?_)
   repeat first|intro _|refine ⟨fT,?_⟩
   refine wq (fun h15=>?_) fun h15=>?_
   ·have hR:gH p h m []=([],16):=by
     rw [hR0,if_neg]
     intro ha
     rw [dJ] at ha
     have:=ha _ (aC h13)
     simp [this] at h15
    exact wv (h:=hQ _ _ (by simp [go_sem,hR]))
   ·refine wv (h:=?_)
    repeat first|intro _|refine ⟨fT,?_⟩
    exact wx hI2 (k+1) ⟨wg,wn,wn,wj,(by (rw [aG h13,List.all_append,hall];simp;simpa using h15))⟩
  ·rw [aK (by omega)] at hall
   rw [if_pos hall] at hR0
   exact wv (h:=hQ _ _ (by simp [go_sem,Y,hR0,dLI]))
theorem vO (t:Types)(ht:t.ok)(p:Pattern)(h:Host):Pure Tryz.prog 104 [t.d,p.d,h.d] (dI (B8 t p h)):=by
 refine Tz.pK ⟨fun _=>false,fun _=>[]⟩ Tryz.func104 rfl (fun Q hQ=>?_)
 have Y:=wa @Host.d.eq_1 @Host.c.eq_1
 refine wv (h:=aB (mS t ht p) wl ?_)
 refine dU (fun h2=>?_) fun h2=>?_
 ·exact wv (h:=hQ _ _ (by simp [go_sem,B8,h2]))
 ·refine wv (h:=aB (oR t ht h) wl ?_)
  exact wv (h:=hQ _ _ (by simp [go_sem,B8,h2,eR]))
theorem vP (t:Types)(ht:t.ok)(p:Pattern)(h:Host)(m:Part):Pure Tryz.prog 143 [t.d,p.d,h.d,m.d] (.tup [dLI (eZ t p h m).1,dI (eZ t p h m).2]):=by
 refine Tz.pK ⟨fun _=>false,fun _=>[]⟩ Tryz.func143 rfl (fun Q hQ=>?_)
 have Y:=wa @Pattern.d.eq_1 (wa @Pattern.c.eq_1 (wa @Host.d.eq_1 @Host.c.eq_1))
 refine wv (h:=aB (vO t ht p h) wl ?_)
 refine dU (fun h2=>?_) fun h2=>?_
 ·have hS:eZ t p h m=([],B8 t p h):=by
   unfold eZ B8
   unfold B8 at h2
   by_cases hp:dG t p=0
   ·rw [if_neg (by omega)] at h2 ⊢
    rw [if_pos h2,if_neg (by omega)]
   ·rw [if_pos hp,if_pos hp]
  exact wv (h:=hQ _ _ (by simp [go_sem,hS]))
 ·have hp0:dG t p=0:=by
   unfold B8 at h2
   refine bJ fun hp=>?_
   rw [if_pos hp] at h2;exact hp h2
  have hh0:eR t h=0:=by unfold B8 at h2;rw [if_neg (by omega)] at h2;exact h2
  refine wv (h:=aB (uK t ht p.graph h.graph m false) wl ?_)
  refine dU (fun h5=>?_) fun h5=>?_
  ·have hS:eZ t p h m=([],fY t p.graph h.graph m false):=by unfold eZ;rw [if_neg (by omega),if_neg (by omega),if_pos h5]
   exact wv (h:=hQ _ _ (by simp [go_sem,hS]))
  ·have h5':fY t p.graph h.graph m false=0:=by omega
   have hS:eZ t p h m=gH p h m []:=by unfold eZ;rw [if_neg (by omega),if_neg (by omega),if_neg (by omega)]
   refine wv (h:=aB (vM p h m (Wd (J9 (.inr hp0)) (Fh hh0) (zY (Cn h5').2))) wl ?_)
   exact wv (h:=hQ _ _ (by simp [go_sem,hS]))
theorem Bo (t:Types)(ht:t.ok)(p:Pattern)(h:Host)(inj:Bool):Pure Tryz.prog 70 [t.d,p.d,h.d,.bool inj] (.tup [.list ((iJ t p h inj).1.map Mat.c),dI (iJ t p h inj).2]):=by
 refine Tz.pK ⟨fun t=>t==13||t==15,fun _=>[]⟩ Tryz.func70 rfl (fun Q hQ=>?_)
 have Y:=wa @Pattern.d.eq_1 (wa @Pattern.c.eq_1 (wa @Host.d.eq_1 @Host.c.eq_1))
 refine wv (h:=aB (vO t ht p h) wl ?_)
 refine dU (fun h2=>?_) fun h2=>?_
 ·have hS:iJ t p h inj=([],B8 t p h):=by
   unfold iJ B8
   unfold B8 at h2
   by_cases hp:dG t p=0
   ·rw [if_neg (by omega)] at h2 ⊢
    rw [if_pos h2,if_neg (by omega)]
   ·rw [if_pos hp,if_pos hp]
  exact wv (h:=hQ _ _ (by simp [go_sem,hS]))
 ·have hp0:dG t p=0:=by
   unfold B8 at h2
   refine bJ fun hp=>?_
   rw [if_pos hp] at h2;exact hp h2
  have hh0:eR t h=0:=by unfold B8 at h2;rw [if_neg (by omega)] at h2;exact h2
  have hLm0:∀ x∈(pJ t p.graph h.graph inj).1,MOk t p.graph h.graph x:=fun x hx=>PU hx
  refine wv (h:=aB (LY t ht p.graph h.graph inj) wl ?_)
  refine dU (fun h5=>?_) fun h5=>?_
  ·have hS:iJ t p h inj=([],(pJ t p.graph h.graph inj).2):=by unfold iJ;rw [if_neg (by omega),if_neg (by omega),if_pos h5]
   exact wv (h:=hQ _ _ (by simp [go_sem,hS]))
  ·have hS:iJ t p h inj=(wF p h [] (pJ t p.graph h.graph inj).1,0):=by unfold iJ;rw [if_neg (by omega),if_neg (by omega),if_neg (by omega)]
   obtain ⟨L,hL⟩:∃ L,L=(pJ t p.graph h.graph inj).1:=⟨_,rfl⟩
   have hL5a:=Lq t p.graph h.graph inj
   rw [← hL] at hS hLm0 hL5a
   have hLm:=hLm0
   have Y:=wa Y (Eq.symm hL)
   refine wp (h:=cD (fun i e H=>∃ ms:List Mat,(e 4=.adr t.c∧e 5=.adr p.c∧e 6=.adr h.c∧e 3=.bool inj∧e 38=.list (L.map Part.c)∧e 39=dI L.length∧e 13=.own 0 ms.length∧e 40=dI i)∧(H.get 0=some ⟨35,3,ms.map Mat.c,false⟩)∧(0<H.next)∧(i≤L.length)∧(ms=wF p h [] (L.take i))∧(ms.length≤i)∧(L.length≤5000)) (fun i=>L.length - i) 0 ⟨([]),wg,wn,wn,wi,(by rfl),(by (simp)),(by (exact hL5a))⟩ fun I0 hI0 i e H hi0=>?_)
   obtain ⟨ms,E0,g0_0,n0_0,hi,hms,hml,hL5⟩:=hi0
   have Y:=wa Y (wa E0 (wa g0_0 (cO n0_0)))
   refine dU (fun h9=>?_) fun h9=>?_
   ·obtain ⟨v,hv⟩:∃ v,v=gH p h L[i] []:=⟨_,rfl⟩
    obtain ⟨ms2,hms2⟩:∃ y,y=ms++if v.2=0 then [(⟨L[i],v.1⟩:Mat)] else []:=⟨_,rfl⟩
    have Y:=wa Y (wa h9 (wa (aA h9) @Part.c.eq_1))
    refine wp (h:=aB ((by have hq:=vM p h L[i] (Wd (J9 (.inr hp0)) (Fh hh0) (hLm _ (aC h9)));rw [← hv] at hq;unfold Pattern.d Pattern.c Host.d Host.c Part.d Part.c dLI dI at hq;exact hq)) wl ?_)
    refine qJ (fun h12=>?_) fun h12=>?_
    ·have hm3:ms2=ms++[⟨L[i],v.1⟩]:=by rw [hms2,if_pos (by simpa using h12)]
     have Y:=wa Y (wa hm3 @Mat.c.eq_1)
     exact wp (h:=wx hI0 (i+1) ⟨ms2,wg,wn,wn,wj,(by (rw [aG h9,uE,← hms,← hv];exact hms2)),(by (rw [hms2];split<;>simp<;>omega)),(by exact hL5)⟩)
    ·have hm3:ms2=ms:=by rw [hms2,if_neg (by simpa using h12),gJ]
     have Y:=wa Y hm3
     exact wp (h:=wx hI0 (i+1) ⟨ms2,wg,wn,wn,wj,(by (rw [aG h9,uE,← hms,← hv];exact hms2)),(by (rw [hms2];split<;>simp<;>omega)),(by exact hL5)⟩)
   ·rw [aK (by omega)] at hms
    exact wv (h:=hQ _ _ (by simp [go_sem,Y,hS,← hms]))
end Go.Abs
end
section
set_option maxRecDepth 100000
set_option maxHeartbeats 4000000
open Go Go.Proofs Go.RowKit Go.Shelf Go.Lib
namespace Go.Abs
theorem OL (x y:Nat)(hx:x<18446744073709551616)(hy:y<18446744073709551616)(w:World) :
  Calls Tryz.prog 49 #[.int .u64 x,.int .u64 y] w fun e w'=>e=.returned (.tuple #[.int .u64 ((x * y / 18446744073709551616:Nat):Int),.int .u64 ((x * y % 18446744073709551616:Nat):Int)])∧w'=w:=by
 obtain ⟨bd,bt,bw,hhi⟩:=Lib.mul64_hi x y hx hy
 have ba:=Lib.half_mul_le (a:=x / 4294967296) (b:=y / 4294967296) (by omega) (by omega)
 have bb:=Lib.half_mul_le (a:=x / 4294967296) (b:=y % 4294967296) (by omega) (by omega)
 have bc:=Lib.half_mul_le (a:=x % 4294967296) (b:=y / 4294967296) (by omega) (by omega)
 have ba':x / 4294967296 * (y / 4294967296)<18446744073709551616:=by omega
 have bb':x / 4294967296 * (y % 4294967296)<18446744073709551616:=by omega
 have bc':x % 4294967296 * (y / 4294967296)<18446744073709551616:=by omega
 have bh1:x / 4294967296 * (y / 4294967296)+(x / 4294967296 * (y % 4294967296)+x % 4294967296 * (y % 4294967296) / 4294967296) / 4294967296<18446744073709551616:=by omega
 have bh:x / 4294967296 * (y / 4294967296)+(x / 4294967296 * (y % 4294967296)+x % 4294967296 * (y % 4294967296) / 4294967296) / 4294967296+((x / 4294967296 * (y % 4294967296)+x % 4294967296 * (y % 4294967296) / 4294967296) % 4294967296+x % 4294967296 * (y / 4294967296)) / 4294967296<18446744073709551616:=by omega
 go_enter Tryz.func49,Tryz.ntmps49
 go_wp2
 simp only [Mul64.maskN x hx,Mul64.maskN y hy,Mul64.divN,Mul64.mulN,Mul64.addN,Mul64.wrapN _ bd,Mul64.wrapN _ bb',Mul64.wrapN _ bt,Mul64.maskN _ bt,Mul64.wrapN _ bc',Mul64.wrapN _ bw,Mul64.wrapN _ ba',Mul64.wrapN _ bh1,Mul64.wrapN _ bh,Mul64.wrapM (x * y)]
 rw [hhi]
 go_ret2
 exact ⟨rfl,rfl⟩
theorem Se (x y:Nat)(hx:x<18446744073709551616)(hy:y<18446744073709551616)(w:World) :
  Calls Tryz.prog 28 #[.int .u64 x,.int .u64 y] w fun e w'=>e=.returned (.tuple #[.int .u64 ((x * y / 18446744073709551616:Nat):Int),.int .u64 ((x * y % 18446744073709551616:Nat):Int)])∧w'=w:=by
 have c64:=OL x y hx hy w
 have e264:∀ args w,(callFunc 49 args).run Tryz.prog w=.ok (.enter 49 args) w:=enters_of Tryz.func49 (by kernel_rfl) rfl
 go_enter Tryz.func28,Tryz.ntmps28
 go_wp2_with (go_at_fn 49;refine c64.mono ?_;rintro e w' ⟨rfl,hw⟩;rw [hw])
 go_ret2
 exact ⟨rfl,rfl⟩
def mU (v:Int)(n k:Nat):List Value:=List.replicate k (.int .i64 v)++List.replicate (n - k) (.int .i64 0)
theorem JY {v:Int}{n k m:Nat}(h:k+m≤n):(mU v n k).take k++List.replicate m (.int .i64 v)++(mU v n k).drop (k+m)=mU v n (k+m):=by
 unfold mU
 rw [List.take_left' (by simp),List.drop_append,o5,dW (by simp),eX,List.drop_replicate,← List.replicate_append_replicate]
 congr 2
 omega
theorem It (v:Int)(n:Nat)(hn:n≤1000)(ad:Addr)(cap:Nat)(w:World)(hc:w.cell? ad=some (.int .i64 v)) :
  Calls Tryz.prog 16 #[.slice (some ad) 1 cap,.int .i64 n] w fun e w'=>∃ v',e=.returned v'∧w'.ownsRow w.heap.size 3 1 v' n (List.replicate n (.int .i64 v))∧Below w.heap.size w w':=by
 have hsz:(Tryz.prog.info? 3).map (·.size)=some 1:=by kernel_rfl
 have cM:=fun w=>Se 1 n (by omega) (by omega) w
 have e1:∀ args w,(callFunc 28 args).run Tryz.prog w=.ok (.enter 28 args) w:=enters_of Tryz.func28 (by kernel_rfl) rfl
 have hmk:=fun w=>run_make_row' (P:=Tryz.prog) 31 3 (.int .i64 0) 8 Tryz.underlying31 Ef rfl .i64 .i64 n (by omega) (by omega) w
 have hq1:(1 * n) / 18446744073709551616=0:=by omega
 have hq2:(1 * n) % 18446744073709551616=n:=by omega
 have hn0:¬ ((n:Int)<0):=by omega
 have hn1:¬ ((9223372036854775807:Int)<n):=by omega
 have cpy:∀ (k m:Nat) (W:World) (ty dl dc:Nat) (a:Addr) (sl sc:Nat),k+m≤n→m=Nat.min sl dl→W.heap[w.heap.size]?=some (.cells (mU v n k).toArray 3 (0,0))→(∀ (j:Nat) (u:Value),(List.replicate m (Value.int .i64 v))[j]?=some u→W.cell? (a.add j)=some u) →
   (Builtin.copy_ #[31,31] ty #[.slice (some ⟨w.heap.size,k,none⟩) dl dc,.slice (some a) sl sc]).run Tryz.prog W=.ok (goInt m) (W.setRow w.heap.size (mU v n (k+m)).toArray):=fun k m W ty dl dc a sl sc hkm hm hb hs=>by
  rw [← JY hkm]
  have:=Gn (P:=Tryz.prog) W 31 31 ty 3 1 w.heap.size k dl dc a sl sc m (mU v n k).toArray 3 (List.replicate m (.int .i64 v)) Tryz.underlying31 hsz hb hm (by simp) hs (by simp [mU];omega) (by simp [Value.oneCell'])
  simpa using this
 have h0:(w.alloc (.cells (madeCells #[.int .i64 0] n) 3)).heap[w.heap.size]?=some (.cells (mU v n 0).toArray 3 (0,0)):=by
  rw [(MapKept.heap_alloc w _).1]
  congr 2
  apply Array.toList_inj.1
  rw [toList_madeCells_one];simp [mU]
 obtain ⟨m0,hm0⟩:∃ m,m=Nat.min 1 n:=⟨_,rfl⟩
 have hm1:m0≤1∧m0≤n∧(m0=1∨n=0):=by rw [hm0];simp only [Nat.min_def];split<;>omega
 have hbad:ad.block<w.heap.size:=World.block_lt_of_cell? w _ hc
 have hcp0:=fun ty=>cpy 0 m0 (w.alloc (.cells (madeCells #[.int .i64 0] n) 3)) ty n n ad 1 cap (by omega) hm0 h0 (fun j u hj=>by
  have hj0:j=0:=by have:=(aI.1 hj).1;simp at this;omega
  subst hj0
  rw [eG] at hj
  split at hj
  ·cases hj
   rw [show ad.add 0=ad by unfold Addr.add;simp]
   exact ((Below.refl _ w).alloc (aL _) _).cell (p:=ad) hbad |>.trans hc
  ·cases hj)
 simp only [dR] at hcp0
 clear hm0
 have mixed:=Tz.mixed
 go_enter Tryz.func16,Tryz.ntmps16
 go_wp2_with (first|(go_at_fn 28;refine (cM _).mono ?_;rintro e w' ⟨rfl,hw⟩;rw [hw,hq1,hq2])|(at_builtin;refine wpList_copy_runI _ rfl _ _ 31 31 rfl _ _ rfl rfl (hcp0 _) ?_))
 go_loopw [8] (fun i wr=>∃ k:Nat,k≤n∧(0<k∨n=0)∧i=.int .i64 k∧wr.heap[w.heap.size]?=some (.cells (mU v n k).toArray 3 (0,0))∧Below w.heap.size w wr)
  (fun i _=>n - (RowKit.intOf i).toNat)
 case atStart =>
  refine ⟨m0,hm1.2.1,by omega,by simp [goInt],setRow_heap _ _ _ _ _ _ h0,?_⟩
  exact below_setRow ((Below.refl _ w).alloc (aL _) _) (aL _) _
 case round =>
  obtain ⟨k,hk,hk0,rfl,hb,hbl⟩:=hrel
  by_cases hlt:k<n
  ·have hkn:¬ (n=k):=by omega
   have hcp1:=fun ty dc sc=>cpy k (Nat.min k (n - k)) wr.drew ty (n - k) dc ⟨w.heap.size,0,none⟩ k sc (by simp only [Nat.min_def];split<;>omega) rfl hb (fun j u hj=>by
    have hjk:=(aI.1 hj).1
    rw [o5] at hjk
    rw [eG,if_pos hjk] at hj
    cases hj
    have hjk2:j<k:=by simp only [Nat.min_def] at hjk;split at hjk<;>omega
    rw [gX]
    show wr.cell? _=_
    simp [World.cell?,hb,mU,aX,hjk2])
   go_wp2
   go_region_law_o (refine step_copy_runI rfl _ _ 31 31 rfl _ _ (by simp [Act.eval,Act.put]) (by simp [Act.eval,Act.put]) (hcp1 _ _ _) ?_)
   have hmn:k+Nat.min k (n - k)≤n∧0<Nat.min k (n - k):=by simp only [Nat.min_def];split<;>omega
   simp only [Act.put,List.getElem_toArray,List.getElem_cons_succ,List.getElem_cons_zero,List.setIfInBounds_toArray,sZ,kX]
   go_roundw
   case rel =>
    refine ⟨_,_,_,_,_,_,_,_,_,_,_,_,_,_,⟨k+Nat.min k (n - k),hmn.1,by omega,?_,setRow_heap wr.drew _ _ _ _ _ hb,below_setRow (w:=wr.drew) ⟨hbl.os,hbl.tape,hbl.output,hbl.size,hbl.block⟩ (aL _) _⟩,rfl⟩
    congr 1
    rw [IntKind.wrap_i64];omega
   case measure=>simp [RowKit.intOf,goInt,IntKind.wrap_i64];omega
  ·obtain rfl:k=n:=by omega
   go_wp2
   go_ret
   refine ⟨_,rfl,⟨by simp,.inr ⟨w.heap.size,k,(mU v k k).toArray,rfl,aL _,hb,aL _,by simp only [maxLen];omega,by simp [mU],?_⟩⟩,hbl⟩
   simp [mU]
theorem zV (v:Int)(n:Nat)(hn:n≤1000):Own Tryz.prog 16 [.list [[dI v]],dI n] 3 1 ((List.replicate n v).map cI):=by
 refine ⟨⟨Tryz.f16,Tryz.func16,rfl,rfl⟩,fun M w vals hM ha=>?_⟩
 obtain ⟨hlen,hr⟩:=ha
 match vals,hlen with
 | [s,y],_ =>
  have h0:=hr 0 s _ rfl rfl
  have h1:=hr 1 y _ rfl rfl
  cases h1
  rcases qW h0 with ⟨rfl,he⟩|⟨ad,cap,sz,xs,rfl,hrep,_,hcell,_,_,_⟩
  ·cases he
  ·have hx:∃ u,xs[0]?=some u:=by
    have hl:=hrep.len
    simp at hl
    exact ⟨xs[0]'(by omega),aA (by omega)⟩
   obtain ⟨u,hu⟩:=hx
   have hd:=hrep.rep 0 u (D.int .i64 v) hu rfl
   cases hd
   have hca:=(hcell 0 _ hu).2
   rw [show ad.add 0=ad by unfold Addr.add;simp] at hca
   refine (It v n hn ad cap w hca).mono fun e w' ⟨v',he,hrow,hb⟩=>?_
   have hml:((List.replicate n v).map cI).length=n:=by simp
   exact ⟨v',_,he,by rw [hml];exact hrow,fun u hu=>by rw [jS hu];rfl,by
    have:=yC (M:=fun b=>M b∨v'.ownBlock=some b) (σ:=fG) (N:=mV) (w:=w') (List.replicate n v)
    simpa using this,sD _,fun c hc=>by obtain ⟨x,_,rfl⟩:=aS.1 hc;rfl,hb⟩
end Go.Abs
end
section
set_option maxRecDepth 100000
set_option maxHeartbeats 4000000
open Go Go.Proofs
namespace Go.Abs
theorem HP {l:List Int}(hs:l.Pairwise (· < ·))(v:Int):jT l l.length v=if mem l v=true then (tJ l v:Int) else -1:=by
 by_cases h:mem l v=true
 ·rw [if_pos h,← KE hs h]
  obtain ⟨p,hp,he⟩:=aM ((mem_iff l v).1 h)
  have hpw:=b6.1 hs
  rw [xE (i:=p) (fun j hj h2=>by
   have hjl:j<l.length:=by omega
   rw [aA hjl] at h2
   have:=hpw j p hjl hp hj
   simp at h2;omega) (by rw [aA hp,he]),← he,xS (Cv hs) hp]
 ·rw [if_neg h,yP (fun hm=>h ((mem_iff _ _).2 hm)) _ (aL _)]
def Dc (d:List Int)(n i:Nat):List Int:=xR d i++List.replicate (n - i) 0
theorem D1 {d:List Int}{n i:Nat}(h:i≤n):(Dc d n i).length=n:=by simp [Dc,t8];omega
theorem JC {d:List Int}{n i:Nat}(h:i<n):(Dc d n i).set i (jT d d.length i)=Dc d n (i+1):=by
 unfold Dc
 rw [v8 _ _ (by rw [t8];omega),t8,rR,M3,show n - i=(n - (i+1))+1 by omega,nH,kX,List.append_assoc];rfl
theorem D5 (n:Nat)(hn:n≤1000000)(d:List Int)(hd:d.Pairwise (· < ·))(hl:d.length≤1000000):Pure Tryz.prog 113 [dI n,dLI d] (dLI (qK d n)):=by
 refine Tz.pK ⟨fun _=>false,fun _=>[]⟩ Tryz.func113 rfl (fun Q hQ=>?_)
 have Y:=trivial
 refine wp (h:=cD (fun i e H=>(e 1=dLI d∧e 5=.own 0 n∧e 12=dI n∧e 13=dI i)∧(H.get 0=some ⟨3,1,(Dc d n i).map cI,false⟩)∧(0<H.next)∧(i≤n)) (fun i=>n - i) 0 ⟨wg,(by (simp [go_sem,Dc,xR,cI])),wn,wi⟩ fun I0 hI0 i e H hi0=>?_)
 obtain ⟨E0,g0_0,n0_0,hi⟩:=hi0
 have Y:=wa Y (wa E0 (wa g0_0 (cO n0_0)))
 refine dU (fun h3=>?_) fun h3=>?_
 ·have hB:=HP hd (i:Int)
  have hil:i<(Dc d n i).length:=by rw [D1 (by omega)];exact h3
  have hll:(Dc d n i).length=n:=D1 (by omega)
  have Y:=wa Y (wa h3 (wa (aA hil) hll))
  refine wv (h:=aB (sK d i hd hl) wl ?_)
  refine qJ (fun h6=>?_) fun h6=>?_
  ·rw [if_neg (by simpa using h6)] at hB
   have Y:=wa Y hB
   exact wp (h:=wx hI0 (i+1) ⟨wg,(by (simp [go_sem,Y,← JC h3,eF,cI])),wn,wj⟩)
  ·rw [if_pos (by simpa using h6)] at hB
   have Y:=wa Y hB
   exact wp (h:=wx hI0 (i+1) ⟨wg,(by (simp [go_sem,Y,← JC h3,eF,cI])),wn,wj⟩)
 ·have hll:(Dc d n i).length=n:=D1 (by omega)
  have hT:qK d n=Dc d n i:=by unfold Dc qK;rw [show i=n by omega];simp
  have Y:=wa Y hll
  exact wv (h:=hQ _ _ (by simp [go_sem,Y,hT,dLI]))
/-! ### comatch -/
def Ri (keep into at_:List Int)(n j:Nat):Int:=if 0≤jT into n j then at_[(keep[(jT into n j).toNat]?.getD 0).toNat]?.getD 0 else -1
def MK (keep into at_:List Int)(count n:Nat):List Int:=(List.range count).map (Ri keep into at_ n)
def FI (keep into at_:List Int)(count remain i:Nat):List Int:=(List.range count).map fun j=>if j<i then MH keep into at_ remain j else Ri keep into at_ into.length j
theorem SS (keep into at_:List Int)(count n:Nat):(MK keep into at_ count n).length=count:=by simp [MK]
theorem IY (keep into at_:List Int)(count remain i:Nat):(FI keep into at_ count remain i).length=count:=by simp [FI]
theorem Rk (keep into at_:List Int)(count:Nat):MK keep into at_ count 0=List.replicate count (-1):=by
 apply fS (by simp [MK]);intro i h1 h2;simp [MK,Ri,jT]
theorem Rl (keep into at_:List Int)(count n:Nat)(h:n<into.length)(h0:0≤into[n]):MK keep into at_ count (n+1)=(MK keep into at_ count n).set into[n].toNat (at_[(keep[n]?.getD 0).toNat]?.getD 0):=by
 apply fS (by simp [MK]);intro i h1 h2
 rw [yS]
 simp only [MK,rM,oD,Ri,uY,aA h,aF]
 by_cases he:into[n]=(i:Int)
 ·rw [if_pos he,if_pos (by omega),if_pos (by omega),Int.toNat_natCast]
 ·rw [if_neg he,if_neg (show ¬ into[n].toNat=i by omega)]
theorem Rj (keep into at_:List Int)(count remain:Nat):FI keep into at_ count remain 0=MK keep into at_ count into.length:=by simp [FI,MK]
theorem SP (keep into at_:List Int)(count remain:Nat){i:Nat}(h:i<count):(FI keep into at_ count remain i).set i (MH keep into at_ remain i)=FI keep into at_ count remain (i+1):=by
 apply fS (by simp [FI]);intro j h1 h2
 rw [yS]
 simp only [FI,rM,oD]
 by_cases he:i=j
 ·subst he;rw [if_pos rfl,if_pos (by omega)]
 ·rw [if_neg he]
  by_cases h3:j<i
  ·rw [if_pos h3,if_pos (by omega)]
  ·rw [if_neg h3,if_neg (by omega)]
theorem SR (keep into at_:List Int)(count remain:Nat):FI keep into at_ count remain count=PB keep into at_ count remain:=by
 unfold FI PB
 exact bP fun j hj=>by rw [if_pos (b7.1 hj)]
theorem SQ (keep into at_:List Int)(count remain:Nat){i:Nat}(h:i<count):(FI keep into at_ count remain i)[i]?=some (Ri keep into at_ into.length i):=by
 simp [FI,h]
theorem Ax (count:Nat)(hc:count≤1000)(keep into im tr:List Int)(n:Nat)(hn:n≤1000)(hl:into.length≤keep.length)(hin:∀ x∈into,0≤x∧x<count)(hk0:∀ x∈keep,0≤x∧x<im.length)(hm0:∀ x∈keep,0≤iA im x∧iA im x<tr.length)
  (hp:∀ x∈keep,0≤(u6 im tr)[x.toNat]?.getD 0):Pure Tryz.prog 114 [dI count,dLI keep,dLI into,dLI im,dLI tr,dI n] (dLI (PB keep into (u6 im tr) count n)):=by
 refine Tz.pK ⟨fun t=>t==19,fun _=>[]⟩ Tryz.func114 rfl (fun Q hQ=>?_)
 have Y:=trivial
 refine wv (h:=kC (zV (-1) count hc) wl ?_)
 refine wv (h:=?_)
 repeat first|intro _|refine ⟨fT,?_⟩
 refine cD (fun i e H=>(e 1=dLI keep∧e 2=dLI into∧e 3=dLI im∧e 4=dLI tr∧e 13=.own 0 count∧e 20=dLI into∧e 21=dI into.length∧e 22=dI i∧e 5=dI n)∧(H.get 0=some ⟨3,1,(MK keep into (u6 im tr) count i).map cI,false⟩)∧(0<H.next)∧(i≤into.length)) (fun i=>into.length - i) 0 ⟨wg,(by (simp [go_sem,Rk,cI])),wn,wi⟩ fun I0 hI0 i e H hi0=>?_
 obtain ⟨E0,g0_0,n0_0,hi⟩:=hi0
 have Y:=wa Y (wa E0 (wa g0_0 (cO n0_0)))
 refine dU (fun h3=>?_) fun h3=>?_
 ·have hki:i<keep.length:=by omega
  have hkb:=hk0 _ (aC hki)
  have hmb:=hm0 _ (aC hki)
  have hkm:keep[i].toNat<im.length:=by omega
  have hiA:iA im keep[i]=im[keep[i].toNat]:=by unfold iA;rw [aA hkm];rfl
  rw [hiA] at hmb
  have hmt:(im[keep[i].toNat]).toNat<tr.length:=by omega
  have hib:=hin _ (aC h3)
  have hcl:(MK keep into (u6 im tr) count i).length=count:=SS _ _ _ _ _
  have hcb:into[i].toNat<(MK keep into (u6 im tr) count i).length:=by omega
  have hv:(u6 im tr)[(keep[i]?.getD 0).toNat]?.getD 0=tr[(im[keep[i].toNat]).toNat]:=by
   rw [aA hki,aF];unfold u6
   rw [aN,aA hkm,dK,aF,aA hmt,aF]
  have hsu:=Rl keep into (u6 im tr) count i h3 hib.1
  rw [hv] at hsu
  have Y:=wa Y (wa h3 (wa (aA h3) (wa (aA hki) (wa (aA hkm) (wa (aA hmt) (wa (aA hcb) hcl))))))
  refine wv (h:=?_)
  repeat first|intro _|refine ⟨fT,?_⟩
  exact wx hI0 (i+1) ⟨wg,(by (simp [go_sem,Y,hsu,eF,cI])),wn,wj⟩
 ·have hA:MK keep into (u6 im tr) count i=FI keep into (u6 im tr) count n 0:=by rw [Rj,show i=into.length by omega]
  have hcl:(FI keep into (u6 im tr) count n 0).length=count:=IY _ _ _ _ _ _
  have hn0:BX into 0=0:=O7 into
  have Y:=wa Y (wa hA (wa hcl hn0))
  refine wv (h:=?_)
  repeat first|intro _|refine ⟨fT,?_⟩
  refine cD (fun k e H=>(e 1=dLI keep∧e 2=dLI into∧e 3=dLI im∧e 4=dLI tr∧e 13=.own 0 count∧e 42=dI count∧e 43=dI k∧e 5=dI ((n+BX into k:Nat):Int))∧(H.get 0=some ⟨3,1,(FI keep into (u6 im tr) count n k).map cI,false⟩)∧(0<H.next)∧(k≤count)) (fun k=>count - k) 0 ⟨wg,(by (simp [go_sem,Y])),wn,wi⟩ fun I2 hI2 k e H hi2=>?_
  obtain ⟨E2,g0_2,n0_2,hk⟩:=hi2
  have Y:=wa Y (wa E2 (wa g0_2 (cO n0_2)))
  refine dU (fun h8=>?_) fun h8=>?_
  ·have hnl:=So into k
   have hcl:(FI keep into (u6 im tr) count n k).length=count:=IY _ _ _ _ _ _
   have hck:k<(FI keep into (u6 im tr) count n k).length:=by omega
   have hg:=SQ keep into (u6 im tr) count n h8
   have hge:(FI keep into (u6 im tr) count n k)[k]=Ri keep into (u6 im tr) into.length k:=by rw [aA hck] at hg;exact Option.some.inj hg
   have hsb:=SP keep into (u6 im tr) count n h8
   have hns:=O8 into k
   have hbl:=FT into (k:Int) into.length
   have Y:=wa Y (wa hcl (wa h8 hg))
   refine wv (h:=?_)
   repeat first|intro _|refine ⟨fT,?_⟩
   refine wq (fun h10=>?_) fun h10=>?_
   ·rw [hge] at h10
    have hneg:¬ 0≤jT into into.length k:=by
     intro h0
     have hlt:(jT into into.length k).toNat<keep.length:=by omega
     have:=hp _ (aC hlt)
     simp only [Ri,if_pos h0,aA hlt,aF] at h10
     omega
    have hco:MH keep into (u6 im tr) n k=((n+BX into k:Nat):Int):=by unfold MH;rw [if_neg hneg]
    rw [hco] at hsb
    rw [if_pos (by omega)] at hns
    have hset:(FI keep into (u6 im tr) count n (k+1)).map cI=((FI keep into (u6 im tr) count n k).map cI).set k [.int .i64 ((n+BX into k:Nat):Int)]:=by rw [← hsb,eF];rfl
    have Y:=wa Y hns
    refine wv (h:=?_)
    repeat first|intro _|refine ⟨fT,?_⟩
    exact wx hI2 (k+1) ⟨wg,(by (simp [go_sem,Y,hset])),wn,wj⟩
   ·rw [hge] at h10
    have hco:MH keep into (u6 im tr) n k=Ri keep into (u6 im tr) into.length k:=by
     unfold MH Ri
     split
     ·rfl
     ·rename_i h0;exfalso;unfold Ri at h10;rw [if_neg h0] at h10;omega
    have hpos:0≤jT into into.length k:=by
     refine bJ fun h0=>?_
     unfold Ri at h10;rw [if_neg h0] at h10;omega
    rw [hco,← hge,List.set_getElem_self] at hsb
    rw [if_neg (by omega)] at hns
    have hset:(FI keep into (u6 im tr) count n (k+1))=FI keep into (u6 im tr) count n k:=hsb.symm
    have Y:=wa Y hns
    refine wv (h:=?_)
    repeat first|intro _|refine ⟨fT,?_⟩
    exact wx hI2 (k+1) ⟨wg,(by (simp [go_sem,Y,hset])),wn,wj⟩
  ·have hE:=SR keep into (u6 im tr) count n
   have hke:k=count:=by omega
   have hcl:(FI keep into (u6 im tr) count n count).length=count:=IY _ _ _ _ _ _
   rw [hE] at hcl
   have Y:=wa Y (wa hcl (wa hke hE))
   exact wv (h:=hQ _ _ (by simp [go_sem,Y,hE,dLI]))
/-! ### copies -/
@[go_sem] theorem Mat.cld (m:Mat):m.d.cl=true:=by simp [Mat.d,D.cl,Mat.cl]
theorem D8 (m:Mat)(h1:m.m.nodes.length≤1000000)(h2:m.m.edges.length≤1000000)(h3:m.vars.length≤1000000):Pure Tryz.prog 111 [m.d] m.d:=by
 refine Tz.pK ⟨fun t=>t==2,fun _=>[]⟩ Tryz.func111 rfl (fun Q hQ=>?_)
 have Y:=wa @Mat.d.eq_1 @Mat.c.eq_1
 refine wv (h:=?_)
 refine jI (gM m.m.nodes h1) (by simp [go_sem,dLI]) (by simp [go_sem]) (Fm _) rfl (by simp [go_sem]) ?_
 refine wv (h:=?_)
 refine jI (gM m.m.edges h2) (by simp [go_sem,dLI]) (by simp [go_sem]) (Fm _) rfl (by simp [go_sem]) ?_
 refine wv (h:=?_)
 refine jI (gM m.vars h3) (by simp [go_sem,dLI]) (by simp [go_sem]) (Fm _) rfl (by simp [go_sem]) ?_
 exact wv (h:=hQ _ _ (by simp [go_sem,Y,dLI]))
def Di (t:Types)(r:Rule)(h:Host)(m:Mat):Int :=
 if fY t r.left.graph h.graph m.m r.inj≠0 then 1
 else if (eZ t r.left h m.m).2≠0 then (eZ t r.left h m.m).2
 else if (eZ t r.left h m.m).1≠m.vars then 11 else 0
theorem J6 (t:Types)(r:Rule)(h:Host)(m:Mat):BU t r h m=if Di t r h m≠0 then Di t r h m else xM (xC r.left.graph h.graph m.m) h.graph r.keep m.m:=by
 unfold BU Di
 by_cases h1:fY t r.left.graph h.graph m.m r.inj≠0
 ·rw [if_pos h1,if_pos h1];simp
 ·rw [if_neg h1,if_neg h1]
  by_cases h2:(eZ t r.left h m.m).2≠0
  ·rw [if_pos h2,if_pos h2,if_pos h2]
  ·rw [if_neg h2,if_neg h2]
   by_cases h3:(eZ t r.left h m.m).1≠m.vars
   ·rw [if_pos h3,if_pos h3];simp
   ·rw [if_neg h3,if_neg h3];simp
theorem Ib (t:Types)(ht:t.ok)(r:Rule)(h:Host)(m:Mat):Pure Tryz.prog 107 [t.d,r.d,h.d,m.d] (dI (Di t r h m)):=by
 refine Tz.pK ⟨fun _=>false,fun _=>[]⟩ Tryz.func107 rfl (fun Q hQ=>?_)
 have Y:=wa @Rule.d.eq_1 (wa @Rule.c.eq_1 (wa @Pattern.c.eq_1 (wa @Host.d.eq_1 (wa @Host.c.eq_1 (wa @Mat.d.eq_1 (wa @Mat.c.eq_1 (wa @Graph.c.eq_1 @Part.c.eq_1)))))))
 refine wv (h:=aB (uK t ht r.left.graph h.graph m.m r.inj) wl ?_)
 refine dU (fun h1=>?_) fun h1=>?_
 ·have hM:Di t r h m=1:=by unfold Di;rw [if_pos (by simpa using h1)]
  exact wv (h:=hQ _ _ (by simp [go_sem,hM]))
 ·have hM:Di t r h m=if (eZ t r.left h m.m).2≠0 then (eZ t r.left h m.m).2 else if (eZ t r.left h m.m).1≠m.vars then 11 else 0:=by unfold Di;rw [if_neg (by simpa using h1)]
  refine wv (h:=aB (vP t ht r.left h m.m) wl ?_)
  refine dU (fun h4=>?_) fun h4=>?_
  ·rw [if_pos (by simpa using h4)] at hM
   exact wv (h:=hQ _ _ (by simp [go_sem,hM]))
  ·rw [if_neg (by simpa using h4)] at hM
   refine wo (h:=aB (lZ (eZ t r.left h m.m).1 m.vars) wl ?_)
   refine mP (fun h6=>?_) fun h6=>?_
   ·rw [if_pos (by simpa using h6)] at hM
    exact wv (h:=hQ _ _ (by simp [go_sem,hM]))
   ·rw [if_neg (by simpa using h6)] at hM
    exact wv (h:=hQ _ _ (by simp [go_sem,hM]))
theorem D7 (t:Types)(ht:t.ok)(r:Rule)(hr:r.ok)(h:Host):Pure Tryz.prog 69 [t.d,r.d,h.d] (dI (jF t r h)):=by
 refine Tz.pK ⟨fun _=>false,fun _=>[]⟩ Tryz.func69 rfl (fun Q hQ=>?_)
 have Y:=trivial
 refine wv (h:=aB (kZ t ht) wl ?_)
 refine dU (fun h2=>?_) fun h2=>?_
 ·have hE:ruleF t r=(cJ t).2:=by unfold ruleF;rw [if_pos (by simpa using h2)]
  have hG:jF t r h=(cJ t).2:=by unfold jF;rw [if_pos (by rw [hE];simpa using h2),hE]
  exact wv (h:=hQ _ _ (by simp [go_sem,hG]))
 ·refine wv (h:=aB (En t ht r hr) wl ?_)
  refine dU (fun h5=>?_) fun h5=>?_
  ·have hG:jF t r h=ruleF t r:=by unfold jF;rw [if_pos (by simpa using h5)]
   exact wv (h:=hQ _ _ (by simp [go_sem,hG]))
  ·have hG:jF t r h=eR t h:=by unfold jF;rw [if_neg (by simpa using h5)]
   refine wv (h:=aB (oR t ht h) wl ?_)
   exact wv (h:=hQ _ _ (by simp [go_sem,hG,eR]))
theorem QC (l:List ByteArray):dX (l.map cS)=l.map cS:=lK fun c hc=>by
 rw [aS] at hc;obtain ⟨x,_,rfl⟩:=hc;rfl
theorem O4 (l:List Attr):dX (l.map Attr.c)=l.map Attr.c:=lK fun c hc=>by
 rw [aS] at hc;obtain ⟨x,_,rfl⟩:=hc
 simp [Attr.c,fW,jY,yV,dI,QC]
theorem O1 (l:List NodeTy):dX (l.map NodeTy.c)=l.map NodeTy.c:=lK fun c hc=>by
 rw [aS] at hc;obtain ⟨x,_,rfl⟩:=hc
 simp [NodeTy.c,fW,jY,dI,O4]
theorem Ki (l:List EdgeTy):dX (l.map EdgeTy.c)=l.map EdgeTy.c:=lK fun c hc=>by
 rw [aS] at hc;obtain ⟨x,_,rfl⟩:=hc
 simp [EdgeTy.c,fW,jY,dI]
theorem Pure.nzk {P:Program}{f:FuncId}{args args':List D}{r:D}(hp:Pure P f args' r)(ha:args.map jY=args'):Pure P f args r:=by
 subst ha
 refine ⟨hp.1,fun M w vals hM hv=>hp.2 M w vals hM ⟨by simpa using hv.len,fun j u d hu hd=>?_⟩⟩
 rw [aN,bC] at hd
 obtain ⟨y,hy,rfl⟩:=hd
 exact AR (hv.rep j u y hu hy)

section
variable {g:Graph} {p:Part} {more:Graph} {kept:Part} {im:List Int}
end
theorem Xn {g:Graph}{i:Nat}(h:i<g.edges.length):eA g i=g.edges[i]:=by unfold eA;simp [h]
section
variable {t:Types} {a b:Rule} {o:Ovl}
end
section
variable {g:Graph} {p q:List Int}
end
section
variable {t:Types} {g:Graph} {d:Dr24}
structure GrOk (t:Types) (g G:Graph):Prop where
 ok:graphF G=0
 ty:iL t G=true
 no:∀ i:Int,0≤i→i<g.nodes.length→gN G i=gN g i
 ed:∀ k:Int,0≤k→k<g.edges.length→eA G k=eA g k
 fi:∀ k:Int,g.edges.length≤k→k<G.edges.length→rA t (eA G k).type (gN G (eA G k).from_) (gN G (eA G k).to_)=true
 ln:g.nodes.length≤G.nodes.length
 le:g.edges.length≤G.edges.length
end
/-! ### type graphs -/
structure MadeTy (t:Types):Prop where
 v:(cJ t).2=0
 fine:t.fine
 ne:t.edges.length≤5
 nn:t.nodes.length≤6
structure SlotIn (t:Types) (ns:List Int) (v:Int) (s:Slot):Prop where
 n0:0≤s.node
 n1:s.node<ns.length
 a0:0≤s.attr
 a1:s.attr<(cN t (ns[s.node.toNat]?.getD 0)).length
 v0 : -1≤s.term.var
 v1:s.term.var<v
 d0 : -1000000≤s.term.add
 d1:s.term.add≤1000000
theorem SlotIn.mono {t:Types}{ns:List Int}{v w:Int}{s:Slot}(h:SlotIn t ns v s)(hv:v≤w):SlotIn t ns w s:=⟨h.n0,h.n1,h.a0,h.a1,h.v0,by have:=h.v1;omega,h.d0,h.d1⟩
def IC (t:Types)(d:Dr24):Part:=⟨(Nh (Q1 t d).nodes.length d.order).take (Ug t d).nodes.length,(Nh (Q1 t d).edges.length d.order).take (Ug t d).edges.length⟩
structure Core24 (t:Types) (d:Dr24):Prop where
 g0:graphF (w3 t d.left.graph)=0
 t0:iL t (w3 t d.left.graph)=true
 gR:graphF (L6 t d)=0
 tR:iL t (L6 t d)=true
 sub:subF (w3 t d.left.graph) (IB t d)=0
 mor:fH (dN (w3 t d.left.graph) (IB t d)) (L6 t d) (IC t d)=0
 inj:KB (dN (w3 t d.left.graph) (IB t d)) (L6 t d) (IC t d)=true
 mkb:EU t (L6 t d) (cV (IC t d).nodes (L6 t d).nodes.length) (cV (IC t d).edges (L6 t d).edges.length)=true
theorem CS (t:Types)(p:Pattern)(h:Host)(inj:Bool):(iJ t p h inj).1.length≤5000:=by
 unfold iJ
 split
 ·simp
 ·split
  ·simp
  ·split
   ·simp
   ·exact cQ (List.length_filterMap_le _ _) (Lq _ _ _ _)
theorem Qc (l:List Stp26):D.clLL (l.map Stp26.c)=true:=cE _ Stp26.cl l
attribute [go_sem] Qc
theorem S4 (t:Types)(r:Rule)(h:Host):(sU t r h).1.length≤5000:=by
 unfold sU
 split
 ·simp
 ·split
  ·simp
  ·exact cQ (fJ _ _) (CS _ _ _ _)
def scnC (t:Types)(h:Host)(inj:Bool):List D:=[.list (t.nodes.map NodeTy.c),.list (t.edges.map EdgeTy.c),dLI h.graph.nodes,.list (h.graph.edges.map Edge.c),.list (h.values.map cL),.bool inj]
def Qa (n i:Nat):List Bool:=List.replicate i true++List.replicate (n - i) false
theorem RX {n i:Nat}(h:i≤n):(Qa n i).length=n:=by simp [Qa];omega
theorem RW {n i:Nat}(h:i<n):(Qa n i).set i true=Qa n (i+1):=by
 unfold Qa
 rw [v8 _ _ (by simp),o5,rR,show n - i=(n - (i+1))+1 by omega,nH,kX,List.replicate_succ',List.append_assoc];rfl
theorem tZ (n:Nat)(hn:n≤1000)(at_ im:List Int)(h1:∀ x∈at_,0≤x∧x<n)(h2:at_.length≤im.length):Pure Tryz.prog 252 [dI n,dLI at_,dLI im] (dLI (EJ n at_ im)):=by
 refine Tz.pK ⟨fun t=>t==12,fun _=>[]⟩ Tryz.func252 rfl (fun Q hQ=>?_)
 have Y:=trivial
 refine wv (h:=kC (zV (-1) n hn) wl ?_)
 refine wv (h:=?_)
 repeat first|intro _|refine ⟨fT,?_⟩
 refine cD (fun k e H=>(e 0=dI n∧e 1=dLI at_∧e 2=dLI im∧e 7=.own 0 n∧e 13=dLI at_∧e 14=dI at_.length∧e 15=dI k)∧(H.get 0=some ⟨3,1,(Qw at_ im n k).map cI,false⟩)∧(0<H.next)∧(k≤at_.length)∧((Qw at_ im n k).length=n)) (fun k=>at_.length - k) 0 ⟨wg,(by (simp [go_sem,Y,Qw,cI])),wn,wi,(by (exact Iw _ _ _ _))⟩ fun I0 hI0 k e H hi0=>?_
 obtain ⟨E0,g0_0,n0_0,hk,hpl⟩:=hi0
 have Y:=wa Y (wa E0 (wa g0_0 (wa (cO n0_0) hpl)))
 refine dU (fun h3=>?_) fun h3=>?_
 ·have hki:k<im.length:=by omega
  have ha:=h1 _ (aC h3)
  have ha0:at_[k]?.getD 0=at_[k]:=by rw [aA h3];rfl
  have hi0:im[k]?.getD 0=im[k]:=by rw [aA hki];rfl
  have hal:at_[k].toNat<(Qw at_ im n k).length:=by omega
  have Y:=wa Y (wa h3 (wa (aA h3) (wa (aA hki) (aA hal))))
  refine wv (h:=?_)
  repeat first|intro _|refine ⟨fT,?_⟩
  exact wx hI0 (k+1) ⟨wg,(by (simp [go_sem,Y,J7,eF,ha0,hi0,cI])),wn,wj,(by (exact Iw _ _ _ _))⟩
 ·have hP:EJ n at_ im=Qw at_ im n k:=by unfold EJ Qw;rw [show k=at_.length by omega]
  exact wv (h:=hQ _ _ (by simp [go_sem,Y,hP,dLI]))
theorem In (t:Types)(inj:Bool)(p:Pattern)(h:Host)(m:Part)(hO:SOk p h m)(vs:List Int)(hl:vs.length≤p.vars.toNat)(hs:∀ v∈vs,-2000000≤v∧v≤2000000) :
  Pure Tryz.prog 254 [.agg (scnC t h inj),p.d,m.d,dLI vs] (.tup [dLI (gH p h m vs).1,.bool (decide ((gH p h m vs).2=0))]):=by
 have hv:=hO.vars
 have h0:=Qe hv.1 hl hs
 have hst0:LS p vs=(V4 vs p.vars.toNat,VG vs.length p.vars.toNat):=by unfold LS;rw [NH _ _ hl];rfl
 have hsub:(p.vars - (vs.length:Int)).toNat=p.vars.toNat - vs.length:=by omega
 have hsum:vs.length+(p.vars.toNat - vs.length)=p.vars.toNat:=by omega
 have hva:(vs.map cI++List.replicate (p.vars.toNat - vs.length) [D.int .i64 0])=(V4 vs p.vars.toNat).map cI:=by simp [V4,cI]
 refine Qs (by first|rfl|(simp [go_sem];done)) (fun Q hQ=>ACalls.bump 1 (aH (cfg:=⟨fun t=>t==22||t==11||t==14||t==20,fun r=>match r with|1=>[(1,2),(1,3),(1,5)]|_=>[]⟩) Tz.mixed Tryz.func254 rfl rfl (aD rfl) (by kernel_rfl) ?_))
 have Y:=wa hsub (wa hsum (wa @Pattern.d.eq_1 (wa @Pattern.c.eq_1 (wa @scnC.eq_1 (wa @Part.d.eq_1 (wa @Part.c.eq_1 @Term.c.eq_1))))))
 refine wv (h:=?_)
 repeat first|intro _|refine ⟨fT,?_⟩
 refine pH 0 (gM vs (by omega)) (by first|rfl|(simp [go_sem];done)) rfl (by first|omega|simp [go_sem]) (by simp [f8,iU,oG,FY]) (by first|trivial|(simp [go_sem];done)|simp [go_sem,Dr]) ?_
 refine wv (h:=?_)
 repeat first|intro _|refine ⟨fT,?_⟩
 refine cD (fun i e H=>(e 4=.adr (scnC t h inj)∧e 5=.adr p.c∧e 6=.adr m.c∧e 3=dLI vs∧e 10=.own 0 p.vars.toNat∧e 11=.own 10 p.vars.toNat∧e 33=dI vs.length∧e 34=dI i)∧(H.get 0=some ⟨3,1,(V4 vs p.vars.toNat).map cI,false⟩)∧(0<H.next)∧(H.get 10=some ⟨4,1,(Qa p.vars.toNat i).map cB,false⟩)∧(10<H.next)∧(i≤vs.length)) (fun i=>vs.length - i) 0 ⟨wg,(by (simp [go_sem,Y,hva])),wn,(by (simp [go_sem,Qa,cB])),wn,wi⟩ fun I0 hI0 i e H hi0=>?_
 obtain ⟨E0,g0_0,n0_0,g10_0,n10_0,hi⟩:=hi0
 have Y:=wa Y (wa E0 (wa g0_0 (wa (cO n0_0) (wa g10_0 (cO n10_0)))))
 refine dU (fun h4=>?_) fun h4=>?_
 ·have hTl:=RX (n:=p.vars.toNat) (i:=i) (by omega)
  have hTi:i<(Qa p.vars.toNat i).length:=by omega
  have hTs:((Qa p.vars.toNat i).map cB).set i [.bool true]=(Qa p.vars.toNat (i+1)).map cB:=by rw [← RW (by omega),eF];rfl
  have Y:=wa Y (wa h4 (wa hTl (wa (aA hTi) hTs)))
  refine wv (h:=?_)
  repeat first|intro _|refine ⟨fT,?_⟩
  exact wx hI0 (i+1) ⟨wg,wn,wn,(by (simp [go_sem,Y])),wn,wj⟩
 ·have hie:i=vs.length:=by omega
  have hTe:Qa p.vars.toNat i=VG vs.length p.vars.toNat:=by rw [hie,NH _ _ hl];rfl
  have Y:=wa Y hTe
  refine wv (h:=?_)
  repeat first|intro _|refine ⟨fT,?_⟩
  refine cD (fun i e H=>∃ st:List Int × List Bool,(e 4=.adr (scnC t h inj)∧e 5=.adr p.c∧e 6=.adr m.c∧e 3=dLI vs∧e 10=.own 0 p.vars.toNat∧e 11=.own 10 p.vars.toNat∧e 42=.list (p.slots.map Slot.c)∧e 43=dI p.slots.length∧e 44=dI i)∧(H.get 0=some ⟨3,1,st.1.map cI,false⟩)∧(0<H.next)∧(H.get 10=some ⟨4,1,st.2.map cB,false⟩)∧(10<H.next)∧(i≤p.slots.length)∧(StOk p.vars.toNat st)∧(i7 h m (LS p vs) (p.slots.take i)=some st)) (fun i=>p.slots.length - i) 0 ⟨((V4 vs p.vars.toNat,VG vs.length p.vars.toNat)),wg,(by (simp [go_sem,Y])),wn,(by (simp [go_sem,Y])),wn,wi,(by (rw [← hst0];exact h0)),(by (rw [hst0];rfl))⟩ fun I2 hI2 i e H hi2=>?_
  obtain ⟨st,E2,g0_2,n0_2,g10_2,n10_2,hi,hst,hsl⟩:=hi2
  have Y:=wa Y (wa E2 (wa g0_2 (wa (cO n0_2) (wa g10_2 (cO n10_2)))))
  refine dU (fun h9=>?_) fun h9=>?_
  ·obtain ⟨x,hx⟩:∃ x,x=p.slots[i]:=⟨_,rfl⟩
   have hxm:x∈p.slots:=hx ▸ aC h9
   have hn:=hO.node x hxm
   have hn2:x.node.toNat<m.nodes.length:=by omega
   have hk:=hO.img _ (aC hn2)
   have hk2:(m.nodes[x.node.toNat]).toNat<h.values.length:=by omega
   have ha:=hO.attr x hxm
   rw [aA hn2,aF,aA hk2,aF] at ha
   have ha2:x.attr.toNat<(h.values[(m.nodes[x.node.toNat]).toNat]).length:=by omega
   have hV:oF h m x=h.values[(m.nodes[x.node.toNat]).toNat][x.attr.toNat]:=by unfold oF;rw [aA hn2,aF,aA hk2,aF,aA ha2];rfl
   have hb:=hO.have_ hxm
   have hT:=hO.term x hxm
   have hl1:=hst.l1
   have hl2:=hst.l2
   have hTv:=hT.1
   have hTa:=hT.2
   have hSt:=CF h9 hsl
   rw [← hx] at hSt
   obtain ⟨s2,hs2e⟩:∃ y,y=o8 h m st x:=⟨_,rfl⟩
   have hs2:StOk p.vars.toNat s2:=hs2e ▸ Ee hst hb hT
   rw [← hs2e] at hSt
   have hs2n:¬ 0≤x.term.var→s2=st:=fun hn=>by rw [hs2e];unfold o8 q9;rw [if_neg (by simp [hn])]
   have vlt:0≤x.term.var→x.term.var.toNat<st.2.length:=fun hn=>by omega
   obtain ⟨kb,hkb⟩:∃ kb,kb=st.2[x.term.var.toNat]?.getD false:=⟨_,rfl⟩
   have hcase:0≤x.term.var∨(¬ 0≤x.term.var∧st.2[x.term.var.toNat]?=none)∨(¬ 0≤x.term.var∧st.2[x.term.var.toNat]?=some kb):=by
    by_cases hsp:0≤x.term.var
    ·exact .inl hsp
    ·right
     cases ho:st.2[x.term.var.toNat]? with
     | none=>exact .inl ⟨hsp,rfl⟩
     | some b=>rw [ho] at hkb;exact .inr ⟨hsp,by rw [hkb];rfl⟩
   rcases hcase with hc|hc|hc
   ·have Y:=wa Y (wa h9 (wa (aA h9) (wa (Eq.symm hx) (wa (aA hn2) (wa (aA hk2) (wa (aA ha2) (wa (Eq.symm hV) (wa @Slot.c.eq_1 (wa @cL.eq_1 (wa hl1 (wa hl2 (wa @qE (wa @cB.eq_1 (wa hc ((aA (vlt hc)))))))))))))))))
    refine wv (h:=?_)
    repeat first|intro _|refine ⟨fT,?_⟩
    refine wq (fun h13=>?_) fun h13=>?_
    ·have hF:q9 st x=true:=by simp only [q9,aQ,decide_eq_true_eq,cH];exact ⟨hc,by simpa [aA (vlt hc)] using h13⟩
     unfold o8 at hs2e
     rw [if_pos hF] at hs2e
     have hvl:x.term.var.toNat<st.1.length:=by omega
     have e1:s2.1.map cI=(st.1.map cI).set x.term.var.toNat (cI (oF h m x - x.term.add)):=by rw [hs2e,eF]
     have e2:s2.2.map cB=(st.2.map cB).set x.term.var.toNat (cB true):=by rw [hs2e,eF]
     have ecl:D.clLL ((st.1.map cI).set x.term.var.toNat [D.int .i64 (oF h m x - x.term.add)])=true:=by have:=sD s2.1;rw [e1] at this;exact this
     have Y:=wa Y (wa e1 (wa e2 (wa @dLI.eq_1 (wa @cI.eq_1 (wa (aA hvl) ecl)))))
     refine wv (h:=?_)
     repeat first|intro _|refine ⟨fT,?_⟩
     refine iC (lP x.term s2.1 (by rw [hs2.l1];exact hT) hs2.big) wr wl rfl ?_
     refine wv (h:=?_)
     repeat first|intro _|refine ⟨fT,?_⟩
     refine wq (fun h16=>?_) fun h16=>?_
     ·have hR:=iK (hSt.2 (by first|simpa using h16|simpa [hs2n hc.1] using h16|simpa [hs2e] using h16))
      exact wv (h:=hQ _ _ (by simp [go_sem,hR]))
     ·have hstep:=hSt.1 (by first|simpa using h16|simpa [hs2n hc.1] using h16|simpa [hs2e] using h16)
      refine wv (h:=?_)
      repeat first|intro _|refine ⟨fT,?_⟩
      exact wx hI2 (i+1) ⟨s2,wg,(by (simp [go_sem,Y])),wn,(by (simp [go_sem,Y])),wn,wj,(by exact hs2),(by exact hstep)⟩
    ·have hF:¬ q9 st x=true:=by simp only [q9,aQ,decide_eq_true_eq,cH];rintro ⟨_,hk⟩;simp [aA (vlt hc)] at hk;simp [hk] at h13
     unfold o8 at hs2e
     rw [if_neg hF] at hs2e
     have Y:=wa Y hs2e
     refine wv (h:=iC (lP x.term s2.1 (by rw [hs2.l1];exact hT) hs2.big) wr wl rfl ?_)
     refine wv (h:=?_)
     repeat first|intro _|refine ⟨fT,?_⟩
     refine wq (fun h16=>?_) fun h16=>?_
     ·have hR:=iK (hSt.2 (by first|simpa using h16|simpa [hs2n hc.1] using h16|simpa [hs2e] using h16))
      exact wv (h:=hQ _ _ (by simp [go_sem,hR]))
     ·have hstep:=hSt.1 (by first|simpa using h16|simpa [hs2n hc.1] using h16|simpa [hs2e] using h16)
      refine wv (h:=?_)
      repeat first|intro _|refine ⟨fT,?_⟩
      exact wx hI2 (i+1) ⟨s2,wg,(by (simp [go_sem,Y])),wn,(by (simp [go_sem,Y])),wn,wj,(by exact hs2),(by exact hstep)⟩
   ·have Y:=wa Y (wa h9 (wa (aA h9) (wa (Eq.symm hx) (wa (aA hn2) (wa (aA hk2) (wa (aA ha2) (wa (Eq.symm hV) (wa @Slot.c.eq_1 (wa @cL.eq_1 (wa hl1 (wa hl2 (wa @qE (wa @cB.eq_1 (wa hc.1 (wa hc.2 (hs2n hc.1))))))))))))))))
    refine wv (h:=?_)
    repeat first|intro _|refine ⟨fT,?_⟩
    refine iC (lP x.term s2.1 (by rw [hs2.l1];exact hT) hs2.big) wr wl rfl ?_
    refine wv (h:=?_)
    repeat first|intro _|refine ⟨fT,?_⟩
    refine wq (fun h16=>?_) fun h16=>?_
    ·have hR:=iK (hSt.2 (by first|simpa using h16|simpa [hs2n hc.1] using h16|simpa [hs2e] using h16))
     exact wv (h:=hQ _ _ (by simp [go_sem,hR]))
    ·have hstep:=hSt.1 (by first|simpa using h16|simpa [hs2n hc.1] using h16|simpa [hs2e] using h16)
     refine wv (h:=?_)
     repeat first|intro _|refine ⟨fT,?_⟩
     exact wx hI2 (i+1) ⟨s2,wg,(by (simp [go_sem,Y])),wn,(by (simp [go_sem,Y])),wn,wj,(by exact hs2),(by exact hstep)⟩
   ·have Y:=wa Y (wa h9 (wa (aA h9) (wa (Eq.symm hx) (wa (aA hn2) (wa (aA hk2) (wa (aA ha2) (wa (Eq.symm hV) (wa @Slot.c.eq_1 (wa @cL.eq_1 (wa hl1 (wa hl2 (wa @qE (wa @cB.eq_1 (wa hc.1 (wa hc.2 (hs2n hc.1))))))))))))))))
    refine wv (h:=?_)
    repeat first|intro _|refine ⟨fT,?_⟩
    refine iC (lP x.term s2.1 (by rw [hs2.l1];exact hT) hs2.big) wr wl rfl ?_
    refine wv (h:=?_)
    repeat first|intro _|refine ⟨fT,?_⟩
    refine wq (fun h16=>?_) fun h16=>?_
    ·have hR:=iK (hSt.2 (by first|simpa using h16|simpa [hs2n hc.1] using h16|simpa [hs2e] using h16))
     exact wv (h:=hQ _ _ (by simp [go_sem,hR]))
    ·have hstep:=hSt.1 (by first|simpa using h16|simpa [hs2n hc.1] using h16|simpa [hs2e] using h16)
     refine wv (h:=?_)
     repeat first|intro _|refine ⟨fT,?_⟩
     exact wx hI2 (i+1) ⟨s2,wg,(by (simp [go_sem,Y])),wn,(by (simp [go_sem,Y])),wn,wj,(by exact hs2),(by exact hstep)⟩
  ·rw [aK (by omega)] at hsl
   have hR0:=uG hsl
   have hl1:=hst.l1
   have Y:=wa Y hl1
   refine wv (h:=?_)
   repeat first|intro _|refine ⟨fT,?_⟩
   refine cD (fun k e H=>(e 4=.adr (scnC t h inj)∧e 5=.adr p.c∧e 6=.adr m.c∧e 3=dLI vs∧e 10=.own 0 p.vars.toNat∧e 102=.list (p.tests.map Test.c)∧e 103=dI p.tests.length∧e 104=dI k)∧(H.get 0=some ⟨3,1,st.1.map cI,false⟩)∧(0<H.next)∧(k≤p.tests.length)∧((p.tests.take k).all (fun x=>LI x st.1)=true)) (fun k=>p.tests.length - k) 0 ⟨wg,wn,wn,wi,(by rfl)⟩ fun I4 hI4 k e H hi4=>?_
   obtain ⟨E4,g0_4,n0_4,hk,hall⟩:=hi4
   have Y:=wa Y (wa E4 (wa g0_4 (cO n0_4)))
   refine dU (fun h20=>?_) fun h20=>?_
   ·have hX:=hO.test _ (aC h20)
    have Y:=wa Y (wa h20 (wa (aA h20) @Test.c.eq_1))
    refine wv (h:=?_)
    repeat first|intro _|refine ⟨fT,?_⟩
    refine iC (tX p.tests[k] st.1 (by rw [hst.l1];exact hX) hst.big) wr wl rfl ?_
    refine wv (h:=?_)
    repeat first|intro _|refine ⟨fT,?_⟩
    refine wq (fun h22=>?_) fun h22=>?_
    ·have hR:gH p h m vs=([],16):=by
      rw [hR0,if_neg]
      intro ha
      rw [dJ] at ha
      have:=ha _ (aC h20)
      simp [this] at h22
     exact wv (h:=hQ _ _ (by simp [go_sem,hR]))
    ·refine wv (h:=?_)
     repeat first|intro _|refine ⟨fT,?_⟩
     exact wx hI4 (k+1) ⟨wg,wn,wn,wj,(by (rw [aG h20,List.all_append,hall];simp;simpa using h22))⟩
   ·rw [aK (by omega)] at hall
    rw [if_pos hall] at hR0
    exact wv (h:=hQ _ _ (by simp [go_sem,Y,hR0,dLI]))
theorem BP (t:Types)(ht:t.ok)(p:Pattern)(c:Cond)(hE:ExOk t p c.map c.pattern)(h:Host)(ho:HostOk t h)(m:Mat)(hm:MatOk t p h m)(inj:Bool) :
  Pure Tryz.prog 247 [.agg (scnC t h inj),.agg c.c,m.d] (.tup [.list ((Cc t c.map c.pattern h m inj).1.map Mat.c),dI (Cc t c.map c.pattern h m inj).2]):=by
 obtain ⟨⟨hl1,hl2⟩,hi1,hi2⟩:=hE.img
 have hq:=c9 hE.pq.gg
 have hn1:=hm.mok.len
 have hn2:=hm.mok.elen
 refine Tz.pK ⟨fun t=>t==8||t==9||t==12||t==14,fun r=>match r with|2=>[(0,21),(1,21),(2,21),(3,21),(4,21),(5,21),(6,21),(7,21),(8,21),(9,21),(10,21),(11,21),(12,21),(13,21),(14,21),(15,21),(16,21),(17,21),(18,21),(19,21)]|_=>[]⟩ Tryz.func247 rfl (fun Q hQ=>?_)
 obtain ⟨X,hX⟩:∃ X,X=tT t c.pattern.graph h.graph (tK c.map c.pattern m.m) inj:=⟨_,rfl⟩
 have hXm:∀ x∈X.1,MOk t c.pattern.graph h.graph x:=fun x hx=>KO (hX ▸ hx)
 have hX5:X.1.length≤5000:=hX ▸ SH _ _ _ _ _
 have hvl:m.vars.length≤c.pattern.vars.toNat:=by have:=hm.vl;have:=hE.pv;have:=hE.p0;omega
 have hXE:Cc t c.map c.pattern h m inj=if X.2≠0 then ([],X.2) else (wF c.pattern h m.vars X.1,0):=by unfold Cc;rw [← hX]
 have Y:=wa @Cond.c_eq (wa @scnC.eq_1 (wa @Mat.d.eq_1 @Mat.c.eq_1))
 refine wp (h:=bB (tZ c.pattern.graph.nodes.length (by omega) c.map.nodes m.m.nodes hi1 (by omega)) wl ?_)
 refine wp (h:=bB (tZ c.pattern.graph.edges.length (by omega) c.map.edges m.m.edges hi2 (by omega)) wl ?_)
 refine wp (h:=aB ((by have hq:=Gl t ht c.pattern.graph h.graph (tK c.map c.pattern m.m) inj;rw [← hX] at hq;unfold tK Types.d Types.c Graph.d Graph.c Part.d Part.c dLI at hq;exact hq)) wl ?_)
 refine qJ (fun h4=>?_) fun h4=>?_
 ·rw [if_pos h4] at hXE
  exact wv (h:=hQ _ _ (by simp [go_sem,hXE]))
 ·rw [if_neg (by omega)] at hXE
  refine wp (h:=cD (fun i e H=>∃ ms:List Mat,(e 3=.adr (scnC t h inj)∧e 4=.adr c.c∧e 5=.adr m.c∧e 57=.list (X.1.map Part.c)∧e 58=dI X.1.length∧e 12=.own 24 ms.length∧e 59=dI i)∧(H.get 24=some ⟨35,3,ms.map Mat.c,false⟩)∧(24<H.next)∧(i≤X.1.length)∧(ms=wF c.pattern h m.vars (X.1.take i))∧(ms.length≤i)) (fun i=>X.1.length - i) 0 ⟨([]),wg,wn,wn,wi,(by rfl),(by (simp))⟩ fun I0 hI0 i e H hi0=>?_)
  obtain ⟨ms,E0,g24_0,n24_0,hi,hms,hml⟩:=hi0
  have Y:=wa Y (wa E0 (wa g24_0 (cO n24_0)))
  refine dU (fun h8=>?_) fun h8=>?_
  ·obtain ⟨v,hv⟩:∃ v,v=gH c.pattern h X.1[i] m.vars:=⟨_,rfl⟩
   obtain ⟨ms2,hms2⟩:∃ y,y=ms++if v.2=0 then [(⟨X.1[i],v.1⟩:Mat)] else []:=⟨_,rfl⟩
   have Y:=wa Y (wa h8 (wa (aA h8) (wa @Part.c.eq_1 @Pattern.c.eq_1)))
   refine wp (h:=aB ((by have hq:=In t inj c.pattern h X.1[i] (Wd hE.pq ho (hXm _ (aC h8))) m.vars hvl hm.vs;rw [← hv] at hq;unfold scnC Pattern.d Pattern.c Part.d Part.c dLI at hq;exact hq)) wl ?_)
   refine qJ (fun h11=>?_) fun h11=>?_
   ·have hm3:ms2=ms++[⟨X.1[i],v.1⟩]:=by rw [hms2,if_pos (by simpa using h11)]
    have Y:=wa Y hm3
    exact wp (h:=wx hI0 (i+1) ⟨ms2,wg,wn,wn,wj,(by (rw [aG h8,uE,← hms,← hv];exact hms2)),(by (rw [hms2];split<;>simp<;>omega))⟩)
   ·have hm3:ms2=ms:=by rw [hms2,if_neg (by simpa using h11),gJ]
    have Y:=wa Y hm3
    exact wp (h:=wx hI0 (i+1) ⟨ms2,wg,wn,wn,wj,(by (rw [aG h8,uE,← hms,← hv];exact hms2)),(by (rw [hms2];split<;>simp<;>omega))⟩)
  ·rw [aK (by omega)] at hms
   exact wv (h:=hQ _ _ (by simp [go_sem,Y,hXE,← hms]))
end Go.Abs
end
