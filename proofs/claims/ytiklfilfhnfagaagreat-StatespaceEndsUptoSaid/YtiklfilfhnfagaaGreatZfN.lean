/- The search of the program: shape, given, open, fits, possibl -/
import Derived.Test.YtiklfilfhnfagaaGreatZfG
import Derived.Test.YtiklfilfhnfagaaGreatZfM
import Derived.Test.YtiklfilfhnfagaaGreatZfA
import Derived.RangeFuncBox
import Derived.RangeFuncLeaves
import Derived.Shelf.Abstract
import Derived.WalkKit
import Derived.OwnWalkIn
import Derived.TacticsInMore
import Derived.LoopNIn
import Derived.LoopIn
import Derived.Maps.AppendAt
set_option linter.unusedVariables false
set_option linter.unusedSimpArgs false
section
set_option maxRecDepth 100000
set_option maxHeartbeats 4000000
open Go Go.Proofs
namespace Go.Abs
theorem IM {t:Types}(hv:(cJ t).2=0){k:Int}(h:0≤k∧k<t.nodes.length):iV t k k=0:=by
 unfold iV;rw [if_neg (by rw [hv];simp),if_pos (by simp [insideF];omega)]
@[go_sem] theorem WE (t:Types)(a:Nat):(Ir t a).length=t.nodes.length:=by simp [Ir,pT]
theorem G1 {t:Types}{a:Int}(h:0≤a∧a<t.nodes.length):(pR t t.nodes.length)[a.toNat]?=some [.list ((Ir t a.toNat).map cB)]:=by
 unfold pR
 rw [aN,iW (by omega)];rfl
theorem MZ {t:Types}(hv:(cJ t).2=0){a b:Int}(ha:0≤a∧a<t.nodes.length)(hb:0≤b∧b<t.nodes.length):mem (i9 t a) b=yY t a b:=by
 unfold i9 yY
 rw [if_pos (IM hv ha),bF,mem_iff,aS]
 constructor
 ·rintro ⟨k,hk,rfl⟩
  rw [dM] at hk
  simpa using hk.2
 ·intro h
  exact ⟨b.toNat,by rw [dM];exact ⟨by simp;omega,h⟩,by omega⟩
theorem JT {t:Types}(hv:(cJ t).2=0){a b:Int}(ha:0≤a∧a<t.nodes.length)(hb:0≤b∧b<t.nodes.length):(Ir t a.toNat)[b.toNat]?=some (yY t a b):=by
 unfold Ir pT
 rw [aN,iW (by omega),dK,Int.toNat_of_nonneg ha.1,Int.toNat_of_nonneg hb.1,MZ hv ha hb]
theorem AC (t:Types)(ht:t.ok)(p g:Graph)(hG:G17 t p g)(hv:(cJ t).2=0)(m:Part):Pure Tryz.prog 144 [t.d,p.d,g.d,m.d] (dI (jW t p g m false)):=by
 have hga:=c9 hG.gp
 have hgb:=c9 hG.gg
 have hia:=(gA hG.gp).2
 refine Tz.pK ⟨fun t=>t==14||t==15,fun r=>match r with|17=>[(0,10),(1,10),(3,10),(4,10),(5,10),(6,10),(8,10),(9,10),(0,11),(1,11),(3,11),(4,11),(5,11),(6,11),(8,11),(9,11),(10,11),(5,12),(6,12),(8,12),(9,12)]|_=>[]⟩ Tryz.func144 rfl (fun Q hQ=>?_)
 have Y:=@belowD.eq_1
 refine mP (fun h1=>?_) fun h1=>?_
 ·have hM:jW t p g m false=20:=by unfold jW;rw [if_pos (by omega)]
  exact wv (h:=hQ _ _ (by simp [go_sem,hM]))
 ·have hM:jW t p g m false=(if bY (P2 t p g m) 0 p.nodes.length≠0 then bY (P2 t p g m) 0 p.nodes.length else if bY (l9 p g m) 0 p.edges.length≠0 then bY (l9 p g m) 0 p.edges.length else if false=true∧(¬ m.nodes.Nodup∨¬ m.edges.Nodup) then 5 else 0):=by unfold jW;rw [if_neg (by omega)]
  have hl1:m.nodes.length=p.nodes.length:=by omega
  have hl2:m.edges.length=p.edges.length:=by omega
  refine wv (h:=aB (AD t ht) wl ?_)
  refine wo (h:=cD (fun i e H=>(e 4=.adr t.c∧e 5=.adr p.c∧e 6=.adr g.c∧e 7=.adr m.c∧e 9=.list (pR t t.nodes.length)∧e 35=dLI m.nodes∧e 36=dI m.nodes.length∧e 37=dI i)∧(i≤m.nodes.length)∧(bY (P2 t p g m) i (p.nodes.length - i)=bY (P2 t p g m) 0 p.nodes.length)) (fun i=>m.nodes.length - i) 0 ⟨wg,wi,(by rfl)⟩ fun I0 hI0 i e H hi0=>?_)
  obtain ⟨E0,hi,hF⟩:=hi0
  have Y:=wa Y E0
  refine dU (fun h5=>?_) fun h5=>?_
  ·have hn:i<p.nodes.length:=by omega
   have hst:=j6 (P2 t p g m) hn
   rw [hF] at hst
   have hNE:P2 t p g m i=(if m.nodes[i]<0∨(g.nodes.length:Int)≤m.nodes[i] then 6 else if yY t p.nodes[i] (g.nodes[m.nodes[i].toNat]?.getD 0)=true then 0 else 13):=by simp only [P2,aA h5,aA hn,aF]
   have hbp:=hG.tp _ (aC hn)
   have Y:=wa Y (wa h5 (wa (aA h5) (aA hn)))
   refine mP (fun h7=>?_) fun h7=>?_
   ·rw [if_pos (by omega)] at hNE
    rw [hNE,if_pos (by omega)] at hst
    rw [hst,if_pos (by omega)] at hM
    exact wv (h:=hQ _ _ (by simp [go_sem,hM]))
   ·have hkb:m.nodes[i].toNat<g.nodes.length:=by omega
    rw [if_neg (by omega),aA hkb,aF] at hNE
    have hbg:=hG.tg _ (aC hkb)
    have hrw:=G1 hbp
    have hrb:=JT hv hbp hbg
    have Y:=wa Y (wa (aA hkb) (wa hrw hrb))
    refine mP (fun h9=>?_) fun h9=>?_
    ·rw [if_neg (by simpa using h9)] at hNE
     rw [hNE,if_pos (by omega)] at hst
     rw [hst,if_pos (by omega)] at hM
     exact wv (h:=hQ _ _ (by simp [go_sem,hM]))
    ·rw [if_pos (by simpa using h9)] at hNE
     rw [hNE,if_neg (by omega)] at hst
     exact wo (h:=wx hI0 (i+1) ⟨wg,wj,(by exact hst.symm)⟩)
  ·have hN0:bY (P2 t p g m) 0 p.nodes.length=0:=by rw [← hF,show p.nodes.length - i=0 by omega];rfl
   rw [hN0,if_neg (by omega)] at hM
   refine wo (h:=cD (fun k e H=>(e 4=.adr t.c∧e 5=.adr p.c∧e 6=.adr g.c∧e 7=.adr m.c∧e 9=.list (pR t t.nodes.length)∧e 69=dLI m.edges∧e 70=dI m.edges.length∧e 71=dI k)∧(k≤m.edges.length)∧(bY (l9 p g m) k (p.edges.length - k)=bY (l9 p g m) 0 p.edges.length)) (fun k=>m.edges.length - k) 0 ⟨wg,wi,(by rfl)⟩ fun I2 hI2 k e H hi2=>?_)
   obtain ⟨E2,hk,hE⟩:=hi2
   have Y:=wa Y E2
   refine dU (fun h13=>?_) fun h13=>?_
   ·have hn:k<p.edges.length:=by omega
    have hst:=j6 (l9 p g m) hn
    rw [hE] at hst
    have hx:=hia _ (aC hn)
    have hxf:p.edges[k].from_.toNat<m.nodes.length:=by omega
    have hxt:p.edges[k].to_.toNat<m.nodes.length:=by omega
    have hEE:l9 p g m k=(if m.edges[k]<0∨(g.edges.length:Int)≤m.edges[k] then 6 else if p.edges[k].type≠(g.edges[m.edges[k].toNat]?.getD cC).type then 13 else if m.nodes[p.edges[k].from_.toNat]≠(g.edges[m.edges[k].toNat]?.getD cC).from_∨m.nodes[p.edges[k].to_.toNat]≠(g.edges[m.edges[k].toNat]?.getD cC).to_ then 11 else 0):=by
     simp only [l9,aA h13,aA hn,aF,aA hxf,aA hxt]
    have Y:=wa Y (wa h13 (wa (aA h13) (wa (aA hn) (wa (aA hxf) (aA hxt)))))
    refine mP (fun h15=>?_) fun h15=>?_
    ·rw [if_pos (by omega)] at hEE
     rw [hEE,if_pos (by omega)] at hst
     rw [hst,if_pos (by omega)] at hM
     exact wv (h:=hQ _ _ (by simp [go_sem,hM]))
    ·have hkb:m.edges[k].toNat<g.edges.length:=by omega
     rw [if_neg (by omega),aA hkb,aF] at hEE
     have Y:=wa Y (aA hkb)
     refine mP (fun h18=>?_) fun h18=>?_
     ·rw [if_pos h18] at hEE
      rw [hEE,if_pos (by omega)] at hst
      rw [hst,if_pos (by omega)] at hM
      exact wv (h:=hQ _ _ (by simp [go_sem,hM]))
     ·rw [if_neg (by simpa using h18)] at hEE
      refine mP (fun h20=>?_) fun h20=>?_
      ·rw [if_pos (by omega)] at hEE
       rw [hEE,if_pos (by omega)] at hst
       rw [hst,if_pos (by omega)] at hM
       exact wv (h:=hQ _ _ (by simp [go_sem,hM]))
      ·rw [if_neg (by omega)] at hEE
       rw [hEE,if_neg (by omega)] at hst
       exact wo (h:=wx hI2 (k+1) ⟨wg,wj,(by exact hst.symm)⟩)
   ·have hE0:bY (l9 p g m) 0 p.edges.length=0:=by rw [← hE,show p.edges.length - k=0 by omega];rfl
    rw [hE0,if_neg (by omega)] at hM
    rw [if_neg (by simp)] at hM
    exact wv (h:=hQ _ _ (by simp [go_sem,hM]))
/-! ### the finder -/
theorem Gk (i:Nat):Pure Tryz.prog 240 [.nil,dI i] (dI (-1)):=by
 refine Tz.pK ⟨fun _=>false,fun _=>[]⟩ Tryz.func240 rfl (fun Q hQ=>?_)
 have Y:=trivial
 exact wv (h:=hQ _ _ wy)
theorem Ii (l:List Int){i:Nat}(h:i<l.length):Pure Tryz.prog 240 [dLI l,dI i] (dI l[i]):=by
 have hne:l≠[]:=fun e=>by rw [e] at h;simp at h
 refine Tz.pK ⟨fun _=>false,fun _=>[]⟩ Tryz.func240 rfl (fun Q hQ=>?_)
 have Y:=wa (aA h) hne
 exact wo (h:=hQ _ _ wy)
def GivD (d:D)(l:List Int)(n:Nat):Prop:=d.cl=true∧∀ i,i<n→Pure Tryz.prog 240 [d,dI i] (dI (l[i]?.getD (-1)))
theorem GivD.nil (n:Nat):GivD .nil (List.replicate n (-1)) n:=⟨rfl,fun i hi=>by
 have:=Gk i
 rw [eG,if_pos hi];exact this⟩
theorem GivD.list (l:List Int):GivD (dLI l) l l.length:=⟨mC l,fun i hi=>by rw [aA hi];exact Ii l hi⟩
theorem Ih (k n:Int):Pure Tryz.prog 256 [dI k,.adr [dI n]] (.bool (decide (k < -1)||decide (n≤k))):=by
 refine Tz.pK ⟨fun _=>false,fun _=>[]⟩ Tryz.func256 rfl (fun Q hQ=>?_)
 have Y:=trivial
 exact wo (h:=hQ _ _ wy)
theorem HC {f:Nat→Int}{c:Int}(h:∀ j,f j=0∨f j=c):∀ n k,bY f k n=0∨bY f k n=c
 | 0,k=>.inl rfl
 | n+1,k=>by
  unfold bY
  split
  ·rename_i h1;exact .inr ((h k).resolve_left h1)
  ·exact HC h n (k+1)
theorem Kh (l:List Int)(n:Int):vD l n=if (l.any fun k=>decide (k < -1)||decide (n≤k))=true then 6 else 0:=by
 by_cases h:(l.any fun k=>decide (k < -1)||decide (n≤k))=true
 ·rw [if_pos h]
  rcases HC (f:=Kg n l) (c:=6) (fun j=>by unfold Kg;split<;>simp) l.length 0 with h0|h0
  ·obtain ⟨x,hx,hk⟩:=bX.1 h
   obtain ⟨i,hi,rfl⟩:=aM hx
   have:=eJ _ _ h0 i (by omega) (by omega)
   unfold Kg at this
   rw [aA hi,aF] at this
   simp only [cK,decide_eq_true_eq] at hk
   rw [if_pos hk] at this;cases this
  ·exact h0
 ·rw [if_neg h]
  refine oS _ _ fun j _ hj=>?_
  unfold Kg
  rw [if_neg]
  intro hk
  have hj':j<l.length:=by omega
  rw [aA hj',aF] at hk
  exact h (bX.2 ⟨_,aC hj',by simpa using hk⟩)
theorem CH (l:List Int)(n:Int):Pure Tryz.prog 255 [dLI l,dI n] (dI (vD l n)):=by
 refine Tz.pK ⟨fun _=>false,fun _=>[]⟩ Tryz.func255 rfl (fun Q hQ=>?_)
 have Y:=trivial
 refine wv (h:=aB (fO l 256 [.adr [dI n]] (fun k=>decide (k < -1)||decide (n≤k)) (by simp [go_sem]) (by simp [go_sem]) (fun k _=>Ih k n)) wl ?_)
 refine dU (fun h1=>?_) fun h1=>?_
 ·have hO:vD l n=6:=by rw [Kh,if_pos (by simpa using h1)]
  exact wv (h:=hQ _ _ (by simp [go_sem,hO]))
 ·have hO:vD l n=0:=by rw [Kh,if_neg (by simpa using h1)]
  exact wv (h:=hQ _ _ (by simp [go_sem,hO]))
def Srch.cellP (S:Srch)(most:Int)(pn pe ns es ou:D):List D:=[dLI S.p.nodes,.list (S.p.edges.map Edge.c),dLI S.g.nodes,.list (S.g.edges.map Edge.c),.list (pR S.t S.t.nodes.length),pn,pe,.bool S.inj,dI most,ns,es,ou]
def Dm (S:Srch)(l:List Int)(i k:Nat):Bool:=A1 S.pe i k&&IJ S l i k
theorem CI (S:Srch)(most:Int)(pn pe es ou:D)(hpn:pn.cl=true)(hes:es.cl=true)(hou:ou.cl=true)(l:List Int)(i k:Nat)(hi:i<S.p.edges.length)(hk:k<S.g.edges.length)
  (hpe:GivD pe S.pe S.p.edges.length) (hf0:0≤S.p.edges[i].from_) (hf:S.p.edges[i].from_.toNat<l.length) (hf0':0≤S.p.edges[i].to_) (hft:S.p.edges[i].to_.toNat<l.length) :
  Pure Tryz.prog 242 [.adr (S.cellP most pn pe (dLI l) es ou),dI i,dI k] (.bool (Dm S l i k)):=by
 have hpc:=hpe.1
 obtain ⟨v,hv⟩:∃ v,v=S.pe[i]?.getD (-1):=⟨_,rfl⟩
 have hgv:=hpe.2 i hi
 rw [← hv] at hgv
 have hFr:A1 S.pe i k=(decide (v<0)||decide (v=(k:Int))):=by unfold A1;rw [← hv]
 have hH:IJ S l i k=(decide (S.g.edges[k].type=S.p.edges[i].type)&&(decide (S.g.edges[k].from_=l[S.p.edges[i].from_.toNat])&&decide (S.g.edges[k].to_=l[S.p.edges[i].to_.toNat]))):=by
  simp only [IJ,Xm,UM,aA hk,aA hi,aF,aA hf,aA hft]
  simp
 refine Tz.pK ⟨fun t=>t==7,fun _=>[]⟩ Tryz.func242 rfl (fun Q hQ=>?_)
 have Y:=wa @Srch.cellP.eq_1 (wa (aA hi) (wa (aA hk) (wa (aA hf) (wa (aA hft) (wa @Edge.c.eq_1 (wa hpn (wa hes (wa hou hpc))))))))
 refine wo (h:=aB (hgv) wl ?_)
 refine mP (fun h3=>?_) fun h3=>?_
 ·have hE:Dm S l i k=false:=by unfold Dm;rw [hFr,show decide (v<0)=false by simp;omega,show decide (v=(k:Int))=false by simp;omega];rfl
  exact wv (h:=hQ _ _ (by simp [go_sem,hE]))
 ·have hE:Dm S l i k=IJ S l i k:=by
   unfold Dm;rw [hFr]
   rcases Int.lt_or_le v 0 with h|h
   ·simp [h]
   ·simp [h3 h]
  exact wo (h:=hQ _ _ (by simp [go_sem,hE,hH,NJ,Bool.and_assoc]))
theorem De (S:Srch)(hp:graphF S.p=0)(hg:graphF S.g=0)(most:Int)(pn pe es ou:D)(hpn:pn.cl=true)(hes:es.cl=true)(hou:ou.cl=true)(l:List Int)(hpe:GivD pe S.pe S.p.edges.length) :
  Pure Tryz.prog 241 [.adr (S.cellP most pn pe (dLI l) es ou)] (.bool (rZ S l)):=by
 have hpc:=hpe.1
 have hpi:=(gA hp).2
 have hla:=c9 hp
 have hlb:=c9 hg
 have hcl:D.clL (S.cellP most pn pe (dLI l) es ou)=true:=by simp [go_sem,Srch.cellP,D.clL,hpn,hes,hou,hpc]
 refine Tz.pK ⟨fun t=>t==5,fun _=>[]⟩ Tryz.func241 rfl (fun Q hQ=>?_)
 have Y:=wa @Srch.cellP.eq_1 (wa hpn (wa hes (wa hou hpc)))
 refine wo (h:=cD (fun i e H=>(e 0=.adr (S.cellP most pn pe (dLI l) es ou)∧e 3=dI ((l.length:Int) - 1)∧e 18=.list (S.p.edges.map Edge.c)∧e 19=dI S.p.edges.length∧e 20=dI i)∧(i≤S.p.edges.length)∧(∀ j,j<i→EI S l j=true)) (fun i=>S.p.edges.length - i) 0 ⟨wg,wi,(by (intro j hj;omega))⟩ fun I0 hI0 i e H hi0=>?_)
 obtain ⟨E0,hi,hK⟩:=hi0
 have Y:=wa Y E0
 refine dU (fun h3=>?_) fun h3=>?_
 ·have hxi:=(hpi _ (aC h3)).2
  have hKe:EI S l i=(decide (max S.p.edges[i].from_ S.p.edges[i].to_≠(l.length:Int) - 1)||(List.range S.g.edges.length).any (Dm S l i)):=by
   unfold EI;rw [aA h3,aF];rfl
  have Y:=wa Y (wa h3 (wa (aA h3) @Edge.c.eq_1))
  refine mP (fun h5=>?_) fun h5=>?_
  ·have hKi:EI S l i=true:=by rw [hKe];simp;omega
   exact wo (h:=wx hI0 (i+1) ⟨wg,wj,(by (intro j hj;rcases bQ j i with hji|hji;exact hK j hji;(obtain rfl:j=i:=(by omega);exact hKi)))⟩)
  ·have hf:S.p.edges[i].from_.toNat<l.length:=by omega
   have hft:S.p.edges[i].to_.toNat<l.length:=by omega
   have hx0:=hxi.1.1
   have hx1:=hxi.2.1
   have h2:=h3
   have Y:=wa Y h5
   refine wo (h:=cD (fun k e H=>(e 0=.adr (S.cellP most pn pe (dLI l) es ou)∧e 3=dI ((l.length:Int) - 1)∧e 18=.list (S.p.edges.map Edge.c)∧e 19=dI S.p.edges.length∧e 20=dI i∧e 4=dI i∧e 6=.bool false∧e 37=dI S.g.edges.length∧e 38=dI k)∧(k≤S.g.edges.length)∧((List.range k).any (Dm S l i)=false)) (fun k=>S.g.edges.length - k) 0 ⟨wg,wi,(by rfl)⟩ fun I2 hI2 k e H hi2=>?_)
   obtain ⟨E2,hk,hb⟩:=hi2
   have Y:=wa Y E2
   refine dU (fun h8=>?_) fun h8=>?_
   ·obtain ⟨fb,hfb0⟩:∃ b,b=Dm S l i k:=⟨_,rfl⟩
    have Y:=wa Y h8
    refine wv (h:=aB (CI S most pn pe es ou hpn hes hou l i k h2 h8 hpe hx0 hf hx1 hft) wl ?_)
    refine dU (fun h10=>?_) fun h10=>?_
    ·have hKi:EI S l i=true:=by
      rw [hKe,cK];right
      exact bX.2 ⟨k,by simpa using h8,by simpa using h10⟩
     exact wo (h:=wx hI0 (i+1) ⟨wg,wj,(by (intro j hj;rcases bQ j i with hji|hji;exact hK j hji;(obtain rfl:j=i:=(by omega);exact hKi)))⟩)
    ·have hfb:Dm S l i k=false:=by simpa using h10
     have Y:=wa Y h10
     exact wo (h:=wx hI2 (k+1) ⟨wg,wj,(by (rw [FW,hb,hfb];rfl))⟩)
   ·have hb0:(List.range S.g.edges.length).any (Dm S l i)=false:=by rw [show S.g.edges.length=k by omega];exact hb
    have hE:rZ S l=false:=by
     simp only [rZ,List.all_eq_false,b7]
     exact ⟨i,h3,by rw [hKe,hb0];simp;omega⟩
    exact wo (h:=hQ _ _ (by simp [go_sem,hE]))
 ·have hE:rZ S l=true:=by
   simp only [rZ,dJ,b7]
   exact fun j hj=>hK j (by omega)
  exact wv (h:=hQ _ _ (by simp [go_sem,hE]))
def HE (S:Srch)(N:Nat)(ns es:List Int)(out:List Part):List Part:=if ns.length<S.p.nodes.length then Nv S N (S.p.nodes.length - ns.length) ns out else Nf S N ns (S.p.edges.length - es.length) es out
theorem Qu (S:Srch){N:Nat}(d:Nat)(l:List Int){ou:List Part}(h:N≤ou.length):Nv S N d l ou=ou:=by cases d<;>simp only [Nv,if_pos h]
theorem Fp (S:Srch){N:Nat}(ns es:List Int){ou:List Part}(h:N≤ou.length):HE S N ns es ou=ou:=by
 unfold HE;split;exact Qu S _ _ h;exact JI _ _ _ h
theorem Fo (S:Srch)(N:Nat)(ns:List Int)(ou:List Part):HE S N ns [] ou=Nv S N (S.p.nodes.length - ns.length) ns ou:=by
 unfold HE
 split
 ·rfl
 ·rename_i h
  rw [show S.p.nodes.length - ns.length=0 by omega]
  simp only [Nv,mH,Nat.sub_zero]
  split
  ·rename_i h2;exact JI _ _ _ h2
  ·rfl
structure FdS (f a b o:Nat) (S:Srch) (N:Nat) (pn pe:D) (ns es:List Int) (out:List Part) (H:AHeap):Prop where
 bf:H.get f=some ⟨319,12,[S.cellP N pn pe (.own a ns.length) (.own b es.length) (.own o out.length)],false⟩
 ba:H.get a=some ⟨3,1,ns.map cI,false⟩
 bb:H.get b=some ⟨3,1,es.map cI,false⟩
 bo:H.get o=some ⟨33,2,out.map Part.c,false⟩
 le:out.length≤N
 nf:f<H.next∧a<H.next∧b<H.next∧o<H.next
 d:(f≠a∧f≠b∧f≠o)∧(a≠b∧a≠o)∧b≠o
@[go_sem] theorem UP (H:AHeap)(i:Nat):(H.drop i).next=H.next:=rfl
@[go_sem] theorem VS (H:AHeap)(i j:Nat):(H.drop i).get j=if j=i then none else H.get j:=rfl
theorem tC {H:AHeap}{d:D}(h:d.cl=true):eQ H d=d:=by cases d<;>first|rfl|simp [D.cl] at h
def RD (S:Srch)(N:Nat)(pn pe:D)(f o m:Nat):Prop :=
  ∀ (ns es:List Int) (out:List Part) (a b:Nat) (G:AHeap) (Q:D→AHeap→Prop),(S.p.nodes.length - ns.length)+(S.p.edges.length - es.length)=m→ns.length≤S.p.nodes.length→es.length≤S.p.edges.length→(ns.length<S.p.nodes.length→es=[])→FdS f a b o S N pn pe ns es out G →
  (∀ a' b' H',FdS f a' b' o S N pn pe ns es (HE S N ns es out) H'→Q (.tup []) H')→ACalls Tryz.prog 220 [.ptr f 1 0 0] G Q
theorem Im (S:Srch)(hG:G17 S.t S.p S.g)(hv:(cJ S.t).2=0)(N:Nat)(hN:N≤5001)(pn pe:D)(hpn:GivD pn S.pn S.p.nodes.length)(hpe:GivD pe S.pe S.p.edges.length)(f o:Nat)(m:Nat)(ih:∀ k,k<m→RD S N pn pe f o k)(ns es:List Int)(out:List Part)(a b:Nat)(G:AHeap)(Q:D→AHeap→Prop)(hm:(S.p.nodes.length - ns.length)+(S.p.edges.length - es.length)=m)(hnl:ns.length≤S.p.nodes.length)(hel0:es.length≤S.p.edges.length)(hes:ns.length<S.p.nodes.length→es=[])(hF:FdS f a b o S N pn pe ns es out G)
  (hQ:∀ a' b' H',FdS f a' b' o S N pn pe ns es (HE S N ns es out) H'→Q (.tup []) H') (hc1:ns.length<S.p.nodes.length) :
  ACalls Tryz.prog 220 [.ptr f 1 0 0] G Q:=by
 have hla:=c9 hG.gp
 have hlb:=c9 hG.gg
 have hib:∀ x∈S.p.edges,(0≤x.from_∧x.from_<S.p.nodes.length)∧(0≤x.to_∧x.to_<S.p.nodes.length):=fun x hx=>((gA hG.gp).2 x hx).2
 obtain ⟨gf,ga,gb,go,hle,⟨lf,la,lb,lo⟩,⟨d1,d2,d3⟩,⟨d4,d5⟩,d6⟩:=hF
 have ff:=cO lf
 have fa:=cO la
 have fb:=cO lb
 have fo:=cO lo
 have hpnc:=hpn.1
 have hpec:=hpe.1
 have hpr:∀ H:AHeap,eQ H pn=pn:=fun H=>tC hpnc
 have hpr2:∀ H:AHeap,eQ H pe=pe:=fun H=>tC hpec
 refine (aH (cfg:=⟨fun _=>false,fun r=>match r with|0=>[(2,16),(3,16),(4,16)]|_=>[]⟩) Tz.mixed Tryz.func220 rfl rfl (aD rfl) (by kernel_rfl) ?_)
 have di1:=And.intro (dP (show o≠b by omega)) (And.intro (dP (show o≠a by omega)) (And.intro (dP (show o≠f by omega)) (And.intro (dP (show b≠a by omega)) (And.intro (dP (show b≠f by omega)) (dP (show a≠f by omega))))))
 have Y:=wa gf (wa ga (wa gb (wa go (wa ff (wa fa (wa fb (wa fo (wa @Part.c.eq_1 (wa @Srch.cellP.eq_1 (wa hpnc (wa hpec (wa hpr (wa hpr2 (wa hc1 di1))))))))))))))
 refine qJ (fun h1=>?_) fun h1=>?_
 ·have hX:HE S N ns es out=out:=Fp S _ _ (by omega)
  refine wv (h:=?_)
  exact hQ a b _ (by rw [hX];exact ⟨gf,ga,gb,go,hle,⟨by first|exact lf|(simp;omega),by first|exact la|(simp;omega),by first|exact lb|(simp;omega),by first|exact lo|(simp;omega)⟩,⟨d1,d2,d3⟩,⟨d4,d5⟩,d6⟩)
 ·have hnf:¬ N≤out.length:=by omega
  have hE0:=hes (by omega)
  subst hE0
  obtain ⟨k',hk'⟩:∃ k',S.p.nodes.length - ns.length=k'+1:=⟨S.p.nodes.length - ns.length - 1,by omega⟩
  have hel:ns.length<S.p.nodes.length:=by omega
  have hbp:=hG.tp _ (aC hel)
  have hrw:=G1 hbp
  obtain ⟨v,hv0⟩:∃ v,v=S.pn[ns.length]?.getD (-1):=⟨_,rfl⟩
  have hgv:=hpn.2 ns.length hel
  rw [← hv0] at hgv
  have hokN:∀ j (hj:j<S.g.nodes.length),O0 S ns j=((decide (v<0)||decide (v=(j:Int)))&&(!(S.inj&&mem ns j)&&yY S.t S.p.nodes[ns.length] S.g.nodes[j])):=fun j hj=>by
   simp only [O0,A1,← hv0,aA hj,aA hel,aF]
  have Y:=wa Y (wa (aA hel) hrw)
  refine wp (h:=cD (fun j e H=>∃ a1:Nat,∃ b1:Nat,∃ ou:List Part,(e 0=.ptr f 1 0 0∧e 2=dI ns.length∧e 61=dLI S.g.nodes∧e 62=dI S.g.nodes.length∧e 63=dI j)∧(H.get f=some ⟨319,12,[S.cellP N pn pe (.own a1 ns.length) (.own b1 0) (.own o ou.length)],false⟩)∧(f<H.next)∧(H.get a1=some ⟨3,1,ns.map cI,false⟩)∧(a1<H.next)∧(H.get b1=some ⟨3,1,[],false⟩)∧(b1<H.next)∧(H.get o=some ⟨33,2,ou.map Part.c,false⟩)∧(o<H.next)∧(f≠a1)∧(f≠b1)∧(a1≠b1)∧(a1≠o)∧(b1≠o)∧(j≤S.g.nodes.length)∧(ou.length≤N)∧(ou=(List.range j).foldl (fun ou k=>if (O0 S ns k&&rZ S (ns++[(k:Int)]))=true then Nv S N k' (ns++[(k:Int)]) ou else ou) out)) (fun j=>S.g.nodes.length - j) 0 ⟨a,b,out,wg,wn,wn,wn,wn,wn,wn,wn,wn,wi,wi,wi,wi,wi,wi,(by (exact hle)),(by rfl)⟩ fun I1 hI1 j e H hi1=>?_)
  obtain ⟨a1,b1,ou,E1,gf_1,nf_1,ga1_1,na1_1,gb1_1,nb1_1,go_1,no_1,e1,e2,e3,e4,e5,hj,hou,hst⟩:=hi1
  have di2:=And.intro (dP (show o≠b1 by omega)) (And.intro (dP (show o≠a1 by omega)) (And.intro (dP (show o≠f by omega)) (And.intro (dP (show b1≠a1 by omega)) (And.intro (dP (show b1≠f by omega)) (dP (show a1≠f by omega))))))
  have Y:=wa Y (wa E1 (wa gf_1 (wa (cO nf_1) (wa ga1_1 (wa (cO na1_1) (wa gb1_1 (wa (cO nb1_1) (wa go_1 (wa (cO no_1) di2)))))))))
  refine dU (fun h5=>?_) fun h5=>?_
  ·have hEj:=hokN j h5
   have hbg:=hG.tg _ (aC h5)
   have hrb:=JT hv hbp hbg
   have Y:=wa Y (wa h5 (wa (aA h5) hrb))
   refine wp (h:=aB (hgv) wl ?_)
   refine wp (h:=Gz (fun hg=>fF ns j) wr (fun hg=>wl) (fun hg=> rfl) rfl Zx ?_)
   refine qJ (fun h8=>?_) fun h8=>?_
   ·have hE:(O0 S ns j&&rZ S (ns++[(j:Int)]))=false:=by
     have:O0 S ns j=false:=by
      rw [hEj,eE];intro hT;simp at hT
      obtain ⟨c1,c2,c3⟩:=hT
      rcases h8 with (⟨k1,k2⟩|k1)|⟨k1,k2⟩
      ·rcases c1 with c1|c1
       ·omega
       ·exact k2 c1
      ·rw [k1] at c3;cases c3
      ·rcases c2 with c2|c2
       ·rw [k1] at c2;cases c2
       ·rw [k2] at c2;cases c2
     rw [this];rfl
    obtain ⟨ou2,hou2⟩:∃ x,x=ou:=⟨_,rfl⟩
    obtain ⟨a2,ha2⟩:∃ x,x=a1:=⟨_,rfl⟩
    obtain ⟨b2,hb2⟩:∃ x,x=b1:=⟨_,rfl⟩
    have Y:=wa Y (wa hou2 (wa ha2 hb2))
    exact wp (h:=wx hI1 (j+1) ⟨a2,b2,ou2,wg,wn,wn,wn,wn,wn,wn,wn,wn,wj,wj,wj,wj,wj,wj,(by (rw [hou2];first|exact hou|exact Ma hG.gp _ _ hou)),(by (rw [iG,← hst,hou2];first|rw [if_pos hE]|rw [if_neg (by rw [hE];simp)]))⟩)
   ·have hO:O0 S ns j=true:=by
     obtain ⟨⟨k1,k2⟩,k3⟩:=h8
     have c1:(decide (v<0)||decide (v=(j:Int)))=true:=by simp;omega
     have c2:(S.inj&&mem ns (j:Int))=false:=by cases hI:S.inj;rfl;simp [k3 hI]
     rw [hEj,c1,k2,c2];rfl
    have hm1:(S.p.nodes.length - (ns++[(j:Int)]).length)+(S.p.edges.length - ([]:List Int).length)=m - 1:=by simp at hm ⊢;omega
    obtain ⟨m',hm'⟩:∃ x,x=m - 1:=⟨_,rfl⟩
    rw [← hm'] at hm1
    have Y:=wa Y h8
    refine wp (h:=C6 (De S hG.gp hG.gg N pn pe (dLI []) (.list (ou.map Part.c)) hpnc (by simp [D.cl,go_sem]) (by simp [D.cl,EK]) (ns++[(j:Int)]) hpe) Zn wl rfl ?_)
    refine qJ (fun h10=>?_) fun h10=>?_
    ·have hE:(O0 S ns j&&rZ S (ns++[(j:Int)]))=true:=by rw [hO,h10];rfl
     obtain ⟨ou2,hou2⟩:∃ x,x=Nv S N k' (ns++[(j:Int)]) ou:=⟨_,rfl⟩
     have hk2:S.p.nodes.length - (ns.length+1)=k':=by omega
     have Y:=wa Y (wa hk2 (Eq.symm hou2))
     refine wv (h:=?_)
     unfold dO
     refine ih m' (by omega) (ns++[(j:Int)]) [] ou a1 b1 _ _ hm1 (by simp;omega) (by simp) (fun _=>rfl) ⟨by simp [go_sem,Y],by simp [go_sem,Y],by simp [go_sem,Y],by simp [go_sem,Y],hou,⟨by simp [go_sem];omega,by simp [go_sem];omega,by simp [go_sem];omega,by simp [go_sem];omega⟩,⟨e1,e2,d3⟩,⟨e3,e4⟩,e5⟩ (fun a3 b3 H3 hF3=>?_)
     rw [Fo] at hF3
     obtain ⟨gf3,ga3,gb3,go3,hle3,⟨lf3,la3,lb3,lo3⟩,⟨x1,x2,x3⟩,⟨x4,x5⟩,x6⟩:=hF3
     have fr3:=And.intro (cO (show f<H3.next by omega)) (And.intro (cO (show a3<H3.next by omega)) (And.intro (cO (show b3<H3.next by omega)) (cO (show o<H3.next by omega))))
     have di4:=And.intro (dP (show o≠b3 by omega)) (And.intro (dP (show o≠a3 by omega)) (And.intro (dP (show o≠f by omega)) (And.intro (dP (show b3≠a3 by omega)) (And.intro (dP (show b3≠f by omega)) (dP (show a3≠f by omega))))))
     obtain ⟨a2,ha2⟩:∃ x,x=H3.next:=⟨_,rfl⟩
     obtain ⟨b2,hb2⟩:∃ x,x=b3:=⟨_,rfl⟩
     have Y:=wa Y (wa gf3 (wa ga3 (wa gb3 (wa go3 (wa fr3 (wa di4 (wa ha2 hb2)))))))
     exact wp (h:=EQ (Ghosts.trunc (.refl _) f 0 9 a3 ns.length _ _ _ (by simp [go_sem,Y];rfl) rfl rfl (by simp [go_sem,Y];rfl) (by simp [go_sem,Y]) rfl (by omega)) (j+1) (by omega) ((hI1 _ _ _).2 ⟨a2,b2,ou2,wg,wn,wn,wn,wn,wn,wn,wn,wn,wj,wj,wj,wj,wj,wj,(by (rw [hou2];first|exact hou|exact Ma hG.gp _ _ hou)),(by (rw [iG,← hst,hou2];first|rw [if_pos hE]|rw [if_neg (by rw [hE];simp)]))⟩))
    ·have hE:(O0 S ns j&&rZ S (ns++[(j:Int)]))=false:=by rw [hO,h10];rfl
     obtain ⟨ou2,hou2⟩:∃ x,x=ou:=⟨_,rfl⟩
     obtain ⟨a2,ha2⟩:∃ x,x=H.next+41:=⟨_,rfl⟩
     obtain ⟨b2,hb2⟩:∃ x,x=b1:=⟨_,rfl⟩
     have Y:=wa Y (wa hou2 (wa ha2 hb2))
     exact wp (h:=EQ (Ghosts.trunc (.refl _) f 0 9 a1 ns.length _ _ _ (by simp [go_sem,Y];rfl) rfl rfl (by simp [go_sem,Y];rfl) (by simp [go_sem,Y]) rfl (by omega)) (j+1) (by omega) ((hI1 _ _ _).2 ⟨a2,b2,ou2,wg,wn,wn,wn,wn,wn,wn,wn,wn,wj,wj,wj,wj,wj,wj,(by (rw [hou2];first|exact hou|exact Ma hG.gp _ _ hou)),(by (rw [iG,← hst,hou2];first|rw [if_pos hE]|rw [if_neg (by rw [hE];simp)]))⟩))
  ·have hJ:j=S.g.nodes.length:=by omega
   have hOV:HE S N ns [] out=ou:=by rw [Fo,hk'];simp only [Nv];rw [if_neg hnf,hst,hJ]
   refine wv (h:=?_)
   exact hQ a1 b1 _ (by rw [hOV];exact ⟨by assumption,by assumption,by assumption,by assumption,hou,⟨by assumption,by assumption,by assumption,by assumption⟩,⟨e1,e2,d3⟩,⟨e3,e4⟩,e5⟩)
theorem YV (a k:Nat):a+(k+1) - (a+1)=k+1 - 1:=by omega
theorem YU (a k:Nat):a+(k+1) - (a+1)=k:=by omega
theorem YT (a k:Nat):a+(k+1) - a=k+1:=by omega
theorem Il (S:Srch)(hG:G17 S.t S.p S.g)(hv:(cJ S.t).2=0)(N:Nat)(hN:N≤5001)(pn pe:D)(hpn:GivD pn S.pn S.p.nodes.length)(hpe:GivD pe S.pe S.p.edges.length)(f o:Nat)(m:Nat)(ih:∀ k,k<m→RD S N pn pe f o k)(ns es:List Int)(out:List Part)(a b:Nat)(G:AHeap)(Q:D→AHeap→Prop)(hm:(S.p.nodes.length - ns.length)+(S.p.edges.length - es.length)=m)(hnl:ns.length≤S.p.nodes.length)(hel0:es.length≤S.p.edges.length)(hes:ns.length<S.p.nodes.length→es=[])(hF:FdS f a b o S N pn pe ns es out G)
  (hQ:∀ a' b' H',FdS f a' b' o S N pn pe ns es (HE S N ns es out) H'→Q (.tup []) H') (hc1:¬ ns.length<S.p.nodes.length) (hc2:es.length<S.p.edges.length) :
  ACalls Tryz.prog 220 [.ptr f 1 0 0] G Q:=by
 have hla:=c9 hG.gp
 have hlb:=c9 hG.gg
 have hib:∀ x∈S.p.edges,(0≤x.from_∧x.from_<S.p.nodes.length)∧(0≤x.to_∧x.to_<S.p.nodes.length):=fun x hx=>((gA hG.gp).2 x hx).2
 obtain ⟨gf,ga,gb,go,hle,⟨lf,la,lb,lo⟩,⟨d1,d2,d3⟩,⟨d4,d5⟩,d6⟩:=hF
 have ff:=cO lf
 have fa:=cO la
 have fb:=cO lb
 have fo:=cO lo
 have hpnc:=hpn.1
 have hpec:=hpe.1
 have hpr:∀ H:AHeap,eQ H pn=pn:=fun H=>tC hpnc
 have hpr2:∀ H:AHeap,eQ H pe=pe:=fun H=>tC hpec
 refine (aH (cfg:=⟨fun _=>false,fun r=>match r with|0=>[(2,16),(3,16),(4,16)]|_=>[]⟩) Tz.mixed Tryz.func220 rfl rfl (aD rfl) (by kernel_rfl) ?_)
 have di1:=And.intro (dP (show o≠b by omega)) (And.intro (dP (show o≠a by omega)) (And.intro (dP (show o≠f by omega)) (And.intro (dP (show b≠a by omega)) (And.intro (dP (show b≠f by omega)) (dP (show a≠f by omega))))))
 have Y:=wa gf (wa ga (wa gb (wa go (wa ff (wa fa (wa fb (wa fo (wa @Part.c.eq_1 (wa @Srch.cellP.eq_1 (wa hpnc (wa hpec (wa hpr (wa hpr2 (wa hc1 (wa hc2 di1)))))))))))))))
 refine qJ (fun h1=>?_) fun h1=>?_
 ·have hX:HE S N ns es out=out:=Fp S _ _ (by omega)
  refine wv (h:=?_)
  exact hQ a b _ (by rw [hX];exact ⟨gf,ga,gb,go,hle,⟨by first|exact lf|(simp;omega),by first|exact la|(simp;omega),by first|exact lb|(simp;omega),by first|exact lo|(simp;omega)⟩,⟨d1,d2,d3⟩,⟨d4,d5⟩,d6⟩)
 ·have hnf:¬ N≤out.length:=by omega
  obtain ⟨k',hk'⟩:∃ k',S.p.edges.length - es.length=k'+1:=⟨S.p.edges.length - es.length - 1,by omega⟩
  have hmk:m=k'+1:=by rw [← hm,Nat.sub_eq_zero_of_le (Nat.not_lt.1 hc1),dR,hk']
  have hks:S.p.edges.length=es.length+(k'+1):=by omega
  clear hm hk'
  have hel2:es.length<S.p.edges.length:=by omega
  have hbx:=hib _ (aC hel2)
  have hf1:S.p.edges[es.length].from_.toNat<ns.length:=by omega
  have hft:S.p.edges[es.length].to_.toNat<ns.length:=by omega
  refine wp (h:=cD (fun j e H=>∃ a1:Nat,∃ b1:Nat,∃ ou:List Part,(e 0=.ptr f 1 0 0∧e 6=dI es.length∧e 162=.list (S.g.edges.map Edge.c)∧e 163=dI S.g.edges.length∧e 164=dI j)∧(H.get f=some ⟨319,12,[S.cellP N pn pe (.own a1 ns.length) (.own b1 es.length) (.own o ou.length)],false⟩)∧(f<H.next)∧(H.get a1=some ⟨3,1,ns.map cI,false⟩)∧(a1<H.next)∧(H.get b1=some ⟨3,1,es.map cI,false⟩)∧(b1<H.next)∧(H.get o=some ⟨33,2,ou.map Part.c,false⟩)∧(o<H.next)∧(f≠a1)∧(f≠b1)∧(a1≠b1)∧(a1≠o)∧(b1≠o)∧(j≤S.g.edges.length)∧(ou.length≤N)∧(ou=(List.range j).foldl (fun ou k=>if Sj S ns es k=true then Nf S N ns k' (es++[(k:Int)]) ou else ou) out)) (fun j=>S.g.edges.length - j) 0 ⟨a,b,out,wg,wn,wn,wn,wn,wn,wn,wn,wn,wi,wi,wi,wi,wi,wi,(by (exact hle)),(by rfl)⟩ fun I3 hI3 j e H hi3=>?_)
  obtain ⟨a1,b1,ou,E3,gf_3,nf_3,ga1_3,na1_3,gb1_3,nb1_3,go_3,no_3,e1,e2,e3,e4,e5,hj,hou,hst⟩:=hi3
  have di2:=And.intro (dP (show o≠b1 by omega)) (And.intro (dP (show o≠a1 by omega)) (And.intro (dP (show o≠f by omega)) (And.intro (dP (show b1≠a1 by omega)) (And.intro (dP (show b1≠f by omega)) (dP (show a1≠f by omega))))))
  have Y:=wa Y (wa E3 (wa gf_3 (wa (cO nf_3) (wa ga1_3 (wa (cO na1_3) (wa gb1_3 (wa (cO nb1_3) (wa go_3 (wa (cO no_3) di2)))))))))
  refine dU (fun h17=>?_) fun h17=>?_
  ·have hEj:Sj S ns es j=(Dm S ns es.length j&&!(S.inj&&mem es j)):=by
    simp only [Sj,Dm]
    cases A1 S.pe es.length j<;>cases IJ S ns es.length j<;>cases (S.inj&&mem es j)<;>rfl
   have Y:=wa Y h17
   refine wp (h:=C6 (CI S N pn pe (dLI es) (.list (ou.map Part.c)) hpnc (by simp [D.cl,go_sem]) (by simp [D.cl,EK]) ns es.length j hel2 h17 hpe hbx.1.1 hf1 hbx.2.1 hft) Zn wl rfl ?_)
   refine wp (h:=IO (fun hg=>fF es j) wr (fun hg=>wl) (fun hg=> rfl) ?_)
   refine qJ (fun h19=>?_) fun h19=>?_
   ·have hE:Sj S ns es j=false:=by
     rw [hEj]
     rcases h19 with k1|⟨k1,k2⟩
     ·rw [k1];rfl
     ·rw [k1,k2];simp
    obtain ⟨ou2,hou2⟩:∃ x,x=ou:=⟨_,rfl⟩
    obtain ⟨a2,ha2⟩:∃ x,x=a1:=⟨_,rfl⟩
    obtain ⟨b2,hb2⟩:∃ x,x=b1:=⟨_,rfl⟩
    have Y:=wa Y (wa hou2 (wa ha2 hb2))
    exact wp (h:=wx hI3 (j+1) ⟨a2,b2,ou2,wg,wn,wn,wn,wn,wn,wn,wn,wn,wj,wj,wj,wj,wj,wj,(by (rw [hou2];first|exact hou|exact Qf _ _ _ _ hou)),(by (rw [iG,← hst,hou2];first|rw [if_pos hE]|rw [if_neg (by rw [hE];simp)]))⟩)
   ·have hE:Sj S ns es j=true:=by
     obtain ⟨k1,k2⟩:=h19
     have c2:(S.inj&&mem es (j:Int))=false:=by cases hI:S.inj;rfl;simp [k2 hI]
     rw [hEj,k1,c2];rfl
    have hm1:(S.p.nodes.length - ns.length)+(S.p.edges.length - (es++[(j:Int)]).length)=m - 1:=by
     rw [Nat.sub_eq_zero_of_le (Nat.not_lt.1 hc1),aT,wA,dR,hks,hmk];exact YV _ _
    have hmm:m - 1<m:=by rw [hmk];exact Nat.lt_succ_self k'
    obtain ⟨m',hm'⟩:∃ x,x=m - 1:=⟨_,rfl⟩
    rw [← hm'] at hm1 hmm
    obtain ⟨ou2,hou2⟩:∃ x,x=Nf S N ns k' (es++[(j:Int)]) ou:=⟨_,rfl⟩
    have hfd:HE S N ns (es++[(j:Int)]) ou=ou2:=by
     have hk3:S.p.edges.length - (es++[(j:Int)]).length=k':=by
      rw [aT,wA,hks];exact YU _ _
     rw [hou2];unfold HE;rw [if_neg (show ¬ ns.length<S.p.nodes.length by omega),hk3]
    have Y:=wa Y (wa h19 hfd)
    refine wp (h:=?_)
    unfold dO
    refine ih m' hmm ns (es++[(j:Int)]) ou a1 b1 _ _ hm1 (by omega) (by simp;omega) (fun h=>absurd h (by omega)) ⟨by simp [go_sem,Y],by simp [go_sem,Y],by simp [go_sem,Y],by simp [go_sem,Y],hou,⟨by simp [go_sem];omega,by simp [go_sem];omega,by simp [go_sem];omega,by simp [go_sem];omega⟩,⟨e1,e2,d3⟩,⟨e3,e4⟩,e5⟩ (fun a3 b3 H3 hF3=>?_)
    obtain ⟨gf3,ga3,gb3,go3,hle3,⟨lf3,la3,lb3,lo3⟩,⟨x1,x2,x3⟩,⟨x4,x5⟩,x6⟩:=hF3
    have fr3:=And.intro (cO (show f<H3.next by omega)) (And.intro (cO (show a3<H3.next by omega)) (And.intro (cO (show b3<H3.next by omega)) (cO (show o<H3.next by omega))))
    have di4:=And.intro (dP (show o≠b3 by omega)) (And.intro (dP (show o≠a3 by omega)) (And.intro (dP (show o≠f by omega)) (And.intro (dP (show b3≠a3 by omega)) (And.intro (dP (show b3≠f by omega)) (dP (show a3≠f by omega))))))
    obtain ⟨a2,ha2⟩:∃ x,x=a3:=⟨_,rfl⟩
    obtain ⟨b2,hb2⟩:∃ x,x=H3.next:=⟨_,rfl⟩
    have Y:=wa Y (wa gf3 (wa ga3 (wa gb3 (wa go3 (wa fr3 (wa di4 (wa ha2 hb2)))))))
    exact wp (h:=EQ (Ghosts.trunc (.refl _) f 0 10 b3 es.length _ _ _ (by simp [go_sem,Y];rfl) rfl rfl (by simp [go_sem,Y];rfl) (by simp [go_sem,Y]) rfl (by omega)) (j+1) (by omega) ((hI3 _ _ _).2 ⟨a2,b2,ou2,wg,wn,wn,wn,wn,wn,wn,wn,wn,wj,wj,wj,wj,wj,wj,(by (rw [hou2];first|exact hou|exact Qf _ _ _ _ hou)),(by (rw [iG,← hst,hou2];first|rw [if_pos hE]|rw [if_neg (by rw [hE];simp)]))⟩))
  ·have hJ:j=S.g.edges.length:=by omega
   have hk2:S.p.edges.length - es.length=k'+1:=by
    rw [hks];exact YT _ _
   have hOV:HE S N ns es out=ou:=by unfold HE;rw [if_neg hc1,hk2];simp only [Nf];rw [if_neg hnf,hst,hJ]
   refine wv (h:=?_)
   exact hQ a1 b1 _ (by rw [hOV];exact ⟨by assumption,by assumption,by assumption,by assumption,hou,⟨by assumption,by assumption,by assumption,by assumption⟩,⟨e1,e2,d3⟩,⟨e3,e4⟩,e5⟩)
theorem Ik (S:Srch)(hG:G17 S.t S.p S.g)(hv:(cJ S.t).2=0)(N:Nat)(hN:N≤5001)(pn pe:D)(hpn:GivD pn S.pn S.p.nodes.length)(hpe:GivD pe S.pe S.p.edges.length)(f o:Nat)(m:Nat)(ih:∀ k,k<m→RD S N pn pe f o k)(ns es:List Int)(out:List Part)(a b:Nat)(G:AHeap)(Q:D→AHeap→Prop)(hm:(S.p.nodes.length - ns.length)+(S.p.edges.length - es.length)=m)(hnl:ns.length≤S.p.nodes.length)(hel0:es.length≤S.p.edges.length)(hes:ns.length<S.p.nodes.length→es=[])(hF:FdS f a b o S N pn pe ns es out G)
  (hQ:∀ a' b' H',FdS f a' b' o S N pn pe ns es (HE S N ns es out) H'→Q (.tup []) H') (hc1:¬ ns.length<S.p.nodes.length) (hc2:¬ es.length<S.p.edges.length) :
  ACalls Tryz.prog 220 [.ptr f 1 0 0] G Q:=by
 have hla:=c9 hG.gp
 have hlb:=c9 hG.gg
 have hib:∀ x∈S.p.edges,(0≤x.from_∧x.from_<S.p.nodes.length)∧(0≤x.to_∧x.to_<S.p.nodes.length):=fun x hx=>((gA hG.gp).2 x hx).2
 obtain ⟨gf,ga,gb,go,hle,⟨lf,la,lb,lo⟩,⟨d1,d2,d3⟩,⟨d4,d5⟩,d6⟩:=hF
 have ff:=cO lf
 have fa:=cO la
 have fb:=cO lb
 have fo:=cO lo
 have hpnc:=hpn.1
 have hpec:=hpe.1
 have hpr:∀ H:AHeap,eQ H pn=pn:=fun H=>tC hpnc
 have hpr2:∀ H:AHeap,eQ H pe=pe:=fun H=>tC hpec
 refine (aH (cfg:=⟨fun _=>false,fun r=>match r with|0=>[(2,16),(3,16),(4,16)]|_=>[]⟩) Tz.mixed Tryz.func220 rfl rfl (aD rfl) (by kernel_rfl) ?_)
 have di1:=And.intro (dP (show o≠b by omega)) (And.intro (dP (show o≠a by omega)) (And.intro (dP (show o≠f by omega)) (And.intro (dP (show b≠a by omega)) (And.intro (dP (show b≠f by omega)) (dP (show a≠f by omega))))))
 have Y:=wa gf (wa ga (wa gb (wa go (wa ff (wa fa (wa fb (wa fo (wa @Part.c.eq_1 (wa @Srch.cellP.eq_1 (wa hpnc (wa hpec (wa hpr (wa hpr2 (wa hc1 (wa hc2 di1)))))))))))))))
 refine qJ (fun h1=>?_) fun h1=>?_
 ·have hX:HE S N ns es out=out:=Fp S _ _ (by omega)
  refine wv (h:=?_)
  exact hQ a b _ (by rw [hX];exact ⟨gf,ga,gb,go,hle,⟨by first|exact lf|(simp;omega),by first|exact la|(simp;omega),by first|exact lb|(simp;omega),by first|exact lo|(simp;omega)⟩,⟨d1,d2,d3⟩,⟨d4,d5⟩,d6⟩)
 ·have hnf:¬ N≤out.length:=by omega
  have hX:HE S N ns es out=out++[⟨ns,es⟩]:=by
   unfold HE;rw [if_neg (by omega),show S.p.edges.length - es.length=0 by omega];simp only [Nf];rw [if_neg hnf]
  refine wp (h:=?_)
  refine jI (gM ns (by omega)) (by simp [go_sem,Y,dLI]) (by simp [go_sem]) (Fm _) rfl (by simp [go_sem]) ?_
  refine wp (h:=?_)
  refine jI (gM es (by omega)) (by simp [go_sem,Y,dLI]) (by simp [go_sem]) (Fm _) rfl (by simp [go_sem]) ?_
  refine wp (h:=?_)
  exact hQ a b _ (by rw [hX];exact ⟨by simp [go_sem,Y],by simp [go_sem,Y],by simp [go_sem,Y],by simp [go_sem,Y],by simp;omega,⟨by simp [go_sem];omega,by simp [go_sem];omega,by simp [go_sem];omega,by simp [go_sem];omega⟩,⟨d1,d2,d3⟩,⟨d4,d5⟩,d6⟩)
theorem JL (S:Srch)(hG:G17 S.t S.p S.g)(hv:(cJ S.t).2=0)(N:Nat)(hN:N≤5001)(pn pe:D)(hpn:GivD pn S.pn S.p.nodes.length)(hpe:GivD pe S.pe S.p.edges.length)(f o:Nat) :
  ∀ (m:Nat) (ns es:List Int) (out:List Part) (a b:Nat) (G:AHeap) (Q:D→AHeap→Prop),(S.p.nodes.length - ns.length)+(S.p.edges.length - es.length)=m→ns.length≤S.p.nodes.length→es.length≤S.p.edges.length→(ns.length<S.p.nodes.length→es=[])→FdS f a b o S N pn pe ns es out G →
  (∀ a' b' H',FdS f a' b' o S N pn pe ns es (HE S N ns es out) H'→Q (.tup []) H')→ACalls Tryz.prog 220 [.ptr f 1 0 0] G Q:=by
 intro m
 induction m using Nat.strongRecOn with
 | _ m ih =>
 intro ns es out a b G Q hm hnl hel0 hes hF hQ
 by_cases hc1:ns.length<S.p.nodes.length
 ·exact Im S hG hv N hN pn pe hpn hpe f o m ih ns es out a b G Q hm hnl hel0 hes hF hQ hc1
 ·by_cases hc2:es.length<S.p.edges.length
  ·exact Il S hG hv N hN pn pe hpn hpe f o m ih ns es out a b G Q hm hnl hel0 hes hF hQ hc1 hc2
  ·exact Ik S hG hv N hN pn pe hpn hpe f o m ih ns es out a b G Q hm hnl hel0 hes hF hQ hc1 hc2
theorem Ij (S:Srch)(hG:G17 S.t S.p S.g)(ht:S.t.ok)(hv:(cJ S.t).2=0)(N:Nat)(hN:N≤5001)(pn pe:D)(hpn:GivD pn S.pn S.p.nodes.length)(hpe:GivD pe S.pe S.p.edges.length)(hcn:pn.cell=true)(hce:pe.cell=true){L:List Part}(hL:L=(GM S).take N) :
  Pure Tryz.prog 177 [S.t.d,S.p.d,S.g.d,.agg [pn,pe],.bool S.inj,dI N] (.list (L.map Part.c)):=by
 have hRn:HE S N [] [] []=L:=by rw [Fo,Mb hG.gp N _ _ _ (by simp),hL];simp [GM]
 have hpnc:=hpn.1
 have hpec:=hpe.1
 have hcn':=hcn
 have hce':=hce
 unfold D.cell at hcn' hce'
 refine qR (by first|rfl|(simp [go_sem];done)) (fun Q hQ=>(aH (cfg:=⟨fun t=>t==22,fun _=>[]⟩) Tz.mixed Tryz.func177 rfl rfl (aD rfl) (by kernel_rfl) ?_))
 have Y:=wa hpnc (wa hpec (wa @belowD.eq_1 (wa hcn' hce')))
 refine wv (h:=bB (AD S.t ht) wl ?_)
 refine wv (h:=?_)
 refine Bk (.step (.step (.step (.refl _) 8 0 9 3 1 _ _ (by simp [go_sem];rfl) rfl rfl rfl) 8 0 10 3 1 _ _ (by simp [go_sem];rfl) rfl rfl rfl) 8 0 11 33 2 _ _ (by simp [go_sem];rfl) rfl rfl rfl) ?_
 simp [go_sem]
 unfold dO
 refine JL S hG hv N hN pn pe hpn hpe 8 12 _ [] [] [] 10 11 _ _ rfl (by simp) (by simp) (fun _=>rfl) ⟨by simp [go_sem,Srch.cellP,Graph.c,dLI,dI],by simp [go_sem],by simp [go_sem],by simp [go_sem],by simp,by simp [go_sem],by simp,by simp,by simp⟩ (fun a3 b3 H3 hF3=>?_)
 rw [hRn] at hF3
 obtain ⟨gf3,ga3,gb3,go3,hle3,hn3,hd3⟩:=hF3
 have Y:=wa Y (wa gf3 (wa go3 @Srch.cellP.eq_1))
 refine wv (h:=?_)
 exact hQ _ _ (by simp [go_sem,Y,jY,QE])
theorem Ej (t:Types)(ht:t.ok)(hv:(cJ t).2=0)(p g:Graph)(hG:G17 t p g)(pl el:List Int)(inj:Bool)(pn pe:D)(hpn:GivD pn pl p.nodes.length)(hpe:GivD pe el p.edges.length)(hcn:pn.cell=true)(hce:pe.cell=true){w:List Part × Int}(hw:w=GA (GM ⟨t,p,g,pl,el,inj⟩)) :
  Pure Tryz.prog 139 [t.d,p.d,g.d,.agg [pn,pe],.bool inj] (.tup [.list (w.1.map Part.c),dI w.2]):=by
 obtain ⟨L,hL⟩:∃ L,L=(GM ⟨t,p,g,pl,el,inj⟩).take 5001:=⟨_,rfl⟩
 have hA:w=if 5000<L.length then ([],3) else (L,0):=by rw [hw];unfold GA;rw [← hL]
 have hpnc:=hpn.1
 have hpec:=hpe.1
 have hcn':=hcn
 have hce':=hce
 unfold D.cell at hcn' hce'
 refine Tz.pK ⟨fun _=>false,fun _=>[]⟩ Tryz.func139 rfl (fun Q hQ=>?_)
 have Y:=wa hpnc (wa hpec (wa hcn' hce'))
 refine wv (h:=aB (Ij ⟨t,p,g,pl,el,inj⟩ hG ht hv 5001 (by omega) pn pe hpn hpe hcn hce hL) wl ?_)
 refine mP (fun h2=>?_) fun h2=>?_
 ·rw [if_pos (by omega)] at hA
  exact wv (h:=hQ _ _ (by simp [go_sem,hA]))
 ·rw [if_neg (by omega)] at hA
  exact wv (h:=hQ _ _ (by simp [go_sem,hA]))
theorem yH {t:Types}{p g:Graph}(h:iF t p g=0):(cJ t).2=0:=by
 unfold iF at h
 split at h
 ·exact absurd h (by assumption)
 ·rename_i h1;simpa using h1
theorem LY (t:Types)(ht:t.ok)(p g:Graph)(inj:Bool):Pure Tryz.prog 105 [t.d,p.d,g.d,.bool inj] (.tup [.list ((pJ t p g inj).1.map Part.c),dI (pJ t p g inj).2]):=by
 refine Tz.pK ⟨fun _=>false,fun _=>[]⟩ Tryz.func105 rfl (fun Q hQ=>?_)
 have Y:=trivial
 refine wv (h:=aB (p6 t ht p g) wl ?_)
 refine dU (fun h2=>?_) fun h2=>?_
 ·have hA:pJ t p g inj=([],iF t p g):=by unfold pJ;rw [if_pos (by simpa using h2)]
  exact wv (h:=hQ _ _ (by simp [go_sem,hA]))
 ·have hG:=q8 (by simpa using h2)
  have hv:=yH (by simpa using h2)
  obtain ⟨w,hw⟩:∃ w,w=GA (GM ⟨t,p,g,List.replicate p.nodes.length (-1),List.replicate p.edges.length (-1),inj⟩):=⟨_,rfl⟩
  have hA:pJ t p g inj=w:=by unfold pJ;rw [if_neg (by simpa using h2),hw]
  refine wv (h:=aB (Ej t ht hv p g hG _ _ inj .nil .nil (GivD.nil _) (GivD.nil _) rfl rfl hw) wl ?_)
  exact wv (h:=hQ _ _ (by simp [go_sem,hA]))
theorem Gl (t:Types)(ht:t.ok)(p g:Graph)(q:Part)(inj:Bool):Pure Tryz.prog 253 [t.d,p.d,g.d,q.d,.bool inj] (.tup [.list ((tT t p g q inj).1.map Part.c),dI (tT t p g q inj).2]):=by
 refine Tz.pK ⟨fun _=>false,fun _=>[]⟩ Tryz.func253 rfl (fun Q hQ=>?_)
 have Y:=trivial
 refine wv (h:=aB (p6 t ht p g) wl ?_)
 refine dU (fun h2=>?_) fun h2=>?_
 ·have hA:tT t p g q inj=([],iF t p g):=by unfold tT;rw [if_pos (by simpa using h2)]
  exact wv (h:=hQ _ _ (by simp [go_sem,hA]))
 ·have hG:=q8 (by simpa using h2)
  have hv:=yH (by simpa using h2)
  refine mP (fun h4=>?_) fun h4=>?_
  ·have hA:tT t p g q inj=([],20):=by unfold tT;rw [if_neg (by simpa using h2),if_pos (by omega)]
   exact wv (h:=hQ _ _ (by simp [go_sem,hA]))
  ·have hq:q.nodes.length=p.nodes.length∧q.edges.length=p.edges.length:=by omega
   refine wo (h:=aB (CH q.nodes g.nodes.length) wl ?_)
   refine mP (fun h7=>?_) fun h7=>?_
   ·have hA:tT t p g q inj=([],vD q.nodes g.nodes.length):=by unfold tT;rw [if_neg (by simpa using h2),if_neg (by omega),if_pos (by simpa using h7)]
    exact wv (h:=hQ _ _ (by simp [go_sem,hA]))
   ·have h7':vD q.nodes g.nodes.length=0:=by simpa using h7
    refine wo (h:=aB (CH q.edges g.edges.length) wl ?_)
    refine mP (fun h10=>?_) fun h10=>?_
    ·have hA:tT t p g q inj=([],vD q.edges g.edges.length):=by unfold tT;rw [if_neg (by simpa using h2),if_neg (by omega),if_neg (by omega),if_pos (by simpa using h10)]
     exact wv (h:=hQ _ _ (by simp [go_sem,hA]))
    ·have h10':vD q.edges g.edges.length=0:=by simpa using h10
     obtain ⟨w,hw⟩:∃ w,w=GA (GM ⟨t,p,g,q.nodes,q.edges,inj⟩):=⟨_,rfl⟩
     have hA:tT t p g q inj=w:=by unfold tT;rw [if_neg (by simpa using h2),if_neg (by omega),if_neg (by omega),if_neg (by omega),hw]
     refine wv (h:=aB (Ej t ht hv p g hG q.nodes q.edges inj (dLI q.nodes) (dLI q.edges) (hq.1 ▸ GivD.list q.nodes) (hq.2 ▸ GivD.list q.edges) rfl rfl hw) wl ?_)
     exact wv (h:=hQ _ _ (by simp [go_sem,hA]))
theorem Tu (l:List Edge):∀ d∈(l.map Edge.c).flatten,d.flat=true:=by
 intro d hd
 rw [fQ] at hd
 obtain ⟨c,hc,hd⟩:=hd
 rw [aS] at hc
 obtain ⟨x,_,rfl⟩:=hc
 simp only [Edge.c,aO,eW,or_false] at hd
 rcases hd with rfl|rfl|rfl<;>rfl
theorem Df (t:Types)(ht:t.ok)(p g:Graph)(m:Part):Pure Tryz.prog 108 [t.d,p.d,g.d,m.d] (.tup [(ID t p g m).d,dI (fY t p g m false)]):=by
 refine Tz.pK ⟨fun t=>t==8||t==12,fun r=>match r with|11=>[(0,7),(1,7)]|_=>[]⟩ Tryz.func108 rfl (fun Q hQ=>?_)
 have Y:=trivial
 refine wv (h:=aB (p6 t ht p g) wl ?_)
 refine dU (fun h2=>?_) fun h2=>?_
 ·have hC:fY t p g m false=iF t p g:=by unfold fY;rw [if_pos (by simpa using h2)]
  have hI:ID t p g m=⟨[],[]⟩:=by unfold ID;rw [if_neg (by rw [hC];simpa using h2)]
  exact wv (h:=hQ _ _ (by simp [go_sem,hI,hC]))
 ·have hG:=q8 (by simpa using h2)
  have hv:=yH (by simpa using h2)
  have hla:=c9 hG.gp
  have hlb:=c9 hG.gg
  have hC:fY t p g m false=jW t p g m false:=by unfold fY;rw [if_neg (by simpa using h2)]
  refine wv (h:=aB (AC t ht p g hG hv m) wl ?_)
  refine dU (fun h5=>?_) fun h5=>?_
  ·have hI:ID t p g m=⟨[],[]⟩:=by unfold ID;rw [if_neg (by rw [hC];simpa using h5)]
   exact wv (h:=hQ _ _ (by simp [go_sem,hI,hC]))
  ·have hM:jW t p g m false=0:=by simpa using h5
   obtain ⟨⟨hl1,hl2⟩,hmn,hme⟩:=BY hM
   have hI:ID t p g m=xC p g m:=by unfold ID;rw [if_pos (by rw [hC];exact hM)]
   refine wv (h:=?_)
   refine FS (FJ p.edges (by omega)) (by simp [go_sem]) (by simp [go_sem]) (Tu _) ?_
   refine wp (h:=sP (Ghosts.step (Ghosts.refl _) 1 0 0 3 1 _ _ (rfl) rfl rfl rfl) (fun i e H=>∃ xs:List Int,(e 4=.adr t.c∧e 5=.adr p.c∧e 6=.adr g.c∧e 7=.adr m.c∧e 8=.ptr 0 1 0 0∧e 12=.ptr 1 1 0 0∧e 37=dLI m.nodes∧e 38=dI m.nodes.length∧e 39=dI i)∧(H.get 0=some ⟨47,2,[[.nil,.nil]],false⟩)∧(0<H.next)∧(H.get 1=some ⟨47,2,[[.own 2 xs.length,.list (p.edges.map Edge.c)]],false⟩)∧(1<H.next)∧(H.get 2=some ⟨3,1,xs.map cI,false⟩)∧(2<H.next)∧(i≤m.nodes.length)∧(xs=(m.nodes.take i).map (gN g))) (fun i=>m.nodes.length - i) 0 ⟨([]),wg,wn,wn,wn,wn,wn,wn,wi,(by rfl)⟩ fun I0 hI0 i e H hi0=>?_)
   obtain ⟨xs,E0,g0_0,n0_0,g1_0,n1_0,g2_0,n2_0,hi,hx⟩:=hi0
   have Y:=wa Y (wa E0 (wa g0_0 (wa (cO n0_0) (wa g1_0 (wa (cO n1_0) (wa g2_0 (cO n2_0)))))))
   refine dU (fun h9=>?_) fun h9=>?_
   ·have hmi:=hmn _ (aC h9)
    have hk:m.nodes[i].toNat<g.nodes.length:=by omega
    have hxl:xs.length=i:=by rw [hx];simp;omega
    have Y:=wa Y (wa h9 (wa (aA h9) (wa (aA hk) @gN.eq_1)))
    exact wp (h:=wx hI0 (i+1) ⟨(xs++[gN g m.nodes[i]]),wg,wn,wn,wn,wn,wn,wn,wj,(by (rw [jP _ h9,← hx]))⟩)
   ·have hX:xs=m.nodes.map (gN g):=by rw [hx,p7 _ (by omega)]
    exact wv (h:=hQ _ _ (by simp [go_sem,Y,hI,hC,hM,xC,Graph.d,Graph.c,hX,dLI]))
end Go.Abs
end
section
set_option maxRecDepth 100000
set_option maxHeartbeats 4000000
namespace Go.Abs
open Go Go.Proofs Go.RowKit Go.Shelf
attribute [local go_sem] Oper.semAt_some
theorem Ef:(Tryz.prog.info? 3).map (fun i=>(i.zero,i.size,i.bytes))=some (some (.int .i64 0),1,8):=by kernel_rfl
theorem LD (F:Fence)(n:Nat)(h7:F.fn 244)(hro:F.round=none)(hn:1≤n)(l n₀:Nat)(a ad:Addr)(cap:Nat)(zs:List Int)(hreach:zs.length≤1000000)(hb:zs≠[]→ad.block<n₀)(J Jx:List Int→World→Prop)
  (hY:∀ pre x W,J pre W→pre.length<zs.length→YieldAt F (n - 1) Tryz.prog l #[.int .i64 x] W fun e W' =>
   (e=.returned (.bool true)∧J (pre++[x]) W'∧Below n₀ W W')∨(e=.returned (.bool false)∧Jx (pre++[x]) W'))
  (W:World) (hBs:W.cell? a=some (.slice (some ad) zs.length cap)) (hc:∀ j x,zs[j]?=some x→W.cell? (ad.add j)=some (.int .i64 x)) (h0:J [] W) :
  CallsIn F n Tryz.prog 244 #[.func (.yield l) #[] #[],.pointer (some a)] W fun e W'=>(∃ v,e=.returned v) ∧
   ((∃ ys,ys=zs∧J ys W')∨(∃ pre,True∧Jx pre W')):=by
 refine callsIn_of_wp Tryz.func244 rfl h7 ?_ hro
 simp only [Tryz.ntmps244,mF,bW,mH,Nat.reduceAdd,Nat.reduceSub,y6,y5,DN,Ap,eX,eY]
 gi_wp2
 gi_loopw [7] (fun i wr=>∃ k:Nat,k≤zs.length∧i=.int .i64 k∧J (zs.take k) wr∧Below n₀ W wr)
  (fun i _=>zs.length - (RowKit.intOf i).toNat)
 case atStart=>exact ⟨0,dE _,rfl,h0,Below.refl _ _⟩
 case round =>
  obtain ⟨k,hk,rfl,hJs,hnx⟩:=hrel
  by_cases hlt:k<zs.length
  ·have hcx':wr.cell? (ad.add k)=some (.int .i64 zs[k]):=(hnx.cell (p:=ad.add k) (by rw [gP];exact hb (fun e=>by rw [e] at hlt;cases hlt))).trans (hc k _ (aA hlt))
   obtain ⟨fn,tmps,assign,body,hy,hR⟩:=hY _ zs[k] wr hJs (by simp;omega)
   gi_wp2
   refine hR.mono ?_
   rintro e W3 (⟨rfl,hJ3,hk3⟩|⟨rfl,hJx3⟩)
   ·gi_wp2
    go_roundw
    case rel=>exact ⟨k+1,by omega,by simp,by rw [aG hlt];exact hJ3,hnx.trans hk3⟩
    case measure=>simp [RowKit.intOf];omega
   ·gi_wp2
    refine bodyPost_ret (results_none rfl _ _ _) rfl ?_
    exact ⟨⟨_,rfl⟩,.inr ⟨_,trivial,hJx3⟩⟩
  ·obtain rfl:k=zs.length:=by omega
   gi_wp2
   go_end0
   exact ⟨⟨_,rfl⟩,.inl ⟨_,rfl,by rw [List.take_length] at hJs;exact hJs⟩⟩
theorem DT (F:Fence)(n:Nat)(h7:F.fn 244)(hro:F.round=none)(l:Nat)(a:Addr)(J:List Int→World→Prop)(W:World)(hBs:W.cell? a=some (.slice none 0 0))(h0:J [] W) :
  CallsIn F n Tryz.prog 244 #[.func (.yield l) #[] #[],.pointer (some a)] W fun e W'=>(∃ v,e=.returned v)∧J [] W':=by
 refine callsIn_of_wp Tryz.func244 rfl h7 ?_ hro
 simp only [Tryz.ntmps244,mF,bW,mH,Nat.reduceAdd,Nat.reduceSub,y6,y5,DN,Ap,eX,eY]
 gi_wp2
 gi_loopw [7] (fun i wr=>i=.int .i64 0∧J [] wr) (fun _ _=>0)
 case atStart=>exact ⟨rfl,h0⟩
 case round =>
  obtain ⟨rfl,hJs⟩:=hrel
  gi_wp2
  go_end0
  exact ⟨⟨_,rfl⟩,hJs⟩
def IntsB (n₀:Nat)(W:World)(sv:Value)(zs:List Int):Prop :=
 (sv=.slice none 0 0∧zs=[])∨∃ ad cap,sv=.slice (some ad) zs.length cap∧(zs≠[]→ad.block<n₀)∧∀ j x,zs[j]?=some x→W.cell? (ad.add j)=some (.int .i64 x)
theorem IntsB.below {n₀:Nat}{A B:World}(h:Below n₀ A B){sv:Value}{zs:List Int}:IntsB n₀ A sv zs→IntsB n₀ B sv zs
 | .inl e=>.inl e
 | .inr ⟨ad,cap,e,hb,hc⟩=>.inr ⟨ad,cap,e,hb,fun j x hj=>(h.cell (p:=ad.add j) (by rw [gP];exact hb (fun e=>by rw [e] at hj;cases hj))).trans (hc j x hj)⟩
theorem H7 (F:Fence)(n:Nat)(h7:F.fn 244)(hro:F.round=none)(hn:1≤n)(a:Addr)(n₀:Nat)(sv:Value)(zs:List Int)(hreach:zs.length≤1000000)(w:World)(hBs:a.block<w.heap.size)(hn₀:n₀≤w.heap.size)
  (hc:w.cell? a=some sv) (hI:IntsB n₀ w sv zs) :
  SeqStopsK F n Tryz.prog 244 #[.pointer (some a)] (fun x:Int=>#[Value.int .i64 x]) (Below n₀) (fun ys=>ys=zs) (fun _=>True) zs.length w:=fun l J Jx W hW _ _ hY h0=>by
 have hc':=(hW.cell (p:=a) hBs).trans hc
 rcases hI.below (hW.mono hn₀) with ⟨rfl,rfl⟩|⟨ad,cap,rfl,hb,hcs⟩
 ·exact (DT F n h7 hro l a J W hc' h0).mono fun e W' ⟨he,hj⟩=>⟨he,.inl ⟨_,rfl,hj⟩⟩
 ·exact LD F n h7 hro hn l n₀ a ad cap zs hreach hb J Jx hY W hc' hcs h0
theorem Jd (F:Fence)(n:Nat)(h3:F.fn 251)(h5:F.fn 244)(hro:F.round=none)(hn:3≤n)(a:Addr)(sv:Value)(zs:List Int)(hlen:zs.length≤1000000)(w:World)
  (hBs:a.block<w.heap.size) (hc:w.cell? a=some sv) (hI:IntsB w.heap.size w sv zs) :
  CallsIn F n Tryz.prog 251 #[.slice none 0 0,.func (.func 244) #[] #[.pointer (some a)]] w fun e W'=>∃ v,e=.returned v∧W'.ownsRow w.heap.size 3 1 v zs.length (zs.map (Value.int .i64))∧Below w.heap.size w W':=by
 have h1:1≤n:=by omega
 obtain ⟨i0,hi,hz0,hz1,hz2⟩:=info_parts Ef
 refine callsIn_of_wp_marks Tryz.func251 rfl h3 ?_ hro
 simp only [Tryz.ntmps251,mF,bW,mH,Nat.reduceAdd,Nat.reduceSub,y6,y5,DN,Ap,eX,eY]
 gi_wp2
 have bO:=Boxed.new w 31 (.slice none 0 0)
 have hB0:Below w.heap.size w (w.alloc (.cells #[.slice none 0 0] 31)):=(Below.refl _ w).alloc (aL _) _
 refine wpIn_rangeFunc_ownG hro h1 (gf:=244) (lb:=#[.pointer (some a)]) rfl h5 (enters_of Tryz.func244 (by kernel_rfl) rfl)
  (H7 F (n - 1) h5 hro (by omega) a w.heap.size sv zs hlen _ (by simp;omega) (by simp) ((hB0.cell (p:=a) hBs).trans hc) (hI.below hB0)) belowK_t (belowK_b (by simp)) (Below.refl _ _) (fun _=>rfl)
  (fun pre W=>(∃ v,Boxed W w.heap.size 31 v∧W.ownsRow w.heap.size 3 1 v pre.length (pre.map (Value.int .i64))∧True)∧Below w.heap.size w W)
  (fun _ _ _=>False)
  (OwnFrom.and (Own.from (holdsRow_own w.heap.size w.heap.size 31 3 1 (fun pre=>pre.length) (fun pre:List Int=>pre.map (Value.int .i64)) (fun _ _=>True)) _) (ownFrom_below (aL _) (by simp)))
  (fun _ _ _ _ _ hs _ _=>hs)
  ⟨⟨_,bO,World.ownsRow_nil _ _ _ _,trivial⟩,hB0⟩
  (fun x=>{ tmps:=#[.slice none 0 0,.func (.func 244) #[] #[.pointer (some a)],.pointer (some ⟨w.heap.size,0,none⟩),undef,.slice none 0 0,.int .i64 x,.func (.func 244) #[] #[.pointer (some a)],.int .i64 x,undef,undef,undef,undef,undef],defers:=[] }) ?assign ?body ?done ?stop
 case assign =>
  intro l x W K hK
  gi_wp2
  exact hK
 case body =>
  rintro l pre x W ⟨⟨v,hv,hrow,_⟩,hB⟩ hlt
  have hc:=hv.cell
  gi_wp2_with (gi_at_builtin;refine wpListIn_append_own _ rfl _ _ 31 rfl w.heap.size 3 i0 (.int .i64 0) 1 8 Tryz.underlying31 hi hz0 hz1 hz2 rfl (by decide) _ _ _ rfl (hrow.alloc _) ⟨W.heap.size,0,none⟩ 1 1 [.int .i64 x] rfl rfl (cell_one_new _ _ _) (by simp [Value.oneCell']) (by simp only [maxLen];omega) (by omega) (by have:=hB.size;simp;omega) ?_;intro v' w1 hown' hgrow _;obtain ⟨g',cap',rfl⟩:=ownsRow_succ hown';obtain ⟨hv1,hv2,hr2,hk2,hb2⟩:=hv.appended (by decide) hrow hB.size (aL _) hown' hgrow;have hc1:=hv1.cell;have hf1:=hv1.frozen)
  exact ⟨hk2.from _,hb2,⟨_,hv2,by simpa using hr2,trivial⟩,hB.trans hb2⟩
 case done =>
  rintro D ys W hD rfl ⟨⟨v,hv,hrow,_⟩,hB⟩ hK
  have hc:=hv.cell
  gi_wp2
  refine ⟨by simp,.inl ⟨_,_,rfl,run_takeDeferred hK,?_⟩⟩
  exact ⟨_,results_tmp rfl _ _ _,v,rfl,ownsRow_putObj hrow _ hK rfl,hB.trans (belowK_b (w:=w) (aL _) W D _ _ (by simp at hD;omega) hK rfl rfl)⟩
 case stop =>
  rintro D c pre W _ _ h _
  exact h.elim
theorem MG (F:Fence)(n:Nat)(h2:F.fn 243)(h3:F.fn 251)(h5:F.fn 244)(hro:F.round=none)(hn:4≤n)(a:Addr)(sv:Value)(zs:List Int)(hlen:zs.length≤1000000)(w:World)
  (hBs:a.block<w.heap.size) (hc:w.cell? a=some sv) (hI:IntsB w.heap.size w sv zs) :
  CallsIn F n Tryz.prog 243 #[.func (.func 244) #[] #[.pointer (some a)]] w fun e W'=>∃ v,e=.returned v∧W'.ownsRow w.heap.size 3 1 v zs.length (zs.map (Value.int .i64))∧Below w.heap.size w W':=by
 refine callsIn_of_wp Tryz.func243 rfl h2 ?_ hro
 simp only [Tryz.ntmps243,mF,bW,mH,Nat.reduceAdd,Nat.reduceSub,y6,y5,DN,Ap,eX,eY]
 gi_wp2_with (refine ⟨fun _=>by omega,(Jd F (n - 1) h3 h5 hro (by omega) a sv zs hlen _ hBs hc hI).mono ?_⟩;rintro e w' ⟨v,rfl,hrow,hb⟩)
 go_ret
 exact ⟨v,rfl,hrow,hb⟩
theorem KY (l : List Int) (hl : l.length ≤ 1000000) : Own Tryz.prog 243 [.fn 244 [.adr [dLI l]]] 3 1 (l.map cI) := by
  refine ⟨⟨Tryz.f243, Tryz.func243, rfl, rfl⟩, fun M w vals hM ha => ?_⟩
  obtain ⟨hlen, hr⟩ := ha
  match vals, hlen with
  | [v], _ =>
    have h0 := hr 0 v _ rfl rfl
    obtain ⟨p, rfl, h1⟩ : ∃ p, v = .func (.func 244) #[] #[p] ∧ RepV M fG mV w p (.adr [dLI l]) := by
      cases h0 with
      | fn _ vs _ hl hr => match vs, hl with
        | [p], _ => exact ⟨p, rfl, hr 0 p _ rfl rfl⟩
    obtain ⟨a, sv, rfl, hxc, hsv⟩ : ∃ a sv, p = .pointer (some a) ∧ (¬ M a.block ∧ w.cell? (a.add 0) = some sv) ∧ RepV M fG mV w sv (dLI l) := by
      cases h1 with
      | adr a xs _ hl h1 hc hr => match xs, hl with
        | [sv], _ => exact ⟨a, sv, rfl, hc 0 sv rfl, hr 0 sv _ rfl rfl⟩
    have hca := hxc.2
    have hca0 : w.cell? a = some sv := by rw [show a.add 0 = a by unfold Addr.add; simp] at hca; exact hca
    have hab := World.block_lt_of_cell? w _ hca0
    have hI : IntsB w.heap.size w sv l := by
      unfold dLI at hsv
      rcases qW hsv with ⟨rfl, he⟩ | ⟨ad, cap, sz, xs, rfl, hrep, _, hcell, _, _, _⟩
      · exact .inl ⟨rfl, by simpa using he⟩
      · have hcl : ∀ j x, l[j]? = some x → w.cell? (ad.add j) = some (.int .i64 x) := fun j x hj => by
          have hlen2 := hrep.len
          rw [yL, bM] at hlen2
          have hjl : j < l.length := (aI.1 hj).1
          have hu : xs[j]? = some xs[j] := aA (by omega)
          have hd := hrep.rep j _ (D.int .i64 x) hu (by rw [yL, aN, hj]; rfl)
          generalize hq : xs[j] = q at hu hd
          cases hd
          exact (hcell j _ hu).2
        refine .inr ⟨ad, cap, by simp, fun hl0 => ?_, hcl⟩
        have hp : 0 < l.length := List.length_pos_iff.2 hl0
        have := World.block_lt_of_cell? w _ (hcl 0 _ (aA hp))
        rwa [gP] at this
    refine (CallsIn.calls (MG Fence.wide 4 trivial trivial trivial rfl (aL _) a sv l hl w hab hca0 hI) (fun k => room_wide k)).mono fun e w' ⟨v, he, hrow, hb⟩ => ?_
    exact ⟨v, _, he, by simpa using hrow, fun u hu => by obtain ⟨x, _, rfl⟩ := aS.1 hu; rfl, yC l, sD l, fun c hc => by obtain ⟨x, _, rfl⟩ := aS.1 hc; rfl, hb⟩
theorem Ju (l:List Int):Pure Tryz.prog 225 [dLI l] (.fn 244 [.adr [dLI l]]):=by
 refine Tz.pK ⟨fun _=>false,fun _=>[]⟩ Tryz.func225 rfl (fun Q hQ=>?_)
 have Y:=trivial
 exact wv (h:=hQ _ _ wy)
theorem LU (l:List Int)(hl:l.length≤1000000):Own Tryz.prog 224 [.fn 244 [.adr [dLI l]]] 3 1 ((nO l).map cI):=by
 refine Tz.oK ⟨fun t=>t==5||t==3||t==2,fun _=>[]⟩ Tryz.func224 rfl (fun Q hQ=>?_)
 have Y:=trivial
 refine wv (h:=kC (KY l hl) wl ?_)
 refine wv (h:=?_)
 unfold dO;refine Eb (ty:=3) (xs:=l) (by simp [go_sem]) hl ?_
 refine wv (h:=?_)
 exact hQ _ _ _ (by simp [go_sem,Y,jN]) (by simp [go_sem,Y,jN])
end Go.Abs
end
section
set_option maxRecDepth 100000
set_option maxHeartbeats 4000000
open Go Go.Proofs
namespace Go.Abs
theorem AB (l:List Int)(hl:l.length≤1000):Pure Tryz.prog 181 [dLI l] (.bool (decide (¬ l.Nodup))):=by
 have hlen:=jN l
 have hI:decide (imagesN l<l.length)=decide (¬ l.Nodup):=by
  have h1:=CW l
  have h2:imagesN l≤l.length:=by unfold imagesN;have:=FD (nO l);omega
  rw [bF];simp only [decide_eq_true_eq]
  constructor
  ·intro h hn;have:=h1.2 hn;omega
  ·intro hn;have:imagesN l≠l.length:=fun he=>hn (h1.1 he);omega
 unfold imagesN at hI
 refine Tz.pK ⟨fun _=>false,fun _=>[]⟩ Tryz.func181 rfl (fun Q hQ=>?_)
 have Y:=trivial
 refine wo (h:=aB (Ju l) wl ?_)
 refine wo (h:=kC (LU l (by omega)) wl ?_)
 refine wo (h:=?_)
 unfold dO;refine C4 (ty:=3) (xs:=nO l) (by simp [go_sem]) (by omega) fun k=>?_
 exact wo (h:=hQ _ _ (by simp [go_sem,hI]))
theorem Mg (t:Types)(p g:Graph)(m:Part)(inj:Bool):jW t p g m inj=if jW t p g m false≠0 then jW t p g m false else if inj=true∧(¬ m.nodes.Nodup∨¬ m.edges.Nodup) then 5 else 0:=by
 unfold jW
 split
 ·simp
 ·split
  ·simp_all
  ·split
   ·simp_all
   ·simp
theorem uK (t:Types)(ht:t.ok)(p g:Graph)(m:Part)(inj:Bool):Pure Tryz.prog 142 [t.d,p.d,g.d,m.d,.bool inj] (dI (fY t p g m inj)):=by
 refine Tz.pK ⟨fun _=>false,fun _=>[]⟩ Tryz.func142 rfl (fun Q hQ=>?_)
 have Y:=trivial
 refine wv (h:=aB (p6 t ht p g) wl ?_)
 refine dU (fun h2=>?_) fun h2=>?_
 ·have hC:fY t p g m inj=iF t p g:=by unfold fY;rw [if_pos (by simpa using h2)]
  exact wv (h:=hQ _ _ (by simp [go_sem,hC]))
 ·have hG:=q8 (by simpa using h2)
  have hv:=yH (by simpa using h2)
  have hla:=c9 hG.gp
  have hC:fY t p g m inj=jW t p g m inj:=by unfold fY;rw [if_neg (by simpa using h2)]
  rw [Mg] at hC
  refine wv (h:=aB (AC t ht p g hG hv m) wl ?_)
  refine dU (fun h5=>?_) fun h5=>?_
  ·rw [if_pos (by simpa using h5)] at hC
   exact wv (h:=hQ _ _ (by simp [go_sem,hC]))
  ·rw [if_neg (by simpa using h5)] at hC
   have hML:=(BY (show jW t p g m false=0 by simpa using h5)).1
   refine wo (h:=bD (fun hg=>AB m.nodes (by omega)) (fun hg=>wl) ?_)
   refine wo (h:=bD (fun hg=>AB m.edges (by omega)) (fun hg=>wl) ?_)
   refine mP (fun h7=>?_) fun h7=>?_
   ·rw [if_pos (by simpa using h7)] at hC
    exact wv (h:=hQ _ _ (by simp [go_sem,hC]))
   ·rw [if_neg (by simpa using h7)] at hC
    exact wv (h:=hQ _ _ (by simp [go_sem,hC]))
end Go.Abs
end
