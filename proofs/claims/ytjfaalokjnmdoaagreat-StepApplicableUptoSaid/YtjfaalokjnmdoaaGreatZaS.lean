/- The finder of the program: find, nodes. · The finder of the  -/
import Derived.Test.YtjfaalokjnmdoaaGreatZaF
import Derived.Test.YtjfaalokjnmdoaaGreatZaA
import Derived.Test.YtjfaalokjnmdoaaGreatZaR
import Derived.Test.YtjfaalokjnmdoaaGreatZaQ
import Derived.RangeFuncBox
import Derived.RangeFuncLeaves
import Derived.Shelf.Abstract
import Derived.WalkKit
import Derived.OwnWalkIn
import Derived.TacticsInMore
import Derived.LoopNIn
import Derived.LoopIn
import Derived.Maps.AppendAt
import Derived.Shelf.Spec.SlicesInsert
import Derived.Lib.AppendZerosOnto
import Derived.Shelf.Bits.Mul64
import Derived.Deep.OwnRows
import Derived.Laws.NewBlocks
import Derived.Laws.CopyOwn
set_option linter.unusedVariables false
set_option linter.unusedSimpArgs false
section
set_option maxRecDepth 100000
set_option maxHeartbeats 4000000
open Go Go.Proofs
namespace Go.Abs
theorem GN (S:Srch)(hG:G17 S.t S.p S.g)(hv:(cA S.t).2=0)(N:Nat)(hN:N≤5001)(pn pe:D)(hpn:GivD pn S.pn S.p.nodes.length)(hpe:GivD pe S.pe S.p.edges.length)(f o:Nat)(m:Nat)(ih:∀ k,k<m→OB S N pn pe f o k)(ns es:List Int)(out:List Part)(a b:Nat)(G:AHeap)(Q:D→AHeap→Prop)(hm:(S.p.nodes.length - ns.length)+(S.p.edges.length - es.length)=m)(hnl:ns.length≤S.p.nodes.length)(hel0:es.length≤S.p.edges.length)(hes:ns.length<S.p.nodes.length→es=[])(hF:FdS f a b o S N pn pe ns es out G)
  (hQ:∀ a' b' H',FdS f a' b' o S N pn pe ns es (Gc S N ns es out) H'→Q (.tup []) H') (hc1:ns.length<S.p.nodes.length) :
  ACalls Tryz.prog 377 [.ptr f 1 0 0] G Q:=by
 have hla:=bJ hG.gp
 have hlb:=bJ hG.gg
 have hib:∀ x∈S.p.edges,(0≤x.from_∧x.from_<S.p.nodes.length)∧(0≤x.to_∧x.to_<S.p.nodes.length):=fun x hx=>((dF hG.gp).2 x hx).2
 obtain ⟨gf,ga,gb,go,hle,⟨lf,la,lb,lo⟩,⟨d1,d2,d3⟩,⟨d4,d5⟩,d6⟩:=hF
 have ff:=bY lf
 have fa:=bY la
 have fb:=bY lb
 have fo:=bY lo
 have hpnc:=hpn.1
 have hpec:=hpe.1
 have hpr:∀ H:AHeap,eB H pn=pn:=fun H=>r7 hpnc
 have hpr2:∀ H:AHeap,eB H pe=pe:=fun H=>r7 hpec
 refine (aG (cfg:=⟨fun _=>false,fun r=>match r with|0=>[(2,16),(3,16),(4,16)]|_=>[]⟩) Tz.mixed Tryz.func377 rfl rfl (aE rfl) (by kernel_rfl) ?_)
 have di1:=And.intro (cO (show o≠b by omega)) (And.intro (cO (show o≠a by omega)) (And.intro (cO (show o≠f by omega)) (And.intro (cO (show b≠a by omega)) (And.intro (cO (show b≠f by omega)) (cO (show a≠f by omega))))))
 have Y:=wa gf (wa ga (wa gb (wa go (wa ff (wa fa (wa fb (wa fo (wa @Part.c.eq_1 (wa @Srch.cellP.eq_1 (wa hpnc (wa hpec (wa hpr (wa hpr2 (wa hc1 di1))))))))))))))
 refine qP (fun h1=>?_) fun h1=>?_
 ·have hX:Gc S N ns es out=out:=DU S _ _ (by omega)
  refine wv (h:=?_)
  exact hQ a b _ (by rw [hX];exact ⟨gf,ga,gb,go,hle,⟨by first|exact lf|(simp;omega),by first|exact la|(simp;omega),by first|exact lb|(simp;omega),by first|exact lo|(simp;omega)⟩,⟨d1,d2,d3⟩,⟨d4,d5⟩,d6⟩)
 ·have hnf:¬ N≤out.length:=by omega
  have hE0:=hes (by omega)
  subst hE0
  obtain ⟨k',hk'⟩:∃ k',S.p.nodes.length - ns.length=k'+1:=⟨S.p.nodes.length - ns.length - 1,by omega⟩
  have hel:ns.length<S.p.nodes.length:=by omega
  have hbp:=hG.tp _ (aC hel)
  have hrw:=Fr hbp
  obtain ⟨v,hv0⟩:∃ v,v=S.pn[ns.length]?.getD (-1):=⟨_,rfl⟩
  have hgv:=hpn.2 ns.length hel
  rw [← hv0] at hgv
  have hokN:∀ j (hj:j<S.g.nodes.length),FG S ns j=((decide (v<0)||decide (v=(j:Int)))&&(!(S.inj&&mem ns j)&&tT S.t S.p.nodes[ns.length] S.g.nodes[j])):=fun j hj=>by
   simp only [FG,vS,← hv0,aA hj,aA hel,aD]
  have Y:=wa Y (wa (aA hel) hrw)
  refine wp (h:=bB (fun j e H=>∃ a1:Nat,∃ b1:Nat,∃ ou:List Part,(e 0=.ptr f 1 0 0∧e 2=dI ns.length∧e 61=dLI S.g.nodes∧e 62=dI S.g.nodes.length∧e 63=dI j)∧(H.get f=some ⟨406,12,[S.cellP N pn pe (.own a1 ns.length) (.own b1 0) (.own o ou.length)],false⟩)∧(f<H.next)∧(H.get a1=some ⟨3,1,ns.map cI,false⟩)∧(a1<H.next)∧(H.get b1=some ⟨3,1,[],false⟩)∧(b1<H.next)∧(H.get o=some ⟨56,2,ou.map Part.c,false⟩)∧(o<H.next)∧(f≠a1)∧(f≠b1)∧(a1≠b1)∧(a1≠o)∧(b1≠o)∧(j≤S.g.nodes.length)∧(ou.length≤N)∧(ou=(List.range j).foldl (fun ou k=>if (FG S ns k&&qZ S (ns++[(k:Int)]))=true then LC S N k' (ns++[(k:Int)]) ou else ou) out)) (fun j=>S.g.nodes.length - j) 0 ⟨a,b,out,wg,wn,wn,wn,wn,wn,wn,wn,wn,wi,wi,wi,wi,wi,wi,(by (exact hle)),(by rfl)⟩ fun I1 hI1 j e H hi1=>?_)
  obtain ⟨a1,b1,ou,E1,gf_1,nf_1,ga1_1,na1_1,gb1_1,nb1_1,go_1,no_1,e1,e2,e3,e4,e5,hj,hou,hst⟩:=hi1
  have di2:=And.intro (cO (show o≠b1 by omega)) (And.intro (cO (show o≠a1 by omega)) (And.intro (cO (show o≠f by omega)) (And.intro (cO (show b1≠a1 by omega)) (And.intro (cO (show b1≠f by omega)) (cO (show a1≠f by omega))))))
  have Y:=wa Y (wa E1 (wa gf_1 (wa (bY nf_1) (wa ga1_1 (wa (bY na1_1) (wa gb1_1 (wa (bY nb1_1) (wa go_1 (wa (bY no_1) di2)))))))))
  refine cT (fun h5=>?_) fun h5=>?_
  ·have hEj:=hokN j h5
   have hbg:=hG.tg _ (aC h5)
   have hrb:=Ie hv hbp hbg
   have Y:=wa Y (wa h5 (wa (aA h5) hrb))
   refine wp (h:=aB (hgv) wl ?_)
   refine wp (h:=EX (fun hg=>fK ns j) wr (fun hg=>wl) (fun hg=> rfl) rfl V3 ?_)
   refine qP (fun h8=>?_) fun h8=>?_
   ·have hE:(FG S ns j&&qZ S (ns++[(j:Int)]))=false:=by
     have:FG S ns j=false:=by
      rw [hEj,bH];intro hT;simp at hT
      obtain ⟨c1,c2,c3⟩:=hT
      rcases h8 with (⟨k1,k2⟩|k1)|⟨k1,k2⟩
      ·rcases c1 with c1|c1
       ·omega
       ·exact k2 c1
      ·rw [k1] at c3;cases c3
      ·rcases c2 with c2|c2
       ·rw [k1] at c2;cases c2
       ·rw [k2] at c2;cases c2
     rw [this];rfl
    obtain ⟨ou2,hou2⟩:∃ x,x=ou:=⟨_,rfl⟩
    obtain ⟨a2,ha2⟩:∃ x,x=a1:=⟨_,rfl⟩
    obtain ⟨b2,hb2⟩:∃ x,x=b1:=⟨_,rfl⟩
    have Y:=wa Y (wa hou2 (wa ha2 hb2))
    exact wp (h:=wx hI1 (j+1) ⟨a2,b2,ou2,wg,wn,wn,wn,wn,wn,wn,wn,wn,wj,wj,wj,wj,wj,wj,(by (rw [hou2];first|exact hou|exact Kx hG.gp _ _ hou)),(by (rw [dB,← hst,hou2];first|rw [if_pos hE]|rw [if_neg (by rw [hE];simp)]))⟩)
   ·have hO:FG S ns j=true:=by
     obtain ⟨⟨k1,k2⟩,k3⟩:=h8
     have c1:(decide (v<0)||decide (v=(j:Int)))=true:=by simp;omega
     have c2:(S.inj&&mem ns (j:Int))=false:=by cases hI:S.inj;rfl;simp [k3 hI]
     rw [hEj,c1,k2,c2];rfl
    have hm1:(S.p.nodes.length - (ns++[(j:Int)]).length)+(S.p.edges.length - ([]:List Int).length)=m - 1:=by simp at hm ⊢;omega
    obtain ⟨m',hm'⟩:∃ x,x=m - 1:=⟨_,rfl⟩
    rw [← hm'] at hm1
    have Y:=wa Y h8
    refine wp (h:=BS (B8 S hG.gp hG.gg N pn pe (dLI []) (.list (ou.map Part.c)) hpnc (by simp [D.cl,go_sem]) (by simp [D.cl,sF]) (ns++[(j:Int)]) hpe) RP wl rfl ?_)
    refine qP (fun h10=>?_) fun h10=>?_
    ·have hE:(FG S ns j&&qZ S (ns++[(j:Int)]))=true:=by rw [hO,h10];rfl
     obtain ⟨ou2,hou2⟩:∃ x,x=LC S N k' (ns++[(j:Int)]) ou:=⟨_,rfl⟩
     have hk2:S.p.nodes.length - (ns.length+1)=k':=by omega
     have Y:=wa Y (wa hk2 (Eq.symm hou2))
     refine wv (h:=?_)
     unfold eY
     refine ih m' (by omega) (ns++[(j:Int)]) [] ou a1 b1 _ _ hm1 (by simp;omega) (by simp) (fun _=>rfl) ⟨by simp [go_sem,Y],by simp [go_sem,Y],by simp [go_sem,Y],by simp [go_sem,Y],hou,⟨by simp [go_sem];omega,by simp [go_sem];omega,by simp [go_sem];omega,by simp [go_sem];omega⟩,⟨e1,e2,d3⟩,⟨e3,e4⟩,e5⟩ (fun a3 b3 H3 hF3=>?_)
     rw [DT] at hF3
     obtain ⟨gf3,ga3,gb3,go3,hle3,⟨lf3,la3,lb3,lo3⟩,⟨x1,x2,x3⟩,⟨x4,x5⟩,x6⟩:=hF3
     have fr3:=And.intro (bY (show f<H3.next by omega)) (And.intro (bY (show a3<H3.next by omega)) (And.intro (bY (show b3<H3.next by omega)) (bY (show o<H3.next by omega))))
     have di4:=And.intro (cO (show o≠b3 by omega)) (And.intro (cO (show o≠a3 by omega)) (And.intro (cO (show o≠f by omega)) (And.intro (cO (show b3≠a3 by omega)) (And.intro (cO (show b3≠f by omega)) (cO (show a3≠f by omega))))))
     obtain ⟨a2,ha2⟩:∃ x,x=H3.next:=⟨_,rfl⟩
     obtain ⟨b2,hb2⟩:∃ x,x=b3:=⟨_,rfl⟩
     have Y:=wa Y (wa gf3 (wa ga3 (wa gb3 (wa go3 (wa fr3 (wa di4 (wa ha2 hb2)))))))
     exact wp (h:=Dw (Ghosts.trunc (.refl _) f 0 9 a3 ns.length _ _ _ (by simp [go_sem,Y];rfl) rfl rfl (by simp [go_sem,Y];rfl) (by simp [go_sem,Y]) rfl (by omega)) (j+1) (by omega) ((hI1 _ _ _).2 ⟨a2,b2,ou2,wg,wn,wn,wn,wn,wn,wn,wn,wn,wj,wj,wj,wj,wj,wj,(by (rw [hou2];first|exact hou|exact Kx hG.gp _ _ hou)),(by (rw [dB,← hst,hou2];first|rw [if_pos hE]|rw [if_neg (by rw [hE];simp)]))⟩))
    ·have hE:(FG S ns j&&qZ S (ns++[(j:Int)]))=false:=by rw [hO,h10];rfl
     obtain ⟨ou2,hou2⟩:∃ x,x=ou:=⟨_,rfl⟩
     obtain ⟨a2,ha2⟩:∃ x,x=H.next+41:=⟨_,rfl⟩
     obtain ⟨b2,hb2⟩:∃ x,x=b1:=⟨_,rfl⟩
     have Y:=wa Y (wa hou2 (wa ha2 hb2))
     exact wp (h:=Dw (Ghosts.trunc (.refl _) f 0 9 a1 ns.length _ _ _ (by simp [go_sem,Y];rfl) rfl rfl (by simp [go_sem,Y];rfl) (by simp [go_sem,Y]) rfl (by omega)) (j+1) (by omega) ((hI1 _ _ _).2 ⟨a2,b2,ou2,wg,wn,wn,wn,wn,wn,wn,wn,wn,wj,wj,wj,wj,wj,wj,(by (rw [hou2];first|exact hou|exact Kx hG.gp _ _ hou)),(by (rw [dB,← hst,hou2];first|rw [if_pos hE]|rw [if_neg (by rw [hE];simp)]))⟩))
  ·have hJ:j=S.g.nodes.length:=by omega
   have hOV:Gc S N ns [] out=ou:=by rw [DT,hk'];simp only [LC];rw [if_neg hnf,hst,hJ]
   refine wv (h:=?_)
   exact hQ a1 b1 _ (by rw [hOV];exact ⟨by assumption,by assumption,by assumption,by assumption,hou,⟨by assumption,by assumption,by assumption,by assumption⟩,⟨e1,e2,d3⟩,⟨e3,e4⟩,e5⟩)
theorem Vo (a k:Nat):a+(k+1) - (a+1)=k+1 - 1:=by omega
theorem Vn (a k:Nat):a+(k+1) - (a+1)=k:=by omega
theorem Vm (a k:Nat):a+(k+1) - a=k+1:=by omega
theorem GM (S:Srch)(hG:G17 S.t S.p S.g)(hv:(cA S.t).2=0)(N:Nat)(hN:N≤5001)(pn pe:D)(hpn:GivD pn S.pn S.p.nodes.length)(hpe:GivD pe S.pe S.p.edges.length)(f o:Nat)(m:Nat)(ih:∀ k,k<m→OB S N pn pe f o k)(ns es:List Int)(out:List Part)(a b:Nat)(G:AHeap)(Q:D→AHeap→Prop)(hm:(S.p.nodes.length - ns.length)+(S.p.edges.length - es.length)=m)(hnl:ns.length≤S.p.nodes.length)(hel0:es.length≤S.p.edges.length)(hes:ns.length<S.p.nodes.length→es=[])(hF:FdS f a b o S N pn pe ns es out G)
  (hQ:∀ a' b' H',FdS f a' b' o S N pn pe ns es (Gc S N ns es out) H'→Q (.tup []) H') (hc1:¬ ns.length<S.p.nodes.length) (hc2:es.length<S.p.edges.length) :
  ACalls Tryz.prog 377 [.ptr f 1 0 0] G Q:=by
 have hla:=bJ hG.gp
 have hlb:=bJ hG.gg
 have hib:∀ x∈S.p.edges,(0≤x.from_∧x.from_<S.p.nodes.length)∧(0≤x.to_∧x.to_<S.p.nodes.length):=fun x hx=>((dF hG.gp).2 x hx).2
 obtain ⟨gf,ga,gb,go,hle,⟨lf,la,lb,lo⟩,⟨d1,d2,d3⟩,⟨d4,d5⟩,d6⟩:=hF
 have ff:=bY lf
 have fa:=bY la
 have fb:=bY lb
 have fo:=bY lo
 have hpnc:=hpn.1
 have hpec:=hpe.1
 have hpr:∀ H:AHeap,eB H pn=pn:=fun H=>r7 hpnc
 have hpr2:∀ H:AHeap,eB H pe=pe:=fun H=>r7 hpec
 refine (aG (cfg:=⟨fun _=>false,fun r=>match r with|0=>[(2,16),(3,16),(4,16)]|_=>[]⟩) Tz.mixed Tryz.func377 rfl rfl (aE rfl) (by kernel_rfl) ?_)
 have di1:=And.intro (cO (show o≠b by omega)) (And.intro (cO (show o≠a by omega)) (And.intro (cO (show o≠f by omega)) (And.intro (cO (show b≠a by omega)) (And.intro (cO (show b≠f by omega)) (cO (show a≠f by omega))))))
 have Y:=wa gf (wa ga (wa gb (wa go (wa ff (wa fa (wa fb (wa fo (wa @Part.c.eq_1 (wa @Srch.cellP.eq_1 (wa hpnc (wa hpec (wa hpr (wa hpr2 (wa hc1 (wa hc2 di1)))))))))))))))
 refine qP (fun h1=>?_) fun h1=>?_
 ·have hX:Gc S N ns es out=out:=DU S _ _ (by omega)
  refine wv (h:=?_)
  exact hQ a b _ (by rw [hX];exact ⟨gf,ga,gb,go,hle,⟨by first|exact lf|(simp;omega),by first|exact la|(simp;omega),by first|exact lb|(simp;omega),by first|exact lo|(simp;omega)⟩,⟨d1,d2,d3⟩,⟨d4,d5⟩,d6⟩)
 ·have hnf:¬ N≤out.length:=by omega
  obtain ⟨k',hk'⟩:∃ k',S.p.edges.length - es.length=k'+1:=⟨S.p.edges.length - es.length - 1,by omega⟩
  have hmk:m=k'+1:=by rw [← hm,Nat.sub_eq_zero_of_le (Nat.not_lt.1 hc1),dL,hk']
  have hks:S.p.edges.length=es.length+(k'+1):=by omega
  clear hm hk'
  have hel2:es.length<S.p.edges.length:=by omega
  have hbx:=hib _ (aC hel2)
  have hf1:S.p.edges[es.length].from_.toNat<ns.length:=by omega
  have hft:S.p.edges[es.length].to_.toNat<ns.length:=by omega
  refine wp (h:=bB (fun j e H=>∃ a1:Nat,∃ b1:Nat,∃ ou:List Part,(e 0=.ptr f 1 0 0∧e 6=dI es.length∧e 162=.list (S.g.edges.map Edge.c)∧e 163=dI S.g.edges.length∧e 164=dI j)∧(H.get f=some ⟨406,12,[S.cellP N pn pe (.own a1 ns.length) (.own b1 es.length) (.own o ou.length)],false⟩)∧(f<H.next)∧(H.get a1=some ⟨3,1,ns.map cI,false⟩)∧(a1<H.next)∧(H.get b1=some ⟨3,1,es.map cI,false⟩)∧(b1<H.next)∧(H.get o=some ⟨56,2,ou.map Part.c,false⟩)∧(o<H.next)∧(f≠a1)∧(f≠b1)∧(a1≠b1)∧(a1≠o)∧(b1≠o)∧(j≤S.g.edges.length)∧(ou.length≤N)∧(ou=(List.range j).foldl (fun ou k=>if LI S ns es k=true then Ez S N ns k' (es++[(k:Int)]) ou else ou) out)) (fun j=>S.g.edges.length - j) 0 ⟨a,b,out,wg,wn,wn,wn,wn,wn,wn,wn,wn,wi,wi,wi,wi,wi,wi,(by (exact hle)),(by rfl)⟩ fun I3 hI3 j e H hi3=>?_)
  obtain ⟨a1,b1,ou,E3,gf_3,nf_3,ga1_3,na1_3,gb1_3,nb1_3,go_3,no_3,e1,e2,e3,e4,e5,hj,hou,hst⟩:=hi3
  have di2:=And.intro (cO (show o≠b1 by omega)) (And.intro (cO (show o≠a1 by omega)) (And.intro (cO (show o≠f by omega)) (And.intro (cO (show b1≠a1 by omega)) (And.intro (cO (show b1≠f by omega)) (cO (show a1≠f by omega))))))
  have Y:=wa Y (wa E3 (wa gf_3 (wa (bY nf_3) (wa ga1_3 (wa (bY na1_3) (wa gb1_3 (wa (bY nb1_3) (wa go_3 (wa (bY no_3) di2)))))))))
  refine cT (fun h17=>?_) fun h17=>?_
  ·have hEj:LI S ns es j=(Cf S ns es.length j&&!(S.inj&&mem es j)):=by
    simp only [LI,Cf]
    cases vS S.pe es.length j<;>cases vP S ns es.length j<;>cases (S.inj&&mem es j)<;>rfl
   have Y:=wa Y h17
   refine wp (h:=BS (Bm S N pn pe (dLI es) (.list (ou.map Part.c)) hpnc (by simp [D.cl,go_sem]) (by simp [D.cl,sF]) ns es.length j hel2 h17 hpe hbx.1.1 hf1 hbx.2.1 hft) RP wl rfl ?_)
   refine wp (h:=Hj (fun hg=>fK es j) wr (fun hg=>wl) (fun hg=> rfl) ?_)
   refine qP (fun h19=>?_) fun h19=>?_
   ·have hE:LI S ns es j=false:=by
     rw [hEj]
     rcases h19 with k1|⟨k1,k2⟩
     ·rw [k1];rfl
     ·rw [k1,k2];simp
    obtain ⟨ou2,hou2⟩:∃ x,x=ou:=⟨_,rfl⟩
    obtain ⟨a2,ha2⟩:∃ x,x=a1:=⟨_,rfl⟩
    obtain ⟨b2,hb2⟩:∃ x,x=b1:=⟨_,rfl⟩
    have Y:=wa Y (wa hou2 (wa ha2 hb2))
    exact wp (h:=wx hI3 (j+1) ⟨a2,b2,ou2,wg,wn,wn,wn,wn,wn,wn,wn,wn,wj,wj,wj,wj,wj,wj,(by (rw [hou2];first|exact hou|exact AF _ _ _ _ hou)),(by (rw [dB,← hst,hou2];first|rw [if_pos hE]|rw [if_neg (by rw [hE];simp)]))⟩)
   ·have hE:LI S ns es j=true:=by
     obtain ⟨k1,k2⟩:=h19
     have c2:(S.inj&&mem es (j:Int))=false:=by cases hI:S.inj;rfl;simp [k2 hI]
     rw [hEj,k1,c2];rfl
    have hm1:(S.p.nodes.length - ns.length)+(S.p.edges.length - (es++[(j:Int)]).length)=m - 1:=by
     rw [Nat.sub_eq_zero_of_le (Nat.not_lt.1 hc1),aT,List.length_singleton,dL,hks,hmk];exact Vo _ _
    have hmm:m - 1<m:=by rw [hmk];exact Nat.lt_succ_self k'
    obtain ⟨m',hm'⟩:∃ x,x=m - 1:=⟨_,rfl⟩
    rw [← hm'] at hm1 hmm
    obtain ⟨ou2,hou2⟩:∃ x,x=Ez S N ns k' (es++[(j:Int)]) ou:=⟨_,rfl⟩
    have hfd:Gc S N ns (es++[(j:Int)]) ou=ou2:=by
     have hk3:S.p.edges.length - (es++[(j:Int)]).length=k':=by
      rw [aT,List.length_singleton,hks];exact Vn _ _
     rw [hou2];unfold Gc;rw [if_neg (show ¬ ns.length<S.p.nodes.length by omega),hk3]
    have Y:=wa Y (wa h19 hfd)
    refine wp (h:=?_)
    unfold eY
    refine ih m' hmm ns (es++[(j:Int)]) ou a1 b1 _ _ hm1 (by omega) (by simp;omega) (fun h=>absurd h (by omega)) ⟨by simp [go_sem,Y],by simp [go_sem,Y],by simp [go_sem,Y],by simp [go_sem,Y],hou,⟨by simp [go_sem];omega,by simp [go_sem];omega,by simp [go_sem];omega,by simp [go_sem];omega⟩,⟨e1,e2,d3⟩,⟨e3,e4⟩,e5⟩ (fun a3 b3 H3 hF3=>?_)
    obtain ⟨gf3,ga3,gb3,go3,hle3,⟨lf3,la3,lb3,lo3⟩,⟨x1,x2,x3⟩,⟨x4,x5⟩,x6⟩:=hF3
    have fr3:=And.intro (bY (show f<H3.next by omega)) (And.intro (bY (show a3<H3.next by omega)) (And.intro (bY (show b3<H3.next by omega)) (bY (show o<H3.next by omega))))
    have di4:=And.intro (cO (show o≠b3 by omega)) (And.intro (cO (show o≠a3 by omega)) (And.intro (cO (show o≠f by omega)) (And.intro (cO (show b3≠a3 by omega)) (And.intro (cO (show b3≠f by omega)) (cO (show a3≠f by omega))))))
    obtain ⟨a2,ha2⟩:∃ x,x=a3:=⟨_,rfl⟩
    obtain ⟨b2,hb2⟩:∃ x,x=H3.next:=⟨_,rfl⟩
    have Y:=wa Y (wa gf3 (wa ga3 (wa gb3 (wa go3 (wa fr3 (wa di4 (wa ha2 hb2)))))))
    exact wp (h:=Dw (Ghosts.trunc (.refl _) f 0 10 b3 es.length _ _ _ (by simp [go_sem,Y];rfl) rfl rfl (by simp [go_sem,Y];rfl) (by simp [go_sem,Y]) rfl (by omega)) (j+1) (by omega) ((hI3 _ _ _).2 ⟨a2,b2,ou2,wg,wn,wn,wn,wn,wn,wn,wn,wn,wj,wj,wj,wj,wj,wj,(by (rw [hou2];first|exact hou|exact AF _ _ _ _ hou)),(by (rw [dB,← hst,hou2];first|rw [if_pos hE]|rw [if_neg (by rw [hE];simp)]))⟩))
  ·have hJ:j=S.g.edges.length:=by omega
   have hk2:S.p.edges.length - es.length=k'+1:=by
    rw [hks];exact Vm _ _
   have hOV:Gc S N ns es out=ou:=by unfold Gc;rw [if_neg hc1,hk2];simp only [Ez];rw [if_neg hnf,hst,hJ]
   refine wv (h:=?_)
   exact hQ a1 b1 _ (by rw [hOV];exact ⟨by assumption,by assumption,by assumption,by assumption,hou,⟨by assumption,by assumption,by assumption,by assumption⟩,⟨e1,e2,d3⟩,⟨e3,e4⟩,e5⟩)
theorem GL (S:Srch)(hG:G17 S.t S.p S.g)(hv:(cA S.t).2=0)(N:Nat)(hN:N≤5001)(pn pe:D)(hpn:GivD pn S.pn S.p.nodes.length)(hpe:GivD pe S.pe S.p.edges.length)(f o:Nat)(m:Nat)(ih:∀ k,k<m→OB S N pn pe f o k)(ns es:List Int)(out:List Part)(a b:Nat)(G:AHeap)(Q:D→AHeap→Prop)(hm:(S.p.nodes.length - ns.length)+(S.p.edges.length - es.length)=m)(hnl:ns.length≤S.p.nodes.length)(hel0:es.length≤S.p.edges.length)(hes:ns.length<S.p.nodes.length→es=[])(hF:FdS f a b o S N pn pe ns es out G)
  (hQ:∀ a' b' H',FdS f a' b' o S N pn pe ns es (Gc S N ns es out) H'→Q (.tup []) H') (hc1:¬ ns.length<S.p.nodes.length) (hc2:¬ es.length<S.p.edges.length) :
  ACalls Tryz.prog 377 [.ptr f 1 0 0] G Q:=by
 have hla:=bJ hG.gp
 have hlb:=bJ hG.gg
 have hib:∀ x∈S.p.edges,(0≤x.from_∧x.from_<S.p.nodes.length)∧(0≤x.to_∧x.to_<S.p.nodes.length):=fun x hx=>((dF hG.gp).2 x hx).2
 obtain ⟨gf,ga,gb,go,hle,⟨lf,la,lb,lo⟩,⟨d1,d2,d3⟩,⟨d4,d5⟩,d6⟩:=hF
 have ff:=bY lf
 have fa:=bY la
 have fb:=bY lb
 have fo:=bY lo
 have hpnc:=hpn.1
 have hpec:=hpe.1
 have hpr:∀ H:AHeap,eB H pn=pn:=fun H=>r7 hpnc
 have hpr2:∀ H:AHeap,eB H pe=pe:=fun H=>r7 hpec
 refine (aG (cfg:=⟨fun _=>false,fun r=>match r with|0=>[(2,16),(3,16),(4,16)]|_=>[]⟩) Tz.mixed Tryz.func377 rfl rfl (aE rfl) (by kernel_rfl) ?_)
 have di1:=And.intro (cO (show o≠b by omega)) (And.intro (cO (show o≠a by omega)) (And.intro (cO (show o≠f by omega)) (And.intro (cO (show b≠a by omega)) (And.intro (cO (show b≠f by omega)) (cO (show a≠f by omega))))))
 have Y:=wa gf (wa ga (wa gb (wa go (wa ff (wa fa (wa fb (wa fo (wa @Part.c.eq_1 (wa @Srch.cellP.eq_1 (wa hpnc (wa hpec (wa hpr (wa hpr2 (wa hc1 (wa hc2 di1)))))))))))))))
 refine qP (fun h1=>?_) fun h1=>?_
 ·have hX:Gc S N ns es out=out:=DU S _ _ (by omega)
  refine wv (h:=?_)
  exact hQ a b _ (by rw [hX];exact ⟨gf,ga,gb,go,hle,⟨by first|exact lf|(simp;omega),by first|exact la|(simp;omega),by first|exact lb|(simp;omega),by first|exact lo|(simp;omega)⟩,⟨d1,d2,d3⟩,⟨d4,d5⟩,d6⟩)
 ·have hnf:¬ N≤out.length:=by omega
  have hX:Gc S N ns es out=out++[⟨ns,es⟩]:=by
   unfold Gc;rw [if_neg (by omega),show S.p.edges.length - es.length=0 by omega];simp only [Ez];rw [if_neg hnf]
  refine wp (h:=?_)
  refine kQ (jW ns (by omega)) (by simp [go_sem,Y,dLI]) (by simp [go_sem]) (F7 _) rfl (by simp [go_sem]) ?_
  refine wp (h:=?_)
  refine kQ (jW es (by omega)) (by simp [go_sem,Y,dLI]) (by simp [go_sem]) (F7 _) rfl (by simp [go_sem]) ?_
  refine wp (h:=?_)
  exact hQ a b _ (by rw [hX];exact ⟨by simp [go_sem,Y],by simp [go_sem,Y],by simp [go_sem,Y],by simp [go_sem,Y],by simp;omega,⟨by simp [go_sem];omega,by simp [go_sem];omega,by simp [go_sem];omega,by simp [go_sem];omega⟩,⟨d1,d2,d3⟩,⟨d4,d5⟩,d6⟩)
theorem H8 (S:Srch)(hG:G17 S.t S.p S.g)(hv:(cA S.t).2=0)(N:Nat)(hN:N≤5001)(pn pe:D)(hpn:GivD pn S.pn S.p.nodes.length)(hpe:GivD pe S.pe S.p.edges.length)(f o:Nat) :
  ∀ (m:Nat) (ns es:List Int) (out:List Part) (a b:Nat) (G:AHeap) (Q:D→AHeap→Prop),(S.p.nodes.length - ns.length)+(S.p.edges.length - es.length)=m→ns.length≤S.p.nodes.length→es.length≤S.p.edges.length→(ns.length<S.p.nodes.length→es=[])→FdS f a b o S N pn pe ns es out G →
  (∀ a' b' H',FdS f a' b' o S N pn pe ns es (Gc S N ns es out) H'→Q (.tup []) H')→ACalls Tryz.prog 377 [.ptr f 1 0 0] G Q:=by
 intro m
 induction m using Nat.strongRecOn with
 | _ m ih =>
 intro ns es out a b G Q hm hnl hel0 hes hF hQ
 by_cases hc1:ns.length<S.p.nodes.length
 ·exact GN S hG hv N hN pn pe hpn hpe f o m ih ns es out a b G Q hm hnl hel0 hes hF hQ hc1
 ·by_cases hc2:es.length<S.p.edges.length
  ·exact GM S hG hv N hN pn pe hpn hpe f o m ih ns es out a b G Q hm hnl hel0 hes hF hQ hc1 hc2
  ·exact GL S hG hv N hN pn pe hpn hpe f o m ih ns es out a b G Q hm hnl hel0 hes hF hQ hc1 hc2
theorem GK (S:Srch)(hG:G17 S.t S.p S.g)(ht:S.t.ok)(hv:(cA S.t).2=0)(N:Nat)(hN:N≤5001)(pn pe:D)(hpn:GivD pn S.pn S.p.nodes.length)(hpe:GivD pe S.pe S.p.edges.length)(hcn:pn.cell=true)(hce:pe.cell=true){L:List Part}(hL:L=(tV S).take N) :
  Pure Tryz.prog 318 [S.t.d,S.p.d,S.g.d,.agg [pn,pe],.bool S.inj,dI N] (.list (L.map Part.c)):=by
 have hRn:Gc S N [] [] []=L:=by rw [DT,Ky hG.gp N _ _ _ (by simp),hL];simp [tV]
 have hpnc:=hpn.1
 have hpec:=hpe.1
 have hcn':=hcn
 have hce':=hce
 unfold D.cell at hcn' hce'
 refine vF (by first|rfl|(simp [go_sem];done)) (fun Q hQ=>(aG (cfg:=⟨fun t=>t==22,fun _=>[]⟩) Tz.mixed Tryz.func318 rfl rfl (aE rfl) (by kernel_rfl) ?_))
 have Y:=wa hpnc (wa hpec (wa @belowD.eq_1 (wa hcn' hce')))
 refine wv (h:=aI (y8 S.t ht) wl ?_)
 refine wv (h:=?_)
 refine tS (.step (.step (.step (.refl _) 8 0 9 3 1 _ _ (by simp [go_sem];rfl) rfl rfl rfl) 8 0 10 3 1 _ _ (by simp [go_sem];rfl) rfl rfl rfl) 8 0 11 56 2 _ _ (by simp [go_sem];rfl) rfl rfl rfl) ?_
 simp [go_sem]
 unfold eY
 refine H8 S hG hv N hN pn pe hpn hpe 8 12 _ [] [] [] 10 11 _ _ rfl (by simp) (by simp) (fun _=>rfl) ⟨by simp [go_sem,Srch.cellP,Graph.c,dLI,dI],by simp [go_sem],by simp [go_sem],by simp [go_sem],by simp,by simp [go_sem],by simp,by simp,by simp⟩ (fun a3 b3 H3 hF3=>?_)
 rw [hRn] at hF3
 obtain ⟨gf3,ga3,gb3,go3,hle3,hn3,hd3⟩:=hF3
 have Y:=wa Y (wa gf3 (wa go3 @Srch.cellP.eq_1))
 refine wv (h:=?_)
 exact hQ _ _ (by simp [go_sem,Y,lK,IQ])
theorem C0 (t:Types)(ht:t.ok)(hv:(cA t).2=0)(p g:Graph)(hG:G17 t p g)(pl el:List Int)(inj:Bool)(pn pe:D)(hpn:GivD pn pl p.nodes.length)(hpe:GivD pe el p.edges.length)(hcn:pn.cell=true)(hce:pe.cell=true){w:List Part × Int}(hw:w=Ci (tV ⟨t,p,g,pl,el,inj⟩)) :
  Pure Tryz.prog 221 [t.d,p.d,g.d,.agg [pn,pe],.bool inj] (.tup [.list (w.1.map Part.c),dI w.2]):=by
 obtain ⟨L,hL⟩:∃ L,L=(tV ⟨t,p,g,pl,el,inj⟩).take 5001:=⟨_,rfl⟩
 have hA:w=if 5000<L.length then ([],3) else (L,0):=by rw [hw];unfold Ci;rw [← hL]
 have hpnc:=hpn.1
 have hpec:=hpe.1
 have hcn':=hcn
 have hce':=hce
 unfold D.cell at hcn' hce'
 refine Tz.pK ⟨fun _=>false,fun _=>[]⟩ Tryz.func221 rfl (fun Q hQ=>?_)
 have Y:=wa hpnc (wa hpec (wa hcn' hce'))
 refine wv (h:=aB (GK ⟨t,p,g,pl,el,inj⟩ hG ht hv 5001 (by omega) pn pe hpn hpe hcn hce hL) wl ?_)
 refine dV (fun h2=>?_) fun h2=>?_
 ·rw [if_pos (by omega)] at hA
  exact wv (h:=hQ _ _ (by simp [go_sem,hA]))
 ·rw [if_neg (by omega)] at hA
  exact wv (h:=hQ _ _ (by simp [go_sem,hA]))
theorem wM {t:Types}{p g:Graph}(h:dY t p g=0):(cA t).2=0:=by
 unfold dY at h
 split at h
 ·exact absurd h (by assumption)
 ·rename_i h1;simpa using h1
theorem Kb (t:Types)(ht:t.ok)(p g:Graph)(inj:Bool):Pure Tryz.prog 132 [t.d,p.d,g.d,.bool inj] (.tup [.list ((jG t p g inj).1.map Part.c),dI (jG t p g inj).2]):=by
 refine Tz.pK ⟨fun _=>false,fun _=>[]⟩ Tryz.func132 rfl (fun Q hQ=>?_)
 have Y:=trivial
 refine wv (h:=aB (oX t ht p g) wl ?_)
 refine cT (fun h2=>?_) fun h2=>?_
 ·have hA:jG t p g inj=([],dY t p g):=by unfold jG;rw [if_pos (by simpa using h2)]
  exact wv (h:=hQ _ _ (by simp [go_sem,hA]))
 ·have hG:=kO (by simpa using h2)
  have hv:=wM (by simpa using h2)
  obtain ⟨w,hw⟩:∃ w,w=Ci (tV ⟨t,p,g,List.replicate p.nodes.length (-1),List.replicate p.edges.length (-1),inj⟩):=⟨_,rfl⟩
  have hA:jG t p g inj=w:=by unfold jG;rw [if_neg (by simpa using h2),hw]
  refine wv (h:=aB (C0 t ht hv p g hG _ _ inj .nil .nil (GivD.nil _) (GivD.nil _) rfl rfl hw) wl ?_)
  exact wv (h:=hQ _ _ (by simp [go_sem,hA]))
theorem ED (t:Types)(ht:t.ok)(p g:Graph)(q:Part)(inj:Bool):Pure Tryz.prog 450 [t.d,p.d,g.d,q.d,.bool inj] (.tup [.list ((lC t p g q inj).1.map Part.c),dI (lC t p g q inj).2]):=by
 refine Tz.pK ⟨fun _=>false,fun _=>[]⟩ Tryz.func450 rfl (fun Q hQ=>?_)
 have Y:=trivial
 refine wv (h:=aB (oX t ht p g) wl ?_)
 refine cT (fun h2=>?_) fun h2=>?_
 ·have hA:lC t p g q inj=([],dY t p g):=by unfold lC;rw [if_pos (by simpa using h2)]
  exact wv (h:=hQ _ _ (by simp [go_sem,hA]))
 ·have hG:=kO (by simpa using h2)
  have hv:=wM (by simpa using h2)
  refine dV (fun h4=>?_) fun h4=>?_
  ·have hA:lC t p g q inj=([],20):=by unfold lC;rw [if_neg (by simpa using h2),if_pos (by omega)]
   exact wv (h:=hQ _ _ (by simp [go_sem,hA]))
  ·have hq:q.nodes.length=p.nodes.length∧q.edges.length=p.edges.length:=by omega
   refine wo (h:=aB (Bl q.nodes g.nodes.length) wl ?_)
   refine dV (fun h7=>?_) fun h7=>?_
   ·have hA:lC t p g q inj=([],k9 q.nodes g.nodes.length):=by unfold lC;rw [if_neg (by simpa using h2),if_neg (by omega),if_pos (by simpa using h7)]
    exact wv (h:=hQ _ _ (by simp [go_sem,hA]))
   ·have h7':k9 q.nodes g.nodes.length=0:=by simpa using h7
    refine wo (h:=aB (Bl q.edges g.edges.length) wl ?_)
    refine dV (fun h10=>?_) fun h10=>?_
    ·have hA:lC t p g q inj=([],k9 q.edges g.edges.length):=by unfold lC;rw [if_neg (by simpa using h2),if_neg (by omega),if_neg (by omega),if_pos (by simpa using h10)]
     exact wv (h:=hQ _ _ (by simp [go_sem,hA]))
    ·have h10':k9 q.edges g.edges.length=0:=by simpa using h10
     obtain ⟨w,hw⟩:∃ w,w=Ci (tV ⟨t,p,g,q.nodes,q.edges,inj⟩):=⟨_,rfl⟩
     have hA:lC t p g q inj=w:=by unfold lC;rw [if_neg (by simpa using h2),if_neg (by omega),if_neg (by omega),if_neg (by omega),hw]
     refine wv (h:=aB (C0 t ht hv p g hG q.nodes q.edges inj (dLI q.nodes) (dLI q.edges) (hq.1 ▸ GivD.list q.nodes) (hq.2 ▸ GivD.list q.edges) rfl rfl hw) wl ?_)
     exact wv (h:=hQ _ _ (by simp [go_sem,hA]))
theorem PR (l:List Edge):∀ d∈(l.map Edge.c).flatten,d.flat=true:=by
 intro d hd
 rw [gZ] at hd
 obtain ⟨c,hc,hd⟩:=hd
 rw [bG] at hc
 obtain ⟨x,_,rfl⟩:=hc
 simp only [Edge.c,aS,eO,or_false] at hd
 rcases hd with rfl|rfl|rfl<;>rfl
theorem B9 (t:Types)(ht:t.ok)(p g:Graph)(m:Part):Pure Tryz.prog 135 [t.d,p.d,g.d,m.d] (.tup [(w3 t p g m).d,dI (eG t p g m false)]):=by
 refine Tz.pK ⟨fun t=>t==8||t==12,fun r=>match r with|11=>[(0,7),(1,7)]|_=>[]⟩ Tryz.func135 rfl (fun Q hQ=>?_)
 have Y:=trivial
 refine wv (h:=aB (oX t ht p g) wl ?_)
 refine cT (fun h2=>?_) fun h2=>?_
 ·have hC:eG t p g m false=dY t p g:=by unfold eG;rw [if_pos (by simpa using h2)]
  have hI:w3 t p g m=⟨[],[]⟩:=by unfold w3;rw [if_neg (by rw [hC];simpa using h2)]
  exact wv (h:=hQ _ _ (by simp [go_sem,hI,hC]))
 ·have hG:=kO (by simpa using h2)
  have hv:=wM (by simpa using h2)
  have hla:=bJ hG.gp
  have hlb:=bJ hG.gg
  have hC:eG t p g m false=gJ t p g m false:=by unfold eG;rw [if_neg (by simpa using h2)]
  refine wv (h:=aB (y7 t ht p g hG hv m) wl ?_)
  refine cT (fun h5=>?_) fun h5=>?_
  ·have hI:w3 t p g m=⟨[],[]⟩:=by unfold w3;rw [if_neg (by rw [hC];simpa using h5)]
   exact wv (h:=hQ _ _ (by simp [go_sem,hI,hC]))
  ·have hM:gJ t p g m false=0:=by simpa using h5
   obtain ⟨⟨hl1,hl2⟩,hmn,hme⟩:=wJ hM
   have hI:w3 t p g m=oB p g m:=by unfold w3;rw [if_pos (by rw [hC];exact hM)]
   refine wv (h:=?_)
   refine Le (D7 p.edges (by omega)) (by simp [go_sem]) (by simp [go_sem]) (PR _) ?_
   refine wp (h:=vK (Ghosts.step (Ghosts.refl _) 1 0 0 3 1 _ _ (rfl) rfl rfl rfl) (fun i e H=>∃ xs:List Int,(e 4=.adr t.c∧e 5=.adr p.c∧e 6=.adr g.c∧e 7=.adr m.c∧e 8=.ptr 0 1 0 0∧e 12=.ptr 1 1 0 0∧e 37=dLI m.nodes∧e 38=dI m.nodes.length∧e 39=dI i)∧(H.get 0=some ⟨37,2,[[.nil,.nil]],false⟩)∧(0<H.next)∧(H.get 1=some ⟨37,2,[[.own 2 xs.length,.list (p.edges.map Edge.c)]],false⟩)∧(1<H.next)∧(H.get 2=some ⟨3,1,xs.map cI,false⟩)∧(2<H.next)∧(i≤m.nodes.length)∧(xs=(m.nodes.take i).map (gN g))) (fun i=>m.nodes.length - i) 0 ⟨([]),wg,wn,wn,wn,wn,wn,wn,wi,(by rfl)⟩ fun I0 hI0 i e H hi0=>?_)
   obtain ⟨xs,E0,g0_0,n0_0,g1_0,n1_0,g2_0,n2_0,hi,hx⟩:=hi0
   have Y:=wa Y (wa E0 (wa g0_0 (wa (bY n0_0) (wa g1_0 (wa (bY n1_0) (wa g2_0 (bY n2_0)))))))
   refine cT (fun h9=>?_) fun h9=>?_
   ·have hmi:=hmn _ (aC h9)
    have hk:m.nodes[i].toNat<g.nodes.length:=by omega
    have hxl:xs.length=i:=by rw [hx];simp;omega
    have Y:=wa Y (wa h9 (wa (aA h9) (wa (aA hk) @gN.eq_1)))
    exact wp (h:=wx hI0 (i+1) ⟨(xs++[gN g m.nodes[i]]),wg,wn,wn,wn,wn,wn,wn,wj,(by (rw [i5 _ h9,← hx]))⟩)
   ·have hX:xs=m.nodes.map (gN g):=by rw [hx,jP _ (by omega)]
    exact wv (h:=hQ _ _ (by simp [go_sem,Y,hI,hC,hM,oB,Graph.d,Graph.c,hX,dLI]))
end Go.Abs
end
section
set_option maxRecDepth 100000
set_option maxHeartbeats 4000000
namespace Go.Abs
open Go Go.Proofs Go.RowKit Go.Shelf
attribute [local go_sem] Oper.semAt_some
theorem CV:(Tryz.prog.info? 3).map (fun i=>(i.zero,i.size,i.bytes))=some (some (.int .i64 0),1,8):=by kernel_rfl
theorem JX (F:Fence)(n:Nat)(h7:F.fn 424)(hro:F.round=none)(hn:1≤n)(l n₀:Nat)(a ad:Addr)(cap:Nat)(zs:List Int)(hreach:zs.length≤1000000)(hb:zs≠[]→ad.block<n₀)(J Jx:List Int→World→Prop)
  (hY:∀ pre x W,J pre W→pre.length<zs.length→YieldAt F (n - 1) Tryz.prog l #[.int .i64 x] W fun e W' =>
   (e=.returned (.bool true)∧J (pre++[x]) W'∧Below n₀ W W')∨(e=.returned (.bool false)∧Jx (pre++[x]) W'))
  (W:World) (hBs:W.cell? a=some (.slice (some ad) zs.length cap)) (hc:∀ j x,zs[j]?=some x→W.cell? (ad.add j)=some (.int .i64 x)) (h0:J [] W) :
  CallsIn F n Tryz.prog 424 #[.func (.yield l) #[] #[],.pointer (some a)] W fun e W'=>(∃ v,e=.returned v) ∧
   ((∃ ys,ys=zs∧J ys W')∨(∃ pre,True∧Jx pre W')):=by
 refine callsIn_of_wp Tryz.func424 rfl h7 ?_ hro
 simp only [Tryz.ntmps424,lF,eC,nZ,Nat.reduceAdd,Nat.reduceSub,xA,w9,CC,yT,fP,fV]
 gi_wp2
 gi_loopw [7] (fun i wr=>∃ k:Nat,k≤zs.length∧i=.int .i64 k∧J (zs.take k) wr∧Below n₀ W wr)
  (fun i _=>zs.length - (RowKit.intOf i).toNat)
 case atStart=>exact ⟨0,c8 _,rfl,h0,Below.refl _ _⟩
 case round =>
  obtain ⟨k,hk,rfl,hJs,hnx⟩:=hrel
  by_cases hlt:k<zs.length
  ·have hcx':wr.cell? (ad.add k)=some (.int .i64 zs[k]):=(hnx.cell (p:=ad.add k) (by rw [fX];exact hb (fun e=>by rw [e] at hlt;cases hlt))).trans (hc k _ (aA hlt))
   obtain ⟨fn,tmps,assign,body,hy,hR⟩:=hY _ zs[k] wr hJs (by simp;omega)
   gi_wp2
   refine hR.mono ?_
   rintro e W3 (⟨rfl,hJ3,hk3⟩|⟨rfl,hJx3⟩)
   ·gi_wp2
    go_roundw
    case rel=>exact ⟨k+1,by omega,by simp,by rw [aF hlt];exact hJ3,hnx.trans hk3⟩
    case measure=>simp [RowKit.intOf];omega
   ·gi_wp2
    refine bodyPost_ret (results_none rfl _ _ _) rfl ?_
    exact ⟨⟨_,rfl⟩,.inr ⟨_,trivial,hJx3⟩⟩
  ·obtain rfl:k=zs.length:=by omega
   gi_wp2
   go_end0
   exact ⟨⟨_,rfl⟩,.inl ⟨_,rfl,by rw [List.take_length] at hJs;exact hJs⟩⟩
theorem CH (F:Fence)(n:Nat)(h7:F.fn 424)(hro:F.round=none)(l:Nat)(a:Addr)(J:List Int→World→Prop)(W:World)(hBs:W.cell? a=some (.slice none 0 0))(h0:J [] W) :
  CallsIn F n Tryz.prog 424 #[.func (.yield l) #[] #[],.pointer (some a)] W fun e W'=>(∃ v,e=.returned v)∧J [] W':=by
 refine callsIn_of_wp Tryz.func424 rfl h7 ?_ hro
 simp only [Tryz.ntmps424,lF,eC,nZ,Nat.reduceAdd,Nat.reduceSub,xA,w9,CC,yT,fP,fV]
 gi_wp2
 gi_loopw [7] (fun i wr=>i=.int .i64 0∧J [] wr) (fun _ _=>0)
 case atStart=>exact ⟨rfl,h0⟩
 case round =>
  obtain ⟨rfl,hJs⟩:=hrel
  gi_wp2
  go_end0
  exact ⟨⟨_,rfl⟩,hJs⟩
def IntsB (n₀:Nat)(W:World)(sv:Value)(zs:List Int):Prop :=
 (sv=.slice none 0 0∧zs=[])∨∃ ad cap,sv=.slice (some ad) zs.length cap∧(zs≠[]→ad.block<n₀)∧∀ j x,zs[j]?=some x→W.cell? (ad.add j)=some (.int .i64 x)
theorem IntsB.below {n₀:Nat}{A B:World}(h:Below n₀ A B){sv:Value}{zs:List Int}:IntsB n₀ A sv zs→IntsB n₀ B sv zs
 | .inl e=>.inl e
 | .inr ⟨ad,cap,e,hb,hc⟩=>.inr ⟨ad,cap,e,hb,fun j x hj=>(h.cell (p:=ad.add j) (by rw [fX];exact hb (fun e=>by rw [e] at hj;cases hj))).trans (hc j x hj)⟩
theorem Gz (F:Fence)(n:Nat)(h7:F.fn 424)(hro:F.round=none)(hn:1≤n)(a:Addr)(n₀:Nat)(sv:Value)(zs:List Int)(hreach:zs.length≤1000000)(w:World)(hBs:a.block<w.heap.size)(hn₀:n₀≤w.heap.size)
  (hc:w.cell? a=some sv) (hI:IntsB n₀ w sv zs) :
  SeqStopsK F n Tryz.prog 424 #[.pointer (some a)] (fun x:Int=>#[Value.int .i64 x]) (Below n₀) (fun ys=>ys=zs) (fun _=>True) zs.length w:=fun l J Jx W hW _ _ hY h0=>by
 have hc':=(hW.cell (p:=a) hBs).trans hc
 rcases hI.below (hW.mono hn₀) with ⟨rfl,rfl⟩|⟨ad,cap,rfl,hb,hcs⟩
 ·exact (CH F n h7 hro l a J W hc' h0).mono fun e W' ⟨he,hj⟩=>⟨he,.inl ⟨_,rfl,hj⟩⟩
 ·exact JX F n h7 hro hn l n₀ a ad cap zs hreach hb J Jx hY W hc' hcs h0
theorem Hv (F:Fence)(n:Nat)(h3:F.fn 448)(h5:F.fn 424)(hro:F.round=none)(hn:3≤n)(a:Addr)(sv:Value)(zs:List Int)(hlen:zs.length≤1000000)(w:World)
  (hBs:a.block<w.heap.size) (hc:w.cell? a=some sv) (hI:IntsB w.heap.size w sv zs) :
  CallsIn F n Tryz.prog 448 #[.slice none 0 0,.func (.func 424) #[] #[.pointer (some a)]] w fun e W'=>∃ v,e=.returned v∧W'.ownsRow w.heap.size 3 1 v zs.length (zs.map (Value.int .i64))∧Below w.heap.size w W':=by
 have h1:1≤n:=by omega
 obtain ⟨i0,hi,hz0,hz1,hz2⟩:=info_parts CV
 refine callsIn_of_wp_marks Tryz.func448 rfl h3 ?_ hro
 simp only [Tryz.ntmps448,lF,eC,nZ,Nat.reduceAdd,Nat.reduceSub,xA,w9,CC,yT,fP,fV]
 gi_wp2
 have bO:=Boxed.new w 34 (.slice none 0 0)
 have hB0:Below w.heap.size w (w.alloc (.cells #[.slice none 0 0] 34)):=(Below.refl _ w).alloc (bC _) _
 refine wpIn_rangeFunc_ownG hro h1 (gf:=424) (lb:=#[.pointer (some a)]) rfl h5 (enters_of Tryz.func424 (by kernel_rfl) rfl)
  (Gz F (n - 1) h5 hro (by omega) a w.heap.size sv zs hlen _ (by simp;omega) (by simp) ((hB0.cell (p:=a) hBs).trans hc) (hI.below hB0)) belowK_t (belowK_b (by simp)) (Below.refl _ _) (fun _=>rfl)
  (fun pre W=>(∃ v,Boxed W w.heap.size 34 v∧W.ownsRow w.heap.size 3 1 v pre.length (pre.map (Value.int .i64))∧True)∧Below w.heap.size w W)
  (fun _ _ _=>False)
  (OwnFrom.and (Own.from (holdsRow_own w.heap.size w.heap.size 34 3 1 (fun pre=>pre.length) (fun pre:List Int=>pre.map (Value.int .i64)) (fun _ _=>True)) _) (ownFrom_below (bC _) (by simp)))
  (fun _ _ _ _ _ hs _ _=>hs)
  ⟨⟨_,bO,World.ownsRow_nil _ _ _ _,trivial⟩,hB0⟩
  (fun x=>{ tmps:=#[.slice none 0 0,.func (.func 424) #[] #[.pointer (some a)],.pointer (some ⟨w.heap.size,0,none⟩),undef,.slice none 0 0,.int .i64 x,.func (.func 424) #[] #[.pointer (some a)],.int .i64 x,undef,undef,undef,undef,undef],defers:=[] }) ?assign ?body ?done ?stop
 case assign =>
  intro l x W K hK
  gi_wp2
  exact hK
 case body =>
  rintro l pre x W ⟨⟨v,hv,hrow,_⟩,hB⟩ hlt
  have hc:=hv.cell
  gi_wp2_with (gi_at_builtin;refine wpListIn_append_own _ rfl _ _ 34 rfl w.heap.size 3 i0 (.int .i64 0) 1 8 Tryz.underlying34 hi hz0 hz1 hz2 rfl (by decide) _ _ _ rfl (hrow.alloc _) ⟨W.heap.size,0,none⟩ 1 1 [.int .i64 x] rfl rfl (cell_one_new _ _ _) (by simp [Value.oneCell']) (by simp only [maxLen];omega) (by omega) (by have:=hB.size;simp;omega) ?_;intro v' w1 hown' hgrow _;obtain ⟨g',cap',rfl⟩:=ownsRow_succ hown';obtain ⟨hv1,hv2,hr2,hk2,hb2⟩:=hv.appended (by decide) hrow hB.size (bC _) hown' hgrow;have hc1:=hv1.cell;have hf1:=hv1.frozen)
  exact ⟨hk2.from _,hb2,⟨_,hv2,by simpa using hr2,trivial⟩,hB.trans hb2⟩
 case done =>
  rintro D ys W hD rfl ⟨⟨v,hv,hrow,_⟩,hB⟩ hK
  have hc:=hv.cell
  gi_wp2
  refine ⟨by simp,.inl ⟨_,_,rfl,run_takeDeferred hK,?_⟩⟩
  exact ⟨_,results_tmp rfl _ _ _,v,rfl,ownsRow_putObj hrow _ hK rfl,hB.trans (belowK_b (w:=w) (bC _) W D _ _ (by simp at hD;omega) hK rfl rfl)⟩
 case stop =>
  rintro D c pre W _ _ h _
  exact h.elim
theorem KY (F:Fence)(n:Nat)(h2:F.fn 423)(h3:F.fn 448)(h5:F.fn 424)(hro:F.round=none)(hn:4≤n)(a:Addr)(sv:Value)(zs:List Int)(hlen:zs.length≤1000000)(w:World)
  (hBs:a.block<w.heap.size) (hc:w.cell? a=some sv) (hI:IntsB w.heap.size w sv zs) :
  CallsIn F n Tryz.prog 423 #[.func (.func 424) #[] #[.pointer (some a)]] w fun e W'=>∃ v,e=.returned v∧W'.ownsRow w.heap.size 3 1 v zs.length (zs.map (Value.int .i64))∧Below w.heap.size w W':=by
 refine callsIn_of_wp Tryz.func423 rfl h2 ?_ hro
 simp only [Tryz.ntmps423,lF,eC,nZ,Nat.reduceAdd,Nat.reduceSub,xA,w9,CC,yT,fP,fV]
 gi_wp2_with (refine ⟨fun _=>by omega,(Hv F (n - 1) h3 h5 hro (by omega) a sv zs hlen _ hBs hc hI).mono ?_⟩;rintro e w' ⟨v,rfl,hrow,hb⟩)
 go_ret
 exact ⟨v,rfl,hrow,hb⟩
theorem Ju (l : List Int) (hl : l.length ≤ 1000000) : Own Tryz.prog 423 [.fn 424 [.adr [dLI l]]] 3 1 (l.map cI) := by
  refine ⟨⟨Tryz.f423, Tryz.func423, rfl, rfl⟩, fun M w vals hM ha => ?_⟩
  obtain ⟨hlen, hr⟩ := ha
  match vals, hlen with
  | [v], _ =>
    have h0 := hr 0 v _ rfl rfl
    obtain ⟨p, rfl, h1⟩ : ∃ p, v = .func (.func 424) #[] #[p] ∧ RepV M gG pT w p (.adr [dLI l]) := by
      cases h0 with
      | fn _ vs _ hl hr => match vs, hl with
        | [p], _ => exact ⟨p, rfl, hr 0 p _ rfl rfl⟩
    obtain ⟨a, sv, rfl, hxc, hsv⟩ : ∃ a sv, p = .pointer (some a) ∧ (¬ M a.block ∧ w.cell? (a.add 0) = some sv) ∧ RepV M gG pT w sv (dLI l) := by
      cases h1 with
      | adr a xs _ hl h1 hc hr => match xs, hl with
        | [sv], _ => exact ⟨a, sv, rfl, hc 0 sv rfl, hr 0 sv _ rfl rfl⟩
    have hca := hxc.2
    have hca0 : w.cell? a = some sv := by rw [show a.add 0 = a by unfold Addr.add; simp] at hca; exact hca
    have hab := World.block_lt_of_cell? w _ hca0
    have hI : IntsB w.heap.size w sv l := by
      unfold dLI at hsv
      rcases pW hsv with ⟨rfl, he⟩ | ⟨ad, cap, sz, xs, rfl, hrep, _, hcell, _, _, _⟩
      · exact .inl ⟨rfl, by simpa using he⟩
      · have hcl : ∀ j x, l[j]? = some x → w.cell? (ad.add j) = some (.int .i64 x) := fun j x hj => by
          have hlen2 := hrep.len
          rw [wN, bW] at hlen2
          have hjl : j < l.length := (aL.1 hj).1
          have hu : xs[j]? = some xs[j] := aA (by omega)
          have hd := hrep.rep j _ (D.int .i64 x) hu (by rw [wN, aQ, hj]; rfl)
          generalize hq : xs[j] = q at hu hd
          cases hd
          exact (hcell j _ hu).2
        refine .inr ⟨ad, cap, by simp, fun hl0 => ?_, hcl⟩
        have hp : 0 < l.length := List.length_pos_iff.2 hl0
        have := World.block_lt_of_cell? w _ (hcl 0 _ (aA hp))
        rwa [fX] at this
    refine (CallsIn.calls (KY Fence.wide 4 trivial trivial trivial rfl (bC _) a sv l hl w hab hca0 hI) (fun k => room_wide k)).mono fun e w' ⟨v, he, hrow, hb⟩ => ?_
    exact ⟨v, _, he, by simpa using hrow, fun u hu => by obtain ⟨x, _, rfl⟩ := bG.1 hu; rfl, wG l, nU l, fun c hc => by obtain ⟨x, _, rfl⟩ := bG.1 hc; rfl, hb⟩
theorem HM (l:List Int):Pure Tryz.prog 382 [dLI l] (.fn 424 [.adr [dLI l]]):=by
 refine Tz.pK ⟨fun _=>false,fun _=>[]⟩ Tryz.func382 rfl (fun Q hQ=>?_)
 have Y:=trivial
 exact wv (h:=hQ _ _ wy)
theorem Ka (l:List Int)(hl:l.length≤1000000):Own Tryz.prog 381 [.fn 424 [.adr [dLI l]]] 3 1 ((nB l).map cI):=by
 refine Tz.oK ⟨fun t=>t==5||t==3||t==2,fun _=>[]⟩ Tryz.func381 rfl (fun Q hQ=>?_)
 have Y:=trivial
 refine wv (h:=lU (Ju l hl) wl ?_)
 refine wv (h:=?_)
 unfold eY;refine H6 (ty:=3) (xs:=l) (by simp [go_sem]) hl ?_
 refine wv (h:=?_)
 exact hQ _ _ _ (by simp [go_sem,Y,kI]) (by simp [go_sem,Y,kI])
end Go.Abs
end
section
set_option maxRecDepth 100000
set_option maxHeartbeats 4000000
open Go Go.Proofs
namespace Go.Abs
theorem y6 (l:List Int)(hl:l.length≤1000):Pure Tryz.prog 322 [dLI l] (.bool (decide (¬ l.Nodup))):=by
 have hlen:=kI l
 have hI:decide (imagesN l<l.length)=decide (¬ l.Nodup):=by
  have h1:=BJ l
  have h2:imagesN l≤l.length:=by unfold imagesN;have:=D3 (nB l);omega
  rw [aV];simp only [decide_eq_true_eq]
  constructor
  ·intro h hn;have:=h1.2 hn;omega
  ·intro hn;have:imagesN l≠l.length:=fun he=>hn (h1.1 he);omega
 unfold imagesN at hI
 refine Tz.pK ⟨fun _=>false,fun _=>[]⟩ Tryz.func322 rfl (fun Q hQ=>?_)
 have Y:=trivial
 refine wo (h:=aB (HM l) wl ?_)
 refine wo (h:=lU (Ka l (by omega)) wl ?_)
 refine wo (h:=?_)
 unfold eY;refine BQ (ty:=3) (xs:=nB l) (by simp [go_sem]) (by omega) fun k=>?_
 exact wo (h:=hQ _ _ (by simp [go_sem,hI]))
theorem KD (t:Types)(p g:Graph)(m:Part)(inj:Bool):gJ t p g m inj=if gJ t p g m false≠0 then gJ t p g m false else if inj=true∧(¬ m.nodes.Nodup∨¬ m.edges.Nodup) then 5 else 0:=by
 unfold gJ
 split
 ·simp
 ·split
  ·simp_all
  ·split
   ·simp_all
   ·simp
theorem tC (t:Types)(ht:t.ok)(p g:Graph)(m:Part)(inj:Bool):Pure Tryz.prog 224 [t.d,p.d,g.d,m.d,.bool inj] (dI (eG t p g m inj)):=by
 refine Tz.pK ⟨fun _=>false,fun _=>[]⟩ Tryz.func224 rfl (fun Q hQ=>?_)
 have Y:=trivial
 refine wv (h:=aB (oX t ht p g) wl ?_)
 refine cT (fun h2=>?_) fun h2=>?_
 ·have hC:eG t p g m inj=dY t p g:=by unfold eG;rw [if_pos (by simpa using h2)]
  exact wv (h:=hQ _ _ (by simp [go_sem,hC]))
 ·have hG:=kO (by simpa using h2)
  have hv:=wM (by simpa using h2)
  have hla:=bJ hG.gp
  have hC:eG t p g m inj=gJ t p g m inj:=by unfold eG;rw [if_neg (by simpa using h2)]
  rw [KD] at hC
  refine wv (h:=aB (y7 t ht p g hG hv m) wl ?_)
  refine cT (fun h5=>?_) fun h5=>?_
  ·rw [if_pos (by simpa using h5)] at hC
   exact wv (h:=hQ _ _ (by simp [go_sem,hC]))
  ·rw [if_neg (by simpa using h5)] at hC
   have hML:=(wJ (show gJ t p g m false=0 by simpa using h5)).1
   refine wo (h:=aK (fun hg=>y6 m.nodes (by omega)) (fun hg=>wl) ?_)
   refine wo (h:=aK (fun hg=>y6 m.edges (by omega)) (fun hg=>wl) ?_)
   refine dV (fun h7=>?_) fun h7=>?_
   ·rw [if_pos (by simpa using h7)] at hC
    exact wv (h:=hQ _ _ (by simp [go_sem,hC]))
   ·rw [if_neg (by simpa using h7)] at hC
    exact wv (h:=hQ _ _ (by simp [go_sem,hC]))
theorem uF (p:Pattern)(h:Host)(m:Part)(hO:SOk p h m):Pure Tryz.prog 133 [p.d,h.d,m.d] (.tup [dLI (dH p h m []).1,dI (dH p h m []).2]):=by
 have hv:=hO.vars
 have h0:=H5 (vs:=[]) hv.1 (by simp) (by simp)
 rw [Cs] at h0
 refine Tz.pK ⟨fun t=>t==11||t==15,fun r=>match r with|1=>[(2,3),(2,4),(0,5),(1,5),(2,5)]|_=>[]⟩ Tryz.func133 rfl (fun Q hQ=>?_)
 have Y:=wa @Pattern.d.eq_1 (wa @Pattern.c.eq_1 (wa @Host.d.eq_1 (wa @Host.c.eq_1 (wa @Part.d.eq_1 (wa @Part.c.eq_1 @Term.c.eq_1)))))
 refine wv (h:=?_)
 repeat first|intro _|refine ⟨eM,?_⟩
 refine bB (fun i e H=>∃ st:List Int × List Bool,(e 3=.adr p.c∧e 4=.adr h.c∧e 5=.adr m.c∧e 8=.own 2 p.vars.toNat∧e 9=.own 5 p.vars.toNat∧e 23=.list (p.slots.map Slot.c)∧e 24=dI p.slots.length∧e 25=dI i)∧(H.get 2=some ⟨3,1,st.1.map cI,false⟩)∧(2<H.next)∧(H.get 5=some ⟨4,1,st.2.map cB,false⟩)∧(5<H.next)∧(i≤p.slots.length)∧(StOk p.vars.toNat st)∧(gW h m (GE p []) (p.slots.take i)=some st)) (fun i=>p.slots.length - i) 0 ⟨((List.replicate p.vars.toNat 0,List.replicate p.vars.toNat false)),wg,(by (simp [go_sem,cI])),wn,(by (simp [go_sem,cB])),wn,wi,(by exact h0),(by (rw [Cs];rfl))⟩ fun I0 hI0 i e H hi0=>?_
 obtain ⟨st,E0,g2_0,n2_0,g5_0,n5_0,hi,hst,hsl⟩:=hi0
 have Y:=wa Y (wa E0 (wa g2_0 (wa (bY n2_0) (wa g5_0 (bY n5_0)))))
 refine cT (fun h3=>?_) fun h3=>?_
 ·obtain ⟨x,hx⟩:∃ x,x=p.slots[i]:=⟨_,rfl⟩
  have hxm:x∈p.slots:=hx ▸ aC h3
  have hn:=hO.node x hxm
  have hn2:x.node.toNat<m.nodes.length:=by omega
  have hk:=hO.img _ (aC hn2)
  have hk2:(m.nodes[x.node.toNat]).toNat<h.values.length:=by omega
  have ha:=hO.attr x hxm
  rw [aA hn2,aD,aA hk2,aD] at ha
  have ha2:x.attr.toNat<(h.values[(m.nodes[x.node.toNat]).toNat]).length:=by omega
  have hV:jM h m x=h.values[(m.nodes[x.node.toNat]).toNat][x.attr.toNat]:=by unfold jM;rw [aA hn2,aD,aA hk2,aD,aA ha2];rfl
  have hb:=hO.have_ hxm
  have hT:=hO.term x hxm
  have hl1:=hst.l1
  have hl2:=hst.l2
  have hTv:=hT.1
  have hTa:=hT.2
  have hSt:=qS h3 hsl
  rw [← hx] at hSt
  obtain ⟨s2,hs2e⟩:∃ y,y=jS h m st x:=⟨_,rfl⟩
  have hs2:StOk p.vars.toNat s2:=hs2e ▸ u3 hst hb hT
  rw [← hs2e] at hSt
  have hs2n:¬ 0≤x.term.var→s2=st:=fun hn=>by rw [hs2e];unfold jS i7;rw [if_neg (by simp [hn])]
  have vlt:0≤x.term.var→x.term.var.toNat<st.2.length:=fun hn=>by omega
  obtain ⟨kb,hkb⟩:∃ kb,kb=st.2[x.term.var.toNat]?.getD false:=⟨_,rfl⟩
  have hcase:0≤x.term.var∨(¬ 0≤x.term.var∧st.2[x.term.var.toNat]?=none)∨(¬ 0≤x.term.var∧st.2[x.term.var.toNat]?=some kb):=by
   by_cases hsp:0≤x.term.var
   ·exact .inl hsp
   ·right
    cases ho:st.2[x.term.var.toNat]? with
    | none=>exact .inl ⟨hsp,rfl⟩
    | some b=>rw [ho] at hkb;exact .inr ⟨hsp,by rw [hkb];rfl⟩
  rcases hcase with hc|hc|hc
  ·have Y:=wa Y (wa h3 (wa (aA h3) (wa (Eq.symm hx) (wa (aA hn2) (wa (aA hk2) (wa (aA ha2) (wa (Eq.symm hV) (wa @Slot.c.eq_1 (wa @cL.eq_1 (wa hl1 (wa hl2 (wa @iR (wa @cB.eq_1 (wa hc ((aA (vlt hc)))))))))))))))))
   refine wv (h:=?_)
   repeat first|intro _|refine ⟨eM,?_⟩
   refine wq (fun h7=>?_) fun h7=>?_
   ·have hF:i7 st x=true:=by simp only [i7,aP,decide_eq_true_eq,cD];exact ⟨hc,by simpa [aA (vlt hc)] using h7⟩
    unfold jS at hs2e
    rw [if_pos hF] at hs2e
    have hvl:x.term.var.toNat<st.1.length:=by omega
    have e1:s2.1.map cI=(st.1.map cI).set x.term.var.toNat (cI (jM h m x - x.term.add)):=by rw [hs2e,cG]
    have e2:s2.2.map cB=(st.2.map cB).set x.term.var.toNat (cB true):=by rw [hs2e,cG]
    have ecl:D.clLL ((st.1.map cI).set x.term.var.toNat [D.int .i64 (jM h m x - x.term.add)])=true:=by have:=nU s2.1;rw [e1] at this;exact this
    have Y:=wa Y (wa e1 (wa e2 (wa @dLI.eq_1 (wa @cI.eq_1 (wa (aA hvl) ecl)))))
    refine wv (h:=?_)
    repeat first|intro _|refine ⟨eM,?_⟩
    refine cY (jT x.term s2.1 (by rw [hs2.l1];exact hT) hs2.big) wr wl rfl ?_
    refine wv (h:=?_)
    repeat first|intro _|refine ⟨eM,?_⟩
    refine wq (fun h9=>?_) fun h9=>?_
    ·have hR:=dC (hSt.2 (by first|simpa using h9|simpa [hs2n hc.1] using h9|simpa [hs2e] using h9))
     exact wv (h:=hQ _ _ (by simp [go_sem,hR]))
    ·have hstep:=hSt.1 (by first|simpa using h9|simpa [hs2n hc.1] using h9|simpa [hs2e] using h9)
     refine wv (h:=?_)
     repeat first|intro _|refine ⟨eM,?_⟩
     exact wx hI0 (i+1) ⟨s2,wg,(by (simp [go_sem,Y])),wn,(by (simp [go_sem,Y])),wn,wj,(by exact hs2),(by exact hstep)⟩
   ·have hF:¬ i7 st x=true:=by simp only [i7,aP,decide_eq_true_eq,cD];rintro ⟨_,hk⟩;simp [aA (vlt hc)] at hk;simp [hk] at h7
    unfold jS at hs2e
    rw [if_neg hF] at hs2e
    have Y:=wa Y hs2e
    refine wv (h:=cY (jT x.term s2.1 (by rw [hs2.l1];exact hT) hs2.big) wr wl rfl ?_)
    refine cT (fun h9=>?_) fun h9=>?_
    ·have hR:=dC (hSt.2 (by first|simpa using h9|simpa [hs2n hc.1] using h9|simpa [hs2e] using h9))
     exact wv (h:=hQ _ _ (by simp [go_sem,hR]))
    ·have hstep:=hSt.1 (by first|simpa using h9|simpa [hs2n hc.1] using h9|simpa [hs2e] using h9)
     refine wv (h:=?_)
     repeat first|intro _|refine ⟨eM,?_⟩
     exact wx hI0 (i+1) ⟨s2,wg,(by (simp [go_sem,Y])),wn,(by (simp [go_sem,Y])),wn,wj,(by exact hs2),(by exact hstep)⟩
  ·have Y:=wa Y (wa h3 (wa (aA h3) (wa (Eq.symm hx) (wa (aA hn2) (wa (aA hk2) (wa (aA ha2) (wa (Eq.symm hV) (wa @Slot.c.eq_1 (wa @cL.eq_1 (wa hl1 (wa hl2 (wa @iR (wa @cB.eq_1 (wa hc.1 (wa hc.2 (hs2n hc.1))))))))))))))))
   refine wv (h:=?_)
   repeat first|intro _|refine ⟨eM,?_⟩
   refine cY (jT x.term s2.1 (by rw [hs2.l1];exact hT) hs2.big) wr wl rfl ?_
   refine wv (h:=?_)
   repeat first|intro _|refine ⟨eM,?_⟩
   refine wq (fun h9=>?_) fun h9=>?_
   ·have hR:=dC (hSt.2 (by first|simpa using h9|simpa [hs2n hc.1] using h9|simpa [hs2e] using h9))
    exact wv (h:=hQ _ _ (by simp [go_sem,hR]))
   ·have hstep:=hSt.1 (by first|simpa using h9|simpa [hs2n hc.1] using h9|simpa [hs2e] using h9)
    refine wv (h:=?_)
    repeat first|intro _|refine ⟨eM,?_⟩
    exact wx hI0 (i+1) ⟨s2,wg,(by (simp [go_sem,Y])),wn,(by (simp [go_sem,Y])),wn,wj,(by exact hs2),(by exact hstep)⟩
  ·have Y:=wa Y (wa h3 (wa (aA h3) (wa (Eq.symm hx) (wa (aA hn2) (wa (aA hk2) (wa (aA ha2) (wa (Eq.symm hV) (wa @Slot.c.eq_1 (wa @cL.eq_1 (wa hl1 (wa hl2 (wa @iR (wa @cB.eq_1 (wa hc.1 (wa hc.2 (hs2n hc.1))))))))))))))))
   refine wv (h:=?_)
   repeat first|intro _|refine ⟨eM,?_⟩
   refine cY (jT x.term s2.1 (by rw [hs2.l1];exact hT) hs2.big) wr wl rfl ?_
   refine wv (h:=?_)
   repeat first|intro _|refine ⟨eM,?_⟩
   refine wq (fun h9=>?_) fun h9=>?_
   ·have hR:=dC (hSt.2 (by first|simpa using h9|simpa [hs2n hc.1] using h9|simpa [hs2e] using h9))
    exact wv (h:=hQ _ _ (by simp [go_sem,hR]))
   ·have hstep:=hSt.1 (by first|simpa using h9|simpa [hs2n hc.1] using h9|simpa [hs2e] using h9)
    refine wv (h:=?_)
    repeat first|intro _|refine ⟨eM,?_⟩
    exact wx hI0 (i+1) ⟨s2,wg,(by (simp [go_sem,Y])),wn,(by (simp [go_sem,Y])),wn,wj,(by exact hs2),(by exact hstep)⟩
 ·rw [aJ (by omega)] at hsl
  have hR0:=mB hsl
  have hl1:=hst.l1
  have Y:=wa Y hl1
  refine wv (h:=?_)
  repeat first|intro _|refine ⟨eM,?_⟩
  refine bB (fun k e H=>(e 3=.adr p.c∧e 4=.adr h.c∧e 5=.adr m.c∧e 8=.own 2 p.vars.toNat∧e 74=.list (p.tests.map Test.c)∧e 75=dI p.tests.length∧e 76=dI k)∧(H.get 2=some ⟨3,1,st.1.map cI,false⟩)∧(2<H.next)∧(k≤p.tests.length)∧((p.tests.take k).all (fun x=>wY x st.1)=true)) (fun k=>p.tests.length - k) 0 ⟨wg,wn,wn,wi,(by rfl)⟩ fun I2 hI2 k e H hi2=>?_
  obtain ⟨E2,g2_2,n2_2,hk,hall⟩:=hi2
  have Y:=wa Y (wa E2 (wa g2_2 (bY n2_2)))
  refine cT (fun h13=>?_) fun h13=>?_
  ·have Y:=wa Y (wa h13 (wa (aA h13) @Test.c.eq_1))
   refine wv (h:=?_)
   repeat first|intro _|refine ⟨eM,?_⟩
   refine cY (sU p.tests[k] st.1 (by rw [hst.l1];exact hO.test _ (aC h13)) hst.big) wr wl rfl ?_
   refine wv (h:=?_)
   repeat first|intro _|refine ⟨eM,?_⟩
   refine wq (fun h15=>?_) fun h15=>?_
   ·have hR:dH p h m []=([],16):=by
     rw [hR0,if_neg]
     intro ha
     rw [bV] at ha
     have:=ha _ (aC h13)
     simp [this] at h15
    exact wv (h:=hQ _ _ (by simp [go_sem,hR]))
   ·refine wv (h:=?_)
    repeat first|intro _|refine ⟨eM,?_⟩
    exact wx hI2 (k+1) ⟨wg,wn,wn,wj,(by (rw [aF h13,yV,hall];simp;simpa using h15))⟩
  ·rw [aJ (by omega)] at hall
   rw [if_pos hall] at hR0
   exact wv (h:=hQ _ _ (by simp [go_sem,Y,hR0,dLI]))
theorem uG (t:Types)(ht:t.ok)(p:Pattern)(h:Host):Pure Tryz.prog 131 [t.d,p.d,h.d] (dI (oE t p h)):=by
 refine Tz.pK ⟨fun _=>false,fun _=>[]⟩ Tryz.func131 rfl (fun Q hQ=>?_)
 have Y:=wa @Host.d.eq_1 @Host.c.eq_1
 refine wv (h:=aB (lL t ht p) wl ?_)
 refine cT (fun h2=>?_) fun h2=>?_
 ·exact wv (h:=hQ _ _ (by simp [go_sem,oE,h2]))
 ·refine wv (h:=aB (yG t ht h) wl ?_)
  exact wv (h:=hQ _ _ (by simp [go_sem,oE,h2,fM]))
theorem uH (t:Types)(ht:t.ok)(p:Pattern)(h:Host)(m:Part):Pure Tryz.prog 225 [t.d,p.d,h.d,m.d] (.tup [dLI (dA t p h m).1,dI (dA t p h m).2]):=by
 refine Tz.pK ⟨fun _=>false,fun _=>[]⟩ Tryz.func225 rfl (fun Q hQ=>?_)
 have Y:=wa @Pattern.d.eq_1 (wa @Pattern.c.eq_1 (wa @Host.d.eq_1 @Host.c.eq_1))
 refine wv (h:=aB (uG t ht p h) wl ?_)
 refine cT (fun h2=>?_) fun h2=>?_
 ·have hS:dA t p h m=([],oE t p h):=by
   unfold dA oE
   unfold oE at h2
   by_cases hp:bT t p=0
   ·rw [if_neg (by omega)] at h2 ⊢
    rw [if_pos h2,if_neg (by omega)]
   ·rw [if_pos hp,if_pos hp]
  exact wv (h:=hQ _ _ (by simp [go_sem,hS]))
 ·have hp0:bT t p=0:=by
   unfold oE at h2
   refine bD fun hp=>?_
   rw [if_pos hp] at h2;exact hp h2
  have hh0:fM t h=0:=by unfold oE at h2;rw [if_neg (by omega)] at h2;exact h2
  refine wv (h:=aB (tC t ht p.graph h.graph m false) wl ?_)
  refine cT (fun h5=>?_) fun h5=>?_
  ·have hS:dA t p h m=([],eG t p.graph h.graph m false):=by unfold dA;rw [if_neg (by omega),if_neg (by omega),if_pos h5]
   exact wv (h:=hQ _ _ (by simp [go_sem,hS]))
  ·have h5':eG t p.graph h.graph m false=0:=by omega
   have hS:dA t p h m=dH p h m []:=by unfold dA;rw [if_neg (by omega),if_neg (by omega),if_neg (by omega)]
   refine wv (h:=aB (uF p h m (OU (Ds (.inr hp0)) (vO hh0) (pV (pH h5').2))) wl ?_)
   exact wv (h:=hQ _ _ (by simp [go_sem,hS]))
theorem Am (t:Types)(ht:t.ok)(p:Pattern)(h:Host)(inj:Bool):Pure Tryz.prog 63 [t.d,p.d,h.d,.bool inj] (.tup [.list ((dG t p h inj).1.map Mat.c),dI (dG t p h inj).2]):=by
 refine Tz.pK ⟨fun t=>t==13||t==15,fun _=>[]⟩ Tryz.func63 rfl (fun Q hQ=>?_)
 have Y:=wa @Pattern.d.eq_1 (wa @Pattern.c.eq_1 (wa @Host.d.eq_1 @Host.c.eq_1))
 refine wv (h:=aB (uG t ht p h) wl ?_)
 refine cT (fun h2=>?_) fun h2=>?_
 ·have hS:dG t p h inj=([],oE t p h):=by
   unfold dG oE
   unfold oE at h2
   by_cases hp:bT t p=0
   ·rw [if_neg (by omega)] at h2 ⊢
    rw [if_pos h2,if_neg (by omega)]
   ·rw [if_pos hp,if_pos hp]
  exact wv (h:=hQ _ _ (by simp [go_sem,hS]))
 ·have hp0:bT t p=0:=by
   unfold oE at h2
   refine bD fun hp=>?_
   rw [if_pos hp] at h2;exact hp h2
  have hh0:fM t h=0:=by unfold oE at h2;rw [if_neg (by omega)] at h2;exact h2
  have hLm0:∀ x∈(jG t p.graph h.graph inj).1,MOk t p.graph h.graph x:=fun x hx=>Gr hx
  refine wv (h:=aB (Kb t ht p.graph h.graph inj) wl ?_)
  refine cT (fun h5=>?_) fun h5=>?_
  ·have hS:dG t p h inj=([],(jG t p.graph h.graph inj).2):=by unfold dG;rw [if_neg (by omega),if_neg (by omega),if_pos h5]
   exact wv (h:=hQ _ _ (by simp [go_sem,hS]))
  ·have hS:dG t p h inj=(pM p h [] (jG t p.graph h.graph inj).1,0):=by unfold dG;rw [if_neg (by omega),if_neg (by omega),if_neg (by omega)]
   obtain ⟨L,hL⟩:∃ L,L=(jG t p.graph h.graph inj).1:=⟨_,rfl⟩
   have hL5a:=Ef t p.graph h.graph inj
   rw [← hL] at hS hLm0 hL5a
   have hLm:=hLm0
   have Y:=wa Y (Eq.symm hL)
   refine wp (h:=bB (fun i e H=>∃ ms:List Mat,(e 4=.adr t.c∧e 5=.adr p.c∧e 6=.adr h.c∧e 3=.bool inj∧e 38=.list (L.map Part.c)∧e 39=dI L.length∧e 13=.own 0 ms.length∧e 40=dI i)∧(H.get 0=some ⟨65,3,ms.map Mat.c,false⟩)∧(0<H.next)∧(i≤L.length)∧(ms=pM p h [] (L.take i))∧(ms.length≤i)∧(L.length≤5000)) (fun i=>L.length - i) 0 ⟨([]),wg,wn,wn,wi,(by rfl),(by (simp)),(by (exact hL5a))⟩ fun I0 hI0 i e H hi0=>?_)
   obtain ⟨ms,E0,g0_0,n0_0,hi,hms,hml,hL5⟩:=hi0
   have Y:=wa Y (wa E0 (wa g0_0 (bY n0_0)))
   refine cT (fun h9=>?_) fun h9=>?_
   ·obtain ⟨v,hv⟩:∃ v,v=dH p h L[i] []:=⟨_,rfl⟩
    obtain ⟨ms2,hms2⟩:∃ y,y=ms++if v.2=0 then [(⟨L[i],v.1⟩:Mat)] else []:=⟨_,rfl⟩
    have Y:=wa Y (wa h9 (wa (aA h9) @Part.c.eq_1))
    refine wp (h:=aB ((by have hq:=uF p h L[i] (OU (Ds (.inr hp0)) (vO hh0) (hLm _ (aC h9)));rw [← hv] at hq;unfold Pattern.d Pattern.c Host.d Host.c Part.d Part.c dLI dI at hq;exact hq)) wl ?_)
    refine qP (fun h12=>?_) fun h12=>?_
    ·have hm3:ms2=ms++[⟨L[i],v.1⟩]:=by rw [hms2,if_pos (by simpa using h12)]
     have Y:=wa Y (wa hm3 @Mat.c.eq_1)
     exact wp (h:=wx hI0 (i+1) ⟨ms2,wg,wn,wn,wj,(by (rw [aF h9,kF,← hms,← hv];exact hms2)),(by (rw [hms2];split<;>simp<;>omega)),(by exact hL5)⟩)
    ·have hm3:ms2=ms:=by rw [hms2,if_neg (by simpa using h12),c5]
     have Y:=wa Y hm3
     exact wp (h:=wx hI0 (i+1) ⟨ms2,wg,wn,wn,wj,(by (rw [aF h9,kF,← hms,← hv];exact hms2)),(by (rw [hms2];split<;>simp<;>omega)),(by exact hL5)⟩)
   ·rw [aJ (by omega)] at hms
    exact wv (h:=hQ _ _ (by simp [go_sem,Y,hS,← hms]))
end Go.Abs
end
section
set_option maxRecDepth 100000
set_option maxHeartbeats 4000000
open Go Go.Proofs Go.RowKit Go.Shelf Go.Lib
namespace Go.Abs
theorem Mq (x y:Nat)(hx:x<18446744073709551616)(hy:y<18446744073709551616)(w:World) :
  Calls Tryz.prog 386 #[.int .u64 x,.int .u64 y] w fun e w'=>e=.returned (.tuple #[.int .u64 ((x * y / 18446744073709551616:Nat):Int),.int .u64 ((x * y % 18446744073709551616:Nat):Int)])∧w'=w:=by
 obtain ⟨bd,bt,bw,hhi⟩:=Lib.mul64_hi x y hx hy
 have ba:=Lib.half_mul_le (a:=x / 4294967296) (b:=y / 4294967296) (by omega) (by omega)
 have bb:=Lib.half_mul_le (a:=x / 4294967296) (b:=y % 4294967296) (by omega) (by omega)
 have bc:=Lib.half_mul_le (a:=x % 4294967296) (b:=y / 4294967296) (by omega) (by omega)
 have ba':x / 4294967296 * (y / 4294967296)<18446744073709551616:=by omega
 have bb':x / 4294967296 * (y % 4294967296)<18446744073709551616:=by omega
 have bc':x % 4294967296 * (y / 4294967296)<18446744073709551616:=by omega
 have bh1:x / 4294967296 * (y / 4294967296)+(x / 4294967296 * (y % 4294967296)+x % 4294967296 * (y % 4294967296) / 4294967296) / 4294967296<18446744073709551616:=by omega
 have bh:x / 4294967296 * (y / 4294967296)+(x / 4294967296 * (y % 4294967296)+x % 4294967296 * (y % 4294967296) / 4294967296) / 4294967296+((x / 4294967296 * (y % 4294967296)+x % 4294967296 * (y % 4294967296) / 4294967296) % 4294967296+x % 4294967296 * (y / 4294967296)) / 4294967296<18446744073709551616:=by omega
 go_enter Tryz.func386,Tryz.ntmps386
 go_wp2
 simp only [Mul64.maskN x hx,Mul64.maskN y hy,Mul64.divN,Mul64.mulN,Mul64.addN,Mul64.wrapN _ bd,Mul64.wrapN _ bb',Mul64.wrapN _ bt,Mul64.maskN _ bt,Mul64.wrapN _ bc',Mul64.wrapN _ bw,Mul64.wrapN _ ba',Mul64.wrapN _ bh1,Mul64.wrapN _ bh,Mul64.wrapM (x * y)]
 rw [hhi]
 go_ret2
 exact ⟨rfl,rfl⟩
theorem OW (x y:Nat)(hx:x<18446744073709551616)(hy:y<18446744073709551616)(w:World) :
  Calls Tryz.prog 331 #[.int .u64 x,.int .u64 y] w fun e w'=>e=.returned (.tuple #[.int .u64 ((x * y / 18446744073709551616:Nat):Int),.int .u64 ((x * y % 18446744073709551616:Nat):Int)])∧w'=w:=by
 have c64:=Mq x y hx hy w
 have e264:∀ args w,(callFunc 386 args).run Tryz.prog w=.ok (.enter 386 args) w:=enters_of Tryz.func386 (by kernel_rfl) rfl
 go_enter Tryz.func331,Tryz.ntmps331
 go_wp2_with (go_at_fn 386;refine c64.mono ?_;rintro e w' ⟨rfl,hw⟩;rw [hw])
 go_ret2
 exact ⟨rfl,rfl⟩
def lP (v:Int)(n k:Nat):List Value:=List.replicate k (.int .i64 v)++List.replicate (n - k) (.int .i64 0)
theorem Ih {v:Int}{n k m:Nat}(h:k+m≤n):(lP v n k).take k++List.replicate m (.int .i64 v)++(lP v n k).drop (k+m)=lP v n (k+m):=by
 unfold lP
 rw [List.take_left' (by simp),List.drop_append,nY,iE (by simp),fP,List.drop_replicate,← List.replicate_append_replicate]
 congr 2
 omega
theorem GT (v:Int)(n:Nat)(hn:n≤1000)(ad:Addr)(cap:Nat)(w:World)(hc:w.cell? ad=some (.int .i64 v)) :
  Calls Tryz.prog 234 #[.slice (some ad) 1 cap,.int .i64 n] w fun e w'=>∃ v',e=.returned v'∧w'.ownsRow w.heap.size 3 1 v' n (List.replicate n (.int .i64 v))∧Below w.heap.size w w':=by
 have hsz:(Tryz.prog.info? 3).map (·.size)=some 1:=by kernel_rfl
 have cM:=fun w=>OW 1 n (by omega) (by omega) w
 have e1:∀ args w,(callFunc 331 args).run Tryz.prog w=.ok (.enter 331 args) w:=enters_of Tryz.func331 (by kernel_rfl) rfl
 have hmk:=fun w=>run_make_row' (P:=Tryz.prog) 34 3 (.int .i64 0) 8 Tryz.underlying34 CV rfl .i64 .i64 n (by omega) (by omega) w
 have hq1:(1 * n) / 18446744073709551616=0:=by omega
 have hq2:(1 * n) % 18446744073709551616=n:=by omega
 have hn0:¬ ((n:Int)<0):=by omega
 have hn1:¬ ((9223372036854775807:Int)<n):=by omega
 have cpy:∀ (k m:Nat) (W:World) (ty dl dc:Nat) (a:Addr) (sl sc:Nat),k+m≤n→m=Nat.min sl dl→W.heap[w.heap.size]?=some (.cells (lP v n k).toArray 3 (0,0))→(∀ (j:Nat) (u:Value),(List.replicate m (Value.int .i64 v))[j]?=some u→W.cell? (a.add j)=some u) →
   (Builtin.copy_ #[34,34] ty #[.slice (some ⟨w.heap.size,k,none⟩) dl dc,.slice (some a) sl sc]).run Tryz.prog W=.ok (goInt m) (W.setRow w.heap.size (lP v n (k+m)).toArray):=fun k m W ty dl dc a sl sc hkm hm hb hs=>by
  rw [← Ih hkm]
  have:=EF (P:=Tryz.prog) W 34 34 ty 3 1 w.heap.size k dl dc a sl sc m (lP v n k).toArray 3 (List.replicate m (.int .i64 v)) Tryz.underlying34 hsz hb hm (by simp) hs (by simp [lP];omega) (by simp [Value.oneCell'])
  simpa using this
 have h0:(w.alloc (.cells (madeCells #[.int .i64 0] n) 3)).heap[w.heap.size]?=some (.cells (lP v n 0).toArray 3 (0,0)):=by
  rw [(MapKept.heap_alloc w _).1]
  congr 2
  apply Array.toList_inj.1
  rw [toList_madeCells_one];simp [lP]
 obtain ⟨m0,hm0⟩:∃ m,m=Nat.min 1 n:=⟨_,rfl⟩
 have hm1:m0≤1∧m0≤n∧(m0=1∨n=0):=by rw [hm0];simp only [Nat.min_def];split<;>omega
 have hbad:ad.block<w.heap.size:=World.block_lt_of_cell? w _ hc
 have hcp0:=fun ty=>cpy 0 m0 (w.alloc (.cells (madeCells #[.int .i64 0] n) 3)) ty n n ad 1 cap (by omega) hm0 h0 (fun j u hj=>by
  have hj0:j=0:=by have:=(aL.1 hj).1;simp at this;omega
  subst hj0
  rw [rZ] at hj
  split at hj
  ·cases hj
   rw [show ad.add 0=ad by unfold Addr.add;simp]
   exact ((Below.refl _ w).alloc (bC _) _).cell (p:=ad) hbad |>.trans hc
  ·cases hj)
 simp only [dL] at hcp0
 clear hm0
 have mixed:=Tz.mixed
 go_enter Tryz.func234,Tryz.ntmps234
 go_wp2_with (first|(go_at_fn 331;refine (cM _).mono ?_;rintro e w' ⟨rfl,hw⟩;rw [hw,hq1,hq2])|(at_builtin;refine wpList_copy_runI _ rfl _ _ 34 34 rfl _ _ rfl rfl (hcp0 _) ?_))
 go_loopw [8] (fun i wr=>∃ k:Nat,k≤n∧(0<k∨n=0)∧i=.int .i64 k∧wr.heap[w.heap.size]?=some (.cells (lP v n k).toArray 3 (0,0))∧Below w.heap.size w wr)
  (fun i _=>n - (RowKit.intOf i).toNat)
 case atStart =>
  refine ⟨m0,hm1.2.1,by omega,by simp [goInt],setRow_heap _ _ _ _ _ _ h0,?_⟩
  exact below_setRow ((Below.refl _ w).alloc (bC _) _) (bC _) _
 case round =>
  obtain ⟨k,hk,hk0,rfl,hb,hbl⟩:=hrel
  by_cases hlt:k<n
  ·have hkn:¬ (n=k):=by omega
   have hcp1:=fun ty dc sc=>cpy k (Nat.min k (n - k)) wr.drew ty (n - k) dc ⟨w.heap.size,0,none⟩ k sc (by simp only [Nat.min_def];split<;>omega) rfl hb (fun j u hj=>by
    have hjk:=(aL.1 hj).1
    rw [nY] at hjk
    rw [rZ,if_pos hjk] at hj
    cases hj
    have hjk2:j<k:=by simp only [Nat.min_def] at hjk;split at hjk<;>omega
    rw [g7]
    show wr.cell? _=_
    simp [World.cell?,hb,lP,aR,hjk2])
   go_wp2
   go_region_law_o (refine step_copy_runI rfl _ _ 34 34 rfl _ _ (by simp [Act.eval,Act.put]) (by simp [Act.eval,Act.put]) (hcp1 _ _ _) ?_)
   have hmn:k+Nat.min k (n - k)≤n∧0<Nat.min k (n - k):=by simp only [Nat.min_def];split<;>omega
   simp only [Act.put,List.getElem_toArray,List.getElem_cons_succ,List.getElem_cons_zero,List.setIfInBounds_toArray,Bg,rY]
   go_roundw
   case rel =>
    refine ⟨_,_,_,_,_,_,_,_,_,_,_,_,_,_,⟨k+Nat.min k (n - k),hmn.1,by omega,?_,setRow_heap wr.drew _ _ _ _ _ hb,below_setRow (w:=wr.drew) ⟨hbl.os,hbl.tape,hbl.output,hbl.size,hbl.block⟩ (bC _) _⟩,rfl⟩
    congr 1
    rw [IntKind.wrap_i64];omega
   case measure=>simp [RowKit.intOf,goInt,IntKind.wrap_i64];omega
  ·obtain rfl:k=n:=by omega
   go_wp2
   go_ret
   refine ⟨_,rfl,⟨by simp,.inr ⟨w.heap.size,k,(lP v k k).toArray,rfl,bC _,hb,bC _,by simp only [maxLen];omega,by simp [lP],?_⟩⟩,hbl⟩
   simp [lP]
theorem C8 (v:Int)(n:Nat)(hn:n≤1000):Own Tryz.prog 234 [.list [[dI v]],dI n] 3 1 ((List.replicate n v).map cI):=by
 refine ⟨⟨Tryz.f234,Tryz.func234,rfl,rfl⟩,fun M w vals hM ha=>?_⟩
 obtain ⟨hlen,hr⟩:=ha
 match vals,hlen with
 | [s,y],_ =>
  have h0:=hr 0 s _ rfl rfl
  have h1:=hr 1 y _ rfl rfl
  cases h1
  rcases pW h0 with ⟨rfl,he⟩|⟨ad,cap,sz,xs,rfl,hrep,_,hcell,_,_,_⟩
  ·cases he
  ·have hx:∃ u,xs[0]?=some u:=by
    have hl:=hrep.len
    simp at hl
    exact ⟨xs[0]'(by omega),aA (by omega)⟩
   obtain ⟨u,hu⟩:=hx
   have hd:=hrep.rep 0 u (D.int .i64 v) hu rfl
   cases hd
   have hca:=(hcell 0 _ hu).2
   rw [show ad.add 0=ad by unfold Addr.add;simp] at hca
   refine (GT v n hn ad cap w hca).mono fun e w' ⟨v',he,hrow,hb⟩=>?_
   have hml:((List.replicate n v).map cI).length=n:=by simp
   exact ⟨v',_,he,by rw [hml];exact hrow,fun u hu=>by rw [i9 hu];rfl,by
    have:=wG (M:=fun b=>M b∨v'.ownBlock=some b) (σ:=gG) (N:=pT) (w:=w') (List.replicate n v)
    simpa using this,nU _,fun c hc=>by obtain ⟨x,_,rfl⟩:=bG.1 hc;rfl,hb⟩
end Go.Abs
end
