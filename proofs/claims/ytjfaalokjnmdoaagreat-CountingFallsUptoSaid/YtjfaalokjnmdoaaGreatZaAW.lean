/- Layer 26 of the reference: Apply. · Layer 26 of the referenc -/
import Derived.Test.YtjfaalokjnmdoaaGreatZaAF
import Derived.Test.YtjfaalokjnmdoaaGreatZaAV
import Derived.Test.YtjfaalokjnmdoaaGreatZaAA
set_option linter.unusedVariables false
set_option linter.unusedSimpArgs false
section
set_option maxRecDepth 100000
set_option maxHeartbeats 4000000
open Go Go.Proofs
namespace Go.Abs
def LL:Pattern:=⟨⟨[],[]⟩,[],0,[]⟩
def HU:Rule:=⟨⟨#[]⟩,LL,LL,⟨[],[]⟩,⟨[],[]⟩,false,.mk 0 [] ⟨[],[]⟩ LL⟩
def GN:Stp26:=⟨HU,tU,⟨⟨[],[]⟩,[]⟩,⟨⟨[],[]⟩,[]⟩,⟨[],[]⟩,⟨[],[]⟩⟩
def l6 (t:Types)(r:Rule)(h:Host)(m:Mat):Stp26:=if xT t r h m=0 then Nr t r h m else GN
@[go_sem] theorem Stp26.cl (s:Stp26):D.clL s.c=true:=by
 simp [Stp26.c,Gf,Rule.cl,Mat.cl,M3,D.clL,n3]
def rI (a k:Nat):List Nat:=(List.range k).map (· + a)
theorem tW {a k j:Nat}:j∈rI a k↔a≤j∧j<a+k:=by
 simp only [rI,aU,aZ]
 constructor
 ·rintro ⟨i,h1,rfl⟩;omega
 ·rintro ⟨h1,h2⟩;exact ⟨j - a,by omega,by omega⟩
theorem Mc (a k:Nat):(rI a k).length=k:=by simp [rI]
theorem Ag (a k:Nat):(rI a k).Nodup:=by
 unfold rI
 exact List.Pairwise.map (· + a) (fun x y h=>by simp only [ne_eq] at h ⊢;omega) List.nodup_range
theorem Se (k f:Nat):(0 :: 1 :: 2 :: (rI 3 k++rI (3+k) f)).Nodup:=by
 simp only [eE,bB,bD,tW,vT]
 exact ⟨by omega,by omega,by omega,Ag _ _,Ag _ _,fun x hx y hy=>by omega⟩
theorem Pr {k f j:Nat}(h:j∈0 :: 1 :: 2 :: (rI 3 k++rI (3+k) f)):j<3+k+f:=by
 simp only [bB,bD,tW] at h;omega
theorem Sd (k:Nat):(0 :: 1 :: 2 :: rI 3 k).Nodup:=by
 simp only [eE,bB,tW]
 exact ⟨by omega,by omega,by omega,Ag _ _⟩
theorem FK {k j:Nat}(h:j∈0 :: 1 :: 2 :: rI 3 k):j<3+k:=by
 simp only [bB,tW] at h;omega
theorem FO {t:Types}{r:Rule}{h:Host}(hr:r.ok)(h0:lV t r h=0):RuleV t r∧HostOk t h:=by
 unfold lV at h0
 split at h0
 ·exact absurd h0 (by assumption)
 ·rename_i h1;exact ⟨We hr (by simpa using h1),Ck h0⟩
theorem Id {t:Types}{r:Rule}{h:Host}{m:Mat}(h0:nK t r h m=0):yU t r h m=0:=by
 unfold nK at h0
 split at h0
 ·exact absurd h0 (by assumption)
 ·rename_i h1;simpa using h1
section
variable {t:Types} {r:Rule} {h:Host} {m:Mat}
theorem StepIn.ex (S:StepIn t r h m)(hh:lH t h=0):SR t h (dD r h m)=⟨cM h.graph (dD r h m),(dD r h m).nodes.map fun k=>h.values[k.toNat]?.getD []⟩:=by
 unfold SR;rw [if_pos]
 unfold U2;rw [if_neg (by omega)];exact S.sub
theorem StepIn.eimg (S:StepIn t r h m):(∀ x∈m.m.nodes,0≤x∧x<h.graph.nodes.length)∧∀ x∈m.m.edges,0≤x∧x<h.graph.edges.length:=by
 refine ⟨fun x hx=>?_,fun x hx=>?_⟩
 ·obtain ⟨i,hi,rfl⟩:=aT hx
  exact (S.hm.img i hi (by have:=S.hm.len;omega)).1
 ·obtain ⟨i,hi,rfl⟩:=aT hx
  exact S.hm.eimg i hi
end
theorem Qu {t:Types}{r:Rule}{h:Host}{m:Mat}(S:StepIn t r h m)(hp:yU t r h m=0):MatOk t r.left h m:=by
 unfold yU at hp
 split at hp
 ·cases hp
 ·split at hp
  ·exact absurd hp (by assumption)
  ·rename_i h2
   split at hp
   ·cases hp
   ·rename_i h3
    rw [fV] at h2 h3
    obtain ⟨_,_,_,h4⟩:=HN h2
    rw [h4] at h2 h3
    obtain ⟨a1,a2⟩:=zT (Vt S.hR.pl S.ho S.hm) (vs:=[]) (by simp) (by simp) h2
    rw [h3] at a1 a2
    exact ⟨S.hm,a1,a2⟩
theorem Le (t:Types)(ht:t.ok)(r:Rule)(hr:r.ok)(h:Host)(m:Mat):Pure Tryz.prog 33 [t.d,r.d,h.d,m.d] (.tup [.agg (l6 t r h m).c,dI (xT t r h m)]):=by
 refine TR (by first|rfl|(simp [go_sem];done)) (fun Q hQ=>ACalls.bump 100 (aH (cfg:=⟨fun t=>t==8||t==11||t==13||t==14||t==15||t==16||t==95||t==97,fun r=>match r with|8=>[(5,6),(5,7),(5,8),(5,9),(5,10),(0,13),(1,13),(2,13),(3,13),(4,13),(5,13),(6,13),(7,13),(8,13),(9,13),(10,13),(11,13)]|9=>[(16,17),(16,18),(16,19),(16,20),(16,21),(16,22),(16,23),(16,24),(16,25),(16,26),(16,27),(16,28),(16,29),(16,30),(16,31),(16,32),(0,35),(1,35),(2,35),(3,35),(4,35),(5,35),(6,35),(7,35),(8,35),(9,35),(10,35),(11,35),(12,35),(13,35),(14,35),(15,35),(16,35),(17,35),(18,35),(19,35),(20,35),(21,35),(22,35),(23,35),(24,35),(25,35),(26,35),(27,35),(28,35),(29,35),(30,35),(31,35),(32,35),(33,35)]|10=>[(0,3),(1,3),(3,4)]|_=>[]⟩) Tz.mixed Tryz.func33 rfl rfl (aE rfl) (by kernel_rfl) ?_))
 have Y:=wa @Host.d.eq_1 (wa @Host.c.eq_1 (wa @Mat.d.eq_1 (wa @Mat.c.eq_1 (wa @Kk (wa @OW (wa @SG @OX))))))
 refine wv (h:=aC (C3 t ht r hr h) wl ?_)
 refine d7 (fun h2=>?_) fun h2=>?_
 ·have hA:xT t r h m=lV t r h:=by unfold xT;rw [if_pos h2]
  have hV:l6 t r h m=GN:=by unfold l6;rw [if_neg (by omega)]
  exact wv (h:=hQ _ _ (by simp [go_sem,hA,hV,GN,HU,LL,tU,Stp26.c,Rule.c,Mat.c,Host.c,Cond.kind,Cond.kids,Cond.map,Cond.pattern,dLI,dI]))
 ·obtain ⟨hR,ho⟩:=FO hr h2
  have hh0:lH t h=0:=by unfold lV at h2;split at h2;exact absurd h2 (by assumption);exact h2
  have hA0:xT t r h m=tF t r h m:=by unfold xT;rw [if_neg (by omega)]
  refine wv (h:=aC (EJ t ht r hR h ho m) wl ?_)
  refine d7 (fun h5=>?_) fun h5=>?_
  ·have hA:xT t r h m=nK t r h m:=by rw [hA0];unfold tF;rw [if_pos h5]
   have hV:l6 t r h m=GN:=by unfold l6;rw [if_neg (by omega)]
   exact wv (h:=hQ _ _ (by simp [go_sem,hA,hV,GN,HU,LL,tU,Stp26.c,Rule.c,Mat.c,Host.c,Cond.kind,Cond.kids,Cond.map,Cond.pattern,dLI,dI]))
  ·have hpre:=Id (show nK t r h m=0 by omega)
   have S:=Rr hR ho hpre
   have hP:tN t r h m=dD r h m:=by unfold tN;rw [if_pos hpre]
   have hX:=S.ex hh0
   obtain ⟨x0,hx0⟩:∃ x0:Host,x0=⟨cM h.graph (dD r h m),(dD r h m).nodes.map fun k=>h.values[k.toNat]?.getD []⟩:=⟨_,rfl⟩
   rw [← hx0] at hX
   obtain ⟨tr,htr⟩:∃ tr,tr=wJ r h m:=⟨_,rfl⟩
   have hT1:kF (dD r h m).nodes h.graph.nodes.length=tr.nodes:=by rw [htr];rfl
   have hT2:kF (dD r h m).edges h.graph.edges.length=tr.edges:=by rw [htr];rfl
   have htl1:tr.nodes.length=h.graph.nodes.length:=by rw [← hT1,uD]
   have htl2:tr.edges.length=h.graph.edges.length:=by rw [← hT2,uD]
   obtain ⟨hin1,hin2⟩:=S.eimg
   have hK:=hR.keep
   have hml:=S.hm.len
   have hmel:=S.hm.elen
   have hal1:(Ea m.m.nodes tr.nodes).length=m.m.nodes.length:=by simp [Ea]
   have hal2:(Ea m.m.edges tr.edges).length=m.m.edges.length:=by simp [Ea]
   obtain ⟨cm,hcm⟩:∃ cm,cm=v7 r h m:=⟨_,rfl⟩
   have hC1:Na r.keep.nodes r.into.nodes (Ea m.m.nodes tr.nodes) r.right.graph.nodes.length (dD r h m).nodes.length=cm.nodes:=by rw [hcm,htr];rfl
   have hC2:Na r.keep.edges r.into.edges (Ea m.m.edges tr.edges) r.right.graph.edges.length (dD r h m).edges.length=cm.edges:=by rw [hcm,htr];rfl
   have hgl:=bZ hR.pl.gg
   have hgr:=bZ hR.gr
   have hgh:=bZ ho.gg
   have hdl:=S.len
   have hxv:x0.values.length=(dD r h m).nodes.length:=by rw [hx0];simp
   have hxn:x0.graph.nodes.length=(dD r h m).nodes.length:=by rw [hx0];unfold cM;rw [if_pos S.sub];simp
   have hxe:x0.graph.edges.length=(dD r h m).edges.length:=by rw [hx0];unfold cM;rw [if_pos S.sub];simp
   have hxr:∀ v∈x0.values,v.length≤8:=fun v hv=>by
    rw [hx0,aU] at hv
    obtain ⟨k,hk,rfl⟩:=hv
    have hkr:=S.nin k hk
    have hvl:=ho.vl
    rw [aA (show k.toNat<h.values.length by omega),aD]
    exact (ho.row _ (aB _)).1
   have hcl:cm.nodes.length=r.right.graph.nodes.length:=by rw [hcm];simp [v7,Na]
   have hB:jZ t r cm x0=eB t r h m:=by rw [hcm,hx0];rfl
   have hfl:r.freshN.length≤40:=cN (eG _ _) hgr.1
   have hMat:=Qu S hpre
   have hvl:=hMat.vl
   have hvs:Sm m.vars:=fun v hv=>by have:=hMat.vs v hv;omega
   have Y:=wa Y (wa hP (wa @Part.d.eq_1 (wa @Part.c.eq_1 (wa hX (wa hT1 (wa hT2 (wa hC1 hC2)))))))
   refine wv (h:=aC (GZ t ht h (dD r h m) (by omega) (by omega) (by omega) (by omega)) wl ?_)
   refine wv (h:=aM (wR m.m.nodes tr.nodes (by omega) (fun x hx=>by have:=hin1 x hx;omega)) wl ?_)
   refine wv (h:=aM (wR m.m.edges tr.edges (by omega) (fun x hx=>by have:=hin2 x hx;omega)) wl ?_)
   refine wp (h:=aM (y8 r.keep.nodes r.into.nodes (Ea m.m.nodes tr.nodes) r.right.graph.nodes.length (dD r h m).nodes.length (by omega) (fun x hx=>by have:=hK.2.1 x hx;rw [hal1];omega) (by omega) (by omega)) wl ?_)
   refine wp (h:=aM (y8 r.keep.edges r.into.edges (Ea m.m.edges tr.edges) r.right.graph.edges.length (dD r h m).edges.length (by omega) (fun x hx=>by have:=hK.2.2.1 x hx;rw [hal2];omega) (by omega) (by omega)) wl ?_)
   refine wp (h:=?_)
   refine Hm x0 (by omega) (by omega) (by omega) (fun v hv=>by have:=hxr v hv;omega) 0 1 2 (rI 3 x0.values.length) (Mc _ _) (Sd _) (by simp [go_sem]) (fun j hj=>?_) rfl ?_ (fun E hE1 hE2 hE3 hE4=>?_)
   ·have hj2:=FK hj
    refine ⟨by omega,?_⟩
    simp [go_sem,Kk,OW,SG,OX];omega
   ·intro q hq hs x hx
    simp at hq
    rcases hq with rfl|rfl|rfl<;>simp at hs hx
   have hno:∀ j,100≤j→j∉0 :: 1 :: 2 :: rI 3 x0.values.length:=fun j hj hm=>by have:=FK hm;omega
   have hno2:∀ j,100≤j→j∉0 :: 1 :: 2 :: (rI 3 x0.values.length++rI (3+x0.values.length) r.freshN.length):=fun j hj hm=>by have:=Pr hm;omega
   have g100:=hE2 100 (hno _ (by omega))
   have g102:=hE2 102 (hno _ (by omega))
   have g103:=hE2 103 (hno _ (by omega))
   have g154:=hE2 154 (hno _ (by omega))
   simp [go_sem] at g100 g102 g103 g154 hE4
   have hal:∀ j,j<100→E.al j→j∈0 :: 1 :: 2 :: rI 3 x0.values.length:=fun j hj hA=>by
    rcases (hE3 j).1 hA with h|h
    ·simp [go_sem,Kk,OW,SG,OX] at h;omega
    ·exact h
   have n154:∀ (a:Nat),a∈rI 3 x0.values.length→¬ a=154:=fun a hm=>by rw [tW] at hm;omega
   have Y:=wa Y (wa g100 (wa g102 (wa g103 g154)))
   refine wp (h:=?_)
   refine Mt t ht r hR x0 cm hcl (by omega) 0 0 1 2 (rI 3 x0.values.length) (rI (3+x0.values.length) r.freshN.length) hE1 (by rw [Mc]) (Se _ _) (by rw [hE4];omega) (fun j hj=>?_) rfl ?_ (fun F hF1 hF2 hF3 hF4=>?_)
   ·rw [tW] at hj
    refine ⟨by omega,fun hA=>?_⟩
    have:=FK (hal j (by omega) hA)
    omega
   ·intro q hq hs x hx
    simp at hs
   rw [hB] at hF1 ⊢
   rw [hE4] at hF4
   have f100:=hF2 100 (hno2 _ (by omega))
   have f102:=hF2 102 (hno2 _ (by omega))
   have f103:=hF2 103 (hno2 _ (by omega))
   have f154:=hF2 154 (hno2 _ (by omega))
   rw [g100] at f100
   rw [g102] at f102
   rw [g103] at f103
   rw [g154] at f154
   have Y:=wa Y (wa f100 (wa f102 (wa f103 f154)))
   refine wp (h:=?_)
   unfold fB
   refine NH t ht r hR (eB t r h m) cm (hcm ▸ S.put) m.vars hvl hvs _ 0 0 1 2 (rI 3 x0.values.length++rI (3+x0.values.length) r.freshN.length) (hF1.same (by simp [go_sem]) (fun j hj=>by have:=Pr hj;simp [go_sem,show j≠102 by omega])) _ (fun H4 e1 e2 e3=>?_) (fun H4 e1 e2 e3=>?_)
   ·have k100:=e2 100 (by simp [go_sem];omega) (hno2 _ (by omega))
    have k102:=e2 102 (by simp [go_sem];omega) (hno2 _ (by omega))
    simp [go_sem,f100] at k100 k102
    have hA:xT t r h m=DN t (eB t r h m).graph cm m.vars r.right.slots:=by rw [hA0];unfold tF;rw [if_neg (by omega),← hcm,if_pos e1]
    have hV:l6 t r h m=GN:=by unfold l6;rw [if_neg (by omega)]
    simp [go_sem,seval,k100,k102]
    refine aJ (fun hc=>?_) (fun hc=>absurd (by simpa using hc) e1)
    simp [go_sem,seval,k100,k102]
    exact hQ _ _ (by first|(left;(simp [go_sem,hA,hV,GN,HU,LL,tU,Stp26.c,Rule.c,Mat.c,Host.c,Cond.kind,Cond.kids,Cond.map,Cond.pattern,dLI,dI]);done)|(right;(simp [go_sem,hA,hV,GN,HU,LL,tU,Stp26.c,Rule.c,Mat.c,Host.c,Cond.kind,Cond.kids,Cond.map,Cond.pattern,dLI,dI]);done))
   have k100:=e2 100 (by simp [go_sem];omega) (hno2 _ (by omega))
   have k102:=e2 102 (by simp [go_sem];omega) (hno2 _ (by omega))
   have k103:=e2 103 (by simp [go_sem];omega) (hno2 _ (by omega))
   have k154:=e2 154 (by simp [go_sem];omega) (hno2 _ (by omega))
   simp [go_sem,f100,f102,f103,f154] at k100 k102 k103 k154
   have Y:=wa Y (wa k100 (wa k102 (wa k103 k154)))
   refine pH (fun h14=>?_) fun h14=>?_
   ·have hA:xT t r h m=3:=by
     rw [hA0];unfold tF;rw [if_neg (by omega),← hcm,if_neg (by omega),if_pos (by omega)]
    have hV:l6 t r h m=GN:=by unfold l6;rw [if_neg (by omega)]
    exact wv (h:=hQ _ _ (by simp [go_sem,hA,hV,GN,HU,LL,tU,Stp26.c,Rule.c,Mat.c,Host.c,Cond.kind,Cond.kids,Cond.map,Cond.pattern,dLI,dI]))
   ·have hA:xT t r h m=0:=by
     rw [hA0];unfold tF;rw [if_neg (by omega),← hcm,if_neg (by omega),if_neg (by omega)]
    have hV:l6 t r h m=Nr t r h m:=by unfold l6;rw [if_pos hA]
    have hW:Gx t r h m=⟨(eB t r h m).graph,wY cm m.vars r.right.slots (eB t r h m).values⟩:=by rw [hcm];rfl
    exact wv (h:=hQ _ _ (by simp [go_sem,hA,hV,Nr,Stp26.c,Mat.c,Host.c,hW,← htr,← hcm]))
theorem Dg (t:Types)(p:Pattern)(h:Host)(inj:Bool):(gY t p h inj).1.length≤5000:=by
 unfold gY
 split
 ·simp
 ·split
  ·simp
  ·split
   ·simp
   ·exact cN (List.length_filterMap_le _ _) (MX _ _ _ _)
theorem PG (t:Types)(ht:t.ok)(r:Rule)(hr:r.ok)(h:Host)(m:Mat){v:Stp26}{e:Int}(hv:v=l6 t r h m)(he:e=xT t r h m):Pure Tryz.prog 33 [t.d,r.d,h.d,m.d] (.tup [.agg v.c,dI e]):=by
 subst hv he;exact Le t ht r hr h m
theorem B0 (t:Types)(ht:t.ok)(r:Rule)(hr:r.ok)(h:Host):Pure Tryz.prog 20 [t.d,r.d,h.d] (.tup [.list ((CJ t r h).1.map Mat.c),dI (CJ t r h).2]):=by
 refine Tz.pK ⟨fun t=>t==11||t==13,fun r=>match r with|11=>[(0,11),(1,11),(2,11),(5,11),(6,11),(7,11)]|_=>[]⟩ Tryz.func20 rfl (fun Q hQ=>?_)
 have Y:=wa @Host.d.eq_1 @Host.c.eq_1
 refine wv (h:=aC (C3 t ht r hr h) wl ?_)
 refine d7 (fun h2=>?_) fun h2=>?_
 ·have hS:CJ t r h=([],lV t r h):=by unfold CJ;rw [if_pos h2]
  exact wv (h:=hQ _ _ (by simp [go_sem,hS]))
 ·refine wv (h:=aC (G6 t ht r.left h r.inj) wl ?_)
  refine d7 (fun h5=>?_) fun h5=>?_
  ·have hS:CJ t r h=([],(gY t r.left h r.inj).2):=by unfold CJ;rw [if_neg (by omega),if_pos h5]
   exact wv (h:=hQ _ _ (by simp [go_sem,hS]))
  ·have hS:CJ t r h=((gY t r.left h r.inj).1.filter fun m=>decide (tF t r h m=0),0):=by unfold CJ;rw [if_neg (by omega),if_neg (by omega)]
   have hL5:=Dg t r.left h r.inj
   obtain ⟨L,hL⟩:∃ L,L=(gY t r.left h r.inj).1:=⟨_,rfl⟩
   rw [← hL] at hS hL5
   have hap:∀ m,xT t r h m=tF t r h m:=fun m=>by unfold xT;rw [if_neg (by omega)]
   have Y:=wa Y (Eq.symm hL)
   refine wv (h:=bG (fun i e H=>∃ ms:List Mat,(e 3=.adr t.c∧e 4=.adr r.c∧e 5=.adr h.c∧e 9=.list (L.map Mat.c)∧e 11=.own 0 ms.length∧e 12=dI i)∧(H.get 0=some ⟨65,3,ms.map Mat.c,false⟩)∧(0<H.next)∧(i≤L.length)∧(ms=(L.take i).filter fun m=>decide (tF t r h m=0))∧(ms.length≤i)) (fun i=>L.length - i) 0 ⟨([]),wg,wn,wn,wi,(by rfl),(by (simp))⟩ fun I0 hI0 i e H hi0=>?_)
   obtain ⟨ms,E0,g0_0,n0_0,hi,hms,hml⟩:=hi0
   have Y:=wa Y (wa E0 (wa g0_0 (cG n0_0)))
   refine pH (fun h9=>?_) fun h9=>?_
   ·obtain ⟨v,hv⟩:∃ v,v=l6 t r h L[i]:=⟨_,rfl⟩
    obtain ⟨e,he⟩:∃ e,e=xT t r h L[i]:=⟨_,rfl⟩
    obtain ⟨ms2,hms2⟩:∃ y,y=ms++[L[i]].filter fun m=>decide (tF t r h m=0):=⟨_,rfl⟩
    have hes:tF t r h L[i]=e:=by rw [he,hap]
    have Y:=wa Y (wa h9 (wa (aA h9) @Mat.c.eq_1))
    refine wp (h:=aM ((by have hq:=PG t ht r hr h L[i] hv he;simp only [Stp26.c,Rule.c,Mat.c,Host.c,kI,oF] at hq;unfold Mat.d Mat.c dLI at hq;exact hq)) wl ?_)
    refine pH (fun h12=>?_) fun h12=>?_
    ·have hm3:ms2=ms++[L[i]]:=by rw [hms2,mG (by rw [hes];simpa using h12)];rfl
     have Y:=wa Y hm3
     exact wp (h:=wx hI0 (i+1) ⟨ms2,wg,wn,wn,wj,(by (rw [aF h9,eY,← hms,hms2])),(by (rw [hm3];first|(simp;omega)|omega))⟩)
    ·have hm3:ms2=ms:=by rw [hms2,mH (by rw [hes];simpa using h12)];simp
     have Y:=wa Y hm3
     exact wp (h:=wx hI0 (i+1) ⟨ms2,wg,wn,wn,wj,(by (rw [aF h9,eY,← hms,hms2])),(by (rw [hm3];first|(simp;omega)|omega))⟩)
   ·rw [aI (by omega)] at hms
    exact wv (h:=hQ _ _ (by simp [go_sem,Y,hS,← hms]))
def BQ (t:Types)(r:Rule)(h:Host)(most:Nat):List Stp26:=((CJ t r h).1.take most).map (l6 t r h)
theorem Rq (l:List Stp26):D.clLL (l.map Stp26.c)=true:=dA _ Stp26.cl l
attribute [go_sem] Rq
theorem TI (t:Types)(r:Rule)(h:Host):(CJ t r h).1.length≤5000:=by
 unfold CJ
 split
 ·simp
 ·split
  ·simp
  ·exact cN (kJ _ _) (Dg _ _ _ _)
theorem Lc (t:Types)(ht:t.ok)(r:Rule)(hr:r.ok)(h:Host)(most:Nat):Pure Tryz.prog 15 [t.d,r.d,h.d,dI most] (.list ((BQ t r h most).map Stp26.c)):=by
 refine Tz.pK ⟨fun t=>t==11||t==13,fun r=>match r with|6=>[(0,11),(1,11),(2,11),(5,11),(6,11),(7,11)]|_=>[]⟩ Tryz.func15 rfl (fun Q hQ=>?_)
 obtain ⟨L,hL⟩:∃ L,L=(CJ t r h).1:=⟨_,rfl⟩
 have hL5:=TI t r h
 rw [← hL] at hL5
 have hS:BQ t r h most=(L.take most).map (l6 t r h):=by unfold BQ;rw [hL]
 have Y:=wa @Host.d.eq_1 (wa @Host.c.eq_1 (Eq.symm hL))
 refine wv (h:=aC (B0 t ht r hr h) wl ?_)
 refine wv (h:=bG (fun i e H=>∃ ss:List Stp26,(e 4=.adr t.c∧e 5=.adr r.c∧e 6=.adr h.c∧e 3=dI most∧e 9=.list (L.map Mat.c)∧e 11=.own 0 ss.length∧e 12=dI i)∧(H.get 0=some ⟨67,38,ss.map Stp26.c,false⟩)∧(0<H.next)∧(i≤L.length∧i≤most)∧(ss=(L.take i).map (l6 t r h))∧(ss.length=i)) (fun i=>L.length - i) 0 ⟨([]),wg,wn,wn,wi,(by rfl),(by (simp))⟩ fun I0 hI0 i e H hi0=>?_)
 obtain ⟨ss,E0,g0_0,n0_0,hi,hms,hml⟩:=hi0
 have Y:=wa Y (wa E0 (wa g0_0 (cG n0_0)))
 refine pH (fun h4=>?_) fun h4=>?_
 ·have hil:i<L.length:=h4.1
  obtain ⟨v,hv⟩:∃ v,v=l6 t r h L[i]:=⟨_,rfl⟩
  obtain ⟨e,he⟩:∃ e,e=xT t r h L[i]:=⟨_,rfl⟩
  have Y:=wa Y (wa h4 (wa (aA hil) (wa @Mat.c.eq_1 @Stp26.c.eq_1)))
  refine wp (h:=aM ((by have hq:=PG t ht r hr h L[i] hv he;simp only [Stp26.c,Rule.c,Mat.c,Host.c,kI,oF] at hq;unfold Mat.d Mat.c dLI at hq;exact hq)) wl ?_)
  exact wp (h:=wx hI0 (i+1) ⟨(ss++[v]),wg,wn,wn,wj,(by (rw [aF hil,List.map_append,← hms,hv];rfl)),(by (simp;omega))⟩)
 ·have hE:(L.take most).map (l6 t r h)=ss:=by
   rw [hms]
   congr 1
   by_cases h1:i<L.length
   ·have:i=most:=by have:=h4 h1;omega
    rw [this]
   ·rw [aI (by omega),aI (by omega)]
  exact wv (h:=hQ _ _ (by simp [go_sem,Y,hS,hE]))
mutual
def k8:Cond→Bool
 | .mk k l m p=>A4 l&&decide ((p.graph.nodes.length:Int)+p.graph.edges.length≤6)
def A4:List Cond→Bool
 | []=>true
 | c :: l=>k8 c&&A4 l
end
theorem LT (l:List Cond):A4 l=l.all k8:=by
 induction l with
 | nil=>simp [A4]
 | cons a l ih=>simp [A4,ih]
theorem z1 (c:Cond):k8 c=(c.kids.all k8&&decide ((c.pattern.graph.nodes.length:Int)+c.pattern.graph.edges.length≤6)):=by
 cases c;simp only [k8,LT,Cond.kids,Cond.pattern];try rfl
theorem s5 {α:Type}(l:List α)(p:α→Bool){i:Nat}(h:i<l.length):(l.take (i+1)).all p=((l.take i).all p&&p l[i]):=by
 rw [aF h,List.all_append];simp
theorem JF:∀ c:Cond,c.ok→Pure Tryz.prog 128 [.agg c.c] (.bool (k8 c)):=by
 refine kY fun c ih hc=>?_
 obtain ⟨hs,hk⟩:=(sI c).1 hc
 have p1:=hs.p1
 have p2:=hs.p2
 refine Tz.pK ⟨fun _=>false,fun _=>[]⟩ Tryz.func128 rfl (fun Q hQ=>?_)
 have Y:=@Cond.c_eq
 refine wv (h:=bG (fun i e H=>(e 1=.adr c.c∧e 3=dI i)∧(i≤c.kids.length)∧((c.kids.take i).all k8=true)) (fun i=>c.kids.length - i) 0 ⟨wg,wi,(by rfl)⟩ fun I0 hI0 i e H hi0=>?_)
 obtain ⟨E0,hi,ha⟩:=hi0
 have Y:=wa Y E0
 refine wv (h:=?_)
 repeat first|intro _|refine ⟨d8,?_⟩
 refine wq (fun h2=>?_) fun h2=>?_
 ·have Y:=wa Y (wa h2 (aA h2))
  refine wo (h:=aC ((by have:=ih _ (aB h2) (hk _ (aB h2));rwa [Cond.c_eq] at this)) wl ?_)
  refine wv (h:=?_)
  repeat first|intro _|refine ⟨d8,?_⟩
  refine wq (fun h4=>?_) fun h4=>?_
  ·refine wv (h:=?_)
   have hF:k8 c=false:=by
    have:c.kids.all k8=false:=by
     rw [bO];intro h;exact absurd (cQ.1 h _ (aB h2)) (by simpa using h4)
    rw [z1,this];rfl
   exact hQ _ _ (by simp [go_sem,hF])
  ·exact wo (h:=wx hI0 (i+1) ⟨wg,wj,(by (rw [s5 _ _ h2,ha];simpa using h4))⟩)
 ·have hA:c.kids.all k8=true:=by rw [aI (by omega)] at ha;exact ha
  have hF:k8 c=decide ((c.pattern.graph.nodes.length:Int)+c.pattern.graph.edges.length≤6):=by rw [z1,hA];rfl
  exact wo (h:=hQ _ _ (by simp [go_sem,hF]))
def V4 (p q:Pattern):Int:=((14 ^ (q.graph.nodes.length - p.graph.nodes.length) * 18 ^ (q.graph.edges.length - p.graph.edges.length):Nat):Int)
def Im (k:Int)(p' p:Pattern):Pattern:=if k=5 then p' else p
mutual
def kV:Cond→Pattern→Bool
 | .mk k l m p',p=>Gj l (Im k p' p)&&decide (V4 p (Im k p' p)≤5000)
def Gj:List Cond→Pattern→Bool
 | [],_=>true
 | c :: l,q=>kV c q&&Gj l q
end
theorem OP (l:List Cond)(q:Pattern):Gj l q=l.all fun c=>kV c q:=by
 induction l with
 | nil=>simp [Gj]
 | cons a l ih=>simp [Gj,ih]
theorem yO (c:Cond)(p:Pattern):kV c p=((c.kids.all fun k=>kV k (Im c.kind c.pattern p))&&decide (V4 p (Im c.kind c.pattern p)≤5000)):=by
 cases c;simp only [kV,OP,Cond.kids,Cond.pattern,Cond.kind];try rfl
theorem pW {a j:Nat}(ha:1≤a)(hj:j≤6):a ^ j≤a ^ 6∧1≤a ^ j:=⟨Nat.pow_le_pow_right ha hj,by first|exact Nat.one_le_pow _ _ ha|exact Nat.pow_pos ha|exact Nat.pos_pow_of_pos _ ha⟩
theorem Jp (q:Pattern):q.c.take 5=q.c:=rfl
theorem G4:∀ c:Cond,c.ok→k8 c=true→∀ p:Pattern,p.graph.nodes.length≤1000000→p.graph.edges.length≤1000000→Pure Tryz.prog 129 [p.d,.agg c.c,dI 14,dI 18] (.bool (kV c p)):=by
 refine kY fun c ih hc hn p hp1 hp2=>?_
 obtain ⟨hs,hk⟩:=(sI c).1 hc
 have q1:=hs.p1
 have q2:=hs.p2
 rw [z1] at hn
 simp only [aL,decide_eq_true_eq,cQ] at hn
 obtain ⟨q,hq⟩:∃ q,Im c.kind c.pattern p=q:=⟨_,rfl⟩
 have hqs:q.graph.nodes.length - p.graph.nodes.length≤6∧q.graph.edges.length - p.graph.edges.length≤6∧q.graph.nodes.length≤1000000∧q.graph.edges.length≤1000000:=by
  rw [← hq];unfold Im;split<;>omega
 refine Tz.pK ⟨fun t=>t==9,fun _=>[]⟩ Tryz.func129 rfl (fun Q hQ=>?_)
 have Y:=@Cond.c_eq
 refine d7 (fun h2=>?_) fun h2=>?_
 ·have hqc:c.pattern=q:=by rw [← hq];exact (if_pos h2).symm
  refine wp (h:=bG (fun i e H=>∃ w:Nat,(e 4=.adr p.c∧e 5=.adr c.c∧e 2=dI 14∧e 3=dI 18∧e 9=.ptr 0 1 0 0∧e 10=dI w∧e 11=dI i)∧(H.get 0=some ⟨53,5,[q.c],false⟩)∧(0<H.next)∧(p.graph.nodes.length≤i)∧(i≤q.graph.nodes.length∨i=p.graph.nodes.length)∧(w=14 ^ (i - p.graph.nodes.length))) (fun i=>q.graph.nodes.length - i) p.graph.nodes.length ⟨1,wg,(by (simp [go_sem,hqc,Jp])),wn,wi,wi,(by (simp))⟩ fun I0 hI0 i e H hi0=>?_)
  obtain ⟨w,E0,g0_0,n0_0,hi,hi2,hw⟩:=hi0
  have Y:=wa Y (wa E0 (wa g0_0 (cG n0_0)))
  refine wv (h:=?_)
  repeat first|intro _|refine ⟨eI,?_⟩
  refine wq (fun h6=>?_) fun h6=>?_
  ·have hwb:=(pW (a:=14) (j:=i - p.graph.nodes.length) (by omega) (by omega)).1
   rw [← hw] at hwb
   have hwb':w≤7529536:=hwb
   have Y:=wa Y h6
   exact wp (h:=wx hI0 (i+1) ⟨(w * 14),wg,(by (simp [go_sem,Y])),wn,wj,wj,(by (rw [show i+1 - p.graph.nodes.length=(i - p.graph.nodes.length)+1 by omega,Nat.pow_succ,hw]))⟩)
  ·have hw':w=14 ^ (q.graph.nodes.length - p.graph.nodes.length):=by rw [hw];congr 1;omega
   have hwb:=(pW (a:=14) (j:=q.graph.nodes.length - p.graph.nodes.length) (by omega) hqs.1).1
   rw [← hw'] at hwb
   have hwb':w≤7529536:=hwb
   refine wp (h:=bG (fun k e H=>∃ v:Nat,(e 4=.adr p.c∧e 5=.adr c.c∧e 2=dI 14∧e 3=dI 18∧e 9=.ptr 0 1 0 0∧e 10=dI v∧e 12=dI k)∧(H.get 0=some ⟨53,5,[q.c],false⟩)∧(0<H.next)∧(p.graph.edges.length≤k)∧(k≤q.graph.edges.length∨k=p.graph.edges.length)∧(v=w * 18 ^ (k - p.graph.edges.length))) (fun k=>q.graph.edges.length - k) p.graph.edges.length ⟨w,wg,(by (simp [go_sem,Y])),wn,wi,wi,(by (simp))⟩ fun I2 hI2 k e H hi2=>?_)
   obtain ⟨v,E2,g0_2,n0_2,hk1,hk2,hv⟩:=hi2
   have Y:=wa Y (wa E2 (wa g0_2 (cG n0_2)))
   refine wv (h:=?_)
   repeat first|intro _|refine ⟨eI,?_⟩
   refine wq (fun h10=>?_) fun h10=>?_
   ·have hvb:=(pW (a:=18) (j:=k - p.graph.edges.length) (by omega) (by omega)).1
    have hvb':v≤7529536 * 34012224:=by rw [hv];exact jO hwb' hvb
    have Y:=wa Y h10
    exact wp (h:=wx hI2 (k+1) ⟨(v * 18),wg,(by (simp [go_sem,Y])),wn,wj,wj,(by (rw [show k+1 - p.graph.edges.length=(k - p.graph.edges.length)+1 by omega,Nat.pow_succ,hv,Nat.mul_assoc]))⟩)
   ·have hv':v=w * 18 ^ (q.graph.edges.length - p.graph.edges.length):=by rw [hv];congr 2;omega
    refine wv (h:=bG (fun j e H=>(e 4=.adr p.c∧e 5=.adr c.c∧e 2=dI 14∧e 3=dI 18∧e 9=.ptr 0 1 0 0∧e 10=dI v∧e 13=dI j)∧(H.get 0=some ⟨53,5,[q.c],false⟩)∧(0<H.next)∧(j≤c.kids.length)∧((c.kids.take j).all (fun x=>kV x q)=true)) (fun j=>c.kids.length - j) 0 ⟨wg,(by (simp [go_sem,Y])),wn,wi,(by rfl)⟩ fun I4 hI4 j e H hi4=>?_)
    obtain ⟨E4,g0_4,n0_4,hj,ha⟩:=hi4
    have Y:=wa Y (wa E4 (wa g0_4 (cG n0_4)))
    refine wv (h:=?_)
    repeat first|intro _|refine ⟨eI,?_⟩
    refine wq (fun h14=>?_) fun h14=>?_
    ·have Y:=wa Y (wa h14 (wa (aA h14) @Jp))
     refine wp (h:=aM ((by have hz:=ih _ (aB h14) (hk _ (aB h14)) (hn.1 _ (aB h14)) q hqs.2.2.1 hqs.2.2.2;rwa [Cond.c_eq] at hz)) wl ?_)
     refine wv (h:=?_)
     repeat first|intro _|refine ⟨eI,?_⟩
     refine wq (fun h16=>?_) fun h16=>?_
     ·refine wv (h:=?_)
      have hF:kV c p=false:=by
       have:(c.kids.all fun x=>kV x q)=false:=by
        rw [bO];intro h;exact absurd (cQ.1 h _ (aB h14)) (by simpa using h16)
       rw [yO,hq,this];rfl
      exact hQ _ _ (by simp [go_sem,hF])
     ·exact wp (h:=wx hI4 (j+1) ⟨wg,(by (simp [go_sem,Y])),wn,wj,(by (rw [s5 _ _ h14,ha];simpa using h16))⟩)
    ·have hA:(c.kids.all fun x=>kV x q)=true:=by rw [aI (by omega)] at ha;exact ha
     have hF:kV c p=decide ((v:Int)≤5000):=by rw [yO,hq,hA,hv',hw'];rfl
     exact wv (h:=hQ _ _ (by simp [go_sem,hF]))
 ·have hqc:p=q:=by rw [← hq];exact (if_neg h2).symm
  refine wp (h:=bG (fun i e H=>∃ w:Nat,(e 4=.adr p.c∧e 5=.adr c.c∧e 2=dI 14∧e 3=dI 18∧e 9=.ptr 0 1 0 0∧e 10=dI w∧e 11=dI i)∧(H.get 0=some ⟨53,5,[q.c],false⟩)∧(0<H.next)∧(p.graph.nodes.length≤i)∧(i≤q.graph.nodes.length∨i=p.graph.nodes.length)∧(w=14 ^ (i - p.graph.nodes.length))) (fun i=>q.graph.nodes.length - i) p.graph.nodes.length ⟨1,wg,(by (simp [go_sem,hqc,Jp])),wn,wi,wi,(by (simp))⟩ fun I0 hI0 i e H hi0=>?_)
  obtain ⟨w,E0,g0_0,n0_0,hi,hi2,hw⟩:=hi0
  have Y:=wa Y (wa E0 (wa g0_0 (cG n0_0)))
  refine wv (h:=?_)
  repeat first|intro _|refine ⟨eI,?_⟩
  refine wq (fun h6=>?_) fun h6=>?_
  ·have hwb:=(pW (a:=14) (j:=i - p.graph.nodes.length) (by omega) (by omega)).1
   rw [← hw] at hwb
   have hwb':w≤7529536:=hwb
   have Y:=wa Y h6
   exact wp (h:=wx hI0 (i+1) ⟨(w * 14),wg,(by (simp [go_sem,Y])),wn,wj,wj,(by (rw [show i+1 - p.graph.nodes.length=(i - p.graph.nodes.length)+1 by omega,Nat.pow_succ,hw]))⟩)
  ·have hw':w=14 ^ (q.graph.nodes.length - p.graph.nodes.length):=by rw [hw];congr 1;omega
   have hwb:=(pW (a:=14) (j:=q.graph.nodes.length - p.graph.nodes.length) (by omega) hqs.1).1
   rw [← hw'] at hwb
   have hwb':w≤7529536:=hwb
   refine wp (h:=bG (fun k e H=>∃ v:Nat,(e 4=.adr p.c∧e 5=.adr c.c∧e 2=dI 14∧e 3=dI 18∧e 9=.ptr 0 1 0 0∧e 10=dI v∧e 12=dI k)∧(H.get 0=some ⟨53,5,[q.c],false⟩)∧(0<H.next)∧(p.graph.edges.length≤k)∧(k≤q.graph.edges.length∨k=p.graph.edges.length)∧(v=w * 18 ^ (k - p.graph.edges.length))) (fun k=>q.graph.edges.length - k) p.graph.edges.length ⟨w,wg,(by (simp [go_sem,Y])),wn,wi,wi,(by (simp))⟩ fun I2 hI2 k e H hi2=>?_)
   obtain ⟨v,E2,g0_2,n0_2,hk1,hk2,hv⟩:=hi2
   have Y:=wa Y (wa E2 (wa g0_2 (cG n0_2)))
   refine wv (h:=?_)
   repeat first|intro _|refine ⟨eI,?_⟩
   refine wq (fun h10=>?_) fun h10=>?_
   ·have hvb:=(pW (a:=18) (j:=k - p.graph.edges.length) (by omega) (by omega)).1
    have hvb':v≤7529536 * 34012224:=by rw [hv];exact jO hwb' hvb
    have Y:=wa Y h10
    exact wp (h:=wx hI2 (k+1) ⟨(v * 18),wg,(by (simp [go_sem,Y])),wn,wj,wj,(by (rw [show k+1 - p.graph.edges.length=(k - p.graph.edges.length)+1 by omega,Nat.pow_succ,hv,Nat.mul_assoc]))⟩)
   ·have hv':v=w * 18 ^ (q.graph.edges.length - p.graph.edges.length):=by rw [hv];congr 2;omega
    refine wv (h:=bG (fun j e H=>(e 4=.adr p.c∧e 5=.adr c.c∧e 2=dI 14∧e 3=dI 18∧e 9=.ptr 0 1 0 0∧e 10=dI v∧e 13=dI j)∧(H.get 0=some ⟨53,5,[q.c],false⟩)∧(0<H.next)∧(j≤c.kids.length)∧((c.kids.take j).all (fun x=>kV x q)=true)) (fun j=>c.kids.length - j) 0 ⟨wg,(by (simp [go_sem,Y])),wn,wi,(by rfl)⟩ fun I4 hI4 j e H hi4=>?_)
    obtain ⟨E4,g0_4,n0_4,hj,ha⟩:=hi4
    have Y:=wa Y (wa E4 (wa g0_4 (cG n0_4)))
    refine wv (h:=?_)
    repeat first|intro _|refine ⟨eI,?_⟩
    refine wq (fun h14=>?_) fun h14=>?_
    ·have Y:=wa Y (wa h14 (wa (aA h14) @Jp))
     refine wp (h:=aM ((by have hz:=ih _ (aB h14) (hk _ (aB h14)) (hn.1 _ (aB h14)) q hqs.2.2.1 hqs.2.2.2;rwa [Cond.c_eq] at hz)) wl ?_)
     refine wv (h:=?_)
     repeat first|intro _|refine ⟨eI,?_⟩
     refine wq (fun h16=>?_) fun h16=>?_
     ·refine wv (h:=?_)
      have hF:kV c p=false:=by
       have:(c.kids.all fun x=>kV x q)=false:=by
        rw [bO];intro h;exact absurd (cQ.1 h _ (aB h14)) (by simpa using h16)
       rw [yO,hq,this];rfl
      exact hQ _ _ (by simp [go_sem,hF])
     ·exact wp (h:=wx hI4 (j+1) ⟨wg,(by (simp [go_sem,Y])),wn,wj,(by (rw [s5 _ _ h14,ha];simpa using h16))⟩)
    ·have hA:(c.kids.all fun x=>kV x q)=true:=by rw [aI (by omega)] at ha;exact ha
     have hF:kV c p=decide ((v:Int)≤5000):=by rw [yO,hq,hA,hv',hw'];rfl
     exact wv (h:=hQ _ _ (by simp [go_sem,hF]))
def D6 (t:Types)(p:Pattern)(c:Cond)(h:Host):Bool:=fewC c&&fewP p&&Cq h&&(decide (condF t p c≠0)||(light21 t p h&&k8 c&&decide ((h.graph.nodes.length:Int)≤6)&&decide ((h.graph.edges.length:Int)≤8)&&kV c p))
theorem Ln (t:Types)(ht:t.ok)(p:Pattern)(c:Cond)(hc:c.le)(h:Host):Pure Tryz.prog 61 [t.d,p.d,.agg c.c,h.d] (.bool (D6 t p c h)):=by
 refine Tz.pK ⟨fun _=>false,fun _=>[]⟩ Tryz.func61 rfl (fun Q hQ=>?_)
 have Y:=wa @Host.c.eq_1 (wa @Pattern.c.eq_1 @Cond.c_eq)
 refine wo (h:=aC ((by have hz:=H7 c hc;rwa [Cond.c_eq] at hz)) wl ?_)
 refine wo (h:=aN (fun hg=>tJ p) (fun hg=>wl) ?_)
 refine wo (h:=aN (fun hg=>H8 h) (fun hg=>wl) ?_)
 refine eJ (fun h1=>?_) fun h1=>?_
 ·have hF:(fewC c&&fewP p&&Cq h)=false:=by cases ha:fewC c<;>cases hb:fewP p<;>cases hd:Cq h<;>simp [ha,hb,hd] at h1<;>rfl
  exact wv (h:=hQ _ _ (by simp [go_sem,D6,hF]))
 ·have hF:fewC c=true∧fewP p=true∧Cq h=true:=by cases ha:fewC c<;>cases hb:fewP p<;>cases hd:Cq h<;>simp [ha,hb,hd] at h1<;>exact ⟨rfl,rfl,rfl⟩
  have hO:c.ok∧c.size≤1000000:=by
   have h6:=hF.1
   simp [fewC] at h6
   have h7:=Fw c 40 (by omega) h6
   exact ⟨h7.1,by omega⟩
  have hO2:p.graph.nodes.length≤1000000∧p.graph.edges.length≤1000000:=by
   have h6:=hF.2.1
   simp [fewP,fewG] at h6
   omega
  refine wo (h:=aC ((by have hz:=C4 t ht p c hO.1 hO.2;rwa [Cond.c_eq] at hz)) wl ?_)
  refine wo (h:=aN (fun hg=>Lq t ht p h) (fun hg=>wl) ?_)
  refine wo (h:=aN (fun hg=>(by have hz:=JF c hO.1;rwa [Cond.c_eq] at hz)) (fun hg=>wl) ?_)
  refine wo (h:=aN (fun hg=>(by have hz:=G4 c hO.1 (by simp at hg;simp_all) p hO2.1 hO2.2;rwa [Cond.c_eq] at hz)) (fun hg=>wl) ?_)
  exact wo (h:=hQ _ _ (by simp [go_sem,D6,hF.1,hF.2.1,hF.2.2]))
def light26 (t:Types)(r:Rule)(h:Host):Bool:=nZ t&&fewR r&&D6 t r.left r.cond h
theorem Ld (t:Types)(ht:t.ok)(r:Rule)(hr:r.le)(h:Host):Pure Tryz.prog 18 [t.d,.agg r.c,h.d] (.bool (light26 t r h)):=by
 refine Tz.pK ⟨fun _=>false,fun _=>[]⟩ Tryz.func18 rfl (fun Q hQ=>?_)
 have Y:=wa @Host.c.eq_1 (wa @Rule.c.eq_1 @Cond.c_eq)
 refine wo (h:=aC (B6 t (fun n hn=>cN (ht.nodes n hn).few (by omega))) wl ?_)
 refine wo (h:=aN (fun hg=>(by have hz:=H6 r hr;simpa [Rule.d,Rule.c,Cond.c_eq,go_sem] using hz)) (fun hg=>wl) ?_)
 refine wo (h:=aN (fun hg=>(by have hz:=Ln t ht r.left r.cond hr.cond h;rwa [Cond.c_eq] at hz)) (fun hg=>wl) ?_)
 have Y:=wa Y @light26.eq_1
 exact wo (h:=hQ _ _ wy)
theorem ED {S:List Nat}{H H':AHeap}(ha:fC S H' H){d:D}(hd:∀ x∈QK d,x∈S):tI H' d=tI H d:=by
 cases d<;>try rfl
 case own id n=>exact nT (d:=.own id n) ha hd
 case win id ver lo hi=>exact nT (d:=.win id ver lo hi) ha hd
 case ptr id ver i off =>
  have:=ha id (hd id (by simp [QK]))
  simp only [tI,eD,this]
theorem ND {S:List Nat}{H H':AHeap}(ha:fC S H' H){d:D}(hd:∀ x∈Md d,x∈S):sP H' d=sP H d:=by
 cases d<;>try rfl
 case own id n=>exact qG (d:=.own id n) ha hd
 case win id ver lo hi=>exact qG (d:=.win id ver lo hi) ha hd
 case agg l=>exact qG (d:=.agg l) ha hd
 case ptr id ver i off=>exact ED (d:=.ptr id ver i off) ha hd
 case fn g caps =>
  simp only [sP]
  congr 1
  exact bR fun x hx=>ED ha fun y hy=>hd y (by simp only [Md,bU];exact ⟨x,hx,hy⟩)
theorem Hl {P:Program}{md:Nat→Bool}{ops:Array Oper}{sp:List (Nat × Nat)}{n0 i:Nat}{rest:List Oper}{acc:List (Nat × List Nat)}{e:cY}{dst:Option Tmp}{K:cY→AHeap→Prop}{f:FuncId}{args args':List D}{H:AHeap}{r:D}{t:Bool}
  (hp:t=true→Pure P f args' r) (ha:args.map (sP H)=args') (hcl:t=true→D.clL args'=true) (hf:t=true→r.flat=true) {S:List Nat} (hS:args.flatMap Md=S) (hc:Ke sp i S acc)
  (h:iS P md ops sp n0 (i+1) rest ((i,S) :: acc) (oW e dst (.opt t r)) H K):pQ P md ops sp n0 i rest acc e dst K t f args H:=by
 subst ha hS
 unfold pQ
 refine ⟨r,_,fun ht H' hag=>?_,hc,h⟩
 have he:args.map (sP H')=args.map (sP H):=bR fun d hm=>ND hag fun x hx=>bU.2 ⟨d,hm,hx⟩
 exact BI (by rw [he];exact hp ht) (by rw [he];exact hcl ht) (hf ht) ⟨rfl,rfl⟩
theorem rD (a b:List Int):Part.le ⟨a,b⟩↔a.length≤1000000000000000∧b.length≤1000000000000000:=⟨fun h=>⟨h.1,h.2⟩,fun h=>⟨h.1,h.2⟩⟩
theorem Tr (t:Types)(p:Pattern)(h1:p.graph.nodes.length≤1000)(h2:p.graph.edges.length≤1000)(x:B4):(Co t p x).le:=by
 unfold Co
 split
 ·simp [forbC,trueC,Cond.le,Cond.les,i6,rD];omega
 ·split
  ·split
   ·simp [trueC,Cond.le,Cond.les,rD]
   ·simp [forbC,trueC,Cond.le,Cond.les,i6,rD];omega
  ·simp [trueC,Cond.le,Cond.les,rD]
theorem HT (t:Types)(d:Dr24):(BU t d).le:=by
 have hL4:=Iw t d.left
 have hKl:=Iv (iV t d.left).graph d.keep
 have hGl:=Bi (iV t d.left).graph (w6 (iV t d.left).graph d.keep)
 refine ⟨⟨?_,?_⟩,⟨?_,?_⟩,?_⟩
 ·show (w6 (iV t d.left).graph d.keep).nodes.length≤_;omega
 ·show (w6 (iV t d.left).graph d.keep).edges.length≤_;omega
 ·show (List.take _ _).length≤_;rw [aV];unfold QF Fy;omega
 ·show (List.take _ _).length≤_;rw [aV];unfold QF Fy;omega
 ·exact Tr t _ (by omega) (by omega) d.forbid
theorem Qw (t:Types)(d:Dr24):(w8 t d).le:=by
 unfold w8
 split
 ·have h:=HT t d
  exact ⟨h.1,h.2,by simp [AT,trueC,Cond.le,Cond.les,rD]⟩
 ·exact HT t d
structure DrT where
 nodes:List B2
 edges:List B2
 rules:List Dr24
 host:Dr15
def DrT.c (d:DrT):List D:=[.list (d.nodes.map cP),.list (d.edges.map cP),.list (d.rules.map Dr24.c),.list (d.host.nodes.map cP),.list (d.host.edges.map cT3)]
@[go_sem] theorem DrT.cl (d:DrT):D.clL d.c=true:=by simp [DrT.c,D.clL,D.cl,Sv,By,SO]
def DrT.small (d:DrT):Bool:=decide ((d.nodes.length:Int)≤5)&&decide ((d.edges.length:Int)≤4)&&decide ((d.rules.length:Int)≤3)&&decide ((d.host.nodes.length:Int)≤5)&&decide ((d.host.edges.length:Int)≤6)
def DrT.t (d:DrT):Types:=nL d.nodes d.edges
def DrT.l (d:DrT):List Rule:=Cd d.t d.rules
def DrT.h (d:DrT):Host:=z8 d.t d.host
def DrT.light (d:DrT):Bool:=qS d.t d.l&&!(d.l.any fun r=>!light26 d.t r d.h)
def DrT.v (d:DrT):D:=if d.small=true then .tup [d.t.d,.list (d.l.map Rule.c),d.h.d,.bool d.light] else .tup [.agg [.list [],.list []],.list [],.agg [.list [],.list [],.list []],.bool false]
theorem Uu (t:Types)(ht:t.ok)(h:Host)(r:Rule)(hr:r.le):Pure Tryz.prog 47 [.agg r.c,.adr t.c,.adr h.c] (.bool (!light26 t r h)):=by
 refine Tz.pK ⟨fun _=>false,fun _=>[]⟩ Tryz.func47 rfl (fun Q hQ=>?_)
 have Y:=wa @Host.c.eq_1 (wa @Rule.c.eq_1 @Cond.c_eq)
 refine wo (h:=aC ((by have hz:=Ld t ht r hr h;simpa [Rule.d,Rule.c,Cond.c_eq,go_sem] using hz)) wl ?_)
 exact wo (h:=hQ _ _ wy)
@[go_sem] theorem Ye (d:DrT):d.v.cl=true:=by
 unfold DrT.v;split<;>simp [go_sem,D.cl,D.clL]
theorem L7 (d:DrT):Pure Tryz.prog 11 [.agg d.c] d.v:=by
 have hT:d.t.fine:=N9 d.nodes d.edges
 have ht:=hT.ok
 have hle:∀ r∈d.l,r.le:=fun r hr=>by
  obtain ⟨x,_,rfl⟩:=aU.1 hr
  exact Qw _ _
 refine Tz.pK ⟨fun t=>t==2||t==4||t==6||t==8,fun r=>match r with|4=>[(0,8),(1,8),(2,8),(3,8),(4,8),(5,8),(6,8),(7,8)]|5=>[(2,12)]|_=>[]⟩ Tryz.func11 rfl (fun Q hQ=>?_)
 have Y:=wa @DrT.c.eq_1 @Dr15.c.eq_1
 refine pH (fun h1=>?_) fun h1=>?_
 ·have hF:d.small=false:=by
   rw [bO];intro h;simp [DrT.small] at h;omega
  exact wv (h:=hQ _ _ (by simp [go_sem,DrT.v,hF,qL,nH]))
 ·have hF:d.small=true:=by simp [DrT.small];omega
  refine wv (h:=aC ((show Pure Tryz.prog _ _ d.t.d from NX d.nodes d.edges)) wl ?_)
  refine wv (h:=aM ((show Pure Tryz.prog _ _ (.list (d.l.map Rule.c)) from NG d.t hT d.rules)) wl ?_)
  refine wv (h:=aM ((show Pure Tryz.prog _ _ d.h.d from NT d.t hT d.host)) wl ?_)
  refine wp (h:=aM (Lb d.t (fun n hn=>cN (ht.nodes n hn).few (by omega)) d.l hle) wl ?_)
  refine wp (h:=Hl (fun hg=>(Bp d.l 47 [.adr d.t.c,.adr d.h.c] (fun r=>!light26 d.t r d.h) (by simp [go_sem]) (by simp [go_sem]) (fun r hr=>Uu d.t ht d.h r (hle r hr)))) wr (fun hg=>wl) (fun hg=> rfl) rfl Zv ?_)
  exact wp (h:=hQ _ _ (by simp [go_sem,DrT.v,hF,DrT.light]))
/-! ### sums -/
def pI (n:Nat)(f:Nat→Int):Int:=((List.range n).map f).sum
theorem nR (n:Nat)(f:Nat→Int):pI (n+1) f=pI n f+f n:=by simp [pI,bL]
theorem qA {n:Nat}{f g:Nat→Int}(h:∀ i,i<n→f i=g i):pI n f=pI n g:=by
 unfold pI;congr 1;exact bR fun i hi=>h i (aZ.1 hi)
theorem KT (n:Nat)(f g:Nat→Int):pI n (fun i=>f i+g i)=pI n f+pI n g:=by
 induction n with
 | zero=>rfl
 | succ n ih=>rw [nR,nR,nR,ih];omega
theorem Ro (n:Nat)(f:Nat→Int)(a:Nat)(h:a<n):pI n (fun i=>if i=a then f i else 0)=f a:=by
 induction n with
 | zero=>omega
 | succ n ih =>
  rw [nR]
  by_cases ha:a=n
  ·subst ha
   rw [if_pos rfl]
   have:pI a (fun i=>if i=a then f i else 0)=pI a (fun _=>0):=qA fun i hi=>if_neg (by omega)
   have h0:∀ k,pI k (fun _=>(0:Int))=0:=fun k=>by
    induction k with
    | zero=>rfl
    | succ k ih=>rw [nR,ih];rfl
   rw [this,h0];omega
  ·rw [ih (by omega),if_neg (by omega)];omega
theorem Rn {n:Nat}{f:Nat→Int}:∀ {l:List Int},l.Nodup→(∀ x∈l,0≤x∧x<n)→pI n (fun i=>if mem l (i:Int)=true then f i else 0)=(l.map fun x=>f x.toNat).sum
 | [],_,_=>by
  have h0:∀ k,pI k (fun _=>(0:Int))=0:=fun k=>by
   induction k with
   | zero=>rfl
   | succ k ih=>rw [nR,ih];rfl
  have h1:pI n (fun i=>if mem ([]:List Int) (i:Int)=true then f i else 0)=pI n (fun _=>0):=qA fun i _=>by simp [A6]
  rw [h1,h0];rfl
 | a :: l,hn,hr=>by
  rw [eE] at hn
  have ha:=hr a (jE ..)
  rw [fA,zQ,← Rn hn.2 (fun x hx=>hr x (eH _ hx)),← Ro n f a.toNat (by omega),← KT]
  refine qA fun i hi=>?_
  by_cases h1:(i:Int)=a
  ·have h2:mem l (i:Int)=false:=bO.2 fun hm=>hn.1 (h1 ▸ (dM _ _).1 hm)
   have h3:mem (a :: l) (i:Int)=true:=(dM _ _).2 (by simp [h1])
   rw [h2,h3,if_pos rfl,if_pos (by omega),if_neg (by simp)];omega
  ·have h3:mem (a :: l) (i:Int)=mem l (i:Int):=by
    rw [aY,dM,dM,bB]
    exact ⟨fun h=>h.resolve_left h1,.inr⟩
   rw [h3,if_neg (show ¬ i=a.toNat by omega)];omega
theorem Np (n:Nat)(p:Nat→Bool)(f:Nat→Int):(((List.range n).filter p).map f).sum=pI n (fun i=>if p i=true then f i else 0):=by
 induction n with
 | zero=>rfl
 | succ n ih =>
  rw [bL,eY,List.map_append,List.sum_append,nR,ih]
  congr 1
  simp only [HC,List.filter_nil]
  split<;>simp
theorem No (l:List Int)(n:Nat)(f:Nat→Int):((cZ l n).map fun x=>f x.toNat).sum=pI n (fun i=>if mem l (i:Int)=true then 0 else f i):=by
 unfold cZ
 rw [iX]
 have:((fun x:Int=>f x.toNat) ∘ fun (b:Nat)=>(b:Int))=f:=by funext b;simp
 rw [this,Np]
 exact qA fun i _=>by cases mem l (i:Int)<;>simp
theorem HK {l:List Int}{n:Nat}{f:Nat→Int}(hn:l.Nodup)(hr:∀ x∈l,0≤x∧x<n):pI n f=((cZ l n).map fun x=>f x.toNat).sum+(l.map fun x=>f x.toNat).sum:=by
 rw [No,← Rn hn hr,← KT]
 exact qA fun i _=>by split<;>omega
theorem FM {im keep:List Int}(hd:v6 im keep=[]):(iR im keep).Nodup:=by
 unfold iR
 refine List.Pairwise.map _ ?_ (List.Pairwise.and_mem.1 (List.nodup_range.filter _))
 rintro i k ⟨hi,hk,hne⟩ he
 rw [cO,aZ,cV] at hi hk
 have:=Mq hd hi.1 hk.1 hne he
 rw [hi.2] at this;cases this.1
section
variable {t:Types} {r:Rule} {h:Host} {m:Mat}
theorem R5 {t:Types}(hv:t.valid){a b:Int}(hl:A9 t a=true)(hb:0≤b∧b<t.nodes.length)(hm:y0 t a b=true):b=a:=by
 refine bP fun hne=>?_
 unfold y0 at hm
 obtain ⟨n,hn,he⟩:=Ft hv a b.toNat (by omega) hm (by omega)
 unfold A9 at hl
 rw [cV,fU] at hl
 exact hl n hn (by simpa using he)
theorem QR (he:g8 t r=0):∀ i∈r.goneN,A9 t (gN r.left.graph i)=true:=fun i hi=>by
 unfold g8 at he
 split at he
 ·exact absurd he (by assumption)
 ·rename_i h1
  rw [fV] at h1
  split at he
  ·cases he
  ·rename_i h2
   rw [Bool.not_eq_true,fU] at h2
   have hb:=h2 i hi
   have I:=EB h1
   have hv:=(qF h1).1
   have hin:=I.nl _ (J6 (dQ hi).1 (dQ hi).2)
   unfold Hr at hb
   have:=Gl I.v (a:=gN r.left.graph i) hin.1 hin.2 (by simp [given2F,hv,insideF,hin])
   rw [this] at hb
   simpa using hb
theorem QQ (he:g8 t r=0):ruleF t r=0:=by
 unfold g8 at he
 split at he
 ·exact absurd he (by assumption)
 ·rename_i h1;simpa using h1
theorem IG (im keep:List Int)(n:Nat)(hl:im.length=n){β:Type}(f:Int→β):(iR im keep).map f=(cZ keep n).map fun i=>f (im[i.toNat]?.getD 0):=by
 subst hl
 unfold iR cZ
 rw [iX,iX]
 exact bR fun i _=>by simp
theorem StepIn.sumN (S:StepIn t r h m)(he:g8 t r=0)(w:Int→Int) :
  ((eB t r h m).graph.nodes.map w).sum=(h.graph.nodes.map w).sum - (r.goneN.map fun i=>w (gN r.left.graph i)).sum+(r.freshN.map fun i=>w (gN r.right.graph i)).sum:=by
 have hml:=S.hm.len
 have hr:∀ x∈iR m.m.nodes r.keep.nodes,0≤x∧x<h.graph.nodes.length:=fun x hx=>by
  obtain ⟨i,hi,_,e⟩:=yG.1 hx
  rw [aA hi] at e
  cases e
  exact (S.hm.img i hi (by omega)).1
 have h1:=HK (f:=fun i=>w (gN h.graph (i:Int))) (FM S.dup.1) hr
 have h2:(h.graph.nodes.map w).sum=pI h.graph.nodes.length (fun i=>w (gN h.graph (i:Int))):=by
  unfold pI
  congr 1
  apply kH (by simp)
  intro i a b
  simp [gN,aA (show i<h.graph.nodes.length by simpa using a)]
 have h3:((iR m.m.nodes r.keep.nodes).map fun x=>w (gN h.graph ((x.toNat:Nat):Int))).sum=(r.goneN.map fun i=>w (gN r.left.graph i)).sum:=by
  rw [IG _ _ _ hml]
  congr 1
  refine bR fun i hi=>?_
  have hir:=dQ hi
  have hmi:i.toNat<m.m.nodes.length:=by omega
  have hli:i.toNat<r.left.graph.nodes.length:=by omega
  obtain ⟨g1,g2⟩:=S.hm.img _ hmi hli
  have hlf:=QR he i hi
  have hk:(m.m.nodes[i.toNat]).toNat<h.graph.nodes.length:=by omega
  have e1:gN r.left.graph i=r.left.graph.nodes[i.toNat]:=by simp [gN,aA hli]
  have hb:=sA S.ho _ (aB hk)
  rw [aA hk,aD] at g2
  rw [e1] at hlf ⊢
  have:=R5 (fF S.hR.vf) hlf hb g2
  rw [aA hmi,aD,show (((m.m.nodes[i.toNat]).toNat:Nat):Int)=m.m.nodes[i.toNat] by omega]
  have e2:gN h.graph m.m.nodes[i.toNat]=h.graph.nodes[(m.m.nodes[i.toNat]).toNat]:=by simp [gN,aA hk]
  rw [e2,this]
 have h4:((dD r h m).nodes.map fun x=>w (gN h.graph x)).sum=((cZ (iR m.m.nodes r.keep.nodes) h.graph.nodes.length).map fun x=>w (gN h.graph ((x.toNat:Nat):Int))).sum:=by
  rw [S.rest]
  rfl
 rw [S.bareN,List.map_append,List.sum_append,iX,iX]
 show ((dD r h m).nodes.map fun x=>w (gN h.graph x)).sum+(r.freshN.map fun i=>w (gN r.right.graph i)).sum=_
 rw [h4,h2,h1,h3];omega
theorem StepIn.sumE (S:StepIn t r h m)(w:Int→Int) :
  ((eB t r h m).graph.edges.map fun x=>w x.type).sum=(h.graph.edges.map fun x=>w x.type).sum - (r.goneE.map fun i=>w (r.left.graph.edges[i.toNat]?.getD bS).type).sum+(r.freshE.map fun i=>w (r.right.graph.edges[i.toNat]?.getD bS).type).sum:=by
 have hml:=S.hm.elen
 have hr:∀ x∈iR m.m.edges r.keep.edges,0≤x∧x<h.graph.edges.length:=fun x hx=>by
  obtain ⟨i,hi,_,e⟩:=yG.1 hx
  rw [aA hi] at e
  cases e
  exact S.hm.eimg i hi
 have h1:=HK (f:=fun i=>w (h.graph.edges[i]?.getD bS).type) (FM S.dup.2) hr
 have h2:(h.graph.edges.map fun x=>w x.type).sum=pI h.graph.edges.length (fun i=>w (h.graph.edges[i]?.getD bS).type):=by
  unfold pI
  congr 1
  apply kH (by simp)
  intro i a b
  simp [aA (show i<h.graph.edges.length by simpa using a)]
 have h3:((iR m.m.edges r.keep.edges).map fun x=>w (h.graph.edges[x.toNat]?.getD bS).type).sum=(r.goneE.map fun i=>w (r.left.graph.edges[i.toNat]?.getD bS).type).sum:=by
  rw [IG _ _ _ hml]
  congr 1
  refine bR fun i hi=>?_
  have hir:=dQ hi
  have:=(Fi (D9 S.hc).1 (k:=i) hir.1 (by simpa [vL] using hir.2)).2.1
  unfold eA iA at this
  rw [show (vL r.left.graph h.graph m.m).edges=r.left.graph.edges from rfl] at this
  rw [this]
 have h4:((dD r h m).edges.map fun x=>w (h.graph.edges[x.toNat]?.getD bS).type).sum=((cZ (iR m.m.edges r.keep.edges) h.graph.edges.length).map fun x=>w (h.graph.edges[x.toNat]?.getD bS).type).sum:=by rw [S.rest]
 rw [S.bareE,List.map_append,List.sum_append,iX,iX]
 show ((dD r h m).edges.map fun x=>w (h.graph.edges[x.toNat]?.getD bS).type).sum+(r.freshE.map fun i=>w (r.right.graph.edges[i.toNat]?.getD bS).type).sum=_
 rw [h4,h2,h1,h3];omega
/-! ### the effect of a rule -/
theorem E7 (a:List Int){b:List Int}{k:Nat}(d:Int)(hk:k<b.length):∀ n,kQ a (b.set k (b[k]?.getD 0+d)) n=kQ a b n+if k<n then d * a[k]?.getD 0 else 0
 | 0=>by simp [kQ]
 | n+1=>by
  simp only [kQ,E7 a d hk n]
  by_cases h1:k=n
  ·subst h1
   rw [List.getElem?_set_self hk,aD,if_neg (by omega),if_pos (by omega),Int.mul_add,Int.mul_comm d];omega
  ·rw [pG h1]
   by_cases h2:k<n
   ·rw [if_pos h2,if_pos (by omega)];omega
   ·rw [if_neg h2,if_neg (by omega)];omega
theorem oN (a:List Int)(d:Int)(n:Nat):∀ (ks:List Nat) (l:List Int),l.length=n→(∀ k∈ks,k<n)→kQ a (fK l ks d) n=kQ a l n+d * (ks.map fun k=>a[k]?.getD 0).sum
 | [],l,_,_=>by simp [fK]
 | k :: ks,l,hl,hk=>by
  have h0:=hk k (jE ..)
  show kQ a (fK (l.set k (l[k]?.getD 0+d)) ks d) n=_
  rw [oN a d n ks _ (by rw [dX];exact hl) (fun x hx=>hk x (eH _ hx)),E7 a d (by omega),if_pos h0,fA,zQ,Int.mul_add];omega
theorem Dc (a:List Int)(k:Nat):∀ n,kQ a (List.replicate k 0) n=0
 | 0=>rfl
 | n+1=>by
  simp only [kQ,Dc a k n]
  rw [mF]
  split<;>simp
theorem Tw {ws:List Int}(hw:ws.length=t.nodes.length+t.edges.length)(he:g8 t r=0):gM ws (g7 t r) =
  -(r.goneN.map fun i=>wN ws (gN r.left.graph i)).sum - (r.goneE.map fun i=>wE ws t.nodes.length (r.left.graph.edges[i.toNat]?.getD bS)).sum+(r.freshN.map fun i=>wN ws (gN r.right.graph i)).sum+(r.freshE.map fun i=>wE ws t.nodes.length (r.right.graph.edges[i.toNat]?.getD bS)).sum:=by
 have I:=EB (QQ he)
 have V:=Ri t r
 have hz:(nJ t).length=t.nodes.length+t.edges.length:=by simp [nJ]
 have nN:∀ (g:Graph) (l:List Int),(∀ a∈g.nodes,0≤a∧a<t.nodes.length)→(∀ x∈l,0≤x∧x<g.nodes.length)→(∀ k∈l.map (fun i=>(gN g i).toNat),k<t.nodes.length+t.edges.length):=fun g l hg hl k hk=>by
  rw [aU] at hk;obtain ⟨i,hi,rfl⟩:=hk
  have:=hg _ (J6 (hl i hi).1 (hl i hi).2);omega
 have nE:∀ (g:Graph) (l:List Int),(∀ x∈g.edges,0≤x.type∧x.type<t.edges.length)→(∀ x∈l,0≤x∧x<g.edges.length)→(∀ k∈l.map (fun i=>t.nodes.length+(g.edges[i.toNat]?.getD bS).type.toNat),k<t.nodes.length+t.edges.length):=fun g l hg hl k hk=>by
  rw [aU] at hk;obtain ⟨i,hi,rfl⟩:=hk
  have hx:=hl i hi
  have:=hg _ (aB (show i.toNat<g.edges.length by omega))
  rw [aA (show i.toNat<g.edges.length by omega),aD];omega
 have sE:∀ (g:Graph) (l:List Int),(∀ x∈g.edges,0≤x.type∧x.type<t.edges.length)→(∀ x∈l,0≤x∧x<g.edges.length)→((l.map (fun i=>t.nodes.length+(g.edges[i.toNat]?.getD bS).type.toNat)).map fun k=>ws[k]?.getD 0)=l.map fun i=>wE ws t.nodes.length (g.edges[i.toNat]?.getD bS):=fun g l hg hl=>by
  rw [iX]
  refine bR fun i hi=>?_
  have hx:=hl i hi
  have:=hg _ (aB (show i.toNat<g.edges.length by omega))
  simp only [Function.comp,wE,aA (show i.toNat<g.edges.length by omega),aD]
  rw [show ((t.nodes.length:Int)+(g.edges[i.toNat]).type).toNat=t.nodes.length+(g.edges[i.toNat]).type.toNat by omega]
 have sN:∀ (g:Graph) (l:List Int),((l.map (fun i=>(gN g i).toNat)).map fun k=>ws[k]?.getD 0)=l.map fun i=>wN ws (gN g i):=fun g l=>by rw [iX];rfl
 have oL:∀ {l:List Int} {n:Nat},∀ x∈cZ l n,0≤x∧x<n:=fun x hx=>dQ hx
 unfold g7 gM
 rw [if_pos he,hw]
 unfold KD
 rw [oN ws 1 _ (r.kFE t.nodes.length) (yR t r) V.l3 (nE _ r.freshE I.er fun x hx=>oL x hx)]
 unfold yR
 rw [oN ws 1 _ r.kFN (yS t r) V.l2 (nN _ r.freshN I.nr fun x hx=>oL x hx)]
 unfold yS
 rw [oN ws (-1) _ (r.kGE t.nodes.length) (wH t r) V.l1 (nE _ r.goneE I.el fun x hx=>oL x hx)]
 unfold wH
 rw [oN ws (-1) _ r.kGN (nJ t) hz (nN _ r.goneN I.nl fun x hx=>oL x hx)]
 unfold nJ Rule.kGN Rule.kGE Rule.kFN Rule.kFE
 rw [Dc,sN,sN,sE _ r.goneE I.el (fun x hx=>oL x hx),sE _ r.freshE I.er (fun x hx=>oL x hx)]
 omega
theorem StepIn.weigh (S:StepIn t r h m){ws:List Int}(hw:ws.length=t.nodes.length+t.edges.length)(he:g8 t r=0):wG t ws (eB t r h m).graph=wG t ws h.graph+gM ws (g7 t r):=by
 have h1:=S.sumN he (wN ws)
 have h2:=S.sumE (fun k=>ws[((t.nodes.length:Int)+k).toNat]?.getD 0)
 rw [Tw hw he]
 unfold wG
 have e:∀ l:List Edge,(l.map (wE ws t.nodes.length))=l.map fun x=>ws[((t.nodes.length:Int)+x.type).toNat]?.getD 0:=fun l=>rfl
 rw [e,e,h1,h2]
 have e2:∀ (l:List Int) (g:Graph),(l.map fun i=>wE ws t.nodes.length (g.edges[i.toNat]?.getD bS))=l.map fun i=>ws[((t.nodes.length:Int)+(g.edges[i.toNat]?.getD bS).type).toNat]?.getD 0:=fun l g=>rfl
 rw [e2,e2]
 omega
end
/-! ### stages -/
theorem Gg {ls:List (List Int)}{n:Nat}{i:Nat}(hi:i<ls.length):∀ (st:List Stage) (m:List Bool),m.length=ls.length→v8 ls n st m=true→m[i]?=some true →
  ∃ j,∃ hj:j<st.length,(∀ k (hk:k<j),gM (st[k]'(by omega)).weights (ls[i]?.getD [])=0)∧gM st[j].weights (ls[i]?.getD [])<0
 | [],m,hl,hc,hm=>by
  simp only [v8,decide_eq_true_eq] at hc
  have:=BW.2 hm
  rw [Ao.2 hc] at this;cases this
 | s :: st,m,hl,hc,hm=>by
  simp only [v8,aL] at hc
  by_cases hp:gM s.weights (ls[i]?.getD [])<0
  ·exact ⟨0,by simp,fun k hk=>by omega,hp⟩
  ·have hok:Qn ls m s.weights=true:=by
    have:=hc.1;unfold kO at this
    simp only [aL] at this;exact this.2
   have h0:gM s.weights (ls[i]?.getD [])=0:=by
    unfold Qn at hok
    rw [cV,fU] at hok
    have:=hok i (aZ.2 hi)
    unfold FL at this
    rw [hm] at this
    simp at this
    omega
   have hnr:∀ x∈s.removed,x.toNat≠i:=fun x hx e=>by
    have hr:=hc.1
    unfold kO at hr
    simp only [aL,cQ] at hr
    obtain ⟨p,hp2,rfl⟩:=aT hx
    have:=hr.1.2 p (aZ.2 hp2)
    unfold BY at this
    rw [aA hp2,aD,aL,aL] at this
    have hlow:=this.1.2
    unfold sW at hlow
    rw [aL,decide_eq_true_eq,e] at hlow
    exact hp hlow.2
   have hm2:(mU m s.removed)[i]?=some true:=by
    have hg:=Fa s.removed m i
    have hlen:=qK s.removed m
    have hil:i<(mU m s.removed).length:=by rw [hlen,hl];exact hi
    rw [aA hil] at hg ⊢
    rw [hm] at hg
    have:(s.removed.any fun r=>decide (r.toNat=i))=false:=by
     rw [fU];exact fun x hx=>by simpa using hnr x hx
    rw [this] at hg
    simpa using hg
   obtain ⟨j,hj,a1,a2⟩:=Gg hi st _ (by rw [qK];exact hl) hc.2 hm2
   refine ⟨j+1,by simp;omega,fun k hk=>?_,by simpa using a2⟩
   match k with
   | 0=>exact h0
   | k+1=>exact a1 k (by omega)
theorem vB {ls:List (List Int)}{n:Nat}:∀ (st:List Stage) (m:List Bool),v8 ls n st m=true→∀ s∈st,s.weights.length=n∧∀ x∈s.weights,0≤x∧x≤1000
 | [],_,_,s,hs=>by cases hs
 | s :: st,m,hc,x,hx=>by
  simp only [v8,aL] at hc
  rcases bB.1 hx with rfl|hx
  ·have:=HV hc.1;exact ⟨this.1,this.2.2.1⟩
  ·exact vB st _ hc.2 x hx
theorem Eu {ls:List (List Int)}{n:Nat}:∀ (k:Nat) (m:List Bool),(iJ ls n k m).1.length≤k
 | 0,m=>by simp [iJ]
 | k+1,m=>by
  by_cases h:pR m=0∨(j5 ls n m).removed=[]
  ·rw [mP h];simp
  ·rw [not_or] at h
   rw [uN h.1 h.2]
   have:=Eu (ls:=ls) (n:=n) k (mU m (j5 ls n m).removed)
   simp;omega
theorem JL {t:Types}{rs:List Rule}(hE:fT t rs=0)(hc:xO t rs (wA t rs)=true){g:Graph}(hg:dC t g=0):kD t (wA t rs) g=0∧lP t (wA t rs) g=(wA t rs).map fun s=>wG t s.weights g:=by
 obtain ⟨_,h6,_,_,_⟩:=j4 hE
 have hw:∀ s∈wA t rs,jF t s.weights g=0:=fun s hs=>by
  unfold xO at hc
  rw [aL] at hc
  obtain ⟨a1,a2⟩:=vB _ _ hc.2 s hs
  unfold jF
  rw [if_neg (by rw [hg];simp),if_neg (by omega),if_neg]
  have:natB s.weights (t.nodes.length+t.edges.length)=true:=by
   unfold natB
   rw [PH a2];simp [a1]
  rw [this];simp
 have hl:(wA t rs).length≤6:=by
  unfold wA Nq;split
  ·exact cN (Eu _ _) h6
  ·simp
 have hR:kD t (wA t rs) g=0:=by
  unfold kD
  rw [if_neg (by rw [hg];simp),if_neg (by omega)]
  exact w9 fun s hs=>hw s hs
 refine ⟨hR,?_⟩
 unfold lP
 rw [if_pos hR]
 exact bR fun s hs=>by unfold mL;rw [if_pos (hw s hs)]
def Ap:List Int→List Int→Int
 | [],[]=>0
 | [],_ :: _=>-1
 | _ :: _,[]=>1
 | a :: l,b :: k=>if a<b then -1 else if b<a then 1 else Ap l k
theorem IT : ∀ (a b : List Int), a.length = b.length → ∀ j, j < a.length → (∀ k, k < j → a[k]?.getD 0 = b[k]?.getD 0) → a[j]?.getD 0 < b[j]?.getD 0 → Ap a b = -1
  | [], _, _, j, hj, _, _ => by cases hj
  | _ :: _, [], h, _, _, _, _ => by cases h
  | a :: l, b :: k, h, j, hj, h1, h2 => by
    simp only [Ap]
    match j with
    | 0 =>
      simp at h2
      rw [if_pos h2]
    | j + 1 =>
      have h0 := h1 0 (by omega)
      simp at h0
      rw [if_neg (by omega), if_neg (by omega)]
      exact IT l k (by simpa using h) j (by simpa using hj) (fun q hq => by simpa using h1 (q + 1) (by omega)) (by simpa using h2)
theorem IQ {t:Types}{rs:List Rule}{h:Host}(hrs:∀ r∈rs,r.ok)(hF:zI t rs=0){r:Rule}(hr:r∈rs){most:Nat}{s:Stp26}(hs:s∈BQ t r h most) :
  kD t (wA t rs) s.after.graph=0∧(lP t (wA t rs) s.after.graph).length=(lP t (wA t rs) h.graph).length∧Ap (lP t (wA t rs) s.after.graph) (lP t (wA t rs) h.graph)<0:=by
 have hE:fT t rs=0∧DK t rs=[]:=by
  unfold zI at hF
  split at hF
  ·cases hF
  ·rename_i h1
   exact ⟨hF,bP fun hn=>h1 ⟨hF,hn⟩⟩
 have hc:=MG hE.1 hE.2
 obtain ⟨hv,h6,_,hef,_⟩:=j4 hE.1
 have he:=hef r hr
 unfold BQ at hs
 rw [aU] at hs
 obtain ⟨m,hm,rfl⟩:=hs
 have hm':=cE hm
 unfold CJ at hm'
 split at hm'
 ·cases hm'
 ·rename_i hg
  rw [fV] at hg
  split at hm'
  ·cases hm'
  ·rw [cO,decide_eq_true_eq] at hm'
   have hst:=hm'.2
   have hA:xT t r h m=0:=by unfold xT;rw [if_neg (by omega)];exact hst
   obtain ⟨hR,ho⟩:=FO (hrs r hr) hg
   unfold tF at hst
   split at hst
   ·exact absurd hst (by assumption)
   ·rename_i h1
    split at hst
    ·exact absurd hst (by assumption)
    ·rename_i h2
     split at hst
     ·cases hst
     ·rename_i h3
      rw [fV] at h1 h2
      have S:=Rr hR ho (Id h1)
      have haf:=Ck (S.after h2 (by omega) (by omega))
      have hstp:(l6 t r h m).after=Gx t r h m:=by unfold l6;rw [if_pos hA];rfl
      rw [hstp]
      have hg1:=Au haf
      have hg2:=Au ho
      obtain ⟨a1,a2⟩:=JL hE.1 hc hg1
      obtain ⟨b1,b2⟩:=JL hE.1 hc hg2
      refine ⟨a1,by rw [a2,b2];simp,?_⟩
      rw [a2,b2]
      obtain ⟨i,hi,hie⟩:=aT hr
      unfold xO at hc
      rw [aL] at hc
      have hlv:gC t rs=rs.map (g7 t):=by unfold gC;rw [if_pos hE.1]
      have hil:i<(gC t rs).length:=by rw [hlv];simpa using hi
      have hei:(gC t rs)[i]?.getD []=g7 t r:=by rw [hlv,aR,aA hi,hie];rfl
      obtain ⟨j,hj,c1,c2⟩:=Gg hil (wA t rs) _ (by rw [hlv];simp) hc.2 (by simp [hi])
      have hwt:=vB _ _ hc.2
      have key:∀ q (hq:q<(wA t rs).length),wG t ((wA t rs)[q]).weights (Gx t r h m).graph=wG t ((wA t rs)[q]).weights h.graph+gM ((wA t rs)[q]).weights (g7 t r):=fun q hq =>
       S.weigh (hwt _ (aB hq)).1 he
      rw [IT _ _ (by simp) j (by simpa using hj) (fun k hk=>?_) ?_]
      ·decide
      ·rw [hei] at c2
       rw [aR,aR,aA hj]
       simp only [fD,aD]
       rw [key j hj];omega
      ·have hkl:k<(wA t rs).length:=by omega
       have:=c1 k hk
       rw [hei] at this
       rw [aR,aR,aA hkl]
       simp only [fD,aD]
       rw [key k hkl,this];omega
def cmp1 (a b:Int):Int:=if a<b then -1 else if b<a then 1 else 0
theorem ME (a b:Int):Pure Tryz.prog 56 [dI a,dI b] (dI (cmp1 a b)):=by
 refine Tz.pK ⟨fun _=>false,fun _=>[]⟩ Tryz.func56 rfl (fun Q hQ=>?_)
 have Y:=trivial
 refine wv (h:=aC (yL a) wl ?_)
 refine wv (h:=aC (yL b) wl ?_)
 refine d7 (fun h9=>?_) fun h9=>?_
 ·have Y:=wa Y (wa h9 @cmp1.eq_1)
  exact wv (h:=hQ _ _ wy)
 ·refine d7 (fun h11=>?_) fun h11=>?_
  ·have Y:=wa Y (wa h9 (wa h11 @cmp1.eq_1))
   exact wv (h:=hQ _ _ wy)
  ·have Y:=wa Y (wa h9 (wa h11 @cmp1.eq_1))
   exact wv (h:=hQ _ _ wy)
theorem QX {a b:List Int}{i:Nat}(h1:i<a.length)(h2:i<b.length):Ap (a.drop i) (b.drop i)=if cmp1 a[i] b[i]≠0 then cmp1 a[i] b[i] else Ap (a.drop (i+1)) (b.drop (i+1)):=by
 rw [cX h1,cX h2]
 simp only [Ap,cmp1]
 split
 ·simp
 ·split
  ·simp
  ·simp
theorem Mw (a b:List Int):Pure Tryz.prog 16 [dLI a,dLI b] (dI (Ap a b)):=by
 refine Tz.pK ⟨fun _=>false,fun _=>[]⟩ Tryz.func16 rfl (fun Q hQ=>?_)
 have Y:=trivial
 refine wp (h:=bG (fun i e H=>(e 1=dLI b∧e 0=dLI a∧e 9=dLI a∧e 10=dI a.length∧e 11=dI i)∧(i≤a.length∧i≤b.length)∧(Ap (a.drop i) (b.drop i)=Ap a b)) (fun i=>a.length - i) 0 ⟨wg,wi,(by rfl)⟩ fun I0 hI0 i e H hi0=>?_)
 obtain ⟨E0,hi,hc⟩:=hi0
 have Y:=wa Y E0
 refine d7 (fun h2=>?_) fun h2=>?_
 ·have Y:=wa Y (wa h2 (aA h2))
  refine wv (h:=?_)
  repeat first|intro _|refine ⟨eI,?_⟩
  refine wq (fun h4=>?_) fun h4=>?_
  ·have hR:Ap a b=1:=by
    rw [← hc,cX h2,iE (show b.length≤i by omega)];rfl
   exact wv (h:=hQ _ _ (by simp [go_sem,hR]))
  ·have hib:i<b.length:=by omega
   have hcd:=QX h2 hib
   rw [hc] at hcd
   have Y:=wa Y (aA hib)
   refine wp (h:=aC (ME a[i] b[i]) wl ?_)
   refine wv (h:=?_)
   repeat first|intro _|refine ⟨eI,?_⟩
   refine wq (fun h8=>?_) fun h8=>?_
   ·rw [if_pos (by simpa using h8)] at hcd
    exact wv (h:=hQ _ _ (by simp [go_sem,hcd]))
   ·rw [if_neg (by simpa using h8)] at hcd
    have hst:=hcd.symm
    exact wp (h:=wx hI0 (i+1) ⟨wg,wj,(by (exact hst))⟩)
 ·have hai:i=a.length:=by omega
  refine wv (h:=?_)
  repeat first|intro _|refine ⟨eI,?_⟩
  refine wq (fun h11=>?_) fun h11=>?_
  ·have hR:Ap a b = -1:=by
    rw [← hc,iE (show a.length≤i by omega),cX (show i<b.length by omega)];rfl
   exact wv (h:=hQ _ _ (by simp [go_sem,hR]))
  ·have hR:Ap a b=0:=by
    rw [← hc,iE (show a.length≤i by omega),iE (show b.length≤i by omega)];rfl
   exact wv (h:=hQ _ _ (by simp [go_sem,hR]))
theorem Bb (d:DrT)(t:Types)(rs:List Rule)(h:Host)(S:List Stage)(E:Int)(b:Bool)(hrs:rs.length≤100000)(B:List Int)(T:Rule→List Stp26)(A:Stp26→List Int)
  (cP:Pure Tryz.prog 11 [.agg d.c] (.tup [t.d,.list (rs.map Rule.c),h.d,.bool b]))
  (cF:b=true→Pure Tryz.prog 13 [t.d,.list (rs.map Rule.c)] (.tup [.list (S.map Stage.c),dI E]))
  (cR:b=true→E=0→Pure Tryz.prog 14 [t.d,.list (S.map Stage.c),h.graph.d] (.tup [dLI B,dI 0]))
  (cS:b=true→∀ r∈rs,Pure Tryz.prog 15 [t.d,.agg r.c,h.d,dI 5] (.list ((T r).map Stp26.c)))
  (cA:b=true→E=0→∀ r∈rs,∀ s∈T r,Pure Tryz.prog 14 [t.d,.list (S.map Stage.c),s.after.graph.d] (.tup [dLI (A s),dI 0]))
  (hA:b=true→E=0→∀ r∈rs,∀ s∈T r,(A s).length=B.length∧Ap (A s) B<0):Pure Tryz.prog 3 [.agg d.c] (.bool true):=by
 refine Tz.pK ⟨fun t=>t==3||t==5||t==12||t==14,fun _=>[]⟩ Tryz.func3 rfl (fun Q hQ=>?_)
 have Y:=wa @Uj (wa @DrT.c.eq_1 (wa @Host.d.eq_1 (wa @Host.c.eq_1 (wa @Graph.d.eq_1 @Graph.c.eq_1))))
 refine wv (h:=aC ((by have hz:=cP;simp only [DrT.c] at hz;exact hz)) wl ?_)
 refine wv (h:=?_)
 repeat first|intro _|refine ⟨eI,?_⟩
 refine aC (Dj) wl ?_
 refine wv (h:=?_)
 repeat first|intro _|refine ⟨eI,?_⟩
 refine wq (fun h2=>?_) fun h2=>?_
 ·refine wv (h:=aC (Dj) wl ?_)
  have Y:=wa Y h2
  exact wv (h:=hQ _ _ wy)
 ·have hb:b=true:=by cases hbb:b<;>simp [hbb] at h2 ⊢
  refine wv (h:=aC (cF hb) wl ?_)
  refine d7 (fun h5=>?_) fun h5=>?_
  ·have Y:=wa Y (wa h2 h5)
   exact wv (h:=hQ _ _ wy)
  ·have hE:E=0:=by simpa using h5
   refine wv (h:=aC (cR hb hE) wl ?_)
   refine wv (h:=?_)
   repeat first|intro _|refine ⟨eI,?_⟩
   refine bG (fun i e H=>(e 1=.adr d.c∧e 3=.ptr 0 1 0 0∧e 5=.ptr 1 1 0 0∧e 7=.list (S.map Stage.c)∧e 9=dLI B∧e 49=.list (rs.map Rule.c)∧e 50=dI rs.length∧e 51=dI i)∧(H.get 0=some ⟨32,2,[t.c],false⟩)∧(0<H.next)∧(H.get 1=some ⟨40,3,[h.c],false⟩)∧(1<H.next)∧(i≤rs.length)) (fun i=>rs.length - i) 0 ⟨wg,wn,wn,wn,wn,wi⟩ fun I0 hI0 i e H hi0=>?_
   obtain ⟨E0,g0_0,n0_0,g1_0,n1_0,hi⟩:=hi0
   have Y:=wa Y (wa E0 (wa g0_0 (wa (cG n0_0) (wa g1_0 (cG n1_0)))))
   refine d7 (fun h11=>?_) fun h11=>?_
   ·have Y:=wa Y (wa h11 (wa (aA h11) @Rule.c.eq_1))
    refine wv (h:=?_)
    repeat first|intro _|refine ⟨eI,?_⟩
    refine aC (cS hb rs[i] (aB h11)) wl ?_
    refine wv (h:=?_)
    repeat first|intro _|refine ⟨eI,?_⟩
    refine bG (fun k e H=>(e 1=.adr d.c∧e 3=.ptr 0 1 0 0∧e 5=.ptr 1 1 0 0∧e 7=.list (S.map Stage.c)∧e 9=dLI B∧e 49=.list (rs.map Rule.c)∧e 50=dI rs.length∧e 51=dI i∧e 58=.list ((T rs[i]).map Stp26.c)∧e 59=dI (T rs[i]).length∧e 60=dI k)∧(H.get 0=some ⟨32,2,[t.c],false⟩)∧(0<H.next)∧(H.get 1=some ⟨40,3,[h.c],false⟩)∧(1<H.next)∧(k≤(T rs[i]).length)) (fun k=>(T rs[i]).length - k) 0 ⟨wg,wn,wn,wn,wn,wi⟩ fun I2 hI2 k e H hi2=>?_
    obtain ⟨E2,g0_2,n0_2,g1_2,n1_2,hk⟩:=hi2
    have Y:=wa Y (wa E2 (wa g0_2 (wa (cG n0_2) (wa g1_2 (cG n1_2)))))
    refine d7 (fun h14=>?_) fun h14=>?_
    ·obtain ⟨hal,hac⟩:=hA hb hE rs[i] (aB h11) (T rs[i])[k] (aB h14)
     have hnc:¬ 0≤Ap (A (T rs[i])[k]) B:=by omega
     have Y:=wa Y (wa h14 (wa (aA h14) (wa @Stp26.c.eq_1 (wa @Mat.c.eq_1 (wa hal hnc)))))
     refine wv (h:=?_)
     repeat first|intro _|refine ⟨eI,?_⟩
     refine aC (cA hb hE rs[i] (aB h11) (T rs[i])[k] (aB h14)) wl ?_
     refine wv (h:=?_)
     repeat first|intro _|refine ⟨eI,?_⟩
     refine aN (fun hg=>(by have hz:=Mw (A (T rs[i])[k]) B;unfold dLI dI at hz;exact hz)) (fun hg=>wl) ?_
     refine wv (h:=?_)
     repeat first|intro _|refine ⟨eI,?_⟩
     exact wx hI2 (k+1) ⟨wg,wn,wn,wn,wn,wj⟩
    ·refine wv (h:=?_)
     repeat first|intro _|refine ⟨eI,?_⟩
     exact wx hI0 (i+1) ⟨wg,wn,wn,wn,wn,wj⟩
   ·have Y:=wa Y (wa h2 (wa h5 h11))
    exact wv (h:=hQ _ _ wy)
theorem QE {t:Types}(h:0<(lQ t).length)(x:B2):0≤xA t x∧xA t x<t.nodes.length:=QT (B7 h _)
theorem JS {t : Types} (hv : (cW t).2 = 0) (d : Dr15) : dC t (z8 t d).graph = 0 := by
  have hT := fF hv
  have hf := hT.fewN
  have hf2 := hT.fewE
  obtain ⟨k, hk⟩ : ∃ k, k = if (lQ t).length = 0 then 0 else min d.nodes.length 8 := ⟨_, rfl⟩
  obtain ⟨ns, hns⟩ : ∃ ns, ns = A2 t d.nodes k := ⟨_, rfl⟩
  have hnl : ns.length = k := by rw [hns, Fe]
  have hk8 : k ≤ 8 := by rw [hk]; split <;> omega
  have hn : ∀ a ∈ ns, 0 ≤ a ∧ a < t.nodes.length := fun a ha => by
    rw [hns] at ha
    unfold A2 at ha
    rw [aU] at ha
    obtain ⟨i, hi, rfl⟩ := ha
    rw [aZ] at hi
    refine QE ?_ _
    refine Nat.pos_of_ne_zero fun h0 => ?_
    rw [hk, if_pos h0] at hi; omega
  obtain ⟨q, hq⟩ : ∃ q, q = if ns.length = 0 ∨ t.edges.length = 0 then 0 else min d.edges.length 10 := ⟨_, rfl⟩
  have hq10 : q ≤ 10 := by rw [hq]; split <;> omega
  have hG : (z8 t d).graph = ⟨ns, Hi t ns [] d.edges q⟩ := by unfold z8; rw [hq, hns, hk]
  rw [hG]
  have hmem : ∀ x ∈ Hi t ns [] d.edges q, ((0 ≤ x.type ∧ x.type < t.edges.length) ∧ (0 ≤ x.from_ ∧ x.from_ < ns.length) ∧ (0 ≤ x.to_ ∧ x.to_ < ns.length)) ∧ l9 t x.type (nN ns x.from_) (nN ns x.to_) = true := fun x hx => by
    unfold Hi at hx
    rw [oF, bU] at hx
    obtain ⟨i, hi, hx⟩ := hx
    rw [aZ] at hi
    have hne : ¬ (ns.length = 0 ∨ t.edges.length = 0) := fun h0 => by rw [hq, if_pos h0] at hi; omega
    obtain ⟨y, hy⟩ : ∃ y, y = d.edges[i]?.getD (0, 0, 0) := ⟨_, rfl⟩
    rw [← hy] at hx
    unfold tY at hx
    split at hx
    · rename_i hfit
      rw [cH] at hx
      subst hx
      refine ⟨⟨?_, ?_, ?_⟩, hfit⟩
      · exact dJ (show (0 : Int) ≤ (y.1.toNat : Int) by omega) (show (0 : Int) < (t.edges.length : Int) by omega)
      · exact dJ (show (0 : Int) ≤ (y.2.1.toNat : Int) by omega) (show (0 : Int) < (ns.length : Int) by omega)
      · exact dJ (show (0 : Int) ≤ (y.2.2.toNat : Int) by omega) (show (0 : Int) < (ns.length : Int) by omega)
    · cases hx
  have hlen : ∀ q, (Hi t ns [] d.edges q).length ≤ q := fun q => by
    induction q with
    | zero => simp [Hi]
    | succ q ih =>
      have : Hi t ns [] d.edges (q + 1) = Hi t ns [] d.edges q ++ tY t ns (d.edges[q]?.getD (0, 0, 0)) := by simp [Hi, bL]
      rw [this, aG]
      have h1 : (tY t ns (d.edges[q]?.getD (0, 0, 0))).length ≤ 1 := by unfold tY; split <;> simp
      omega
  have hg : graphF ⟨ns, Hi t ns [] d.edges q⟩ = 0 := IF (by simp only; omega) (by have := hlen q; simp only; omega) (fun a ha => by have := hn a ha; omega) fun x hx => by
    obtain ⟨⟨a1, a2, a3⟩, _⟩ := hmem x hx
    exact ⟨by omega, a2, a3⟩
  unfold dC
  rw [if_neg (by rw [hv]; simp), if_neg (by rw [hg]; simp), if_neg]
  · refine w9 fun x hx => ?_
    obtain ⟨⟨a1, _, _⟩, a2⟩ := hmem x hx
    unfold iH
    rw [if_neg (by omega)]; exact if_pos a2
  · rw [List.any_eq_true]
    rintro ⟨a, ha, hd⟩
    rw [decide_eq_true_eq] at hd
    have := hn a ha
    omega
theorem Dp {t:Types}{rs:List Rule}(h:zI t rs=0):(cW t).2=0∧fT t rs=0∧DK t rs=[]:=by
 unfold zI at h
 split at h
 ·cases h
 ·rename_i h1
  exact ⟨(j4 h).1,h,bP fun hn=>h1 ⟨h,hn⟩⟩
theorem yW (d:DrT):Pure Tryz.prog 3 [.agg d.c] (.bool true):=by
 have hP:=L7 d
 unfold DrT.v at hP
 by_cases hs:d.small=true
 ·rw [if_pos hs] at hP
  have hll:d.l.length≤6:=by show (Cd _ _).length≤6;unfold Cd;rw [bE,aV];omega
  have hh:d.light=true→d.t.ok∧∀ r∈d.l,r.ok:=fun hL=>by
   have hL':qS d.t d.l=true:=by unfold DrT.light at hL;simp only [aL] at hL;exact hL.1
   exact ⟨J7 (Iz hL').1,(FT (Iz hL').2).2⟩
  have hrk:zI d.t d.l=0→∀ {g:Graph},dC d.t g=0→kD d.t (wA d.t d.l) g=0:=fun hF g hg=>by
   obtain ⟨_,a1,a2⟩:=Dp hF
   exact (JL a1 (MG a1 a2) hg).1
  exact Bb d d.t d.l d.h (wA d.t d.l) (zI d.t d.l) d.light (by omega) (lP d.t (wA d.t d.l) d.h.graph) (fun r=>BQ d.t r d.h 5) (fun s=>lP d.t (wA d.t d.l) s.after.graph) hP
   (fun h=>zM d.t (hh h).1 d.l (hh h).2)
   (fun h hF=>by have hz:=zL d.t (hh h).1 (wA d.t d.l) d.h.graph;rw [hrk hF (g:=d.h.graph) (JS (Dp hF).1 d.host)] at hz;exact hz)
   (fun h r hr=>Lc d.t (hh h).1 r ((hh h).2 r hr) d.h 5)
   (fun h hF r hr s hs=>by have hz:=zL d.t (hh h).1 (wA d.t d.l) s.after.graph;rw [(IQ (hh h).2 hF hr hs).1] at hz;exact hz)
   (fun h hF r hr s hs=>(IQ (hh h).2 hF hr hs).2)
 ·rw [if_neg hs] at hP
  exact Bb d ⟨[],[]⟩ [] ⟨⟨[],[]⟩,[]⟩ [] 0 false (by simp) [] (fun _=>[]) (fun _=>[]) hP (fun h=>by cases h) (fun h=>by cases h) (fun h=>by cases h) (fun h=>by cases h) (fun h=>by cases h)
end Go.Abs
end
