/- Layer 39: effects of rules, continued. · Layer 39, the refer -/
import Derived.Test.YtjfaalokjnmdoaaGreatZaAF
import Derived.Test.YtjfaalokjnmdoaaGreatZaAA
import Derived.Test.YtjfaalokjnmdoaaGreatZaAK
set_option linter.unusedVariables false
set_option linter.unusedSimpArgs false
section
set_option maxRecDepth 100000
set_option maxHeartbeats 4000000
open Go Go.Proofs
namespace Go.Abs
structure RuleIn (t:Types) (r:Rule):Prop where
 v:t.valid
 gl:graphF r.left.graph=0
 gr:graphF r.right.graph=0
 nl:∀ a∈r.left.graph.nodes,0≤a∧a<t.nodes.length
 nr:∀ a∈r.right.graph.nodes,0≤a∧a<t.nodes.length
 el:∀ x∈r.left.graph.edges,0≤x.type∧x.type<t.edges.length
 er:∀ x∈r.right.graph.edges,0≤x.type∧x.type<t.edges.length
theorem EB {t:Types}{r:Rule}(h:ruleF t r=0):RuleIn t r:=by
 obtain ⟨hv,⟨h1,h2⟩,h3,h4⟩:=qF h
 have hl:=j7 h1 h2
 have hr:=j7 h3 h4
 exact ⟨fF hv,h1,h3,hl.1,hr.1,fun x hx=>(hl.2 x hx).1,fun x hx=>(hr.2 x hx).1⟩
theorem y4 (t:Types)(ht:t.ok)(r:Rule)(hr:r.ok):Pure Tryz.prog 287 [t.d,r.d] (.tup [dLI (g7 t r),dI (g8 t r)]):=by
 have V:=Ri t r
 refine Tz.pK ⟨fun _=>false,fun _=>[]⟩ Tryz.func287 rfl (fun Q hQ=>?_)
 try simp [go_sem,seval]
 refine aC (Jv t ht r hr) ((by first|rfl|(simp [go_sem,← List.map_take,← List.map_drop];done))) ?_
 try simp [go_sem,seval]
 refine aJ (fun h2=>?_) (fun h2=>?_)
 ·try simp [go_sem] at h2
  try simp [go_sem,seval]
  exact hQ _ _ (by first|(left;(simp [go_sem,g8,g7,h2]);done)|(right;(simp [go_sem,g8,g7,h2]);done))
 ·try simp [go_sem] at h2
  have I:=EB h2
  have hgl:=bZ I.gl
  have hgr:=bZ I.gr
  have hN:=I.v.fewN
  have hE:=I.v.fewE
  have lN:=eG r.keep.nodes r.left.graph.nodes.length
  have lE:=eG r.keep.edges r.left.graph.edges.length
  have lF:=eG r.into.nodes r.right.graph.nodes.length
  have lG:=eG r.into.edges r.right.graph.edges.length
  have k1:r.kGN.length=r.goneN.length:=by simp [Rule.kGN]
  have k2:(r.kGE t.nodes.length).length=r.goneE.length:=by simp [Rule.kGE]
  have k3:r.kFN.length=r.freshN.length:=by simp [Rule.kFN]
  have k4:(r.kFE t.nodes.length).length=r.freshE.length:=by simp [Rule.kFE]
  have lN':r.goneN.length≤r.left.graph.nodes.length:=lN
  have lE':r.goneE.length≤r.left.graph.edges.length:=lE
  have lF':r.freshN.length≤r.right.graph.nodes.length:=lF
  have lG':r.freshE.length≤r.right.graph.edges.length:=lG
  have dN:delN t r=r.goneN:=by simp [delN,h2]
  have dE:delE t r=r.goneE:=by simp [delE,h2]
  have dF:creN t r=r.freshN:=by simp [creN,h2]
  have dG:creE t r=r.freshE:=by simp [creE,h2]
  have htn:((t.nodes.length:Int)+(t.edges.length:Int)).toNat=t.nodes.length+t.edges.length:=by omega
  try simp [go_sem,seval,dN,dE,dF,dG,htn]
  refine aC (Jw t ht r hr) ((by first|rfl|(simp [go_sem,← List.map_take,← List.map_drop,dN,dE,dF,dG,htn];done))) ?_
  try simp [go_sem,seval,dN,dE,dF,dG,htn]
  refine aJ (fun h5=>?_) (fun h5=>?_)
  ·exact absurd h2 (by simpa using h5)
  ·try simp [go_sem] at h5
   try simp [go_sem,seval,dN,dE,dF,dG,htn]
   repeat first|intro _|refine ⟨d8,?_⟩
   obtain ⟨I0,hI0⟩:∃ I0:Nat→cY→AHeap→Prop,∀ (i:Nat) (e:cY) (H:AHeap),I0 i e H↔((e 2=.adr t.c)∧(e 3=.adr r.c)∧(e 6=dLI r.goneN)∧(e 7=dLI r.goneE)∧(e 9=dLI r.freshN)∧(e 10=dLI r.freshE)∧(e 11=.own 0 (t.nodes.length+t.edges.length))∧(e 51=dLI r.goneN)∧(e 52=dI r.goneN.length)∧(e 53=dI i)∧(H.get 0=some ⟨3,1,(fK (nJ t) (r.kGN.take i) (-1)).map cI,false⟩)∧(0<H.next)∧(i≤r.goneN.length)∧((r.goneN.take i).any (Hr t r)=false)):=⟨fun i e H=>_,fun _ _ _=>Iff.rfl⟩
   refine fZ I0 (fun i=>r.goneN.length - i) (0) ((hI0 _ _ _).2 ⟨?_,?_,?_,?_,?_,?_,?_,?_,?_,?_,(by (simp [go_sem,dN,dE,dF,dG,htn,nJ])),?_,(by first|assumption|omega|(simp [go_sem,dN,dE,dF,dG,htn];done)|(simp_all;done)),(by rfl)⟩) ?_
   iterate 11 (first|omega|(simp [go_sem,seval,dN,dE,dF,dG,htn]<;>omega))
   intro i e H hi0
   obtain ⟨q2_0,q3_0,q6_0,q7_0,q9_0,q10_0,q11_0,q51_0,q52_0,q53_0,g0_0,n0_0,hi,ha⟩:=(hI0 _ _ _).1 hi0
   have x0:=cG n0_0
   have F0:=And.intro q2_0 (And.intro q3_0 (And.intro q6_0 (And.intro q7_0 (And.intro q9_0 (And.intro q10_0 (And.intro q11_0 (And.intro q51_0 (And.intro q52_0 (And.intro q53_0 x0)))))))))
   try simp [go_sem,seval,dN,dE,dF,dG,htn,F0,g0_0,htn]
   refine aJ (fun h9=>?_) (fun h9=>?_)
   ·try simp [go_sem] at h9
    have hin:=dQ (aB h9)
    have hk:r.goneN[i].toNat<r.left.graph.nodes.length:=by omega
    have hkt:=I.nl _ (aB hk)
    have hke:r.kGN[i]'(by omega)=r.left.graph.nodes[r.goneN[i].toNat].toNat:=by simp [Rule.kGN,gN,aA hk]
    obtain ⟨hkl,hst,hbd⟩:=kU (d:=-1) V.l0 V.b0 (by omega) (by omega) (show i<r.kGN.length by omega) (by rw [hke];omega)
    have hbl:=g9 (nJ t) (-1) (r.kGN.take i)
    rw [V.l0] at hbl
    simp only [hke] at hkl hst hbd
    have hA:Hr t r r.goneN[i]=decide ((1:Int)<(xS t r.left.graph.nodes[r.goneN[i].toNat]).length):=by simp [Hr,gN,aA hk]
    try simp [go_sem,seval,dN,dE,dF,dG,htn,F0,g0_0,htn,h9,aA hk,aA hkl,hbl]
    repeat first|intro _|refine ⟨d8,?_⟩
    refine aC (KL t ht _) ((by first|rfl|(simp [go_sem,← List.map_take,← List.map_drop,dN,dE,dF,dG,htn,F0,g0_0,htn,h9,aA hk,aA hkl,hbl];done))) ?_
    try simp [go_sem,seval,dN,dE,dF,dG,htn,F0,g0_0,htn,h9,aA hk,aA hkl,hbl]
    repeat first|intro _|refine ⟨d8,?_⟩
    refine aJ (fun h13=>?_) (fun h13=>?_)
    ·try simp [go_sem] at h13
     try simp [go_sem,seval,dN,dE,dF,dG,htn,F0,g0_0,htn,h9,aA hk,aA hkl,hbl]
     have hb:r.goneN.any (Hr t r)=true:=List.any_eq_true.2 ⟨_,aB h9,by rw [hA];simpa using h13⟩
     exact hQ _ _ (by first|(left;(simp [go_sem,g8,g7,h2,hb]);done)|(right;(simp [go_sem,g8,g7,h2,hb]);done))
    ·try simp [go_sem] at h13
     try simp [go_sem,seval,dN,dE,dF,dG,htn,F0,g0_0,htn,h9,aA hk,aA hkl,hbl]
     repeat first|intro _|refine ⟨d8,?_⟩
     refine bY (i+1) (by omega) ((hI0 _ _ _).2 ⟨?_,?_,?_,?_,?_,?_,?_,?_,?_,?_,(by (simp [go_sem,dN,dE,dF,dG,htn,F0,g0_0,htn,h9,aA hk,aA hkl,hbl,hst,cK,nI])),?_,(by first|assumption|omega|(simp [go_sem,dN,dE,dF,dG,htn,F0,g0_0,htn,h9,aA hk,aA hkl,hbl,h2,h5,h13];done)|(simp_all<;>omega)),(by (rw [cC _ _ _ h9,ha,hA];simpa using h13))⟩)<;>first|omega|(simp [go_sem,seval,dN,dE,dF,dG,htn,F0,g0_0,htn,h9,aA hk,aA hkl,hbl]<;>omega)
   ·try simp [go_sem] at h9
    have hNo:=iO ha h9
    have hV1:fK (nJ t) (r.kGN.take i) (-1)=wH t r:=by rw [aI (by omega)];rfl
    rw [hV1] at g0_0
    try simp [go_sem,seval,dN,dE,dF,dG,htn,F0,g0_0,htn]
    repeat first|intro _|refine ⟨d8,?_⟩
    obtain ⟨I2,hI2⟩:∃ I2:Nat→cY→AHeap→Prop,∀ (i:Nat) (e:cY) (H:AHeap),I2 i e H↔((e 2=.adr t.c)∧(e 3=.adr r.c)∧(e 9=dLI r.freshN)∧(e 10=dLI r.freshE)∧(e 11=.own 0 (t.nodes.length+t.edges.length))∧(e 80=dLI r.goneE)∧(e 81=dI r.goneE.length)∧(e 82=dI i)∧(H.get 0=some ⟨3,1,(fK (wH t r) ((r.kGE t.nodes.length).take i) (-1)).map cI,false⟩)∧(0<H.next)∧(i≤r.goneE.length)):=⟨fun i e H=>_,fun _ _ _=>Iff.rfl⟩
    refine fZ I2 (fun i=>r.goneE.length - i) (0) ((hI2 _ _ _).2 ⟨?_,?_,?_,?_,?_,?_,?_,?_,(by (simp [go_sem,dN,dE,dF,dG,htn,F0,g0_0,htn])),?_,(by first|assumption|omega|(simp [go_sem,dN,dE,dF,dG,htn,F0,g0_0,htn];done)|(simp_all;done))⟩) ?_
    iterate 9 (first|omega|(simp [go_sem,seval,dN,dE,dF,dG,htn,F0,g0_0,htn]<;>omega))
    intro i e H hi2
    obtain ⟨q2_2,q3_2,q9_2,q10_2,q11_2,q80_2,q81_2,q82_2,g0_2,n0_2,hi⟩:=(hI2 _ _ _).1 hi2
    have x0:=cG n0_2
    have F2:=And.intro q2_2 (And.intro q3_2 (And.intro q9_2 (And.intro q10_2 (And.intro q11_2 (And.intro q80_2 (And.intro q81_2 (And.intro q82_2 x0)))))))
    try simp [go_sem,seval,dN,dE,dF,dG,htn,htn,F2,g0_2]
    refine aJ (fun h18=>?_) (fun h18=>?_)
    ·try simp [go_sem] at h18
     have hin:=dQ (aB h18)
     have hk:r.goneE[i].toNat<r.left.graph.edges.length:=by omega
     have hkt:=I.el _ (aB hk)
     have hke:(r.kGE t.nodes.length)[i]'(by omega)=t.nodes.length+r.left.graph.edges[r.goneE[i].toNat].type.toNat:=by simp [Rule.kGE,aA hk]
     obtain ⟨hkl,hst,hbd⟩:=kU (d:=-1) V.l1 V.b1 (by omega) (by omega) (show i<(r.kGE t.nodes.length).length by omega) (by rw [hke];omega)
     have hbl:=g9 (wH t r) (-1) ((r.kGE t.nodes.length).take i)
     rw [V.l1] at hbl
     simp only [hke] at hkl hst hbd
     have htk:((t.nodes.length:Int)+r.left.graph.edges[r.goneE[i].toNat].type).toNat=t.nodes.length+r.left.graph.edges[r.goneE[i].toNat].type.toNat:=by omega
     try simp [go_sem,seval,dN,dE,dF,dG,htn,htn,F2,g0_2,h18,aA hk,aA hkl,hbl,htk]
     repeat first|intro _|refine ⟨d8,?_⟩
     refine bY (i+1) (by omega) ((hI2 _ _ _).2 ⟨?_,?_,?_,?_,?_,?_,?_,?_,(by (simp [go_sem,dN,dE,dF,dG,htn,htn,F2,g0_2,h18,aA hk,aA hkl,hbl,htk,hst,cK,nI])),?_,(by first|assumption|omega|(simp [go_sem,dN,dE,dF,dG,htn,htn,F2,g0_2,h18,aA hk,aA hkl,hbl,htk,h2,h5,h9];done)|(simp_all<;>omega))⟩)<;>first|omega|(simp [go_sem,seval,dN,dE,dF,dG,htn,htn,F2,g0_2,h18,aA hk,aA hkl,hbl,htk]<;>omega)
    ·try simp [go_sem] at h18
     have hV2:fK (wH t r) ((r.kGE t.nodes.length).take i) (-1)=yS t r:=by rw [aI (by omega)];rfl
     rw [hV2] at g0_2
     try simp [go_sem,seval,dN,dE,dF,dG,htn,htn,F2,g0_2]
     repeat first|intro _|refine ⟨d8,?_⟩
     obtain ⟨I4,hI4⟩:∃ I4:Nat→cY→AHeap→Prop,∀ (i:Nat) (e:cY) (H:AHeap),I4 i e H↔((e 2=.adr t.c)∧(e 3=.adr r.c)∧(e 10=dLI r.freshE)∧(e 11=.own 0 (t.nodes.length+t.edges.length))∧(e 104=dLI r.freshN)∧(e 105=dI r.freshN.length)∧(e 106=dI i)∧(H.get 0=some ⟨3,1,(fK (yS t r) (r.kFN.take i) 1).map cI,false⟩)∧(0<H.next)∧(i≤r.freshN.length)):=⟨fun i e H=>_,fun _ _ _=>Iff.rfl⟩
     refine fZ I4 (fun i=>r.freshN.length - i) (0) ((hI4 _ _ _).2 ⟨?_,?_,?_,?_,?_,?_,?_,(by (simp [go_sem,dN,dE,dF,dG,htn,htn,F2,g0_2])),?_,(by first|assumption|omega|(simp [go_sem,dN,dE,dF,dG,htn,htn,F2,g0_2];done)|(simp_all;done))⟩) ?_
     iterate 8 (first|omega|(simp [go_sem,seval,dN,dE,dF,dG,htn,htn,F2,g0_2]<;>omega))
     intro i e H hi4
     obtain ⟨q2_4,q3_4,q10_4,q11_4,q104_4,q105_4,q106_4,g0_4,n0_4,hi⟩:=(hI4 _ _ _).1 hi4
     have x0:=cG n0_4
     have F4:=And.intro q2_4 (And.intro q3_4 (And.intro q10_4 (And.intro q11_4 (And.intro q104_4 (And.intro q105_4 (And.intro q106_4 x0))))))
     try simp [go_sem,seval,dN,dE,dF,dG,htn,htn,F4,g0_4]
     refine aJ (fun h23=>?_) (fun h23=>?_)
     ·try simp [go_sem] at h23
      have hin:=dQ (aB h23)
      have hk:r.freshN[i].toNat<r.right.graph.nodes.length:=by omega
      have hkt:=I.nr _ (aB hk)
      have hke:r.kFN[i]'(by omega)=r.right.graph.nodes[r.freshN[i].toNat].toNat:=by simp [Rule.kFN,gN,aA hk]
      obtain ⟨hkl,hst,hbd⟩:=kU (d:=1) V.l2 V.b2 (by omega) (by omega) (show i<r.kFN.length by omega) (by rw [hke];omega)
      have hbl:=g9 (yS t r) 1 (r.kFN.take i)
      rw [V.l2] at hbl
      simp only [hke] at hkl hst hbd
      try simp [go_sem,seval,dN,dE,dF,dG,htn,htn,F4,g0_4,h23,aA hk,aA hkl,hbl]
      repeat first|intro _|refine ⟨d8,?_⟩
      refine bY (i+1) (by omega) ((hI4 _ _ _).2 ⟨?_,?_,?_,?_,?_,?_,?_,(by (simp [go_sem,dN,dE,dF,dG,htn,htn,F4,g0_4,h23,aA hk,aA hkl,hbl,hst,cK,nI])),?_,(by first|assumption|omega|(simp [go_sem,dN,dE,dF,dG,htn,htn,F4,g0_4,h23,aA hk,aA hkl,hbl,h2,h5,h9,h18];done)|(simp_all<;>omega))⟩)<;>first|omega|(simp [go_sem,seval,dN,dE,dF,dG,htn,htn,F4,g0_4,h23,aA hk,aA hkl,hbl]<;>omega)
     ·try simp [go_sem] at h23
      have hV3:fK (yS t r) (r.kFN.take i) 1=yR t r:=by rw [aI (by omega)];rfl
      rw [hV3] at g0_4
      try simp [go_sem,seval,dN,dE,dF,dG,htn,htn,F4,g0_4]
      repeat first|intro _|refine ⟨d8,?_⟩
      obtain ⟨I6,hI6⟩:∃ I6:Nat→cY→AHeap→Prop,∀ (i:Nat) (e:cY) (H:AHeap),I6 i e H↔((e 2=.adr t.c)∧(e 3=.adr r.c)∧(e 11=.own 0 (t.nodes.length+t.edges.length))∧(e 123=dLI r.freshE)∧(e 124=dI r.freshE.length)∧(e 125=dI i)∧(H.get 0=some ⟨3,1,(fK (yR t r) ((r.kFE t.nodes.length).take i) 1).map cI,false⟩)∧(0<H.next)∧(i≤r.freshE.length)):=⟨fun i e H=>_,fun _ _ _=>Iff.rfl⟩
      refine fZ I6 (fun i=>r.freshE.length - i) (0) ((hI6 _ _ _).2 ⟨?_,?_,?_,?_,?_,?_,(by (simp [go_sem,dN,dE,dF,dG,htn,htn,F4,g0_4])),?_,(by first|assumption|omega|(simp [go_sem,dN,dE,dF,dG,htn,htn,F4,g0_4];done)|(simp_all;done))⟩) ?_
      iterate 7 (first|omega|(simp [go_sem,seval,dN,dE,dF,dG,htn,htn,F4,g0_4]<;>omega))
      intro i e H hi6
      obtain ⟨q2_6,q3_6,q11_6,q123_6,q124_6,q125_6,g0_6,n0_6,hi⟩:=(hI6 _ _ _).1 hi6
      have x0:=cG n0_6
      have F6:=And.intro q2_6 (And.intro q3_6 (And.intro q11_6 (And.intro q123_6 (And.intro q124_6 (And.intro q125_6 x0)))))
      try simp [go_sem,seval,dN,dE,dF,dG,htn,htn,F6,g0_6]
      refine aJ (fun h28=>?_) (fun h28=>?_)
      ·try simp [go_sem] at h28
       have hin:=dQ (aB h28)
       have hk:r.freshE[i].toNat<r.right.graph.edges.length:=by omega
       have hkt:=I.er _ (aB hk)
       have hke:(r.kFE t.nodes.length)[i]'(by omega)=t.nodes.length+r.right.graph.edges[r.freshE[i].toNat].type.toNat:=by simp [Rule.kFE,aA hk]
       obtain ⟨hkl,hst,hbd⟩:=kU (d:=1) V.l3 V.b3 (by omega) (by omega) (show i<(r.kFE t.nodes.length).length by omega) (by rw [hke];omega)
       have hbl:=g9 (yR t r) 1 ((r.kFE t.nodes.length).take i)
       rw [V.l3] at hbl
       simp only [hke] at hkl hst hbd
       have htk:((t.nodes.length:Int)+r.right.graph.edges[r.freshE[i].toNat].type).toNat=t.nodes.length+r.right.graph.edges[r.freshE[i].toNat].type.toNat:=by omega
       try simp [go_sem,seval,dN,dE,dF,dG,htn,htn,F6,g0_6,h28,aA hk,aA hkl,hbl,htk]
       repeat first|intro _|refine ⟨d8,?_⟩
       refine bY (i+1) (by omega) ((hI6 _ _ _).2 ⟨?_,?_,?_,?_,?_,?_,(by (simp [go_sem,dN,dE,dF,dG,htn,htn,F6,g0_6,h28,aA hk,aA hkl,hbl,htk,hst,cK,nI])),?_,(by first|assumption|omega|(simp [go_sem,dN,dE,dF,dG,htn,htn,F6,g0_6,h28,aA hk,aA hkl,hbl,htk,h2,h5,h9,h18,h23];done)|(simp_all<;>omega))⟩)<;>first|omega|(simp [go_sem,seval,dN,dE,dF,dG,htn,htn,F6,g0_6,h28,aA hk,aA hkl,hbl,htk]<;>omega)
      ·try simp [go_sem] at h28
       have hV4:fK (yR t r) ((r.kFE t.nodes.length).take i) 1=KD t r:=by rw [aI (by omega)];rfl
       rw [hV4] at g0_6
       have hl4:=V.l4
       try simp [go_sem,seval,dN,dE,dF,dG,htn,htn,F6,g0_6]
       exact hQ _ _ (by first|(left;(simp [go_sem,dN,dE,dF,dG,htn,htn,F6,g0_6,g8,g7,h2,hNo,hl4]);done)|(right;(simp [go_sem,dN,dE,dF,dG,htn,htn,F6,g0_6,g8,g7,h2,hNo,hl4]);done))
theorem Cg {t:Types}(hv:t.valid){a:Nat}(ha:a<t.nodes.length):mem (t.line a) a=true:=by
 rw [qR t a ha (hv.parentsOK a),qO];simp
theorem Ft {t:Types}(hv:t.valid)(a:Int):∀ b:Nat,b<t.nodes.length→mem (t.line b) a=true→(b:Int)≠a→∃ n∈t.nodes,n.parent=a:=by
 intro b
 induction b using Nat.strongRecOn with
 | _ b ih =>
 intro hb hm hne
 have hpar:=hv.parent b _ (aA hb)
 rw [qR t b hb (hv.parentsOK b),qO,bT] at hm
 rcases hm with hm|hm
 ·by_cases h0:0≤t.nodes[b].parent
  ·rw [if_pos h0] at hm
   by_cases he:t.nodes[b].parent=a
   ·exact ⟨_,aB hb,he⟩
   ·exact ih t.nodes[b].parent.toNat (by omega) (by omega) hm (by omega)
  ·rw [if_neg h0,A6] at hm;cases hm
 ·simp at hm;omega
def A9 (t:Types)(a:Int):Bool:=!(t.nodes.any fun n=>decide (n.parent=a))
theorem Gl {t : Types} (hv : t.valid) {a : Int} (h0 : 0 ≤ a) (h1 : a < t.nodes.length) (hg : given2F t a a = 0) : decide ((1 : Int) < (xS t a).length) = !A9 t a := by
  have hin : a.toNat ∈ (List.range t.nodes.length).filter fun (b : Nat) => mem (t.line b) a := by
    rw [cO]
    refine ⟨by simp; omega, ?_⟩
    have := Cg hv (a := a.toNat) (by omega)
    rw [Int.toNat_of_nonneg h0] at this
    exact this
  have hlen : (xS t a).length = ((List.range t.nodes.length).filter fun (b : Nat) => mem (t.line b) a).length := by simp [xS, hg]
  have hnd : ((List.range t.nodes.length).filter fun (b : Nat) => mem (t.line b) a).Nodup := List.nodup_range.filter _
  rw [aY, decide_eq_true_eq, A9, Bool.not_not, List.any_eq_true, hlen]
  constructor
  · intro h
    have : ∃ b ∈ ((List.range t.nodes.length).filter fun (b : Nat) => mem (t.line b) a), b ≠ a.toNat := by
      generalize ((List.range t.nodes.length).filter fun (b : Nat) => mem (t.line b) a) = l at *
      match l, hnd, h with
      | x :: y :: l, hnd, _ =>
        by_cases hx : x = a.toNat
        · refine ⟨y, by simp, fun hy => ?_⟩
          rw [eE] at hnd
          exact hnd.1 (by rw [hx, ← hy]; simp)
        · exact ⟨x, by simp, hx⟩
      | [x], _, h => simp at h
      | [], _, h => simp at h
    obtain ⟨b, hb, hne⟩ := this
    rw [cO] at hb
    obtain ⟨n, hn, he⟩ := Ft hv a b (by simpa using hb.1) hb.2 (by omega)
    exact ⟨n, hn, by simpa using he⟩
  · rintro ⟨n, hn, he⟩
    obtain ⟨b, hb, rfl⟩ := aT hn
    have he' : t.nodes[b].parent = a := by simpa using he
    have hpar := hv.parent b _ (aA hb)
    have hbin : b ∈ ((List.range t.nodes.length).filter fun (b : Nat) => mem (t.line b) a) := by
      rw [cO]
      refine ⟨by simpa using hb, ?_⟩
      rw [qR t b hb (hv.parentsOK b), qO, if_pos (by omega), bT]
      left
      have := Cg hv (a := a.toNat) (by omega)
      rw [Int.toNat_of_nonneg h0] at this
      rw [he']; exact this
    have hne : b ≠ a.toNat := by omega
    generalize ((List.range t.nodes.length).filter fun (b : Nat) => mem (t.line b) a) = l at *
    match l, hin, hbin with
    | [], hin, _ => cases hin
    | [x], hin, hbin => simp at hin hbin; omega
    | x :: y :: l, _, _ => simp; omega
theorem NF (t:Types)(a:Int):Pure Tryz.prog 281 [t.d,dI a] (.bool (A9 t a)):=by
 refine Tz.pK ⟨fun _=>false,fun _=>[]⟩ Tryz.func281 rfl (fun Q hQ=>?_)
 have Y:=trivial
 refine wv (h:=bG (fun i e H=>(e 2=.adr t.c∧e 1=dI a∧e 5=dI i)∧(i≤t.nodes.length)∧(((t.nodes.take i).any fun n=>decide (n.parent=a))=false)) (fun i=>t.nodes.length - i) 0 ⟨wg,wi,(by rfl)⟩ fun I0 hI0 i e H hi0=>?_)
 obtain ⟨E0,hi,ha⟩:=hi0
 have Y:=wa Y E0
 refine wv (h:=?_)
 repeat first|intro _|refine ⟨d8,?_⟩
 refine wq (fun h2=>?_) fun h2=>?_
 ·have Y:=wa Y h2
  refine wv (h:=?_)
  repeat first|intro _|refine ⟨d8,?_⟩
  refine wq (fun h4=>?_) fun h4=>?_
  ·refine wv (h:=?_)
   have hb:(t.nodes.any fun n=>decide (n.parent=a))=true:=List.any_eq_true.2 ⟨_,aB h2,by simpa using h4⟩
   exact hQ _ _ (.inl (by simp only [go_sem,A9,hb,mI]))
  ·exact wo (h:=wx hI0 (i+1) ⟨wg,wj,(by (rw [cC _ _ _ h2,ha];simpa using h4))⟩)
 ·refine wv (h:=?_)
  have hb:=iO ha h2
  exact hQ _ _ (.inl (by simp only [go_sem,A9,hb,p8]))
theorem JA (t:Types)(ht:t.ok)(r:Rule)(hr:r.ok):Pure Tryz.prog 194 [t.d,r.d] (.tup [dLI (g7 t r),dI (g8 t r)]):=by
 have V:=Ri t r
 have hv0:¬ (cW t).2=0→ruleF t r=(cW t).2:=fun h=>by unfold ruleF;rw [if_pos h]
 refine Tz.pK ⟨fun _=>false,fun _=>[]⟩ Tryz.func194 rfl (fun Q hQ=>?_)
 try simp [go_sem,seval]
 refine aC (kP t ht) ((by first|rfl|(simp [go_sem,← List.map_take,← List.map_drop];done))) ?_
 try simp [go_sem,seval]
 refine aJ (fun h2=>?_) (fun h2=>?_)
 ·try simp [go_sem] at h2
  try simp [go_sem,seval]
  exact hQ _ _ (by first|(left;(simp [go_sem,g8,g7,hv0 h2,h2]);done)|(right;(simp [go_sem,g8,g7,hv0 h2,h2]);done))
 ·try simp [go_sem] at h2
  try simp [go_sem,seval]
  refine aC (rO t ht r hr) ((by first|rfl|(simp [go_sem,← List.map_take,← List.map_drop];done))) ?_
  try simp [go_sem,seval]
  refine aJ (fun h5=>?_) (fun h5=>?_)
  ·try simp [go_sem] at h5
   try simp [go_sem,seval]
   exact hQ _ _ (by first|(left;(simp [go_sem,g8,g7,h5]);done)|(right;(simp [go_sem,g8,g7,h5]);done))
  ·try simp [go_sem] at h5
   have I:=EB h5
   have hgl:=bZ I.gl
   have hgr:=bZ I.gr
   have hN:=I.v.fewN
   have hE:=I.v.fewE
   have lN:=eG r.keep.nodes r.left.graph.nodes.length
   have lE:=eG r.keep.edges r.left.graph.edges.length
   have lF:=eG r.into.nodes r.right.graph.nodes.length
   have lG:=eG r.into.edges r.right.graph.edges.length
   have k1:r.kGN.length=r.goneN.length:=by simp [Rule.kGN]
   have k2:(r.kGE t.nodes.length).length=r.goneE.length:=by simp [Rule.kGE]
   have k3:r.kFN.length=r.freshN.length:=by simp [Rule.kFN]
   have k4:(r.kFE t.nodes.length).length=r.freshE.length:=by simp [Rule.kFE]
   have lN':r.goneN.length≤r.left.graph.nodes.length:=lN
   have lE':r.goneE.length≤r.left.graph.edges.length:=lE
   have lF':r.freshN.length≤r.right.graph.nodes.length:=lF
   have lG':r.freshE.length≤r.right.graph.edges.length:=lG
   have dN:delN t r=r.goneN:=by simp [delN,h5]
   have dE:delE t r=r.goneE:=by simp [delE,h5]
   have dF:creN t r=r.freshN:=by simp [creN,h5]
   have dG:creE t r=r.freshE:=by simp [creE,h5]
   have htn:((t.nodes.length:Int)+(t.edges.length:Int)).toNat=t.nodes.length+t.edges.length:=by omega
   try simp [go_sem,seval,dN,dE,dF,dG,htn]
   repeat first|intro _|refine ⟨d8,?_⟩
   refine aC (G1 t ht r hr) ((by first|rfl|(simp [go_sem,← List.map_take,← List.map_drop,dN,dE,dF,dG,htn];done))) ?_
   try simp [go_sem,seval,dN,dE,dF,dG,htn]
   repeat first|intro _|refine ⟨d8,?_⟩
   obtain ⟨I0,hI0⟩:∃ I0:Nat→cY→AHeap→Prop,∀ (i:Nat) (e:cY) (H:AHeap),I0 i e H↔((e 2=.adr t.c)∧(e 3=.adr r.c)∧(e 10=dLI r.goneN)∧(e 11=dLI r.goneE)∧(e 9=.own 0 (t.nodes.length+t.edges.length))∧(e 13=dI i)∧(H.get 0=some ⟨3,1,(fK (nJ t) (r.kGN.take i) (-1)).map cI,false⟩)∧(0<H.next)∧(i≤r.goneN.length)∧((r.goneN.take i).any (Hr t r)=false)):=⟨fun i e H=>_,fun _ _ _=>Iff.rfl⟩
   refine fZ I0 (fun i=>r.goneN.length - i) (0) ((hI0 _ _ _).2 ⟨?_,?_,?_,?_,?_,?_,(by (simp [go_sem,dN,dE,dF,dG,htn,nJ])),?_,(by first|assumption|omega|(simp [go_sem,dN,dE,dF,dG,htn];done)|(simp_all;done)),(by rfl)⟩) ?_
   iterate 7 (first|omega|(simp [go_sem,seval,dN,dE,dF,dG,htn]<;>omega))
   intro i e H hi0
   obtain ⟨q2_0,q3_0,q10_0,q11_0,q9_0,q13_0,g0_0,n0_0,hi,ha⟩:=(hI0 _ _ _).1 hi0
   have x0:=cG n0_0
   have F0:=And.intro q2_0 (And.intro q3_0 (And.intro q10_0 (And.intro q11_0 (And.intro q9_0 (And.intro q13_0 x0)))))
   try simp [go_sem,seval,dN,dE,dF,dG,htn,F0,g0_0,htn,dF,dG]
   repeat first|intro _|refine ⟨d8,?_⟩
   refine aJ (fun h10=>?_) (fun h10=>?_)
   ·try simp [go_sem] at h10
    have hin:=dQ (aB h10)
    have hk:r.goneN[i].toNat<r.left.graph.nodes.length:=by omega
    have hkt:=I.nl _ (aB hk)
    have hke:r.kGN[i]'(by omega)=r.left.graph.nodes[r.goneN[i].toNat].toNat:=by simp [Rule.kGN,gN,aA hk]
    obtain ⟨hkl,hst,hbd⟩:=kU (d:=-1) V.l0 V.b0 (by omega) (by omega) (show i<r.kGN.length by omega) (by rw [hke];omega)
    have hbl:=g9 (nJ t) (-1) (r.kGN.take i)
    rw [V.l0] at hbl
    simp only [hke] at hkl hst hbd
    have hgi:given2F t r.left.graph.nodes[r.goneN[i].toNat] r.left.graph.nodes[r.goneN[i].toNat]=0:=by
     unfold given2F;rw [if_neg (by have:=(qF h5).1;omega),if_pos];simp [insideF];omega
    have hA:Hr t r r.goneN[i] = !A9 t r.left.graph.nodes[r.goneN[i].toNat]:=by
     rw [← Gl I.v hkt.1 hkt.2 hgi];simp [Hr,gN,aA hk]
    try simp [go_sem,seval,dN,dE,dF,dG,htn,F0,g0_0,htn,dF,dG,h10,aA hk,aA hkl,hbl]
    repeat first|intro _|refine ⟨d8,?_⟩
    refine aC (NF t _) ((by first|rfl|(simp [go_sem,← List.map_take,← List.map_drop,dN,dE,dF,dG,htn,F0,g0_0,htn,dF,dG,h10,aA hk,aA hkl,hbl];done))) ?_
    try simp [go_sem,seval,dN,dE,dF,dG,htn,F0,g0_0,htn,dF,dG,h10,aA hk,aA hkl,hbl]
    repeat first|intro _|refine ⟨d8,?_⟩
    refine aJ (fun h13=>?_) (fun h13=>?_)
    ·try simp [go_sem] at h13
     try simp [go_sem,seval,dN,dE,dF,dG,htn,F0,g0_0,htn,dF,dG,h10,aA hk,aA hkl,hbl]
     have hb:r.goneN.any (Hr t r)=true:=List.any_eq_true.2 ⟨_,aB h10,by rw [hA,h13];rfl⟩
     exact hQ _ _ (by first|(left;(simp [go_sem,g8,g7,h5,hb]);done)|(right;(simp [go_sem,g8,g7,h5,hb]);done))
    ·try simp [go_sem] at h13
     try simp [go_sem,seval,dN,dE,dF,dG,htn,F0,g0_0,htn,dF,dG,h10,aA hk,aA hkl,hbl]
     repeat first|intro _|refine ⟨d8,?_⟩
     refine bY (i+1) (by omega) ((hI0 _ _ _).2 ⟨?_,?_,?_,?_,?_,?_,(by (simp [go_sem,dN,dE,dF,dG,htn,F0,g0_0,htn,dF,dG,h10,aA hk,aA hkl,hbl,hst,cK,nI])),?_,(by first|assumption|omega|(simp [go_sem,dN,dE,dF,dG,htn,F0,g0_0,htn,dF,dG,h10,aA hk,aA hkl,hbl,h2,h5,h13];done)|(simp_all<;>omega)),(by (rw [cC _ _ _ h10,ha,hA,h13];rfl))⟩)<;>first|omega|(simp [go_sem,seval,dN,dE,dF,dG,htn,F0,g0_0,htn,dF,dG,h10,aA hk,aA hkl,hbl]<;>omega)
   ·try simp [go_sem] at h10
    have hNo:=iO ha h10
    have hV1:fK (nJ t) (r.kGN.take i) (-1)=wH t r:=by rw [aI (by omega)];rfl
    rw [hV1] at g0_0
    try simp [go_sem,seval,dN,dE,dF,dG,htn,F0,g0_0,htn,dF,dG]
    obtain ⟨I2,hI2⟩:∃ I2:Nat→cY→AHeap→Prop,∀ (i:Nat) (e:cY) (H:AHeap),I2 i e H↔((e 2=.adr t.c)∧(e 3=.adr r.c)∧(e 11=dLI r.goneE)∧(e 9=.own 0 (t.nodes.length+t.edges.length))∧(e 15=dI i)∧(H.get 0=some ⟨3,1,(fK (wH t r) ((r.kGE t.nodes.length).take i) (-1)).map cI,false⟩)∧(0<H.next)∧(i≤r.goneE.length)):=⟨fun i e H=>_,fun _ _ _=>Iff.rfl⟩
    refine fZ I2 (fun i=>r.goneE.length - i) (0) ((hI2 _ _ _).2 ⟨?_,?_,?_,?_,?_,(by (simp [go_sem,dN,dE,dF,dG,htn,F0,g0_0,htn,dF,dG])),?_,(by first|assumption|omega|(simp [go_sem,dN,dE,dF,dG,htn,F0,g0_0,htn,dF,dG];done)|(simp_all;done))⟩) ?_
    iterate 6 (first|omega|(simp [go_sem,seval,dN,dE,dF,dG,htn,F0,g0_0,htn,dF,dG]<;>omega))
    intro i e H hi2
    obtain ⟨q2_2,q3_2,q11_2,q9_2,q15_2,g0_2,n0_2,hi⟩:=(hI2 _ _ _).1 hi2
    have x0:=cG n0_2
    have F2:=And.intro q2_2 (And.intro q3_2 (And.intro q11_2 (And.intro q9_2 (And.intro q15_2 x0))))
    try simp [go_sem,seval,dN,dE,dF,dG,htn,htn,dF,dG,F2,g0_2,dF,dG]
    repeat first|intro _|refine ⟨d8,?_⟩
    refine aJ (fun h17=>?_) (fun h17=>?_)
    ·try simp [go_sem] at h17
     have hin:=dQ (aB h17)
     have hk:r.goneE[i].toNat<r.left.graph.edges.length:=by omega
     have hkt:=I.el _ (aB hk)
     have hke:(r.kGE t.nodes.length)[i]'(by omega)=t.nodes.length+r.left.graph.edges[r.goneE[i].toNat].type.toNat:=by simp [Rule.kGE,aA hk]
     obtain ⟨hkl,hst,hbd⟩:=kU (d:=-1) V.l1 V.b1 (by omega) (by omega) (show i<(r.kGE t.nodes.length).length by omega) (by rw [hke];omega)
     have hbl:=g9 (wH t r) (-1) ((r.kGE t.nodes.length).take i)
     rw [V.l1] at hbl
     simp only [hke] at hkl hst hbd
     have htk:((t.nodes.length:Int)+r.left.graph.edges[r.goneE[i].toNat].type).toNat=t.nodes.length+r.left.graph.edges[r.goneE[i].toNat].type.toNat:=by omega
     try simp [go_sem,seval,dN,dE,dF,dG,htn,htn,dF,dG,F2,g0_2,dF,dG,h17,aA hk,aA hkl,hbl,htk]
     repeat first|intro _|refine ⟨d8,?_⟩
     refine bY (i+1) (by omega) ((hI2 _ _ _).2 ⟨?_,?_,?_,?_,?_,(by (simp [go_sem,dN,dE,dF,dG,htn,htn,dF,dG,F2,g0_2,dF,dG,h17,aA hk,aA hkl,hbl,htk,hst,cK,nI])),?_,(by first|assumption|omega|(simp [go_sem,dN,dE,dF,dG,htn,htn,dF,dG,F2,g0_2,dF,dG,h17,aA hk,aA hkl,hbl,htk,h2,h5,h10];done)|(simp_all<;>omega))⟩)<;>first|omega|(simp [go_sem,seval,dN,dE,dF,dG,htn,htn,dF,dG,F2,g0_2,dF,dG,h17,aA hk,aA hkl,hbl,htk]<;>omega)
    ·try simp [go_sem] at h17
     have hV2:fK (wH t r) ((r.kGE t.nodes.length).take i) (-1)=yS t r:=by rw [aI (by omega)];rfl
     rw [hV2] at g0_2
     try simp [go_sem,seval,dN,dE,dF,dG,htn,htn,dF,dG,F2,g0_2,dF,dG]
     refine aC (G2 t ht r hr) ((by first|rfl|(simp [go_sem,← List.map_take,← List.map_drop,dN,dE,dF,dG,htn,htn,dF,dG,F2,g0_2,dF,dG];done))) ?_
     try simp [go_sem,seval,dN,dE,dF,dG,htn,htn,dF,dG,F2,g0_2,dF,dG]
     obtain ⟨I4,hI4⟩:∃ I4:Nat→cY→AHeap→Prop,∀ (i:Nat) (e:cY) (H:AHeap),I4 i e H↔((e 2=.adr t.c)∧(e 3=.adr r.c)∧(e 10=dLI r.freshN)∧(e 11=dLI r.freshE)∧(e 9=.own 0 (t.nodes.length+t.edges.length))∧(e 16=dI i)∧(H.get 0=some ⟨3,1,(fK (yS t r) (r.kFN.take i) 1).map cI,false⟩)∧(0<H.next)∧(i≤r.freshN.length)):=⟨fun i e H=>_,fun _ _ _=>Iff.rfl⟩
     refine fZ I4 (fun i=>r.freshN.length - i) (0) ((hI4 _ _ _).2 ⟨?_,?_,?_,?_,?_,?_,(by (simp [go_sem,dN,dE,dF,dG,htn,htn,dF,dG,F2,g0_2,dF,dG])),?_,(by first|assumption|omega|(simp [go_sem,dN,dE,dF,dG,htn,htn,dF,dG,F2,g0_2,dF,dG];done)|(simp_all;done))⟩) ?_
     iterate 7 (first|omega|(simp [go_sem,seval,dN,dE,dF,dG,htn,htn,dF,dG,F2,g0_2,dF,dG]<;>omega))
     intro i e H hi4
     obtain ⟨q2_4,q3_4,q10_4,q11_4,q9_4,q16_4,g0_4,n0_4,hi⟩:=(hI4 _ _ _).1 hi4
     have x0:=cG n0_4
     have F4:=And.intro q2_4 (And.intro q3_4 (And.intro q10_4 (And.intro q11_4 (And.intro q9_4 (And.intro q16_4 x0)))))
     try simp [go_sem,seval,dN,dE,dF,dG,htn,htn,dF,dG,dF,dG,F4,g0_4]
     repeat first|intro _|refine ⟨d8,?_⟩
     refine aJ (fun h22=>?_) (fun h22=>?_)
     ·try simp [go_sem] at h22
      have hin:=dQ (aB h22)
      have hk:r.freshN[i].toNat<r.right.graph.nodes.length:=by omega
      have hkt:=I.nr _ (aB hk)
      have hke:r.kFN[i]'(by omega)=r.right.graph.nodes[r.freshN[i].toNat].toNat:=by simp [Rule.kFN,gN,aA hk]
      obtain ⟨hkl,hst,hbd⟩:=kU (d:=1) V.l2 V.b2 (by omega) (by omega) (show i<r.kFN.length by omega) (by rw [hke];omega)
      have hbl:=g9 (yS t r) 1 (r.kFN.take i)
      rw [V.l2] at hbl
      simp only [hke] at hkl hst hbd
      try simp [go_sem,seval,dN,dE,dF,dG,htn,htn,dF,dG,dF,dG,F4,g0_4,h22,aA hk,aA hkl,hbl]
      repeat first|intro _|refine ⟨d8,?_⟩
      refine bY (i+1) (by omega) ((hI4 _ _ _).2 ⟨?_,?_,?_,?_,?_,?_,(by (simp [go_sem,dN,dE,dF,dG,htn,htn,dF,dG,dF,dG,F4,g0_4,h22,aA hk,aA hkl,hbl,hst,cK])),?_,(by first|assumption|omega|(simp [go_sem,dN,dE,dF,dG,htn,htn,dF,dG,dF,dG,F4,g0_4,h22,aA hk,aA hkl,hbl,h2,h5,h10,h17];done)|(simp_all<;>omega))⟩)<;>first|omega|(simp [go_sem,seval,dN,dE,dF,dG,htn,htn,dF,dG,dF,dG,F4,g0_4,h22,aA hk,aA hkl,hbl]<;>omega)
     ·try simp [go_sem] at h22
      have hV3:fK (yS t r) (r.kFN.take i) 1=yR t r:=by rw [aI (by omega)];rfl
      rw [hV3] at g0_4
      try simp [go_sem,seval,dN,dE,dF,dG,htn,htn,dF,dG,dF,dG,F4,g0_4]
      obtain ⟨I6,hI6⟩:∃ I6:Nat→cY→AHeap→Prop,∀ (i:Nat) (e:cY) (H:AHeap),I6 i e H↔((e 2=.adr t.c)∧(e 3=.adr r.c)∧(e 11=dLI r.freshE)∧(e 9=.own 0 (t.nodes.length+t.edges.length))∧(e 17=dI i)∧(H.get 0=some ⟨3,1,(fK (yR t r) ((r.kFE t.nodes.length).take i) 1).map cI,false⟩)∧(0<H.next)∧(i≤r.freshE.length)):=⟨fun i e H=>_,fun _ _ _=>Iff.rfl⟩
      refine fZ I6 (fun i=>r.freshE.length - i) (0) ((hI6 _ _ _).2 ⟨?_,?_,?_,?_,?_,(by (simp [go_sem,dN,dE,dF,dG,htn,htn,dF,dG,dF,dG,F4,g0_4])),?_,(by first|assumption|omega|(simp [go_sem,dN,dE,dF,dG,htn,htn,dF,dG,dF,dG,F4,g0_4];done)|(simp_all;done))⟩) ?_
      iterate 6 (first|omega|(simp [go_sem,seval,dN,dE,dF,dG,htn,htn,dF,dG,dF,dG,F4,g0_4]<;>omega))
      intro i e H hi6
      obtain ⟨q2_6,q3_6,q11_6,q9_6,q17_6,g0_6,n0_6,hi⟩:=(hI6 _ _ _).1 hi6
      have x0:=cG n0_6
      have F6:=And.intro q2_6 (And.intro q3_6 (And.intro q11_6 (And.intro q9_6 (And.intro q17_6 x0))))
      try simp [go_sem,seval,dN,dE,dF,dG,htn,htn,dF,dG,dF,dG,F6,g0_6]
      repeat first|intro _|refine ⟨d8,?_⟩
      refine aJ (fun h26=>?_) (fun h26=>?_)
      ·try simp [go_sem] at h26
       have hin:=dQ (aB h26)
       have hk:r.freshE[i].toNat<r.right.graph.edges.length:=by omega
       have hkt:=I.er _ (aB hk)
       have hke:(r.kFE t.nodes.length)[i]'(by omega)=t.nodes.length+r.right.graph.edges[r.freshE[i].toNat].type.toNat:=by simp [Rule.kFE,aA hk]
       obtain ⟨hkl,hst,hbd⟩:=kU (d:=1) V.l3 V.b3 (by omega) (by omega) (show i<(r.kFE t.nodes.length).length by omega) (by rw [hke];omega)
       have hbl:=g9 (yR t r) 1 ((r.kFE t.nodes.length).take i)
       rw [V.l3] at hbl
       simp only [hke] at hkl hst hbd
       have htk:((t.nodes.length:Int)+r.right.graph.edges[r.freshE[i].toNat].type).toNat=t.nodes.length+r.right.graph.edges[r.freshE[i].toNat].type.toNat:=by omega
       try simp [go_sem,seval,dN,dE,dF,dG,htn,htn,dF,dG,dF,dG,F6,g0_6,h26,aA hk,aA hkl,hbl,htk]
       repeat first|intro _|refine ⟨d8,?_⟩
       refine bY (i+1) (by omega) ((hI6 _ _ _).2 ⟨?_,?_,?_,?_,?_,(by (simp [go_sem,dN,dE,dF,dG,htn,htn,dF,dG,dF,dG,F6,g0_6,h26,aA hk,aA hkl,hbl,htk,hst,cK])),?_,(by first|assumption|omega|(simp [go_sem,dN,dE,dF,dG,htn,htn,dF,dG,dF,dG,F6,g0_6,h26,aA hk,aA hkl,hbl,htk,h2,h5,h10,h17,h22];done)|(simp_all<;>omega))⟩)<;>first|omega|(simp [go_sem,seval,dN,dE,dF,dG,htn,htn,dF,dG,dF,dG,F6,g0_6,h26,aA hk,aA hkl,hbl,htk]<;>omega)
      ·try simp [go_sem] at h26
       have hV4:fK (yR t r) ((r.kFE t.nodes.length).take i) 1=KD t r:=by rw [aI (by omega)];rfl
       rw [hV4] at g0_6
       have hl4:=V.l4
       try simp [go_sem,seval,dN,dE,dF,dG,htn,htn,dF,dG,dF,dG,F6,g0_6]
       exact hQ _ _ (by first|(left;(simp [go_sem,dN,dE,dF,dG,htn,htn,dF,dG,dF,dG,F6,g0_6,g8,g7,h5,hNo,hl4]);done)|(right;(simp [go_sem,dN,dE,dF,dG,htn,htn,dF,dG,dF,dG,F6,g0_6,g8,g7,h5,hNo,hl4]);done))
def cL (l:List Int):List D:=[dLI l]
@[go_sem] theorem WT (l:List (List Int)):D.clLL (l.map cL)=true:=dA cL (fun x=>by simp [cL,go_sem]) l
attribute [go_sem] cL
@[go_sem] theorem XX (o:Option Rule)(a1 a2 a3 a4 a5 a6 a7 a8 a9 a10 a11 a12 a13 a14 a15 a16 a17 a18 a19 a20 a21 a22 a23 a24 a25:D):((Option.map Rule.c o).getD [a1,a2,a3,a4,a5,a6,a7,a8,a9,a10,a11,a12,a13,a14,a15,a16,a17,a18,a19,a20,a21,a22,a23,a24,a25]).length=25:=by cases o<;>rfl
theorem Ou {t:Types}{r:Rule}(h:¬ (cW t).2=0):g8 t r=(cW t).2:=by
 have:ruleF t r=(cW t).2:=by unfold ruleF;rw [if_pos h]
 unfold g8;rw [this,if_pos h]
theorem GJ (t:Types)(ht:t.ok)(r:Rule)(hr:r.ok):Pure Tryz.prog 197 [t.d,r.d] (.tup [dLI (g7 t r),dI (g8 t r)]):=by
 refine Tz.pK ⟨fun _=>false,fun _=>[]⟩ Tryz.func197 rfl (fun Q hQ=>?_)
 have Y:=trivial
 refine wv (h:=aC (kK t ht) wl ?_)
 refine d7 (fun h2=>?_) fun h2=>?_
 ·exact wv (h:=hQ _ _ (by simp [go_sem,g7,Ou h2,h2]))
 ·refine wv (h:=aC (y4 t ht r hr) wl ?_)
  have Y:=wa Y h2
  exact wv (h:=hQ _ _ wy)
theorem Ip {A B x y:Int}(hA:0≤A)(hB:0≤B)(hx : -A≤x∧x≤A)(hy : -B≤y∧y≤B) : -(A * B)≤x * y∧x * y≤A * B:=by
 have h1:x.natAbs≤A.natAbs:=by omega
 have h2:y.natAbs≤B.natAbs:=by omega
 have h3:=jO h1 h2
 rw [← Int.natAbs_mul,← Int.natAbs_mul] at h3
 have h4:0≤A * B:=Int.mul_nonneg hA hB
 omega
def kQ (a b:List Int):Nat→Int
 | 0=>0
 | n+1=>kQ a b n+a[n]?.getD 0 * b[n]?.getD 0
@[go_sem] theorem Ut (a b:List Int):kQ a b 0=0:=rfl
def gM (a b:List Int):Int:=kQ a b a.length
theorem Dd {a b:List Int}{A B:Int}(hA:0≤A)(hB:0≤B)(ha:∀ x∈a,-A≤x∧x≤A)(hb:∀ x∈b,-B≤x∧x≤B):∀ n,-(n * (A * B))≤kQ a b n∧kQ a b n≤n * (A * B)
 | 0=>by simp [kQ]
 | n+1=>by
  have ih:=Dd hA hB ha hb n
  have h1 : -A≤a[n]?.getD 0∧a[n]?.getD 0≤A:=by
   cases h:a[n]? with
   | none=>simp;omega
   | some y=>simpa using ha y (aK h)
  have h2 : -B≤b[n]?.getD 0∧b[n]?.getD 0≤B:=by
   cases h:b[n]? with
   | none=>simp;omega
   | some y=>simpa using hb y (aK h)
  have h3:=Ip hA hB h1 h2
  simp only [kQ]
  have h4:((n+1:Nat):Int) * (A * B)=n * (A * B)+A * B:=by rw [Int.natCast_succ,Int.add_mul];simp
  rw [h4]
  generalize (n:Int) * (A * B)=u at *
  generalize A * B=v at *
  generalize a[n]?.getD 0 * b[n]?.getD 0=z at *
  omega
structure ProdOk (a b:List Int):Prop where
 len:a.length≤b.length
 few:a.length≤1000
 ba:∀ x∈a,-100000≤x∧x≤100000
 bb:∀ x∈b,-100000≤x∧x≤100000
theorem EZ {a b:List Int}(h:ProdOk a b){i:Nat}(hi:i<a.length):∃ hb:i<b.length,kQ a b (i+1)=kQ a b i+a[i] * b[i]∧(-10000000000≤a[i] * b[i]∧a[i] * b[i]≤10000000000)∧(-10000000000000≤kQ a b i∧kQ a b i≤10000000000000):=by
 have hb:i<b.length:=cT hi h.len
 have h1:=Ip (by decide) (by decide) (h.ba _ (aB hi)) (h.bb _ (aB hb))
 have h2:=Dd (by decide) (by decide) h.ba h.bb i
 have hf:=h.few
 refine ⟨hb,?_,by omega,by omega⟩
 simp only [kQ,aA hi,aA hb,aD]
theorem Ee (a b:List Int)(h:ProdOk a b):Pure Tryz.prog 357 [dLI a,dLI b] (dI (gM a b)):=by
 refine Tz.pK ⟨fun _=>false,fun _=>[]⟩ Tryz.func357 rfl (fun Q hQ=>?_)
 have Y:=trivial
 refine wv (h:=?_)
 repeat first|intro _|refine ⟨d8,?_⟩
 refine bG (fun i e H=>(e 0=dLI a∧e 1=dLI b∧e 8=dI a.length∧e 5=dI (kQ a b i)∧e 9=dI i)∧(i≤a.length)) (fun i=>a.length - i) 0 ⟨wg,wi⟩ fun I0 hI0 i e H hi0=>?_
 obtain ⟨E0,hi⟩:=hi0
 have Y:=wa Y E0
 refine d7 (fun h3=>?_) fun h3=>?_
 ·obtain ⟨hib,hst,hm,hp⟩:=EZ h h3
  have Y:=wa Y (wa h3 (wa hib hst))
  refine wv (h:=?_)
  repeat first|intro _|refine ⟨d8,?_⟩
  exact wx hI0 (i+1) ⟨wg,wj⟩
 ·exact wv (h:=hQ _ _ (by simp [go_sem,Y,gM,show a.length=i by omega]))
theorem lC (a b:List Int)(h:ProdOk a b):Pure Tryz.prog 113 [dLI a,dLI b] (dI (gM a b)):=by
 refine Tz.pK ⟨fun _=>false,fun _=>[]⟩ Tryz.func113 rfl (fun Q hQ=>?_)
 have Y:=trivial
 refine wv (h:=?_)
 repeat first|intro _|refine ⟨d8,?_⟩
 refine bG (fun i e H=>(e 0=dLI a∧e 1=dLI b∧e 8=dLI a∧e 9=dI a.length∧e 5=dI (kQ a b i)∧e 10=dI i)∧(i≤a.length)) (fun i=>a.length - i) 0 ⟨wg,wi⟩ fun I0 hI0 i e H hi0=>?_
 obtain ⟨E0,hi⟩:=hi0
 have Y:=wa Y E0
 refine d7 (fun h3=>?_) fun h3=>?_
 ·obtain ⟨hib,hst,hm,hp⟩:=EZ h h3
  have Y:=wa Y (wa h3 (wa hib hst))
  refine wv (h:=?_)
  repeat first|intro _|refine ⟨d8,?_⟩
  exact wx hI0 (i+1) ⟨wg,wj⟩
 ·exact wv (h:=hQ _ _ (by simp [go_sem,Y,gM,show a.length=i by omega]))
theorem FD (xs:List (List Int))(g:FuncId)(caps:List D)(p:(List Int)→Bool)(hc:D.clL caps=true)(hg:∀ x∈xs,Pure Tryz.prog g (dLI x :: caps) (.bool (p x))) :
  Pure Tryz.prog 200 [.list (xs.map cL),.fn g caps] (dI (Af xs p)):=by
 refine aP (aH (cfg:=⟨fun _=>false,fun _=>[]⟩) Tz.mixed Tryz.func200 rfl rfl (aE rfl) (by kernel_rfl) ?_)
 simp [go_sem,seval,dI,dLI]
 intro hlen
 refine eO (ι:=Nat) (fun i e H=>H=.emp∧i≤xs.length∧e 0=.list (xs.map cL)∧e 1=.fn g caps∧e 7=dI xs.length∧e 8=dI i∧(∀ j x,j<i→xs[j]?=some x→p x=false)) (fun i=>xs.length - i) 0 (by simp [go_sem,seval,dI,dLI]) ?_
 intro i e H ⟨hH,hi,h0,h1,h7,h8,hn⟩
 subst hH
 simp [go_sem,seval,h0,h1,h7,h8,dI,dLI]
 refine eZ (fun hlt=>?_) (fun hge=>?_)
 ·have hgx:=hg xs[i] (aB hlt)
  simp [go_sem,seval,h0,h1,h7,h8,dI,dLI,hlt,cL] at hgx ⊢
  refine aC hgx (by simp [go_sem,hc]) ?_
  simp [go_sem,seval,h0,h1,h7,h8,dI,dLI]
  refine aJ (fun h=>?_) (fun h=>?_)
  ·simp [go_sem,seval,h0,h1,h7,h8,dI,dLI]
   rw [k9 hn hlt h]
  ·simp [go_sem,seval,h0,h1,h7,h8,dI,dLI]
   refine ⟨c3 (by omega) (by omega),i+1,by omega,by omega,by omega,fun j x hj hx=>?_⟩
   rcases b8 j i with hj'|hj'
   ·exact hn j x hj' hx
   ·have:j=i:=by omega
    subst this
    rw [aA hlt] at hx
    cases hx;exact h
 ·simp [go_sem,seval,h0,h1,h7,h8,dI,dLI]
  rw [lA fun j x hj=>hn j x (by omega)]
theorem m6 (xs:List (List Int))(g:FuncId)(caps:List D)(p:(List Int)→Bool)(hc:D.clL caps=true)(hl:D.cl (.list (xs.map cL))=true)(hg:∀ x∈xs,Pure Tryz.prog g (dLI x :: caps) (.bool (p x))) :
  Pure Tryz.prog 115 [.list (xs.map cL),.fn g caps] (.bool (xs.any p)):=by
 refine aP (aH (cfg:=⟨fun _=>false,fun _=>[]⟩) Tz.mixed Tryz.func115 rfl rfl (aE rfl) (by kernel_rfl) ?_)
 simp [go_sem,seval]
 refine aC (FD xs g caps p hc hg) (by simp only [D.clL,hl,dU];simp [D.cl,hc]) ?_
 simp [go_sem,seval,dI,mZ]
def jS (n:Nat)(ls:List (List Int)):List Int:=((List.range n).filter fun (k:Nat)=>ls.any fun l=>decide (l[k]?.getD 0≠0)).map fun (k:Nat)=>(k:Int)
def fT (t:Types)(rs:List Rule):Int :=
 if (cW t).2≠0 then (cW t).2
 else if 6<rs.length then 3
 else if dL (g8 t) rs≠0 then dL (g8 t) rs
 else if 6<(jS (t.nodes.length+t.edges.length) (rs.map (g7 t))).length then 3 else 0
def gC (t:Types)(rs:List Rule):List (List Int):=if fT t rs=0 then rs.map (g7 t) else []
def Bl (t:Types)(rs:List Rule):List Int:=if fT t rs=0 then jS (t.nodes.length+t.edges.length) (rs.map (g7 t)) else []
theorem FW {t:Types}{r:Rule}(h:g8 t r=0):(g7 t r).length=t.nodes.length+t.edges.length:=by
 unfold g7;rw [if_pos h];exact (Ri t r).l4
theorem Ot {t:Types}{r:Rule}:∀ x∈g7 t r,-100000≤x∧x≤100000:=by
 unfold g7
 split
 ·rename_i h
  have hr:ruleF t r=0:=by
   unfold g8 at h
   split at h
   ·rename_i h1;exact absurd h h1
   ·rename_i h1;omega
  have I:=EB hr
  have hgl:=bZ I.gl
  have hgr:=bZ I.gr
  have lN:r.goneN.length≤r.left.graph.nodes.length:=eG r.keep.nodes r.left.graph.nodes.length
  have lE:r.goneE.length≤r.left.graph.edges.length:=eG r.keep.edges r.left.graph.edges.length
  have lF:r.freshN.length≤r.right.graph.nodes.length:=eG r.into.nodes r.right.graph.nodes.length
  have lG:r.freshE.length≤r.right.graph.edges.length:=eG r.into.edges r.right.graph.edges.length
  have k1:r.kGN.length=r.goneN.length:=by simp [Rule.kGN]
  have k2:(r.kGE t.nodes.length).length=r.goneE.length:=by simp [Rule.kGE]
  have k3:r.kFN.length=r.freshN.length:=by simp [Rule.kFN]
  have k4:(r.kFE t.nodes.length).length=r.freshE.length:=by simp [Rule.kFE]
  intro x hx
  have:=(Ri t r).b4 x hx
  omega
 ·intro x hx;cases hx
theorem DG (l:List Int)(k:Nat)(hk:k<l.length):Pure Tryz.prog 354 [dLI l,.adr [dI k]] (.bool (decide (l[k]?.getD 0≠0))):=by
 refine Tz.pK ⟨fun _=>false,fun _=>[]⟩ Tryz.func354 rfl (fun Q hQ=>?_)
 have Y:=wa (aA hk) hk
 exact wo (h:=hQ _ _ wy)
theorem Eg (t:Types)(ht:t.ok)(rs:List Rule)(hr:∀ r∈rs,r.ok):Pure Tryz.prog 283 [t.d,.list (rs.map Rule.c)] (.tup [.list ((gC t rs).map cL),dLI (Bl t rs),dI (fT t rs)]):=by
 refine Tz.pK ⟨fun t=>t==9||t==11||t==14||t==15,fun _=>[]⟩ Tryz.func283 rfl (fun Q hQ=>?_)
 have Y:=trivial
 refine wv (h:=aC (kK t ht) wl ?_)
 refine d7 (fun h2=>?_) fun h2=>?_
 ·exact wv (h:=hQ _ _ (by simp [go_sem,fT,gC,Bl,h2]))
 ·refine eJ (fun h4=>?_) fun h4=>?_
  ·exact wv (h:=hQ _ _ (by simp [go_sem,fT,gC,Bl,h2];omega))
  ·have hv:=fF h2
   have hN:=hv.fewN
   have hE:=hv.fewE
   refine wo (h:=bG (fun i e H=>∃ xs:List (List Int),(e 2=.adr t.c∧e 1=.list (rs.map Rule.c)∧e 9=.own 0 xs.length∧e 27=.list (rs.map Rule.c)∧e 28=dI rs.length∧e 29=dI i)∧(H.get 0=some ⟨34,1,xs.map cL,false⟩)∧(0<H.next)∧(i≤rs.length)∧(xs=(rs.take i).map (g7 t))∧(∀ r∈rs.take i,g8 t r=0)∧(dL (g8 t) (rs.drop i)=dL (g8 t) rs)) (fun i=>rs.length - i) 0 ⟨([]),wg,wn,wn,wi,(by rfl),(by (intro r hr';simp at hr')),(by rfl)⟩ fun I0 hI0 i e H hi0=>?_)
   obtain ⟨xs,E0,g0_0,n0_0,hi,hx,hz,hL⟩:=hi0
   have Y:=wa Y (wa E0 (wa g0_0 (cG n0_0)))
   refine d7 (fun h8=>?_) fun h8=>?_
   ·have hst:=hL
    rw [e9 _ h8] at hst
    have hxl:xs.length=i:=by rw [hx];simp;omega
    have Y:=wa Y h8
    refine wo (h:=aC (y4 t ht rs[i] (hr _ (aB h8))) wl ?_)
    refine eJ (fun h11=>?_) fun h11=>?_
    ·rw [if_pos (by omega)] at hst
     exact wv (h:=hQ _ _ (by simp [go_sem,fT,gC,Bl,h2,← hst,h11,show ¬ 6<rs.length by omega]))
    ·rw [if_neg (by omega)] at hst
     have hz':∀ r∈rs.take (i+1),g8 t r=0:=fun r hr'=>by
      rw [aF h8,bD] at hr'
      rcases hr' with h|h
      ·exact hz r h
      ·simp at h;subst h;omega
     exact wo (h:=wx hI0 (i+1) ⟨(xs++[g7 t rs[i]]),wg,wn,wn,wj,(by (rw [fJ _ h8,← hx])),(by (exact hz')),(by exact hst)⟩)
   ·have hX:xs=rs.map (g7 t):=by rw [hx,gH _ (by omega)]
    have hL0:dL (g8 t) rs=0:=by rw [← hL,fM _ (by omega)]
    rw [aI (by omega)] at hz
    have hlen:∀ l∈xs,l.length=t.nodes.length+t.edges.length:=fun l hl=>by
     rw [hX,aU] at hl
     obtain ⟨r,h1,rfl⟩:=hl
     exact FW (hz r h1)
    refine wo (h:=bG (fun k e H=>∃ j:Nat,∃ ys:List Int,(e 2=.adr t.c∧e 1=.list (rs.map Rule.c)∧e 9=.own 0 xs.length∧e 14=.own j ys.length∧e 53=dI ((t.nodes.length+t.edges.length:Nat):Int)∧e 54=dI k)∧(H.get 0=some ⟨34,1,xs.map cL,false⟩)∧(0<H.next)∧(H.get j=some ⟨3,1,ys.map cI,false⟩)∧(j<H.next)∧(k≤t.nodes.length+t.edges.length)∧(ys.length≤k)∧(ys=((List.range k).filter fun (k:Nat)=>xs.any fun l=>decide (l[k]?.getD 0≠0)).map (fun (b:Nat)=>(b:Int)))∧(j≠0)) (fun k=>t.nodes.length+t.edges.length - k) 0 ⟨H.next,([]),wg,wn,wn,wn,wn,wi,(by simp),(by rfl),(by omega)⟩ fun I2 hI2 k e H hi2=>?_)
    obtain ⟨j,ys,E2,g0_2,n0_2,gj_2,nj_2,hk,hyl,hy,j0⟩:=hi2
    have Y:=wa Y (wa E2 (wa g0_2 (wa (cG n0_2) (wa gj_2 (wa (cG nj_2) (wa j0 j0.symm))))))
    refine d7 (fun h17=>?_) fun h17=>?_
    ·have Y:=wa Y h17
     refine wv (h:=mA ((m6 xs 354 [.adr [dI k]] (fun l=>decide (l[k]?.getD 0≠0)) (by simp [go_sem]) (by simp [go_sem]) (fun l hl=>DG l k (by have:=hlen l hl;omega)))) wr wl rfl ?_)
     refine d7 (fun h19=>?_) fun h19=>?_
     ·have Y:=wa Y h19
      exact wo (h:=wx hI2 (k+1) ⟨j,(ys++(if (xs.any fun l=>decide (l[k]?.getD 0≠0))=true then [(k:Int)] else [])),wg,wn,wn,wn,wn,wj,(by (rw [aG];split<;>simp<;>omega)),(by (rw [bN,← hy])),wj⟩)
     ·have Y:=wa Y h19
      exact wo (h:=wx hI2 (k+1) ⟨j,(ys++(if (xs.any fun l=>decide (l[k]?.getD 0≠0))=true then [(k:Int)] else [])),wg,wn,wn,wn,wn,wj,(by (rw [aG];split<;>simp<;>omega)),(by (rw [bN,← hy])),wj⟩)
    ·have hY:ys=jS (t.nodes.length+t.edges.length) (rs.map (g7 t)):=by rw [hy,hX,show k=t.nodes.length+t.edges.length by omega];rfl
     have hY':jS (t.nodes.length+t.edges.length) xs=ys:=by rw [hY,hX]
     refine eJ (fun h22=>?_) fun h22=>?_
     ·exact wv (h:=hQ _ _ (by simp [go_sem,fT,gC,Bl,h2,hL0,← hY];omega))
     ·exact wv (h:=hQ _ _ (by simp [go_sem,Y,fT,gC,Bl,h2,hL0,← hX,hY',show (6<rs.length)=False from eq_false (by omega),show (6<ys.length)=False from eq_false (by omega)]))
theorem GX (n:Nat)(hn:n≤100000)(ls:List (List Int))(hl:∀ l∈ls,l.length=n):Pure Tryz.prog 195 [dI n,.list (ls.map cL)] (dLI (jS n ls)):=by
 refine Tz.pK ⟨fun t=>t==5,fun _=>[]⟩ Tryz.func195 rfl (fun Q hQ=>?_)
 try simp [go_sem,seval]
 obtain ⟨I0,hI0⟩:∃ I0:Nat→cY→AHeap→Prop,∀ (k:Nat) (e:cY) (H:AHeap),I0 k e H↔(∃ ys:List Int,(e 0=dI n)∧(e 1=.list (ls.map cL))∧(e 5=.own 0 ys.length)∧(e 6=dI k)∧(H.get 0=some ⟨3,1,ys.map cI,false⟩)∧(0<H.next)∧(k≤n)∧(ys.length≤k)∧(ys=((List.range k).filter fun (k:Nat)=>ls.any fun l=>decide (l[k]?.getD 0≠0)).map (fun (b:Nat)=>(b:Int)))):=⟨fun k e H=>_,fun _ _ _=>Iff.rfl⟩
 refine fZ I0 (fun k=>n - k) (0) ((hI0 _ _ _).2 ⟨([]),?_,?_,?_,?_,?_,?_,(by first|assumption|omega|(simp [go_sem];done)|(simp_all;done)),(by simp),(by rfl)⟩) ?_
 iterate 6 (first|omega|(simp [go_sem,seval]<;>omega))
 intro k e H hi0
 obtain ⟨ys,q0_0,q1_0,q5_0,q6_0,g0_0,n0_0,hk,hyl,hy⟩:=(hI0 _ _ _).1 hi0
 have x0:=cG n0_0
 have F0:=And.intro q0_0 (And.intro q1_0 (And.intro q5_0 (And.intro q6_0 (And.intro g0_0 x0))))
 try simp [go_sem,seval,F0]
 refine aJ (fun h3=>?_) (fun h3=>?_)
 ·try simp [go_sem] at h3
  try simp [go_sem,seval,F0,h3]
  obtain ⟨I2,hI2⟩:∃ I2:Nat→cY→AHeap→Prop,∀ (i:Nat) (e:cY) (H:AHeap),I2 i e H↔((e 0=dI n)∧(e 1=.list (ls.map cL))∧(e 5=.own 0 ys.length)∧(e 6=dI k)∧(e 7=.bool ((ls.take i).any fun l=>decide (l[k]?.getD 0≠0)))∧(e 8=dI i)∧(H.get 0=some ⟨3,1,ys.map cI,false⟩)∧(0<H.next)∧(i≤ls.length)):=⟨fun i e H=>_,fun _ _ _=>Iff.rfl⟩
  refine fZ I2 (fun i=>ls.length - i) (0) ((hI2 _ _ _).2 ⟨?_,?_,?_,?_,?_,?_,?_,?_,(by first|assumption|omega|(simp [go_sem,F0,h3];done)|(simp_all;done))⟩) ?_
  iterate 8 (first|omega|(simp [go_sem,seval,F0,h3]<;>omega))
  intro i e H hi2
  obtain ⟨q0_2,q1_2,q5_2,q6_2,q7_2,q8_2,g0_2,n0_2,hi⟩:=(hI2 _ _ _).1 hi2
  have x0:=cG n0_2
  have F2:=And.intro q0_2 (And.intro q1_2 (And.intro q5_2 (And.intro q6_2 (And.intro q8_2 (And.intro g0_2 x0)))))
  try simp [go_sem,seval,h3,F2,q7_2]
  repeat first|intro _|refine ⟨d8,?_⟩
  refine aJ (fun h7=>?_) (fun h7=>?_)
  ·try simp [go_sem] at h7
   have hlk:k<(ls[i]'(by omega)).length:=by rw [hl _ (aB h7)];omega
   have hts:=cC ls (fun l=>decide (l[k]?.getD 0≠0)) i h7
   simp only [ne_eq,decide_not,aA hlk,aD] at hts
   have hts2:(ls[i][k] != 0) = !decide (ls[i][k]=0):=rfl
   try simp [go_sem,seval,h3,F2,q7_2,h7,aA hlk,hts,hts2,-List.any_eq_true]
   repeat first|intro _|refine ⟨d8,?_⟩
   refine bY (i+1) (by omega) ((hI2 _ _ _).2 ⟨?_,?_,?_,?_,?_,?_,?_,?_,(by first|assumption|omega|(simp [go_sem,h3,F2,q7_2,h7,aA hlk,hts,hts2,-List.any_eq_true];done)|(simp_all<;>omega))⟩)<;>first|omega|(simp [go_sem,seval,h3,F2,q7_2,h7,aA hlk,hts,hts2,-List.any_eq_true]<;>omega)
  ·try simp [go_sem] at h7
   have hU:ls.take i=ls:=aI h7
   rw [hU] at q7_2
   try simp [go_sem,seval,h3,F2,q7_2]
   refine aJ (fun h10=>?_) (fun h10=>?_)
   ·try simp [go_sem] at h10
    try simp [go_sem,seval,h3,F2,q7_2,h10]
    repeat first|intro _|refine ⟨d8,?_⟩
    refine bY (k+1) (by omega) ((hI0 _ _ _).2 ⟨(ys++(if (ls.any fun l=>decide (l[k]?.getD 0≠0))=true then [(k:Int)] else [])),?_,?_,?_,?_,?_,?_,(by first|assumption|omega|(simp [go_sem,h3,F2,q7_2,h10,h7];done)|(simp_all<;>omega)),(by (rw [aG];split<;>simp<;>omega)),(by (rw [bN,← hy]))⟩)<;>first|omega|(simp [go_sem,seval,h3,F2,q7_2,h10]<;>omega)
   ·try simp [go_sem] at h10
    try simp [go_sem,seval,h3,F2,q7_2,h10]
    repeat first|intro _|refine ⟨d8,?_⟩
    refine bY (k+1) (by omega) ((hI0 _ _ _).2 ⟨(ys++(if (ls.any fun l=>decide (l[k]?.getD 0≠0))=true then [(k:Int)] else [])),?_,?_,?_,?_,?_,?_,(by first|assumption|omega|(simp [go_sem,h3,F2,q7_2,h10,h7];done)|(simp_all<;>omega)),(by (rw [aG];split<;>simp<;>omega)),(by (rw [bN,← hy]))⟩)<;>first|omega|(simp [go_sem,seval,h3,F2,q7_2,h10]<;>omega)
 ·try simp [go_sem] at h3
  try simp [go_sem,seval,F0]
  exact hQ _ _ (by first|(left;(simp [go_sem,F0,jS];rw [hy,show k=n by omega];simp);done)|(right;(simp [go_sem,F0,jS];rw [hy,show k=n by omega];simp);done))
theorem GY (t:Types)(ht:t.ok)(rs:List Rule)(hr:∀ r∈rs,r.ok):Pure Tryz.prog 105 [t.d,.list (rs.map Rule.c)] (.tup [.list ((gC t rs).map cL),dI (fT t rs)]):=by
 refine Tz.pK ⟨fun t=>t==8,fun _=>[]⟩ Tryz.func105 rfl (fun Q hQ=>?_)
 have Y:=trivial
 refine wv (h:=aC (kP t ht) wl ?_)
 refine d7 (fun h2=>?_) fun h2=>?_
 ·exact wv (h:=hQ _ _ (by simp [go_sem,fT,gC,h2]))
 ·refine eJ (fun h4=>?_) fun h4=>?_
  ·exact wv (h:=hQ _ _ (by simp [go_sem,fT,gC,h2];omega))
  ·have hv:=fF h2
   have hN:=hv.fewN
   have hE:=hv.fewE
   refine wv (h:=bG (fun i e H=>∃ xs:List (List Int),(e 2=.adr t.c∧e 1=.list (rs.map Rule.c)∧e 8=.own 0 xs.length∧e 9=dI i)∧(H.get 0=some ⟨34,1,xs.map cL,false⟩)∧(0<H.next)∧(i≤rs.length)∧(xs=(rs.take i).map (g7 t))∧(∀ r∈rs.take i,g8 t r=0)∧(dL (g8 t) (rs.drop i)=dL (g8 t) rs)) (fun i=>rs.length - i) 0 ⟨([]),wg,wn,wn,wi,(by rfl),(by (intro r hr';simp at hr')),(by rfl)⟩ fun I0 hI0 i e H hi0=>?_)
   obtain ⟨xs,E0,g0_0,n0_0,hi,hx,hz,hL⟩:=hi0
   have Y:=wa Y (wa E0 (wa g0_0 (cG n0_0)))
   refine eJ (fun h8=>?_) fun h8=>?_
   ·have hst:=hL
    rw [e9 _ h8] at hst
    have hxl:xs.length=i:=by rw [hx];simp;omega
    have Y:=wa Y h8
    refine wo (h:=aM (JA t ht rs[i] (hr _ (aB h8))) wl ?_)
    refine eJ (fun h11=>?_) fun h11=>?_
    ·rw [if_pos (by omega)] at hst
     exact wv (h:=hQ _ _ (by simp [go_sem,fT,gC,h2,← hst,h11,show ¬ 6<rs.length by omega]))
    ·rw [if_neg (by omega)] at hst
     have hz':∀ r∈rs.take (i+1),g8 t r=0:=fun r hr'=>by
      rw [aF h8,bD] at hr'
      rcases hr' with h|h
      ·exact hz r h
      ·simp at h;subst h;omega
     exact wo (h:=wx hI0 (i+1) ⟨(xs++[g7 t rs[i]]),wg,wn,wn,wj,(by (rw [fJ _ h8,← hx])),(by (exact hz')),(by exact hst)⟩)
   ·have hX:xs=rs.map (g7 t):=by rw [hx,gH _ (by omega)]
    have hL0:dL (g8 t) rs=0:=by rw [← hL,fM _ (by omega)]
    rw [aI (by omega)] at hz
    have hlen:∀ l∈xs,l.length=t.nodes.length+t.edges.length:=fun l hl=>by
     rw [hX,aU] at hl
     obtain ⟨r,h1,rfl⟩:=hl
     exact FW (hz r h1)
    refine wo (h:=sF (GX (t.nodes.length+t.edges.length) (by omega) xs hlen) wz wl wz ?_)
    refine eJ (fun h14=>?_) fun h14=>?_
    ·exact wv (h:=hQ _ _ (by simp [go_sem,fT,gC,h2,hL0,← hX];omega))
    ·exact wv (h:=hQ _ _ (by simp [go_sem,Y,fT,gC,h2,hL0,← hX,show (6<rs.length)=False from eq_false (by omega),show (6<(jS (t.nodes.length+t.edges.length) xs).length)=False from eq_false (by omega)]))
def iH (t:Types)(g:Graph)(x:Edge):Int:=if (t.edges.length:Int)≤x.type then 6 else if l9 t x.type (gN g x.from_) (gN g x.to_)=true then 0 else 13
def dC (t:Types)(g:Graph):Int :=
 if (cW t).2≠0 then (cW t).2
 else if graphF g≠0 then graphF g
 else if (g.nodes.any fun a=>decide ((t.nodes.length:Int)≤a))=true then 6
 else dL (iH t g) g.edges
theorem zV {t : Types} {g : Graph} (h : dC t g = 0) : (cW t).2 = 0 ∧ graphF g = 0 ∧ (∀ a ∈ g.nodes, 0 ≤ a ∧ a < t.nodes.length) ∧ ∀ x ∈ g.edges, iH t g x = 0 := by
  unfold dC at h
  split at h
  · rename_i h1; exact absurd h h1
  · split at h
    · rename_i h1; exact absurd h h1
    · split at h
      · cases h
      · rename_i h1 h2 h3
        have hg := eP (show graphF g = 0 by omega)
        refine ⟨by omega, by omega, fun a ha => ⟨(hg.1 a ha).1, ?_⟩, ?_⟩
        · simp at h3; exact h3 a ha
        · have : ∀ l : List Edge, dL (iH t g) l = 0 → ∀ x ∈ l, iH t g x = 0 := by
            intro l
            induction l with
            | nil => intro _ x hx; cases hx
            | cons a l ih =>
              intro h x hx
              simp only [dL] at h
              split at h
              · rename_i h4; exact absurd h h4
              · rename_i h4
                rcases bB.1 hx with rfl | hx
                · omega
                · exact ih h x hx
          exact this _ h
theorem vH (t:Types)(ht:t.ok)(g:Graph):Pure Tryz.prog 118 [t.d,g.d] (dI (dC t g)):=by
 refine Tz.pK ⟨fun t=>t==11,fun _=>[]⟩ Tryz.func118 rfl (fun Q hQ=>?_)
 have Y:=trivial
 refine wv (h:=aC (kK t ht) wl ?_)
 refine d7 (fun h2=>?_) fun h2=>?_
 ·exact wv (h:=hQ _ _ (by simp [go_sem,dC,h2]))
 ·refine wv (h:=aC (kS g) wl ?_)
  refine d7 (fun h5=>?_) fun h5=>?_
  ·exact wv (h:=hQ _ _ (by simp [go_sem,dC,h2,h5]))
  ·have hg:=eP h5
   have hle:=bZ h5
   refine wo (h:=bG (fun i e H=>(e 2=.adr t.c∧e 3=.adr g.c∧e 26=dLI g.nodes∧e 27=dI g.nodes.length∧e 28=dI i)∧(i≤g.nodes.length)∧(((g.nodes.take i).any fun a=>decide ((t.nodes.length:Int)≤a))=false)) (fun i=>g.nodes.length - i) 0 ⟨wg,wi,(by rfl)⟩ fun I0 hI0 i e H hi0=>?_)
   obtain ⟨E0,hi,ha⟩:=hi0
   have Y:=wa Y E0
   refine d7 (fun h8=>?_) fun h8=>?_
   ·have Y:=wa Y h8
    refine eJ (fun h10=>?_) fun h10=>?_
    ·refine wv (h:=?_)
     have hb:(g.nodes.any fun a=>decide ((t.nodes.length:Int)≤a))=true:=List.any_eq_true.2 ⟨_,aB h8,by simp;omega⟩
     have hT:dC t g=6:=by unfold dC;rw [if_neg (by omega),if_neg (by omega),if_pos hb]
     exact hQ _ _ (by simp [go_sem,hT])
    ·exact wo (h:=wx hI0 (i+1) ⟨wg,wj,(by (rw [cC _ _ _ h8,ha];simp;omega))⟩)
   ·have hN:=iO ha h8
    have hT:dC t g=dL (iH t g) g.edges:=by unfold dC;rw [if_neg (by omega),if_neg (by omega),if_neg (by rw [hN];simp)]
    refine wo (h:=bG (fun k e H=>(e 2=.adr t.c∧e 3=.adr g.c∧e 39=.list (g.edges.map Edge.c)∧e 40=dI g.edges.length∧e 41=dI k)∧(k≤g.edges.length)∧(dL (iH t g) (g.edges.drop k)=dC t g)) (fun k=>g.edges.length - k) 0 ⟨wg,wi,(by (exact hT.symm))⟩ fun I2 hI2 k e H hi2=>?_)
    obtain ⟨E2,hk,hL⟩:=hi2
    have Y:=wa Y E2
    refine d7 (fun h14=>?_) fun h14=>?_
    ·have hst:=hL
     rw [e9 _ h14] at hst
     have he:=hg.2 _ (aB h14)
     have hf:g.edges[k].from_.toNat<g.nodes.length:=by omega
     have hto:g.edges[k].to_.toNat<g.nodes.length:=by omega
     have hgf:gN g g.edges[k].from_=g.nodes[g.edges[k].from_.toNat]:=by simp [gN,aA hf]
     have hgt:gN g g.edges[k].to_=g.nodes[g.edges[k].to_.toNat]:=by simp [gN,aA hto]
     have Y:=wa Y (wa h14 (wa (aA hf) (aA hto)))
     refine eJ (fun h16=>?_) fun h16=>?_
     ·have hE:iH t g g.edges[k]=6:=if_pos (by omega)
      rw [hE,if_pos (by omega)] at hst
      exact wv (h:=hQ _ _ (by simp [go_sem,← hst]))
     ·refine wo (h:=aM (zU t ht _ _ _) wl ?_)
      refine eJ (fun h18=>?_) fun h18=>?_
      ·have hE:iH t g g.edges[k]=13:=by unfold iH;rw [if_neg (by omega),if_neg (by rw [hgf,hgt,h18];simp)]
       rw [hE,if_pos (by omega)] at hst
       exact wv (h:=hQ _ _ (by simp [go_sem,← hst]))
      ·have hE:iH t g g.edges[k]=0:=by unfold iH;rw [if_neg (by omega),if_pos (by rw [hgf,hgt,h18])]
       rw [hE,if_neg (by omega)] at hst
       exact wo (h:=wx hI2 (k+1) ⟨wg,wj,(by exact hst)⟩)
    ·refine wv (h:=?_)
     have hT0:dC t g=0:=by rw [← hL,fM _ (by omega)]
     exact hQ _ _ (by simp [go_sem,hT0])
theorem Ji (t:Types)(ht:t.ok)(g:Graph):Pure Tryz.prog 120 [t.d,g.d] (dI (dC t g)):=by
 refine Tz.pK ⟨fun t=>t==11,fun _=>[]⟩ Tryz.func120 rfl (fun Q hQ=>?_)
 have Y:=trivial
 refine wv (h:=aC (kK t ht) wl ?_)
 refine d7 (fun h2=>?_) fun h2=>?_
 ·exact wv (h:=hQ _ _ (by simp [go_sem,dC,h2]))
 ·refine wv (h:=aC (kS g) wl ?_)
  refine d7 (fun h5=>?_) fun h5=>?_
  ·exact wv (h:=hQ _ _ (by simp [go_sem,dC,h2,h5]))
  ·have hg:=eP h5
   have hle:=bZ h5
   refine wo (h:=bG (fun i e H=>(e 2=.adr t.c∧e 3=.adr g.c∧e 26=dLI g.nodes∧e 27=dI g.nodes.length∧e 28=dI i)∧(i≤g.nodes.length)∧(((g.nodes.take i).any fun a=>decide ((t.nodes.length:Int)≤a))=false)) (fun i=>g.nodes.length - i) 0 ⟨wg,wi,(by rfl)⟩ fun I0 hI0 i e H hi0=>?_)
   obtain ⟨E0,hi,ha⟩:=hi0
   have Y:=wa Y E0
   refine d7 (fun h8=>?_) fun h8=>?_
   ·have Y:=wa Y h8
    refine eJ (fun h10=>?_) fun h10=>?_
    ·refine wv (h:=?_)
     have hb:(g.nodes.any fun a=>decide ((t.nodes.length:Int)≤a))=true:=List.any_eq_true.2 ⟨_,aB h8,by simp;omega⟩
     have hT:dC t g=6:=by unfold dC;rw [if_neg (by omega),if_neg (by omega),if_pos hb]
     exact hQ _ _ (by simp [go_sem,hT])
    ·exact wo (h:=wx hI0 (i+1) ⟨wg,wj,(by (rw [cC _ _ _ h8,ha];simp;omega))⟩)
   ·have hN:=iO ha h8
    have hT:dC t g=dL (iH t g) g.edges:=by unfold dC;rw [if_neg (by omega),if_neg (by omega),if_neg (by rw [hN];simp)]
    refine wo (h:=bG (fun k e H=>(e 2=.adr t.c∧e 3=.adr g.c∧e 39=.list (g.edges.map Edge.c)∧e 40=dI g.edges.length∧e 41=dI k)∧(k≤g.edges.length)∧(dL (iH t g) (g.edges.drop k)=dC t g)) (fun k=>g.edges.length - k) 0 ⟨wg,wi,(by (exact hT.symm))⟩ fun I2 hI2 k e H hi2=>?_)
    obtain ⟨E2,hk,hL⟩:=hi2
    have Y:=wa Y E2
    refine d7 (fun h14=>?_) fun h14=>?_
    ·have hst:=hL
     rw [e9 _ h14] at hst
     have he:=hg.2 _ (aB h14)
     have hf:g.edges[k].from_.toNat<g.nodes.length:=by omega
     have hto:g.edges[k].to_.toNat<g.nodes.length:=by omega
     have hgf:gN g g.edges[k].from_=g.nodes[g.edges[k].from_.toNat]:=by simp [gN,aA hf]
     have hgt:gN g g.edges[k].to_=g.nodes[g.edges[k].to_.toNat]:=by simp [gN,aA hto]
     have Y:=wa Y (wa h14 (wa (aA hf) (aA hto)))
     refine eJ (fun h16=>?_) fun h16=>?_
     ·have hE:iH t g g.edges[k]=6:=if_pos (by omega)
      rw [hE,if_pos (by omega)] at hst
      exact wv (h:=hQ _ _ (by simp [go_sem,← hst]))
     ·refine wo (h:=aM (zU t ht _ _ _) wl ?_)
      refine eJ (fun h18=>?_) fun h18=>?_
      ·have hE:iH t g g.edges[k]=13:=by unfold iH;rw [if_neg (by omega),if_neg (by rw [hgf,hgt,h18];simp)]
       rw [hE,if_pos (by omega)] at hst
       exact wv (h:=hQ _ _ (by simp [go_sem,← hst]))
      ·have hE:iH t g g.edges[k]=0:=by unfold iH;rw [if_neg (by omega),if_pos (by rw [hgf,hgt,h18])]
       rw [hE,if_neg (by omega)] at hst
       exact wo (h:=wx hI2 (k+1) ⟨wg,wj,(by exact hst)⟩)
    ·refine wv (h:=?_)
     have hT0:dC t g=0:=by rw [← hL,fM _ (by omega)]
     exact hQ _ _ (by simp [go_sem,hT0])
def oddB (a:Int):Bool:=decide (a<0)||decide (1000<a)
def natB (l:List Int)(n:Int):Bool:=decide ((l.length:Int)=n)&&!l.any oddB
theorem Te {l:List Int}{n:Int}(h:natB l n=true):l.length=n∧∀ a∈l,0≤a∧a≤1000:=by
 simp [natB,oddB] at h
 exact ⟨h.1,fun a ha=>by have:=h.2 a ha;omega⟩
theorem DF (a:Int):Pure Tryz.prog 207 [dI a] (.bool (oddB a)):=by
 refine Tz.pK ⟨fun _=>false,fun _=>[]⟩ Tryz.func207 rfl (fun Q hQ=>?_)
 have Y:=trivial
 have Y:=wa Y @oddB.eq_1
 exact wo (h:=hQ _ _ wy)
theorem Ef (l:List Int)(n:Int):Pure Tryz.prog 121 [dLI l,dI n] (.bool (natB l n)):=by
 refine Tz.pK ⟨fun _=>false,fun _=>[]⟩ Tryz.func121 rfl (fun Q hQ=>?_)
 have Y:=trivial
 refine wo (h:=aN (fun hg=>fP l 207 [] oddB (by simp [go_sem]) (by simp [go_sem]) (fun a _=>DF a)) (fun hg=>wl) ?_)
 have Y:=wa Y @natB.eq_1
 exact wo (h:=hQ _ _ wy)
def wN (ws:List Int)(a:Int):Int:=ws[a.toNat]?.getD 0
def wE (ws:List Int)(n:Nat)(x:Edge):Int:=ws[((n:Int)+x.type).toNat]?.getD 0
def wG (t:Types)(ws:List Int)(g:Graph):Int:=(g.nodes.map (wN ws)).sum+(g.edges.map (wE ws t.nodes.length)).sum
def jF (t:Types)(ws:List Int)(g:Graph):Int :=
 if dC t g≠0 then dC t g
 else if (ws.length:Int)≠t.nodes.length+t.edges.length then 20
 else if natB ws (t.nodes.length+t.edges.length)=false then 6
 else 0
def mL (t:Types)(ws:List Int)(g:Graph):Int:=if jF t ws g=0 then wG t ws g else 0
theorem sM {α:Type}(l:List α)(f:α→Int){i:Nat}(h:i<l.length):((l.take (i+1)).map f).sum=((l.take i).map f).sum+f l[i]:=by
 rw [aF h,List.map_append,List.sum_append];simp
theorem QS {t:Types}{g:Graph}{x:Edge}(h:iH t g x=0):x.type<t.edges.length:=by
 unfold iH at h
 split at h
 ·cases h
 ·omega
theorem HF (t:Types)(ht:t.ok)(ws:List Int)(g:Graph):Pure Tryz.prog 55 [t.d,dLI ws,g.d] (.tup [dI (mL t ws g),dI (jF t ws g)]):=by
 refine Tz.pK ⟨fun t=>t==14,fun _=>[]⟩ Tryz.func55 rfl (fun Q hQ=>?_)
 have Y:=trivial
 refine wv (h:=aC (Ji t ht g) wl ?_)
 refine d7 (fun h2=>?_) fun h2=>?_
 ·refine wv (h:=?_)
  have hw:jF t ws g=dC t g:=if_pos h2
  exact hQ _ _ (by simp [go_sem,mL,hw,h2])
 ·have hT:=zV h2
  have hle:=bZ hT.2.1
  have hv:=fF hT.1
  have hN:=hv.fewN
  have hE:=hv.fewE
  refine eJ (fun h5=>?_) fun h5=>?_
  ·have hw:jF t ws g=20:=by unfold jF;rw [if_neg (by omega),if_pos (by omega)]
   exact wv (h:=hQ _ _ (by simp [go_sem,mL,hw]))
  ·refine wo (h:=aC (Ef ws _) wl ?_)
   refine eJ (fun h7=>?_) fun h7=>?_
   ·have hw:jF t ws g=6:=by unfold jF;rw [if_neg (by omega),if_neg (by omega),if_pos (by simpa [h5] using h7)]
    exact wv (h:=hQ _ _ (by simp [go_sem,mL,hw]))
   ·have hnat:natB ws (t.nodes.length+t.edges.length)=true:=by simpa [h5] using h7
    have hno:=Te hnat
    have hw:jF t ws g=0:=by unfold jF;rw [if_neg (by omega),if_neg (by omega),if_neg (by rw [hnat];simp)]
    refine wo (h:=bG (fun i e H=>∃ s:Int,(e 3=.adr t.c∧e 1=dLI ws∧e 5=.adr g.c∧e 10=dI s∧e 37=dLI g.nodes∧e 38=dI g.nodes.length∧e 39=dI i)∧(i≤g.nodes.length)∧(s=((g.nodes.take i).map (wN ws)).sum)∧(0≤s∧s≤1000 * i)) (fun i=>g.nodes.length - i) 0 ⟨0,wg,wi,(by rfl),(by simp)⟩ fun I0 hI0 i e H hi0=>?_)
    obtain ⟨s,E0,hi,hs,hb⟩:=hi0
    have Y:=wa Y E0
    refine d7 (fun h11=>?_) fun h11=>?_
    ·have ha:=hT.2.2.1 _ (aB h11)
     have hk:g.nodes[i].toNat<ws.length:=by omega
     have hwn:wN ws g.nodes[i]=ws[g.nodes[i].toNat]:=by simp [wN,aA hk]
     have hbn:=hno.2 _ (aB hk)
     have Y:=wa Y (wa h11 (wa (aA hk) hwn))
     exact wo (h:=wx hI0 (i+1) ⟨(s+wN ws g.nodes[i]),wg,wj,(by (rw [sM _ _ h11,← hs])),(by omega)⟩)
    ·rw [aI (by omega)] at hs
     refine wo (h:=bG (fun k e H=>∃ u:Int,(e 3=.adr t.c∧e 1=dLI ws∧e 5=.adr g.c∧e 10=dI u∧e 51=.list (g.edges.map Edge.c)∧e 52=dI g.edges.length∧e 53=dI k)∧(k≤g.edges.length)∧(u=(g.nodes.map (wN ws)).sum+((g.edges.take k).map (wE ws t.nodes.length)).sum)∧(0≤u∧u≤1000 * (g.nodes.length+k))) (fun k=>g.edges.length - k) 0 ⟨s,wg,wi,(by (simp [hs])),(by omega)⟩ fun I2 hI2 k e H hi2=>?_)
     obtain ⟨u,E2,hk,hu,hc⟩:=hi2
     have Y:=wa Y E2
     refine d7 (fun h16=>?_) fun h16=>?_
     ·have he:=QS (hT.2.2.2 _ (aB h16))
      have he0:=((eP hT.2.1).2 _ (aB h16)).1
      have hk2:((t.nodes.length:Int)+g.edges[k].type).toNat<ws.length:=by omega
      have hwe:wE ws t.nodes.length g.edges[k]=ws[((t.nodes.length:Int)+g.edges[k].type).toNat]:=by simp [wE,aA hk2]
      have hbe:=hno.2 _ (aB hk2)
      have Y:=wa Y (wa h16 (wa (aA hk2) hwe))
      exact wo (h:=wx hI2 (k+1) ⟨(u+wE ws t.nodes.length g.edges[k]),wg,wj,(by (rw [sM _ _ h16,← Int.add_assoc,← hu])),(by omega)⟩)
     ·rw [aI (by omega)] at hu
      exact wv (h:=hQ _ _ (by simp [go_sem,mL,wG,hw,hu]))
end Go.Abs
end
