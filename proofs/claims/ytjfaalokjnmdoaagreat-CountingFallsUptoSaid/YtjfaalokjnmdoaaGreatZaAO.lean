/- counting.Check. · The abstraction layer: bodies walked by me -/
import Derived.Test.YtjfaalokjnmdoaaGreatZaAF
import Derived.Test.YtjfaalokjnmdoaaGreatZaAA
import Derived.Test.YtjfaalokjnmdoaaGreatZaAN
import Derived.Shelf.Spec.SlicesInsert
import Derived.Lib.AppendZerosOnto
import Derived.Laws.NewBlocks
set_option linter.unusedVariables false
set_option linter.unusedSimpArgs false
section
set_option maxRecDepth 100000
set_option maxHeartbeats 4000000
open Go Go.Proofs
namespace Go.Abs
theorem Pm (m:List Bool):mem m true = !decide (pR m=0):=by
 rw [aY,dM]
 unfold pR
 rw [← List.count_pos_iff]
 simp only [cV,decide_eq_false_iff_not]
 omega
theorem F7 (t:Types)(ht:t.ok)(rs:List Rule)(hr:∀ r∈rs,r.ok)(st:List Stage):Pure Tryz.prog 52 [t.d,.list (rs.map Rule.c),.list (st.map Stage.c)] (.bool (xO t rs st)):=by
 refine Tz.pK ⟨fun t=>t==12,fun _=>[]⟩ Tryz.func52 rfl (fun Q hQ=>?_)
 try simp [go_sem,seval,bM]
 refine aC (uA t ht rs hr) ((by first|rfl|(simp [go_sem,← List.map_take,← List.map_drop,bM];done))) ?_
 try simp [go_sem,seval,bM]
 refine aJ (fun h2=>?_) (fun h2=>?_)
 ·try simp [go_sem] at h2
  have hR:xO t rs st=false:=by unfold xO;rw [decide_eq_false h2];rfl
  try simp [go_sem,seval,bM]
  exact hQ _ _ (by first|(left;(simp [go_sem,hR]);done)|(right;(simp [go_sem,hR]);done))
 ·try simp [go_sem] at h2
  have hv:=fF (j4 h2).1
  have hN:=hv.fewN
  have hE:=hv.fewE
  have hV:gC t rs=rs.map (g7 t):=if_pos h2
  have hX0:=PM h2
  have hVl:(gC t rs).length=rs.length:=by rw [hV,bE]
  have hlen6:=(j4 h2).2.1
  have hxl:=hX0.xl
  have hxb:=hX0.xb
  obtain ⟨ls,hls⟩:∃ ls,gC t rs=ls:=⟨_,rfl⟩
  have hchk:xO t rs st=v8 ls (t.nodes.length+t.edges.length) st (List.replicate rs.length true):=by unfold xO;rw [decide_eq_true h2,hls];rfl
  rw [hls] at hVl hxl hxb
  try simp [go_sem,seval,bM,hls]
  repeat first|intro _|refine ⟨eI,?_⟩
  obtain ⟨I0,hI0⟩:∃ I0:Nat→cY→AHeap→Prop,∀ (i:Nat) (e:cY) (H:AHeap),I0 i e H↔((e 3=.adr t.c)∧(e 1=.list (rs.map Rule.c))∧(e 2=.list (st.map Stage.c))∧(e 7=.list (ls.map cL))∧(e 9=.own 0 rs.length)∧(e 30=dI rs.length)∧(e 31=dI i)∧(H.get 0=some ⟨4,1,(qB rs.length i).map cB,false⟩)∧(0<H.next)∧(i≤rs.length)∧((qB rs.length i).length=rs.length)):=⟨fun i e H=>_,fun _ _ _=>Iff.rfl⟩
  refine fZ I0 (fun i=>rs.length - i) (0) ((hI0 _ _ _).2 ⟨?_,?_,?_,?_,?_,?_,?_,(by (simp [go_sem,Et])),?_,(by first|assumption|omega|(simp [go_sem,bM,hls];done)|(simp_all;done)),(by (exact pU (dY _)))⟩) ?_
  iterate 8 (first|omega|(simp [go_sem,seval,bM,hls]<;>omega))
  intro i e H hi0
  obtain ⟨q3_0,q1_0,q2_0,q7_0,q9_0,q30_0,q31_0,g0_0,n0_0,hi,hsl⟩:=(hI0 _ _ _).1 hi0
  have x0:=cG n0_0
  have F0:=And.intro q3_0 (And.intro q1_0 (And.intro q2_0 (And.intro q7_0 (And.intro q9_0 (And.intro q30_0 (And.intro q31_0 x0))))))
  try simp [go_sem,seval,bM,hls,F0,g0_0,hsl]
  refine aJ (fun h6=>?_) (fun h6=>?_)
  ·try simp [go_sem] at h6
   have hk:i<(qB rs.length i).length:=by rw [pU (by omega)];exact h6
   try simp [go_sem,seval,bM,hls,F0,g0_0,hsl,h6,aA hk,h6]
   repeat first|intro _|refine ⟨eI,?_⟩
   refine bY (i+1) (by omega) ((hI0 _ _ _).2 ⟨?_,?_,?_,?_,?_,?_,?_,(by (simp [go_sem,bM,hls,F0,g0_0,hsl,h6,aA hk,h6,← HL h6,cK])),?_,(by first|assumption|omega|(simp [go_sem,bM,hls,F0,g0_0,hsl,h6,aA hk,h6,h2];done)|(simp_all<;>omega)),(by (exact pU (by omega)))⟩)<;>first|omega|(simp [go_sem,seval,bM,hls,F0,g0_0,hsl,h6,aA hk,h6]<;>omega)
  ·try simp [go_sem] at h6
   have hie:i=rs.length:=by omega
   subst hie
   rw [HM] at g0_0
   try simp [go_sem,seval,bM,hls,F0,g0_0,hsl]
   repeat first|intro _|refine ⟨eI,?_⟩
   obtain ⟨I2,hI2⟩:∃ I2:Nat→cY→AHeap→Prop,∀ (q:Nat) (e:cY) (H:AHeap),I2 q e H↔(∃ m:List Bool,(e 3=.adr t.c)∧(e 1=.list (rs.map Rule.c))∧(e 2=.list (st.map Stage.c))∧(e 7=.list (ls.map cL))∧(e 9=.own 0 rs.length)∧(e 38=.list (st.map Stage.c))∧(e 39=dI st.length)∧(e 40=dI q)∧(H.get 0=some ⟨4,1,m.map cB,false⟩)∧(0<H.next)∧(q≤st.length)∧(m.length=rs.length)∧(v8 ls (t.nodes.length+t.edges.length) (st.drop q) m=xO t rs st)):=⟨fun q e H=>_,fun _ _ _=>Iff.rfl⟩
   refine fZ I2 (fun q=>st.length - q) (0) ((hI2 _ _ _).2 ⟨(List.replicate rs.length true),?_,?_,?_,?_,?_,?_,?_,?_,?_,?_,(by first|assumption|omega|(simp [go_sem,bM,hls,F0,g0_0,hsl];done)|(simp_all;done)),(by simp),(by (rw [hchk];rfl))⟩) ?_
   iterate 10 (first|omega|(simp [go_sem,seval,bM,hls,F0,g0_0,hsl]<;>omega))
   intro q e H hi2
   obtain ⟨m,q3_2,q1_2,q2_2,q7_2,q9_2,q38_2,q39_2,q40_2,g0_2,n0_2,hq,hm,hF⟩:=(hI2 _ _ _).1 hi2
   have x0:=cG n0_2
   have F2:=And.intro q3_2 (And.intro q1_2 (And.intro q2_2 (And.intro q7_2 (And.intro q9_2 (And.intro q38_2 (And.intro q39_2 (And.intro q40_2 (And.intro g0_2 x0))))))))
   try simp [go_sem,seval,bM,hls,hsl,F2,hm]
   refine aJ (fun h11=>?_) (fun h11=>?_)
   ·try simp [go_sem] at h11
    have hd:st.drop q=st[q] :: st.drop (q+1):=cX h11
    rw [hd] at hF
    have hml:m.length=ls.length:=by omega
    try simp [go_sem,seval,bM,hls,hsl,F2,hm,h11,h11,aA h11]
    repeat first|intro _|refine ⟨eI,?_⟩
    refine aN (fun hg=>(fP st[q].weights 112 [] oddB rfl (by simp [go_sem]) (fun x _=>DT x))) (fun hg=>(by first|rfl|(simp [go_sem,← List.map_take,← List.map_drop,bM,hls,hsl,F2,hm,h11,h11,aA h11];done))) ?_
    try simp [go_sem,seval,bM,hls,hsl,F2,hm,h11,h11,aA h11]
    repeat first|intro _|refine ⟨eI,?_⟩
    refine aJ (fun h13=>?_) (fun h13=>?_)
    ·try simp [go_sem] at h13
     have hR:kO ls (t.nodes.length+t.edges.length) m st[q]=false:=by
      unfold kO
      rcases h13 with (h|h)|⟨x,hx,ho⟩
      ·rw [decide_eq_false (show ¬ st[q].weights.length=t.nodes.length+t.edges.length by omega)];rfl
      ·simp [h]
      ·rw [List.any_eq_true.2 ⟨x,hx,ho⟩];simp
     have hC:xO t rs st=false:=by rw [← hF];simp only [v8,hR,nF]
     try simp [go_sem,seval,bM,hls,hsl,F2,hm,h11,h11,aA h11]
     exact hQ _ _ (by first|(left;(simp [go_sem,hC]);done)|(right;(simp [go_sem,hC]);done))
    ·try simp [go_sem] at h13
     have hsl2:st[q].weights.length=t.nodes.length+t.edges.length:=by have:=h13.1.1;omega
     have hsr:st[q].removed≠[]:=h13.1.2
     have ho:st[q].weights.any oddB=false:=fU.2 (fun x hx=>by rw [h13.2 x hx];simp)
     have hwd:∀ x∈st[q].weights,0≤x∧x≤1000:=fun x hx=>by have:=fU.1 ho x hx;simp [oddB] at this;omega
     have hPO:∀ l∈ls,ProdOk st[q].weights l:=fun l hl'=>⟨by rw [hxl l hl'];omega,by omega,fun x hx=>by have:=hwd x hx;omega,hxb l hl'⟩
     try simp [go_sem,seval,bM,hls,hsl,F2,hm,h11,h11,aA h11]
     repeat first|intro _|refine ⟨eI,?_⟩
     obtain ⟨I4,hI4⟩:∃ I4:Nat→cY→AHeap→Prop,∀ (i:Nat) (e:cY) (H:AHeap),I4 i e H↔(∃ b:Nat,(e 3=.adr t.c)∧(e 1=.list (rs.map Rule.c))∧(e 2=.list (st.map Stage.c))∧(e 7=.list (ls.map cL))∧(e 9=.own 0 rs.length)∧(e 12=.ptr b 1 0 0)∧(e 38=.list (st.map Stage.c))∧(e 39=dI st.length)∧(e 40=dI q)∧(e 67=dLI st[q].removed)∧(e 68=dI st[q].removed.length)∧(e 69=dI i)∧(H.get 0=some ⟨4,1,m.map cB,false⟩)∧(0<H.next)∧(H.get b=some ⟨130,2,[st[q].c],false⟩)∧(b<H.next)∧(i≤st[q].removed.length)∧(b≠0)∧((List.range i).all (BY ls m st[q].weights st[q].removed)=true)):=⟨fun i e H=>_,fun _ _ _=>Iff.rfl⟩
     refine fZ I4 (fun i=>st[q].removed.length - i) (0) ((hI4 _ _ _).2 ⟨(H.next),?_,?_,?_,?_,?_,?_,?_,?_,?_,?_,?_,?_,?_,?_,?_,?_,(by first|assumption|omega|(simp [go_sem,bM,hls,hsl,F2,hm,h11,h11,aA h11];done)|(simp_all;done)),(by omega),(by rfl)⟩) ?_
     iterate 16 (first|omega|(simp [go_sem,seval,bM,hls,hsl,F2,hm,h11,h11,aA h11]<;>omega))
     intro i e H hi4
     obtain ⟨b,q3_4,q1_4,q2_4,q7_4,q9_4,q12_4,q38_4,q39_4,q40_4,q67_4,q68_4,q69_4,g0_4,n0_4,gb_4,nb_4,hi,hb0,hall⟩:=(hI4 _ _ _).1 hi4
     have x0:=cG n0_4
     have xb:=cG nb_4
     have F4:=And.intro q3_4 (And.intro q1_4 (And.intro q2_4 (And.intro q7_4 (And.intro q9_4 (And.intro q12_4 (And.intro q38_4 (And.intro q39_4 (And.intro q40_4 (And.intro q67_4 (And.intro q68_4 (And.intro q69_4 (And.intro g0_4 (And.intro gb_4 x0)))))))))))))
     have di1:=c5 (show 0≠b by omega)
     try simp [go_sem,seval,bM,hls,hsl,hm,h11,h11,aA h11,F4,xb,Stage.c,di1]
     refine aJ (fun h16=>?_) (fun h16=>?_)
     ·try simp [go_sem] at h16
      obtain ⟨kk,hkk⟩:∃ kk,st[q].removed[i]=kk:=⟨_,rfl⟩
      have htn:((i:Int) - 1).toNat=i - 1:=by omega
      have hk1:i - 1<st[q].removed.length:=by omega
      have hrem:BY ls m st[q].weights st[q].removed i=(decide (0≤kk)&&sW ls m st[q].weights kk.toNat&&(decide (i=0)||decide (st[q].removed[i - 1]<kk))):=by
       unfold BY;rw [aA h16,aA hk1];simp only [aD,hkk]
      have hkA:0≤kk∧kk<rs.length→kk.toNat<ls.length:=by omega
      have hkM:0≤kk∧kk<rs.length→kk.toNat<m.length:=by omega
      have hT:kk<0→kk.toNat=0:=by omega
      have hbad:¬ (0≤kk∧kk<rs.length)→xO t rs st=false:=fun h=>by
       have hrf:BY ls m st[q].weights st[q].removed i=false:=by
        rw [hrem,bO]
        intro h0
        simp only [aL,decide_eq_true_eq] at h0
        have:=(aO.1 (Po h0.1.2)).1
        omega
       have ha:(List.range st[q].removed.length).all (BY ls m st[q].weights st[q].removed)=false:=by
        rw [Eb]
        exact ⟨i,aZ.2 h16,by rw [hrf];simp⟩
       have hR:kO ls (t.nodes.length+t.edges.length) m st[q]=false:=by unfold kO;rw [ha];simp
       rw [← hF];simp only [v8,hR,nF]
      rcases (show (kk<0∧rs.length=0)∨(kk<0∧0<rs.length)∨(0≤kk∧(rs.length:Int)≤kk)∨(0≤kk∧kk<rs.length) by omega) with hc|hc|hc|hc
      ·simp [go_sem,seval,bM,hls,hsl,hm,h11,h11,aA h11,F4,xb,Stage.c,di1,h16,aA h16,hkk,htn,aA hk1,h16,hk1,hc.1,hT hc.1,aX (show m.length≤0 by omega),aX (show ls.length≤0 by omega)]
       refine c9 (r:=.int .i64 0) (fun hg=>absurd hg (by simp)) (fun hg=>absurd hg (by simp)) ?_
       simp [go_sem,seval,bM,hls,hsl,hm,h11,h11,aA h11,F4,xb,Stage.c,di1,h16,aA h16,hkk,htn,aA hk1,h16,hk1,hc.1,hT hc.1,aX (show m.length≤0 by omega),aX (show ls.length≤0 by omega)]
       exact hQ _ _ (by left;simp [go_sem,hbad (by omega)])
      ·simp [go_sem,seval,bM,hls,hsl,hm,h11,h11,aA h11,F4,xb,Stage.c,di1,h16,aA h16,hkk,htn,aA hk1,h16,hk1,hc.1,hT hc.1,aA (show 0<m.length by omega),aA (show 0<ls.length by omega)]
       refine c9 (r:=.int .i64 0) (fun hg=>absurd hg (by simp)) (fun hg=>absurd hg (by simp)) ?_
       simp [go_sem,seval,bM,hls,hsl,hm,h11,h11,aA h11,F4,xb,Stage.c,di1,h16,aA h16,hkk,htn,aA hk1,h16,hk1,hc.1,hT hc.1,aA (show 0<m.length by omega),aA (show 0<ls.length by omega)]
       exact hQ _ _ (by left;simp [go_sem,hbad (by omega)])
      ·simp [go_sem,seval,bM,hls,hsl,hm,h11,h11,aA h11,F4,xb,Stage.c,di1,h16,aA h16,hkk,htn,aA hk1,h16,hk1,hc.2,oY.2 hc.1,aX (show m.length≤kk.toNat by omega),aX (show ls.length≤kk.toNat by omega)]
       refine c9 (r:=.int .i64 0) (fun hg=>absurd hg (by simp)) (fun hg=>absurd hg (by simp)) ?_
       simp [go_sem,seval,bM,hls,hsl,hm,h11,h11,aA h11,F4,xb,Stage.c,di1,h16,aA h16,hkk,htn,aA hk1,h16,hk1,hc.2,oY.2 hc.1,aX (show m.length≤kk.toNat by omega),aX (show ls.length≤kk.toNat by omega)]
       exact hQ _ _ (by left;simp [go_sem,hbad (by omega)])
      try simp [go_sem,seval,bM,hls,hsl,hm,h11,h11,aA h11,F4,xb,Stage.c,di1,h16,aA h16,hkk,htn,aA hk1,h16,hk1,hc.2,oY.2 hc.1,vW.2 hc.2,hc.1,aA (hkA hc),aA (hkM hc),hkA hc,hkM hc]
      repeat first|intro _|refine ⟨eI,?_⟩
      refine c9 (fun hg=>(by exact lC st[q].weights (ls[kk.toNat]'(hkA hc)) (hPO _ (aB _)))) (fun hg=>(by first|rfl|(simp [go_sem,← List.map_take,← List.map_drop,bM,hls,hsl,hm,h11,h11,aA h11,F4,xb,Stage.c,di1,h16,aA h16,hkk,htn,aA hk1,h16,hk1,hc.2,oY.2 hc.1,vW.2 hc.2,hc.1,aA (hkA hc),aA (hkM hc),hkA hc,hkM hc];done))) ?_
      try simp [go_sem,seval,bM,hls,hsl,hm,h11,h11,aA h11,F4,xb,Stage.c,di1,h16,aA h16,hkk,htn,aA hk1,h16,hk1,hc.2,oY.2 hc.1,vW.2 hc.2,hc.1,aA (hkA hc),aA (hkM hc),hkA hc,hkM hc]
      repeat first|intro _|refine ⟨eI,?_⟩
      refine aJ (fun h18=>?_) (fun h18=>?_)
      ·try simp [go_sem] at h18
       have hlow:sW ls m st[q].weights kk.toNat=(m[kk.toNat]'(hkM hc)&&decide (gM st[q].weights (ls[kk.toNat]'(hkA hc))<0)):=by simp [sW,aA (hkA hc),aA (hkM hc)]
       have hr18:BY ls m st[q].weights st[q].removed i=false:=by
        rw [hrem,hlow,bO]
        intro h0
        simp only [aL,bT,decide_eq_true_eq] at h0
        rcases h18 with (h|h)|h
        ·rw [h] at h0;simp at h0
        ·omega
        ·omega
       have hR:kO ls (t.nodes.length+t.edges.length) m st[q]=false:=by
        have ha:(List.range st[q].removed.length).all (BY ls m st[q].weights st[q].removed)=false:=by
         rw [Eb]
         exact ⟨i,aZ.2 h16,by rw [hr18];simp⟩
        unfold kO;rw [ha];simp
       have hC:xO t rs st=false:=by rw [← hF];simp only [v8,hR,nF]
       try simp [go_sem,seval,bM,hls,hsl,hm,h11,h11,aA h11,F4,xb,Stage.c,di1,h16,aA h16,hkk,htn,aA hk1,h16,hk1,hc.2,oY.2 hc.1,vW.2 hc.2,hc.1,aA (hkA hc),aA (hkM hc),hkA hc,hkM hc]
       exact hQ _ _ (by first|(left;(simp [go_sem,hC]);done)|(right;(simp [go_sem,hC]);done))
      ·try simp [go_sem] at h18
       have hlow:sW ls m st[q].weights kk.toNat=(m[kk.toNat]'(hkM hc)&&decide (gM st[q].weights (ls[kk.toNat]'(hkA hc))<0)):=by simp [sW,aA (hkA hc),aA (hkM hc)]
       have hr18:BY ls m st[q].weights st[q].removed i=true:=by
        rw [hrem,hlow,h18.1.1,decide_eq_true hc.1,decide_eq_true h18.2]
        rcases CS i with h0|h0
        ·simp [h0]
        ·simp;exact .inr (h18.1.2 h0)
       try simp [go_sem,seval,bM,hls,hsl,hm,h11,h11,aA h11,F4,xb,Stage.c,di1,h16,aA h16,hkk,htn,aA hk1,h16,hk1,hc.2,oY.2 hc.1,vW.2 hc.2,hc.1,aA (hkA hc),aA (hkM hc),hkA hc,hkM hc]
       repeat first|intro _|refine ⟨eI,?_⟩
       refine bY (i+1) (by omega) ((hI4 _ _ _).2 ⟨(b),?_,?_,?_,?_,?_,?_,?_,?_,?_,?_,?_,?_,?_,?_,?_,?_,(by first|assumption|omega|(simp [go_sem,bM,hls,hsl,hm,h11,h11,aA h11,F4,xb,Stage.c,di1,h16,aA h16,hkk,htn,aA hk1,h16,hk1,hc.2,oY.2 hc.1,vW.2 hc.2,hc.1,aA (hkA hc),aA (hkM hc),hkA hc,hkM hc,h2,h6,h13,h18];done)|(simp_all<;>omega)),(by first|assumption|omega|(simp [go_sem,bM,hls,hsl,hm,h11,h11,aA h11,F4,xb,Stage.c,di1,h16,aA h16,hkk,htn,aA hk1,h16,hk1,hc.2,oY.2 hc.1,vW.2 hc.2,hc.1,aA (hkA hc),aA (hkM hc),hkA hc,hkM hc,h2,h6,h13,h18];done)|(simp_all<;>omega)),(by (rw [EV,hall,hr18];rfl))⟩)<;>first|omega|(simp [go_sem,seval,bM,hls,hsl,hm,h11,h11,aA h11,F4,xb,Stage.c,di1,h16,aA h16,hkk,htn,aA hk1,h16,hk1,hc.2,oY.2 hc.1,vW.2 hc.2,hc.1,aA (hkA hc),aA (hkM hc),hkA hc,hkM hc]<;>omega)
     ·try simp [go_sem] at h16
      rw [show i=st[q].removed.length by omega] at hall
      try simp [go_sem,seval,bM,hls,hsl,hm,h11,h11,aA h11,F4,xb,Stage.c,di1]
      repeat first|intro _|refine ⟨eI,?_⟩
      obtain ⟨I6,hI6⟩:∃ I6:Nat→cY→AHeap→Prop,∀ (j:Nat) (e:cY) (H:AHeap),I6 j e H↔((e 3=.adr t.c)∧(e 1=.list (rs.map Rule.c))∧(e 2=.list (st.map Stage.c))∧(e 7=.list (ls.map cL))∧(e 9=.own 0 rs.length)∧(e 12=.ptr b 1 0 0)∧(e 38=.list (st.map Stage.c))∧(e 39=dI st.length)∧(e 40=dI q)∧(e 115=dI rs.length)∧(e 116=dI j)∧(H.get 0=some ⟨4,1,m.map cB,false⟩)∧(0<H.next)∧(H.get b=some ⟨130,2,[st[q].c],false⟩)∧(b<H.next)∧(j≤rs.length)∧((List.range j).any (FL ls m st[q].weights)=false)):=⟨fun j e H=>_,fun _ _ _=>Iff.rfl⟩
      refine fZ I6 (fun j=>rs.length - j) (0) ((hI6 _ _ _).2 ⟨?_,?_,?_,?_,?_,?_,?_,?_,?_,?_,?_,?_,?_,?_,?_,(by first|assumption|omega|(simp [go_sem,bM,hls,hsl,hm,h11,h11,aA h11,F4,xb,Stage.c,di1];done)|(simp_all;done)),(by rfl)⟩) ?_
      iterate 15 (first|omega|(simp [go_sem,seval,bM,hls,hsl,hm,h11,h11,aA h11,F4,xb,Stage.c,di1]<;>omega))
      intro j e H hi6
      obtain ⟨q3_6,q1_6,q2_6,q7_6,q9_6,q12_6,q38_6,q39_6,q40_6,q115_6,q116_6,g0_6,n0_6,gb_6,nb_6,hj,hok⟩:=(hI6 _ _ _).1 hi6
      have x0:=cG n0_6
      have xb:=cG nb_6
      have F6:=And.intro q3_6 (And.intro q1_6 (And.intro q2_6 (And.intro q7_6 (And.intro q9_6 (And.intro q12_6 (And.intro q38_6 (And.intro q39_6 (And.intro q40_6 (And.intro q115_6 (And.intro q116_6 (And.intro g0_6 (And.intro gb_6 x0))))))))))))
      try simp [go_sem,seval,bM,hls,hsl,hm,h11,h11,aA h11,Stage.c,di1,F6,xb,Stage.c]
      refine aJ (fun h22=>?_) (fun h22=>?_)
      ·try simp [go_sem] at h22
       have hjl:j<ls.length:=by omega
       have hjm:j<m.length:=by omega
       have hhi0:FL ls m st[q].weights j=(m[j]&&decide (0<gM st[q].weights ls[j])):=by simp [FL,aA hjl,aA hjm]
       try simp [go_sem,seval,bM,hls,hsl,hm,h11,h11,aA h11,Stage.c,di1,F6,xb,Stage.c,h22,aA hjl,aA hjm,hjl,hjm]
       repeat first|intro _|refine ⟨eI,?_⟩
       refine c9 (fun hg=>(by exact lC st[q].weights ls[j] (hPO _ (aB hjl)))) (fun hg=>(by first|rfl|(simp [go_sem,← List.map_take,← List.map_drop,bM,hls,hsl,hm,h11,h11,aA h11,Stage.c,di1,F6,xb,Stage.c,h22,aA hjl,aA hjm,hjl,hjm];done))) ?_
       try simp [go_sem,seval,bM,hls,hsl,hm,h11,h11,aA h11,Stage.c,di1,F6,xb,Stage.c,h22,aA hjl,aA hjm,hjl,hjm]
       repeat first|intro _|refine ⟨eI,?_⟩
       refine aJ (fun h24=>?_) (fun h24=>?_)
       ·try simp [go_sem] at h24
        have hK:Qn ls m st[q].weights=false:=by
         have:(List.range ls.length).any (FL ls m st[q].weights)=true:=List.any_eq_true.2 ⟨j,aZ.2 hjl,by rw [hhi0];simp;exact h24⟩
         unfold Qn;rw [this];rfl
        have hR:kO ls (t.nodes.length+t.edges.length) m st[q]=false:=by unfold kO;rw [hK];simp
        have hC:xO t rs st=false:=by rw [← hF];simp only [v8,hR,nF]
        try simp [go_sem,seval,bM,hls,hsl,hm,h11,h11,aA h11,Stage.c,di1,F6,xb,Stage.c,h22,aA hjl,aA hjm,hjl,hjm]
        exact hQ _ _ (by first|(left;(simp [go_sem,hC]);done)|(right;(simp [go_sem,hC]);done))
       ·try simp [go_sem] at h24
        have hhi:FL ls m st[q].weights j=false:=by rw [hhi0];simp;exact h24
        try simp [go_sem,seval,bM,hls,hsl,hm,h11,h11,aA h11,Stage.c,di1,F6,xb,Stage.c,h22,aA hjl,aA hjm,hjl,hjm]
        repeat first|intro _|refine ⟨eI,?_⟩
        refine bY (j+1) (by omega) ((hI6 _ _ _).2 ⟨?_,?_,?_,?_,?_,?_,?_,?_,?_,?_,?_,?_,?_,?_,?_,(by first|assumption|omega|(simp [go_sem,bM,hls,hsl,hm,h11,h11,aA h11,Stage.c,di1,F6,xb,Stage.c,h22,aA hjl,aA hjm,hjl,hjm,h2,h6,h13,h16,h24];done)|(simp_all<;>omega)),(by (rw [wX,hok,hhi];rfl))⟩)<;>first|omega|(simp [go_sem,seval,bM,hls,hsl,hm,h11,h11,aA h11,Stage.c,di1,F6,xb,Stage.c,h22,aA hjl,aA hjm,hjl,hjm]<;>omega)
      ·try simp [go_sem] at h22
       have hok2:Qn ls m st[q].weights=true:=by unfold Qn;rw [show ls.length=j by omega,hok];rfl
       have hR:kO ls (t.nodes.length+t.edges.length) m st[q]=true:=by unfold kO;rw [decide_eq_true hsl2,decide_eq_false hsr,ho,hall,hok2];rfl
       obtain ⟨r1,r2,r3,r4,r5⟩:=HV hR
       try simp [go_sem,seval,bM,hls,hsl,hm,h11,h11,aA h11,Stage.c,di1,F6,xb,Stage.c]
       repeat first|intro _|refine ⟨eI,?_⟩
       obtain ⟨I8,hI8⟩:∃ I8:Nat→cY→AHeap→Prop,∀ (p:Nat) (e:cY) (H:AHeap),I8 p e H↔((e 3=.adr t.c)∧(e 1=.list (rs.map Rule.c))∧(e 2=.list (st.map Stage.c))∧(e 7=.list (ls.map cL))∧(e 9=.own 0 rs.length)∧(e 38=.list (st.map Stage.c))∧(e 39=dI st.length)∧(e 40=dI q)∧(e 135=dLI st[q].removed)∧(e 136=dI st[q].removed.length)∧(e 137=dI p)∧(H.get 0=some ⟨4,1,(mU m (st[q].removed.take p)).map cB,false⟩)∧(0<H.next)∧(p≤st[q].removed.length)):=⟨fun p e H=>_,fun _ _ _=>Iff.rfl⟩
       refine fZ I8 (fun p=>st[q].removed.length - p) (0) ((hI8 _ _ _).2 ⟨?_,?_,?_,?_,?_,?_,?_,?_,?_,?_,?_,(by (simp [go_sem,bM,hls,hsl,hm,h11,h11,aA h11,Stage.c,di1,F6,xb,Stage.c,mU])),?_,(by first|assumption|omega|(simp [go_sem,bM,hls,hsl,hm,h11,h11,aA h11,Stage.c,di1,F6,xb,Stage.c];done)|(simp_all;done))⟩) ?_
       iterate 12 (first|omega|(simp [go_sem,seval,bM,hls,hsl,hm,h11,h11,aA h11,Stage.c,di1,F6,xb,Stage.c]<;>omega))
       intro p e H hi8
       obtain ⟨q3_8,q1_8,q2_8,q7_8,q9_8,q38_8,q39_8,q40_8,q135_8,q136_8,q137_8,g0_8,n0_8,hp⟩:=(hI8 _ _ _).1 hi8
       have x0:=cG n0_8
       have F8:=And.intro q3_8 (And.intro q1_8 (And.intro q2_8 (And.intro q7_8 (And.intro q9_8 (And.intro q38_8 (And.intro q39_8 (And.intro q40_8 (And.intro q135_8 (And.intro q136_8 (And.intro q137_8 x0))))))))))
       try simp [go_sem,seval,bM,hls,hsl,hm,h11,h11,aA h11,Stage.c,di1,Stage.c,F8,g0_8]
       refine aJ (fun h28=>?_) (fun h28=>?_)
       ·try simp [go_sem] at h28
        have hrr:=r5 _ (aB h28)
        have hrm:=(aO.1 hrr.2).1
        have hrl:st[q].removed[p]<rs.length:=by omega
        have hrt:st[q].removed[p].toNat<rs.length:=by omega
        have hofl:(mU m (st[q].removed.take p)).length=rs.length:=by rw [qK];exact hm
        have hset:mU m (st[q].removed.take (p+1))=(mU m (st[q].removed.take p)).set st[q].removed[p].toNat false:=by rw [aF h28,LQ]
        try simp [go_sem,seval,bM,hls,hsl,hm,h11,h11,aA h11,Stage.c,di1,Stage.c,F8,g0_8,h28,aA h28,hset,hofl,hrl,hrt,h28]
        repeat first|intro _|refine ⟨eI,?_⟩
        refine bY (p+1) (by omega) ((hI8 _ _ _).2 ⟨?_,?_,?_,?_,?_,?_,?_,?_,?_,?_,?_,(by (simp [go_sem,bM,hls,hsl,hm,h11,h11,aA h11,Stage.c,di1,Stage.c,F8,g0_8,h28,aA h28,hset,hofl,hrl,hrt,h28,cK])),?_,(by first|assumption|omega|(simp [go_sem,bM,hls,hsl,hm,h11,h11,aA h11,Stage.c,di1,Stage.c,F8,g0_8,h28,aA h28,hset,hofl,hrl,hrt,h28,h2,h6,h13,h16,h22];done)|(simp_all<;>omega))⟩)<;>first|omega|(simp [go_sem,seval,bM,hls,hsl,hm,h11,h11,aA h11,Stage.c,di1,Stage.c,F8,g0_8,h28,aA h28,hset,hofl,hrl,hrt,h28]<;>omega)
       ·try simp [go_sem] at h28
        rw [aI (by omega)] at g0_8
        try simp [go_sem,seval,bM,hls,hsl,hm,h11,h11,aA h11,Stage.c,di1,Stage.c,F8,g0_8]
        repeat first|intro _|refine ⟨eI,?_⟩
        refine bY (q+1) (by omega) ((hI2 _ _ _).2 ⟨(mU m st[q].removed),?_,?_,?_,?_,?_,?_,?_,?_,?_,?_,(by first|assumption|omega|(simp [go_sem,bM,hls,hsl,hm,h11,h11,aA h11,Stage.c,di1,Stage.c,F8,g0_8,h2,h6,h13,h16,h22,h28];done)|(simp_all<;>omega)),(by (rw [qK];exact hm)),(by (rw [← hF];simp only [v8,hR,dU]))⟩)<;>first|omega|(simp [go_sem,seval,bM,hls,hsl,hm,h11,h11,aA h11,Stage.c,di1,Stage.c,F8,g0_8]<;>omega)
   ·try simp [go_sem] at h11
    rw [eQ (by omega)] at hF
    have hE2:xO t rs st=decide (pR m=0):=by rw [← hF];rfl
    try simp [go_sem,seval,bM,hls,hsl,F2,hm]
    repeat first|intro _|refine ⟨eI,?_⟩
    refine eR (zN m true) (by simp [sP,tI,eD,go_sem,← List.map_take,← List.map_drop,bM,hls,hsl,F2,hm]) ((by first|rfl|(simp [go_sem,← List.map_take,← List.map_drop,bM,hls,hsl,F2,hm];done))) ( rfl) ?_
    try simp [go_sem,seval,bM,hls,hsl,F2,hm]
    repeat first|intro _|refine ⟨eI,?_⟩
    exact hQ _ _ (by first|(left;(simp [go_sem,bM,hls,hsl,F2,hm,hE2,Pm]);done)|(right;(simp [go_sem,bM,hls,hsl,F2,hm,hE2,Pm]);done))
end Go.Abs
end
section
namespace Go.Abs
section
variable {P:Program} {c:Cfg} {n:Nat} {M0:Nat→Prop} {H:AHeap} {σ:Nat→Option Ow} {w:World} {e:cY} {a:Act}
def Rc (P:Program)(n:Nat)(x:Code)(Q:Exit→cY→AHeap→Prop)(e:cY)(H:AHeap):Prop :=
 ∀ (M0:Nat→Prop) (σ:Nat→Option Ow) (w:World) (a:Act),St n M0 H σ w e a→x.wp P (M5 n M0 H σ w Q) a w
theorem O9 {x:Code}{Q:Exit→cY→AHeap→Prop}(hm:P.follows .mixedOrders=true)(hok:m7 c n x=true)(h:lT P c x Q e H):Rc P n x Q e H :=
 fun M0 σ w a hS=>mC hm x Q e H h hok σ w a hS
theorem O8 {x y:Code}{Q:Exit→cY→AHeap→Prop}(h:Rc P n x (pC (Rc P n y Q) Q) e H):Rc P n (.seq x y) Q e H:=fun M0 σ w a hS=>by
 refine wp_seq (jC (h M0 σ w a hS) fun ex a' w' hc=>?_)
 cases ex<;>first|exact hc|skip
 obtain ⟨e',H',σ',hq,hS',hst,hk⟩:=hc
 exact jC (hq M0 σ' w' a' hS') fun ex a'' w'' hc'=>Came.trans hst hk hc'
theorem Jc {md:Nat→Bool}{ops:Array Oper}{Q:Exit→Act→World→Prop}{l2:List Oper}:∀ (l:List Oper) (e:Nat→D) (H:AHeap) (K:(Nat→D)→AHeap→Prop),lR P md ops l e H K→(∀ o∈l,zK n o.dst=true) →
  ∀ (σ:Nat→Option Ow) (w:World) (a:Act),St n M0 H σ w e a→(∀ a' w',Came n M0 H σ w K a' w'→wpList P ops Q l2 a' w')→wpList P ops Q (l++l2) a w
 | [],e,H,K,h,hd,σ,w,a,hS,hQ=>hQ a w ⟨e,H,σ,h,hS,.refl _ _,.refl _ _ _ _⟩
 | o :: l,e,H,K,h,hd,σ,w,a,hS,hQ=>by
  unfold lR at h
  have hs:=xV (Q:=Q) h hS (fun hn=>mD _ (hS.rel.nxt _ hn)) (hd o (by simp))
  have:=StepC.mono (K':=wpList P ops Q (l++l2)) (fun a' w' ⟨v,H',F,σ',hk,hS',hst,hkp⟩ =>
   Jc l _ _ _ hk (fun o' ho'=>hd o' (by simp [ho'])) σ' w' a' hS' fun a'' w'' hc=>hQ a'' w'' (hc.trans hst hkp)) hs
  unfold StepC at this
  rw [kI]
  unfold wpList
  exact this
theorem S6 {ops:Array Oper}{Q:Exit→Act→World→Prop}{o:Oper}{d:D}{H':AHeap}{K:(Nat→D)→AHeap→Prop}(hg:o.guard=none)(hS:St n M0 H σ w e a)(hop:SN P (execOp a.eval o) M0 H σ w d H')
  (hd:zK n o.dst=true) (hK:K (oW e o.dst d) H') (hQ:∀ a' w',Came n M0 H σ w K a' w'→Q .normal a' w'):wpList P ops Q [o] a w:=by
 obtain ⟨v,w',σ',h2,h3,h4,h5,h6⟩:=hop
 refine wpList_plain hg fun K' hK'=>?_
 have hc:Came n M0 H σ w K (a.put o.dst v) w':=⟨_,_,σ',hK,hS.put h3 h6 hd h4,h5,h6⟩
 unfold Oper.wp
 rcases h2 with h2|⟨h2,rfl⟩
 ·rw [h2,Oper.upon_value];exact hK' _ _ (wpList_nil (hQ _ _ hc))
 ·rw [h2,Oper.upon_skip];exact hK' _ _ (wpList_nil (hQ _ _ hc))
theorem DI {t:TypeId}{v vl:Value}{id m:Nat}{k:Blk}{kd:IntKind}{l:Int}{s:SlI}(hR:Rel M0 H σ w)(hx:RepV (c7 M0 H σ) σ H.al w v (.own id m))(hk:H.get id=some k)(hm:k.es.length=m)
  (hl:RepV (c7 M0 H σ) σ H.al w vl (.int kd l)) (hs:sl P t=some s) (h0:0≤l) (h1:l≤m):OpS P (Instr.sliceAt t v (some vl) none none) M0 H σ w .junk H:=by
 cases hl
 obtain ⟨hu,ti,z,hti,hz,hisz,_,hsz,_,_,hszl,_⟩:=mQ hs
 rcases JP hR hx hk hm with ⟨rfl,rfl⟩|⟨b,cap,rfl,hle,hcm,_⟩
 ·have hrun:=pV (P:=P) (w:=w) hu hti none 0 0 (bQ _) (some (.int kd l)) none l 0 (.inr ⟨kd,rfl⟩) (.inl ⟨rfl,rfl⟩) h0 (by omega) (by simp)
  exact .pure hR hrun (.junk _)
 ·have hrun:=pV (P:=P) (w:=w) hu hti (some ⟨b,0,none⟩) m cap hle (some (.int kd l)) none l m (.inr ⟨kd,rfl⟩) (.inl ⟨rfl,rfl⟩) h0 h1 (Int.le_refl _)
  exact .pure hR hrun (.junk _)
theorem PZ {rid:Nat}{l:List Oper}{d:Tmp}{t ty:TypeId}{x lo:Tmp}{p:String}{af:Array Go.Edge}{sl0:Oper}(hsl:sl0={ dst:=some d,op:=.slice t (.tmp x) (some (.tmp lo)) none none,type:=ty,pos:=p,after:=af,guard:=none }){Q:Exit→cY→AHeap→Prop}{md:Nat→Bool}(hd:∀ o∈l,zK n o.dst=true)(hdd:zK n (some d)=true){s:SlI}(hs:sl P t=some s)
  (h:lR P md (l++[sl0]).toArray l e H fun e' H'=>∃ id m k kd q,e' x=.own id m∧H'.get id=some k∧k.es.length=m∧e' lo=.int kd q∧0≤q∧q≤m∧Q .normal (oW e' (some d) .junk) H') :
  Rc P n (.region rid (l++[sl0]).toArray false) Q e H:=fun M0 σ w a hS=>by
 subst hsl
 refine wp_region_list ?_
 refine Jc l e H _ h hd σ w a hS fun a' w' hc=>?_
 obtain ⟨e',H',σ',⟨id,m,k,kd,q,h1,h2,h3,h4,h5,h6,hq⟩,hS',hst,hk⟩:=hc
 have hop:OpS P (Instr.sliceAt t (a'.eval (.tmp x)) (some (a'.eval (.tmp lo))) none none) M0 H' σ' w' .junk H' :=
  DI hS'.rel (by have:=hS'.envR.ev (.tmp x);rw [Pv,h1] at this;exact this) h2 h3 (by have:=hS'.envR.ev (.tmp lo);rw [Pv,h4] at this;exact this) hs h5 h6
 exact S6 (K:=fun e H=>Q .normal e H) rfl hS' hop.next hdd hq fun a'' w'' hc=>Came.trans hst hk hc
theorem Hy {f:FuncId}{fn:Func}{x:Code}{args:List D}{Q:D→AHeap→Prop}(hf:P.funcs[f]?=some fn)(hb:fn.body=some x)
  (hnm:(fn.name=="runtime.NumGoroutine")=false) (hlen:args.length≤fn.ntmps) (h:Rc P fn.ntmps x (P5 P fn.results.toList Q) (yX args) H):ACalls P f args H Q:=by
 refine ⟨⟨fn,hf,hnm,by simp [hb]⟩,fun M0 σ w vals hR ha=>calls_of_wp hf hb ?_⟩
 have hS:St fn.ntmps M0 H σ w (yX args) { tmps:=vals.toArray++Array.replicate (fn.ntmps - vals.toArray.size) undef,defers:=[] }:=by
  refine ⟨hR,fun t=>?_,rfl,by simp [ha.len];omega⟩
  simp only [yX]
  by_cases ht:t<vals.length
  ·have h1:vals[t]?=some vals[t]:=aA ht
   have h2:args[t]?=some (args[t]'(by rw [← ha.len];exact ht)):=aA _
   have:=ha.rep t _ _ h1 h2
   rw [List.getD_eq_getElem?_getD,h2]
   simp only [aD,gW]
   rw [Array.getElem?_append_left (by simpa using ht)]
   simpa [h1] using this
  ·rw [List.getD_eq_getElem?_getD,aX (by rw [← ha.len];omega)]
   exact .junk _
 refine jC (h M0 σ w _ hS) fun ex a' w' hc=>?_
 obtain ⟨e',H',σ',hq,hS',hst,hk⟩:=hc
 have fin:BE P fn.results.toList e' H' (fun l=>Q (Em l) H')→a'.defers=[]∧∃ v,(results fn a'.tmps).run P w'=.ok v w' ∧
   ∃ v2 d H2 σ2,Ending.returned v=.returned v2∧Rel M0 H2 σ2 w'∧RepV (c7 M0 H2 σ2) σ2 H2.al w' v2 d∧Stp σ w σ2 w'∧Keeps (c7 M0 H σ) σ H.al w (c7 M0 H2 σ2) σ2 H2.al w'∧Q d H2:=by
  intro hq
  obtain ⟨vs,l,h1,h2,h3⟩:=vE hS' _ _ hq
  obtain ⟨v,hv1,hv2⟩:=C1 (fn:=fn) h1 h2
  exact ⟨hS'.defers,v,hv1,v,_,H',σ',rfl,hS'.rel,hv2,hst,hk,h3⟩
 cases ex<;>first|exact fin hq|exact hq.elim
end
end Go.Abs
end
section
set_option maxRecDepth 100000
set_option maxHeartbeats 4000000
open Go Go.Proofs
namespace Go.Abs
structure Cnt where
 type:Int
 from_:Int
 to_:Int
 num:Int
def Cnt.c (x:Cnt):List D:=[dI x.type,dI x.from_,dI x.to_,dI x.num]
attribute [go_sem] Cnt.c
theorem Cnt.cl (x:Cnt):D.clL x.c=true:=rfl
@[go_sem] theorem X9 (l:List Cnt):D.clLL (l.map Cnt.c)=true:=dA _ Cnt.cl l
def Cnt.small (x:Cnt):Prop:=(-1000000≤x.type∧x.type≤1000000)∧(-1000000≤x.from_∧x.from_≤1000000)∧(-1000000≤x.to_∧x.to_≤1000000)∧(1≤x.num∧x.num≤1000000)
def TW:List Int→Int
 | []=>0
 | a :: l=>if a≠0 then a else TW l
theorem RJ {l:List Int}{i:Nat}(h:i<l.length):TW (l.drop i)=if l[i]≠0 then l[i] else TW (l.drop (i+1)):=by
 rw [cX h];rfl
theorem U8 (l:List Int):Pure Tryz.prog 288 [dLI l] (dI (TW l)):=by
 refine Tz.pK ⟨fun _=>false,fun _=>[]⟩ Tryz.func288 rfl (fun Q hQ=>?_)
 have Y:=trivial
 refine wv (h:=?_)
 repeat first|intro _|refine ⟨d8,?_⟩
 refine bG (fun i e H=>(e 6=dLI l∧e 7=dI l.length∧e 3=dI 0∧e 8=dI i)∧(i≤l.length)∧(TW (l.drop i)=TW l)) (fun i=>l.length - i) 0 ⟨wg,wi,(by rfl)⟩ fun I0 hI0 i e H hi0=>?_
 obtain ⟨E0,hi,hO⟩:=hi0
 have Y:=wa Y E0
 refine d7 (fun h3=>?_) fun h3=>?_
 ·have hst:=hO
  rw [RJ h3] at hst
  have Y:=wa Y h3
  refine wv (h:=?_)
  repeat first|intro _|refine ⟨d8,?_⟩
  refine wq (fun h5=>?_) fun h5=>?_
  ·rw [if_pos (by omega)] at hst
   exact wv (h:=hQ _ _ (by simp [go_sem,Y,← hst]))
  ·rw [if_neg (by omega)] at hst
   refine wv (h:=?_)
   repeat first|intro _|refine ⟨d8,?_⟩
   exact wx hI0 (i+1) ⟨wg,wj,(by exact hst)⟩
 ·rw [eQ (by omega)] at hO
  exact wv (h:=hQ _ _ (by simp [go_sem,← hO,TW]))
def cmpC (a b:Cnt):Int:=TW [a.type - b.type,a.from_ - b.from_,a.to_ - b.to_]
theorem mO (a b:Cnt)(ha:a.small)(hb:b.small):Pure Tryz.prog 204 [.agg a.c,.agg b.c] (dI (cmpC a b)):=by
 obtain ⟨a1,a2,a3,a4⟩:=ha
 obtain ⟨b1,b2,b3,b4⟩:=hb
 refine Tz.pK ⟨fun _=>false,fun _=>[]⟩ Tryz.func204 rfl (fun Q hQ=>?_)
 have Y:=trivial
 refine wo (h:=aC (U8 [a.type - b.type,a.from_ - b.from_,a.to_ - b.to_]) wl ?_)
 have Y:=wa Y @cmpC.eq_1
 exact wo (h:=hQ _ _ wy)
def Sx (p:Nat→Bool):Nat→Nat→Nat→Nat
 | 0,i,_=>i
 | m+1,i,j=>if i<j then (if p ((i+j) / 2)=true then Sx p m ((i+j) / 2+1) j else Sx p m i ((i+j) / 2)) else i
theorem Sw {p:Nat→Bool}{m i j:Nat}(h:¬ i<j):Sx p m i j=i:=by
 cases m with
 | zero=>rfl
 | succ m=>unfold Sx;rw [if_neg h]
def uC (l:List Cnt)(x:Cnt):Nat:=Sx (fun h=>match l[h]? with|some y=>decide (cmpC y x<0)|none=>false) l.length 0 l.length
def Cx (l:List Cnt)(x:Cnt):Bool:=match l[uC l x]? with|some y=>decide (cmpC y x=0)|none=>false
theorem MK (a:D)(l:List Cnt)(ha:a=.list (l.map Cnt.c))(x:Cnt)(hl:l.length≤1000000)(hs:∀ y∈l,y.small)(hx:x.small):Pure Tryz.prog 203 [a,.agg x.c,.fn 204 []] (.tup [dI (uC l x),.bool (Cx l x)]):=by
 subst ha
 refine Tz.pK ⟨fun _=>false,fun _=>[]⟩ Tryz.func203 rfl (fun Q hQ=>?_)
 have Y:=@Ua
 refine wp (h:=bG (fun m e H=>∃ i:Nat,∃ j:Nat,(e 0=.list (l.map Cnt.c)∧e 4=.adr x.c∧e 2=.fn 204 []∧e 8=dI l.length∧e 9=dI i∧e 10=dI j)∧(i≤j)∧(j≤l.length)∧(j - i≤m)∧(Sx (fun h=>match l[h]? with|some y=>decide (cmpC y x<0)|none=>false) m i j=uC l x)) (fun m=>m) l.length ⟨0,l.length,wg,(by omega),(by omega),(by omega),(by rfl)⟩ fun I0 hI0 m e H hi0=>?_)
 obtain ⟨i,j,E0,hj,hjl,hjm,hB⟩:=hi0
 have Y:=wa Y E0
 refine d7 (fun h3=>?_) fun h3=>?_
 ·have hk:(i+j) / 2<l.length:=by omega
  have htn:(((i:Int)+(j:Int)) / 2).toNat=(i+j) / 2:=by omega
  have hu:=JZ (show 0≤(i:Int)+(j:Int) by omega) (show (i:Int)+(j:Int)≤18446744073709551615 by omega)
  obtain ⟨m',hm'⟩:∃ m',m=m'+1:=⟨m - 1,by omega⟩
  rw [hm'] at hB
  unfold Sx at hB
  rw [if_pos (by omega),aA hk] at hB
  simp only [decide_eq_true_eq] at hB
  have Y:=wa Y (wa h3 (wa htn (aA hk)))
  refine wp (h:=aM ((mO l[(i+j) / 2] x (hs _ (aB hk)) hx)) wl ?_)
  refine pH (fun h5=>?_) fun h5=>?_
  ·rw [if_pos h5] at hB
   obtain ⟨i',hi'⟩:∃ i':Nat,i'=(i+j) / 2+1:=⟨_,rfl⟩
   obtain ⟨j',hj'⟩:∃ j':Nat,j'=j:=⟨_,rfl⟩
   have hB':Sx (fun h=>match l[h]? with|some y=>decide (cmpC y x<0)|none=>false) (m - 1) i' j'=uC l x:=by rw [hi',hj',show m - 1=m' by omega];exact hB
   exact wp (h:=wx hI0 (m - 1) ⟨i',j',wg,(by omega),(by omega),(by omega),(by exact hB')⟩)
  ·rw [if_neg (by omega)] at hB
   obtain ⟨i',hi'⟩:∃ i':Nat,i'=i:=⟨_,rfl⟩
   obtain ⟨j',hj'⟩:∃ j':Nat,j'=(i+j) / 2:=⟨_,rfl⟩
   have hB':Sx (fun h=>match l[h]? with|some y=>decide (cmpC y x<0)|none=>false) (m - 1) i' j'=uC l x:=by rw [hi',hj',show m - 1=m' by omega];exact hB
   exact wv (h:=wx hI0 (m - 1) ⟨i',j',wg,(by omega),(by omega),(by omega),(by exact hB')⟩)
 ·rw [Sw (by omega)] at hB
  have hcB:∀ h:i<l.length,Cx l x=decide (cmpC l[i] x=0):=fun h=>by unfold Cx;rw [← hB,aA h]
  have hcN:¬ i<l.length→Cx l x=false:=fun h=>by unfold Cx;rw [← hB,aX (by omega)]
  by_cases hlt:i<l.length
  ·have Y:=wa Y (wa hlt (wa (aA hlt) (wa (hcB hlt) (Eq.symm hB))))
   refine wp (h:=?_)
   first|(refine c9 (fun hg=>(by exact mO (l[i]'hlt) x (hs _ (aB _)) hx)) (fun hg=>by simp [go_sem]) ?_)|(refine c9 (r:=.int .i64 0) (fun hg=>absurd hg (by simp)) (fun hg=>absurd hg (by simp)) ?_)
   exact wp (h:=hQ _ _ (by simp [go_sem,Y];rfl))
  ·have Y:=wa Y (wa hlt (wa (aX (Nat.le_of_not_lt hlt)) (wa (hcN hlt) (Eq.symm hB))))
   refine wp (h:=?_)
   first|(refine c9 (fun hg=>(by exact mO (l[i]'hlt) x (hs _ (aB _)) hx)) (fun hg=>by simp [go_sem]) ?_)|(refine c9 (r:=.int .i64 0) (fun hg=>absurd hg (by simp)) (fun hg=>absurd hg (by simp)) ?_)
   exact wp (h:=hQ _ _ (by simp [go_sem,Y]))
def Ae (l:List Cnt)(k:Nat)(x:Cnt):List Cnt:=l.take k++x :: l.drop k
def Hp (l:List Cnt)(x:Cnt):List Cnt:=match Cx l x,l[uC l x]? with
 | true,some y=>l.set (uC l x) { y with num:=y.num+x.num }
 | _,_=>Ae l (uC l x) x
def PJ (l:List Cnt)(k:Nat)(x:Cnt):Prop:=∀ (G:AHeap) (id:Nat) (Q:D→AHeap→Prop),G.get id=some ⟨210,4,l.map Cnt.c,false⟩→id<G.next →
 (∀ id' H',id'<H'.next→H'.get id'=some ⟨210,4,(Ae l k x).map Cnt.c,false⟩→Q (.own id' (l.length+1)) H')→ACalls Tryz.prog 205 [.own id l.length,dI k,.list [x.c]] G Q
theorem Ad (l:List Cnt)(hl:l.length≤1000000)(x:Cnt):PJ l l.length x:=by
 intro G id Q hg hid hQ
 refine Hy Tryz.func205 rfl rfl (aE rfl) ?_
 refine O8 (O9 (c:=⟨fun _=>false,fun _=>[]⟩) Tz.mixed (by kernel_rfl) ?_)
 simp [go_sem,seval]
 refine O8 (PZ (rid:=1) (l:=[_,_]) (md:=fun _=>false) rfl (fun o ho=>?_) rfl Tz.sl135 ?_)
 ·simp at ho;rcases ho with rfl|rfl<;>rfl
 simp [go_sem,seval]
 refine ⟨id,l.length,⟨rfl,rfl⟩,_,hg,by simp,.i64,l.length,⟨rfl,rfl⟩,by omega,by omega,?_⟩
 refine O9 (c:=⟨fun _=>false,fun _=>[]⟩) Tz.mixed (by kernel_rfl) ?_
 simp [go_sem,seval,hg]
 intro _
 exact ⟨by omega,hQ id _ (by simpa [go_sem] using hid) (by simp [go_sem,Ae,dI])⟩
theorem vA:Own Tryz.prog 202 [.nil] 210 4 []:=by
 refine Tz.oK ⟨fun t=>t==2||t==5,fun _=>[]⟩ Tryz.func202 rfl (fun Q hQ=>?_)
 have Y:=trivial
 refine wv (h:=?_)
 exact hQ _ _ _ (by simp [go_sem]<;>first|omega|(rw [aY];simp<;>omega)|(simp_all<;>omega)) (by simp [go_sem]<;>first|omega|(rw [aY];simp<;>omega)|(simp_all<;>omega))
theorem OG:Own Tryz.prog 202 [.ne] 210 4 []:=by
 refine Tz.oK ⟨fun t=>t==2||t==5,fun _=>[]⟩ Tryz.func202 rfl (fun Q hQ=>?_)
 have Y:=trivial
 refine wo (h:=?_)
 exact hQ _ _ _ (by simp [go_sem]<;>first|omega|(rw [aY];simp<;>omega)|(simp_all<;>omega)) (by simp [go_sem]<;>first|omega|(rw [aY];simp<;>omega)|(simp_all<;>omega))
theorem OH (l:List Cnt)(hl:l.length≤1000000)(hne:l≠[]):Own Tryz.prog 202 [.list (l.map Cnt.c)] 210 4 (l.map Cnt.c):=by
 refine Tz.oK ⟨fun t=>t==2||t==5,fun _=>[]⟩ Tryz.func202 rfl (fun Q hQ=>?_)
 have Y:=hne
 refine wo (h:=?_)
 exact hQ _ _ _ (by simp [go_sem,hne]<;>first|omega|(rw [aY];simp<;>omega)|(simp_all<;>omega)) (by simp [go_sem,hne]<;>first|omega|(rw [aY];simp<;>omega)|(simp_all<;>omega))
theorem CA (l:List Cnt)(hl:l.length≤1000000):Own Tryz.prog 202 [.list (l.map Cnt.c)] 210 4 (l.map Cnt.c):=by
 by_cases hne:l=[]
 ·subst hne;exact B8 vA OG
 ·exact OH l hl hne
theorem QW {l:List Cnt}{x:Cnt}(h:Cx l x=true):∃ hk:uC l x<l.length,cmpC l[uC l x] x=0:=by
 unfold Cx at h
 by_cases hk:uC l x<l.length
 ·rw [aA hk] at h
  exact ⟨hk,by simpa using h⟩
 ·rw [aX (by omega)] at h;cases h
theorem mN (a:D)(l:List Cnt)(hl:l.length≤1000)(ha:Own Tryz.prog 202 [a] 210 4 (l.map Cnt.c))(hacl:a.cl=true)(hs:∀ y∈l,y.small)(x:Cnt)(hx:x.small)(hi:Cx l x=false→PJ l (uC l x) x) :
  Own Tryz.prog 119 [a,.agg x.c] 210 4 ((Hp l x).map Cnt.c):=by
 refine Tz.oK ⟨fun t=>t==5,fun _=>[]⟩ Tryz.func119 rfl (fun Q hQ=>?_)
 have Y:=hacl
 refine wv (h:=l5 (ha) wl ?_)
 refine wv (h:=eR ((MK _ l rfl x (by omega) hs hx)) wr wl rfl ?_)
 refine pH (fun h3=>?_) fun h3=>?_
 ·refine wv (h:=?_)
  unfold fB;refine hi h3 _ 0 _ (by simp [go_sem]) (by simp [go_sem]) (fun id' H' h1 h2=>?_)
  have hF:Hp l x=Ae l (uC l x) x:=by unfold Hp;rw [h3]
  refine wv (h:=?_)
  exact hQ _ _ _ (by rw [hF];simp [Ae];omega) (by rw [hF];exact h2)
 ·obtain ⟨hk,hk0⟩:=QW (show Cx l x=true by simpa using h3)
  have q1:=(hs _ (aB hk)).2.2.2
  have q2:=hx.2.2.2
  have hF:Hp l x=l.set (uC l x) { l[uC l x] with num:=l[uC l x].num+x.num }:=by unfold Hp;rw [aA hk,show Cx l x=true by simpa using h3]
  have Y:=wa Y (wa (aA hk) hk)
  refine wp (h:=aJ (fun h5=>?_) (fun h5=>?_))
  ·simp at h5;omega
  ·try simp [go_sem] at h5
   refine wp (h:=?_)
   exact hQ _ _ _ (by rw [hF];simp) (by rw [hF];simp [go_sem,cK,aA hk,dI])
def oO (xs:List Cnt)(i:Nat):List Cnt:=(xs.take i).foldl Hp []
theorem yE {xs:List Cnt}{i:Nat}(h:i<xs.length):oO xs (i+1)=Hp (oO xs i) xs[i]:=by
 unfold oO;rw [aF h,oX];rfl
structure CntOk (xs:List Cnt):Prop where
 sm:∀ x∈xs,x.small
 pre:∀ i,i≤xs.length→(oO xs i).length≤1000∧∀ y∈oO xs i,y.small
 ins:∀ i (h:i<xs.length),Cx (oO xs i) xs[i]=false→PJ (oO xs i) (uC (oO xs i) xs[i]) xs[i]
def m8 (g:Graph):List Cnt:=g.nodes.map fun n=>⟨n,0,0,1⟩
theorem GO (t:Types)(ht:t.ok)(g:Graph)(hT:dC t g=0)(hE0:g.edges=[])(ok:CntOk (m8 g))(Q:D→AHeap→Prop)(hQ:∀ c H',c.cl=true→c.cell=true→(∀ H,gQ H c=c)→Q (.tup [.agg [c,.nil],dI 0]) H'):ACalls Tryz.prog 54 [t.d,g.d] .emp Q:=by
 refine (aH (cfg:=⟨fun t=>t==4||t==7||t==1000000,fun _=>[]⟩) Tz.mixed Tryz.func54 rfl rfl (aE rfl) (by kernel_rfl) ?_)
 have Y:=hT
 refine wv (h:=aC (vH t ht g) wl ?_)
 refine wv (h:=?_)
 repeat first|intro _|refine ⟨eI,?_⟩
 refine bG (fun i e H=>∃ c:D,(e 2=.adr t.c∧e 3=.adr g.c∧e 4=.ptr 0 1 0 0∧e 7=.ptr 1 1 0 0∧e 20=dLI g.nodes∧e 21=dI g.nodes.length∧e 22=dI i)∧(H.get 0=some ⟨137,2,[[.nil,.nil]],false⟩)∧(0<H.next)∧(H.get 1=some ⟨137,2,[[c,.nil]],false⟩)∧(1<H.next)∧(i≤g.nodes.length)∧(c=.nil∨∃ es,c=.list es)∧(c.cl=true∧Own Tryz.prog 202 [c] 210 4 ((oO (m8 g) i).map Cnt.c))) (fun i=>g.nodes.length - i) 0 ⟨.nil,wg,wn,wn,wn,wn,wi,(by exact .inl rfl),(by exact ⟨rfl,vA⟩)⟩ fun I0 hI0 i e H hi0=>?_
 obtain ⟨c,E0,g0_0,n0_0,g1_0,n1_0,hi,hcv,hc⟩:=hi0
 have hcl:c.cl=true:=hc.1
 have hr1:∀ H,gQ H c=c:=fun H=>by rcases hcv with rfl|⟨es,rfl⟩<;>rfl
 have hr2:iW c=[]:=by rcases hcv with rfl|⟨es,rfl⟩<;>rfl
 have hr3:c.cell=true:=by rcases hcv with rfl|⟨es,rfl⟩<;>rfl
 have hr4:=hr3
 unfold D.cell at hr4
 have Y:=wa Y (wa E0 (wa g0_0 (wa (cG n0_0) (wa g1_0 (wa (cG n1_0) (wa hcl (wa hr1 (wa hr2 (wa hr3 hr4)))))))))
 refine d7 (fun h6=>?_) fun h6=>?_
 ·have hil:i<(m8 g).length:=by unfold m8;rw [bE];exact h6
  have hx:(m8 g)[i]=⟨g.nodes[i],0,0,1⟩:=by simp [m8]
  have hps:=yE hil
  rw [hx] at hps
  have Y:=wa Y (wa h6 (wa (aA h6) hps))
  refine wv (h:=?_)
  repeat first|intro _|refine ⟨eI,?_⟩
  refine l5 ((by have hq:=mN c (oO (m8 g) i) (ok.pre i (oC hil)).1 hc.2 hc.1 (ok.pre i (oC hil)).2 ((m8 g)[i]'hil) (ok.sm _ (aB _)) (ok.ins i hil);simp only [hx] at hq;exact hq)) wl ?_
  refine wv (h:=?_)
  repeat first|intro _|refine ⟨eI,?_⟩
  exact wx hI0 (i+1) ⟨(.list ((oO (m8 g) (i+1)).map Cnt.c)),wg,wn,wn,wn,wn,wj,(by exact .inr ⟨_,rfl⟩),(by (exact ⟨by simp [go_sem],CA _ (cN (ok.pre (i+1) hil).1 (by decide))⟩))⟩
 ·refine wv (h:=?_)
  repeat first|intro _|refine ⟨eI,?_⟩
  refine bG (fun k e H=>(e 2=.adr t.c∧e 3=.adr g.c∧e 4=.ptr 0 1 0 0∧e 7=.ptr 1 1 0 0∧e 34=.list (g.edges.map Edge.c)∧e 35=dI g.edges.length∧e 36=dI k)∧(H.get 0=some ⟨137,2,[[.nil,.nil]],false⟩)∧(0<H.next)∧(H.get 1=some ⟨137,2,[[c,.nil]],false⟩)∧(1<H.next)) (fun k=>g.edges.length - k) 0 ⟨wg,wn,wn,wn,wn⟩ fun I2 hI2 k e H hi2=>?_
  obtain ⟨E2,g0_2,n0_2,g1_2,n1_2⟩:=hi2
  have Y:=wa Y (wa E2 (wa g0_2 (wa (cG n0_2) (wa g1_2 (cG n1_2)))))
  refine wv (h:=aJ (fun h11=>?_) (fun h11=>?_))
  ·rw [hE0] at h11;simp at h11
  ·try simp [go_sem] at h11
   refine wv (h:=?_)
   exact hQ c _ hcl hr3 hr1
theorem F5 (t:Types)(ht:t.ok)(st:List Stage)(g:Graph)(hT:dC t g=0)(hE0:g.edges=[])(ok:CntOk (m8 g)):Pure Tryz.prog 14 [t.d,.list (st.map Stage.c),g.d] (.tup [dLI (lP t st g),dI (kD t st g)]):=by
 have hSt:M2 Tryz.prog 54 [t.d,g.d] (fun r=>∃ c,c.cell=true∧r=.tup [.agg [c,.nil],dI 0]) :=
  qJ (GO t ht g hT hE0 ok _ fun c H' h1 h2 h3=>by
   have e:lW H' (.tup [.agg [c,.nil],dI 0])=.tup [.agg [c,.nil],dI 0]:=by simp [go_sem,h3,dI]
   rw [e]
   exact ⟨⟨c,h2,rfl⟩,by simp [go_sem,h1,dI]⟩)
 refine Tz.pK ⟨fun t=>t==8||t==10||t==12,fun _=>[]⟩ Tryz.func14 rfl (fun Q hQ=>?_)
 have Y:=trivial
 refine wv (h:=?_)
 unfold fB;refine vG hSt (by simp [go_sem]) (fun r hR hrc=>?_);obtain ⟨c,hr3,rfl⟩:=hR;have hr4:=hr3;unfold D.cell at hr4
 have Y:=wa Y (wa hr3 hr4)
 refine eJ (fun h4=>?_) fun h4=>?_
 ·have hE:kD t st g=3:=by unfold kD;rw [if_neg (by omega),if_pos (by omega)]
  exact wv (h:=hQ _ _ (by simp [go_sem,lP,hE]))
 ·have hE:kD t st g=dL (fun s=>jF t s.weights g) st:=by unfold kD;rw [if_neg (by omega),if_neg (by omega)]
  refine wo (h:=bG (fun i e H=>∃ xs:List Int,(e 3=.adr t.c∧e 5=.adr g.c∧e 1=.list (st.map Stage.c)∧e 10=.own 1 xs.length∧e 27=.list (st.map Stage.c)∧e 28=dI st.length∧e 29=dI i)∧(H.get 1=some ⟨3,1,xs.map cI,false⟩)∧(1<H.next)∧(i≤st.length)∧(xs=(st.take i).map (fun s=>mL t s.weights g))∧(dL (fun s=>jF t s.weights g) (st.drop i)=kD t st g)) (fun i=>st.length - i) 0 ⟨([]),wg,wn,wn,wi,(by rfl),(by (exact hE.symm))⟩ fun I0 hI0 i e H hi0=>?_)
  obtain ⟨xs,E0,g1_0,n1_0,hi,hx,hL⟩:=hi0
  have Y:=wa Y (wa E0 (wa g1_0 (cG n1_0)))
  refine d7 (fun h8=>?_) fun h8=>?_
  ·have hst:=hL
   rw [e9 _ h8] at hst
   have hxl:xs.length=i:=by rw [hx];simp;omega
   have Y:=wa Y h8
   refine wo (h:=aC (HF t ht st[i].weights g) wl ?_)
   refine eJ (fun h11=>?_) fun h11=>?_
   ·rw [if_pos (by omega)] at hst
    have hF:lP t st g=[]:=if_neg (by omega)
    exact wv (h:=hQ _ _ (by simp [go_sem,hF,← hst]))
   ·rw [if_neg (by omega)] at hst
    exact wo (h:=wx hI0 (i+1) ⟨(xs++[mL t st[i].weights g]),wg,wn,wn,wj,(by (rw [fJ _ h8,← hx])),(by exact hst)⟩)
  ·have hL0:kD t st g=0:=by rw [← hL,fM _ (by omega)]
   have hX:xs=lP t st g:=by unfold lP;rw [if_pos hL0,hx,gH _ (by omega)]
   exact wv (h:=hQ _ _ (by simp [go_sem,Y,hL0,← hX]))
theorem MB:CntOk (m8 ⟨[0,1,1],[]⟩) where
 sm x hx:=by
  simp [m8] at hx
  rcases hx with rfl|rfl<;>simp [Cnt.small]
 pre i hi:=by
  have h:∀ j,j≤3→(oO (m8 ⟨[0,1,1],[]⟩) j).length≤1000∧∀ y∈oO (m8 ⟨[0,1,1],[]⟩) j,y.small:=by
   intro j hj
   have e0:oO (m8 ⟨[0,1,1],[]⟩) 0=[]:=rfl
   have e1:oO (m8 ⟨[0,1,1],[]⟩) 1=[⟨0,0,0,1⟩]:=by rfl
   have e2:oO (m8 ⟨[0,1,1],[]⟩) 2=[⟨0,0,0,1⟩,⟨1,0,0,1⟩]:=by rfl
   have e3:oO (m8 ⟨[0,1,1],[]⟩) 3=[⟨0,0,0,1⟩,⟨1,0,0,2⟩]:=by rfl
   rcases (show j=0∨j=1∨j=2∨j=3 by omega) with rfl|rfl|rfl|rfl
   ·rw [e0];simp
   ·rw [e1];simp [Cnt.small]
   ·rw [e2];simp [Cnt.small]
   ·rw [e3];simp [Cnt.small]
  exact h i hi
 ins i hi hb:=by
  have h:i<3:=hi
  rcases (show i=0∨i=1∨i=2 by omega) with rfl|rfl|rfl
  ·exact Ad [] (by simp) _
  ·exact Ad [⟨0,0,0,1⟩] (by simp) _
  ·have hb':Cx [⟨0,0,0,1⟩,⟨1,0,0,1⟩] ⟨1,0,0,1⟩=false:=hb
   exact absurd hb' (by decide)
theorem yY (ht:twoT.ok):Pure Tryz.prog 14 [twoT.d,.list ([(⟨[3,1],[0,1]⟩:Stage)].map Stage.c),Graph.d ⟨[0,1,1],[]⟩] (.tup [dLI (lP twoT [⟨[3,1],[0,1]⟩] ⟨[0,1,1],[]⟩),dI (kD twoT [⟨[3,1],[0,1]⟩] ⟨[0,1,1],[]⟩)]) :=
 F5 twoT ht [⟨[3,1],[0,1]⟩] ⟨[0,1,1],[]⟩ (by decide +kernel) rfl MB
theorem ACalls.nz {P:Program}{f:FuncId}{args args':List D}{H:AHeap}{Q:D→AHeap→Prop}(ha:args.map qL=args')(h:ACalls P f args' H Q):ACalls P f args H Q:=by
 subst ha
 refine ⟨h.1,fun M0 σ w vals hR hv=>h.2 M0 σ w vals hR ⟨by simpa using hv.len,fun j u d hu hd=>?_⟩⟩
 rw [aR,bJ] at hd
 obtain ⟨y,hy,rfl⟩:=hd
 exact Pl (hv.rep j u y hu hy)
theorem Rk:nZ twoT=true:=by decide +kernel
theorem SX:qX [wL,Dr]=true:=by decide +kernel
theorem Vd:wA twoT [wL,Dr]=[⟨[3,1],[0,1]⟩]:=by decide +kernel
theorem Vf:zI twoT [wL,Dr]=0:=by decide +kernel
theorem Ve:kD twoT [⟨[3,1],[0,1]⟩] ⟨[0,1,1],[]⟩=0:=by decide +kernel
theorem Vc:lP twoT [⟨[3,1],[0,1]⟩] ⟨[0,1,1],[]⟩=[5]:=by decide +kernel
theorem Vg:xO twoT [wL,Dr] [⟨[3,1],[0,1]⟩]=true:=by decide +kernel
theorem Dj:Pure Tryz.prog 12 [] (.bool true):=by
 have ht:=J7 Rk
 have hr:=(FT SX).2
 refine Tz.pK ⟨fun _=>false,fun _=>[]⟩ Tryz.func12 rfl (fun Q hQ=>?_)
 have Y:=wa @Vd (wa @Vf (wa @Ve (wa @Vc @Vg)))
 refine wv (h:=aC (Ci) wl ?_)
 refine wv (h:=aC (Di) wl ?_)
 refine wv (h:=aC (zM twoT ht [wL,Dr] hr) wl ?_)
 refine wv (h:=aC (Ci) wl ?_)
 refine wv (h:=?_)
 unfold fB;refine ACalls.nz (args':=[twoT.d,.list ([(⟨[3,1],[0,1]⟩:Stage)].map Stage.c),Graph.d ⟨[0,1,1],[]⟩]) (by simp [go_sem,twoT,NodeTy.c,Stage.c,Types.d,Types.c,Graph.d,Graph.c,dLI,dI,cI,o8]) (nG (yY ht) (by simp [go_sem]) ?_)
 refine wo (h:=aN (fun hg=>BZ [⟨[3,1],[0,1]⟩] [⟨[3,1],[0,1]⟩]) (fun hg=>wl) ?_)
 refine wo (h:=aN (fun hg=>QP [5] [5]) (fun hg=>wl) ?_)
 refine wo (h:=aN (fun hg=>Ci) (fun hg=>wl) ?_)
 refine wo (h:=aN (fun hg=>Di) (fun hg=>wl) ?_)
 refine wo (h:=aN (fun hg=>F7 twoT ht [wL,Dr] hr [⟨[3,1],[0,1]⟩]) (fun hg=>wl) ?_)
 exact wo (h:=hQ _ _ wy)
theorem Iz {t:Types}{rs:List Rule}(h:qS t rs=true):nZ t=true∧qX rs=true:=by
 unfold qS at h
 cases h1:nZ t<;>cases h2:qX rs<;>simp [h1,h2] at h ⊢
end Go.Abs
end
section
namespace Go.Abs
variable {P:Program}
theorem n8 (w:World)(dT sT ty elem:TypeId)(sz:Nat)(g o dLen dCap:Nat)(a:Addr)(sLen sCap n:Nat)(cur:Array Value)(t:TypeId)(cs:List Value)
  (hu:P.underlying dT=some (.slice elem)) (hs:(P.info? elem).map (·.size)=some sz)
  (hg:w.heap[g]?=some (.cells cur t (0,0))) (hn:n=Nat.min sLen dLen) (hcl:cs.length=n * sz)
  (hsrc:∀ j v,cs[j]?=some v→w.cell? (a.add j)=some v) (hfit:o+cs.length≤cur.size) (h1:∀ v∈cs,v.oneCell'=true) :
  (Builtin.copy_ #[dT,sT] ty #[.slice (some ⟨g,o,none⟩) dLen dCap,.slice (some a) sLen sCap]).run P w =
   .ok (goInt n) (w.setRow g (cur.toList.take o++cs++cur.toList.drop (o+cs.length)).toArray):=by
 have hl:=run_loadCells_list (P:=P) w a cs hsrc
 have hst:=run_storeCells_at P g o t cs 0 cur w hg (by simpa using hfit) h1
 cases hq:P.info? elem with
 | none=>simp [hq] at hs
 | some i =>
  have hi:i.size=sz:=by simpa [hq] using hs
  rw [hcl] at hl
  simp [Builtin.copy_,run_underlying hu,Builtin.lenOf,Builtin.firstCells,sizeOf,typeInfo,hq,hi,← hn,hl,hst]
theorem GQ {w : World} {a : Addr} {v : Value} (h : w.cell? a = some v) : ∃ t k, w.shape? a.block = some (t, k + 1) := by
  unfold World.cell? at h
  cases hb : w.heap[a.block]? with
  | none => rw [hb] at h; cases h
  | some o =>
    rw [hb] at h
    cases o with
    | cells c e f =>
      simp only at h
      split at h
      · cases h
      · have hlt := (iD.1 h).1
        exact ⟨e, c.size - 1, by unfold World.shape?; rw [hb]; simp only; rw [show c.size - 1 + 1 = c.size by omega]⟩
    | _ => cases h
theorem BS (w : World) (tS tR e : TypeId) (ht : P.underlying tS = some (.slice e)) (size : Nat) (hz : ∀ w, (Go.sizeOf e).run P w = .ok size w)
    (a b : Addr) (la ca lb cb : Nat) (hne : a.block ≠ b.block) (tA : TypeId) (kA : Nat) (hsa : w.shape? a.block = some (tA, kA + 1)) {cur : Array Value} {tB : TypeId} (hb : w.heap[b.block]? = some (.cells cur tB (0, 0))) (hkB : cur.size ≠ 0) :
    (Extern.SlicesOverlaps.overlaps #[tS, tS] #[tR] #[.slice (some a) la ca, .slice (some b) lb cb]).run P w = .ok (.bool false) w := by
  have hnb : (a.block != b.block) = true := by simpa using hne
  have hnb' : (a.block == b.block) = false := by simpa using hne
  have hsb : w.shape? b.block = some (tB, cur.size) := by unfold World.shape?; rw [hb]
  have hf : ∀ o s, w.frozen? ⟨b.block, o, s⟩ = false := fun o s => by simp [World.frozen?, hb]
  have hf' : w.frozen? b = false := by simp [World.frozen?, hb]
  change Sem.run P (α := Value) (do
    let some t := (#[tS, tS] : Array TypeId)[0]? | stuck "none"
    let .slice elem ← underlying t | stuck _
    let size ← sizeOf elem
    match (some a : Option Addr), (some b : Option Addr) with
    | some a, some b =>
      if la = 0 ∨ lb = 0 ∨ size = 0 then pure (Value.bool false)
      else if a.block != b.block && (← frozen a) && (← frozen b) then unsupported .addressObserved
      else do
        if a.block != b.block then do
          noView a; noView b
          if ← mayBeOne a b then return Value.bool ((← choose _) == 1)
        pure (Value.bool (a.block == b.block && a.off < b.off + lb * size && b.off < a.off + la * size))
    | _, _ => pure (Value.bool false)) w = _
  by_cases h0 : la = 0 ∨ lb = 0 ∨ size = 0
  · simp [run_underlying ht, hz, h0]
  · obtain ⟨kB, hkB'⟩ : ∃ k, cur.size = k + 1 := ⟨cur.size - 1, by omega⟩
    rw [hkB'] at hsb
    cases hfa : w.frozen? a <;> cases hfe : w.frozen? ⟨a.block, kA + 1, none⟩ <;>
      simp [run_underlying ht, hz, h0, hnb, hnb', frozen, noView, viewAt, mayBeOne, stringish, shape, Sem.run, hsa, hsb, hfa, hfe, hf, hf']
theorem Tl {cur:List Value}{xs vs:List Value}{n c i m:Nat}(hc:cur.length=c * 4)(hxs:cur.take (n * 4)=xs)(hi:i≤n)(hroom:n+m≤c)(hvl:vs.length=m * 4)(r1 r2:List Value)
  (h1:r1=cur.take ((i+m) * 4)++xs.drop (i * 4)++cur.drop ((i+m) * 4+(xs.drop (i * 4)).length)) (h2:r2=r1.take (i * 4)++vs++r1.drop (i * 4+vs.length)) :
  r1.length=c * 4∧r2.length=c * 4∧r2.take ((n+m) * 4)=xs.take (i * 4)++vs++xs.drop (i * 4):=by
 have hxl:xs.length=n * 4:=by rw [← hxs,aV,hc];omega
 have hd:(xs.drop (i * 4)).length=(n - i) * 4:=by rw [c4,hxl];omega
 have l1:r1.length=c * 4:=by rw [h1];simp only [aG,aV,c4,hc,hxl];omega
 have l2:r2.length=c * 4:=by rw [h2];simp only [aG,aV,c4,l1,hvl];omega
 refine ⟨l1,l2,eK fun j=>?_⟩
 rw [bF]
 by_cases hj:j<(n+m) * 4
 ·rw [if_pos hj,h2,dK,dK]
  simp only [aV,l1,hvl,hxl,bF,bV]
  have e1:min (i * 4) (c * 4)=i * 4:=by omega
  have e2:min (i * 4) (n * 4)=i * 4:=by omega
  rw [e1,e2]
  by_cases a1:j<i * 4
  ·rw [if_pos a1,if_pos a1,if_pos a1,if_pos a1,h1,dK]
   simp only [aV,hc,bF]
   rw [if_pos (by omega),if_pos (by omega),← hxs,bF,if_pos (by omega)]
  ·rw [if_neg a1,if_neg a1]
   by_cases a2:j<i * 4+m * 4
   ·rw [if_pos a2,if_pos a2]
   ·rw [if_neg a2,if_neg a2,h1,dK]
    simp only [aV,hc,hd,bV]
    rw [if_neg (by omega),if_pos (by omega)]
    congr 1;omega
 ·rw [if_neg hj,aX (by simp only [aG,aV,c4,hvl,hxl];omega)]
theorem R9 {row:List Value}{xs vs:List Value}{n G i m:Nat}(hr:row.length=G * 4)(hxl:xs.length=n * 4)(hrow:row.take (i * 4)=xs.take (i * 4))(hi:i≤n)(hG:n+m≤G)(hvl:vs.length=m * 4)(r1 r2:List Value)
  (h1:r1=row.take (i * 4)++vs++row.drop (i * 4+vs.length)) (h2:r2=r1.take ((i+m) * 4)++xs.drop (i * 4)++r1.drop ((i+m) * 4+(xs.drop (i * 4)).length)) :
  r1.length=G * 4∧r2.length=G * 4∧r2.take ((n+m) * 4)=xs.take (i * 4)++vs++xs.drop (i * 4):=by
 have hd:(xs.drop (i * 4)).length=(n - i) * 4:=by rw [c4,hxl];omega
 have l1:r1.length=G * 4:=by rw [h1];simp only [aG,aV,c4,hr,hvl];omega
 have l2:r2.length=G * 4:=by rw [h2];simp only [aG,aV,c4,l1,hxl];omega
 refine ⟨l1,l2,eK fun j=>?_⟩
 rw [bF]
 by_cases hj:j<(n+m) * 4
 ·rw [if_pos hj,h2,dK,dK]
  simp only [aV,l1,hvl,hxl,hd,bF,bV]
  have e1:min ((i+m) * 4) (G * 4)=(i+m) * 4:=by omega
  have e2:min (i * 4) (n * 4)=i * 4:=by omega
  rw [e1,e2]
  by_cases a1:j<(i+m) * 4
  ·rw [if_pos a1,if_pos a1,h1,dK]
   simp only [aV,hr,hvl]
   have e3:min (i * 4) (G * 4)=i * 4:=by omega
   rw [e3]
   by_cases a2:j<i * 4
   ·rw [if_pos a2,if_pos a2,if_pos a2,hrow,bF,if_pos a2]
   ·rw [if_neg a2,if_neg a2,if_pos (by omega),if_pos (by omega)]
  ·rw [if_neg a1,if_pos (by omega),if_neg (by omega),if_neg (by omega)]
   congr 1;omega
 ·rw [if_neg hj,aX (by simp only [aG,aV,c4,hvl,hxl];omega)]
end Go.Abs
end
section
open Go Go.Proofs Go.Shelf Go.RowKit Go.Lib
namespace Go.Abs
theorem uB:(Tryz.prog.info? 210).map (·.size)=some 4:=by kernel_rfl
theorem OA (w:World):(Go.sizeOf 210).run Tryz.prog w=.ok 4 w:=by
 cases hq:Tryz.prog.info? 210 with
 | none=>have:=uB;rw [hq] at this;cases this
 | some i=>have:=uB;rw [hq] at this;simp only [fD,bH] at this;simp [Go.sizeOf,typeInfo,hq,this]
set_option maxHeartbeats 4000000 in
set_option maxRecDepth 100000 in
theorem QG (b n c i m:Nat)(ad:Addr)(vc:Nat)(cur R1 R2:Array Value)(xs vs:List Value)(w:World)(hi:i<n)(hm:0<m)(hroom:n+m≤c)(hc63:c≤9223372036854775807)(hvb:ad.block≠b)
  (hb:w.heap[b]?=some (.cells cur 210 (0,0))) (hcs:cur.size=c * 4) (hxs:cur.toList.take (n * 4)=xs) (hvl:vs.length=m * 4)
  (hvs:∀ (j:Nat) (v:Value),vs[j]?=some v→w.cell? (ad.add j)=some v) (h1c:∀ v∈xs,v.oneCell'=true) (h1v:∀ v∈vs,v.oneCell'=true)
  (hR1:R1=(cur.toList.take ((i+m) * 4)++xs.drop (i * 4)++cur.toList.drop ((i+m) * 4+(xs.drop (i * 4)).length)).toArray)
  (hR2:R2=(R1.toList.take (i * 4)++vs++R1.toList.drop (i * 4+vs.length)).toArray) (hR1s:R1.size=c * 4) :
  Calls Tryz.prog 205 #[.slice (some ⟨b,0,none⟩) n c,.int .i64 i,.slice (some ad) m vc] w fun e w' =>
   e=.returned (.slice (some ⟨b,0,none⟩) (n+m) c)∧w'=(w.drew.setRow b R1).setRow b R2:=by
 have hz1:¬ ((m:Int)=0):=by omega
 have hz2:¬ ((i:Int)=(n:Int)):=by omega
 have hxl:xs.length=n * 4:=by rw [← hxs,aV,dV,hcs];omega
 have hdl:(xs.drop (i * 4)).length=(n - i) * 4:=by rw [c4,hxl];omega
 obtain ⟨ta,ka,hsa⟩:=GQ (hvs 0 _ (aA (by omega)))
 rw [f0] at hsa
 have hov:∀ lb cb,(callFunc 289 #[.slice (some ad) m vc,.slice (some ⟨b,(i+m) * 4,none⟩) lb cb]).run Tryz.prog w=.ok (.value (.bool false)) w:=fun lb cb=>by
  rw [run_callFunc_extern Tryz.func289 (by kernel_rfl) (by kernel_rfl) (by kernel_rfl) (e:=Extern.SlicesOverlaps.overlaps #[135,135] #[4]) (by kernel_rfl),
   BS w 135 4 210 Tryz.underlying135 4 OA ad ⟨b,(i+m) * 4,none⟩ m vc lb cb hvb ta ka hsa hb (by omega)]
  rfl
 have hw1:IntKind.i64.wrap ((i:Int)+(m:Int))=(i:Int)+(m:Int):=by rw [IntKind.wrap_i64];omega
 have hb1:(0:Int)≤(i:Int)+(m:Int):=by omega
 have hin:i≤n:=by omega
 have htn:((i:Int)+(m:Int)).toNat=i+m:=by omega
 have hb2:¬ (c=i+m):=by omega
 have hb3:(i:Int)≤(n:Int)+(m:Int):=by omega
 have hb4:¬ (c=i):=by omega
 have hcp1:∀ ty dc sc,(Builtin.copy_ #[135,135] ty #[.slice (some ⟨b,(i+m) * 4,none⟩) (n+m - (i+m)) dc,.slice (some ⟨b,i * 4,none⟩) (n+m - i) sc]).run Tryz.prog w.drew=.ok (goInt (n - i:Nat)) (w.drew.setRow b R1):=fun ty dc sc=>by
  rw [hR1]
  exact n8 w.drew 135 135 ty 210 4 b ((i+m) * 4) (n+m - (i+m)) dc ⟨b,i * 4,none⟩ (n+m - i) sc (n - i) cur 210 (xs.drop (i * 4)) Tryz.underlying135 uB hb (by simp only [Nat.min_def];split<;>omega) hdl
   (fun j v hj=>by
    rw [fW]
    rw [bV,← hxs,bF] at hj
    split at hj
    ·show w.cell? _=_
     simp only [World.cell?,hb]
     simpa using hj
    ·cases hj)
   (by rw [hdl];omega) (fun v hv=>h1c v (dB hv))
 obtain ⟨W1,hW1⟩:∃ W1,W1=w.drew.setRow b R1:=⟨_,rfl⟩
 have hW1b:W1.heap[b]?=some (.cells R1 210 (0,0)):=by rw [hW1];exact setRow_heap w.drew b cur R1 210 (0,0) hb
 have hcp2:∀ (W:World),(∀ q:Nat,W.heap[q]?=W1.heap[q]?)→∀ ty dc,(Builtin.copy_ #[135,135] ty #[.slice (some ⟨b,i * 4,none⟩) (n+m - i) dc,.slice (some ad) m vc]).run Tryz.prog W=.ok (goInt m) (W.setRow b R2):=fun W hWc ty dc=>by
  rw [hR2]
  exact n8 W 135 135 ty 210 4 b (i * 4) (n+m - i) dc ad m vc m R1 210 vs Tryz.underlying135 uB (by rw [hWc];exact hW1b) (by simp only [Nat.min_def];split<;>omega) hvl
   (fun j v hj=>by
    have h0:=hvs j v hj
    simp only [World.cell?,f0] at h0 ⊢
    rw [hWc,hW1,setRow_other _ _ _ _ hvb]
    exact h0)
   (by rw [hvl];omega) h1v
 rw [← hW1] at hcp1
 have mixed:=Tz.mixed
 clear hR1 hR2
 go_enter Tryz.func205,Tryz.ntmps205
 go_wp2_with (simp only [hov])
 go_region_law_o (refine step_copy_runI rfl _ _ 135 135 rfl _ _ (by simp [Act.eval,Act.put]) (by simp [Act.eval,Act.put]) (hcp1 _ _ _) ?_)
 go_wp2_with (at_builtin;refine wpList_copy_runI _ rfl _ _ 135 135 rfl _ _ rfl rfl (hcp2 _ (fun _=>rfl) _ _) ?_)
 go_ret
 first|exact ⟨rfl,by rw [hW1]⟩|exact ⟨rfl,rfl⟩
set_option maxHeartbeats 4000000 in
set_option maxRecDepth 100000 in
theorem Sa (b n c i m:Nat)(ad:Addr)(vc:Nat)(cur ROW R1 R2:Array Value)(z:Value)(G:Nat)(xs vs:List Value)(w:World)(hi:i<n)(hm:0<m)(hnc:n≤c)(hroom:c<n+m)(hbig:n+m≤4294967296)
  (hz:(Tryz.prog.info? 210).map (fun i=>(i.zero,i.size,i.bytes))=some (some z,4,32)) (hzc:z.cells.size=4)
  (hb:w.heap[b]?=some (.cells cur 210 (0,0))) (hcs:cur.size=c * 4) (hxs:cur.toList.take (n * 4)=xs) (hvl:vs.length=m * 4)
  (hvs:∀ (j:Nat) (v:Value),vs[j]?=some v→w.cell? (ad.add j)=some v) (h1c:∀ v∈xs,v.oneCell'=true) (h1v:∀ v∈vs,v.oneCell'=true)
  (hG:G=grownCap w (n+m) c 210) (hROW:ROW=(xs.take (i * 4)).toArray++Builtin.zeroCells z.cells (n+m - i)++Builtin.zeroCells z.cells (G - (n+m)))
  (hR1:R1=(ROW.toList.take (i * 4)++vs++ROW.toList.drop (i * 4+vs.length)).toArray)
  (hR2:R2=(R1.toList.take ((i+m) * 4)++xs.drop (i * 4)++R1.toList.drop ((i+m) * 4+(xs.drop (i * 4)).length)).toArray) (hROWs:ROW.size=G * 4) (hR1s:R1.size=G * 4) :
  Calls Tryz.prog 205 #[.slice (some ⟨b,0,none⟩) n c,.int .i64 i,.slice (some ad) m vc] w fun e w' =>
   e=.returned (.slice (some ⟨w.heap.size,0,none⟩) (n+m) G) ∧
   w'=(((w.alloc (.cells ROW 210)).drew.setRow w.heap.size R1).drew).setRow w.heap.size R2:=by
 obtain ⟨i0,hi0,hz0,hzs,hzb⟩:=info_parts hz
 have hz1:¬ ((m:Int)=0):=by omega
 have hz2:¬ ((i:Int)=(n:Int)):=by omega
 have hz3:(c:Int)<(n:Int)+(m:Int):=by omega
 have hxl:xs.length=n * 4:=by rw [← hxs,aV,dV,hcs];omega
 have hdl:(xs.drop (i * 4)).length=(n - i) * 4:=by rw [c4,hxl];omega
 have hbw:b<w.heap.size:=(iD.1 hb).1
 have hvw:ad.block<w.heap.size:=by have:=World.block_lt_of_cell? w _ (hvs 0 _ (aA (by omega)));rwa [f0] at this
 have hkk:(n:Int)+(m:Int) - (i:Int)=((n+m - i:Nat):Int):=by omega
 have hik:i+(n+m - i)=n+m:=by omega
 have hcell:∀ j v,xs[j]?=some v→w.cell? ⟨b,j,none⟩=some v:=fun j v hj=>by
  rw [← hxs,bF] at hj
  split at hj
  ·simp only [World.cell?,hb]
   simpa using hj
  ·cases hj
 have hold:(Builtin.firstCells i0.size i (.slice (some ⟨b,0,none⟩) i c)).run Tryz.prog w.drew=.ok (xs.take (i * 4)).toArray w.drew:=by
  rw [hzs]
  exact run_firstCells_some w.drew 4 i ⟨b,0,none⟩ i c (xs.take (i * 4)) (by rw [aV];omega) (fun j v hj=>by
   rw [fW,e8]
   rw [bF] at hj
   split at hj
   ·exact hcell j v hj
   ·cases hj)
 have hrz:∀ ty,(Builtin.append_ #[135,3] ty #[.slice (some ⟨b,0,none⟩) i c,.int .i64 ((n:Int)+(m:Int) - (i:Int))]).run Tryz.prog w =
   .ok (.slice (some ⟨w.heap.size,0,none⟩) (n+m) G) (w.drew.alloc (.cells ROW 210)):=fun ty=>by
  have h:=Lib.run_append_grow_zeros w 135 3 ty 210 i0 z .i64 .i64 Tryz.underlying135 Tryz.underlying3 hi0 hz0 (some ⟨b,0,none⟩) i c (xs.take (i * 4)) hold (n+m - i) (by omega) (by omega) (by omega) (by omega) (by rw [hzb];omega) (by rw [hzb,hik];exact growslice_fits hroom (by omega))
  rw [hik] at h
  rw [hkk,hROW,hG]
  exact h
 obtain ⟨W1,hW1⟩:∃ W1,W1=w.drew.alloc (.cells ROW 210):=⟨_,rfl⟩
 rw [← hW1] at hrz
 have hW1n:W1.heap[w.heap.size]?=some (.cells ROW 210 (0,0)):=by rw [hW1];exact heap_alloc_new w.drew _
 have hW1o:∀ q:Nat,q<w.heap.size→W1.heap[q]?=w.heap[q]?:=fun q hq=>by rw [hW1];exact heap_alloc_old w.drew _ hq
 have hcpA:∀ (W:World),(∀ q:Nat,W.heap[q]?=W1.heap[q]?)→∀ ty dc,(Builtin.copy_ #[135,135] ty #[.slice (some ⟨w.heap.size,i * 4,none⟩) (n+m - i) dc,.slice (some ad) m vc]).run Tryz.prog W=.ok (goInt m) (W.setRow w.heap.size R1):=fun W hWc ty dc=>by
  rw [hR1]
  exact n8 W 135 135 ty 210 4 w.heap.size (i * 4) (n+m - i) dc ad m vc m ROW 210 vs Tryz.underlying135 uB (by rw [hWc];exact hW1n) (by simp only [Nat.min_def];split<;>omega) hvl
   (fun j v hj=>by
    have h0:=hvs j v hj
    simp only [World.cell?,f0] at h0 ⊢
    rw [hWc,hW1o _ hvw]
    exact h0)
   (by have:=grownCap_ge w (n+m) c 210;rw [← hG] at this;rw [hvl];omega) h1v
 have hGn:n+m≤G:=by rw [hG];exact grownCap_ge w _ _ _
 have hG63:G≤9223372036854775807:=by
  have:=grownCap_le_maxLen w (n+m) c 210 (by unfold maxLen;omega)
  rw [← hG] at this
  unfold maxLen at this
  omega
 have hGi:¬ (G=i):=by omega
 have hGim:¬ (G=i+m):=by omega
 have hci:¬ (c=i):=by omega
 have hcpB:∀ (W:World),(∀ q:Nat,W.heap[q]?=(W1.setRow w.heap.size R1).heap[q]?)→∀ ty dc sc,(Builtin.copy_ #[135,135] ty #[.slice (some ⟨w.heap.size,(i+m) * 4,none⟩) (n+m - (i+m)) dc,.slice (some ⟨b,i * 4,none⟩) (n - i) sc]).run Tryz.prog W=.ok (goInt (n - i:Nat)) (W.setRow w.heap.size R2):=fun W hWc ty dc sc=>by
  rw [hR2]
  exact n8 W 135 135 ty 210 4 w.heap.size ((i+m) * 4) (n+m - (i+m)) dc ⟨b,i * 4,none⟩ (n - i) sc (n - i) R1 210 (xs.drop (i * 4)) Tryz.underlying135 uB (by rw [hWc];exact setRow_heap _ _ _ _ _ _ hW1n) (by simp only [Nat.min_def];split<;>omega) hdl
   (fun j v hj=>by
    rw [fW]
    rw [bV] at hj
    have h0:=hcell _ v hj
    simp only [World.cell?] at h0 ⊢
    rw [hWc,setRow_other _ _ _ _ (by omega),hW1o _ hbw]
    exact h0)
   (by rw [hdl];omega) (fun v hv=>h1c v (dB hv))
 subst hW1
 have hE1:∀ q:Nat,((w.alloc (.cells ROW 210)).drew).heap[q]?=(w.drew.alloc (.cells ROW 210)).heap[q]?:=fun q=>rfl
 have hF1:∀ q:Nat,(((w.alloc (.cells ROW 210)).drew.setRow w.heap.size R1).drew).heap[q]?=((w.drew.alloc (.cells ROW 210)).setRow w.heap.size R1).heap[q]?:=fun q=>rfl
 have hw1:IntKind.i64.wrap ((i:Int)+(m:Int))=(i:Int)+(m:Int):=by rw [IntKind.wrap_i64];omega
 have hb1:(0:Int)≤(i:Int)+(m:Int):=by omega
 have hin:i≤n:=by omega
 have htn:((i:Int)+(m:Int)).toNat=i+m:=by omega
 have hb3:(i:Int)≤(n:Int):=by omega
 clear hkk hik hold hROW hG hz hi0 hz0 hzs hzb hR1 hR2
 have mixed:=Tz.mixed
 go_enter Tryz.func205,Tryz.ntmps205
 go_wp2_with (first
  | (at_builtin;refine Lib.wpList_append_run _ rfl _ _ _ _ rfl _ _ rfl rfl _ _ (hrz _) ?_)
  | (at_builtin;refine wpList_copy_runI _ rfl _ _ 135 135 rfl _ _ rfl rfl (hcpA _ hE1 _ _) ?_)
  | (at_builtin;refine wpList_copy_runI _ rfl _ _ 135 135 rfl _ _ rfl rfl (hcpB _ (by intro q;rfl) _ _ _) ?_))
 go_region_law_o (refine step_copy_runI rfl _ _ 135 135 rfl (.slice (some ⟨w.heap.size,(i+m) * 4,none⟩) (n+m - (i+m)) (G - (i+m))) (.slice (some ⟨b,i * 4,none⟩) (n - i) (c - i)) (by simp [Act.eval,Act.put]) (by simp [Act.eval,Act.put]) (hcpB _ hF1 3 (G - (i+m)) (c - i)) ?_)
 go_wp2
 go_ret
 exact ⟨rfl,rfl⟩
end Go.Abs
end
