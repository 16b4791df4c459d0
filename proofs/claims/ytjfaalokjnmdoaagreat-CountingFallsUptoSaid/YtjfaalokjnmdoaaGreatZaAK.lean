/- Layer 22, the reference: conditions. · Layer 24: rules. · La -/
import Derived.Test.YtjfaalokjnmdoaaGreatZaAF
import Derived.Test.YtjfaalokjnmdoaaGreatZaAA
import Derived.Test.YtjfaalokjnmdoaaGreatZaAJ
set_option linter.unusedVariables false
set_option linter.unusedSimpArgs false
section
set_option maxRecDepth 100000
set_option maxHeartbeats 4000000
open Go Go.Proofs
namespace Go.Abs
theorem DL (a b:Graph)(m:Part):Pure Tryz.prog 300 [a.d,b.d,m.d] (.bool (He a b m)):=by
 refine Tz.pK ⟨fun _=>false,fun _=>[]⟩ Tryz.func300 rfl (fun Q hQ=>?_)
 have Y:=trivial
 refine wo (h:=aC (rS a b m) wl ?_)
 refine wo (h:=aN (fun hg=>mR m.nodes) (fun hg=>wl) ?_)
 refine wo (h:=aN (fun hg=>mR m.edges) (fun hg=>wl) ?_)
 exact wo (h:=hQ _ _ (by simp [go_sem,He,DE]))
theorem JD (c:Cond)(hc:c.short):Pure Tryz.prog 406 [.agg c.c] (.bool (bareB c)):=by
 obtain ⟨h1,h2,h3,h4,h5,h6⟩:=hc
 refine Tz.pK ⟨fun _=>false,fun _=>[]⟩ Tryz.func406 rfl (fun Q hQ=>?_)
 have Y:=@Cond.c_eq
 exact wo (h:=hQ _ _ (by simp [go_sem,bareB];rw [aY];simp;omega))
theorem Lj (c:Cond)(hc:c.short):Pure Tryz.prog 363 [.agg c.c] (.bool (pF c)):=by
 have hbare:∀ k':Int,k'=c.kind→Pure Tryz.prog 406 [.agg [dI k',.list (c.kids.map Cond.c),dLI c.map.nodes,dLI c.map.edges,dLI c.pattern.graph.nodes,.list (c.pattern.graph.edges.map Edge.c),.list (c.pattern.slots.map Slot.c),dI c.pattern.vars,.list (c.pattern.tests.map Test.c)]] (.bool (bareB c)):=by
  intro k' hk'
  have:=JD c hc
  rwa [Cond.c_eq,← hk'] at this
 refine Tz.pK ⟨fun _=>false,fun _=>[]⟩ Tryz.func363 rfl (fun Q hQ=>?_)
 have Y:=@Cond.c_eq
 refine d7 (fun h2=>?_) fun h2=>?_
 ·have Y:=wa Y h2
  refine wo (h:=aN (fun hg=>(hbare _ (by omega))) (fun hg=>wl) ?_)
  exact wo (h:=hQ _ _ (by simp [go_sem,pF,Y]))
 ·have Y:=wa Y h2
  refine d7 (fun h4=>?_) fun h4=>?_
  ·have Y:=wa Y h4
   refine wo (h:=aN (fun hg=>(hbare _ (by omega))) (fun hg=>wl) ?_)
   exact wo (h:=hQ _ _ (by simp [go_sem,pF,Y]))
  ·have Y:=wa Y h4
   refine d7 (fun h6=>?_) fun h6=>?_
   ·have Y:=wa Y h6
    refine wo (h:=aN (fun hg=>(hbare _ (by omega))) (fun hg=>wl) ?_)
    exact wo (h:=hQ _ _ (by simp [go_sem,pF,Y];rw [aY];simp;omega))
   ·have Y:=wa Y h6
    refine d7 (fun h7=>?_) fun h7=>?_
    ·have Y:=wa Y h7
     refine wo (h:=aN (fun hg=>(hbare _ (by omega))) (fun hg=>wl) ?_)
     exact wo (h:=hQ _ _ (by simp [go_sem,pF,Y];rw [aY];simp;omega))
    ·have Y:=wa Y h7
     refine d7 (fun h9=>?_) fun h9=>?_
     ·have Y:=wa Y h9
      exact wo (h:=hQ _ _ (by simp [go_sem,pF,Y];rw [aY];simp))
     ·have Y:=wa Y h9
      exact wv (h:=hQ _ _ (by simp [go_sem,pF,Y]))
theorem EL:∀ c:Cond,c.ok→Pure Tryz.prog 296 [.agg c.c] (.bool (KA c)):=by
 refine kY fun c ih hc=>?_
 obtain ⟨hs,hk⟩:=(sI c).1 hc
 have hW:=sJ c
 refine Tz.pK ⟨fun _=>false,fun _=>[]⟩ Tryz.func296 rfl (fun Q hQ=>?_)
 have Y:=@Cond.c_eq
 refine wo (h:=aC ((by have:=Lj c hs;rwa [Cond.c_eq] at this)) wl ?_)
 refine wv (h:=?_)
 repeat first|intro _|refine ⟨d8,?_⟩
 refine wq (fun h1=>?_) fun h1=>?_
 ·exact wv (h:=hQ _ _ (.inl (by simp [go_sem,hW,h1])))
 ·refine wv (h:=bG (fun i e H=>(e 1=.adr c.c∧e 3=dI i)∧(i≤c.kids.length)∧(((c.kids.take i).any fun k=>!KA k)=false)) (fun i=>c.kids.length - i) 0 ⟨wg,wi,(by rfl)⟩ fun I0 hI0 i e H hi0=>?_)
  obtain ⟨E0,hi,ha⟩:=hi0
  have Y:=wa Y E0
  refine wv (h:=?_)
  repeat first|intro _|refine ⟨d8,?_⟩
  refine wq (fun h4=>?_) fun h4=>?_
  ·have Y:=wa Y h4
   refine wo (h:=aC ((by have:=ih _ (aB h4) (hk _ (aB h4));rwa [Cond.c_eq] at this)) wl ?_)
   refine wv (h:=?_)
   repeat first|intro _|refine ⟨d8,?_⟩
   refine wq (fun h6=>?_) fun h6=>?_
   ·refine wv (h:=?_)
    have hb':c.kids.all KA=false:=by rw [bO];intro h;rw [cQ] at h;have:=h _ (aB h4);rw [h6] at this;cases this
    exact hQ _ _ (.inl (by simp only [go_sem,hW,h1,hb',DD]))
   ·exact wo (h:=wx hI0 (i+1) ⟨wg,wj,(by (rw [cC _ _ _ h4,ha];simp [h6]))⟩)
  ·refine wv (h:=?_)
   have hb:=iO ha h4
   have hb':c.kids.all KA=true:=by simp at hb ⊢;exact hb
   exact hQ _ _ (.inl (by simp only [go_sem,hW,h1,hb',zS]))
theorem G3:∀ c:Cond,c.size≤1000000→Pure Tryz.prog 297 [.agg c.c] (.tup [dI c.size,dI c.dep]):=by
 refine kY fun c ih hc=>?_
 have hse:=yA c
 have hde:=So c
 have hle:=yK c.kids
 refine Tz.pK ⟨fun _=>false,fun _=>[]⟩ Tryz.func297 rfl (fun Q hQ=>?_)
 try simp [go_sem,seval,Cond.c_eq]
 obtain ⟨I0,hI0⟩:∃ I0:Nat→cY→AHeap→Prop,∀ (i:Nat) (e:cY) (H:AHeap),I0 i e H↔((e 1=.adr c.c)∧(e 4=dI ((1+Cond.sizes (c.kids.take i):Nat):Int))∧(e 5=dI (Cond.deps (c.kids.take i):Nat))∧(e 6=dI i)∧(i≤c.kids.length)):=⟨fun i e H=>_,fun _ _ _=>Iff.rfl⟩
 refine fZ I0 (fun i=>c.kids.length - i) (0) ((hI0 _ _ _).2 ⟨?_,?_,?_,?_,(by first|assumption|omega|(simp [go_sem,Cond.c_eq];done)|(simp_all;done))⟩) ?_
 iterate 4 (first|omega|(simp [go_sem,seval,Cond.c_eq]<;>omega))
 intro i e H hi0
 obtain ⟨q1_0,q4_0,q5_0,q6_0,hi⟩:=(hI0 _ _ _).1 hi0
 have F0:=And.intro q1_0 q6_0
 try simp [go_sem,seval,Cond.c_eq,F0,q4_0,q5_0]
 repeat first|intro _|refine ⟨d8,?_⟩
 refine aJ (fun h3=>?_) (fun h3=>?_)
 ·try simp [go_sem] at h3
  have hsm:=AA (aB h3)
  have hdm:=Ox c.kids[i]
  have hts:=aF h3
  have h1s:=Ey (c.kids.take i) c.kids[i]
  have h1d:=IS (c.kids.take i) c.kids[i]
  have hst:=Ex c.kids (i+1)
  have hS:Cond.sizes (c.kids.take (i+1))=Cond.sizes (c.kids.take i)+c.kids[i].size:=by rw [hts,h1s]
  have hD:Cond.deps (c.kids.take (i+1))=max (Cond.deps (c.kids.take i)) c.kids[i].dep:=by rw [hts,h1d]
  have hdt:=yK (c.kids.take i)
  try simp [go_sem,seval,Cond.c_eq,F0,q4_0,q5_0,h3,hS,hD,Hd]
  repeat first|intro _|refine ⟨d8,?_⟩
  refine aC ((by have:=ih _ (aB h3) (by omega);rwa [Cond.c_eq] at this)) ((by first|rfl|(simp [go_sem,← List.map_take,← List.map_drop,Cond.c_eq,F0,q4_0,q5_0,h3,hS,hD,Hd];done))) ?_
  try simp [go_sem,seval,Cond.c_eq,F0,q4_0,q5_0,h3,hS,hD,Hd]
  repeat first|intro _|refine ⟨d8,?_⟩
  refine bY (i+1) (by omega) ((hI0 _ _ _).2 ⟨?_,?_,?_,?_,(by first|assumption|omega|(simp [go_sem,Cond.c_eq,F0,q4_0,q5_0,h3,hS,hD,Hd];done)|(simp_all<;>omega))⟩)<;>first|omega|(simp [go_sem,seval,Cond.c_eq,F0,q4_0,q5_0,h3,hS,hD,Hd]<;>omega)
 ·try simp [go_sem] at h3
  have hU:c.kids.take i=c.kids:=aI h3
  rw [hU] at q4_0 q5_0
  try simp [go_sem,seval,Cond.c_eq,F0,q4_0,q5_0]
  refine aJ (fun h7=>?_) (fun h7=>?_)
  ·try simp [go_sem] at h7
   try simp [go_sem,seval,Cond.c_eq,F0,q4_0,q5_0]
   repeat first|intro _|refine ⟨d8,?_⟩
   exact hQ _ _ (by first|(left;(simp [go_sem,hse,hde,h7]);done)|(right;(simp [go_sem,hse,hde,h7]);done))
  ·try simp [go_sem] at h7
   try simp [go_sem,seval,Cond.c_eq,F0,q4_0,q5_0]
   exact hQ _ _ (by first|(left;(simp [go_sem,hse,hde,h7]);done)|(right;(simp [go_sem,hse,hde,h7]);done))
theorem Lm (c:Cond)(hc:c.ok)(hs:c.size≤1000000):Pure Tryz.prog 210 [.agg c.c] (dI (qE c)):=by
 refine Tz.pK ⟨fun _=>false,fun _=>[]⟩ Tryz.func210 rfl (fun Q hQ=>?_)
 have Y:=@Cond.c_eq
 refine wo (h:=aC ((by have:=EL c hc;rwa [Cond.c_eq] at this)) wl ?_)
 refine eJ (fun h1=>?_) fun h1=>?_
 ·exact wv (h:=hQ _ _ (by simp [go_sem,qE,h1]))
 ·refine wv (h:=aC ((by have:=G3 c hs;rwa [Cond.c_eq] at this)) wl ?_)
  refine eJ (fun h4=>?_) fun h4=>?_
  ·exact wv (h:=hQ _ _ (by simp [go_sem,qE,h1];omega))
  ·exact wv (h:=hQ _ _ (by simp [go_sem,qE,h1];omega))
theorem JE (p:Pattern)(v:Int):Pure Tryz.prog 364 [p.d,dI v] (.bool (iK p v)):=by
 refine Tz.pK ⟨fun _=>false,fun _=>[]⟩ Tryz.func364 rfl (fun Q hQ=>?_)
 have Y:=trivial
 refine wv (h:=bG (fun i e H=>(e 2=.adr p.c∧e 1=dI v∧e 5=dI i)∧(i≤p.slots.length)∧(((p.slots.take i).any fun s=>decide (s.term.var=v))=false)) (fun i=>p.slots.length - i) 0 ⟨wg,wi,(by rfl)⟩ fun I0 hI0 i e H hi0=>?_)
 obtain ⟨E0,hi,ha⟩:=hi0
 have Y:=wa Y E0
 refine wv (h:=?_)
 repeat first|intro _|refine ⟨d8,?_⟩
 refine wq (fun h2=>?_) fun h2=>?_
 ·have Y:=wa Y h2
  refine wv (h:=?_)
  repeat first|intro _|refine ⟨d8,?_⟩
  refine wq (fun h4=>?_) fun h4=>?_
  ·refine wv (h:=?_)
   have hb:iK p v=true:=List.any_eq_true.2 ⟨_,aB h2,by simpa using h4⟩
   exact hQ _ _ (.inl (by simp only [go_sem,hb]))
  ·exact wo (h:=wx hI0 (i+1) ⟨wg,wj,(by (rw [cC _ _ _ h2,ha];simpa using h4))⟩)
 ·refine wv (h:=?_)
  have hb:iK p v=false:=iO ha h2
  exact hQ _ _ (.inl (by simp only [go_sem,hb]))
def r9 (t:Types)(o:Int)(q:Pattern):Int:=if q.vars<o then 20 else lY t q o
theorem Lk (t:Types)(ht:t.ok)(o:Int)(h0:0≤o)(q:Pattern):Pure Tryz.prog 298 [t.d,dI o,q.d] (dI (r9 t o q)):=by
 refine Tz.pK ⟨fun _=>false,fun _=>[]⟩ Tryz.func298 rfl (fun Q hQ=>?_)
 have Y:=trivial
 refine d7 (fun h1=>?_) fun h1=>?_
 ·exact wv (h:=hQ _ _ (by simp [go_sem,r9,h1]))
 ·refine wv (h:=aC (rP t ht q) wl ?_)
  refine d7 (fun h4=>?_) fun h4=>?_
  ·exact wv (h:=hQ _ _ (by simp [go_sem,r9,lY,h4];omega))
  ·have hv:=jD (.inl h4)
   have hI:r9 t o q=lY t q o:=by unfold r9;rw [if_neg (by omega)]
   refine wv (h:=bG (fun v e H=>(e 5=.adr q.c∧e 7=dI 9∧e 8=dI (o+v))∧(∀ u:Int,o≤u→u<o+v→iK q u=true)) (fun v=>(q.vars - o).toNat - v) 0 ⟨wg,(by (intro u hu hv;omega))⟩ fun I0 hI0 v e H hi0=>?_)
   obtain ⟨E0,ho⟩:=hi0
   have Y:=wa Y E0
   refine d7 (fun h7=>?_) fun h7=>?_
   ·have Y:=wa Y h7
    refine wo (h:=aC (JE q _) wl ?_)
    refine eJ (fun h9=>?_) fun h9=>?_
    ·exact wv (h:=hQ _ _ (by rw [hI,Dn h4 h0 (v:=o+v) (by omega) h7 (by simpa using h9)];simp [go_sem]))
    ·have ho':∀ u:Int,o≤u→u<o+((v+1:Nat):Int)→iK q u=true:=fun u hu hv=>by
      by_cases hc:u<o+v
      ·exact ho u hu hc
      ·rw [show u=o+v by omega];simpa using h9
     exact wo (h:=wx hI0 (v+1) ⟨wg,(by exact ho')⟩)
   ·exact wv (h:=hQ _ _ (by rw [hI,Dl h4 h0 fun u hu hv=>ho u hu (by omega)];simp [go_sem]))
theorem NL (t:Types)(ht:t.ok):∀ (c:Cond) (p:Pattern),0≤p.vars→p.vars≤12→Pure Tryz.prog 211 [t.d,p.d,.agg c.c] (dI (oR t p c)):=by
 refine kY fun c ih p hp0 hp1=>?_
 have hF:=D7 t p c
 refine Tz.pK ⟨fun t=>t==7,fun _=>[]⟩ Tryz.func211 rfl (fun Q hQ=>?_)
 have Y:=@Cond.c_eq
 refine d7 (fun h2=>?_) fun h2=>?_
 ·rw [if_pos h2,if_pos h2] at hF
  refine wv (h:=aC (Lk t ht p.vars hp0 c.pattern) wl ?_)
  refine d7 (fun h4=>?_) fun h4=>?_
  ·have hE:iM t p c.map c.pattern=r9 t p.vars c.pattern:=by
    unfold iM;unfold r9 at h4 ⊢
    split
    ·rfl
    ·rename_i h';rw [if_neg h'] at h4;rw [if_pos h4]
   exact wv (h:=hQ _ _ (by rw [hF,hE,if_pos (by omega)];simp [go_sem]))
  ·have hv0:¬ c.pattern.vars<p.vars∧lY t c.pattern p.vars=0:=by
    unfold r9 at h4
    split at h4
    ·omega
    ·exact ⟨by assumption,h4⟩
   have hv1:=hv0.1
   have h6:=hv0.2
   refine wv (h:=aC (rS p.graph c.pattern.graph c.map) wl ?_)
   refine d7 (fun h7=>?_) fun h7=>?_
   ·exact wv (h:=hQ _ _ (by simp [go_sem,hF,iM,h6,h7];omega))
   ·refine wo (h:=aC (DL p.graph c.pattern.graph c.map) wl ?_)
    refine wv (h:=?_)
    repeat first|intro _|refine ⟨d8,?_⟩
    refine wq (fun h9=>?_) fun h9=>?_
    ·exact wv (h:=hQ _ _ (by simp [go_sem,hF,iM,h6,h7,h9];omega))
    ·have hE0:iM t p c.map c.pattern=0:=by simp [iM,h6,h7,h9];omega
     rw [hE0,if_neg (by omega)] at hF
     obtain ⟨w,hw⟩:∃ w:Pattern,w=c.pattern:=⟨_,rfl⟩
     have hv:=Dm h6
     have hw0:0≤w.vars:=by rw [hw];exact hv.1
     have hw1:w.vars≤12:=by rw [hw];exact hv.2
     have hF':oR t p c=dL (oR t w) c.kids:=by rw [hF,hw]
     refine wv (h:=bG (fun i e H=>(e 3=.adr t.c∧e 5=.adr c.c∧e 7=.ptr 0 1 0 0∧e 10=dI i)∧(H.get 0=some ⟨53,5,[w.c],false⟩)∧(0<H.next)∧(i≤c.kids.length)∧(dL (oR t w) (c.kids.drop i)=oR t p c)) (fun i=>c.kids.length - i) 0 ⟨wg,(by (simp [go_sem,hw])),wn,wi,(by (exact hF'.symm))⟩ fun I0 hI0 i e H hi0=>?_)
     obtain ⟨E0,g0_0,n0_0,hi,hL⟩:=hi0
     have Y:=wa Y (wa E0 (wa g0_0 (cG n0_0)))
     refine wv (h:=?_)
     repeat first|intro _|refine ⟨d8,?_⟩
     refine wq (fun h13=>?_) fun h13=>?_
     ·have hst:=hL
      rw [e9 _ h13] at hst
      have Y:=wa Y h13
      refine wo (h:=aM ((by have:=ih _ (aB h13) w hw0 hw1;rwa [Cond.c_eq] at this)) wl ?_)
      refine wv (h:=?_)
      repeat first|intro _|refine ⟨d8,?_⟩
      refine wq (fun h16=>?_) fun h16=>?_
      ·rw [if_pos (by omega)] at hst
       exact wv (h:=hQ _ _ (by simp [go_sem,hst]))
      ·rw [if_neg (by omega)] at hst
       exact wo (h:=wx hI0 (i+1) ⟨wg,(by (simp [go_sem,Y])),wn,wj,(by exact hst)⟩)
     ·exact wv (h:=hQ _ _ (by rw [← hL,fM _ (by omega)];simp [go_sem]))
 ·rw [if_neg h2,if_neg (by omega),if_neg h2] at hF
  obtain ⟨w,hw⟩:∃ w:Pattern,w=p:=⟨_,rfl⟩
  have hw0:0≤w.vars:=by rw [hw];exact hp0
  have hw1:w.vars≤12:=by rw [hw];exact hp1
  have hF':oR t p c=dL (oR t w) c.kids:=by rw [hF,hw]
  refine wv (h:=bG (fun i e H=>(e 3=.adr t.c∧e 5=.adr c.c∧e 7=.ptr 0 1 0 0∧e 10=dI i)∧(H.get 0=some ⟨53,5,[w.c],false⟩)∧(0<H.next)∧(i≤c.kids.length)∧(dL (oR t w) (c.kids.drop i)=oR t p c)) (fun i=>c.kids.length - i) 0 ⟨wg,(by (simp [go_sem,hw])),wn,wi,(by (exact hF'.symm))⟩ fun I0 hI0 i e H hi0=>?_)
  obtain ⟨E0,g0_0,n0_0,hi,hL⟩:=hi0
  have Y:=wa Y (wa E0 (wa g0_0 (cG n0_0)))
  refine wv (h:=?_)
  repeat first|intro _|refine ⟨d8,?_⟩
  refine wq (fun h13=>?_) fun h13=>?_
  ·have hst:=hL
   rw [e9 _ h13] at hst
   have Y:=wa Y h13
   refine wo (h:=aM ((by have:=ih _ (aB h13) w hw0 hw1;rwa [Cond.c_eq] at this)) wl ?_)
   refine wv (h:=?_)
   repeat first|intro _|refine ⟨d8,?_⟩
   refine wq (fun h16=>?_) fun h16=>?_
   ·rw [if_pos (by omega)] at hst
    exact wv (h:=hQ _ _ (by simp [go_sem,hst]))
   ·rw [if_neg (by omega)] at hst
    exact wo (h:=wx hI0 (i+1) ⟨wg,(by (simp [go_sem,Y])),wn,wj,(by exact hst)⟩)
  ·exact wv (h:=hQ _ _ (by rw [← hL,fM _ (by omega)];simp [go_sem]))
theorem C4 (t:Types)(ht:t.ok)(p:Pattern)(c:Cond)(hc:c.ok)(hs:c.size≤1000000):Pure Tryz.prog 126 [t.d,p.d,.agg c.c] (dI (condF t p c)):=by
 refine Tz.pK ⟨fun _=>false,fun _=>[]⟩ Tryz.func126 rfl (fun Q hQ=>?_)
 have Y:=@Cond.c_eq
 refine wv (h:=aC (rP t ht p) wl ?_)
 refine d7 (fun h2=>?_) fun h2=>?_
 ·have Y:=wa Y (wa h2 @condF.eq_1)
  exact wv (h:=hQ _ _ wy)
 ·have hv:=jD (.inr h2)
  refine wv (h:=aC ((by have:=Lm c hc hs;rwa [Cond.c_eq] at this)) wl ?_)
  refine d7 (fun h5=>?_) fun h5=>?_
  ·have Y:=wa Y (wa h2 (wa h5 @condF.eq_1))
   exact wv (h:=hQ _ _ wy)
  ·refine wv (h:=aC ((by have:=NL t ht c p hv.1 hv.2;rwa [Cond.c_eq] at this)) wl ?_)
   have Y:=wa Y (wa h2 (wa h5 @condF.eq_1))
   exact wv (h:=hQ _ _ wy)
attribute [go_sem] Rule.c Rule.d
@[go_sem] theorem X0 (o:Option Attr)(a0 a1 a2 a3:D):((Option.map Attr.c o).getD [a0,a1,a2,a3]).length=4:=by cases o<;>rfl
@[go_sem] theorem XY (o:Option NodeTy)(a0 a1 a2 a3:D):((Option.map NodeTy.c o).getD [a0,a1,a2,a3]).length=4:=by cases o<;>rfl
@[go_sem] theorem VR (o:Option EdgeTy)(a0 a1 a2 a3 a4 a5 a6:D):((Option.map EdgeTy.c o).getD [a0,a1,a2,a3,a4,a5,a6]).length=7:=by cases o<;>rfl
@[go_sem] theorem W2 (o:Option Edge)(a0 a1 a2:D):((Option.map Edge.c o).getD [a0,a1,a2]).length=3:=by cases o<;>rfl
@[go_sem] theorem XW (o:Option Slot)(a0 a1 a2 a3:D):((Option.map Slot.c o).getD [a0,a1,a2,a3]).length=4:=by cases o<;>rfl
@[go_sem] theorem XV (o:Option Test)(a0 a1 a2 a3 a4:D):((Option.map Test.c o).getD [a0,a1,a2,a3,a4]).length=5:=by cases o<;>rfl
@[go_sem] theorem W0 (o:Option Stage)(a0 a1:D):((Option.map Stage.c o).getD [a0,a1]).length=2:=by cases o<;>rfl
@[go_sem] theorem Zc (o:Option Int)(a0:D):((Option.map cI o).getD [a0]).length=1:=by cases o<;>rfl
@[go_sem] theorem Zb (o:Option ByteArray)(a0:D):((Option.map cS o).getD [a0]).length=1:=by cases o<;>rfl
@[go_sem] theorem XZ (o:Option Bool)(a0:D):((Option.map cB o).getD [a0]).length=1:=by cases o<;>rfl
theorem K0 (t:Types)(a:Int):Pure Tryz.prog 367 [dI a,.adr t.c] (.bool (decide ((t.nodes.length:Int)≤a))):=by
 refine Tz.pK ⟨fun _=>false,fun _=>[]⟩ Tryz.func367 rfl (fun Q hQ=>?_)
 have Y:=trivial
 exact wo (h:=hQ _ _ wy)
theorem KZ (t:Types)(x:Edge):Pure Tryz.prog 368 [.agg x.c,.adr t.c] (.bool (decide ((t.edges.length:Int)≤x.type))):=by
 refine Tz.pK ⟨fun _=>false,fun _=>[]⟩ Tryz.func368 rfl (fun Q hQ=>?_)
 have Y:=trivial
 exact wo (h:=hQ _ _ wy)
theorem Nz (t:Types)(g:Graph):Pure Tryz.prog 307 [t.d,g.d] (.bool (iT t g)):=by
 have h1:=fP g.nodes 367 [.adr t.c] (fun a=>decide ((t.nodes.length:Int)≤a)) (by simp [go_sem]) (by simp [go_sem]) (fun a _=>K0 t a)
 have h2:=lZ g.edges 368 [.adr t.c] (fun x=>decide ((t.edges.length:Int)≤x.type)) (by simp [go_sem]) (by simp [go_sem]) (fun x _=>KZ t x)
 have he:iT t g=((!(g.nodes.any fun n=>decide ((t.nodes.length:Int)≤n)))&&!(g.edges.any fun x=>decide ((t.edges.length:Int)≤x.type))):=rfl
 generalize (g.nodes.any fun n=>decide ((t.nodes.length:Int)≤n))=u at *
 generalize (g.edges.any fun x=>decide ((t.edges.length:Int)≤x.type))=v at *
 rw [he]
 refine Tz.pK ⟨fun _=>false,fun _=>[]⟩ Tryz.func307 rfl (fun Q hQ=>?_)
 have Y:=trivial
 refine wo (h:=aC (h1) wl ?_)
 refine wo (h:=aN (fun hg=>h2) (fun hg=>wl) ?_)
 exact wo (h:=hQ _ _ wy)
def sameSlot (x y:Slot):Bool:=decide (y.node=x.node)&&decide (y.attr=x.attr)
theorem NA (x y:Slot):Pure Tryz.prog 370 [.agg y.c,.adr x.c] (.bool (sameSlot x y)):=by
 refine Tz.pK ⟨fun _=>false,fun _=>[]⟩ Tryz.func370 rfl (fun Q hQ=>?_)
 have Y:=trivial
 have Y:=wa Y @sameSlot.eq_1
 exact wo (h:=hQ _ _ wy)
def uO (t:Types)(p:Pattern)(i:Nat):Int:=match p.slots[i]? with
 | some s=>if fS t p s≠0 then 6 else if ((p.slots.take i).any (sameSlot s))=true then 5 else 0
 | none=>0
theorem BR {t:Types}{p:Pattern}{i:Nat}(h:i<p.slots.length):uO t p i=if fS t p p.slots[i]≠0 then 6 else if ((p.slots.take i).any (sameSlot p.slots[i]))=true then 5 else 0:=by
 unfold uO;rw [aA h]
theorem P1 (t:Types)(ht:t.ok)(r:Rule)(hr:r.right.graph.nodes.length≤1000)(i:Nat)(hi:i<r.right.slots.length):Pure Tryz.prog 308 [t.d,r.d,dI i] (dI (uO t r.right i)):=by
 have hS:=BR (t:=t) hi
 have h8:=vD ht (r.right.kind r.right.slots[i].node)
 have hdup:=sD (r.right.slots.take i) 370 [.adr r.right.slots[i].c] (sameSlot r.right.slots[i]) (by simp [go_sem]) (by simp only [D.cl];exact Ev _) (fun y _=>NA r.right.slots[i] y)
 refine Tz.pK ⟨fun t=>t==7||t==10,fun _=>[]⟩ Tryz.func308 rfl (fun Q hQ=>?_)
 have Y:=wa (aA hi) hi
 refine eJ (fun h2=>?_) fun h2=>?_
 ·have hE:fS t r.right r.right.slots[i]≠0:=by
   unfold fS;rw [if_neg];decide;intro h;simp [jR] at h;omega
  rw [if_pos hE] at hS
  exact wv (h:=hQ _ _ (by simp [go_sem,hS]))
 ·have hn:r.right.slots[i].node.toNat<r.right.graph.nodes.length:=by omega
  have hk:r.right.kind r.right.slots[i].node=r.right.graph.nodes[r.right.slots[i].node.toNat]:=by simp [Pattern.kind,hn]
  rw [hk] at h8
  have Y:=wa Y (wa (aA hn) hk)
  refine wo (h:=aM (CV t ht r.right.graph.nodes[r.right.slots[i].node.toNat]) wl ?_)
  refine eJ (fun h6=>?_) fun h6=>?_
  ·have hE:fS t r.right r.right.slots[i]≠0:=by
    unfold fS;rw [if_neg];decide;intro h;simp [jR,inF,hk] at h;omega
   rw [if_pos hE] at hS
   exact wv (h:=hQ _ _ (by simp [go_sem,hS]))
  ·have hE:fS t r.right r.right.slots[i]=0:=by
    unfold fS;rw [if_pos];simp [jR,inF,hk];omega
   rw [if_neg (by omega)] at hS
   have hsl:(i:Int)≤r.right.slots.length:=by omega
   refine wo (h:=mA (hdup) wr wl rfl ?_)
   refine eJ (fun h8=>?_) fun h8=>?_
   ·exact wv (h:=hQ _ _ (by rw [hS,if_pos (by rw [List.any_eq_true];exact h8)];simp [go_sem]))
   ·exact wv (h:=hQ _ _ (by rw [hS,if_neg (by rw [List.any_eq_true];rintro ⟨x,hx,hs⟩;have:=h8 x hx;rw [this] at hs;cases hs)];simp [go_sem]))
def gS (t:Types)(r:Rule):Int :=
 if graphF r.right.graph≠0 then graphF r.right.graph
 else if iT t r.right.graph=false then 13
 else if r.right.vars≠r.left.vars∨0<r.right.tests.length then 1
 else if 10<r.right.slots.length then 3
 else b9 (uO t r.right) 0 r.right.slots.length
theorem NB (t:Types)(ht:t.ok)(r:Rule):Pure Tryz.prog 215 [t.d,r.d] (dI (gS t r)):=by
 refine Tz.pK ⟨fun _=>false,fun _=>[]⟩ Tryz.func215 rfl (fun Q hQ=>?_)
 have Y:=trivial
 refine wv (h:=aC (kS r.right.graph) wl ?_)
 refine d7 (fun h2=>?_) fun h2=>?_
 ·exact wv (h:=hQ _ _ (.inl (by simp [go_sem,gS,h2])))
 ·have hg:=bZ h2
  refine wo (h:=aC (Nz t r.right.graph) wl ?_)
  refine eJ (fun h4=>?_) fun h4=>?_
  ·exact wv (h:=hQ _ _ (.inl (by simp [go_sem,gS,h2,h4])))
  ·refine eJ (fun h6=>?_) fun h6=>?_
   ·have hR:gS t r=1:=by unfold gS;rw [if_neg (by omega),if_neg (by simp [h4]),if_pos (by omega)]
    exact wv (h:=hQ _ _ (.inl (by simp [go_sem,hR])))
   ·have h6':¬ (r.right.vars≠r.left.vars∨0<r.right.tests.length):=by
     rintro (h|h)
     ·exact h h6.1
     ·have:=h6.2;simp [this] at h
    refine eJ (fun h8=>?_) fun h8=>?_
    ·have hR:gS t r=3:=by unfold gS;rw [if_neg (by omega),if_neg (by simp [h4]),if_neg h6',if_pos (by omega)]
     exact wv (h:=hQ _ _ (.inl (by simp [go_sem,hR])))
    ·have hR:gS t r=b9 (uO t r.right) 0 r.right.slots.length:=by unfold gS;rw [if_neg (by omega),if_neg (by simp [h4]),if_neg h6',if_neg (by omega)]
     refine wo (h:=bG (fun i e H=>(e 2=.adr t.c∧e 3=.adr r.c∧e 46=dI r.right.slots.length∧e 47=dI i)∧(i≤r.right.slots.length)∧(b9 (uO t r.right) i (r.right.slots.length - i)=gS t r)) (fun i=>r.right.slots.length - i) 0 ⟨wg,wi,(by (exact hR.symm))⟩ fun I1 hI1 i e H hi1=>?_)
     obtain ⟨E1,hi,hF⟩:=hi1
     have Y:=wa Y E1
     refine d7 (fun h11=>?_) fun h11=>?_
     ·have hst:=hF
      rw [fN _ h11] at hst
      have Y:=wa Y h11
      refine wv (h:=aC (P1 t ht r (by omega) i h11) wl ?_)
      refine d7 (fun h14=>?_) fun h14=>?_
      ·rw [if_pos (by omega)] at hst
       exact wv (h:=hQ _ _ (.inl (by simp [go_sem,hst])))
      ·rw [if_neg (by omega)] at hst
       exact wo (h:=wx hI1 (i+1) ⟨wg,wj,(by exact hst)⟩)
     ·exact wv (h:=hQ _ _ (.inl (by rw [← hF,show r.right.slots.length - i=0 by omega];rfl)))
def cZ (l:List Int)(n:Nat):List Int:=((List.range n).filter fun (i:Nat)=>!mem l i).map fun (b:Nat)=>(b:Int)
theorem dQ {l:List Int}{n:Nat}{x:Int}(h:x∈cZ l n):0≤x∧x<n:=by
 simp only [cZ,aU,cO,aZ] at h
 obtain ⟨a,⟨h1,_⟩,rfl⟩:=h
 omega
theorem eG (l:List Int)(n:Nat):(cZ l n).length≤n:=by
 unfold cZ;rw [bE];exact cN (kJ _ _) (by simp)
theorem rN (l:List Int)(n:Nat)(hn:n≤1000000):Pure Tryz.prog 312 [dLI l,dI n] (dLI (cZ l n)):=by
 refine Tz.pK ⟨fun t=>t==5,fun _=>[]⟩ Tryz.func312 rfl (fun Q hQ=>?_)
 have Y:=trivial
 refine wv (h:=bG (fun i e H=>∃ xs:List Int,(e 0=dLI l∧e 7=dI n∧e 5=.own 0 xs.length∧e 8=dI i)∧(H.get 0=some ⟨3,1,xs.map cI,false⟩)∧(0<H.next)∧(i≤n)∧(xs.length≤i)∧(xs=((List.range i).filter fun (b:Nat)=>!mem l b).map (fun (b:Nat)=>(b:Int)))) (fun i=>n - i) 0 ⟨([]),wg,wn,wn,wi,(by simp),(by rfl)⟩ fun I0 hI0 i e H hi0=>?_)
 obtain ⟨xs,E0,g0_0,n0_0,hi,hl,hx⟩:=hi0
 have Y:=wa Y (wa E0 (wa g0_0 (cG n0_0)))
 refine d7 (fun h3=>?_) fun h3=>?_
 ·have Y:=wa Y h3
  refine wo (h:=aC (Bo l i) wl ?_)
  refine eJ (fun h5=>?_) fun h5=>?_
  ·have Y:=wa Y h5
   exact wo (h:=wx hI0 (i+1) ⟨(xs++(if (!mem l i)=true then [(i:Int)] else [])),wg,wn,wn,wj,(by (rw [aG];split<;>simp<;>omega)),(by (rw [bN,← hx]))⟩)
  ·have Y:=wa Y h5
   exact wo (h:=wx hI0 (i+1) ⟨(xs++(if (!mem l i)=true then [(i:Int)] else [])),wg,wn,wn,wj,(by (rw [aG];split<;>simp<;>omega)),(by (rw [bN,← hx]))⟩)
 ·exact wv (h:=hQ _ _ (by simp [go_sem,Y,cZ];rw [hx,show i=n by omega];simp))
def keptF (r:Rule):Int :=
 if subF r.left.graph r.keep≠0 then subF r.left.graph r.keep
 else if eN (cM r.left.graph r.keep) r.right.graph r.into≠0 then eN (cM r.left.graph r.keep) r.right.graph r.into
 else if He (cM r.left.graph r.keep) r.right.graph r.into=false then 11 else 0
structure Rule.ok (r:Rule):Prop where
 name:r.name.size≤100000
 k1:r.keep.nodes.length≤1000000
 k2:r.keep.edges.length≤1000000
 i1:r.into.nodes.length≤1000000
 i2:r.into.edges.length≤1000000
 cond:r.cond.ok
 size:r.cond.size≤1000000
theorem P2 (r:Rule)(hr:r.ok):Pure Tryz.prog 216 [r.d] (dI (keptF r)):=by
 obtain ⟨_,hk1,hk2,hi1,hi2,_,_⟩:=hr
 refine Tz.pK ⟨fun t=>t==3||t==4,fun _=>[]⟩ Tryz.func216 rfl (fun Q hQ=>?_)
 have Y:=trivial
 refine wv (h:=aC (BO r.left.graph r.keep hk1 hk2) wl ?_)
 refine d7 (fun h2=>?_) fun h2=>?_
 ·have Y:=wa Y (wa h2 @keptF.eq_1)
  exact wv (h:=hQ _ _ wy)
 ·refine wv (h:=aC (qM (cM r.left.graph r.keep) r.right.graph r.into) wl ?_)
  refine d7 (fun h5=>?_) fun h5=>?_
  ·have Y:=wa Y (wa h2 (wa h5 @keptF.eq_1))
   exact wv (h:=hQ _ _ wy)
  ·refine wo (h:=aC (qN (cM r.left.graph r.keep) r.right.graph r.into hi1 hi2) wl ?_)
   refine eJ (fun h7=>?_) fun h7=>?_
   ·have Y:=wa Y (wa h2 (wa h5 (wa h7 @keptF.eq_1)))
    exact wv (h:=hQ _ _ wy)
   ·have Y:=wa Y (wa h2 (wa h5 (wa h7 @keptF.eq_1)))
    exact wv (h:=hQ _ _ wy)
def absB (t:Types)(g:Graph)(i:Int):Bool:=((t.nodes[(gN g i).toNat]?).map (·.abs)).getD false
def unfitB (t:Types)(g:Graph)(k:Int):Bool:=!l9 t (g.edges[k.toNat]?.getD bS).type (gN g (g.edges[k.toNat]?.getD bS).from_) (gN g (g.edges[k.toNat]?.getD bS).to_)
def zF (t:Types)(g:Graph)(nodes edges:List Int):Bool:=(!(nodes.any (absB t g)))&&!(edges.any (unfitB t g))
theorem j7 {t:Types}{g:Graph}(h0:graphF g=0)(h:iT t g=true):(∀ a∈g.nodes,0≤a∧a<t.nodes.length)∧∀ x∈g.edges,(0≤x.type∧x.type<t.edges.length)∧(0≤x.from_∧x.from_<g.nodes.length)∧(0≤x.to_∧x.to_<g.nodes.length):=by
 obtain ⟨h1,h2⟩:=eP h0
 simp [iT] at h
 exact ⟨fun a ha=>⟨(h1 a ha).1,h.1 a ha⟩,fun x hx=>⟨⟨(h2 x hx).1.1,h.2 x hx⟩,(h2 x hx).2⟩⟩
theorem GT (t:Types)(g:Graph)(h0:graphF g=0)(hT:iT t g=true)(i:Int)(hi0:0≤i)(hi1:i<g.nodes.length):Pure Tryz.prog 313 [dI i,.adr t.c,.adr g.c] (.bool (absB t g i)):=by
 have hk:i.toNat<g.nodes.length:=by omega
 have hin:=(j7 h0 hT).1 _ (aB hk)
 have hn:g.nodes[i.toNat].toNat<t.nodes.length:=by omega
 refine Tz.pK ⟨fun _=>false,fun _=>[]⟩ Tryz.func313 rfl (fun Q hQ=>?_)
 have Y:=wa (aA hk) (aA hn)
 have Y:=wa Y (wa @absB.eq_1 @gN.eq_1)
 exact wo (h:=hQ _ _ wy)
theorem GS (t:Types)(ht:t.ok)(g:Graph)(h0:graphF g=0)(hT:iT t g=true)(k:Int)(hi0:0≤k)(hi1:k<g.edges.length):Pure Tryz.prog 314 [dI k,.adr g.c,.adr t.c] (.bool (unfitB t g k)):=by
 have hk:k.toNat<g.edges.length:=by omega
 have hin:=(j7 h0 hT).2 _ (aB hk)
 have hf:g.edges[k.toNat].from_.toNat<g.nodes.length:=by omega
 have hto:g.edges[k.toNat].to_.toNat<g.nodes.length:=by omega
 refine Tz.pK ⟨fun t=>t==5,fun _=>[]⟩ Tryz.func314 rfl (fun Q hQ=>?_)
 have Y:=wa (aA hk) (wa (aA hf) (aA hto))
 refine wo (h:=aM (zU t ht _ _ _) wl ?_)
 have Y:=wa Y (wa @unfitB.eq_1 @gN.eq_1)
 exact wo (h:=hQ _ _ wy)
theorem Jt (t:Types)(ht:t.ok)(g:Graph)(h0:graphF g=0)(hT:iT t g=true)(nodes edges:List Int)(hn:∀ i∈nodes,0≤i∧i<g.nodes.length)(he:∀ k∈edges,0≤k∧k<g.edges.length):Pure Tryz.prog 218 [t.d,g.d,dLI nodes,dLI edges] (.bool (zF t g nodes edges)):=by
 have h1:=fP nodes 313 [.adr t.c,.adr g.c] (absB t g) (by simp [go_sem]) (by simp [go_sem]) (fun i hi=>GT t g h0 hT i (hn i hi).1 (hn i hi).2)
 have h2:=fP edges 314 [.adr g.c,.adr t.c] (unfitB t g) (by simp [go_sem]) (by simp [go_sem]) (fun k hk=>GS t ht g h0 hT k (he k hk).1 (he k hk).2)
 have hM:zF t g nodes edges=((!(nodes.any (absB t g)))&&!(edges.any (unfitB t g))):=rfl
 generalize nodes.any (absB t g)=u at *
 generalize edges.any (unfitB t g)=v at *
 rw [hM]
 refine Tz.pK ⟨fun _=>false,fun _=>[]⟩ Tryz.func218 rfl (fun Q hQ=>?_)
 have Y:=trivial
 refine wo (h:=aC (h1) wl ?_)
 refine wo (h:=aN (fun hg=>h2) (fun hg=>wl) ?_)
 exact wo (h:=hQ _ _ wy)
def Rule.freshN (r:Rule):List Int:=cZ r.into.nodes r.right.graph.nodes.length
def Rule.freshE (r:Rule):List Int:=cZ r.into.edges r.right.graph.edges.length
def Rule.goneN (r:Rule):List Int:=cZ r.keep.nodes r.left.graph.nodes.length
def Rule.goneE (r:Rule):List Int:=cZ r.keep.edges r.left.graph.edges.length
theorem AD (r:Rule)(h1:r.right.graph.nodes.length≤1000000)(h2:r.right.graph.edges.length≤1000000):Pure Tryz.prog 217 [r.d] (.tup [dLI r.freshN,dLI r.freshE]):=by
 refine Tz.pK ⟨fun _=>false,fun _=>[]⟩ Tryz.func217 rfl (fun Q hQ=>?_)
 have Y:=trivial
 refine wo (h:=aM (rN r.into.nodes _ h1) wl ?_)
 refine wo (h:=aM (rN r.into.edges _ h2) wl ?_)
 have Y:=wa Y (wa @Rule.freshN.eq_1 @Rule.freshE.eq_1)
 exact wo (h:=hQ _ _ wy)
theorem Ju (r:Rule)(h1:r.left.graph.nodes.length≤1000000)(h2:r.left.graph.edges.length≤1000000):Pure Tryz.prog 403 [r.d] (.tup [dLI r.goneN,dLI r.goneE]):=by
 refine Tz.pK ⟨fun _=>false,fun _=>[]⟩ Tryz.func403 rfl (fun Q hQ=>?_)
 have Y:=trivial
 refine wo (h:=aM (rN r.keep.nodes _ h1) wl ?_)
 refine wo (h:=aM (rN r.keep.edges _ h2) wl ?_)
 have Y:=wa Y (wa @Rule.goneN.eq_1 @Rule.goneE.eq_1)
 exact wo (h:=hQ _ _ wy)
def ruleF (t:Types)(r:Rule):Int :=
 if (cW t).2≠0 then (cW t).2
 else if j9 r.name=false then 2
 else if cJ t r.left≠0 then cJ t r.left
 else if gS t r≠0 then gS t r
 else if keptF r≠0 then keptF r
 else if zF t r.right.graph r.freshN r.freshE=false then 13
 else condF t r.left r.cond
theorem yC {t:Types}{r:Rule}(h:gS t r=0):graphF r.right.graph=0∧iT t r.right.graph=true:=by
 unfold gS at h
 split at h
 ·rename_i h1;exact absurd h h1
 ·rename_i h1
  split at h
  ·cases h
  ·rename_i h2;exact ⟨by omega,by simpa using h2⟩
theorem EA (t:Types)(ht:t.ok)(r:Rule)(hr:r.ok):Pure Tryz.prog 130 [t.d,r.d] (dI (ruleF t r)):=by
 have hcv:=DV t ht r.left r.cond hr.cond hr.size
 rw [Cond.c_eq] at hcv
 refine Tz.pK ⟨fun _=>false,fun _=>[]⟩ Tryz.func130 rfl (fun Q hQ=>?_)
 have Y:=trivial
 refine wv (h:=aC (kK t ht) wl ?_)
 refine d7 (fun h2=>?_) fun h2=>?_
 ·have Y:=wa Y (wa h2 @ruleF.eq_1)
  exact wv (h:=hQ _ _ wy)
 ·refine wo (h:=aC (mM r.name hr.name) wl ?_)
  refine eJ (fun h4=>?_) fun h4=>?_
  ·have Y:=wa Y (wa h2 (wa h4 @ruleF.eq_1))
   exact wv (h:=hQ _ _ wy)
  ·refine wv (h:=aC (pB t ht r.left) wl ?_)
   refine d7 (fun h7=>?_) fun h7=>?_
   ·have Y:=wa Y (wa h2 (wa h4 (wa h7 @ruleF.eq_1)))
    exact wv (h:=hQ _ _ wy)
   ·refine wv (h:=aC (NB t ht r) wl ?_)
    refine d7 (fun h10=>?_) fun h10=>?_
    ·have Y:=wa Y (wa h2 (wa h4 (wa h7 (wa h10 @ruleF.eq_1))))
     exact wv (h:=hQ _ _ wy)
    ·have hg:=yC h10
     have hgl:=bZ hg.1
     refine wv (h:=aC (P2 r hr) wl ?_)
     refine d7 (fun h13=>?_) fun h13=>?_
     ·have Y:=wa Y (wa h2 (wa h4 (wa h7 (wa h10 (wa h13 @ruleF.eq_1)))))
      exact wv (h:=hQ _ _ wy)
     ·refine wv (h:=aC (AD r (by omega) (by omega)) wl ?_)
      refine wo (h:=aC (Jt t ht r.right.graph hg.1 hg.2 r.freshN r.freshE (fun i hi=>dQ hi) (fun i hi=>dQ hi)) wl ?_)
      refine eJ (fun h16=>?_) fun h16=>?_
      ·have Y:=wa Y (wa h2 (wa h4 (wa h7 (wa h10 (wa h13 (wa h16 @ruleF.eq_1))))))
       exact wv (h:=hQ _ _ wy)
      ·refine wv (h:=aC (hcv) wl ?_)
       have Y:=wa Y (wa h2 (wa h4 (wa h7 (wa h10 (wa h13 (wa h16 @ruleF.eq_1))))))
       exact wv (h:=hQ _ _ wy)
theorem FH {l:List Int}{v:Int}(hs:l.Pairwise (· < ·))(hm:mem l v=true):Ky l v=vY l v:=by
 obtain ⟨i,hi,he⟩:=aT ((dM l v).1 hm)
 have hpw:=dZ.1 hs
 rw [xC (i:=i) (fun j hj h=>by
   have hjl:j<l.length:=by omega
   rw [aA hjl] at h
   have:=hpw j i hjl hi hj
   simp at h;omega) (by rw [aA hi,he])]
 rw [Pg (n:=i) (fun j hj h=>by have:=hpw j i hj hi h;omega) (by omega) (fun _=>by omega)]
theorem nY {α:Type}{f:α→Int}:∀ {l:List α},dL f l=0→∀ x∈l,f x=0
 | [],_,x,hx=>by cases hx
 | a :: l,h,x,hx=>by
  unfold dL at h
  split at h
  ·rename_i h1;exact absurd h h1
  ·rename_i h1
   rcases bB.1 hx with h2|h2
   ·subst h2;omega
   ·exact nY h x h2
theorem BP {g:Graph}{p:Part}(h:subF g p=0):∀ k∈p.edges,mem p.nodes (g.edges[k.toNat]?.getD bS).from_=true∧mem p.nodes (g.edges[k.toNat]?.getD bS).to_=true:=by
 unfold subF pD at h
 split at h
 ·rename_i h1;exact absurd h h1
 ·split at h
  ·rename_i h2;exact absurd h h2
  ·split at h
   ·rename_i h3;exact absurd h h3
   ·intro k hk
    have:=nY h k hk
    unfold xJ at this
    split at this
    ·rename_i h4;simpa using h4
    ·cases this
theorem sQ (g:Graph)(p:Part)(hl:p.nodes.length≤1000000)(hle:p.edges.length≤1000000):Pure Tryz.prog 150 [g.d,p.d] (.tup [(cM g p).d,(zE g p).d,dI (subF g p)]):=by
 refine Tz.pK ⟨fun t=>t==4||t==5||t==8||t==11||t==76||t==80,fun r=>match r with|8=>[(0,11),(1,11)]|12=>[(0,9),(1,9),(2,9),(3,9),(5,9),(6,9),(7,9),(8,9)]|13=>[(0,15),(1,15)]|14=>[(0,1),(1,2),(1,3),(0,4),(0,5),(1,5),(2,5),(3,5),(4,5),(1,6),(4,6),(5,6),(1,7),(4,7),(5,7),(0,8)]|_=>[]⟩ Tryz.func150 rfl (fun Q hQ=>?_)
 try simp [go_sem,seval]
 refine aC (wV g p) ((by first|rfl|(simp [go_sem,← List.map_take,← List.map_drop];done))) ?_
 try simp [go_sem,seval]
 refine aJ (fun h2=>?_) (fun h2=>?_)
 ·try simp [go_sem] at h2
  try simp [go_sem,seval]
  exact hQ _ _ (by first|(left;(simp [go_sem,cM,zE,h2]);done)|(right;(simp [go_sem,cM,zE,h2]);done))
 ·try simp [go_sem] at h2
  obtain ⟨hg,hs,hin,hie⟩:=x9 h2
  have hends:=BP h2
  try simp [go_sem,seval]
  obtain ⟨I0,hI0⟩:∃ I0:Nat→cY→AHeap→Prop,∀ (i:Nat) (e:cY) (H:AHeap),I0 i e H↔(∃ xs:List Int,(e 2=.adr g.c)∧(e 3=.adr p.c)∧(e 4=.ptr 0 1 0 0)∧(e 5=.ptr 1 1 0 0)∧(e 8=.ptr 2 1 0 0)∧(e 9=dI i)∧(H.get 0=some ⟨37,2,[[.nil,.nil]],false⟩)∧(0<H.next)∧(H.get 1=some ⟨56,2,[[.nil,.nil]],false⟩)∧(1<H.next)∧(H.get 2=some ⟨37,2,[[.own 3 xs.length,.nil]],false⟩)∧(2<H.next)∧(H.get 3=some ⟨3,1,xs.map cI,false⟩)∧(3<H.next)∧(i≤p.nodes.length)∧(xs=(p.nodes.take i).map (gN g))):=⟨fun i e H=>_,fun _ _ _=>Iff.rfl⟩
  refine uY (Ghosts.step (Ghosts.refl _) 2 0 0 3 1 _ _ (rfl) rfl rfl rfl) I0 (fun i=>p.nodes.length - i) (0) ((hI0 _ _ _).2 ⟨([]),?_,?_,?_,?_,?_,?_,?_,?_,?_,?_,?_,?_,?_,?_,(by first|assumption|omega|(simp [go_sem];done)|(simp_all;done)),(by rfl)⟩) ?_
  iterate 14 (first|omega|(simp [go_sem,seval]<;>omega))
  intro i e H hi0
  obtain ⟨xs,q2_0,q3_0,q4_0,q5_0,q8_0,q9_0,g0_0,n0_0,g1_0,n1_0,g2_0,n2_0,g3_0,n3_0,hi,hx⟩:=(hI0 _ _ _).1 hi0
  have x0:=cG n0_0
  have x1:=cG n1_0
  have x2:=cG n2_0
  have x3:=cG n3_0
  have F0:=And.intro q2_0 (And.intro q3_0 (And.intro q4_0 (And.intro q5_0 (And.intro q8_0 (And.intro q9_0 (And.intro g0_0 (And.intro g1_0 (And.intro g2_0 (And.intro g3_0 (And.intro x0 (And.intro x1 (And.intro x2 x3))))))))))))
  try simp [go_sem,seval,F0]
  repeat first|intro _|refine ⟨eI,?_⟩
  refine aJ (fun h6=>?_) (fun h6=>?_)
  ·try simp [go_sem] at h6
   have hin':=hin _ (aB h6)
   have hk:p.nodes[i].toNat<g.nodes.length:=by omega
   have hxl:xs.length=i:=by rw [hx];simp;omega
   try simp [go_sem,seval,F0,h6,aA hk,gN]
   repeat first|intro _|refine ⟨eI,?_⟩
   refine bY (i+1) (by omega) ((hI0 _ _ _).2 ⟨(xs++[gN g p.nodes[i]]),?_,?_,?_,?_,?_,?_,?_,?_,?_,?_,?_,?_,?_,?_,(by first|assumption|omega|(simp [go_sem,F0,h6,aA hk,gN,h2];done)|(simp_all<;>omega)),(by (rw [fJ _ h6,← hx]))⟩)<;>first|omega|(simp [go_sem,seval,F0,h6,aA hk,gN]<;>omega)
  ·try simp [go_sem] at h6
   have hX:xs=p.nodes.map (gN g):=by rw [hx,gH _ (by omega)]
   try simp [go_sem,seval,F0]
   obtain ⟨I2,hI2⟩:∃ I2:Nat→cY→AHeap→Prop,∀ (k:Nat) (e:cY) (H:AHeap),I2 k e H↔(∃ j:Nat,∃ ys:List Edge,(e 2=.adr g.c)∧(e 3=.adr p.c)∧(e 4=.ptr 0 1 0 0)∧(e 5=.ptr 1 1 0 0)∧(e 8=.ptr 2 1 0 0)∧(e 10=dI k)∧(H.get 0=some ⟨37,2,[[.nil,.nil]],false⟩)∧(0<H.next)∧(H.get 1=some ⟨56,2,[[.nil,.nil]],false⟩)∧(1<H.next)∧(H.get 2=some ⟨37,2,[[.own 3 xs.length,.own j ys.length]],false⟩)∧(2<H.next)∧(H.get 3=some ⟨3,1,xs.map cI,false⟩)∧(3<H.next)∧(H.get j=some ⟨101,3,ys.map Edge.c,false⟩)∧(j<H.next)∧(k≤p.edges.length)∧(ys=(p.edges.take k).map (gEd g p))∧(j≠0)∧(j≠1)∧(j≠2)∧(j≠3)):=⟨fun k e H=>_,fun _ _ _=>Iff.rfl⟩
   refine uY (Ghosts.step (Ghosts.refl _) 2 0 1 101 3 _ _ (g2_0) rfl rfl rfl) I2 (fun k=>p.edges.length - k) (0) ((hI2 _ _ _).2 ⟨(H.next),([]),?_,?_,?_,?_,?_,?_,?_,?_,?_,?_,?_,?_,?_,?_,?_,?_,(by first|assumption|omega|(simp [go_sem,F0];done)|(simp_all;done)),(by rfl),(by omega),(by omega),(by omega),(by omega)⟩) ?_
   iterate 16 (first|omega|(simp [go_sem,seval,F0]<;>omega))
   intro k e H hi2
   obtain ⟨j,ys,q2_2,q3_2,q4_2,q5_2,q8_2,q10_2,g0_2,n0_2,g1_2,n1_2,g2_2,n2_2,g3_2,n3_2,gj_2,nj_2,hk,hy,j0,j1,j2,j3⟩:=(hI2 _ _ _).1 hi2
   have x0:=cG n0_2
   have x1:=cG n1_2
   have x2:=cG n2_2
   have x3:=cG n3_2
   have xj:=cG nj_2
   have F2:=And.intro q2_2 (And.intro q3_2 (And.intro q4_2 (And.intro q5_2 (And.intro q8_2 (And.intro q10_2 (And.intro g0_2 (And.intro g1_2 (And.intro g2_2 (And.intro g3_2 (And.intro gj_2 (And.intro x0 (And.intro x1 (And.intro x2 (And.intro x3 xj))))))))))))))
   try simp [go_sem,seval,F2,j0,j1,j2,j3,j0.symm,j1.symm,j2.symm,j3.symm]
   repeat first|intro _|refine ⟨eI,?_⟩
   refine aJ (fun h10=>?_) (fun h10=>?_)
   ·try simp [go_sem] at h10
    have hie':=hie _ (aB h10)
    have hke:p.edges[k].toNat<g.edges.length:=by omega
    have hyl:ys.length=k:=by rw [hy];simp;omega
    have hen:=hends _ (aB h10)
    rw [aA hke,aD] at hen
    have hi1:=FH hs hen.1
    have hi2:=FH hs hen.2
    try simp [go_sem,seval,F2,j0,j1,j2,j3,j0.symm,j1.symm,j2.symm,j3.symm,h10,aA hke,gEd,hi1,hi2]
    repeat first|intro _|refine ⟨eI,?_⟩
    refine aM (C7 p.nodes _) ((by first|rfl|(simp [go_sem,← List.map_take,← List.map_drop,F2,j0,j1,j2,j3,j0.symm,j1.symm,j2.symm,j3.symm,h10,aA hke,gEd,hi1,hi2];done))) ?_
    try simp [go_sem,seval,F2,j0,j1,j2,j3,j0.symm,j1.symm,j2.symm,j3.symm,h10,aA hke,gEd,hi1,hi2]
    repeat first|intro _|refine ⟨eI,?_⟩
    refine aM (C7 p.nodes _) ((by first|rfl|(simp [go_sem,← List.map_take,← List.map_drop,F2,j0,j1,j2,j3,j0.symm,j1.symm,j2.symm,j3.symm,h10,aA hke,gEd,hi1,hi2];done))) ?_
    try simp [go_sem,seval,F2,j0,j1,j2,j3,j0.symm,j1.symm,j2.symm,j3.symm,h10,aA hke,gEd,hi1,hi2]
    repeat first|intro _|refine ⟨eI,?_⟩
    refine bY (k+1) (by omega) ((hI2 _ _ _).2 ⟨(j),(ys++[gEd g p p.edges[k]]),?_,?_,?_,?_,?_,?_,?_,?_,?_,?_,?_,?_,?_,?_,?_,?_,(by first|assumption|omega|(simp [go_sem,F2,j0,j1,j2,j3,j0.symm,j1.symm,j2.symm,j3.symm,h10,aA hke,gEd,hi1,hi2,h2,h6];done)|(simp_all<;>omega)),(by (rw [fJ _ h10,← hy])),(by first|assumption|omega|(simp [go_sem,F2,j0,j1,j2,j3,j0.symm,j1.symm,j2.symm,j3.symm,h10,aA hke,gEd,hi1,hi2,h2,h6];done)|(simp_all<;>omega)),(by first|assumption|omega|(simp [go_sem,F2,j0,j1,j2,j3,j0.symm,j1.symm,j2.symm,j3.symm,h10,aA hke,gEd,hi1,hi2,h2,h6];done)|(simp_all<;>omega)),(by first|assumption|omega|(simp [go_sem,F2,j0,j1,j2,j3,j0.symm,j1.symm,j2.symm,j3.symm,h10,aA hke,gEd,hi1,hi2,h2,h6];done)|(simp_all<;>omega)),(by first|assumption|omega|(simp [go_sem,F2,j0,j1,j2,j3,j0.symm,j1.symm,j2.symm,j3.symm,h10,aA hke,gEd,hi1,hi2,h2,h6];done)|(simp_all<;>omega))⟩)<;>first|omega|(simp [go_sem,seval,F2,j0,j1,j2,j3,j0.symm,j1.symm,j2.symm,j3.symm,h10,aA hke,gEd,hi1,hi2]<;>omega)
   ·try simp [go_sem] at h10
    have hY:ys=p.edges.map (gEd g p):=by rw [hy,gH _ (by omega)]
    try simp [go_sem,seval,F2,j0,j1,j2,j3,j0.symm,j1.symm,j2.symm,j3.symm]
    repeat first|intro _|refine ⟨eI,?_⟩
    exact hQ _ _ (by first|(left;(simp [go_sem,F2,j0,j1,j2,j3,j0.symm,j1.symm,j2.symm,j3.symm,cM,zE,h2,hX,hY]);done)|(right;(simp [go_sem,F2,j0,j1,j2,j3,j0.symm,j1.symm,j2.symm,j3.symm,cM,zE,h2,hX,hY]);done))
theorem NJ (t:Types)(ht:t.ok)(p:Pattern)(hr:p.graph.nodes.length≤1000)(hs1:p.slots.length≤1000)(i:Nat)(hi:i<p.slots.length):Pure Tryz.prog 334 [t.d,p.d,dI i] (dI (uO t p i)):=by
 have hS:=BR (t:=t) hi
 have h8:=vD ht (p.kind p.slots[i].node)
 refine Tz.pK ⟨fun t=>t==7,fun _=>[]⟩ Tryz.func334 rfl (fun Q hQ=>?_)
 have Y:=wa (aA hi) hi
 refine eJ (fun h2=>?_) fun h2=>?_
 ·have hE:fS t p p.slots[i]≠0:=by
   unfold fS;rw [if_neg];decide;intro h;simp [jR] at h;omega
  rw [if_pos hE] at hS
  exact wv (h:=hQ _ _ (by simp [go_sem,hS]))
 ·have hn:p.slots[i].node.toNat<p.graph.nodes.length:=by omega
  have hk:p.kind p.slots[i].node=p.graph.nodes[p.slots[i].node.toNat]:=by simp [Pattern.kind,hn]
  rw [hk] at h8
  have Y:=wa Y (wa (aA hn) hk)
  refine wo (h:=aM (jP t ht p.graph.nodes[p.slots[i].node.toNat]) wl ?_)
  refine eJ (fun h5=>?_) fun h5=>?_
  ·have hE:fS t p p.slots[i]≠0:=by
    unfold fS;rw [if_neg];decide;intro h;simp [jR,inF,hk] at h;omega
   rw [if_pos hE] at hS
   exact wv (h:=hQ _ _ (by simp [go_sem,hS]))
  ·have hE:fS t p p.slots[i]=0:=by
    unfold fS;rw [if_pos];simp [jR,inF,hk];omega
   rw [if_neg (by omega)] at hS
   refine wv (h:=bG (fun k e H=>(e 4=.adr p.c∧e 2=dI i∧e 7=.ptr 0 1 0 0∧e 10=dI k)∧(H.get 0=some ⟨99,4,[p.slots[i].c],false⟩)∧(0<H.next)∧(k≤i)∧(((p.slots.take k).any (sameSlot p.slots[i]))=false)) (fun k=>i - k) 0 ⟨wg,wn,wn,wi,(by rfl)⟩ fun I0 hI0 k e H hi0=>?_)
   obtain ⟨E0,g0_0,n0_0,hk2,hne⟩:=hi0
   have Y:=wa Y (wa E0 (wa g0_0 (cG n0_0)))
   refine d7 (fun h8=>?_) fun h8=>?_
   ·have hkl:k<p.slots.length:=by omega
    have Y:=wa Y (wa h8 hkl)
    refine eJ (fun h10=>?_) fun h10=>?_
    ·refine wv (h:=?_)
     have hb:=sH (p:=sameSlot p.slots[i]) h8 hkl (by simp [sameSlot];omega)
     exact hQ _ _ (by rw [hS,if_pos hb];simp [go_sem])
    ·exact wo (h:=wx hI0 (k+1) ⟨wg,wn,wn,wj,(by (rw [cC _ _ _ hkl,hne];simp [sameSlot];omega))⟩)
   ·have hb:=pS hne (show k=i by omega)
    exact wv (h:=hQ _ _ (by rw [hS,if_neg (by simp [hb])];simp [go_sem]))
theorem Lg (t:Types)(ht:t.ok)(r:Rule):Pure Tryz.prog 238 [t.d,r.d] (dI (gS t r)):=by
 refine Tz.pK ⟨fun _=>false,fun _=>[]⟩ Tryz.func238 rfl (fun Q hQ=>?_)
 have Y:=trivial
 refine wv (h:=aC (i5 r.right.graph) wl ?_)
 refine d7 (fun h2=>?_) fun h2=>?_
 ·exact wv (h:=hQ _ _ (.inl (by simp [go_sem,gS,h2])))
 ·have hg:=bZ h2
  refine wo (h:=aC (rR t r.right.graph) wl ?_)
  refine eJ (fun h4=>?_) fun h4=>?_
  ·rw [uK h2] at h4
   exact wv (h:=hQ _ _ (.inl (by simp [go_sem,gS,h2,h4])))
  ·rw [uK h2] at h4
   refine eJ (fun h6=>?_) fun h6=>?_
   ·have hR:gS t r=1:=by unfold gS;rw [if_neg (by omega),if_neg (by simp [h4]),if_pos (by omega)]
    exact wv (h:=hQ _ _ (.inl (by simp [go_sem,hR])))
   ·have h6':¬ (r.right.vars≠r.left.vars∨0<r.right.tests.length):=by
     rintro (h|h)
     ·exact h h6.1
     ·have:=h6.2;simp [this] at h
    refine eJ (fun h8=>?_) fun h8=>?_
    ·have hR:gS t r=3:=by unfold gS;rw [if_neg (by omega),if_neg (by simp [h4]),if_neg h6',if_pos (by omega)]
     exact wv (h:=hQ _ _ (.inl (by simp [go_sem,hR])))
    ·have hR:gS t r=b9 (uO t r.right) 0 r.right.slots.length:=by unfold gS;rw [if_neg (by omega),if_neg (by simp [h4]),if_neg h6',if_neg (by omega)]
     refine wv (h:=bG (fun i e H=>(e 2=.adr t.c∧e 3=.adr r.c∧e 6=dI i)∧(i≤r.right.slots.length)∧(b9 (uO t r.right) i (r.right.slots.length - i)=gS t r)) (fun i=>r.right.slots.length - i) 0 ⟨wg,wi,(by (exact hR.symm))⟩ fun I0 hI0 i e H hi0=>?_)
     obtain ⟨E0,hi,hF⟩:=hi0
     have Y:=wa Y E0
     refine eJ (fun h11=>?_) fun h11=>?_
     ·have hst:=hF
      rw [fN _ h11] at hst
      have Y:=wa Y h11
      refine wv (h:=aC (NJ t ht r.right (by omega) (by omega) i h11) wl ?_)
      refine d7 (fun h14=>?_) fun h14=>?_
      ·rw [if_pos (by omega)] at hst
       exact wv (h:=hQ _ _ (.inl (by simp [go_sem,hst])))
      ·rw [if_neg (by omega)] at hst
       exact wo (h:=wx hI0 (i+1) ⟨wg,wj,(by exact hst)⟩)
     ·exact wv (h:=hQ _ _ (.inl (by rw [← hF,show r.right.slots.length - i=0 by omega];rfl)))
theorem Qa (l:List Int)(v:Int):Pure Tryz.prog 389 [dLI l,dI v] (.bool (mem l v)):=by
 refine Tz.pK ⟨fun _=>false,fun _=>[]⟩ Tryz.func389 rfl (fun Q hQ=>?_)
 have Y:=trivial
 refine wv (h:=bG (fun i e H=>(e 0=dLI l∧e 1=dI v∧e 5=dI i)∧(i≤l.length)∧(∀ j,j<i→l[j]?≠some v)) (fun i=>l.length - i) 0 ⟨wg,wi,(by (intro j hj;omega))⟩ fun I0 hI0 i e H hi0=>?_)
 obtain ⟨E0,hi,hne⟩:=hi0
 have Y:=wa Y E0
 refine wv (h:=?_)
 repeat first|intro _|refine ⟨d8,?_⟩
 refine wq (fun h2=>?_) fun h2=>?_
 ·have Y:=wa Y h2
  refine wv (h:=?_)
  repeat first|intro _|refine ⟨d8,?_⟩
  refine wq (fun h4=>?_) fun h4=>?_
  ·refine wv (h:=?_)
   have hm:mem l v=true:=(dM l v).2 (h4 ▸ aB h2)
   exact hQ _ _ (by simp [go_sem,hm])
  ·exact wo (h:=wx hI0 (i+1) ⟨wg,wj,(by (exact jA hne (by rw [aA h2];simpa using h4)))⟩)
 ·refine wv (h:=?_)
  have hm:mem l v=false:=by rw [bO];intro h;obtain ⟨j,hj,he⟩:=aT ((dM l v).1 h);exact hne j (by omega) (by rw [aA hj,he])
  exact hQ _ _ (by simp [go_sem,hm])
theorem uR (l:List Int)(n:Nat)(hn:n≤1000000):Pure Tryz.prog 335 [dI n,dLI l] (dLI (cZ l n)):=by
 refine Tz.pK ⟨fun t=>t==5,fun _=>[]⟩ Tryz.func335 rfl (fun Q hQ=>?_)
 have Y:=trivial
 refine wv (h:=bG (fun i e H=>∃ xs:List Int,(e 1=dLI l∧e 0=dI n∧e 5=.own 0 xs.length∧e 6=dI i)∧(H.get 0=some ⟨3,1,xs.map cI,false⟩)∧(0<H.next)∧(i≤n)∧(xs.length≤i)∧(xs=((List.range i).filter fun (b:Nat)=>!mem l b).map (fun (b:Nat)=>(b:Int)))) (fun i=>n - i) 0 ⟨([]),wg,wn,wn,wi,(by simp),(by rfl)⟩ fun I0 hI0 i e H hi0=>?_)
 obtain ⟨xs,E0,g0_0,n0_0,hi,hl,hx⟩:=hi0
 have Y:=wa Y (wa E0 (wa g0_0 (cG n0_0)))
 refine d7 (fun h3=>?_) fun h3=>?_
 ·have Y:=wa Y h3
  refine wo (h:=aC (Qa l i) wl ?_)
  refine eJ (fun h5=>?_) fun h5=>?_
  ·have Y:=wa Y h5
   exact wo (h:=wx hI0 (i+1) ⟨(xs++(if (!mem l i)=true then [(i:Int)] else [])),wg,wn,wn,wj,(by (rw [aG];split<;>simp<;>omega)),(by (rw [bN,← hx]))⟩)
  ·have Y:=wa Y h5
   exact wo (h:=wx hI0 (i+1) ⟨(xs++(if (!mem l i)=true then [(i:Int)] else [])),wg,wn,wn,wj,(by (rw [aG];split<;>simp<;>omega)),(by (rw [bN,← hx]))⟩)
 ·exact wv (h:=hQ _ _ (by simp [go_sem,Y,cZ];rw [hx,show i=n by omega];simp))
theorem JB (t:Types)(ht:t.ok)(g:Graph)(h0:graphF g=0)(hT:iT t g=true)(nodes edges:List Int)(hn:∀ i∈nodes,0≤i∧i<g.nodes.length)(he:∀ k∈edges,0≤k∧k<g.edges.length):Pure Tryz.prog 241 [t.d,g.d,dLI nodes,dLI edges] (.bool (zF t g nodes edges)):=by
 have hin:=j7 h0 hT
 refine Tz.pK ⟨fun t=>t==11,fun r=>match r with|9=>[(0,8),(1,8),(4,8),(5,8),(6,8),(7,8)]|_=>[]⟩ Tryz.func241 rfl (fun Q hQ=>?_)
 have Y:=trivial
 refine wv (h:=bG (fun i e H=>(e 4=.adr t.c∧e 5=.adr g.c∧e 2=dLI nodes∧e 3=dLI edges∧e 9=dI i)∧(i≤nodes.length)∧(((nodes.take i).any (absB t g))=false)) (fun i=>nodes.length - i) 0 ⟨wg,wi,(by rfl)⟩ fun I0 hI0 i e H hi0=>?_)
 obtain ⟨E0,hi,ha⟩:=hi0
 have Y:=wa Y E0
 refine wv (h:=?_)
 repeat first|intro _|refine ⟨d8,?_⟩
 refine wq (fun h2=>?_) fun h2=>?_
 ·have hn':=hn _ (aB h2)
  have hk:nodes[i].toNat<g.nodes.length:=by omega
  have hin':=hin.1 _ (aB hk)
  have hkt:g.nodes[nodes[i].toNat].toNat<t.nodes.length:=by omega
  have hA:absB t g nodes[i]=t.nodes[g.nodes[nodes[i].toNat].toNat].abs:=by simp [absB,gN,aA hk,aA hkt]
  have Y:=wa Y (wa h2 (wa (aA hk) (aA hkt)))
  refine wv (h:=?_)
  repeat first|intro _|refine ⟨d8,?_⟩
  refine wq (fun h4=>?_) fun h4=>?_
  ·refine wv (h:=?_)
   have hb:nodes.any (absB t g)=true:=List.any_eq_true.2 ⟨_,aB h2,by rw [hA,h4]⟩
   exact hQ _ _ (.inl (by simp only [go_sem,zF,hb,mI,nF]))
  ·exact wo (h:=wx hI0 (i+1) ⟨wg,wj,(by (rw [cC _ _ _ h2,ha,hA,h4];rfl))⟩)
 ·have hN:=iO ha h2
  refine wv (h:=bG (fun k e H=>(e 4=.adr t.c∧e 5=.adr g.c∧e 2=dLI nodes∧e 3=dLI edges∧e 10=dI k)∧(k≤edges.length)∧(((edges.take k).any (unfitB t g))=false)) (fun k=>edges.length - k) 0 ⟨wg,wi,(by rfl)⟩ fun I2 hI2 k e H hi2=>?_)
  obtain ⟨E2,hk,hb⟩:=hi2
  have Y:=wa Y E2
  refine wv (h:=?_)
  repeat first|intro _|refine ⟨d8,?_⟩
  refine wq (fun h7=>?_) fun h7=>?_
  ·have he':=he _ (aB h7)
   have hke:edges[k].toNat<g.edges.length:=by omega
   have hin':=hin.2 _ (aB hke)
   have hf:g.edges[edges[k].toNat].from_.toNat<g.nodes.length:=by omega
   have hto:g.edges[edges[k].toNat].to_.toNat<g.nodes.length:=by omega
   have hA:unfitB t g edges[k] = !l9 t g.edges[edges[k].toNat].type g.nodes[g.edges[edges[k].toNat].from_.toNat] g.nodes[g.edges[edges[k].toNat].to_.toNat]:=by simp [unfitB,gN,aA hke,aA hf,aA hto]
   have Y:=wa Y (wa h7 (wa (aA hke) (wa (aA hf) (aA hto))))
   refine wo (h:=aM (uS t ht _ _ _) wl ?_)
   refine wv (h:=?_)
   repeat first|intro _|refine ⟨d8,?_⟩
   refine wq (fun h10=>?_) fun h10=>?_
   ·refine wv (h:=?_)
    have hb':edges.any (unfitB t g)=true:=List.any_eq_true.2 ⟨_,aB h7,by rw [hA,h10];rfl⟩
    exact hQ _ _ (.inl (by simp only [go_sem,zF,hb',mI,DD]))
   ·exact wo (h:=wx hI2 (k+1) ⟨wg,wj,(by (rw [cC _ _ _ h7,hb,hA,h10];rfl))⟩)
  ·refine wv (h:=?_)
   have hE:=iO hb h7
   exact hQ _ _ (.inl (by simp only [go_sem,zF,hN,hE,p8,zS]))
theorem y9 (r:Rule)(h1:r.right.graph.nodes.length≤1000000)(h2:r.right.graph.edges.length≤1000000):Pure Tryz.prog 240 [r.d] (.tup [dLI r.freshN,dLI r.freshE]):=by
 refine Tz.pK ⟨fun _=>false,fun _=>[]⟩ Tryz.func240 rfl (fun Q hQ=>?_)
 have Y:=trivial
 refine wo (h:=aM (uR r.into.nodes _ h1) wl ?_)
 refine wo (h:=aM (uR r.into.edges _ h2) wl ?_)
 have Y:=wa Y (wa @Rule.freshN.eq_1 @Rule.freshE.eq_1)
 exact wo (h:=hQ _ _ wy)
theorem G0 (r:Rule)(h1:r.left.graph.nodes.length≤1000000)(h2:r.left.graph.edges.length≤1000000):Pure Tryz.prog 353 [r.d] (.tup [dLI r.goneN,dLI r.goneE]):=by
 refine Tz.pK ⟨fun _=>false,fun _=>[]⟩ Tryz.func353 rfl (fun Q hQ=>?_)
 have Y:=trivial
 refine wo (h:=aM (uR r.keep.nodes _ h1) wl ?_)
 refine wo (h:=aM (uR r.keep.edges _ h2) wl ?_)
 have Y:=wa Y (wa @Rule.goneN.eq_1 @Rule.goneE.eq_1)
 exact wo (h:=hQ _ _ wy)
def spanF (r:Rule):Int :=
 if subF r.left.graph r.keep≠0 then subF r.left.graph r.keep
 else eN (cM r.left.graph r.keep) r.right.graph r.into
theorem NI (r:Rule)(hr:r.ok):Pure Tryz.prog 239 [r.d] (dI (spanF r)):=by
 obtain ⟨_,hk1,hk2,hi1,hi2,_,_⟩:=hr
 refine Tz.pK ⟨fun t=>t==4||t==5,fun _=>[]⟩ Tryz.func239 rfl (fun Q hQ=>?_)
 have Y:=trivial
 refine wv (h:=aC (wV r.left.graph r.keep) wl ?_)
 refine d7 (fun h2=>?_) fun h2=>?_
 ·have Y:=wa Y (wa h2 @spanF.eq_1)
  exact wv (h:=hQ _ _ wy)
 ·refine wv (h:=aC (sQ r.left.graph r.keep hk1 hk2) wl ?_)
  refine wv (h:=aC (rS (cM r.left.graph r.keep) r.right.graph r.into) wl ?_)
  have Y:=wa Y (wa h2 @spanF.eq_1)
  exact wv (h:=hQ _ _ wy)
theorem Of (r:Rule):keptF r=if spanF r≠0 then spanF r else if (decide r.into.nodes.Nodup&&decide r.into.edges.Nodup)=true then 0 else 11:=by
 unfold keptF spanF He
 by_cases h1:subF r.left.graph r.keep=0
 ·by_cases h2:eN (cM r.left.graph r.keep) r.right.graph r.into=0
  ·simp only [h1,h2,ne_eq,not_true,if_false,decide_true,dU]
   cases (decide r.into.nodes.Nodup&&decide r.into.edges.Nodup)<;>simp
  ·simp [h1,h2]
 ·simp [h1]
theorem rO (t:Types)(ht:t.ok)(r:Rule)(hr:r.ok):Pure Tryz.prog 144 [t.d,r.d] (dI (ruleF t r)):=by
 have hcv:=C4 t ht r.left r.cond hr.cond hr.size
 rw [Cond.c_eq] at hcv
 have hK:=Of r
 refine Tz.pK ⟨fun _=>false,fun _=>[]⟩ Tryz.func144 rfl (fun Q hQ=>?_)
 have Y:=trivial
 refine wv (h:=aC (kP t ht) wl ?_)
 refine d7 (fun h2=>?_) fun h2=>?_
 ·exact wv (h:=hQ _ _ (by simp [go_sem,ruleF,h2]))
 ·refine wo (h:=aC (mS r.name hr.name) wl ?_)
  refine eJ (fun h4=>?_) fun h4=>?_
  ·exact wv (h:=hQ _ _ (by simp [go_sem,ruleF,h2,h4]))
  ·refine wv (h:=aC (rP t ht r.left) wl ?_)
   refine d7 (fun h7=>?_) fun h7=>?_
   ·exact wv (h:=hQ _ _ (by simp [go_sem,ruleF,h2,h4,h7]))
   ·refine wv (h:=aC (Lg t ht r) wl ?_)
    refine d7 (fun h10=>?_) fun h10=>?_
    ·exact wv (h:=hQ _ _ (by simp [go_sem,ruleF,h2,h4,h7,h10]))
    ·have hg:=yC h10
     have hgl:=bZ hg.1
     refine wv (h:=aC (NI r hr) wl ?_)
     refine d7 (fun h13=>?_) fun h13=>?_
     ·exact wv (h:=hQ _ _ (by simp [go_sem,ruleF,h2,h4,h7,h10,hK,h13]))
     ·refine wo (h:=aC (mR r.into.nodes) wl ?_)
      refine wo (h:=aN (fun hg=>mR r.into.edges) (fun hg=>wl) ?_)
      refine eJ (fun h15=>?_) fun h15=>?_
      ·have hK':keptF r=11:=by rw [hK,if_neg (by omega),if_neg (fun h=>by rw [aL,decide_eq_true_eq,decide_eq_true_eq] at h;rcases h15 with h'|h';exact h' h.1;exact h' h.2)]
       exact wv (h:=hQ _ _ (by simp [go_sem,ruleF,h2,h4,h7,h10,hK']))
      ·have hK':keptF r=0:=by rw [hK,if_neg (by omega),if_pos (by rw [aL,decide_eq_true_eq,decide_eq_true_eq];exact h15)]
       refine wv (h:=aC (y9 r (by omega) (by omega)) wl ?_)
       refine wo (h:=aC (JB t ht r.right.graph hg.1 hg.2 r.freshN r.freshE (fun i hi=>dQ hi) (fun i hi=>dQ hi)) wl ?_)
       refine eJ (fun h18=>?_) fun h18=>?_
       ·exact wv (h:=hQ _ _ (by simp [go_sem,ruleF,h2,h4,h7,h10,hK',h18]))
       ·refine wv (h:=aC (hcv) wl ?_)
        exact wv (h:=hQ _ _ (by simp [go_sem,ruleF,h2,h4,h7,h10,hK',h18]))
def delN (t:Types)(r:Rule):List Int:=if ruleF t r=0 then r.goneN else []
def delE (t:Types)(r:Rule):List Int:=if ruleF t r=0 then r.goneE else []
def creN (t:Types)(r:Rule):List Int:=if ruleF t r=0 then r.freshN else []
def creE (t:Types)(r:Rule):List Int:=if ruleF t r=0 then r.freshE else []
theorem qF {t:Types}{r:Rule}(h:ruleF t r=0):(cW t).2=0∧(graphF r.left.graph=0∧iT t r.left.graph=true)∧(graphF r.right.graph=0∧iT t r.right.graph=true):=by
 unfold ruleF at h
 split at h
 ·rename_i h1;exact absurd h h1
 ·rename_i h1
  split at h
  ·cases h
  ·split at h
   ·rename_i h2;exact absurd h h2
   ·rename_i h2
    split at h
    ·rename_i h3;exact absurd h h3
    ·rename_i h3
     refine ⟨by omega,?_,yC (by omega)⟩
     have h2':cJ t r.left=0:=by omega
     unfold cJ at h2'
     rw [if_neg h1] at h2'
     split at h2'
     ·rename_i h4;exact absurd h2' h4
     ·rename_i h4
      split at h2'
      ·cases h2'
      ·rename_i h5;exact ⟨by omega,by simpa using h5⟩
theorem Jv (t:Types)(ht:t.ok)(r:Rule)(hr:r.ok):Pure Tryz.prog 358 [t.d,r.d] (.tup [dLI (delN t r),dLI (delE t r),dI (ruleF t r)]):=by
 refine Tz.pK ⟨fun _=>false,fun _=>[]⟩ Tryz.func358 rfl (fun Q hQ=>?_)
 have Y:=trivial
 refine wv (h:=aC (EA t ht r hr) wl ?_)
 refine d7 (fun h2=>?_) fun h2=>?_
 ·have Y:=wa Y (wa h2 (wa @delN.eq_1 @delE.eq_1))
  exact wv (h:=hQ _ _ wy)
 ·have hg:=qF h2
  have hgl:=bZ hg.2.1.1
  refine wv (h:=aC (Ju r (by omega) (by omega)) wl ?_)
  have Y:=wa Y (wa h2 (wa @delN.eq_1 @delE.eq_1))
  exact wv (h:=hQ _ _ wy)
theorem Jw (t:Types)(ht:t.ok)(r:Rule)(hr:r.ok):Pure Tryz.prog 359 [t.d,r.d] (.tup [dLI (creN t r),dLI (creE t r),dI (ruleF t r)]):=by
 refine Tz.pK ⟨fun _=>false,fun _=>[]⟩ Tryz.func359 rfl (fun Q hQ=>?_)
 have Y:=trivial
 refine wv (h:=aC (EA t ht r hr) wl ?_)
 refine d7 (fun h2=>?_) fun h2=>?_
 ·have Y:=wa Y (wa h2 (wa @creN.eq_1 @creE.eq_1))
  exact wv (h:=hQ _ _ wy)
 ·have hg:=qF h2
  have hgl:=bZ hg.2.2.1
  refine wv (h:=aC (AD r (by omega) (by omega)) wl ?_)
  have Y:=wa Y (wa h2 (wa @creN.eq_1 @creE.eq_1))
  exact wv (h:=hQ _ _ wy)
theorem G1 (t:Types)(ht:t.ok)(r:Rule)(hr:r.ok):Pure Tryz.prog 280 [t.d,r.d] (.tup [dLI (delN t r),dLI (delE t r),dI (ruleF t r)]):=by
 refine Tz.pK ⟨fun _=>false,fun _=>[]⟩ Tryz.func280 rfl (fun Q hQ=>?_)
 have Y:=trivial
 refine wv (h:=aC (rO t ht r hr) wl ?_)
 refine d7 (fun h2=>?_) fun h2=>?_
 ·have Y:=wa Y (wa h2 (wa @delN.eq_1 @delE.eq_1))
  exact wv (h:=hQ _ _ wy)
 ·have hg:=qF h2
  have hgl:=bZ hg.2.1.1
  refine wv (h:=aC (G0 r (by omega) (by omega)) wl ?_)
  have Y:=wa Y (wa h2 (wa @delN.eq_1 @delE.eq_1))
  exact wv (h:=hQ _ _ wy)
theorem G2 (t:Types)(ht:t.ok)(r:Rule)(hr:r.ok):Pure Tryz.prog 282 [t.d,r.d] (.tup [dLI (creN t r),dLI (creE t r),dI (ruleF t r)]):=by
 refine Tz.pK ⟨fun _=>false,fun _=>[]⟩ Tryz.func282 rfl (fun Q hQ=>?_)
 have Y:=trivial
 refine wv (h:=aC (rO t ht r hr) wl ?_)
 refine d7 (fun h2=>?_) fun h2=>?_
 ·have Y:=wa Y (wa h2 (wa @creN.eq_1 @creE.eq_1))
  exact wv (h:=hQ _ _ wy)
 ·have hg:=qF h2
  have hgl:=bZ hg.2.2.1
  refine wv (h:=aC (y9 r (by omega) (by omega)) wl ?_)
  have Y:=wa Y (wa h2 (wa @creN.eq_1 @creE.eq_1))
  exact wv (h:=hQ _ _ wy)
def fK (l:List Int)(ks:List Nat)(d:Int):List Int:=ks.foldl (fun l k=>l.set k (l[k]?.getD 0+d)) l
theorem OM (l:List Int)(ks:List Nat)(k:Nat)(d:Int):fK l (ks++[k]) d=(fK l ks d).set k ((fK l ks d)[k]?.getD 0+d):=by simp [fK]
@[go_sem] theorem V0 (l:List Int)(d:Int):fK l [] d=l:=rfl
theorem g9 (l:List Int)(d:Int):∀ ks:List Nat,(fK l ks d).length=l.length:=by
 intro ks
 induction ks generalizing l with
 | nil=>rfl
 | cons k ks ih=>simp only [fK,tD] at ih ⊢;rw [ih];simp
theorem mB (d:Int)(hd : -1≤d∧d≤1):∀ (ks:List Nat) (l:List Int) (B:Int),0≤B→(∀ x∈l,-B≤x∧x≤B)→∀ x∈fK l ks d,-(B+ks.length)≤x∧x≤B+ks.length
 | [],l,B,hB,h=>by simpa [fK] using h
 | k :: ks,l,B,hB,h=>by
  have ih:=mB d hd ks (l.set k (l[k]?.getD 0+d)) (B+1) (by omega) fun x hx=>by
   rcases fG hx with h1|h1
   ·have:=h x h1;omega
   ·subst h1
    cases hk:l[k]? with
    | none=>simp;omega
    | some y=>have:=h y (aK hk);simp;omega
  intro x hx
  have:=ih x hx
  simp only [eU]
  omega
theorem OL {l:List Int}{ks:List Nat}{d:Int}{i:Nat}(hi:i<ks.length)(hk:ks[i]<(fK l (ks.take i) d).length):fK l (ks.take (i+1)) d=(fK l (ks.take i) d).set ks[i] ((fK l (ks.take i) d)[ks[i]]+d):=by
 rw [aF hi,OM,aA hk];rfl
def Rule.kGN (r:Rule):List Nat:=r.goneN.map fun i=>(gN r.left.graph i).toNat
def Rule.kGE (r:Rule)(n:Nat):List Nat:=r.goneE.map fun i=>n+(r.left.graph.edges[i.toNat]?.getD bS).type.toNat
def Rule.kFN (r:Rule):List Nat:=r.freshN.map fun i=>(gN r.right.graph i).toNat
def Rule.kFE (r:Rule)(n:Nat):List Nat:=r.freshE.map fun i=>n+(r.right.graph.edges[i.toNat]?.getD bS).type.toNat
def nJ (t:Types):List Int:=List.replicate (t.nodes.length+t.edges.length) 0
def wH (t:Types)(r:Rule):List Int:=fK (nJ t) r.kGN (-1)
def yS (t:Types)(r:Rule):List Int:=fK (wH t r) (r.kGE t.nodes.length) (-1)
def yR (t:Types)(r:Rule):List Int:=fK (yS t r) r.kFN 1
def KD (t:Types)(r:Rule):List Int:=fK (yR t r) (r.kFE t.nodes.length) 1
def Hr (t:Types)(r:Rule)(i:Int):Bool:=decide ((1:Int)<(xS t (gN r.left.graph i)).length)
def g8 (t:Types)(r:Rule):Int:=if ruleF t r≠0 then ruleF t r else if r.goneN.any (Hr t r)=true then 13 else 0
def g7 (t:Types)(r:Rule):List Int:=if g8 t r=0 then KD t r else []
structure Vecs (t:Types) (r:Rule):Prop where
 l0:(nJ t).length=t.nodes.length+t.edges.length
 l1:(wH t r).length=t.nodes.length+t.edges.length
 l2:(yS t r).length=t.nodes.length+t.edges.length
 l3:(yR t r).length=t.nodes.length+t.edges.length
 l4:(KD t r).length=t.nodes.length+t.edges.length
 b0:∀ x∈nJ t,-(0:Int)≤x∧x≤0
 b1:∀ x∈wH t r,-(r.kGN.length:Int)≤x∧x≤r.kGN.length
 b2:∀ x∈yS t r,-((r.kGN.length:Int)+(r.kGE t.nodes.length).length)≤x∧x≤(r.kGN.length:Int)+(r.kGE t.nodes.length).length
 b3:∀ x∈yR t r,-((r.kGN.length:Int)+(r.kGE t.nodes.length).length+r.kFN.length)≤x∧x≤(r.kGN.length:Int)+(r.kGE t.nodes.length).length+r.kFN.length
 b4:∀ x∈KD t r,-((r.kGN.length:Int)+(r.kGE t.nodes.length).length+r.kFN.length+(r.kFE t.nodes.length).length)≤x∧x≤(r.kGN.length:Int)+(r.kGE t.nodes.length).length+r.kFN.length+(r.kFE t.nodes.length).length
theorem Ri (t:Types)(r:Rule):Vecs t r:=by
 have l0:(nJ t).length=t.nodes.length+t.edges.length:=by simp [nJ]
 have b0:∀ x∈nJ t,-(0:Int)≤x∧x≤0:=fun x hx=>by have:=(List.mem_replicate.1 hx).2;omega
 have b1:∀ x∈wH t r,-(r.kGN.length:Int)≤x∧x≤r.kGN.length:=fun x hx=>by have:=mB (-1) (by omega) _ _ 0 (by omega) b0 x hx;omega
 have b2:=mB (-1) (by omega) (r.kGE t.nodes.length) (wH t r) _ (by omega) b1
 have b3:=mB 1 (by omega) r.kFN (yS t r) _ (by omega) b2
 have b4:=mB 1 (by omega) (r.kFE t.nodes.length) (yR t r) _ (by omega) b3
 have l1:(wH t r).length=t.nodes.length+t.edges.length:=by rw [wH,g9,l0]
 have l2:(yS t r).length=t.nodes.length+t.edges.length:=by rw [yS,g9,l1]
 have l3:(yR t r).length=t.nodes.length+t.edges.length:=by rw [yR,g9,l2]
 have l4:(KD t r).length=t.nodes.length+t.edges.length:=by rw [KD,g9,l3]
 exact ⟨l0,l1,l2,l3,l4,b0,b1,b2,b3,b4⟩
theorem kU {l:List Int}{ks:List Nat}{d B:Int}{N i:Nat}(hl:l.length=N)(hb:∀ x∈l,-B≤x∧x≤B)(hB:0≤B)(hd : -1≤d∧d≤1)(hi:i<ks.length)(hk:ks[i]<N) :
  ∃ hkl:ks[i]<(fK l (ks.take i) d).length,fK l (ks.take (i+1)) d=(fK l (ks.take i) d).set ks[i] ((fK l (ks.take i) d)[ks[i]]+d) ∧
   (-(B+i)≤(fK l (ks.take i) d)[ks[i]]∧(fK l (ks.take i) d)[ks[i]]≤B+i):=by
 have hkl:ks[i]<(fK l (ks.take i) d).length:=by rw [g9,hl];exact hk
 refine ⟨hkl,OL hi hkl,?_⟩
 have:=mB d hd (ks.take i) l B hB hb _ (aB hkl)
 rw [aV,As (by omega)] at this
 exact this
end Go.Abs
end
