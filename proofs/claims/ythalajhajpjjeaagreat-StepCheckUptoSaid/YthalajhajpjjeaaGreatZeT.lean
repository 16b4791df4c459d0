/- Conditions of the program: given, Witness, Satisfies. · The  -/
import Derived.Test.YthalajhajpjjeaaGreatZeF
import Derived.Test.YthalajhajpjjeaaGreatZeS
import Derived.Test.YthalajhajpjjeaaGreatZeA
set_option linter.unusedVariables false
set_option linter.unusedSimpArgs false
section
set_option maxRecDepth 100000
set_option maxHeartbeats 4000000
open Go Go.Proofs
namespace Go.Abs
def QF (t:Types)(p:Pattern)(c:Cond)(h:Host)(m:Mat)(inj:Bool):Int :=
 if condF t p c≠0 then condF t p c
 else if fW t h≠0 then fW t h
 else if eR t p.graph h.graph m.m inj≠0 then eR t p.graph h.graph m.m inj
 else if (dD t p h m.m).2≠0 then (dD t p h m.m).2
 else if (dD t p h m.m).1≠m.vars then 11 else 0
theorem CO (t:Types)(ht:t.ok)(p:Pattern)(c:Cond)(hc:c.ok)(hs:c.size≤1000000)(h:Host)(m:Mat)(inj:Bool):Pure Tryz.prog 331 [t.d,p.d,.agg c.c,h.d,m.d,.bool inj] (dI (QF t p c h m inj)):=by
 refine Tz.pK ⟨fun _=>false,fun _=>[]⟩ Tryz.func331 rfl (fun Q hQ=>?_)
 have Y:=wa @Cond.c_eq (wa @Pattern.d.eq_1 (wa @Pattern.c.eq_1 (wa @Host.d.eq_1 (wa @Host.c.eq_1 (wa @Mat.d.eq_1 (wa @Mat.c.eq_1 (wa @Graph.c.eq_1 @Part.c.eq_1)))))))
 refine wv (h:=aB ((by have hq:=uQ t ht p c hc hs;rw [Cond.c_eq] at hq;unfold Types.d Types.c Pattern.d Pattern.c dLI dI at hq;exact hq)) wl ?_)
 refine c4 (fun h2=>?_) fun h2=>?_
 ·have hM:QF t p c h m inj=condF t p c:=by unfold QF;rw [if_pos h2]
  exact wv (h:=hQ _ _ (by simp [go_sem,hM]))
 ·have hM:QF t p c h m inj=if fW t h≠0 then fW t h else if eR t p.graph h.graph m.m inj≠0 then eR t p.graph h.graph m.m inj else if (dD t p h m.m).2≠0 then (dD t p h m.m).2 else if (dD t p h m.m).1≠m.vars then 11 else 0:=by unfold QF;rw [if_neg (by simpa using h2)]
  refine wv (h:=aB (y0 t ht h) wl ?_)
  refine c4 (fun h5=>?_) fun h5=>?_
  ·have h5':fW t h≠0:=h5
   rw [if_pos h5'] at hM
   exact wv (h:=hQ _ _ (by simp [go_sem,hM,fW]))
  ·have h5':¬ fW t h≠0:=by unfold fW;simpa using h5
   rw [if_neg h5'] at hM
   refine wv (h:=aB (tO t ht p.graph h.graph m.m inj) wl ?_)
   refine c4 (fun h8=>?_) fun h8=>?_
   ·rw [if_pos (by simpa using h8)] at hM
    exact wv (h:=hQ _ _ (by simp [go_sem,hM]))
   ·rw [if_neg (by simpa using h8)] at hM
    refine wv (h:=aB (uV t ht p h m.m) wl ?_)
    refine c4 (fun h11=>?_) fun h11=>?_
    ·rw [if_pos (by simpa using h11)] at hM
     exact wv (h:=hQ _ _ (by simp [go_sem,hM]))
    ·rw [if_neg (by simpa using h11)] at hM
     refine wp (h:=aB (jQ (dD t p h m.m).1 m.vars) wl ?_)
     refine tG (fun h13=>?_) fun h13=>?_
     ·rw [if_pos (by simpa using h13)] at hM
      exact wv (h:=hQ _ _ (by simp [go_sem,hM]))
     ·rw [if_neg (by simpa using h13)] at hM
      exact wv (h:=hQ _ _ (by simp [go_sem,hM]))
theorem AG (t:Types)(ht:t.ok)(p:Pattern)(c:Cond)(hc:c.ok)(hC:CondV t p c)(hp:PatOk t p)(h:Host)(ho:HostOk t h)(m:Mat)(hm:MatOk t p h m)(inj:Bool)(h0:QF t p c h m inj=0) :
  Pure Tryz.prog 239 [t.d,p.d,.agg c.c,h.d,m.d,.bool inj] (.tup [.agg (KT t h inj c m).1.c,dI (KT t h inj c m).2]):=by
 obtain ⟨wc,wm,wk,we,hw,hw2,hw3⟩:=AX t h inj c m
 refine vY (by first|rfl|(simp [go_sem];done)) (fun Q hQ=>(aI (cfg:=⟨fun t=>t==12,fun _=>[]⟩) Tz.mixed Tryz.func239 rfl rfl (aF rfl) (by kernel_rfl) ?_))
 have Y:=wa @Cond.c_eq (wa @scnC.eq_1 (wa @Pattern.d.eq_1 (wa @Pattern.c.eq_1 (wa @Host.d.eq_1 (wa @Host.c.eq_1 (wa @Mat.d.eq_1 (wa @Mat.c.eq_1 @Prf.c_eq)))))))
 refine wv (h:=aB ((by have hq:=CO t ht p c hc hC.sz h m inj;rw [h0,Cond.c_eq] at hq;unfold Types.d Types.c Pattern.d Pattern.c Host.d Host.c Mat.d Mat.c dLI dI at hq;exact hq)) wl ?_)
 refine wv (h:=aB ((by have hq:=Fr t ht h ho inj c p hC hp m hm;simp only [hw,Prf.c_eq,Cond.c_eq] at hq;unfold scnC Mat.d Mat.c dLI dI at hq;exact hq)) wl ?_)
 refine wv (h:=?_)
 exact hQ _ _ (by simp [go_sem,Y,hw,Prf.c_eq,lR,jE,eO,dLI,eT,e8])
theorem xO (t:Types)(ht:t.ok)(p:Pattern)(c:Cond)(hc:c.ok)(hC:CondV t p c)(hp:PatOk t p)(h:Host)(ho:HostOk t h)(m:Mat)(hm:MatOk t p h m)(inj:Bool)(h0:QF t p c h m inj=0) :
  Pure Tryz.prog 141 [t.d,p.d,.agg c.c,h.d,m.d,.bool inj] (.tup [.bool (lP t h inj c m).1,dI (lP t h inj c m).2]):=by
 obtain ⟨wc,wm,wk,we,hw,hw2,hw3⟩:=AX t h inj c m
 have hH:lP t h inj c m=if we=10 then (false,0) else (decide (we=0),we):=by unfold lP OD;rw [hw2]
 refine Tz.pK ⟨fun t=>t==14,fun _=>[]⟩ Tryz.func141 rfl (fun Q hQ=>?_)
 have Y:=wa @Cond.c_eq (wa @Pattern.d.eq_1 (wa @Pattern.c.eq_1 (wa @Host.d.eq_1 (wa @Host.c.eq_1 (wa @Mat.d.eq_1 (wa @Mat.c.eq_1 @Prf.c_eq))))))
 refine wv (h:=aB ((by have hq:=AG t ht p c hc hC hp h ho m hm inj h0;simp only [hw,Prf.c_eq,Cond.c_eq] at hq;unfold Types.d Types.c Pattern.d Pattern.c Host.d Host.c Mat.d Mat.c dLI dI at hq;exact hq)) wl ?_)
 refine c4 (fun h2=>?_) fun h2=>?_
 ·rw [if_pos (by simpa using h2)] at hH
  exact wv (h:=hQ _ _ (by simp [go_sem,hH]))
 ·rw [if_neg (by simpa using h2)] at hH
  exact wv (h:=hQ _ _ (by simp [go_sem,hH,Ao]))
theorem G7 {l:List Int}(hs:l.Pairwise (· < ·))(v:Int):gF l l.length v=if mem l v=true then (sQ l v:Int) else -1:=by
 by_cases h:mem l v=true
 ·rw [if_pos h,← Ap hs h]
  obtain ⟨p,hp,he⟩:=aO ((c6 l v).1 h)
  have hpw:=eD.1 hs
  rw [sX (i:=p) (fun j hj h2=>by
   have hjl:j<l.length:=by omega
   rw [aA hjl] at h2
   have:=hpw j p hjl hp hj
   simp at h2;omega) (by rw [aA hp,he]),← he,wO (BB hs) hp]
 ·rw [if_neg h,xH (fun hm=>h ((c6 _ _).2 hm)) _ (bC _)]
def Cy (d:List Int)(n i:Nat):List Int:=jR d i++List.replicate (n - i) 0
theorem Dh {d:List Int}{n i:Nat}(h:i≤n):(Cy d n i).length=n:=by simp [Cy,kD];omega
theorem IO {d:List Int}{n i:Nat}(h:i<n):(Cy d n i).set i (gF d d.length i)=Cy d n (i+1):=by
 unfold Cy
 rw [oA _ _ (by rw [kD];omega),kD,u7,EV,show n - i=(n - (i+1))+1 by omega,qS,sB,List.append_assoc];rfl
theorem Dk (n:Nat)(hn:n≤1000000)(d:List Int)(hd:d.Pairwise (· < ·))(hl:d.length≤1000000):Pure Tryz.prog 144 [dI n,dLI d] (dLI (pV d n)):=by
 refine Tz.pK ⟨fun _=>false,fun _=>[]⟩ Tryz.func144 rfl (fun Q hQ=>?_)
 have Y:=trivial
 refine wp (h:=bA (fun i e H=>(e 1=dLI d∧e 5=.own 0 n∧e 12=dI n∧e 13=dI i)∧(H.get 0=some ⟨3,1,(Cy d n i).map cI,false⟩)∧(0<H.next)∧(i≤n)) (fun i=>n - i) 0 ⟨wg,(by (simp [go_sem,Cy,jR,cI])),wn,wi⟩ fun I0 hI0 i e H hi0=>?_)
 obtain ⟨E0,g0_0,n0_0,hi⟩:=hi0
 have Y:=wa Y (wa E0 (wa g0_0 (bZ n0_0)))
 refine c4 (fun h3=>?_) fun h3=>?_
 ·have hB:=G7 hd (i:Int)
  have hil:i<(Cy d n i).length:=by rw [Dh (by omega)];exact h3
  have hll:(Cy d n i).length=n:=Dh (by omega)
  have Y:=wa Y (wa h3 (wa (aA hil) hll))
  refine wv (h:=aB (rQ d i hd hl) wl ?_)
  refine tG (fun h6=>?_) fun h6=>?_
  ·rw [if_neg (by simpa using h6)] at hB
   have Y:=wa Y hB
   exact wp (h:=wx hI0 (i+1) ⟨wg,(by (simp [go_sem,Y,← IO h3,c8,cI])),wn,wj⟩)
  ·rw [if_pos (by simpa using h6)] at hB
   have Y:=wa Y hB
   exact wp (h:=wx hI0 (i+1) ⟨wg,(by (simp [go_sem,Y,← IO h3,c8,cI])),wn,wj⟩)
 ·have hll:(Cy d n i).length=n:=Dh (by omega)
  have hT:pV d n=Cy d n i:=by unfold Cy pV;rw [show i=n by omega];simp
  have Y:=wa Y hll
  exact wv (h:=hQ _ _ (by simp [go_sem,Y,hT,dLI]))
/-! ### comatch -/
def Pu (keep into at_:List Int)(n j:Nat):Int:=if 0≤gF into n j then at_[(keep[(gF into n j).toNat]?.getD 0).toNat]?.getD 0 else -1
def L5 (keep into at_:List Int)(count n:Nat):List Int:=(List.range count).map (Pu keep into at_ n)
def EQ (keep into at_:List Int)(count remain i:Nat):List Int:=(List.range count).map fun j=>if j<i then G0 keep into at_ remain j else Pu keep into at_ into.length j
theorem QE (keep into at_:List Int)(count n:Nat):(L5 keep into at_ count n).length=count:=by simp [L5]
theorem Ij (keep into at_:List Int)(count remain i:Nat):(EQ keep into at_ count remain i).length=count:=by simp [EQ]
theorem Pw (keep into at_:List Int)(count:Nat):L5 keep into at_ count 0=List.replicate count (-1):=by
 apply f7 (by simp [L5]);intro i h1 h2;simp [L5,Pu,gF]
theorem Px (keep into at_:List Int)(count n:Nat)(h:n<into.length)(h0:0≤into[n]):L5 keep into at_ count (n+1)=(L5 keep into at_ count n).set into[n].toNat (at_[(keep[n]?.getD 0).toNat]?.getD 0):=by
 apply f7 (by simp [L5]);intro i h1 h2
 rw [xJ]
 simp only [L5,qP,nE,Pu,nW,aA h,aD]
 by_cases he:into[n]=(i:Int)
 ·rw [if_pos he,if_pos (by omega),if_pos (by omega),Int.toNat_natCast]
 ·rw [if_neg he,if_neg (show ¬ into[n].toNat=i by omega)]
theorem Pv (keep into at_:List Int)(count remain:Nat):EQ keep into at_ count remain 0=L5 keep into at_ count into.length:=by simp [EQ,L5]
theorem QB (keep into at_:List Int)(count remain:Nat){i:Nat}(h:i<count):(EQ keep into at_ count remain i).set i (G0 keep into at_ remain i)=EQ keep into at_ count remain (i+1):=by
 apply f7 (by simp [EQ]);intro j h1 h2
 rw [xJ]
 simp only [EQ,qP,nE]
 by_cases he:i=j
 ·subst he;rw [if_pos rfl,if_pos (by omega)]
 ·rw [if_neg he]
  by_cases h3:j<i
  ·rw [if_pos h3,if_pos (by omega)]
  ·rw [if_neg h3,if_neg (by omega)]
theorem QD (keep into at_:List Int)(count remain:Nat):EQ keep into at_ count remain count=CQ keep into at_ count remain:=by
 unfold EQ CQ
 exact bU fun j hj=>by rw [if_pos (b6.1 hj)]
theorem QC (keep into at_:List Int)(count remain:Nat){i:Nat}(h:i<count):(EQ keep into at_ count remain i)[i]?=some (Pu keep into at_ into.length i):=by
 simp [EQ,h]
theorem zO (count:Nat)(hc:count≤1000)(keep into im tr:List Int)(n:Nat)(hn:n≤1000)(hl:into.length≤keep.length)(hin:∀ x∈into,0≤x∧x<count)(hk0:∀ x∈keep,0≤x∧x<im.length)(hm0:∀ x∈keep,0≤iA im x∧iA im x<tr.length)
  (hp:∀ x∈keep,0≤(nD im tr)[x.toNat]?.getD 0):Pure Tryz.prog 145 [dI count,dLI keep,dLI into,dLI im,dLI tr,dI n] (dLI (CQ keep into (nD im tr) count n)):=by
 refine Tz.pK ⟨fun t=>t==19,fun _=>[]⟩ Tryz.func145 rfl (fun Q hQ=>?_)
 have Y:=trivial
 refine wv (h:=l4 (DF (-1) count hc) wl ?_)
 refine wv (h:=?_)
 repeat first|intro _|refine ⟨eZ,?_⟩
 refine bA (fun i e H=>(e 1=dLI keep∧e 2=dLI into∧e 3=dLI im∧e 4=dLI tr∧e 13=.own 0 count∧e 20=dLI into∧e 21=dI into.length∧e 22=dI i∧e 5=dI n)∧(H.get 0=some ⟨3,1,(L5 keep into (nD im tr) count i).map cI,false⟩)∧(0<H.next)∧(i≤into.length)) (fun i=>into.length - i) 0 ⟨wg,(by (simp [go_sem,Pw,cI])),wn,wi⟩ fun I0 hI0 i e H hi0=>?_
 obtain ⟨E0,g0_0,n0_0,hi⟩:=hi0
 have Y:=wa Y (wa E0 (wa g0_0 (bZ n0_0)))
 refine c4 (fun h3=>?_) fun h3=>?_
 ·have hki:i<keep.length:=by omega
  have hkb:=hk0 _ (aC hki)
  have hmb:=hm0 _ (aC hki)
  have hkm:keep[i].toNat<im.length:=by omega
  have hiA:iA im keep[i]=im[keep[i].toNat]:=by unfold iA;rw [aA hkm];rfl
  rw [hiA] at hmb
  have hmt:(im[keep[i].toNat]).toNat<tr.length:=by omega
  have hib:=hin _ (aC h3)
  have hcl:(L5 keep into (nD im tr) count i).length=count:=QE _ _ _ _ _
  have hcb:into[i].toNat<(L5 keep into (nD im tr) count i).length:=by omega
  have hv:(nD im tr)[(keep[i]?.getD 0).toNat]?.getD 0=tr[(im[keep[i].toNat]).toNat]:=by
   rw [aA hki,aD];unfold nD
   rw [aR,aA hkm,eM,aD,aA hmt,aD]
  have hsu:=Px keep into (nD im tr) count i h3 hib.1
  rw [hv] at hsu
  have Y:=wa Y (wa h3 (wa (aA h3) (wa (aA hki) (wa (aA hkm) (wa (aA hmt) (wa (aA hcb) hcl))))))
  refine wv (h:=?_)
  repeat first|intro _|refine ⟨eZ,?_⟩
  exact wx hI0 (i+1) ⟨wg,(by (simp [go_sem,Y,hsu,c8,cI])),wn,wj⟩
 ·have hA:L5 keep into (nD im tr) count i=EQ keep into (nD im tr) count n 0:=by rw [Pv,show i=into.length by omega]
  have hcl:(EQ keep into (nD im tr) count n 0).length=count:=Ij _ _ _ _ _ _
  have hn0:yU into 0=0:=Gz into
  have Y:=wa Y (wa hA (wa hcl hn0))
  refine wv (h:=?_)
  repeat first|intro _|refine ⟨eZ,?_⟩
  refine bA (fun k e H=>(e 1=dLI keep∧e 2=dLI into∧e 3=dLI im∧e 4=dLI tr∧e 13=.own 0 count∧e 42=dI count∧e 43=dI k∧e 5=dI ((n+yU into k:Nat):Int))∧(H.get 0=some ⟨3,1,(EQ keep into (nD im tr) count n k).map cI,false⟩)∧(0<H.next)∧(k≤count)) (fun k=>count - k) 0 ⟨wg,(by (simp [go_sem,Y])),wn,wi⟩ fun I2 hI2 k e H hi2=>?_
  obtain ⟨E2,g0_2,n0_2,hk⟩:=hi2
  have Y:=wa Y (wa E2 (wa g0_2 (bZ n0_2)))
  refine c4 (fun h8=>?_) fun h8=>?_
  ·have hnl:=MN into k
   have hcl:(EQ keep into (nD im tr) count n k).length=count:=Ij _ _ _ _ _ _
   have hck:k<(EQ keep into (nD im tr) count n k).length:=by omega
   have hg:=QC keep into (nD im tr) count n h8
   have hge:(EQ keep into (nD im tr) count n k)[k]=Pu keep into (nD im tr) into.length k:=by rw [aA hck] at hg;exact Option.some.inj hg
   have hsb:=QB keep into (nD im tr) count n h8
   have hns:=GA into k
   have hbl:=AK into (k:Int) into.length
   have Y:=wa Y (wa hcl (wa h8 hg))
   refine wv (h:=?_)
   repeat first|intro _|refine ⟨eZ,?_⟩
   refine wq (fun h10=>?_) fun h10=>?_
   ·rw [hge] at h10
    have hneg:¬ 0≤gF into into.length k:=by
     intro h0
     have hlt:(gF into into.length k).toNat<keep.length:=by omega
     have:=hp _ (aC hlt)
     simp only [Pu,if_pos h0,aA hlt,aD] at h10
     omega
    have hco:G0 keep into (nD im tr) n k=((n+yU into k:Nat):Int):=by unfold G0;rw [if_neg hneg]
    rw [hco] at hsb
    rw [if_pos (by omega)] at hns
    have hset:(EQ keep into (nD im tr) count n (k+1)).map cI=((EQ keep into (nD im tr) count n k).map cI).set k [.int .i64 ((n+yU into k:Nat):Int)]:=by rw [← hsb,c8];rfl
    have Y:=wa Y hns
    refine wv (h:=?_)
    repeat first|intro _|refine ⟨eZ,?_⟩
    exact wx hI2 (k+1) ⟨wg,(by (simp [go_sem,Y,hset])),wn,wj⟩
   ·rw [hge] at h10
    have hco:G0 keep into (nD im tr) n k=Pu keep into (nD im tr) into.length k:=by
     unfold G0 Pu
     split
     ·rfl
     ·rename_i h0;exfalso;unfold Pu at h10;rw [if_neg h0] at h10;omega
    have hpos:0≤gF into into.length k:=by
     refine bE fun h0=>?_
     unfold Pu at h10;rw [if_neg h0] at h10;omega
    rw [hco,← hge,List.set_getElem_self] at hsb
    rw [if_neg (by omega)] at hns
    have hset:(EQ keep into (nD im tr) count n (k+1))=EQ keep into (nD im tr) count n k:=hsb.symm
    have Y:=wa Y hns
    refine wv (h:=?_)
    repeat first|intro _|refine ⟨eZ,?_⟩
    exact wx hI2 (k+1) ⟨wg,(by (simp [go_sem,Y,hset])),wn,wj⟩
  ·have hE:=QD keep into (nD im tr) count n
   have hke:k=count:=by omega
   have hcl:(EQ keep into (nD im tr) count n count).length=count:=Ij _ _ _ _ _ _
   rw [hE] at hcl
   have Y:=wa Y (wa hcl (wa hke hE))
   exact wv (h:=hQ _ _ (by simp [go_sem,Y,hE,dLI]))
/-! ### copies -/
@[go_sem] theorem Mat.cld (m:Mat):m.d.cl=true:=by simp [Mat.d,D.cl,Mat.cl]
theorem Dn (m:Mat)(h1:m.m.nodes.length≤1000000)(h2:m.m.edges.length≤1000000)(h3:m.vars.length≤1000000):Pure Tryz.prog 142 [m.d] m.d:=by
 refine Tz.pK ⟨fun t=>t==2,fun _=>[]⟩ Tryz.func142 rfl (fun Q hQ=>?_)
 have Y:=wa @Mat.d.eq_1 @Mat.c.eq_1
 refine wv (h:=?_)
 refine kY (kC m.m.nodes h1) (by simp [go_sem,dLI]) (by simp [go_sem]) (GR _) rfl (by simp [go_sem]) ?_
 refine wv (h:=?_)
 refine kY (kC m.m.edges h2) (by simp [go_sem,dLI]) (by simp [go_sem]) (GR _) rfl (by simp [go_sem]) ?_
 refine wv (h:=?_)
 refine kY (kC m.vars h3) (by simp [go_sem,dLI]) (by simp [go_sem]) (GR _) rfl (by simp [go_sem]) ?_
 exact wv (h:=hQ _ _ (by simp [go_sem,Y,dLI]))
def CF (t:Types)(r:Rule)(h:Host)(m:Mat):Int :=
 if eR t r.left.graph h.graph m.m r.inj≠0 then 1
 else if (dD t r.left h m.m).2≠0 then (dD t r.left h m.m).2
 else if (dD t r.left h m.m).1≠m.vars then 11 else 0
theorem JL (t:Types)(r:Rule)(h:Host)(m:Mat):oT t r h m=if CF t r h m≠0 then CF t r h m else o8 (oL r.left.graph h.graph m.m) h.graph r.keep m.m:=by
 unfold oT CF
 by_cases h1:eR t r.left.graph h.graph m.m r.inj≠0
 ·rw [if_pos h1,if_pos h1];simp
 ·rw [if_neg h1,if_neg h1]
  by_cases h2:(dD t r.left h m.m).2≠0
  ·rw [if_pos h2,if_pos h2,if_pos h2]
  ·rw [if_neg h2,if_neg h2]
   by_cases h3:(dD t r.left h m.m).1≠m.vars
   ·rw [if_pos h3,if_pos h3];simp
   ·rw [if_neg h3,if_neg h3];simp
theorem Hn (t:Types)(ht:t.ok)(r:Rule)(h:Host)(m:Mat):Pure Tryz.prog 138 [t.d,r.d,h.d,m.d] (dI (CF t r h m)):=by
 refine Tz.pK ⟨fun _=>false,fun _=>[]⟩ Tryz.func138 rfl (fun Q hQ=>?_)
 have Y:=wa @Rule.d.eq_1 (wa @Rule.c.eq_1 (wa @Pattern.c.eq_1 (wa @Host.d.eq_1 (wa @Host.c.eq_1 (wa @Mat.d.eq_1 (wa @Mat.c.eq_1 (wa @Graph.c.eq_1 @Part.c.eq_1)))))))
 refine wv (h:=aB (tO t ht r.left.graph h.graph m.m r.inj) wl ?_)
 refine c4 (fun h1=>?_) fun h1=>?_
 ·have hM:CF t r h m=1:=by unfold CF;rw [if_pos (by simpa using h1)]
  exact wv (h:=hQ _ _ (by simp [go_sem,hM]))
 ·have hM:CF t r h m=if (dD t r.left h m.m).2≠0 then (dD t r.left h m.m).2 else if (dD t r.left h m.m).1≠m.vars then 11 else 0:=by unfold CF;rw [if_neg (by simpa using h1)]
  refine wv (h:=aB (uV t ht r.left h m.m) wl ?_)
  refine c4 (fun h4=>?_) fun h4=>?_
  ·rw [if_pos (by simpa using h4)] at hM
   exact wv (h:=hQ _ _ (by simp [go_sem,hM]))
  ·rw [if_neg (by simpa using h4)] at hM
   refine wo (h:=aB (jQ (dD t r.left h m.m).1 m.vars) wl ?_)
   refine eF (fun h6=>?_) fun h6=>?_
   ·rw [if_pos (by simpa using h6)] at hM
    exact wv (h:=hQ _ _ (by simp [go_sem,hM]))
   ·rw [if_neg (by simpa using h6)] at hM
    exact wv (h:=hQ _ _ (by simp [go_sem,hM]))
theorem Dm (t:Types)(ht:t.ok)(r:Rule)(hr:r.ok)(h:Host):Pure Tryz.prog 57 [t.d,r.d,h.d] (dI (fC t r h)):=by
 refine Tz.pK ⟨fun _=>false,fun _=>[]⟩ Tryz.func57 rfl (fun Q hQ=>?_)
 have Y:=trivial
 refine wv (h:=aB (l5 t ht) wl ?_)
 refine c4 (fun h2=>?_) fun h2=>?_
 ·have hE:ruleF t r=(b8 t).2:=by unfold ruleF;rw [if_pos (by simpa using h2)]
  have hG:fC t r h=(b8 t).2:=by unfold fC;rw [if_pos (by rw [hE];simpa using h2),hE]
  exact wv (h:=hQ _ _ (by simp [go_sem,hG]))
 ·refine wv (h:=aB (Lk t ht r hr) wl ?_)
  refine c4 (fun h5=>?_) fun h5=>?_
  ·have hG:fC t r h=ruleF t r:=by unfold fC;rw [if_pos (by simpa using h5)]
   exact wv (h:=hQ _ _ (by simp [go_sem,hG]))
  ·have hG:fC t r h=fW t h:=by unfold fC;rw [if_neg (by simpa using h5)]
   refine wv (h:=aB (y0 t ht h) wl ?_)
   exact wv (h:=hQ _ _ (by simp [go_sem,hG,fW]))
theorem Mz {H:AHeap}{d:D}(h:d.cl=true):eJ H d=d:=by cases d<;>first|rfl|simp [D.cl] at h
theorem My {H:AHeap}{d:D}(h:d.cl=true):g6 H d=d:=by
 cases d with
 | agg cs =>
  simp only [D.cl] at h
  simp only [g6]
  congr 1
  conv=>rhs;rw [← List.map_id cs]
  exact bU fun y hy=>Mz (iK h y hy)
 | _=>exact Mz (H:=H) h
theorem Mw (H:AHeap){d:D}(h:d.cl=true):oF H d=d:=by
 cases d with
 | tup vs =>
  simp only [D.cl] at h
  simp only [oF]
  congr 1
  conv=>rhs;rw [← List.map_id vs]
  exact bU fun y hy=>My (iK h y hy)
 | _=>exact My (H:=H) h
theorem TZ {P:Program}{f:FuncId}{args:List D}{r:D}(hcl:r.cl=true)(h:ACalls P f args .emp fun d H'=>gQ H' d=r):Pure P f args r:=by
 refine aN (ACalls.deep (h.mono fun d H' e=>⟨?_,hcl⟩))
 rw [e];exact Mw _ hcl
theorem Nw {H:AHeap}{qs:List Nat}{vals:List (List Int)}(hl:qs.length=vals.length)(hg:∀ (i q:Nat) (v:List Int),qs[i]?=some q→vals[i]?=some v→H.get q=some ⟨3,1,v.map cI,false⟩):(jK qs vals).map (·.map (eJ H))=vals.map cL:=by
 apply fP
 intro i
 simp only [aR]
 by_cases hi:i<vals.length
 ·have hq:i<qs.length:=by omega
  have e1:=aA hi
  have e2:=aA hq
  rw [pM e2 e1,e1]
  have:=hg i _ _ e2 e1
  simp [eJ,this,cL,dLI]
 ·rw [bP (by rw [iG hl];omega),bP (by omega)];rfl
theorem Fk (h:Host)(hn:h.graph.nodes.length≤100000)(he:h.graph.edges.length≤100000)(hv:h.values.length≤100000)(hr:∀ v∈h.values,v.length≤100000):Pure Tryz.prog 143 [h.d] h.d:=by
 refine TZ (Host.cld h) ?_
 obtain ⟨Q,hQ⟩:∃ Q:D→AHeap→Prop,∀ d H',Q d H'↔gQ H' d=h.d:=⟨_,fun _ _=>Iff.rfl⟩
 rw [show (fun d H'=>gQ H' d=h.d)=Q from funext fun d=>funext fun H'=>propext (hQ d H').symm]
 refine (aI (cfg:=⟨fun t=>t==2||t==3||t==25||t==1000001,fun r=>match r with|1=>[(0,10),(1,10),(2,10),(3,10),(4,10),(5,10),(6,10),(7,10)]|5=>[(0,2),(1,2),(0,4),(1,4),(0,5),(1,5)]|_=>[]⟩) Tz.mixed Tryz.func143 rfl rfl (aF rfl) (by kernel_rfl) ?_)
 have Y:=wa @Host.d.eq_1 @Host.c.eq_1
 refine wv (h:=?_)
 refine kY (kC h.graph.nodes (by omega)) (by simp [go_sem,dLI]) (by simp [go_sem]) (GR _) rfl (by simp [go_sem]) ?_
 refine wv (h:=?_)
 refine kY (ER h.graph.edges (by omega)) (by simp [go_sem]) (by simp [go_sem]) (Q4 _) rfl (by simp [go_sem]) ?_
 refine wp (h:=wB (Ghosts.step (Ghosts.refl _) 11 0 2 26 1 _ _ ((by simp [go_sem];rfl)) rfl rfl rfl) (fun i e H=>∃ qs:List Nat,(e 1=.adr h.c∧e 2=.ptr 0 1 0 0∧e 3=.ptr 11 1 0 0∧e 17=.list (h.values.map cL)∧e 18=dI h.values.length∧e 19=dI i)∧(H.get 0=some ⟨44,3,[[.nil,.nil,.nil]],false⟩)∧(0<H.next)∧(H.get 11=some ⟨44,3,[[dLI h.graph.nodes,.list (h.graph.edges.map Edge.c),.own 13 i]],false⟩)∧(11<H.next)∧(H.get 13=some ⟨26,1,jK qs (h.values.take i),false⟩)∧(13<H.next)∧(i≤h.values.length)∧(qs.length=(h.values.take i).length)∧(∀ q∈qs,13<q∧q<H.next)∧(13<H.next)∧(∀ (k q:Nat) (v:List Int),qs[k]?=some q→(h.values.take i)[k]?=some v→H.get q=some ⟨3,1,v.map cI,false⟩)) (fun i=>h.values.length - i) 0 ⟨([]),wg,wn,wn,wn,wn,(by (simp [go_sem,Y,jK])),wn,wi,(by rfl),(by (intro q hq;cases hq)),(by (simp [go_sem])),(by (intro k q v hk;simp at hk))⟩ fun I0 hI0 i e H hi0=>?_)
 obtain ⟨qs,E0,g0_0,n0_0,g11_0,n11_0,g13_0,n13_0,hi,hql,hqr,hnx,hgq⟩:=hi0
 have Y:=wa Y (wa E0 (wa g0_0 (wa (bZ n0_0) (wa g11_0 (wa (bZ n11_0) (wa g13_0 (bZ n13_0)))))))
 refine c4 (fun h3=>?_) fun h3=>?_
 ·have hr8:=hr _ (aC h3)
  have hrl:(jK qs (h.values.take i)).length=i:=by rw [iG hql];simp;omega
  have hgq2:∀ H2:AHeap,H2.get (H.next+2)=some ⟨3,1,h.values[i].map cI,false⟩→(∀ q∈qs,H2.get q=H.get q)→∀ (k q:Nat) (v:List Int),(qs++[H.next+2])[k]?=some q→(h.values.take (i+1))[k]?=some v→H2.get q=some ⟨3,1,v.map cI,false⟩:=fun H2 g1 g2 k q v e1 e2=>by
   rw [aE h3] at e2
   have hqi:qs.length=i:=by rw [hql];simp;omega
   have hti:(h.values.take i).length=i:=by simp;omega
   by_cases hk:k<i
   ·rw [aS (by omega)] at e1
    rw [aS (by omega)] at e2
    rw [g2 q (aJ e1)];exact hgq k q v e1 e2
   ·have h1':=(aL.1 e1).1
    have:k=i:=by simp at h1';omega
    subst this
    rw [aZ (by omega),hqi,u7] at e1
    rw [aZ (by omega),hti,u7] at e2
    simp at e1 e2
    subst e1 e2;exact g1
  have Y:=wa Y (wa h3 (wa (aA h3) (wa @cL.eq_1 hrl)))
  exact wp (h:=wx hI0 (i+1) ⟨(qs++[H.next+2]),wg,wn,wn,wn,wn,(by (rw [aE h3,tS hql];simp [go_sem,Y,cL])),wn,wj,(by (simp [hql];omega)),(by (intro q hq;rw [aY,bL] at hq;rcases hq with hq|rfl;(have:=hqr q hq;simp [go_sem];omega);(simp [go_sem];omega))),(by (simp [go_sem];omega)),(by (exact hgq2 _ (by simp [go_sem,Y,cL]) (fun q hq=>by have:=hqr q hq;simp [go_sem,bZ this.2,show q≠13 by omega,show q≠11 by omega])))⟩)
 ·rw [aH (by omega)] at hql hgq
  have hie:i=h.values.length:=by omega
  refine wv (h:=?_)
  refine (hQ _ _).2 ?_
  obtain ⟨E,hEq⟩:∃ E,E=H.put 0 ⟨44,3,[[D.list (List.map cI h.graph.nodes),D.list (List.map Edge.c h.graph.edges),D.own 13 i]],false⟩:=⟨_,rfl⟩
  rw [← hEq]
  have hE13:E.get 13=some ⟨26,1,jK qs (h.values.take i),false⟩:=by rw [hEq];simp [go_sem,g13_0]
  rw [aH (show h.values.length≤i by omega)] at hE13
  have hR:=Nw (H:=E) hql (fun k q v e1 e2=>by
   have:=hqr q (aJ e1)
   rw [hEq];simp [go_sem,show q≠0 by omega];exact hgq k q v e1 e2)
  have hrl:=iG hql
  simp only [gQ,iV,nC,eJ,f6,iE,hE13,hrl,hR,hie,if_true]
  rfl
theorem Dl (t:Types)(ht:t.ok)(k:Int):Own Tryz.prog 243 [t.d,dI k] 3 1 ((lY t k).map cI):=by
 have hal:=nX ht k
 refine Tz.oK ⟨fun t=>t==9||t==16,fun _=>[]⟩ Tryz.func243 rfl (fun Q hQ=>?_)
 have Y:=trivial
 refine wv (h:=aB (oE t ht k) wl ?_)
 refine wo (h:=bA (fun i e H=>∃ xs:List Int,(e 2=.adr t.c∧e 17=.list ((bI t k).map Attr.c)∧e 18=dI (bI t k).length∧e 19=dI i∧e 7=.own 0 xs.length)∧(H.get 0=some ⟨3,1,xs.map cI,false⟩)∧(0<H.next)∧(i≤(bI t k).length)∧(xs=((bI t k).take i).map (fun a=>a.low))) (fun i=>(bI t k).length - i) 0 ⟨([]),wg,wn,wn,wi,(by rfl)⟩ fun I0 hI0 i e H hi0=>?_)
 obtain ⟨xs,E0,g0_0,n0_0,hi,hx⟩:=hi0
 have Y:=wa Y (wa E0 (wa g0_0 (bZ n0_0)))
 refine c4 (fun h4=>?_) fun h4=>?_
 ·have hxl:xs.length=i:=by rw [hx];simp;omega
  have Y:=wa Y (wa h4 (wa (aA h4) @Attr.c.eq_1))
  exact wo (h:=wx hI0 (i+1) ⟨(xs++[(bI t k)[i].low]),wg,wn,wn,wj,(by (rw [jF _ h4,← hx]))⟩)
 ·have hX:xs=lY t k:=by rw [hx,j6 _ (by omega)];rfl
  refine wv (h:=?_)
  exact hQ _ _ _ (by simp [go_sem,Y,hX,dLI]) (by simp [go_sem,Y,hX,dLI])
theorem HH.nodeRow {H H':AHeap}{lo a b V:Nat}{qs:List Nat}{x:Host}(h:HH H lo a b V qs x)(hn:H.next≤H'.next){q:Nat}{nd:Int}{v:List Int}(hlo:lo≤q)(hq:∀ j∈a :: b :: V :: qs,j≠q)(hq2:q<H'.next)
  (ga:H'.get a=some ⟨3,1,(x.graph.nodes++[nd]).map cI,false⟩) (gq:H'.get q=some ⟨3,1,v.map cI,false⟩) (gV:H'.get V=some ⟨26,1,jK qs x.values++[[.own q v.length]],false⟩) (hf:∀ j∈b :: qs,H'.get j=H.get j) :
  HH H' lo a b V (qs++[q]) ⟨⟨x.graph.nodes++[nd],x.graph.edges⟩,x.values++[v]⟩ where
 ga:=ga
 gb:=(hf b (by simp)).trans h.gb
 gV:=by rw [tS h.len];exact gV
 len:=by simp [h.len]
 gq i q' v' h1 h2:=by
  by_cases hi:i<qs.length
  ·rw [aS hi] at h1
   rw [aS (by rw [← h.len];exact hi)] at h2
   exact (hf q' (by simp [aJ h1])).trans (h.gq i q' v' h1 h2)
  ·have h1':=(aL.1 h1).1
   have:i=qs.length:=by simp at h1';omega
   subst this
   simp at h1
   rw [h.len] at h2;simp at h2
   subst h1 h2;exact gq
 nd:=by
  have:=h.nd
  have e:a :: b :: V :: (qs++[q])=(a :: b :: V :: qs)++[q]:=rfl
  rw [e,oS]
  exact ⟨this,by simp,fun y hy z hz=>by rw [bL] at hz;subst hz;exact hq y hy⟩
 rng j hj:=by
  have e:a :: b :: V :: (qs++[q])=(a :: b :: V :: qs)++[q]:=rfl
  rw [e,aY,bL] at hj
  rcases hj with hj|rfl
  ·exact ⟨(h.rng j hj).1,bQ (h.rng j hj).2 hn⟩
  ·exact ⟨hlo,hq2⟩
def eI (r:Rule)(m:Mat)(h:Host)(A B C:D)(tr co:Part):List D:=[.str r.name,dLI r.left.graph.nodes,.list (r.left.graph.edges.map Edge.c),.list (r.left.slots.map Slot.c),dI r.left.vars,.list (r.left.tests.map Test.c),
 dLI r.right.graph.nodes,.list (r.right.graph.edges.map Edge.c),.list (r.right.slots.map Slot.c),dI r.right.vars,.list (r.right.tests.map Test.c),
 dLI r.keep.nodes,dLI r.keep.edges,dLI r.into.nodes,dLI r.into.edges,.bool r.inj,
 dI r.cond.kind,.list (r.cond.kids.map Cond.c),dLI r.cond.map.nodes,dLI r.cond.map.edges,dLI r.cond.pattern.graph.nodes,.list (r.cond.pattern.graph.edges.map Edge.c),.list (r.cond.pattern.slots.map Slot.c),dI r.cond.pattern.vars,.list (r.cond.pattern.tests.map Test.c),
 dLI m.m.nodes,dLI m.m.edges,dLI m.vars,dLI h.graph.nodes,.list (h.graph.edges.map Edge.c),.list (h.values.map cL),A,B,C,dLI tr.nodes,dLI tr.edges,dLI co.nodes,dLI co.edges]
def Tp (h:Host)(tr:Part)(k:Int):Edge:=⟨(eA h.graph k).type,iA tr.nodes (eA h.graph k).from_,iA tr.nodes (eA h.graph k).to_⟩
def Td (h:Host)(d:Part)(i:Nat):Host:=⟨⟨(d.nodes.take i).map (gN h.graph),[]⟩,(d.nodes.take i).map fun k=>h.values[k.toNat]?.getD []⟩
def bdE (h:Host)(d tr:Part)(i:Nat):Host:=⟨⟨d.nodes.map (gN h.graph),(d.edges.take i).map (Tp h tr)⟩,d.nodes.map fun k=>h.values[k.toNat]?.getD []⟩
theorem PB (h:Host)(d tr:Part){i:Nat}(hi:d.nodes.length≤i):bdE h d tr 0=Td h d i:=by unfold bdE Td;rw [aH hi];rfl
theorem K9 (t:Types)(ht:t.ok)(r:Rule)(hR:RuleV t r)(m:Mat)(h:Host)(ho:HostOk t h)(d tr co:Part)(hdn:∀ x∈d.nodes,0≤x∧x<h.graph.nodes.length)(hde:∀ x∈d.edges,0≤x∧x<h.graph.edges.length)
  (hdl:d.nodes.length≤40∧d.edges.length≤80) (htl:tr.nodes.length=h.graph.nodes.length) (hcl:co.nodes.length=r.right.graph.nodes.length∧co.edges.length=r.right.graph.edges.length)
  (hcn:∀ i,i<r.right.graph.nodes.length→(co.nodes[i]?.getD 0=((d.nodes.length+(b5 r.into.nodes i).length:Nat):Int)↔mem r.into.nodes i=false))
  (hce:∀ i,i<r.right.graph.edges.length→(co.edges[i]?.getD 0=((d.edges.length+(b5 r.into.edges i).length:Nat):Int)↔mem r.into.edges i=false))
  (s a b V:Nat) (G:AHeap) (hs:G.get s=some ⟨53,38,[eI r m h (.own a 0) (.own b 0) (.own V 0) tr co],false⟩) (hh0:HH G 0 a b V [] ⟨⟨[],[]⟩,[]⟩) (hsn:s<G.next) (hsd:s≠a∧s≠b∧s≠V) (hal0:∀ j,G.next≤j→¬ G.al j) (Q:D→AHeap→Prop)
  (hQ:∀ qs H',HH H' 0 a b V qs (iO t r co (bdE h d tr d.edges.length))→H'.get s=some ⟨53,38,[eI r m h (.own a (iO t r co (bdE h d tr d.edges.length)).graph.nodes.length) (.own b (iO t r co (bdE h d tr d.edges.length)).graph.edges.length) (.own V (iO t r co (bdE h d tr d.edges.length)).values.length) tr co],false⟩ →
   (∀ j∈a :: b :: V :: qs,j≠s)→(∀ j∈qs,G.next≤j)→(∀ j,j<G.next→j∉[s,a,b,V]→H'.get j=G.get j)→G.next≤H'.next→Q (.tup []) H') :
  ACalls Tryz.prog 146 [t.d,.ptr s 1 0 0,d.d] G Q:=by
 have hga:=bK hR.gr
 have hgi:=dP hR.gr
 have hhg:=bK ho.gg
 have hhi:=dP ho.gg
 have hvl:=ho.vl
 have ha0:=hh0.rng a hh0.a_in
 have hb0:=hh0.rng b hh0.b_in
 have hV0:=hh0.rng V hh0.V_in
 have hab:=hh0.ab
 obtain ⟨hs1,hs2,hs3⟩:=hsd
 refine (aI (cfg:=⟨fun t=>t==6||t==7||t==12||t==16||t==59||t==166||t==1000001,fun r=>match r with|1=>[(1,10),(2,10),(3,10),(5,10),(6,10),(7,10),(8,10),(9,10),(1,11),(2,11),(3,11),(5,11),(6,11),(7,11),(8,11),(9,11),(10,11),(5,12),(6,12),(7,12),(8,12),(9,12)]|5=>[(2,13),(3,13),(4,13),(5,13),(6,13)]|6=>[(2,6),(3,6),(4,6),(5,6),(6,7),(6,8),(6,10),(6,11),(2,12),(3,12),(4,12),(5,12),(2,13),(3,13),(4,13),(5,13)]|12=>[(2,28),(3,28),(4,28),(5,28),(6,28)]|19=>[(2,8),(3,8),(4,8),(5,8),(2,9),(3,9),(4,9),(5,9)]|25=>[(2,28),(3,28),(4,28),(5,28),(6,28)]|_=>[]⟩) Tz.mixed Tryz.func146 rfl rfl (aF rfl) (by kernel_rfl) ?_)
 have di1:=And.intro (cW (show V≠b by omega)) (And.intro (cW (show V≠a by omega)) (And.intro (cW (show V≠s by omega)) (And.intro (cW (show b≠a by omega)) (And.intro (cW (show b≠s by omega)) (cW (show a≠s by omega))))))
 have fr2:=And.intro (bZ (show s<G.next by omega)) (And.intro (bZ (show a<G.next by omega)) (And.intro (bZ (show b<G.next by omega)) (bZ (show V<G.next by omega))))
 try simp [go_sem,seval,hs,eI,Part.d,Part.c,Host.c,Graph.c,di1,fr2]
 repeat first|intro _|refine ⟨eZ,?_⟩
 obtain ⟨I0,hI0⟩:∃ I0:Nat→dA→AHeap→Prop,∀ (i:Nat) (e:dA) (H:AHeap),I0 i e H↔(∃ X:Nat,∃ Y:Nat,∃ x:Host,∃ qs:List Nat,(e 1=.ptr s 1 0 0)∧(e 3=.adr t.c)∧(e 5=.adr d.c)∧(e 6=.ptr X 1 0 0)∧(e 7=.ptr Y 1 0 0)∧(e 28=dLI d.nodes)∧(e 29=dI d.nodes.length)∧(e 30=dI i)∧(H.get X=some ⟨44,3,[h.c],false⟩)∧(X<H.next)∧(H.get Y=some ⟨29,2,[r.right.graph.c],false⟩)∧(Y<H.next)∧(H.get s=some ⟨53,38,[eI r m h (.own a x.graph.nodes.length) (.own b x.graph.edges.length) (.own V x.values.length) tr co],false⟩)∧(s<H.next)∧(i≤d.nodes.length)∧(HH H 0 a b V qs x)∧(x=Td h d i)∧(∀ j∈a :: b :: V :: qs,j≠s)∧(∀ j∈qs,G.next≤j)∧(∀ j,H.next≤j→¬ H.al j)∧(∀ j,j<G.next→j∉[s,a,b,V]→H.get j=G.get j)∧(G.next≤H.next)∧(G.next≤X∧X<Y)):=⟨fun i e H=>_,fun _ _ _=>Iff.rfl⟩
 refine uN I0 (fun i=>d.nodes.length - i) (0) ((hI0 _ _ _).2 ⟨(G.next+10),(G.next+11),(⟨⟨[],[]⟩,[]⟩),([]),?_,?_,?_,?_,?_,?_,?_,?_,?_,?_,?_,?_,?_,?_,(by first|assumption|omega|(simp [go_sem,hs,eI,Part.d,Part.c,Host.c,Graph.c,di1,fr2];done)|(simp_all;done)),(by (exact hh0.same (by first|(simp [go_sem];done)|(simp [go_sem];omega)) (fun j hj=>by have:=(hh0.rng j hj).2;simp [go_sem,bZ this]))),(by rfl),(by (intro j hj;simp at hj;omega)),(by (intro j hj;cases hj)),(by (intro j hj;simp [go_sem,mY,qM,Hc] at hj ⊢;exact ⟨by omega,by omega,hal0 j (by omega)⟩)),(by (intro j hj hn;simp [go_sem,bZ hj])),(by (first|(simp [go_sem];done)|(simp [go_sem];omega))),(by omega)⟩) ?_
 iterate 14 (first|omega|(simp [go_sem,seval,hs,eI,Part.d,Part.c,Host.c,Graph.c,di1,fr2]<;>omega))
 intro i e H hi0
 obtain ⟨X,Y,x,qs,q1_0,q3_0,q5_0,q6_0,q7_0,q28_0,q29_0,q30_0,gX_0,nX_0,gY_0,nY_0,gs_0,ns_0,hi,hh,hx,hsq,hq0,hal,hG,hnx,hXY⟩:=(hI0 _ _ _).1 hi0
 have xX:=bZ nX_0
 have xY:=bZ nY_0
 have xs:=bZ ns_0
 have F0:=And.intro q1_0 (And.intro q3_0 (And.intro q5_0 (And.intro q6_0 (And.intro q7_0 (And.intro q28_0 (And.intro q29_0 (And.intro q30_0 (And.intro gX_0 (And.intro gY_0 (And.intro gs_0 (And.intro xX (And.intro xY xs))))))))))))
 have di3:=And.intro (cW (show Y≠X by omega)) (And.intro (cW (show Y≠V by omega)) (And.intro (cW (show Y≠b by omega)) (And.intro (cW (show Y≠a by omega)) (And.intro (cW (show Y≠s by omega)) (And.intro (cW (show X≠V by omega)) (And.intro (cW (show X≠b by omega)) (And.intro (cW (show X≠a by omega)) (And.intro (cW (show X≠s by omega)) (And.intro (cW (show V≠b by omega)) (And.intro (cW (show V≠a by omega)) (And.intro (cW (show V≠s by omega)) (And.intro (cW (show b≠a by omega)) (And.intro (cW (show b≠s by omega)) (cW (show a≠s by omega)))))))))))))))
 try simp [go_sem,seval,hs,eI,Part.d,Part.c,Host.c,Graph.c,di1,fr2,F0,di3]
 refine aP (fun h3=>?_) (fun h3=>?_)
 ·try simp [go_sem] at h3
  obtain ⟨k,hk⟩:∃ y,y=d.nodes[i]:=⟨_,rfl⟩
  have hkb:=hdn _ (aC h3)
  rw [← hk] at hkb
  have hkn:k.toNat<h.graph.nodes.length:=by omega
  have hkv:k.toNat<h.values.length:=by omega
  obtain ⟨x2,hx2⟩:∃ y:Host,y=⟨⟨x.graph.nodes++[h.graph.nodes[k.toNat]],x.graph.edges⟩,x.values++[h.values[k.toNat]]⟩:=⟨_,rfl⟩
  have hx3:x2=Td h d (i+1):=by rw [hx2,hx];unfold Td;rw [aE h3,← hk];simp [gN,aA hkn,aA hkv]
  have hrow:(h.values[k.toNat]).length≤1000:=by
   have:=(ho.row _ (aC hkv)).1
   omega
  have hxl:x.graph.nodes.length=i∧x.graph.edges.length=0∧x.values.length=i:=by rw [hx];simp [Td];omega
  have hx2l:x2.graph.nodes.length=x.graph.nodes.length+1∧x2.graph.edges.length=x.graph.edges.length∧x2.values.length=x.values.length+1:=by rw [hx2];simp
  have hga1:=hh.ga
  have hgV1:=hh.gV
  have hrl:=iG hh.len
  have hqa:=hh.rng a hh.a_in
  have hqV:=hh.rng V hh.V_in
  have hqb:=hh.rng b hh.b_in
  have hWq:∀ j∈a :: b :: V :: qs,j≠H.next+20+6:=fun j hj=>by have:=(hh.rng j hj).2;omega
  have hfrm:∀ j∈b :: qs,j≠a∧j≠s∧j≠V∧j<H.next:=fun j hj=>by
   rcases aT.1 hj with rfl|hj
   ·exact ⟨by omega,by omega,by omega,hqb.2⟩
   ·exact ⟨(hh.qn hj).1,hsq j (hh.q_in hj),(hh.qn hj).2.2,(hh.rng j (hh.q_in hj)).2⟩
  have hsq2:∀ j∈a :: b :: V :: (qs++[H.next+20+6]),j≠s:=fun j hj=>by
   have e:a :: b :: V :: (qs++[H.next+20+6])=(a :: b :: V :: qs)++[H.next+20+6]:=rfl
   rw [e,aY,bL] at hj
   rcases hj with hj|rfl
   ·exact hsq j hj
   ·omega
  have hq02:∀ j∈qs++[H.next+20+6],G.next≤j:=fun j hj=>by
   rw [aY,bL] at hj
   rcases hj with hj|rfl
   ·exact hq0 j hj
   ·omega
  have fr4:=And.intro (bZ (show s<H.next by omega)) (And.intro (bZ (show a<H.next by omega)) (And.intro (bZ (show b<H.next by omega)) (bZ (show V<H.next by omega))))
  try simp [go_sem,seval,hs,eI,Part.d,Part.c,Host.c,Graph.c,di1,fr2,F0,di3,h3,aA h3,← hk,aA hkn,aA hkv,hga1,hgV1,hrl,hx2l,cL,fr4]
  repeat first|intro _|refine ⟨eZ,?_⟩
  refine fR (i+1) (by omega) ((hI0 _ _ _).2 ⟨(X),(Y),(x2),(qs++[H.next+20+6]),?_,?_,?_,?_,?_,?_,?_,?_,?_,?_,?_,?_,?_,?_,(by first|assumption|omega|(simp [go_sem,hs,eI,Part.d,Part.c,Host.c,Graph.c,di1,fr2,F0,di3,h3,aA h3,← hk,aA hkn,aA hkv,hga1,hgV1,hrl,hx2l,cL,fr4];done)|(simp_all<;>omega)),(by (rw [hx2];exact hh.nodeRow (by first|(simp [go_sem];done)|(simp [go_sem];omega)) (dF _) hWq (by first|(simp [go_sem];done)|(simp [go_sem];omega)) (by simp [go_sem,hs,eI,Part.d,Part.c,Host.c,Graph.c,di1,fr2,F0,di3,h3,aA h3,← hk,aA hkn,aA hkv,hga1,hgV1,hrl,hx2l,cL,fr4,cI]) (by simp [go_sem,hs,eI,Part.d,Part.c,Host.c,Graph.c,di1,fr2,F0,di3,h3,aA h3,← hk,aA hkn,aA hkv,hga1,hgV1,hrl,hx2l,cL,fr4]) (by simp [go_sem,hs,eI,Part.d,Part.c,Host.c,Graph.c,di1,fr2,F0,di3,h3,aA h3,← hk,aA hkn,aA hkv,hga1,hgV1,hrl,hx2l,cL,fr4]) (fun j hj=>by obtain ⟨k1,k2,k3,k4⟩:=hfrm j hj;simp [go_sem,k1,k2,k3,bZ k4]))),(by exact hx3),(by exact hsq2),(by exact hq02),(by (intro j hj;simp [go_sem,mY,qM] at hj ⊢;exact ⟨by omega,hal j (by omega)⟩)),(by (intro j hj hn;simp only [aT,eY,or_false,not_or] at hn;simp [go_sem,hn,bZ (show j<H.next by omega)];exact hG j hj (by simp [hn]))),(by (first|(simp [go_sem];done)|(simp [go_sem];omega))),(by exact hXY)⟩)<;>first|omega|(simp [go_sem,seval,hs,eI,Part.d,Part.c,Host.c,Graph.c,di1,fr2,F0,di3,h3,aA h3,← hk,aA hkn,aA hkv,hga1,hgV1,hrl,hx2l,cL,fr4]<;>omega)
 ·try simp [go_sem] at h3
  have hx4:x=bdE h d tr 0:=by rw [hx,PB _ _ _ (by omega)]
  have fr5:=And.intro (bZ (show s<H.next by omega)) (And.intro (bZ (show a<H.next by omega)) (And.intro (bZ (show b<H.next by omega)) (bZ (show V<H.next by omega))))
  try simp [go_sem,seval,hs,eI,Part.d,Part.c,Host.c,Graph.c,di1,fr2,F0,di3,fr5]
  repeat first|intro _|refine ⟨eZ,?_⟩
  obtain ⟨I2,hI2⟩:∃ I2:Nat→dA→AHeap→Prop,∀ (i:Nat) (e:dA) (H:AHeap),I2 i e H↔(∃ x:Host,(e 1=.ptr s 1 0 0)∧(e 3=.adr t.c)∧(e 5=.adr d.c)∧(e 6=.ptr X 1 0 0)∧(e 7=.ptr Y 1 0 0)∧(e 73=dLI d.edges)∧(e 74=dI d.edges.length)∧(e 75=dI i)∧(H.get X=some ⟨44,3,[h.c],false⟩)∧(X<H.next)∧(H.get Y=some ⟨29,2,[r.right.graph.c],false⟩)∧(Y<H.next)∧(H.get s=some ⟨53,38,[eI r m h (.own a x.graph.nodes.length) (.own b x.graph.edges.length) (.own V x.values.length) tr co],false⟩)∧(s<H.next)∧(i≤d.edges.length)∧(HH H 0 a b V qs x)∧(x=bdE h d tr i)∧(∀ j,H.next≤j→¬ H.al j)∧(∀ j,j<G.next→j∉[s,a,b,V]→H.get j=G.get j)∧(G.next≤H.next)):=⟨fun i e H=>_,fun _ _ _=>Iff.rfl⟩
  refine uN I2 (fun i=>d.edges.length - i) (0) ((hI2 _ _ _).2 ⟨(x),?_,?_,?_,?_,?_,?_,?_,?_,?_,?_,?_,?_,?_,?_,(by first|assumption|omega|(simp [go_sem,hs,eI,Part.d,Part.c,Host.c,Graph.c,di1,fr2,F0,di3,fr5];done)|(simp_all;done)),(by (exact hh)),(by (exact hx4)),(by (exact hal)),(by (exact hG)),(by (exact hnx))⟩) ?_
  iterate 14 (first|omega|(simp [go_sem,seval,hs,eI,Part.d,Part.c,Host.c,Graph.c,di1,fr2,F0,di3,fr5]<;>omega))
  intro i e H hi2
  obtain ⟨x,q1_2,q3_2,q5_2,q6_2,q7_2,q73_2,q74_2,q75_2,gX_2,nX_2,gY_2,nY_2,gs_2,ns_2,hi,hh,hx,hal,hG,hnx⟩:=(hI2 _ _ _).1 hi2
  have xX:=bZ nX_2
  have xY:=bZ nY_2
  have xs:=bZ ns_2
  have F2:=And.intro q1_2 (And.intro q3_2 (And.intro q5_2 (And.intro q6_2 (And.intro q7_2 (And.intro q73_2 (And.intro q74_2 (And.intro q75_2 (And.intro gX_2 (And.intro gY_2 (And.intro gs_2 (And.intro xX (And.intro xY xs))))))))))))
  have di6:=And.intro (cW (show Y≠X by omega)) (And.intro (cW (show Y≠V by omega)) (And.intro (cW (show Y≠b by omega)) (And.intro (cW (show Y≠a by omega)) (And.intro (cW (show Y≠s by omega)) (And.intro (cW (show X≠V by omega)) (And.intro (cW (show X≠b by omega)) (And.intro (cW (show X≠a by omega)) (And.intro (cW (show X≠s by omega)) (And.intro (cW (show V≠b by omega)) (And.intro (cW (show V≠a by omega)) (And.intro (cW (show V≠s by omega)) (And.intro (cW (show b≠a by omega)) (And.intro (cW (show b≠s by omega)) (cW (show a≠s by omega)))))))))))))))
  try simp [go_sem,seval,hs,eI,Part.d,Part.c,Host.c,Graph.c,di1,fr2,di3,fr5,F2,di6]
  refine aP (fun h9=>?_) (fun h9=>?_)
  ·try simp [go_sem] at h9
   obtain ⟨k,hk⟩:∃ y,y=d.edges[i]:=⟨_,rfl⟩
   have hkb:=hde _ (aC h9)
   rw [← hk] at hkb
   have hkn:k.toNat<h.graph.edges.length:=by omega
   obtain ⟨y,hy⟩:∃ y,y=h.graph.edges[k.toNat]:=⟨_,rfl⟩
   have hyi:=(hhi.2 _ (aC hkn)).2
   rw [← hy] at hyi
   have hyf:y.from_.toNat<tr.nodes.length:=by omega
   have hyt:y.to_.toNat<tr.nodes.length:=by omega
   have hyA:eA h.graph k=y:=by rw [hy];simp [eA,aA hkn]
   have htE:Tp h tr k=⟨y.type,tr.nodes[y.from_.toNat],tr.nodes[y.to_.toNat]⟩:=by unfold Tp;rw [hyA];simp [iA,aA hyf,aA hyt]
   obtain ⟨x2,hx2⟩:∃ z:Host,z=⟨⟨x.graph.nodes,x.graph.edges++[Tp h tr k]⟩,x.values⟩:=⟨_,rfl⟩
   have hx3:x2=bdE h d tr (i+1):=by rw [hx2,hx];unfold bdE;rw [aE h9,← hk];simp
   have hxl:x.graph.edges.length=i:=by rw [hx];simp [bdE];omega
   have hx2l:x2.graph.nodes.length=x.graph.nodes.length∧x2.graph.edges.length=x.graph.edges.length+1∧x2.values.length=x.values.length:=by rw [hx2];simp
   have hgb1:=hh.gb
   have hqa:=hh.rng a hh.a_in
   have hqV:=hh.rng V hh.V_in
   have hqb:=hh.rng b hh.b_in
   have hfrm:∀ j∈a :: V :: qs,j≠b∧j≠s∧j<H.next:=fun j hj=>by
    have hj':j∈a :: b :: V :: qs:=by simp only [aT] at hj ⊢;rcases hj with h|h|h<;>simp [h]
    refine ⟨?_,hsq j hj',(hh.rng j hj').2⟩
    rintro rfl
    have:=hh.nd;simp only [fY,aT,not_or] at this
    simp only [aT] at hj
    rcases hj with h|h|h
    ·exact this.1.1 h.symm
    ·exact this.2.1.1 h
    ·exact this.2.1.2 h
   have fr7:=And.intro (bZ (show s<H.next by omega)) (And.intro (bZ (show a<H.next by omega)) (And.intro (bZ (show b<H.next by omega)) (bZ (show V<H.next by omega))))
   try simp [go_sem,seval,hs,eI,Part.d,Part.c,Host.c,Graph.c,di1,fr2,di3,fr5,F2,di6,h9,aA h9,← hk,aA hkn,← hy,aA hyf,aA hyt,hgb1,hx2l,Edge.c,fr7]
   repeat first|intro _|refine ⟨eZ,?_⟩
   refine fR (i+1) (by omega) ((hI2 _ _ _).2 ⟨(x2),?_,?_,?_,?_,?_,?_,?_,?_,?_,?_,?_,?_,?_,?_,(by first|assumption|omega|(simp [go_sem,hs,eI,Part.d,Part.c,Host.c,Graph.c,di1,fr2,di3,fr5,F2,di6,h9,aA h9,← hk,aA hkn,← hy,aA hyf,aA hyt,hgb1,hx2l,Edge.c,fr7,h3];done)|(simp_all<;>omega)),(by (rw [hx2];exact hh.edges (by first|(simp [go_sem];done)|(simp [go_sem];omega)) (by simp [go_sem,hs,eI,Part.d,Part.c,Host.c,Graph.c,di1,fr2,di3,fr5,F2,di6,h9,aA h9,← hk,aA hkn,← hy,aA hyf,aA hyt,hgb1,hx2l,Edge.c,fr7,htE,Edge.c]) (fun j hj=>by obtain ⟨k1,k2,k3⟩:=hfrm j hj;simp [go_sem,k1,k2,bZ k3]))),(by exact hx3),(by (intro j hj;simp [go_sem,mY,qM] at hj ⊢;first|exact ⟨by omega,hal j (by omega)⟩|exact hal j (by omega)|exact ⟨by omega,by omega,hal j (by omega)⟩)),(by (intro j hj hn;simp only [aT,eY,or_false,not_or] at hn;simp [go_sem,hn,bZ (show j<H.next by omega)];exact hG j hj (by simp [hn]))),(by (first|(simp [go_sem];done)|(simp [go_sem];omega)))⟩)<;>first|omega|(simp [go_sem,seval,hs,eI,Part.d,Part.c,Host.c,Graph.c,di1,fr2,di3,fr5,F2,di6,h9,aA h9,← hk,aA hkn,← hy,aA hyf,aA hyt,hgb1,hx2l,Edge.c,fr7]<;>omega)
  ·try simp [go_sem] at h9
   have hx5:x=C6 t r (bdE h d tr d.edges.length) 0:=by rw [hx,show i=d.edges.length by omega];simp [C6,b5]
   have fr8:=And.intro (bZ (show s<H.next by omega)) (And.intro (bZ (show a<H.next by omega)) (And.intro (bZ (show b<H.next by omega)) (bZ (show V<H.next by omega))))
   try simp [go_sem,seval,hs,eI,Part.d,Part.c,Host.c,Graph.c,di1,fr2,di3,fr5,F2,di6,fr8]
   repeat first|intro _|refine ⟨eZ,?_⟩
   obtain ⟨I4,hI4⟩:∃ I4:Nat→dA→AHeap→Prop,∀ (i:Nat) (e:dA) (H:AHeap),I4 i e H↔(∃ x:Host,∃ qs:List Nat,(e 1=.ptr s 1 0 0)∧(e 3=.adr t.c)∧(e 5=.adr d.c)∧(e 7=.ptr Y 1 0 0)∧(e 121=dLI r.right.graph.nodes)∧(e 122=dI r.right.graph.nodes.length)∧(e 123=dI i)∧(H.get Y=some ⟨29,2,[r.right.graph.c],false⟩)∧(Y<H.next)∧(H.get s=some ⟨53,38,[eI r m h (.own a x.graph.nodes.length) (.own b x.graph.edges.length) (.own V x.values.length) tr co],false⟩)∧(s<H.next)∧(i≤r.right.graph.nodes.length)∧(HH H 0 a b V qs x)∧(x=C6 t r (bdE h d tr d.edges.length) i)∧(∀ j∈a :: b :: V :: qs,j≠s)∧(∀ j∈qs,G.next≤j)∧(∀ j,H.next≤j→¬ H.al j)∧(∀ j,j<G.next→j∉[s,a,b,V]→H.get j=G.get j)∧(G.next≤H.next)):=⟨fun i e H=>_,fun _ _ _=>Iff.rfl⟩
   refine uN I4 (fun i=>r.right.graph.nodes.length - i) (0) ((hI4 _ _ _).2 ⟨(x),(qs),?_,?_,?_,?_,?_,?_,?_,?_,?_,?_,?_,(by first|assumption|omega|(simp [go_sem,hs,eI,Part.d,Part.c,Host.c,Graph.c,di1,fr2,di3,fr5,F2,di6,fr8];done)|(simp_all;done)),(by (exact hh)),(by (exact hx5)),(by (exact hsq)),(by (exact hq0)),(by (exact hal)),(by (exact hG)),(by (exact hnx))⟩) ?_
   iterate 11 (first|omega|(simp [go_sem,seval,hs,eI,Part.d,Part.c,Host.c,Graph.c,di1,fr2,di3,fr5,F2,di6,fr8]<;>omega))
   intro i e H hi4
   obtain ⟨x,qs,q1_4,q3_4,q5_4,q7_4,q121_4,q122_4,q123_4,gY_4,nY_4,gs_4,ns_4,hi,hh,hx,hsq,hq0,hal,hG,hnx⟩:=(hI4 _ _ _).1 hi4
   have xY:=bZ nY_4
   have xs:=bZ ns_4
   have F4:=And.intro q1_4 (And.intro q3_4 (And.intro q5_4 (And.intro q7_4 (And.intro q121_4 (And.intro q122_4 (And.intro q123_4 (And.intro gY_4 (And.intro gs_4 (And.intro xY xs)))))))))
   have di9:=And.intro (cW (show Y≠V by omega)) (And.intro (cW (show Y≠b by omega)) (And.intro (cW (show Y≠a by omega)) (And.intro (cW (show Y≠s by omega)) (And.intro (cW (show V≠b by omega)) (And.intro (cW (show V≠a by omega)) (And.intro (cW (show V≠s by omega)) (And.intro (cW (show b≠a by omega)) (And.intro (cW (show b≠s by omega)) (cW (show a≠s by omega))))))))))
   try simp [go_sem,seval,hs,eI,Part.d,Part.c,Host.c,Graph.c,di1,fr2,di3,fr5,di6,fr8,F4,di9]
   refine aP (fun h15=>?_) (fun h15=>?_)
   ·try simp [go_sem] at h15
    have hsu:=mQ r.into.nodes i
    obtain ⟨nd,hnd⟩:∃ y,y=r.right.graph.nodes[i]:=⟨_,rfl⟩
    have hgn:gN r.right.graph (i:Int)=nd:=by rw [hnd];simp [gN,aA h15]
    have hoL:=jY r.into.nodes i
    have hcb:i<co.nodes.length:=by omega
    have hcc:=hcn i h15
    rw [aA hcb,aD] at hcc
    have hxl:x.graph.nodes.length=d.nodes.length+(b5 r.into.nodes i).length∧x.values.length=x.graph.nodes.length∧x.graph.edges.length≤100:=by rw [hx];simp [C6,bdE];omega
    have hga1:=hh.ga
    have hgV1:=hh.gV
    have hrl:=iG hh.len
    have hqa:=hh.rng a hh.a_in
    have hqV:=hh.rng V hh.V_in
    have hqb:=hh.rng b hh.b_in
    have fr10:=And.intro (bZ (show s<H.next by omega)) (And.intro (bZ (show a<H.next by omega)) (And.intro (bZ (show b<H.next by omega)) (bZ (show V<H.next by omega))))
    try simp [go_sem,seval,hs,eI,Part.d,Part.c,Host.c,Graph.c,di1,fr2,di3,fr5,di6,fr8,F4,di9,h15,aA h15,← hnd,aA hcb,hga1,hgV1,hrl,fr10]
    repeat first|intro _|refine ⟨eZ,?_⟩
    refine aP (fun h17=>?_) (fun h17=>?_)
    ·try simp [go_sem] at h17
     have hm:mem r.into.nodes i=false:=hcc.1 (by simpa [hxl.1] using h17)
     rw [if_neg (by rw [hm];simp)] at hsu
     have hlv:(lY t nd).length≤8:=by unfold lY;rw [bW];exact qH hR.vf nd
     obtain ⟨x2,hx2⟩:∃ y:Host,y=⟨⟨x.graph.nodes++[nd],x.graph.edges⟩,x.values++[lY t nd]⟩:=⟨_,rfl⟩
     obtain ⟨qs2,hqs2⟩:∃ y,y=qs++[H.next]:=⟨_,rfl⟩
     have hx3:x2=C6 t r (bdE h d tr d.edges.length) (i+1):=by rw [hx2,hx];unfold C6;rw [hsu];simp [hgn]
     have hx2l:x2.graph.nodes.length=x.graph.nodes.length+1∧x2.graph.edges.length=x.graph.edges.length∧x2.values.length=x.values.length+1:=by rw [hx2];simp
     have hWq:∀ j∈a :: b :: V :: qs,j≠H.next:=fun j hj=>by have:=(hh.rng j hj).2;omega
     have hfrm:∀ j∈b :: qs,j≠a∧j≠s∧j≠V∧j<H.next:=fun j hj=>by
      rcases aT.1 hj with rfl|hj
      ·exact ⟨by omega,by omega,by omega,hqb.2⟩
      ·exact ⟨(hh.qn hj).1,hsq j (hh.q_in hj),(hh.qn hj).2.2,(hh.rng j (hh.q_in hj)).2⟩
     have hsq2:∀ j∈a :: b :: V :: qs2,j≠s:=fun j hj=>by
      have e:a :: b :: V :: qs2=(a :: b :: V :: qs)++[H.next]:=by rw [hqs2];rfl
      rw [e,aY,bL] at hj
      rcases hj with hj|rfl
      ·exact hsq j hj
      ·omega
     have hq02:∀ j∈qs2,G.next≤j:=fun j hj=>by
      rw [hqs2,aY,bL] at hj
      rcases hj with hj|rfl
      ·exact hq0 j hj
      ·omega
     try simp [go_sem,seval,hs,eI,Part.d,Part.c,Host.c,Graph.c,di1,fr2,di3,fr5,di6,fr8,F4,di9,h15,aA h15,← hnd,aA hcb,hga1,hgV1,hrl,fr10,hx2l]
     repeat first|intro _|refine ⟨eZ,?_⟩
     refine Cj H.next (Dl t ht nd) (by first|rfl|(simp [go_sem];done)) rfl (by first|omega|(simp [go_sem];done)|(first|(simp [go_sem];done)|(simp [go_sem];omega))) (by simp [mY,qM];exact hal _ (by omega)) (by first|trivial|(simp [go_sem];done)|(simp [go_sem,Fd];done)|(simp [go_sem,Fd];omega)) ?_
     try simp [go_sem,seval,hs,eI,Part.d,Part.c,Host.c,Graph.c,di1,fr2,di3,fr5,di6,fr8,F4,di9,h15,aA h15,← hnd,aA hcb,hga1,hgV1,hrl,fr10,hx2l]
     repeat first|intro _|refine ⟨eZ,?_⟩
     refine fR (i+1) (by omega) ((hI4 _ _ _).2 ⟨(x2),(qs2),?_,?_,?_,?_,?_,?_,?_,?_,?_,?_,?_,(by first|assumption|omega|(simp [go_sem,hs,eI,Part.d,Part.c,Host.c,Graph.c,di1,fr2,di3,fr5,di6,fr8,F4,di9,h15,aA h15,← hnd,aA hcb,hga1,hgV1,hrl,fr10,hx2l,h3,h9,h17];done)|(simp_all<;>omega)),(by (first|exact hh2|exact hh2.same (by first|(simp [go_sem];done)|(simp [go_sem];omega)) (fun _ _=>rfl)|exact hh2.same (by first|(simp [go_sem];done)|(simp [go_sem];omega)) (fun j hj=>by have:=(hh2.rng j hj).2;simp [go_sem,bZ this])|(rw [hx2,hqs2];exact hh.nodeRow (by first|(simp [go_sem];done)|(simp [go_sem];omega)) (dF _) hWq (by first|(simp [go_sem];done)|(simp [go_sem];omega)) (by simp [go_sem,hs,eI,Part.d,Part.c,Host.c,Graph.c,di1,fr2,di3,fr5,di6,fr8,F4,di9,h15,aA h15,← hnd,aA hcb,hga1,hgV1,hrl,fr10,hx2l,cI]) (by simp [go_sem,hs,eI,Part.d,Part.c,Host.c,Graph.c,di1,fr2,di3,fr5,di6,fr8,F4,di9,h15,aA h15,← hnd,aA hcb,hga1,hgV1,hrl,fr10,hx2l]) (by simp [go_sem,hs,eI,Part.d,Part.c,Host.c,Graph.c,di1,fr2,di3,fr5,di6,fr8,F4,di9,h15,aA h15,← hnd,aA hcb,hga1,hgV1,hrl,fr10,hx2l]) (fun j hj=>by obtain ⟨k1,k2,k3,k4⟩:=hfrm j hj;simp [go_sem,k1,k2,k3,bZ k4])))),(by exact hx3),(by exact hsq2),(by exact hq02),(by (intro j hj;simp [go_sem,mY,qM] at hj ⊢;first|exact ⟨by omega,hal j (by omega)⟩|exact hal j (by omega))),(by (first|exact hG2|(intro j hj hn;simp only [aT,eY,or_false,not_or] at hn;simp [go_sem,hn,bZ (show j<H.next by omega)];exact hG j hj (by simp [hn])))),(by (first|(simp [go_sem];done)|(simp [go_sem];omega)))⟩)<;>first|omega|(simp [go_sem,seval,hs,eI,Part.d,Part.c,Host.c,Graph.c,di1,fr2,di3,fr5,di6,fr8,F4,di9,h15,aA h15,← hnd,aA hcb,hga1,hgV1,hrl,fr10,hx2l]<;>omega)
    ·try simp [go_sem] at h17
     have hm:mem r.into.nodes i=true:=by
      cases hmm:mem r.into.nodes i with
      | true=>rfl
      | false=>exact absurd (by simpa [hxl.1] using hcc.2 hmm) h17
     rw [if_pos hm,dJ] at hsu
     obtain ⟨x2,hx2⟩:∃ y,y=x:=⟨_,rfl⟩
     obtain ⟨qs2,hqs2⟩:∃ y,y=qs:=⟨_,rfl⟩
     have hx3:x2=C6 t r (bdE h d tr d.edges.length) (i+1):=by rw [hx2,hx];unfold C6;rw [hsu]
     have hh2:HH H 0 a b V qs2 x2:=by rw [hx2,hqs2];exact hh
     have hsq2:∀ j∈a :: b :: V :: qs2,j≠s:=by rw [hqs2];exact hsq
     have hq02:∀ j∈qs2,G.next≤j:=by rw [hqs2];exact hq0
     have hG2:=hG
     try simp [go_sem,seval,hs,eI,Part.d,Part.c,Host.c,Graph.c,di1,fr2,di3,fr5,di6,fr8,F4,di9,h15,aA h15,← hnd,aA hcb,hga1,hgV1,hrl,fr10,hx2]
     repeat first|intro _|refine ⟨eZ,?_⟩
     refine fR (i+1) (by omega) ((hI4 _ _ _).2 ⟨(x2),(qs2),?_,?_,?_,?_,?_,?_,?_,?_,?_,?_,?_,(by first|assumption|omega|(simp [go_sem,hs,eI,Part.d,Part.c,Host.c,Graph.c,di1,fr2,di3,fr5,di6,fr8,F4,di9,h15,aA h15,← hnd,aA hcb,hga1,hgV1,hrl,fr10,hx2,h3,h9,h17];done)|(simp_all<;>omega)),(by (first|exact hh2|exact hh2.same (by first|(simp [go_sem];done)|(simp [go_sem];omega)) (fun _ _=>rfl)|exact hh2.same (by first|(simp [go_sem];done)|(simp [go_sem];omega)) (fun j hj=>by have:=(hh2.rng j hj).2;simp [go_sem,bZ this])|(rw [hx2,hqs2];exact hh.nodeRow (by first|(simp [go_sem];done)|(simp [go_sem];omega)) (dF _) hWq (by first|(simp [go_sem];done)|(simp [go_sem];omega)) (by simp [go_sem,hs,eI,Part.d,Part.c,Host.c,Graph.c,di1,fr2,di3,fr5,di6,fr8,F4,di9,h15,aA h15,← hnd,aA hcb,hga1,hgV1,hrl,fr10,hx2,cI]) (by simp [go_sem,hs,eI,Part.d,Part.c,Host.c,Graph.c,di1,fr2,di3,fr5,di6,fr8,F4,di9,h15,aA h15,← hnd,aA hcb,hga1,hgV1,hrl,fr10,hx2]) (by simp [go_sem,hs,eI,Part.d,Part.c,Host.c,Graph.c,di1,fr2,di3,fr5,di6,fr8,F4,di9,h15,aA h15,← hnd,aA hcb,hga1,hgV1,hrl,fr10,hx2]) (fun j hj=>by obtain ⟨k1,k2,k3,k4⟩:=hfrm j hj;simp [go_sem,k1,k2,k3,bZ k4])))),(by exact hx3),(by exact hsq2),(by exact hq02),(by (intro j hj;simp [go_sem,mY,qM] at hj ⊢;first|exact ⟨by omega,hal j (by omega)⟩|exact hal j (by omega))),(by (first|exact hG2|(intro j hj hn;simp only [aT,eY,or_false,not_or] at hn;simp [go_sem,hn,bZ (show j<H.next by omega)];exact hG j hj (by simp [hn])))),(by (first|(simp [go_sem];done)|(simp [go_sem];omega)))⟩)<;>first|omega|(simp [go_sem,seval,hs,eI,Part.d,Part.c,Host.c,Graph.c,di1,fr2,di3,fr5,di6,fr8,F4,di9,h15,aA h15,← hnd,aA hcb,hga1,hgV1,hrl,fr10,hx2]<;>omega)
   ·try simp [go_sem] at h15
    have hie:i=r.right.graph.nodes.length:=by omega
    have hx6:x=LU t r co (C6 t r (bdE h d tr d.edges.length) r.right.graph.nodes.length) 0:=by rw [hx,hie];simp [LU,b5]
    have fr11:=And.intro (bZ (show s<H.next by omega)) (And.intro (bZ (show a<H.next by omega)) (And.intro (bZ (show b<H.next by omega)) (bZ (show V<H.next by omega))))
    try simp [go_sem,seval,hs,eI,Part.d,Part.c,Host.c,Graph.c,di1,fr2,di3,fr5,di6,fr8,F4,di9,fr11]
    repeat first|intro _|refine ⟨eZ,?_⟩
    obtain ⟨I6,hI6⟩:∃ I6:Nat→dA→AHeap→Prop,∀ (i:Nat) (e:dA) (H:AHeap),I6 i e H↔(∃ x:Host,(e 1=.ptr s 1 0 0)∧(e 3=.adr t.c)∧(e 5=.adr d.c)∧(e 174=.list (r.right.graph.edges.map Edge.c))∧(e 175=dI r.right.graph.edges.length)∧(e 176=dI i)∧(H.get s=some ⟨53,38,[eI r m h (.own a x.graph.nodes.length) (.own b x.graph.edges.length) (.own V x.values.length) tr co],false⟩)∧(s<H.next)∧(i≤r.right.graph.edges.length)∧(HH H 0 a b V qs x)∧(x=LU t r co (C6 t r (bdE h d tr d.edges.length) r.right.graph.nodes.length) i)∧(∀ j,j<G.next→j∉[s,a,b,V]→H.get j=G.get j)∧(G.next≤H.next)):=⟨fun i e H=>_,fun _ _ _=>Iff.rfl⟩
    refine uN I6 (fun i=>r.right.graph.edges.length - i) (0) ((hI6 _ _ _).2 ⟨(x),?_,?_,?_,?_,?_,?_,?_,?_,(by first|assumption|omega|(simp [go_sem,hs,eI,Part.d,Part.c,Host.c,Graph.c,di1,fr2,di3,fr5,di6,fr8,F4,di9,fr11];done)|(simp_all;done)),(by (exact hh)),(by (exact hx6)),(by (exact hG)),(by (exact hnx))⟩) ?_
    iterate 8 (first|omega|(simp [go_sem,seval,hs,eI,Part.d,Part.c,Host.c,Graph.c,di1,fr2,di3,fr5,di6,fr8,F4,di9,fr11]<;>omega))
    intro i e H hi6
    obtain ⟨x,q1_6,q3_6,q5_6,q174_6,q175_6,q176_6,gs_6,ns_6,hi,hh,hx,hG,hnx⟩:=(hI6 _ _ _).1 hi6
    have xs:=bZ ns_6
    have F6:=And.intro q1_6 (And.intro q3_6 (And.intro q5_6 (And.intro q174_6 (And.intro q175_6 (And.intro q176_6 (And.intro gs_6 xs))))))
    have di12:=And.intro (cW (show V≠b by omega)) (And.intro (cW (show V≠a by omega)) (And.intro (cW (show V≠s by omega)) (And.intro (cW (show b≠a by omega)) (And.intro (cW (show b≠s by omega)) (cW (show a≠s by omega))))))
    try simp [go_sem,seval,hs,eI,Part.d,Part.c,Host.c,Graph.c,di1,fr2,di3,fr5,di6,fr8,di9,fr11,F6,di12]
    refine aP (fun h22=>?_) (fun h22=>?_)
    ·try simp [go_sem] at h22
     have hsu:=mQ r.into.edges i
     obtain ⟨y,hy⟩:∃ y,y=r.right.graph.edges[i]:=⟨_,rfl⟩
     have hye2:r.right.graph.edges[i]?.getD bS=y:=by rw [hy,aA h22];rfl
     have hyi:=(hgi.2 _ (aC h22)).2
     rw [← hy] at hyi
     have hyf:y.from_.toNat<co.nodes.length:=by omega
     have hyt:y.to_.toNat<co.nodes.length:=by omega
     have hoE:=jY r.into.edges i
     have hcb:i<co.edges.length:=by omega
     have hcc:=hce i h22
     rw [aA hcb,aD] at hcc
     have hxl:x.graph.edges.length=d.edges.length+(b5 r.into.edges i).length:=by rw [hx];simp [LU,C6,bdE]
     have hgb1:=hh.gb
     have hqb:=hh.rng b hh.b_in
     have hqa:=hh.rng a hh.a_in
     have hqV:=hh.rng V hh.V_in
     have fr13:=And.intro (bZ (show s<H.next by omega)) (And.intro (bZ (show a<H.next by omega)) (And.intro (bZ (show b<H.next by omega)) (bZ (show V<H.next by omega))))
     try simp [go_sem,seval,hs,eI,Part.d,Part.c,Host.c,Graph.c,di1,fr2,di3,fr5,di6,fr8,di9,fr11,F6,di12,h22,aA h22,← hy,aA hyf,aA hyt,aA hcb,hgb1,Edge.c,fr13]
     repeat first|intro _|refine ⟨eZ,?_⟩
     refine aP (fun h24=>?_) (fun h24=>?_)
     ·try simp [go_sem] at h24
      have hm:mem r.into.edges i=false:=hcc.1 (by simpa [hxl] using h24)
      rw [if_neg (by rw [hm];simp)] at hsu
      have hfr:freshE co y=⟨y.type,co.nodes[y.from_.toNat],co.nodes[y.to_.toNat]⟩:=by unfold freshE;rw [aA hyf,aA hyt];rfl
      obtain ⟨x2,hx2⟩:∃ z:Host,z=⟨⟨x.graph.nodes,x.graph.edges++[freshE co y]⟩,x.values⟩:=⟨_,rfl⟩
      have hx3:x2=LU t r co (C6 t r (bdE h d tr d.edges.length) r.right.graph.nodes.length) (i+1):=by rw [hx2,hx];unfold LU;rw [hsu];simp [hye2]
      have hx2l:x2.graph.nodes.length=x.graph.nodes.length∧x2.graph.edges.length=x.graph.edges.length+1∧x2.values.length=x.values.length:=by rw [hx2];simp
      have hfrm:∀ j∈a :: V :: qs,j≠b∧j≠s∧j<H.next:=fun j hj=>by
       have hj':j∈a :: b :: V :: qs:=by simp only [aT] at hj ⊢;rcases hj with h|h|h<;>simp [h]
       refine ⟨?_,hsq j hj',(hh.rng j hj').2⟩
       rintro rfl
       have:=hh.nd;simp only [fY,aT,not_or] at this
       simp only [aT] at hj
       rcases hj with h|h|h
       ·exact this.1.1 h.symm
       ·exact this.2.1.1 h
       ·exact this.2.1.2 h
      try simp [go_sem,seval,hs,eI,Part.d,Part.c,Host.c,Graph.c,di1,fr2,di3,fr5,di6,fr8,di9,fr11,F6,di12,h22,aA h22,← hy,aA hyf,aA hyt,aA hcb,hgb1,Edge.c,fr13,hx2l]
      repeat first|intro _|refine ⟨eZ,?_⟩
      refine fR (i+1) (by omega) ((hI6 _ _ _).2 ⟨(x2),?_,?_,?_,?_,?_,?_,?_,?_,(by first|assumption|omega|(simp [go_sem,hs,eI,Part.d,Part.c,Host.c,Graph.c,di1,fr2,di3,fr5,di6,fr8,di9,fr11,F6,di12,h22,aA h22,← hy,aA hyf,aA hyt,aA hcb,hgb1,Edge.c,fr13,hx2l,h3,h9,h15,h24];done)|(simp_all<;>omega)),(by (first|exact hh2|exact hh2.same (by first|(simp [go_sem];done)|(simp [go_sem];omega)) (fun _ _=>rfl)|exact hh2.same (by first|(simp [go_sem];done)|(simp [go_sem];omega)) (fun j hj=>by have:=(hh2.rng j hj).2;simp [go_sem,bZ this])|(rw [hx2];exact hh.edges (by first|(simp [go_sem];done)|(simp [go_sem];omega)) (by simp [go_sem,hs,eI,Part.d,Part.c,Host.c,Graph.c,di1,fr2,di3,fr5,di6,fr8,di9,fr11,F6,di12,h22,aA h22,← hy,aA hyf,aA hyt,aA hcb,hgb1,Edge.c,fr13,hx2l,hfr,Edge.c]) (fun j hj=>by obtain ⟨k1,k2,k3⟩:=hfrm j hj;simp [go_sem,k1,k2,bZ k3])))),(by exact hx3),(by (first|exact hG2|(intro j hj hn;simp only [aT,eY,or_false,not_or] at hn;simp [go_sem,hn,bZ (show j<H.next by omega)];exact hG j hj (by simp [hn])))),(by (first|(simp [go_sem];done)|(simp [go_sem];omega)))⟩)<;>first|omega|(simp [go_sem,seval,hs,eI,Part.d,Part.c,Host.c,Graph.c,di1,fr2,di3,fr5,di6,fr8,di9,fr11,F6,di12,h22,aA h22,← hy,aA hyf,aA hyt,aA hcb,hgb1,Edge.c,fr13,hx2l]<;>omega)
     ·try simp [go_sem] at h24
      have hm:mem r.into.edges i=true:=by
       cases hmm:mem r.into.edges i with
       | true=>rfl
       | false=>exact absurd (by simpa [hxl] using hcc.2 hmm) h24
      rw [if_pos hm,dJ] at hsu
      obtain ⟨x2,hx2⟩:∃ z,z=x:=⟨_,rfl⟩
      have hx3:x2=LU t r co (C6 t r (bdE h d tr d.edges.length) r.right.graph.nodes.length) (i+1):=by rw [hx2,hx];unfold LU;rw [hsu]
      have hh2:HH H 0 a b V qs x2:=by rw [hx2];exact hh
      have hG2:=hG
      try simp [go_sem,seval,hs,eI,Part.d,Part.c,Host.c,Graph.c,di1,fr2,di3,fr5,di6,fr8,di9,fr11,F6,di12,h22,aA h22,← hy,aA hyf,aA hyt,aA hcb,hgb1,Edge.c,fr13,hx2]
      repeat first|intro _|refine ⟨eZ,?_⟩
      refine fR (i+1) (by omega) ((hI6 _ _ _).2 ⟨(x2),?_,?_,?_,?_,?_,?_,?_,?_,(by first|assumption|omega|(simp [go_sem,hs,eI,Part.d,Part.c,Host.c,Graph.c,di1,fr2,di3,fr5,di6,fr8,di9,fr11,F6,di12,h22,aA h22,← hy,aA hyf,aA hyt,aA hcb,hgb1,Edge.c,fr13,hx2,h3,h9,h15,h24];done)|(simp_all<;>omega)),(by (first|exact hh2|exact hh2.same (by first|(simp [go_sem];done)|(simp [go_sem];omega)) (fun _ _=>rfl)|exact hh2.same (by first|(simp [go_sem];done)|(simp [go_sem];omega)) (fun j hj=>by have:=(hh2.rng j hj).2;simp [go_sem,bZ this])|(rw [hx2];exact hh.edges (by first|(simp [go_sem];done)|(simp [go_sem];omega)) (by simp [go_sem,hs,eI,Part.d,Part.c,Host.c,Graph.c,di1,fr2,di3,fr5,di6,fr8,di9,fr11,F6,di12,h22,aA h22,← hy,aA hyf,aA hyt,aA hcb,hgb1,Edge.c,fr13,hx2,hfr,Edge.c]) (fun j hj=>by obtain ⟨k1,k2,k3⟩:=hfrm j hj;simp [go_sem,k1,k2,bZ k3])))),(by exact hx3),(by (first|exact hG2|(intro j hj hn;simp only [aT,eY,or_false,not_or] at hn;simp [go_sem,hn,bZ (show j<H.next by omega)];exact hG j hj (by simp [hn])))),(by (first|(simp [go_sem];done)|(simp [go_sem];omega)))⟩)<;>first|omega|(simp [go_sem,seval,hs,eI,Part.d,Part.c,Host.c,Graph.c,di1,fr2,di3,fr5,di6,fr8,di9,fr11,F6,di12,h22,aA h22,← hy,aA hyf,aA hyt,aA hcb,hgb1,Edge.c,fr13,hx2]<;>omega)
    ·try simp [go_sem] at h22
     have hX:x=iO t r co (bdE h d tr d.edges.length):=by rw [hx,show i=r.right.graph.edges.length by omega];rfl
     rw [hX] at hh
     try simp [go_sem,seval,hs,eI,Part.d,Part.c,Host.c,Graph.c,di1,fr2,di3,fr5,di6,fr8,di9,fr11,F6,di12,hX]
     exact hQ qs _ hh (by simp [go_sem,hs,eI,Part.d,Part.c,Host.c,Graph.c,di1,fr2,di3,fr5,di6,fr8,di9,fr11,F6,di12,hX]) hsq hq0 hG hnx
end Go.Abs
end
