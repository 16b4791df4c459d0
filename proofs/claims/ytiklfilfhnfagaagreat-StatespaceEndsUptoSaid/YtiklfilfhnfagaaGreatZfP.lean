/- Conditions of the program: witness, given, Satisfies. · Cond -/
import Derived.Test.YtiklfilfhnfagaaGreatZfG
import Derived.Test.YtiklfilfhnfagaaGreatZfA
import Derived.Test.YtiklfilfhnfagaaGreatZfO
set_option linter.unusedVariables false
set_option linter.unusedSimpArgs false
section
set_option maxRecDepth 100000
set_option maxHeartbeats 4000000
open Go Go.Proofs
namespace Go.Abs
def LA (t:Types)(h:Host)(inj:Bool)(c:Cond)(m:Mat):Prf × Int:=if (rN t h inj c m).2=0 then rN t h inj c m else (kU,(rN t h inj c m).2)
def Gb (W:Prf × Int):Prf × Int:=if W.2=0 then W else (kU,W.2)
theorem P5 (t:Types)(h:Host)(inj:Bool)(c:Cond)(m:Mat):LA t h inj c m=Gb (rN t h inj c m):=rfl
theorem By (t : Types) (h : Host) (inj : Bool) (c : Cond) (m : Mat) : ∃ wc wm wk we, LA t h inj c m = (Prf.mk wc wm wk, we) ∧ (rN t h inj c m).2 = we ∧ (we = 0 → rN t h inj c m = (Prf.mk wc wm wk, we)) := by
  cases hh : LA t h inj c m with
  | mk a b =>
    cases a with
    | mk wc wm wk =>
      refine ⟨wc, wm, wk, b, rfl, ?_, ?_⟩
      · unfold LA at hh
        split at hh
        · rw [hh]
        · exact congrArg Prod.snd hh
      · intro h0
        unfold LA at hh
        split at hh
        · exact hh
        · rename_i h1
          have := congrArg Prod.snd hh
          simp only at this
          exact absurd (this.trans h0) h1
theorem Ek (t:Types)(ht:t.ok)(h:Host)(ho:HostOk t h)(inj:Bool)(c:Cond)(p:Pattern)(hC:CondV t p c)(hp:PatOk t p)(h5:c.kind=5)
  (ih:∀ k∈c.kids,∀ m:Mat,MatOk t c.pattern h m→Pure Tryz.prog 187 [.agg (scnC t h inj),.agg k.c,m.d] (.tup [.agg (LA t h inj k m).1.c,dI (LA t h inj k m).2])) (m:Mat) (hm:MatOk t p h m) :
  Pure Tryz.prog 228 [.agg (scnC t h inj),.agg c.c,m.d] (.tup [.agg (LA t h inj c m).1.c,dI (LA t h inj c m).2]):=by
 obtain ⟨hK1,hK2⟩:=hC.kinds
 have hW:=Nb t h inj c m
 rw [P5]
 obtain ⟨W,hWW⟩:∃ W,W=rN t h inj c m:=⟨_,rfl⟩
 rw [← hWW] at hW ⊢
 obtain ⟨hE,hCk⟩:=hC.ex h5 hp
 have hl:0<c.kids.length:=by have:=hK1 (.inr h5);omega
 obtain ⟨k0,hk0e⟩:∃ k,k=c.kids[0]:=⟨_,rfl⟩
 have hk0:k0∈c.kids:=hk0e ▸ aC hl
 obtain ⟨X,hX⟩:∃ X,X=Cc t c.map c.pattern h m inj:=⟨_,rfl⟩
 have hXm:∀ x∈X.1,MatOk t c.pattern h x:=hX ▸ SI hE ho hm
 rw [if_neg (by omega),if_neg (by omega),if_neg (by omega),if_pos h5,Hq hl,← hk0e,← hX] at hW
 refine qR (by first|rfl|(simp [go_sem];done)) (fun Q hQ=>(aH (cfg:=⟨fun t=>t==6||t==11||t==12,fun r=>match r with|7=>[(0,10),(1,10),(2,10),(3,10),(4,10),(5,10),(6,10)]|_=>[]⟩) Tz.mixed Tryz.func228 rfl rfl (aD rfl) (by kernel_rfl) ?_))
 have Y:=wa @Cond.c_eq (wa @scnC.eq_1 (wa @Mat.d.eq_1 (wa @Mat.c.eq_1 (wa @Prf.c_eq (wa (aA hl) (wa (Eq.symm hk0e) h5))))))
 refine wv (h:=aB ((by have hq:=BP t ht p c hE h ho m hm inj;rw [← hX,Cond.c_eq,h5] at hq;unfold scnC Mat.d Mat.c dLI dI at hq;exact hq)) wl ?_)
 refine dU (fun h2=>?_) fun h2=>?_
 ·rw [if_pos (by simpa using h2)] at hW
  have hR:Gb W=(kU,X.2):=by rw [hW];unfold Gb;rw [if_neg (by simpa using h2)]
  refine wv (h:=?_)
  exact hQ _ _ (by simp [go_sem,Y,hR,kU,mB,Prf.c_eq,jY,fW,dX,dLI,jC,j9])
 ·rw [if_neg (by simpa using h2)] at hW
  refine wv (h:=?_)
  repeat first|intro _|refine ⟨fT,?_⟩
  refine cD (fun i e H=>(e 3=.adr (scnC t h inj)∧e 4=.adr c.c∧e 5=.adr m.c∧e 6=.ptr 0 1 0 0∧e 25=.list (X.1.map Mat.c)∧e 26=dI X.1.length∧e 27=dI i)∧(H.get 0=some ⟨254,5,[[dI 0,.nil,.nil,.nil,.nil]],false⟩)∧(0<H.next)∧(i≤X.1.length)∧(VO ((X.1.drop i).map fun x=>(x,rN t h inj k0 x))=W)) (fun i=>X.1.length - i) 0 ⟨wg,wn,wn,wi,(by (exact hW.symm))⟩ fun I0 hI0 i e H hi0=>?_
  obtain ⟨E0,g0_0,n0_0,hi,hA⟩:=hi0
  have Y:=wa Y (wa E0 (wa g0_0 (cO n0_0)))
  refine dU (fun h5=>?_) fun h5=>?_
  ·obtain ⟨wc,wm,wk,we,hw,hw2,hw3⟩:=By t h inj k0 X.1[i]
   have h5':i<X.1.length:=h5
   have hst:=hA
   rw [Fw _ h5'] at hst
   simp only [VO] at hst
   have nx:=VD H.next
   have Y:=wa Y (wa h5 (wa (aA h5') nx))
   refine wv (h:=?_)
   repeat first|intro _|refine ⟨fT,?_⟩
   refine bB ((by have hq:=ih k0 hk0 X.1[i] (hXm _ (aC h5'));simp only [hw,Prf.c_eq,Cond.c_eq] at hq;unfold scnC Mat.d Mat.c dLI dI at hq;exact hq)) wl ?_
   refine wv (h:=?_)
   repeat first|intro _|refine ⟨fT,?_⟩
   refine wq (fun h8=>?_) fun h8=>?_
   ·have h8':we=0:=by simpa using h8
    rw [hw3 h8'] at hst
    simp only at hst
    rw [if_pos (by omega)] at hst
    have hR:Gb W=(Prf.mk 0 X.1[i] [Prf.mk wc wm wk],0):=by rw [← hst,h8'];rfl
    refine wv (h:=?_)
    exact hQ _ _ (by simp [go_sem,Y,hR,kU,mB,Prf.c_eq,jY,fW,dX,dLI,jC,j9])
   ·have h8':we≠0:=by simpa using h8
    refine dU (fun h10=>?_) fun h10=>?_
    ·have h10':we≠10:=by simpa using h10
     rw [hw2,if_pos h10'] at hst
     have hR:Gb W=(kU,we):=by rw [← hst];unfold Gb;rw [if_neg h8']
     refine wv (h:=?_)
     exact hQ _ _ (by simp [go_sem,Y,hR,kU,mB,Prf.c_eq,jY,fW,dX,dLI,jC,j9])
    ·have h10':we=10:=by simpa using h10
     rw [hw2,if_neg (by omega)] at hst
     refine wv (h:=?_)
     repeat first|intro _|refine ⟨fT,?_⟩
     exact wx hI0 (i+1) ⟨wg,wn,wn,wj,(by (exact hst))⟩
  ·rw [dW (by omega)] at hA
   simp only [rS,VO] at hA
   have hR:Gb W=(kU,10):=by rw [← hA];rfl
   have Y:=wa Y h5
   refine wv (h:=?_)
   exact hQ _ _ (by simp [go_sem,Y,hR,kU,mB,Prf.c_eq,jY,fW,dX,dLI,jC,j9])
theorem Gm (t:Types)(ht:t.ok)(h:Host)(ho:HostOk t h)(inj:Bool):∀ (c:Cond) (p:Pattern),CondV t p c→PatOk t p→∀ m:Mat,MatOk t p h m →
  Pure Tryz.prog 187 [.agg (scnC t h inj),.agg c.c,m.d] (.tup [.agg (LA t h inj c m).1.c,dI (LA t h inj c m).2]):=by
 refine xZ fun c ih p hC hp m hm=>?_
 obtain ⟨hK1,hK2⟩:=hC.kinds
 have hkl0:c.kids.length≤1000000:=by have:=QP c.kids;have:=AA c;have:=hC.sz;omega
 have hex:c.kind=5→Pure Tryz.prog 228 [.agg (scnC t h inj),.agg c.c,m.d] (.tup [.agg (LA t h inj c m).1.c,dI (LA t h inj c m).2]):=fun h5=>by
  obtain ⟨hE,hCk⟩:=hC.ex h5 hp
  exact Ek t ht h ho inj c p hC hp h5 (fun k hk m' hm'=>ih k hk c.pattern (hCk k hk) hE.pq m' hm') m hm
 have hW:=Nb t h inj c m
 rw [P5] at hex ⊢
 obtain ⟨W,hWW⟩:∃ W,W=rN t h inj c m:=⟨_,rfl⟩
 rw [← hWW] at hW hex ⊢
 refine qR (by first|rfl|(simp [go_sem];done)) (fun Q hQ=>(aH (cfg:=⟨fun t=>t==6||t==8||t==10||t==12||t==13||t==16||t==17,fun r=>match r with|3=>[(0,10),(1,10),(2,10),(3,10),(4,10),(5,10),(6,10)]|_=>[]⟩) Tz.mixed Tryz.func187 rfl rfl (aD rfl) (by kernel_rfl) ?_))
 have Y:=wa @Cond.c_eq (wa @scnC.eq_1 (wa @Mat.d.eq_1 (wa @Mat.c.eq_1 @Prf.c_eq)))
 refine dU (fun h2=>?_) fun h2=>?_
 ·have h2':c.kind=2:=by simpa using h2
  have hl:0<c.kids.length:=by have:=hK1 (.inl h2');omega
  obtain ⟨k0,hk0e⟩:∃ k,k=c.kids[0]:=⟨_,rfl⟩
  have hk0:k0∈c.kids:=hk0e ▸ aC hl
  have hC0:=hC.kid (by omega) k0 hk0
  obtain ⟨wc,wm,wk,we,hw,hw2,hw3⟩:=By t h inj k0 m
  rw [if_pos h2',Hq hl,← hk0e,hw2] at hW
  unfold Ub at hW
  have Y:=wa Y (wa (aA hl) (wa (Eq.symm hk0e) h2'))
  refine wp (h:=bB ((by have hq:=ih k0 hk0 p hC0 hp m hm;simp only [hw,Prf.c_eq,Cond.c_eq] at hq;unfold scnC Mat.d Mat.c dLI dI at hq;exact hq)) wl ?_)
  refine qJ (fun h5=>?_) fun h5=>?_
  ·rw [if_pos (by simpa using h5)] at hW
   have hR:Gb W=(kU,10):=by rw [hW];rfl
   refine wv (h:=?_)
   exact hQ _ _ (by simp [go_sem,Y,hR,kU,mB,Prf.c_eq,jY,fW,dX,dLI,jC,j9])
  ·rw [if_neg (by simpa using h5)] at hW
   refine dU (fun h7=>?_) fun h7=>?_
   ·rw [if_pos (by simpa using h7)] at hW
    have hR:Gb W=(kU,0):=by rw [hW];rfl
    refine wv (h:=?_)
    exact hQ _ _ (by simp [go_sem,Y,hR,kU,mB,Prf.c_eq,jY,fW,dX,dLI,jC,j9])
   ·rw [if_neg (by simpa using h7)] at hW
    have hR:Gb W=(kU,we):=by rw [hW];unfold Gb;rw [if_neg (by simpa using h5)]
    refine wv (h:=?_)
    exact hQ _ _ (by simp [go_sem,Y,hR,kU,mB,Prf.c_eq,jY,fW,dX,dLI,jC,j9])
 ·have h2':c.kind≠2:=by simpa using h2
  rw [if_neg h2'] at hW
  refine dU (fun h10=>?_) fun h10=>?_
  ·have h10':c.kind=3:=by simpa using h10
   have hCk:=hC.kid (by omega)
   rw [if_pos h10'] at hW
   have Y:=wa Y h10'
   refine wp (h:=sP (Ghosts.step (Ghosts.refl _) 1 0 4 254 5 _ _ ((by simp [go_sem];rfl)) rfl rfl rfl) (fun i e H=>∃ ps:List Prf,(e 3=.adr (scnC t h inj)∧e 4=.adr c.c∧e 5=.adr m.c∧e 6=.ptr 0 1 0 0∧e 20=dI c.kind∧e 10=.ptr 1 1 0 0∧e 45=.list (c.kids.map Cond.c)∧e 46=dI c.kids.length∧e 47=dI i)∧(H.get 0=some ⟨254,5,[[dI 0,.nil,.nil,.nil,.nil]],false⟩)∧(0<H.next)∧(H.get 1=some ⟨254,5,[[dI 0,.nil,.nil,.nil,.own 2 ps.length]],false⟩)∧(1<H.next)∧(H.get 2=some ⟨254,5,ps.map Prf.c,false⟩)∧(2<H.next)∧(i≤c.kids.length)∧(PT ((c.kids.drop i).map fun k=>rN t h inj k m) ps=W)∧(ps.length≤i)∧(c.kids.length≤1000000)) (fun i=>c.kids.length - i) 0 ⟨([]),wg,wn,wn,wn,wn,wn,wn,wi,(by (exact hW.symm)),(by simp),(by (exact hkl0))⟩ fun I2 hI2 i e H hi2=>?_)
   obtain ⟨ps,E2,g0_2,n0_2,g1_2,n1_2,g2_2,n2_2,hi,hA,hpl,hkl⟩:=hi2
   have Y:=wa Y (wa E2 (wa g0_2 (wa (cO n0_2) (wa g1_2 (wa (cO n1_2) (wa g2_2 (cO n2_2)))))))
   refine dU (fun h13=>?_) fun h13=>?_
   ·obtain ⟨k1,hk1e⟩:∃ k,k=c.kids[i]:=⟨_,rfl⟩
    have hk1:k1∈c.kids:=hk1e ▸ aC h13
    obtain ⟨wc,wm,wk,we,hw,hw2,hw3⟩:=By t h inj k1 m
    have hst:=hA
    rw [Fw _ h13,← hk1e] at hst
    simp only [PT] at hst
    have Y:=wa Y (wa h13 (wa (aA h13) (Eq.symm hk1e)))
    refine wp (h:=aB ((by have hq:=ih k1 hk1 p (hCk k1 hk1) hp m hm;simp only [hw,Prf.c_eq,Cond.c_eq] at hq;unfold scnC Mat.d Mat.c dLI dI at hq;exact hq)) wl ?_)
    refine qJ (fun h16=>?_) fun h16=>?_
    ·have h16':we≠0:=by simpa using h16
     rw [hw2,if_pos h16'] at hst
     have hR:Gb W=(kU,we):=by rw [← hst];unfold Gb;rw [if_neg h16']
     refine wv (h:=?_)
     exact hQ _ _ (by simp [go_sem,Y,hR,kU,mB,Prf.c_eq,jY,fW,dX,dLI,jC,j9])
    ·have h16':we=0:=by simpa using h16
     rw [hw2,if_neg (by omega),hw3 h16'] at hst
     exact wp (h:=wx hI2 (i+1) ⟨(ps++[.mk wc wm wk]),wg,wn,wn,wn,wn,wn,wn,wj,(by (exact hst)),(by (simp;omega)),(by exact hkl)⟩)
   ·rw [dW (by omega)] at hA
    simp only [rS,PT] at hA
    have hR:Gb W=(.mk 0 mB ps,0):=by rw [← hA];rfl
    refine wv (h:=?_)
    exact hQ _ _ (by simp [go_sem,Y,hR,kU,mB,Prf.c_eq,jY,fW,dX,dLI,jC,j9])
  ·have h10':c.kind≠3:=by simpa using h10
   rw [if_neg h10'] at hW
   refine dU (fun h21=>?_) fun h21=>?_
   ·have h21':c.kind=4:=by simpa using h21
    have hCk:=hC.kid (by omega)
    rw [if_pos h21'] at hW
    have Y:=wa Y h21'
    refine wp (h:=cD (fun i e H=>(e 3=.adr (scnC t h inj)∧e 4=.adr c.c∧e 5=.adr m.c∧e 6=.ptr 0 1 0 0∧e 20=dI c.kind∧e 73=.list (c.kids.map Cond.c)∧e 74=dI c.kids.length∧e 75=dI i)∧(H.get 0=some ⟨254,5,[[dI 0,.nil,.nil,.nil,.nil]],false⟩)∧(0<H.next)∧(i≤c.kids.length)∧(VC ((c.kids.drop i).map fun k=>rN t h inj k m) i=W)) (fun i=>c.kids.length - i) 0 ⟨wg,wn,wn,wi,(by (exact hW.symm))⟩ fun I4 hI4 i e H hi4=>?_)
    obtain ⟨E4,g0_4,n0_4,hi,hA⟩:=hi4
    have Y:=wa Y (wa E4 (wa g0_4 (cO n0_4)))
    refine dU (fun h23=>?_) fun h23=>?_
    ·obtain ⟨k1,hk1e⟩:∃ k,k=c.kids[i]:=⟨_,rfl⟩
     have hk1:k1∈c.kids:=hk1e ▸ aC h23
     obtain ⟨wc,wm,wk,we,hw,hw2,hw3⟩:=By t h inj k1 m
     have hst:=hA
     rw [Fw _ h23,← hk1e] at hst
     simp only [VC] at hst
     have Y:=wa Y (wa h23 (wa (aA h23) (Eq.symm hk1e)))
     refine wp (h:=aB ((by have hq:=ih k1 hk1 p (hCk k1 hk1) hp m hm;simp only [hw,Prf.c_eq,Cond.c_eq] at hq;unfold scnC Mat.d Mat.c dLI dI at hq;exact hq)) wl ?_)
     refine qJ (fun h26=>?_) fun h26=>?_
     ·have h26':we=0:=by simpa using h26
      rw [hw3 h26'] at hst
      simp only at hst
      rw [if_pos (by omega)] at hst
      have hR:Gb W=(.mk i mB [.mk wc wm wk],0):=by rw [← hst,h26'];rfl
      refine wv (h:=?_)
      exact hQ _ _ (by simp [go_sem,Y,hR,kU,mB,Prf.c_eq,jY,fW,dX,dLI,jC,j9])
     ·have h26':we≠0:=by simpa using h26
      refine dU (fun h28=>?_) fun h28=>?_
      ·have h28':we≠10:=by simpa using h28
       rw [hw2,if_pos h28'] at hst
       have hR:Gb W=(kU,we):=by rw [← hst];unfold Gb;rw [if_neg h26']
       refine wv (h:=?_)
       exact hQ _ _ (by simp [go_sem,Y,hR,kU,mB,Prf.c_eq,jY,fW,dX,dLI,jC,j9])
      ·have h28':we=10:=by simpa using h28
       rw [hw2,if_neg (by omega)] at hst
       exact wp (h:=wx hI4 (i+1) ⟨wg,wn,wn,wj,(by (exact hst))⟩)
    ·rw [dW (by omega)] at hA
     simp only [rS,VC] at hA
     have hR:Gb W=(kU,10):=by rw [← hA];rfl
     refine wv (h:=?_)
     exact hQ _ _ (by simp [go_sem,Y,hR,kU,mB,Prf.c_eq,jY,fW,dX,dLI,jC,j9])
   ·have h21':c.kind≠4:=by simpa using h21
    rw [if_neg h21'] at hW
    refine dU (fun h32=>?_) fun h32=>?_
    ·have h32':c.kind=5:=by simpa using h32
     obtain ⟨vc,vm,vk,ve,hV⟩:∃ vc vm vk ve,Gb W=(Prf.mk vc vm vk,ve):=by
      cases hh:Gb W with
      | mk a b=>cases a;exact ⟨_,_,_,_,rfl⟩
     have Y:=wa Y h32'
     refine wv (h:=aB ((by have hq:=hex h32';simp only [hV,Prf.c_eq,Cond.c_eq,h32'] at hq;unfold scnC Mat.d Mat.c dLI dI at hq;exact hq)) wl ?_)
     refine wv (h:=?_)
     exact hQ _ _ (by simp [go_sem,Y,hV,kU,mB,Prf.c_eq,jY,fW,dX,dLI,jC,j9])
    ·have h32':c.kind≠5:=by simpa using h32
     rw [if_neg h32'] at hW
     have hR:Gb W=(kU,0):=by rw [hW];rfl
     refine wv (h:=?_)
     exact hQ _ _ (by simp [go_sem,Y,hR,kU,mB,Prf.c_eq,jY,fW,dX,dLI,jC,j9])
def ST (t:Types)(p:Pattern)(c:Cond)(h:Host)(m:Mat)(inj:Bool):Int :=
 if condF t p c≠0 then condF t p c
 else if eR t h≠0 then eR t h
 else if fY t p.graph h.graph m.m inj≠0 then fY t p.graph h.graph m.m inj
 else if (eZ t p h m.m).2≠0 then (eZ t p h m.m).2
 else if (eZ t p h m.m).1≠m.vars then 11 else 0
theorem Dq (t:Types)(ht:t.ok)(p:Pattern)(c:Cond)(hc:c.ok)(hs:c.size≤1000000)(h:Host)(m:Mat)(inj:Bool):Pure Tryz.prog 186 [t.d,p.d,.agg c.c,h.d,m.d,.bool inj] (dI (ST t p c h m inj)):=by
 refine Tz.pK ⟨fun _=>false,fun _=>[]⟩ Tryz.func186 rfl (fun Q hQ=>?_)
 have Y:=wa @Cond.c_eq (wa @Pattern.d.eq_1 (wa @Pattern.c.eq_1 (wa @Host.d.eq_1 (wa @Host.c.eq_1 (wa @Mat.d.eq_1 (wa @Mat.c.eq_1 (wa @Graph.c.eq_1 @Part.c.eq_1)))))))
 refine wv (h:=aB ((by have hq:=vJ t ht p c hc hs;rw [Cond.c_eq] at hq;unfold Types.d Types.c Pattern.d Pattern.c dLI dI at hq;exact hq)) wl ?_)
 refine dU (fun h2=>?_) fun h2=>?_
 ·have hM:ST t p c h m inj=condF t p c:=by unfold ST;rw [if_pos h2]
  exact wv (h:=hQ _ _ (by simp [go_sem,hM]))
 ·have hM:ST t p c h m inj=if eR t h≠0 then eR t h else if fY t p.graph h.graph m.m inj≠0 then fY t p.graph h.graph m.m inj else if (eZ t p h m.m).2≠0 then (eZ t p h m.m).2 else if (eZ t p h m.m).1≠m.vars then 11 else 0:=by unfold ST;rw [if_neg (by simpa using h2)]
  refine wv (h:=aB (oR t ht h) wl ?_)
  refine dU (fun h5=>?_) fun h5=>?_
  ·have h5':eR t h≠0:=h5
   rw [if_pos h5'] at hM
   exact wv (h:=hQ _ _ (by simp [go_sem,hM,eR]))
  ·have h5':¬ eR t h≠0:=by unfold eR;simpa using h5
   rw [if_neg h5'] at hM
   refine wv (h:=aB (uK t ht p.graph h.graph m.m inj) wl ?_)
   refine dU (fun h8=>?_) fun h8=>?_
   ·rw [if_pos (by simpa using h8)] at hM
    exact wv (h:=hQ _ _ (by simp [go_sem,hM]))
   ·rw [if_neg (by simpa using h8)] at hM
    refine wv (h:=aB (vP t ht p h m.m) wl ?_)
    refine dU (fun h11=>?_) fun h11=>?_
    ·rw [if_pos (by simpa using h11)] at hM
     exact wv (h:=hQ _ _ (by simp [go_sem,hM]))
    ·rw [if_neg (by simpa using h11)] at hM
     refine wp (h:=aB (lZ (eZ t p h m.m).1 m.vars) wl ?_)
     refine qJ (fun h13=>?_) fun h13=>?_
     ·rw [if_pos (by simpa using h13)] at hM
      exact wv (h:=hQ _ _ (by simp [go_sem,hM]))
     ·rw [if_neg (by simpa using h13)] at hM
      exact wv (h:=hQ _ _ (by simp [go_sem,hM]))
theorem Bg (t:Types)(ht:t.ok)(p:Pattern)(c:Cond)(hc:c.ok)(hC:CondV t p c)(hp:PatOk t p)(h:Host)(ho:HostOk t h)(m:Mat)(hm:MatOk t p h m)(inj:Bool)(h0:ST t p c h m inj=0) :
  Pure Tryz.prog 150 [t.d,p.d,.agg c.c,h.d,m.d,.bool inj] (.tup [.agg (LA t h inj c m).1.c,dI (LA t h inj c m).2]):=by
 obtain ⟨wc,wm,wk,we,hw,hw2,hw3⟩:=By t h inj c m
 refine qR (by first|rfl|(simp [go_sem];done)) (fun Q hQ=>(aH (cfg:=⟨fun t=>t==12,fun _=>[]⟩) Tz.mixed Tryz.func150 rfl rfl (aD rfl) (by kernel_rfl) ?_))
 have Y:=wa @Cond.c_eq (wa @scnC.eq_1 (wa @Pattern.d.eq_1 (wa @Pattern.c.eq_1 (wa @Host.d.eq_1 (wa @Host.c.eq_1 (wa @Mat.d.eq_1 (wa @Mat.c.eq_1 @Prf.c_eq)))))))
 refine wv (h:=aB ((by have hq:=Dq t ht p c hc hC.sz h m inj;rw [h0,Cond.c_eq] at hq;unfold Types.d Types.c Pattern.d Pattern.c Host.d Host.c Mat.d Mat.c dLI dI at hq;exact hq)) wl ?_)
 refine wv (h:=aB ((by have hq:=Gm t ht h ho inj c p hC hp m hm;simp only [hw,Prf.c_eq,Cond.c_eq] at hq;unfold scnC Mat.d Mat.c dLI dI at hq;exact hq)) wl ?_)
 refine wv (h:=?_)
 exact hQ _ _ (by simp [go_sem,Y,hw,Prf.c_eq,jY,fW,dX,dLI,jC,j9])
theorem yW (t:Types)(ht:t.ok)(p:Pattern)(c:Cond)(hc:c.ok)(hC:CondV t p c)(hp:PatOk t p)(h:Host)(ho:HostOk t h)(m:Mat)(hm:MatOk t p h m)(inj:Bool)(h0:ST t p c h m inj=0) :
  Pure Tryz.prog 110 [t.d,p.d,.agg c.c,h.d,m.d,.bool inj] (.tup [.bool (tP t h inj c m).1,dI (tP t h inj c m).2]):=by
 obtain ⟨wc,wm,wk,we,hw,hw2,hw3⟩:=By t h inj c m
 have hH:tP t h inj c m=if we=10 then (false,0) else (decide (we=0),we):=by unfold tP RR;rw [hw2]
 refine Tz.pK ⟨fun t=>t==14,fun _=>[]⟩ Tryz.func110 rfl (fun Q hQ=>?_)
 have Y:=wa @Cond.c_eq (wa @Pattern.d.eq_1 (wa @Pattern.c.eq_1 (wa @Host.d.eq_1 (wa @Host.c.eq_1 (wa @Mat.d.eq_1 (wa @Mat.c.eq_1 @Prf.c_eq))))))
 refine wv (h:=aB ((by have hq:=Bg t ht p c hc hC hp h ho m hm inj h0;simp only [hw,Prf.c_eq,Cond.c_eq] at hq;unfold Types.d Types.c Pattern.d Pattern.c Host.d Host.c Mat.d Mat.c dLI dI at hq;exact hq)) wl ?_)
 refine dU (fun h2=>?_) fun h2=>?_
 ·rw [if_pos (by simpa using h2)] at hH
  exact wv (h:=hQ _ _ (by simp [go_sem,hH]))
 ·rw [if_neg (by simpa using h2)] at hH
  exact wv (h:=hQ _ _ (by simp [go_sem,hH,NJ]))
theorem Nn {H:AHeap}{d:D}(h:d.cl=true):eQ H d=d:=by cases d<;>first|rfl|simp [D.cl] at h
theorem Nm {H:AHeap}{d:D}(h:d.cl=true):iE H d=d:=by
 cases d with
 | agg cs =>
  simp only [D.cl] at h
  simp only [iE]
  congr 1
  conv=>rhs;rw [← List.map_id cs]
  exact bP fun y hy=>Nn (gF h y hy)
 | _=>exact Nn (H:=H) h
theorem Nl (H:AHeap){d:D}(h:d.cl=true):o9 H d=d:=by
 cases d with
 | tup vs =>
  simp only [D.cl] at h
  simp only [o9]
  congr 1
  conv=>rhs;rw [← List.map_id vs]
  exact bP fun y hy=>Nm (gF h y hy)
 | _=>exact Nm (H:=H) h
theorem WI {P:Program}{f:FuncId}{args:List D}{r:D}(hcl:r.cl=true)(h:ACalls P f args .emp fun d H'=>jB H' d=r):Pure P f args r:=by
 refine aU (ACalls.deep (h.mono fun d H' e=>⟨?_,hcl⟩))
 rw [e];exact Nl _ hcl
theorem OG {H:AHeap}{qs:List Nat}{vals:List (List Int)}(hl:qs.length=vals.length)(hg:∀ (i q:Nat) (v:List Int),qs[i]?=some q→vals[i]?=some v→H.get q=some ⟨3,1,v.map cI,false⟩):(mL qs vals).map (·.map (eQ H))=vals.map cL:=by
 apply eD
 intro i
 simp only [aN]
 by_cases hi:i<vals.length
 ·have hq:i<qs.length:=by omega
  have e1:=aA hi
  have e2:=aA hq
  rw [tE e2 e1,e1]
  have:=hg i _ _ e2 e1
  simp [eQ,this,cL,dLI]
 ·rw [bA (by rw [kM hl];omega),bA (by omega)];rfl
theorem Gg (h:Host)(hn:h.graph.nodes.length≤100000)(he:h.graph.edges.length≤100000)(hv:h.values.length≤100000)(hr:∀ v∈h.values,v.length≤100000):Pure Tryz.prog 112 [h.d] h.d:=by
 refine WI (Host.cld h) ?_
 obtain ⟨Q,hQ⟩:∃ Q:D→AHeap→Prop,∀ d H',Q d H'↔jB H' d=h.d:=⟨_,fun _ _=>Iff.rfl⟩
 rw [show (fun d H'=>jB H' d=h.d)=Q from funext fun d=>funext fun H'=>propext (hQ d H').symm]
 refine (aH (cfg:=⟨fun t=>t==2||t==3||t==25||t==1000001,fun r=>match r with|1=>[(0,10),(1,10),(2,10),(3,10),(4,10),(5,10),(6,10),(7,10)]|5=>[(0,2),(1,2),(0,4),(1,4),(0,5),(1,5)]|_=>[]⟩) Tz.mixed Tryz.func112 rfl rfl (aD rfl) (by kernel_rfl) ?_)
 have Y:=wa @Host.d.eq_1 @Host.c.eq_1
 refine wv (h:=?_)
 refine jI (gM h.graph.nodes (by omega)) (by simp [go_sem,dLI]) (by simp [go_sem]) (Fm _) rfl (by simp [go_sem]) ?_
 refine wv (h:=?_)
 refine jI (FJ h.graph.edges (by omega)) (by simp [go_sem]) (by simp [go_sem]) (Tu _) rfl (by simp [go_sem]) ?_
 refine wp (h:=sP (Ghosts.step (Ghosts.refl _) 11 0 2 31 1 _ _ ((by simp [go_sem];rfl)) rfl rfl rfl) (fun i e H=>∃ qs:List Nat,(e 1=.adr h.c∧e 2=.ptr 0 1 0 0∧e 3=.ptr 11 1 0 0∧e 17=.list (h.values.map cL)∧e 18=dI h.values.length∧e 19=dI i)∧(H.get 0=some ⟨50,3,[[.nil,.nil,.nil]],false⟩)∧(0<H.next)∧(H.get 11=some ⟨50,3,[[dLI h.graph.nodes,.list (h.graph.edges.map Edge.c),.own 13 i]],false⟩)∧(11<H.next)∧(H.get 13=some ⟨31,1,mL qs (h.values.take i),false⟩)∧(13<H.next)∧(i≤h.values.length)∧(qs.length=(h.values.take i).length)∧(∀ q∈qs,13<q∧q<H.next)∧(13<H.next)∧(∀ (k q:Nat) (v:List Int),qs[k]?=some q→(h.values.take i)[k]?=some v→H.get q=some ⟨3,1,v.map cI,false⟩)) (fun i=>h.values.length - i) 0 ⟨([]),wg,wn,wn,wn,wn,(by (simp [go_sem,Y,mL])),wn,wi,(by rfl),(by (intro q hq;cases hq)),(by (simp [go_sem])),(by (intro k q v hk;simp at hk))⟩ fun I0 hI0 i e H hi0=>?_)
 obtain ⟨qs,E0,g0_0,n0_0,g11_0,n11_0,g13_0,n13_0,hi,hql,hqr,hnx,hgq⟩:=hi0
 have Y:=wa Y (wa E0 (wa g0_0 (wa (cO n0_0) (wa g11_0 (wa (cO n11_0) (wa g13_0 (cO n13_0)))))))
 refine dU (fun h3=>?_) fun h3=>?_
 ·have hr8:=hr _ (aC h3)
  have hrl:(mL qs (h.values.take i)).length=i:=by rw [kM hql];simp;omega
  have hgq2:∀ H2:AHeap,H2.get (H.next+2)=some ⟨3,1,h.values[i].map cI,false⟩→(∀ q∈qs,H2.get q=H.get q)→∀ (k q:Nat) (v:List Int),(qs++[H.next+2])[k]?=some q→(h.values.take (i+1))[k]?=some v→H2.get q=some ⟨3,1,v.map cI,false⟩:=fun H2 g1 g2 k q v e1 e2=>by
   rw [aG h3] at e2
   have hqi:qs.length=i:=by rw [hql];simp;omega
   have hti:(h.values.take i).length=i:=by simp;omega
   by_cases hk:k<i
   ·rw [aX (by omega)] at e1
    rw [aX (by omega)] at e2
    rw [g2 q (aJ e1)];exact hgq k q v e1 e2
   ·have h1':=(aI.1 e1).1
    have:k=i:=by simp at h1';omega
    subst this
    rw [bE (by omega),hqi,rR] at e1
    rw [bE (by omega),hti,rR] at e2
    simp at e1 e2
    subst e1 e2;exact g1
  have Y:=wa Y (wa h3 (wa (aA h3) (wa @cL.eq_1 hrl)))
  exact wp (h:=wx hI0 (i+1) ⟨(qs++[H.next+2]),wg,wn,wn,wn,wn,(by (rw [aG h3,Et hql];simp [go_sem,Y,cL])),wn,wj,(by (simp [hql];omega)),(by (intro q hq;rw [aW,aR] at hq;rcases hq with hq|rfl;(have:=hqr q hq;simp [go_sem];omega);(simp [go_sem];omega))),(by (simp [go_sem];omega)),(by (exact hgq2 _ (by simp [go_sem,Y,cL]) (fun q hq=>by have:=hqr q hq;simp [go_sem,cO this.2,show q≠13 by omega,show q≠11 by omega])))⟩)
 ·rw [aK (by omega)] at hql hgq
  have hie:i=h.values.length:=by omega
  refine wv (h:=?_)
  refine (hQ _ _).2 ?_
  obtain ⟨E,hEq⟩:∃ E,E=H.put 0 ⟨50,3,[[D.list (List.map cI h.graph.nodes),D.list (List.map Edge.c h.graph.edges),D.own 13 i]],false⟩:=⟨_,rfl⟩
  rw [← hEq]
  have hE13:E.get 13=some ⟨31,1,mL qs (h.values.take i),false⟩:=by rw [hEq];simp [go_sem,g13_0]
  rw [aK (show h.values.length≤i by omega)] at hE13
  have hR:=OG (H:=E) hql (fun k q v e1 e2=>by
   have:=hqr q (aJ e1)
   rw [hEq];simp [go_sem,show q≠0 by omega];exact hgq k q v e1 e2)
  have hrl:=kM hql
  simp only [jB,jV,mK,eQ,i6,rS,hE13,hrl,hR,hie,if_true]
  rfl
theorem D6 (t:Types)(ht:t.ok)(k:Int):Own Tryz.prog 152 [t.d,dI k] 3 1 ((qY t k).map cI):=by
 have hal:=uZ ht k
 refine Tz.oK ⟨fun t=>t==9||t==16,fun _=>[]⟩ Tryz.func152 rfl (fun Q hQ=>?_)
 have Y:=trivial
 refine wv (h:=aB (o7 t ht k) wl ?_)
 refine wo (h:=cD (fun i e H=>∃ xs:List Int,(e 2=.adr t.c∧e 17=.list ((cN t k).map Attr.c)∧e 18=dI (cN t k).length∧e 19=dI i∧e 7=.own 0 xs.length)∧(H.get 0=some ⟨3,1,xs.map cI,false⟩)∧(0<H.next)∧(i≤(cN t k).length)∧(xs=((cN t k).take i).map (fun a=>a.low))) (fun i=>(cN t k).length - i) 0 ⟨([]),wg,wn,wn,wi,(by rfl)⟩ fun I0 hI0 i e H hi0=>?_)
 obtain ⟨xs,E0,g0_0,n0_0,hi,hx⟩:=hi0
 have Y:=wa Y (wa E0 (wa g0_0 (cO n0_0)))
 refine dU (fun h4=>?_) fun h4=>?_
 ·have hxl:xs.length=i:=by rw [hx];simp;omega
  have Y:=wa Y (wa h4 (wa (aA h4) @Attr.c.eq_1))
  exact wo (h:=wx hI0 (i+1) ⟨(xs++[(cN t k)[i].low]),wg,wn,wn,wj,(by (rw [jP _ h4,← hx]))⟩)
 ·have hX:xs=qY t k:=by rw [hx,p7 _ (by omega)];rfl
  refine wv (h:=?_)
  exact hQ _ _ _ (by simp [go_sem,Y,hX,dLI]) (by simp [go_sem,Y,hX,dLI])
theorem HH.nodeRow {H H':AHeap}{lo a b V:Nat}{qs:List Nat}{x:Host}(h:HH H lo a b V qs x)(hn:H.next≤H'.next){q:Nat}{nd:Int}{v:List Int}(hlo:lo≤q)(hq:∀ j∈a :: b :: V :: qs,j≠q)(hq2:q<H'.next)
  (ga:H'.get a=some ⟨3,1,(x.graph.nodes++[nd]).map cI,false⟩) (gq:H'.get q=some ⟨3,1,v.map cI,false⟩) (gV:H'.get V=some ⟨31,1,mL qs x.values++[[.own q v.length]],false⟩) (hf:∀ j∈b :: qs,H'.get j=H.get j) :
  HH H' lo a b V (qs++[q]) ⟨⟨x.graph.nodes++[nd],x.graph.edges⟩,x.values++[v]⟩ where
 ga:=ga
 gb:=(hf b (by simp)).trans h.gb
 gV:=by rw [Et h.len];exact gV
 len:=by simp [h.len]
 gq i q' v' h1 h2:=by
  by_cases hi:i<qs.length
  ·rw [aX hi] at h1
   rw [aX (by rw [← h.len];exact hi)] at h2
   exact (hf q' (by simp [aJ h1])).trans (h.gq i q' v' h1 h2)
  ·have h1':=(aI.1 h1).1
   have:i=qs.length:=by simp at h1';omega
   subst this
   simp at h1
   rw [h.len] at h2;simp at h2
   subst h1 h2;exact gq
 nd:=by
  have:=h.nd
  have e:a :: b :: V :: (qs++[q])=(a :: b :: V :: qs)++[q]:=rfl
  rw [e,mG]
  exact ⟨this,by simp,fun y hy z hz=>by rw [aR] at hz;subst hz;exact hq y hy⟩
 rng j hj:=by
  have e:a :: b :: V :: (qs++[q])=(a :: b :: V :: qs)++[q]:=rfl
  rw [e,aW,aR] at hj
  rcases hj with hj|rfl
  ·exact ⟨(h.rng j hj).1,b8 (h.rng j hj).2 hn⟩
  ·exact ⟨hlo,hq2⟩
def stpC (r:Rule)(m:Mat)(h:Host)(A B C:D)(tr co:Part):List D:=[.str r.name,dLI r.left.graph.nodes,.list (r.left.graph.edges.map Edge.c),.list (r.left.slots.map Slot.c),dI r.left.vars,.list (r.left.tests.map Test.c),
 dLI r.right.graph.nodes,.list (r.right.graph.edges.map Edge.c),.list (r.right.slots.map Slot.c),dI r.right.vars,.list (r.right.tests.map Test.c),
 dLI r.keep.nodes,dLI r.keep.edges,dLI r.into.nodes,dLI r.into.edges,.bool r.inj,
 dI r.cond.kind,.list (r.cond.kids.map Cond.c),dLI r.cond.map.nodes,dLI r.cond.map.edges,dLI r.cond.pattern.graph.nodes,.list (r.cond.pattern.graph.edges.map Edge.c),.list (r.cond.pattern.slots.map Slot.c),dI r.cond.pattern.vars,.list (r.cond.pattern.tests.map Test.c),
 dLI m.m.nodes,dLI m.m.edges,dLI m.vars,dLI h.graph.nodes,.list (h.graph.edges.map Edge.c),.list (h.values.map cL),A,B,C,dLI tr.nodes,dLI tr.edges,dLI co.nodes,dLI co.edges]
def V9 (h:Host)(tr:Part)(k:Int):Edge:=⟨(eA h.graph k).type,iA tr.nodes (eA h.graph k).from_,iA tr.nodes (eA h.graph k).to_⟩
def VX (h:Host)(d:Part)(i:Nat):Host:=⟨⟨(d.nodes.take i).map (gN h.graph),[]⟩,(d.nodes.take i).map fun k=>h.values[k.toNat]?.getD []⟩
def bdE (h:Host)(d tr:Part)(i:Nat):Host:=⟨⟨d.nodes.map (gN h.graph),(d.edges.take i).map (V9 h tr)⟩,d.nodes.map fun k=>h.values[k.toNat]?.getD []⟩
theorem Rr (h:Host)(d tr:Part){i:Nat}(hi:d.nodes.length≤i):bdE h d tr 0=VX h d i:=by unfold bdE VX;rw [aK hi];rfl
theorem LN (t:Types)(ht:t.ok)(r:Rule)(hR:RuleV t r)(m:Mat)(h:Host)(ho:HostOk t h)(d tr co:Part)(hdn:∀ x∈d.nodes,0≤x∧x<h.graph.nodes.length)(hde:∀ x∈d.edges,0≤x∧x<h.graph.edges.length)
  (hdl:d.nodes.length≤40∧d.edges.length≤80) (htl:tr.nodes.length=h.graph.nodes.length) (hcl:co.nodes.length=r.right.graph.nodes.length∧co.edges.length=r.right.graph.edges.length)
  (hcn:∀ i,i<r.right.graph.nodes.length→(co.nodes[i]?.getD 0=((d.nodes.length+(cV r.into.nodes i).length:Nat):Int)↔mem r.into.nodes i=false))
  (hce:∀ i,i<r.right.graph.edges.length→(co.edges[i]?.getD 0=((d.edges.length+(cV r.into.edges i).length:Nat):Int)↔mem r.into.edges i=false))
  (s a b V:Nat) (G:AHeap) (hs:G.get s=some ⟨115,38,[stpC r m h (.own a 0) (.own b 0) (.own V 0) tr co],false⟩) (hh0:HH G 0 a b V [] ⟨⟨[],[]⟩,[]⟩) (hsn:s<G.next) (hsd:s≠a∧s≠b∧s≠V) (hal0:∀ j,G.next≤j→¬ G.al j) (Q:D→AHeap→Prop)
  (hQ:∀ qs H',HH H' 0 a b V qs (AY t r co (bdE h d tr d.edges.length))→H'.get s=some ⟨115,38,[stpC r m h (.own a (AY t r co (bdE h d tr d.edges.length)).graph.nodes.length) (.own b (AY t r co (bdE h d tr d.edges.length)).graph.edges.length) (.own V (AY t r co (bdE h d tr d.edges.length)).values.length) tr co],false⟩ →
   (∀ j∈a :: b :: V :: qs,j≠s)→(∀ j∈qs,G.next≤j)→(∀ j,j<G.next→j∉[s,a,b,V]→H'.get j=G.get j)→G.next≤H'.next→Q (.tup []) H') :
  ACalls Tryz.prog 115 [t.d,.ptr s 1 0 0,d.d] G Q:=by
 have hga:=c9 hR.gr
 have hgi:=gA hR.gr
 have hhg:=c9 ho.gg
 have hhi:=gA ho.gg
 have hvl:=ho.vl
 have ha0:=hh0.rng a hh0.a_in
 have hb0:=hh0.rng b hh0.b_in
 have hV0:=hh0.rng V hh0.V_in
 have hab:=hh0.ab
 obtain ⟨hs1,hs2,hs3⟩:=hsd
 refine (aH (cfg:=⟨fun t=>t==6||t==7||t==12||t==16||t==59||t==166||t==1000001,fun r=>match r with|1=>[(1,10),(2,10),(3,10),(5,10),(6,10),(7,10),(8,10),(9,10),(1,11),(2,11),(3,11),(5,11),(6,11),(7,11),(8,11),(9,11),(10,11),(5,12),(6,12),(7,12),(8,12),(9,12)]|5=>[(2,13),(3,13),(4,13),(5,13),(6,13)]|6=>[(2,6),(3,6),(4,6),(5,6),(6,7),(6,8),(6,10),(6,11),(2,12),(3,12),(4,12),(5,12),(2,13),(3,13),(4,13),(5,13)]|12=>[(2,28),(3,28),(4,28),(5,28),(6,28)]|19=>[(2,8),(3,8),(4,8),(5,8),(2,9),(3,9),(4,9),(5,9)]|25=>[(2,28),(3,28),(4,28),(5,28),(6,28)]|_=>[]⟩) Tz.mixed Tryz.func115 rfl rfl (aD rfl) (by kernel_rfl) ?_)
 have di1:=And.intro (dP (show V≠b by omega)) (And.intro (dP (show V≠a by omega)) (And.intro (dP (show V≠s by omega)) (And.intro (dP (show b≠a by omega)) (And.intro (dP (show b≠s by omega)) (dP (show a≠s by omega))))))
 have fr2:=And.intro (cO (show s<G.next by omega)) (And.intro (cO (show a<G.next by omega)) (And.intro (cO (show b<G.next by omega)) (cO (show V<G.next by omega))))
 have Y:=wa hs (wa @stpC.eq_1 (wa @Part.d.eq_1 (wa @Part.c.eq_1 (wa @Host.c.eq_1 (wa @Graph.c.eq_1 (wa di1 fr2))))))
 refine wp (h:=cD (fun i e H=>∃ X:Nat,∃ Yb:Nat,∃ x:Host,∃ qs:List Nat,(e 1=.ptr s 1 0 0∧e 3=.adr t.c∧e 5=.adr d.c∧e 6=.ptr X 1 0 0∧e 7=.ptr Yb 1 0 0∧e 28=dLI d.nodes∧e 29=dI d.nodes.length∧e 30=dI i)∧(H.get X=some ⟨50,3,[h.c],false⟩)∧(X<H.next)∧(H.get Yb=some ⟨47,2,[r.right.graph.c],false⟩)∧(Yb<H.next)∧(H.get s=some ⟨115,38,[stpC r m h (.own a x.graph.nodes.length) (.own b x.graph.edges.length) (.own V x.values.length) tr co],false⟩)∧(s<H.next)∧(i≤d.nodes.length)∧(HH H 0 a b V qs x)∧(x=VX h d i)∧(∀ j∈a :: b :: V :: qs,j≠s)∧(∀ j∈qs,G.next≤j)∧(∀ j,H.next≤j→¬ H.al j)∧(∀ j,j<G.next→j∉[s,a,b,V]→H.get j=G.get j)∧(G.next≤H.next)∧(G.next≤X∧X<Yb)) (fun i=>d.nodes.length - i) 0 ⟨(G.next+10),(G.next+11),(⟨⟨[],[]⟩,[]⟩),([]),wg,wn,wn,wn,wn,wn,wn,wi,(by (exact hh0.same (by first|(simp [go_sem];done)|(simp [go_sem];omega)) (fun j hj=>by have:=(hh0.rng j hj).2;simp [go_sem,cO this]))),(by rfl),(by (intro j hj;simp at hj;omega)),(by (intro j hj;cases hj)),(by (intro j hj;simp [go_sem,f8,iU,oG] at hj ⊢;exact ⟨by omega,by omega,hal0 j (by omega)⟩)),(by (intro j hj hn;simp [go_sem,cO hj])),(by (first|(simp [go_sem];done)|(simp [go_sem];omega))),(by omega)⟩ fun I0 hI0 i e H hi0=>?_)
 obtain ⟨X,Yb,x,qs,E0,gX_0,nX_0,gYb_0,nYb_0,gs_0,ns_0,hi,hh,hx,hsq,hq0,hal,hG,hnx,hXY⟩:=hi0
 have di3:=And.intro (dP (show Yb≠X by omega)) (And.intro (dP (show Yb≠V by omega)) (And.intro (dP (show Yb≠b by omega)) (And.intro (dP (show Yb≠a by omega)) (And.intro (dP (show Yb≠s by omega)) (And.intro (dP (show X≠V by omega)) (And.intro (dP (show X≠b by omega)) (And.intro (dP (show X≠a by omega)) (And.intro (dP (show X≠s by omega)) (And.intro (dP (show V≠b by omega)) (And.intro (dP (show V≠a by omega)) (And.intro (dP (show V≠s by omega)) (And.intro (dP (show b≠a by omega)) (And.intro (dP (show b≠s by omega)) (dP (show a≠s by omega)))))))))))))))
 have Y:=wa Y (wa E0 (wa gX_0 (wa (cO nX_0) (wa gYb_0 (wa (cO nYb_0) (wa gs_0 (wa (cO ns_0) di3)))))))
 refine dU (fun h3=>?_) fun h3=>?_
 ·obtain ⟨k,hk⟩:∃ y,y=d.nodes[i]:=⟨_,rfl⟩
  have hkb:=hdn _ (aC h3)
  rw [← hk] at hkb
  have hkn:k.toNat<h.graph.nodes.length:=by omega
  have hkv:k.toNat<h.values.length:=by omega
  obtain ⟨x2,hx2⟩:∃ y:Host,y=⟨⟨x.graph.nodes++[h.graph.nodes[k.toNat]],x.graph.edges⟩,x.values++[h.values[k.toNat]]⟩:=⟨_,rfl⟩
  have hx3:x2=VX h d (i+1):=by rw [hx2,hx];unfold VX;rw [aG h3,← hk];simp [gN,aA hkn,aA hkv]
  have hrow:(h.values[k.toNat]).length≤1000:=by
   have:=(ho.row _ (aC hkv)).1
   omega
  have hxl:x.graph.nodes.length=i∧x.graph.edges.length=0∧x.values.length=i:=by rw [hx];simp [VX];omega
  have hx2l:x2.graph.nodes.length=x.graph.nodes.length+1∧x2.graph.edges.length=x.graph.edges.length∧x2.values.length=x.values.length+1:=by rw [hx2];simp
  have hga1:=hh.ga
  have hgV1:=hh.gV
  have hrl:=kM hh.len
  have hqa:=hh.rng a hh.a_in
  have hqV:=hh.rng V hh.V_in
  have hqb:=hh.rng b hh.b_in
  have hWq:∀ j∈a :: b :: V :: qs,j≠H.next+20+6:=fun j hj=>by have:=(hh.rng j hj).2;omega
  have hfrm:∀ j∈b :: qs,j≠a∧j≠s∧j≠V∧j<H.next:=fun j hj=>by
   rcases aO.1 hj with rfl|hj
   ·exact ⟨by omega,by omega,by omega,hqb.2⟩
   ·exact ⟨(hh.qn hj).1,hsq j (hh.q_in hj),(hh.qn hj).2.2,(hh.rng j (hh.q_in hj)).2⟩
  have hsq2:∀ j∈a :: b :: V :: (qs++[H.next+20+6]),j≠s:=fun j hj=>by
   have e:a :: b :: V :: (qs++[H.next+20+6])=(a :: b :: V :: qs)++[H.next+20+6]:=rfl
   rw [e,aW,aR] at hj
   rcases hj with hj|rfl
   ·exact hsq j hj
   ·omega
  have hq02:∀ j∈qs++[H.next+20+6],G.next≤j:=fun j hj=>by
   rw [aW,aR] at hj
   rcases hj with hj|rfl
   ·exact hq0 j hj
   ·omega
  have fr4:=And.intro (cO (show s<H.next by omega)) (And.intro (cO (show a<H.next by omega)) (And.intro (cO (show b<H.next by omega)) (cO (show V<H.next by omega))))
  have Y:=wa Y (wa h3 (wa (aA h3) (wa (Eq.symm hk) (wa (aA hkn) (wa (aA hkv) (wa hga1 (wa hgV1 (wa hrl (wa hx2l (wa @cL.eq_1 fr4))))))))))
  exact wp (h:=wx hI0 (i+1) ⟨X,Yb,x2,(qs++[H.next+20+6]),wg,wn,wn,wn,wn,wn,wn,wj,(by (rw [hx2];exact hh.nodeRow (by first|(simp [go_sem];done)|(simp [go_sem];omega)) (dE _) hWq (by first|(simp [go_sem];done)|(simp [go_sem];omega)) (by simp [go_sem,Y,cI]) (by simp [go_sem,Y]) (by simp [go_sem,Y]) (fun j hj=>by obtain ⟨k1,k2,k3,k4⟩:=hfrm j hj;simp [go_sem,k1,k2,k3,cO k4]))),(by exact hx3),(by exact hsq2),(by exact hq02),(by (intro j hj;simp [go_sem,f8,iU] at hj ⊢;exact ⟨by omega,hal j (by omega)⟩)),(by (intro j hj hn;simp only [aO,eW,or_false,not_or] at hn;simp [go_sem,hn,cO (show j<H.next by omega)];exact hG j hj (by simp [hn]))),(by (first|(simp [go_sem];done)|(simp [go_sem];omega))),(by exact hXY)⟩)
 ·have hx4:x=bdE h d tr 0:=by rw [hx,Rr _ _ _ (by omega)]
  have fr5:=And.intro (cO (show s<H.next by omega)) (And.intro (cO (show a<H.next by omega)) (And.intro (cO (show b<H.next by omega)) (cO (show V<H.next by omega))))
  have Y:=wa Y fr5
  refine wp (h:=cD (fun i e H=>∃ x:Host,(e 1=.ptr s 1 0 0∧e 3=.adr t.c∧e 5=.adr d.c∧e 6=.ptr X 1 0 0∧e 7=.ptr Yb 1 0 0∧e 73=dLI d.edges∧e 74=dI d.edges.length∧e 75=dI i)∧(H.get X=some ⟨50,3,[h.c],false⟩)∧(X<H.next)∧(H.get Yb=some ⟨47,2,[r.right.graph.c],false⟩)∧(Yb<H.next)∧(H.get s=some ⟨115,38,[stpC r m h (.own a x.graph.nodes.length) (.own b x.graph.edges.length) (.own V x.values.length) tr co],false⟩)∧(s<H.next)∧(i≤d.edges.length)∧(HH H 0 a b V qs x)∧(x=bdE h d tr i)∧(∀ j,H.next≤j→¬ H.al j)∧(∀ j,j<G.next→j∉[s,a,b,V]→H.get j=G.get j)∧(G.next≤H.next)) (fun i=>d.edges.length - i) 0 ⟨x,wg,wn,wn,wn,wn,wn,wn,wi,(by (exact hh)),(by (exact hx4)),(by (exact hal)),(by (exact hG)),(by (exact hnx))⟩ fun I2 hI2 i e H hi2=>?_)
  obtain ⟨x,E2,gX_2,nX_2,gYb_2,nYb_2,gs_2,ns_2,hi,hh,hx,hal,hG,hnx⟩:=hi2
  have di6:=And.intro (dP (show Yb≠X by omega)) (And.intro (dP (show Yb≠V by omega)) (And.intro (dP (show Yb≠b by omega)) (And.intro (dP (show Yb≠a by omega)) (And.intro (dP (show Yb≠s by omega)) (And.intro (dP (show X≠V by omega)) (And.intro (dP (show X≠b by omega)) (And.intro (dP (show X≠a by omega)) (And.intro (dP (show X≠s by omega)) (And.intro (dP (show V≠b by omega)) (And.intro (dP (show V≠a by omega)) (And.intro (dP (show V≠s by omega)) (And.intro (dP (show b≠a by omega)) (And.intro (dP (show b≠s by omega)) (dP (show a≠s by omega)))))))))))))))
  have Y:=wa Y (wa E2 (wa gX_2 (wa (cO nX_2) (wa gYb_2 (wa (cO nYb_2) (wa gs_2 (wa (cO ns_2) di6)))))))
  refine dU (fun h9=>?_) fun h9=>?_
  ·obtain ⟨k,hk⟩:∃ y,y=d.edges[i]:=⟨_,rfl⟩
   have hkb:=hde _ (aC h9)
   rw [← hk] at hkb
   have hkn:k.toNat<h.graph.edges.length:=by omega
   obtain ⟨y,hy⟩:∃ y,y=h.graph.edges[k.toNat]:=⟨_,rfl⟩
   have hyi:=(hhi.2 _ (aC hkn)).2
   rw [← hy] at hyi
   have hyf:y.from_.toNat<tr.nodes.length:=by omega
   have hyt:y.to_.toNat<tr.nodes.length:=by omega
   have hyA:eA h.graph k=y:=by rw [hy];simp [eA,aA hkn]
   have htE:V9 h tr k=⟨y.type,tr.nodes[y.from_.toNat],tr.nodes[y.to_.toNat]⟩:=by unfold V9;rw [hyA];simp [iA,aA hyf,aA hyt]
   obtain ⟨x2,hx2⟩:∃ z:Host,z=⟨⟨x.graph.nodes,x.graph.edges++[V9 h tr k]⟩,x.values⟩:=⟨_,rfl⟩
   have hx3:x2=bdE h d tr (i+1):=by rw [hx2,hx];unfold bdE;rw [aG h9,← hk];simp
   have hxl:x.graph.edges.length=i:=by rw [hx];simp [bdE];omega
   have hx2l:x2.graph.nodes.length=x.graph.nodes.length∧x2.graph.edges.length=x.graph.edges.length+1∧x2.values.length=x.values.length:=by rw [hx2];simp
   have hgb1:=hh.gb
   have hqa:=hh.rng a hh.a_in
   have hqV:=hh.rng V hh.V_in
   have hqb:=hh.rng b hh.b_in
   have hfrm:∀ j∈a :: V :: qs,j≠b∧j≠s∧j<H.next:=fun j hj=>by
    have hj':j∈a :: b :: V :: qs:=by simp only [aO] at hj ⊢;rcases hj with h|h|h<;>simp [h]
    refine ⟨?_,hsq j hj',(hh.rng j hj').2⟩
    rintro rfl
    have:=hh.nd;simp only [s4,aO,not_or] at this
    simp only [aO] at hj
    rcases hj with h|h|h
    ·exact this.1.1 h.symm
    ·exact this.2.1.1 h
    ·exact this.2.1.2 h
   have fr7:=And.intro (cO (show s<H.next by omega)) (And.intro (cO (show a<H.next by omega)) (And.intro (cO (show b<H.next by omega)) (cO (show V<H.next by omega))))
   have Y:=wa Y (wa h9 (wa (aA h9) (wa (Eq.symm hk) (wa (aA hkn) (wa (Eq.symm hy) (wa (aA hyf) (wa (aA hyt) (wa hgb1 (wa hx2l (wa @Edge.c.eq_1 fr7))))))))))
   exact wp (h:=wx hI2 (i+1) ⟨x2,wg,wn,wn,wn,wn,wn,wn,wj,(by (rw [hx2];exact hh.edges (by first|(simp [go_sem];done)|(simp [go_sem];omega)) (by simp [go_sem,Y,htE,Edge.c]) (fun j hj=>by obtain ⟨k1,k2,k3⟩:=hfrm j hj;simp [go_sem,k1,k2,cO k3]))),(by exact hx3),(by (intro j hj;simp [go_sem,f8,iU] at hj ⊢;first|exact ⟨by omega,hal j (by omega)⟩|exact hal j (by omega)|exact ⟨by omega,by omega,hal j (by omega)⟩)),(by (intro j hj hn;simp only [aO,eW,or_false,not_or] at hn;simp [go_sem,hn,cO (show j<H.next by omega)];exact hG j hj (by simp [hn]))),(by (first|(simp [go_sem];done)|(simp [go_sem];omega)))⟩)
  ·have hx5:x=Pq t r (bdE h d tr d.edges.length) 0:=by rw [hx,show i=d.edges.length by omega];simp [Pq,cV]
   have fr8:=And.intro (cO (show s<H.next by omega)) (And.intro (cO (show a<H.next by omega)) (And.intro (cO (show b<H.next by omega)) (cO (show V<H.next by omega))))
   have Y:=wa Y fr8
   refine wp (h:=cD (fun i e H=>∃ x:Host,∃ qs:List Nat,(e 1=.ptr s 1 0 0∧e 3=.adr t.c∧e 5=.adr d.c∧e 7=.ptr Yb 1 0 0∧e 121=dLI r.right.graph.nodes∧e 122=dI r.right.graph.nodes.length∧e 123=dI i)∧(H.get Yb=some ⟨47,2,[r.right.graph.c],false⟩)∧(Yb<H.next)∧(H.get s=some ⟨115,38,[stpC r m h (.own a x.graph.nodes.length) (.own b x.graph.edges.length) (.own V x.values.length) tr co],false⟩)∧(s<H.next)∧(i≤r.right.graph.nodes.length)∧(HH H 0 a b V qs x)∧(x=Pq t r (bdE h d tr d.edges.length) i)∧(∀ j∈a :: b :: V :: qs,j≠s)∧(∀ j∈qs,G.next≤j)∧(∀ j,H.next≤j→¬ H.al j)∧(∀ j,j<G.next→j∉[s,a,b,V]→H.get j=G.get j)∧(G.next≤H.next)) (fun i=>r.right.graph.nodes.length - i) 0 ⟨x,qs,wg,wn,wn,wn,wn,wi,(by (exact hh)),(by (exact hx5)),(by (exact hsq)),(by (exact hq0)),(by (exact hal)),(by (exact hG)),(by (exact hnx))⟩ fun I4 hI4 i e H hi4=>?_)
   obtain ⟨x,qs,E4,gYb_4,nYb_4,gs_4,ns_4,hi,hh,hx,hsq,hq0,hal,hG,hnx⟩:=hi4
   have di9:=And.intro (dP (show Yb≠V by omega)) (And.intro (dP (show Yb≠b by omega)) (And.intro (dP (show Yb≠a by omega)) (And.intro (dP (show Yb≠s by omega)) (And.intro (dP (show V≠b by omega)) (And.intro (dP (show V≠a by omega)) (And.intro (dP (show V≠s by omega)) (And.intro (dP (show b≠a by omega)) (And.intro (dP (show b≠s by omega)) (dP (show a≠s by omega))))))))))
   have Y:=wa Y (wa E4 (wa gYb_4 (wa (cO nYb_4) (wa gs_4 (wa (cO ns_4) di9)))))
   refine dU (fun h15=>?_) fun h15=>?_
   ·have hsu:=uO r.into.nodes i
    obtain ⟨nd,hnd⟩:∃ y,y=r.right.graph.nodes[i]:=⟨_,rfl⟩
    have hgn:gN r.right.graph (i:Int)=nd:=by rw [hnd];simp [gN,aA h15]
    have hoL:=r5 r.into.nodes i
    have hcb:i<co.nodes.length:=by omega
    have hcc:=hcn i h15
    rw [aA hcb,aF] at hcc
    have hxl:x.graph.nodes.length=d.nodes.length+(cV r.into.nodes i).length∧x.values.length=x.graph.nodes.length∧x.graph.edges.length≤100:=by rw [hx];simp [Pq,bdE];omega
    have hga1:=hh.ga
    have hgV1:=hh.gV
    have hrl:=kM hh.len
    have hqa:=hh.rng a hh.a_in
    have hqV:=hh.rng V hh.V_in
    have hqb:=hh.rng b hh.b_in
    have fr10:=And.intro (cO (show s<H.next by omega)) (And.intro (cO (show a<H.next by omega)) (And.intro (cO (show b<H.next by omega)) (cO (show V<H.next by omega))))
    have Y:=wa Y (wa h15 (wa (aA h15) (wa (Eq.symm hnd) (wa (aA hcb) (wa hga1 (wa hgV1 (wa hrl fr10)))))))
    refine qJ (fun h17=>?_) fun h17=>?_
    ·have hm:mem r.into.nodes i=false:=hcc.1 (by simpa [hxl.1] using h17)
     rw [if_neg (by rw [hm];simp)] at hsu
     have hlv:(qY t nd).length≤8:=by unfold qY;rw [bM];exact u0 hR.vf nd
     obtain ⟨x2,hx2⟩:∃ y:Host,y=⟨⟨x.graph.nodes++[nd],x.graph.edges⟩,x.values++[qY t nd]⟩:=⟨_,rfl⟩
     obtain ⟨qs2,hqs2⟩:∃ y,y=qs++[H.next]:=⟨_,rfl⟩
     have hx3:x2=Pq t r (bdE h d tr d.edges.length) (i+1):=by rw [hx2,hx];unfold Pq;rw [hsu];simp [hgn]
     have hx2l:x2.graph.nodes.length=x.graph.nodes.length+1∧x2.graph.edges.length=x.graph.edges.length∧x2.values.length=x.values.length+1:=by rw [hx2];simp
     have hWq:∀ j∈a :: b :: V :: qs,j≠H.next:=fun j hj=>by have:=(hh.rng j hj).2;omega
     have hfrm:∀ j∈b :: qs,j≠a∧j≠s∧j≠V∧j<H.next:=fun j hj=>by
      rcases aO.1 hj with rfl|hj
      ·exact ⟨by omega,by omega,by omega,hqb.2⟩
      ·exact ⟨(hh.qn hj).1,hsq j (hh.q_in hj),(hh.qn hj).2.2,(hh.rng j (hh.q_in hj)).2⟩
     have hsq2:∀ j∈a :: b :: V :: qs2,j≠s:=fun j hj=>by
      have e:a :: b :: V :: qs2=(a :: b :: V :: qs)++[H.next]:=by rw [hqs2];rfl
      rw [e,aW,aR] at hj
      rcases hj with hj|rfl
      ·exact hsq j hj
      ·omega
     have hq02:∀ j∈qs2,G.next≤j:=fun j hj=>by
      rw [hqs2,aW,aR] at hj
      rcases hj with hj|rfl
      ·exact hq0 j hj
      ·omega
     have Y:=wa Y (wa (aA h15) (wa (aA hcb) hx2l))
     refine wp (h:=?_)
     refine pH H.next (D6 t ht nd) (by first|rfl|(simp [go_sem];done)) rfl (by first|omega|(simp [go_sem];done)|(first|(simp [go_sem];done)|(simp [go_sem];omega))) (by simp [f8,iU];exact hal _ (by omega)) (by first|trivial|(simp [go_sem];done)|(simp [go_sem,Dr];done)|(simp [go_sem,Dr];omega)) ?_
     exact wp (h:=wx hI4 (i+1) ⟨x2,qs2,wg,wn,wn,wn,wn,wj,(by (first|exact hh2|exact hh2.same (by first|(simp [go_sem];done)|(simp [go_sem];omega)) (fun _ _=>rfl)|exact hh2.same (by first|(simp [go_sem];done)|(simp [go_sem];omega)) (fun j hj=>by have:=(hh2.rng j hj).2;simp [go_sem,cO this])|(rw [hx2,hqs2];exact hh.nodeRow (by first|(simp [go_sem];done)|(simp [go_sem];omega)) (dE _) hWq (by first|(simp [go_sem];done)|(simp [go_sem];omega)) (by simp [go_sem,Y,cI]) (by simp [go_sem,Y]) (by simp [go_sem,Y]) (fun j hj=>by obtain ⟨k1,k2,k3,k4⟩:=hfrm j hj;simp [go_sem,k1,k2,k3,cO k4])))),(by exact hx3),(by exact hsq2),(by exact hq02),(by (intro j hj;simp [go_sem,f8,iU] at hj ⊢;first|exact ⟨by omega,hal j (by omega)⟩|exact hal j (by omega))),(by (first|exact hG2|(intro j hj hn;simp only [aO,eW,or_false,not_or] at hn;simp [go_sem,hn,cO (show j<H.next by omega)];exact hG j hj (by simp [hn])))),(by (first|(simp [go_sem];done)|(simp [go_sem];omega)))⟩)
    ·have hm:mem r.into.nodes i=true:=by
      cases hmm:mem r.into.nodes i with
      | true=>rfl
      | false=>exact absurd (by simpa [hxl.1] using hcc.2 hmm) h17
     rw [if_pos hm,gJ] at hsu
     obtain ⟨x2,hx2⟩:∃ y,y=x:=⟨_,rfl⟩
     obtain ⟨qs2,hqs2⟩:∃ y,y=qs:=⟨_,rfl⟩
     have hx3:x2=Pq t r (bdE h d tr d.edges.length) (i+1):=by rw [hx2,hx];unfold Pq;rw [hsu]
     have hh2:HH H 0 a b V qs2 x2:=by rw [hx2,hqs2];exact hh
     have hsq2:∀ j∈a :: b :: V :: qs2,j≠s:=by rw [hqs2];exact hsq
     have hq02:∀ j∈qs2,G.next≤j:=by rw [hqs2];exact hq0
     have hG2:=hG
     have Y:=wa Y hx2
     exact wp (h:=wx hI4 (i+1) ⟨x2,qs2,wg,wn,wn,wn,wn,wj,(by (first|exact hh2|exact hh2.same (by first|(simp [go_sem];done)|(simp [go_sem];omega)) (fun _ _=>rfl)|exact hh2.same (by first|(simp [go_sem];done)|(simp [go_sem];omega)) (fun j hj=>by have:=(hh2.rng j hj).2;simp [go_sem,cO this])|(rw [hx2,hqs2];exact hh.nodeRow (by first|(simp [go_sem];done)|(simp [go_sem];omega)) (dE _) hWq (by first|(simp [go_sem];done)|(simp [go_sem];omega)) (by simp [go_sem,Y,cI]) (by simp [go_sem,Y]) (by simp [go_sem,Y]) (fun j hj=>by obtain ⟨k1,k2,k3,k4⟩:=hfrm j hj;simp [go_sem,k1,k2,k3,cO k4])))),(by exact hx3),(by exact hsq2),(by exact hq02),(by (intro j hj;simp [go_sem,f8,iU] at hj ⊢;first|exact ⟨by omega,hal j (by omega)⟩|exact hal j (by omega))),(by (first|exact hG2|(intro j hj hn;simp only [aO,eW,or_false,not_or] at hn;simp [go_sem,hn,cO (show j<H.next by omega)];exact hG j hj (by simp [hn])))),(by (first|(simp [go_sem];done)|(simp [go_sem];omega)))⟩)
   ·have hie:i=r.right.graph.nodes.length:=by omega
    have hx6:x=Tt t r co (Pq t r (bdE h d tr d.edges.length) r.right.graph.nodes.length) 0:=by rw [hx,hie];simp [Tt,cV]
    have fr11:=And.intro (cO (show s<H.next by omega)) (And.intro (cO (show a<H.next by omega)) (And.intro (cO (show b<H.next by omega)) (cO (show V<H.next by omega))))
    have Y:=wa Y fr11
    refine wp (h:=cD (fun i e H=>∃ x:Host,(e 1=.ptr s 1 0 0∧e 3=.adr t.c∧e 5=.adr d.c∧e 174=.list (r.right.graph.edges.map Edge.c)∧e 175=dI r.right.graph.edges.length∧e 176=dI i)∧(H.get s=some ⟨115,38,[stpC r m h (.own a x.graph.nodes.length) (.own b x.graph.edges.length) (.own V x.values.length) tr co],false⟩)∧(s<H.next)∧(i≤r.right.graph.edges.length)∧(HH H 0 a b V qs x)∧(x=Tt t r co (Pq t r (bdE h d tr d.edges.length) r.right.graph.nodes.length) i)∧(∀ j,j<G.next→j∉[s,a,b,V]→H.get j=G.get j)∧(G.next≤H.next)) (fun i=>r.right.graph.edges.length - i) 0 ⟨x,wg,wn,wn,wi,(by (exact hh)),(by (exact hx6)),(by (exact hG)),(by (exact hnx))⟩ fun I6 hI6 i e H hi6=>?_)
    obtain ⟨x,E6,gs_6,ns_6,hi,hh,hx,hG,hnx⟩:=hi6
    have di12:=And.intro (dP (show V≠b by omega)) (And.intro (dP (show V≠a by omega)) (And.intro (dP (show V≠s by omega)) (And.intro (dP (show b≠a by omega)) (And.intro (dP (show b≠s by omega)) (dP (show a≠s by omega))))))
    have Y:=wa Y (wa E6 (wa gs_6 (wa (cO ns_6) di12)))
    refine dU (fun h22=>?_) fun h22=>?_
    ·have hsu:=uO r.into.edges i
     obtain ⟨y,hy⟩:∃ y,y=r.right.graph.edges[i]:=⟨_,rfl⟩
     have hye2:r.right.graph.edges[i]?.getD cC=y:=by rw [hy,aA h22];rfl
     have hyi:=(hgi.2 _ (aC h22)).2
     rw [← hy] at hyi
     have hyf:y.from_.toNat<co.nodes.length:=by omega
     have hyt:y.to_.toNat<co.nodes.length:=by omega
     have hoE:=r5 r.into.edges i
     have hcb:i<co.edges.length:=by omega
     have hcc:=hce i h22
     rw [aA hcb,aF] at hcc
     have hxl:x.graph.edges.length=d.edges.length+(cV r.into.edges i).length:=by rw [hx];simp [Tt,Pq,bdE]
     have hgb1:=hh.gb
     have hqb:=hh.rng b hh.b_in
     have hqa:=hh.rng a hh.a_in
     have hqV:=hh.rng V hh.V_in
     have fr13:=And.intro (cO (show s<H.next by omega)) (And.intro (cO (show a<H.next by omega)) (And.intro (cO (show b<H.next by omega)) (cO (show V<H.next by omega))))
     have Y:=wa Y (wa h22 (wa (aA h22) (wa (Eq.symm hy) (wa (aA hyf) (wa (aA hyt) (wa (aA hcb) (wa hgb1 (wa @Edge.c.eq_1 fr13))))))))
     refine qJ (fun h24=>?_) fun h24=>?_
     ·have hm:mem r.into.edges i=false:=hcc.1 (by simpa [hxl] using h24)
      rw [if_neg (by rw [hm];simp)] at hsu
      have hfr:freshE co y=⟨y.type,co.nodes[y.from_.toNat],co.nodes[y.to_.toNat]⟩:=by unfold freshE;rw [aA hyf,aA hyt];rfl
      obtain ⟨x2,hx2⟩:∃ z:Host,z=⟨⟨x.graph.nodes,x.graph.edges++[freshE co y]⟩,x.values⟩:=⟨_,rfl⟩
      have hx3:x2=Tt t r co (Pq t r (bdE h d tr d.edges.length) r.right.graph.nodes.length) (i+1):=by rw [hx2,hx];unfold Tt;rw [hsu];simp [hye2]
      have hx2l:x2.graph.nodes.length=x.graph.nodes.length∧x2.graph.edges.length=x.graph.edges.length+1∧x2.values.length=x.values.length:=by rw [hx2];simp
      have hfrm:∀ j∈a :: V :: qs,j≠b∧j≠s∧j<H.next:=fun j hj=>by
       have hj':j∈a :: b :: V :: qs:=by simp only [aO] at hj ⊢;rcases hj with h|h|h<;>simp [h]
       refine ⟨?_,hsq j hj',(hh.rng j hj').2⟩
       rintro rfl
       have:=hh.nd;simp only [s4,aO,not_or] at this
       simp only [aO] at hj
       rcases hj with h|h|h
       ·exact this.1.1 h.symm
       ·exact this.2.1.1 h
       ·exact this.2.1.2 h
      have Y:=wa Y hx2l
      exact wp (h:=wx hI6 (i+1) ⟨x2,wg,wn,wn,wj,(by (first|exact hh2|exact hh2.same (by first|(simp [go_sem];done)|(simp [go_sem];omega)) (fun _ _=>rfl)|exact hh2.same (by first|(simp [go_sem];done)|(simp [go_sem];omega)) (fun j hj=>by have:=(hh2.rng j hj).2;simp [go_sem,cO this])|(rw [hx2];exact hh.edges (by first|(simp [go_sem];done)|(simp [go_sem];omega)) (by simp [go_sem,Y,hfr,Edge.c]) (fun j hj=>by obtain ⟨k1,k2,k3⟩:=hfrm j hj;simp [go_sem,k1,k2,cO k3])))),(by exact hx3),(by (first|exact hG2|(intro j hj hn;simp only [aO,eW,or_false,not_or] at hn;simp [go_sem,hn,cO (show j<H.next by omega)];exact hG j hj (by simp [hn])))),(by (first|(simp [go_sem];done)|(simp [go_sem];omega)))⟩)
     ·have hm:mem r.into.edges i=true:=by
       cases hmm:mem r.into.edges i with
       | true=>rfl
       | false=>exact absurd (by simpa [hxl] using hcc.2 hmm) h24
      rw [if_pos hm,gJ] at hsu
      obtain ⟨x2,hx2⟩:∃ z,z=x:=⟨_,rfl⟩
      have hx3:x2=Tt t r co (Pq t r (bdE h d tr d.edges.length) r.right.graph.nodes.length) (i+1):=by rw [hx2,hx];unfold Tt;rw [hsu]
      have hh2:HH H 0 a b V qs x2:=by rw [hx2];exact hh
      have hG2:=hG
      have Y:=wa Y hx2
      exact wp (h:=wx hI6 (i+1) ⟨x2,wg,wn,wn,wj,(by (first|exact hh2|exact hh2.same (by first|(simp [go_sem];done)|(simp [go_sem];omega)) (fun _ _=>rfl)|exact hh2.same (by first|(simp [go_sem];done)|(simp [go_sem];omega)) (fun j hj=>by have:=(hh2.rng j hj).2;simp [go_sem,cO this])|(rw [hx2];exact hh.edges (by first|(simp [go_sem];done)|(simp [go_sem];omega)) (by simp [go_sem,Y,hfr,Edge.c]) (fun j hj=>by obtain ⟨k1,k2,k3⟩:=hfrm j hj;simp [go_sem,k1,k2,cO k3])))),(by exact hx3),(by (first|exact hG2|(intro j hj hn;simp only [aO,eW,or_false,not_or] at hn;simp [go_sem,hn,cO (show j<H.next by omega)];exact hG j hj (by simp [hn])))),(by (first|(simp [go_sem];done)|(simp [go_sem];omega)))⟩)
    ·have hX:x=AY t r co (bdE h d tr d.edges.length):=by rw [hx,show i=r.right.graph.edges.length by omega];rfl
     rw [hX] at hh
     have Y:=wa Y hX
     refine wv (h:=?_)
     exact hQ qs _ hh (by simp [go_sem,Y]) hsq hq0 hG hnx
def kV (c:Part)(s:Slot):Int:=c.nodes[s.node.toNat]?.getD 0
def PW (c:Part)(vs:List Int)(F:FM)(s:Slot):FM:=If F (kV c s) s.attr (dD s.term vs)
def FA (c:Part)(vs:List Int)(l:List Slot):FM:=l.foldl (PW c vs) fun _ _=>none
theorem Od (c:Part)(vs:List Int)(l:List Slot)(s:Slot):FA c vs (l++[s])=If (FA c vs l) (kV c s) s.attr (dD s.term vs):=by unfold FA;rw [cG];rfl
theorem RF (c:Part)(vs:List Int)(u v x:Int):∀ (l:List Slot) (F:FM),l.foldl (PW c vs) F u v=some x→(∃ s∈l,kV c s=u∧s.attr=v∧dD s.term vs=x)∨F u v=some x
 | [],F,h=>.inr h
 | s :: l,F,h=>by
  rcases RF c vs u v x l _ h with ⟨s',hs',e⟩|h'
  ·exact .inl ⟨s',bH _ hs',e⟩
  ·unfold PW If at h'
   split at h'
   ·rename_i he;exact .inl ⟨s,dA ..,he.1.symm,he.2.symm,by simpa using h'⟩
   ·exact .inr h'
theorem DO {c:Part}{vs:List Int}{l:List Slot}{u v x:Int}(h:FA c vs l u v=some x):∃ s∈l,kV c s=u∧s.attr=v∧dD s.term vs=x:=by
 rcases RF c vs u v x l _ h with h|h
 ·exact h
 ·cases h
theorem TI (c:Part)(vs:List Int)(u v:Int):∀ (l:List Slot) (F:FM),((∃ s∈l,kV c s=u∧s.attr=v)∨(F u v).isSome=true)→(l.foldl (PW c vs) F u v).isSome=true
 | [],F,h=>h.elim (fun ⟨s,hs,_⟩=>by cases hs) id
 | s :: l,F,h=>TI c vs u v l _ (by
   by_cases he:kV c s=u∧s.attr=v
   ·right;unfold PW If;rw [if_pos ⟨he.1.symm,he.2.symm⟩];rfl
   ·rcases h with ⟨s',hs',e⟩|h
    ·rcases aO.1 hs' with rfl|h2
     ·exact absurd e he
     ·exact .inl ⟨s',h2,e⟩
    ·right;unfold PW If;split
     ·rfl
     ·exact h)
def V0 (c:Part)(vs:List Int)(l:List Slot):Prop:=∀ s∈l,∀ s'∈l,kV c s=kV c s'→s.attr=s'.attr→dD s.term vs=dD s'.term vs
theorem RE {c:Part}{vs:List Int}{l:List Slot}(h:V0 c vs l){s:Slot}(hs:s∈l):FA c vs l (kV c s) s.attr=some (dD s.term vs):=by
 have h1:=TI c vs (kV c s) s.attr l (fun _ _=>none) (.inl ⟨s,hs,rfl,rfl⟩)
 obtain ⟨x,hx⟩:=jR.1 h1
 have hx':FA c vs l (kV c s) s.attr=some x:=hx
 obtain ⟨s',hs',e1,e2,e3⟩:=DO hx'
 rw [hx',← e3,h s' hs' s hs e1 e2]
theorem RH {c:Part}{vs:List Int}{l:List Slot}(h:V0 c vs l){s:Slot}(h1:∀ x,FA c vs l (kV c s) s.attr=some x→x=dD s.term vs):V0 c vs (l++[s]):=by
 have key:∀ s'∈l,kV c s'=kV c s→s'.attr=s.attr→dD s'.term vs=dD s.term vs:=fun s' hs' e1 e2=>by
  have:=RE h hs'
  rw [e1,e2] at this
  exact h1 _ this
 intro a ha b hb e1 e2
 rw [aW,aR] at ha hb
 rcases ha with ha|rfl<;>rcases hb with hb|rfl
 ·exact h a ha b hb e1 e2
 ·exact key a ha e1 e2
 ·exact (key b hb e1.symm e2.symm).symm
 ·rfl
theorem nM {c:Part}{s:Slot}:iI c s=(kV c s).toNat:=rfl
theorem Rm {c:Part}{vs:List Int}{l:List Slot}{i:Nat}(hi:i<l.length){x:Int}(h:FA c vs (l.take i) (kV c l[i]) l[i].attr=some x)(hn:x≠dD l[i].term vs):Ai c vs l=true:=by
 obtain ⟨s',hs',e1,e2,e3⟩:=DO h
 obtain ⟨k,hk,rfl⟩:=aM hs'
 rw [List.getElem_take] at e1 e2 e3
 have hki:k<i:=by simp at hk;omega
 have hkl:k<l.length:=by omega
 rw [Cl,bX]
 refine ⟨i,by simpa using hi,?_⟩
 rw [bX]
 refine ⟨k,by simpa using hki,?_⟩
 unfold FK FN
 simp only [aA hkl,aA hi,nM,e1,e2,e3]
 simp [hn]
theorem MT {c:Part}{vs:List Int}{l:List Slot}(hp:∀ s∈l,0≤kV c s)(h:V0 c vs l):Ai c vs l=false:=by
 rw [Cl,eE]
 intro hT
 rw [bX] at hT
 obtain ⟨i,hi,hT⟩:=hT
 rw [bX] at hT
 obtain ⟨k,hk,hT⟩:=hT
 rw [b7] at hi hk
 have hkl:k<l.length:=by omega
 unfold FK FN at hT
 simp only [aA hkl,aA hi,nM,aQ,decide_eq_true_eq] at hT
 obtain ⟨h1,h2,h3⟩:=hT
 have a1:=hp _ (aC hkl)
 have a2:=hp _ (aC hi)
 have h1':(kV c l[k]).toNat=(kV c l[i]).toNat:=of_decide_eq_true h1
 have h2':l[k].attr=l[i].attr:=by simpa using h2
 have h3':dD l[k].term vs≠dD l[i].term vs:=by simpa using h3
 exact h3' (h _ (aC hkl) _ (aC hi) (by omega) h2')
/-! ### the values that are set -/
def wT (F:FM)(dn:Int→Int→Bool)(vals:List (List Int)):List (List Int) :=
 (List.range vals.length).map fun (n:Nat)=>(List.range (vals[n]?.getD []).length).map fun (a:Nat)=>if dn n a=true then (F n a).getD 0 else (vals[n]?.getD [])[a]?.getD 0
theorem qQ (F:FM)(dn:Int→Int→Bool)(vals:List (List Int)):(wT F dn vals).length=vals.length:=by simp [wT]
theorem pB (F:FM)(dn:Int→Int→Bool)(vals:List (List Int))(n:Nat):((wT F dn vals)[n]?.getD []).length=(vals[n]?.getD []).length:=by
 unfold wT
 by_cases hn:n<vals.length
 ·simp [aN,iW hn]
 ·rw [bA (by simp;omega),bA (by omega)]
theorem wS (F:FM)(dn:Int→Int→Bool)(vals:List (List Int)){n a:Nat}(hn:n<vals.length)(ha:a<(vals[n]?.getD []).length):((wT F dn vals)[n]?.getD [])[a]?=some (if dn n a=true then (F n a).getD 0 else (vals[n]?.getD [])[a]?.getD 0):=by
 unfold wT
 rw [aN,iW hn,dK,aF,aN,iW ha,dK]
theorem Er {x y:List (List Int)}(h1:x.length=y.length)(h2:∀ n:Nat,(x[n]?.getD []).length=(y[n]?.getD []).length)(h3:∀ n a:Nat,n<y.length→a<(y[n]?.getD []).length→(x[n]?.getD [])[a]?=(y[n]?.getD [])[a]?):x=y:=by
 apply fS h1
 intro n g1 g2
 have e1:x[n]?.getD []=x[n]:=by rw [aA g1];rfl
 have e2:y[n]?.getD []=y[n]:=by rw [aA g2];rfl
 have l1:=h2 n
 rw [e1,e2] at l1
 apply eD
 intro a
 by_cases ha:a<y[n].length
 ·have:=h3 n a g2 (by rw [e2];exact ha)
  rwa [e1,e2] at this
 ·rw [bA (by omega),bA (by omega)]
theorem OV (F:FM)(vals:List (List Int)){dn:Int→Int→Bool}(h:∀ n a:Nat,n<vals.length→a<(vals[n]?.getD []).length→dn n a=false):wT F dn vals=vals:=by
 refine Er (qQ _ _ _) (pB _ _ _) fun n a hn ha=>?_
 rw [wS _ _ _ hn ha,if_neg (by rw [h n a hn ha];simp),aA ha];rfl
theorem Fi {vals:List (List Int)}{u:Nat}(hu:u<vals.length)(r:List Int)(n:Nat):(vals.set u r)[n]?.getD []=if n=u then r else vals[n]?.getD []:=by
 rw [bR]
 split
 ·rename_i h;subst h;simp [hu]
 ·rename_i h;rw [if_neg (fun e=>h e.symm)]
theorem OT (F:FM)(vals:List (List Int)){dn dn':Int→Int→Bool}{u a:Nat}{x:Int}(hu:u<vals.length)(ha:a<(vals[u]?.getD []).length)(hx:F u a=some x)(hd:∀ n b:Nat,n<vals.length→b<(vals[n]?.getD []).length→dn' n b=(dn n b||(decide (n=u)&&decide (b=a)))) :
  (wT F dn vals).set u (((wT F dn vals)[u]?.getD []).set a x)=wT F dn' vals:=by
 have hu':u<(wT F dn vals).length:=by rw [qQ];exact hu
 refine Er (by rw [fI,qQ,qQ]) (fun n=>?_) fun n b hn hb=>?_
 ·rw [Fi hu',pB]
  split
  ·rename_i h;subst h;rw [fI,pB]
  ·rw [pB]
 ·rw [qQ] at hn
  rw [pB] at hb
  rw [Fi hu',wS _ _ _ hn hb,hd n b hn hb]
  split
  ·rename_i h;subst h
   rw [bR]
   by_cases hba:a=b
   ·subst hba
    rw [if_pos rfl,if_pos (by rw [pB];exact ha),if_pos (by simp),hx];rfl
   ·rw [if_neg hba,wS _ _ _ hn hb]
    congr 1
    rw [show decide (b=a)=false by simp;omega,Bool.and_false,s8]
  ·rename_i h
   rw [wS _ _ _ hn hb]
   congr 1
   rw [show decide (n=u)=false by simp;omega,Bool.false_and,s8]
theorem J2 {c:Part}{vs:List Int}(vals:List (List Int)):∀ (i:Nat) (l:List Slot),l.length=i→(∀ s∈l,0≤kV c s∧iI c s<vals.length∧0≤s.attr∧s.attr<(vals[iI c s]?.getD []).length) →
  ∀ n a:Nat,n<vals.length→a<(vals[n]?.getD []).length→((yT c vs l vals)[n]?.getD [])[a]?=some ((FA c vs l n a).getD ((vals[n]?.getD [])[a]?.getD 0))
 | 0,l,hl,hp,n,a,hn,ha=>by
  have:l=[]:=aV hl
  subst this
  show (vals[n]?.getD [])[a]?=_
  rw [aA ha];rfl
 | i+1,l,hl,hp,n,a,hn,ha=>by
  obtain ⟨l',s,rfl⟩:∃ l' s,l=l'++[s]:=⟨l.dropLast,l.getLast (by intro e;rw [e] at hl;cases hl),(List.dropLast_concat_getLast _).symm⟩
  have ih:=J2 (c:=c) (vs:=vs) vals i l' (by simp at hl;exact hl) (fun s' hs'=>hp s' (List.mem_append_left _ hs'))
  obtain ⟨p1,p2,p3,p4⟩:=hp s (by simp)
  obtain ⟨q1,q2⟩:=wR c vs l' vals
  rw [OS,Od,Fi (by omega)]
  unfold If
  split
  ·rename_i h
   rw [bR]
   by_cases hsa:s.attr.toNat=a
   ·rw [if_pos hsa,if_pos (by rw [q2];omega),if_pos ⟨by rw [h,nM];omega,by omega⟩];rfl
   ·rw [if_neg hsa,if_neg (by omega),← h]
    exact ih n a hn ha
  ·rename_i h
   rw [if_neg (by rw [nM] at h;omega)]
   exact ih n a hn ha
theorem OU {c:Part}{vs:List Int}{vals:List (List Int)}{l:List Slot}(hp:∀ s∈l,0≤kV c s∧iI c s<vals.length∧0≤s.attr∧s.attr<(vals[iI c s]?.getD []).length)
  {dn:Int→Int→Bool} (hd:∀ n a:Nat,n<vals.length→a<(vals[n]?.getD []).length→dn n a=(FA c vs l n a).isSome):wT (FA c vs l) dn vals=yT c vs l vals:=by
 obtain ⟨q1,q2⟩:=wR c vs l vals
 refine Er (by rw [qQ,q1]) (fun n=>by rw [pB,q2]) fun n a hn ha=>?_
 rw [q1] at hn
 rw [q2] at ha
 rw [wS _ _ _ hn ha,J2 vals _ l rfl hp n a hn ha,hd n a hn ha]
 cases FA c vs l n a<;>simp
end Go.Abs
end
