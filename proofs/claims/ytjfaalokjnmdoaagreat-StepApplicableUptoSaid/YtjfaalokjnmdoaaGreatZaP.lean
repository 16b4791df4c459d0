/- Layer 22 of the reference: the first witness of a condition, -/
import Derived.Test.YtjfaalokjnmdoaaGreatZaF
import Derived.Test.YtjfaalokjnmdoaaGreatZaA
import Derived.Test.YtjfaalokjnmdoaaGreatZaO
set_option linter.unusedVariables false
set_option linter.unusedSimpArgs false
section
set_option maxRecDepth 100000
set_option maxHeartbeats 4000000
open Go Go.Proofs
namespace Go.Abs
theorem Jc (l:List Cond):l.length≤Cond.sizes l:=by
 induction l with
 | nil=>simp [Cond.sizes]
 | cons a l ih=>have:=tA a;simp only [Cond.sizes,eC];omega
structure CondV (t:Types) (p:Pattern) (c:Cond):Prop where
 wf:HL c=true
 ins:oC t p c=0
 sz:c.size≤1000000
theorem CondV.kinds {t:Types}{p:Pattern}{c:Cond}(h:CondV t p c):(c.kind=2∨c.kind=5→c.kids.length=1)∧(1≤c.kind∧c.kind≤5):=by
 have:=h.wf
 rw [rM,aP] at this
 have h1:=this.1
 unfold oT at h1
 split at h1
 ·omega
 ·split at h1
  ·rw [aP,decide_eq_true_eq] at h1;omega
  ·split at h1
   ·omega
   ·rw [aP,decide_eq_true_eq,decide_eq_true_eq] at h1;omega
theorem CondV.ex {t:Types}{p:Pattern}{c:Cond}(h:CondV t p c)(h5:c.kind=5)(hp:PatOk t p):ExOk t p c.map c.pattern∧∀ k∈c.kids,CondV t c.pattern k:=by
 have hi:=h.ins
 have hw:=h.wf
 rw [Cz,if_pos h5,if_pos h5] at hi
 rw [rM,aP,bV] at hw
 by_cases h0:iJ t p c.map c.pattern=0
 ·rw [if_neg (by omega)] at hi
  refine ⟨?_,fun k hk=>⟨hw.2 k hk,nF hi k hk,by have:=tA c;have:=y5 hk;have:=h.sz;omega⟩⟩
  unfold iJ at h0
  split at h0
  ·cases h0
  ·rename_i h1
   split at h0
   ·exact absurd h0 (by assumption)
   ·rename_i h2
    split at h0
    ·exact absurd h0 (by assumption)
    ·rename_i h3
     rw [iL] at h2 h3
     refine ⟨Ds ?_,by omega,hp.vars.1,h3⟩
     unfold lT at h2
     split at h2
     ·exact .inr h2
     ·rename_i h4;left;omega
 ·rw [if_pos h0] at hi;exact absurd hi h0
theorem CondV.kid {t:Types}{p:Pattern}{c:Cond}(h:CondV t p c)(h5:c.kind≠5):∀ k∈c.kids,CondV t p k:=by
 have hi:=h.ins
 have hw:=h.wf
 rw [Cz,if_neg h5,if_neg h5,if_neg (by omega)] at hi
 rw [rM,aP,bV] at hw
 exact fun k hk=>⟨hw.2 k hk,nF hi k hk,by have:=tA c;have:=y5 hk;have:=h.sz;omega⟩
theorem sS {α β:Type}(f:α→β){l:List α}{i:Nat}(h:i<l.length):(l.drop i).map f=f l[i] :: (l.drop (i+1)).map f:=by rw [fR h,fT]
theorem wK {t:Types}{h:Host}{inj:Bool}{l:List Cond}(hl:0<l.length):Jh (l.map (l8 t h inj))=l8 t h inj l[0]:=by
 cases l with
 | nil=>cases hl
 | cons a l=>rfl
theorem yW (t:Types)(h:Host)(inj:Bool)(c:Cond)(m:Mat):∃ wc wm wk we,l8 t h inj c m=(Prf.mk wc wm wk,we):=by
 cases hh:l8 t h inj c m with
 | mk a b=>cases a;exact ⟨_,_,_,_,rfl⟩
theorem Io (t:Types)(ht:t.ok)(h:Host)(ho:HostOk t h)(inj:Bool):∀ (c:Cond) (p:Pattern),CondV t p c→PatOk t p→∀ m:Mat,MatOk t p h m →
  Pure Tryz.prog 270 [t.d,.agg c.c,h.d,m.d,.bool inj] (.tup [.agg (l8 t h inj c m).1.c,dI (l8 t h inj c m).2]):=by
 refine jH fun c ih p hC hp m hm=>?_
 obtain ⟨hK1,hK2⟩:=hC.kinds
 have hkl0:c.kids.length≤1000000:=by have:=Jc c.kids;have:=tA c;have:=hC.sz;omega
 have hW:=Gx t h inj c m
 obtain ⟨W,hWW⟩:∃ W,W=l8 t h inj c m:=⟨_,rfl⟩
 rw [← hWW] at hW ⊢
 refine vF (by first|rfl|(simp [go_sem];done)) (fun Q hQ=>(aG (cfg:=⟨fun t=>t==10||t==12||t==14||t==16||t==19||t==24,fun r=>match r with|3=>[(0,12),(1,12),(2,12),(3,12),(4,12),(5,12),(6,12),(8,12)]|14=>[(0,13),(1,13),(2,13),(4,13),(5,13),(6,13),(7,13),(9,13)]|23=>[(0,13),(1,13),(2,13),(4,13),(5,13),(6,13),(7,13),(9,13)]|34=>[(0,15),(1,15),(2,15),(3,15),(4,15),(5,15),(8,15),(9,15),(11,15)]|36=>[(2,5),(3,5)]|_=>[]⟩) Tz.mixed Tryz.func270 rfl rfl (aE rfl) (by kernel_rfl) ?_))
 have Y:=wa @Cond.c_eq (wa @Host.d.eq_1 (wa @Host.c.eq_1 (wa @Mat.d.eq_1 (wa @Mat.c.eq_1 @Prf.c_eq))))
 refine cT (fun h2=>?_) fun h2=>?_
 ·have h2':c.kind=2:=by simpa using h2
  have hl:0<c.kids.length:=by have:=hK1 (.inl h2');omega
  obtain ⟨k0,hk0e⟩:∃ k,k=c.kids[0]:=⟨_,rfl⟩
  have hk0:k0∈c.kids:=hk0e ▸ aC hl
  have hC0:=hC.kid (by omega) k0 hk0
  obtain ⟨wc,wm,wk,we,hw⟩:=yW t h inj k0 m
  rw [if_pos h2',wK hl,← hk0e,hw] at hW
  unfold O3 at hW
  have Y:=wa Y (wa (aA hl) (wa (Eq.symm hk0e) h2'))
  refine wp (h:=aI ((by have hq:=ih k0 hk0 p hC0 hp m hm;simp only [hw,Prf.c_eq,Cond.c_eq] at hq;unfold Types.d Types.c Host.d Host.c Mat.d Mat.c dLI dI at hq;exact hq)) wl ?_)
  refine wv (h:=?_)
  repeat first|intro _|refine ⟨eM,?_⟩
  refine wq (fun h4=>?_) fun h4=>?_
  ·rw [if_pos (by simpa using h4)] at hW
   refine wv (h:=?_)
   exact hQ _ _ (by simp [go_sem,Y,hW,iG,gX,Prf.c_eq,lK,i4,eE,dLI,eH,eQ])
  ·rw [if_neg (by simpa using h4)] at hW
   refine cT (fun h6=>?_) fun h6=>?_
   ·rw [if_pos (by simpa using h6)] at hW
    refine wv (h:=?_)
    exact hQ _ _ (by simp [go_sem,Y,hW,iG,gX,Prf.c_eq,lK,i4,eE,dLI,eH,eQ])
   ·rw [if_neg (by simpa using h6)] at hW
    refine wv (h:=?_)
    exact hQ _ _ (by simp [go_sem,Y,hW,iG,gX,Prf.c_eq,lK,i4,eE,dLI,eH,eQ])
 ·have h2':c.kind≠2:=by simpa using h2
  rw [if_neg h2'] at hW
  refine cT (fun h9=>?_) fun h9=>?_
  ·have h9':c.kind=3:=by simpa using h9
   have hCk:=hC.kid (by omega)
   rw [if_pos h9'] at hW
   have Y:=wa Y h9'
   refine wv (h:=vK (Ghosts.step (Ghosts.refl _) 1 0 4 306 5 _ _ ((by simp [go_sem];rfl)) rfl rfl rfl) (fun i e H=>∃ ps:List Prf,(e 5=.adr t.c∧e 6=.adr c.c∧e 7=.adr h.c∧e 8=.adr m.c∧e 4=.bool inj∧e 10=.ptr 0 1 0 0∧e 14=.ptr 1 1 0 0∧e 15=dI i)∧(H.get 0=some ⟨306,5,[[dI 0,.nil,.nil,.nil,.nil]],false⟩)∧(0<H.next)∧(H.get 1=some ⟨306,5,[[dI 0,.nil,.nil,.nil,.own 2 ps.length]],false⟩)∧(1<H.next)∧(H.get 2=some ⟨306,5,ps.map Prf.c,false⟩)∧(2<H.next)∧(i≤c.kids.length)∧(Hw ((c.kids.drop i).map fun k=>l8 t h inj k m) ps=W)∧(ps.length≤i)∧(c.kids.length≤1000000)) (fun i=>c.kids.length - i) 0 ⟨([]),wg,wn,wn,wn,wn,wn,wn,wi,(by (exact hW.symm)),(by simp),(by (exact hkl0))⟩ fun I1 hI1 i e H hi1=>?_)
   obtain ⟨ps,E1,g0_1,n0_1,g1_1,n1_1,g2_1,n2_1,hi,hA,hpl,hkl⟩:=hi1
   have Y:=wa Y (wa E1 (wa g0_1 (wa (bY n0_1) (wa g1_1 (wa (bY n1_1) (wa g2_1 (bY n2_1)))))))
   refine wv (h:=?_)
   repeat first|intro _|refine ⟨eM,?_⟩
   refine wq (fun h12=>?_) fun h12=>?_
   ·obtain ⟨k1,hk1e⟩:∃ k,k=c.kids[i]:=⟨_,rfl⟩
    have hk1:k1∈c.kids:=hk1e ▸ aC h12
    obtain ⟨wc,wm,wk,we,hw⟩:=yW t h inj k1 m
    have hst:=hA
    rw [sS _ h12,← hk1e,hw] at hst
    simp only [Hw] at hst
    have Y:=wa Y (wa h12 (wa (aA h12) (Eq.symm hk1e)))
    refine wp (h:=aI ((by have hq:=ih k1 hk1 p (hCk k1 hk1) hp m hm;simp only [hw,Prf.c_eq,Cond.c_eq] at hq;unfold Types.d Types.c Host.d Host.c Mat.d Mat.c dLI dI at hq;exact hq)) wl ?_)
    refine wv (h:=?_)
    repeat first|intro _|refine ⟨eM,?_⟩
    refine wq (fun h15=>?_) fun h15=>?_
    ·rw [if_pos (by simpa using h15)] at hst
     refine wv (h:=?_)
     exact hQ _ _ (by simp [go_sem,Y,← hst,iG,gX,Prf.c_eq,lK,i4,eE,dLI,eH,eQ])
    ·rw [if_neg (by simpa using h15)] at hst
     exact wp (h:=wx hI1 (i+1) ⟨(ps++[.mk wc wm wk]),wg,wn,wn,wn,wn,wn,wn,wj,(by (exact hst)),(by (simp;omega)),(by exact hkl)⟩)
   ·rw [iE (by omega)] at hA
    simp only [g5,Hw] at hA
    refine wv (h:=?_)
    exact hQ _ _ (by simp [go_sem,Y,← hA,iG,gX,Prf.c_eq,lK,i4,eE,dLI,eH,eQ])
  ·have h9':c.kind≠3:=by simpa using h9
   rw [if_neg h9'] at hW
   refine cT (fun h19=>?_) fun h19=>?_
   ·have h19':c.kind=4:=by simpa using h19
    have hCk:=hC.kid (by omega)
    rw [if_pos h19'] at hW
    have Y:=wa Y h19'
    refine wv (h:=bB (fun i e H=>(e 5=.adr t.c∧e 6=.adr c.c∧e 7=.adr h.c∧e 8=.adr m.c∧e 4=.bool inj∧e 10=.ptr 0 1 0 0∧e 18=dI i)∧(H.get 0=some ⟨306,5,[[dI 0,.nil,.nil,.nil,.nil]],false⟩)∧(0<H.next)∧(i≤c.kids.length)∧(O0 ((c.kids.drop i).map fun k=>l8 t h inj k m) i=W)) (fun i=>c.kids.length - i) 0 ⟨wg,wn,wn,wi,(by (exact hW.symm))⟩ fun I3 hI3 i e H hi3=>?_)
    obtain ⟨E3,g0_3,n0_3,hi,hA⟩:=hi3
    have Y:=wa Y (wa E3 (wa g0_3 (bY n0_3)))
    refine wv (h:=?_)
    repeat first|intro _|refine ⟨eM,?_⟩
    refine wq (fun h21=>?_) fun h21=>?_
    ·obtain ⟨k1,hk1e⟩:∃ k,k=c.kids[i]:=⟨_,rfl⟩
     have hk1:k1∈c.kids:=hk1e ▸ aC h21
     obtain ⟨wc,wm,wk,we,hw⟩:=yW t h inj k1 m
     have hst:=hA
     rw [sS _ h21,← hk1e,hw] at hst
     simp only [O0] at hst
     have Y:=wa Y (wa h21 (wa (aA h21) (Eq.symm hk1e)))
     refine wp (h:=aI ((by have hq:=ih k1 hk1 p (hCk k1 hk1) hp m hm;simp only [hw,Prf.c_eq,Cond.c_eq] at hq;unfold Types.d Types.c Host.d Host.c Mat.d Mat.c dLI dI at hq;exact hq)) wl ?_)
     refine wv (h:=?_)
     repeat first|intro _|refine ⟨eM,?_⟩
     refine wq (fun h24=>?_) fun h24=>?_
     ·rw [if_pos (by simpa using h24)] at hst
      refine wv (h:=?_)
      exact hQ _ _ (by simp [go_sem,Y,← hst,iG,gX,Prf.c_eq,lK,i4,eE,dLI,eH,eQ])
     ·rw [if_neg (by simpa using h24)] at hst
      exact wp (h:=wx hI3 (i+1) ⟨wg,wn,wn,wj,(by (exact hst))⟩)
    ·rw [iE (by omega)] at hA
     simp only [g5,O0] at hA
     refine wv (h:=?_)
     exact hQ _ _ (by simp [go_sem,Y,← hA,iG,gX,Prf.c_eq,lK,i4,eE,dLI,eH,eQ])
   ·have h19':c.kind≠4:=by simpa using h19
    rw [if_neg h19'] at hW
    refine cT (fun h27=>?_) fun h27=>?_
    ·have h27':c.kind=5:=by simpa using h27
     obtain ⟨hE,hCk⟩:=hC.ex h27' hp
     have hl:0<c.kids.length:=by have:=hK1 (.inr h27');omega
     obtain ⟨k0,hk0e⟩:∃ k,k=c.kids[0]:=⟨_,rfl⟩
     have hk0:k0∈c.kids:=hk0e ▸ aC hl
     obtain ⟨X,hX⟩:∃ X,X=uP t c.map c.pattern h m inj:=⟨_,rfl⟩
     have hXm:∀ x∈X.1,MatOk t c.pattern h x:=hX ▸ LU hE ho hm
     rw [if_pos h27',wK hl,← hk0e,← hX] at hW
     have Y:=wa Y (wa (aA hl) (wa (Eq.symm hk0e) h27'))
     refine wv (h:=aB ((by have hq:=AN t ht p c hE h ho m hm inj;rw [← hX,Cond.c_eq,h27'] at hq;unfold Types.d Types.c Host.d Host.c Mat.d Mat.c dLI dI at hq;exact hq)) wl ?_)
     refine cT (fun h29=>?_) fun h29=>?_
     ·rw [if_pos (by simpa using h29)] at hW
      refine wv (h:=?_)
      exact hQ _ _ (by simp [go_sem,Y,hW,iG,gX,Prf.c_eq,lK,i4,eE,dLI,eH,eQ])
     ·rw [if_neg (by simpa using h29)] at hW
      refine wv (h:=bB (fun i e H=>(e 5=.adr t.c∧e 6=.adr c.c∧e 7=.adr h.c∧e 8=.adr m.c∧e 4=.bool inj∧e 10=.ptr 0 1 0 0∧e 21=.list (X.1.map Mat.c)∧e 23=dI i)∧(H.get 0=some ⟨306,5,[[dI 0,.nil,.nil,.nil,.nil]],false⟩)∧(0<H.next)∧(i≤X.1.length)∧(Ph ((X.1.drop i).map fun x=>(x,l8 t h inj k0 x))=W)) (fun i=>X.1.length - i) 0 ⟨wg,wn,wn,wi,(by (exact hW.symm))⟩ fun I5 hI5 i e H hi5=>?_)
      obtain ⟨E5,g0_5,n0_5,hi,hA⟩:=hi5
      have Y:=wa Y (wa E5 (wa g0_5 (bY n0_5)))
      refine wv (h:=?_)
      repeat first|intro _|refine ⟨eM,?_⟩
      refine wq (fun h32=>?_) fun h32=>?_
      ·obtain ⟨wc,wm,wk,we,hw⟩:=yW t h inj k0 X.1[i]
       have hst:=hA
       rw [sS _ h32,hw] at hst
       simp only [Ph] at hst
       have Y:=wa Y (wa h32 (aA h32))
       refine wp (h:=aI ((by have hq:=ih k0 hk0 c.pattern (hCk k0 hk0) hE.pq X.1[i] (hXm _ (aC h32));simp only [hw,Prf.c_eq,Cond.c_eq] at hq;unfold Types.d Types.c Host.d Host.c Mat.d Mat.c dLI dI at hq;exact hq)) wl ?_)
       refine wv (h:=?_)
       repeat first|intro _|refine ⟨eM,?_⟩
       refine wq (fun h35=>?_) fun h35=>?_
       ·rw [if_pos (by simpa using h35)] at hst
        refine wp (h:=?_)
        exact hQ _ _ (by simp [go_sem,Y,← hst,iG,gX,Prf.c_eq,lK,i4,eE,dLI,eH,eQ])
       ·rw [if_neg (by simpa using h35)] at hst
        exact wp (h:=wx hI5 (i+1) ⟨wg,wn,wn,wj,(by (exact hst))⟩)
      ·rw [iE (by omega)] at hA
       simp only [g5,Ph] at hA
       refine wv (h:=?_)
       exact hQ _ _ (by simp [go_sem,Y,← hA,iG,gX,Prf.c_eq,lK,i4,eE,dLI,eH,eQ])
    ·have h27':c.kind≠5:=by simpa using h27
     rw [if_neg h27'] at hW
     refine wv (h:=?_)
     exact hQ _ _ (by simp [go_sem,Y,hW,iG,gX,Prf.c_eq,lK,i4,eE,dLI,eH,eQ])
theorem Ir (t:Types)(ht:t.ok)(h:Host)(ho:HostOk t h)(inj:Bool)(c:Cond)(p:Pattern)(hC:CondV t p c)(hp:PatOk t p)(m:Mat)(hm:MatOk t p h m) :
  Pure Tryz.prog 170 [t.d,.agg c.c,h.d,m.d,.bool inj] (.tup [.bool (lI t h inj c m).1,dI (lI t h inj c m).2]):=by
 have hq:=Io t ht h ho inj c p hC hp m hm
 rw [Cond.c_eq] at hq
 obtain ⟨wc,wm,wk,we,hw⟩:=yW t h inj c m
 have hH:lI t h inj c m=if we=10 then (false,0) else (decide (we=0),we):=by unfold lI Nu;rw [hw]
 simp only [hw,Prf.c_eq] at hq
 refine Tz.pK ⟨fun t=>t==12,fun _=>[]⟩ Tryz.func170 rfl (fun Q hQ=>?_)
 have Y:=wa @Cond.c_eq (wa @Host.d.eq_1 (wa @Host.c.eq_1 (wa @Mat.d.eq_1 (wa @Mat.c.eq_1 @Prf.c_eq))))
 refine wv (h:=aB ((by have hq:=hq;unfold Types.d Types.c Host.d Host.c Mat.d Mat.c dLI dI at hq;exact hq)) wl ?_)
 refine cT (fun h2=>?_) fun h2=>?_
 ·rw [if_pos (by simpa using h2)] at hH
  exact wv (h:=hQ _ _ (by simp [go_sem,hH]))
 ·rw [if_neg (by simpa using h2)] at hH
  exact wv (h:=hQ _ _ (by simp [go_sem,hH,zX]))
structure RuleV (t:Types) (r:Rule):Prop where
 vf:(cA t).2=0
 pl:PatOk t r.left
 gr:graphF r.right.graph=0
 tr:gU t r.right.graph=true
 sub:subF r.left.graph r.keep=0
 mo:dS (b7 r.left.graph r.keep) r.right.graph r.into=0
 inj:ET (b7 r.left.graph r.keep) r.right.graph r.into=true
 mkb:xL t r.right.graph r.freshN r.freshE=true
 vars:r.right.vars=r.left.vars
 few:r.right.slots.length≤10
 slot:∀ s∈r.right.slots,fF t r.right s=0
 cond:CondV t r.left r.cond
 kl:r.keep.nodes.length≤1000000∧r.keep.edges.length≤1000000
theorem PB {t:Types}{r:Rule}(hr:r.ok)(h:ruleF t r=0):RuleV t r:=by
 unfold ruleF at h
 split at h
 ·rename_i h1;exact absurd h h1
 ·rename_i h1
  split at h
  ·cases h
  ·split at h
   ·rename_i h3;exact absurd h h3
   ·rename_i h3
    split at h
    ·rename_i h4;exact absurd h h4
    ·rename_i h4
     split at h
     ·rename_i h5;exact absurd h h5
     ·rename_i h5
      split at h
      ·cases h
      ·rename_i h6
       rw [iL] at h1 h3 h4 h5
       have hR:=AK h4
       unfold gI at h4
       rw [if_neg (by omega),if_neg (by simp [hR.2])] at h4
       split at h4
       ·cases h4
       ·rename_i h7
        split at h4
        ·cases h4
        ·rename_i h8
         have hk:subF r.left.graph r.keep=0∧dS (b7 r.left.graph r.keep) r.right.graph r.into=0∧ET (b7 r.left.graph r.keep) r.right.graph r.into=true:=by
          unfold keptF at h5
          split at h5
          ·rename_i q;exact absurd h5 q
          ·rename_i q
           split at h5
           ·rename_i q2;exact absurd h5 q2
           ·rename_i q2
            split at h5
            ·cases h5
            ·rename_i q3;exact ⟨by omega,by omega,by simpa using q3⟩
         unfold condF at h
         rw [if_neg (by omega)] at h
         split at h
         ·rename_i q;exact absurd h q
         ·rename_i h9
          refine ⟨h1,Ds (.inr h3),hR.1,hR.2,hk.1,hk.2.1,hk.2.2,by simpa using h6,by omega,by omega,fun s hs=>?_,⟨?_,h,hr.size⟩,hr.k1,hr.k2⟩
          ·obtain ⟨i,hi,rfl⟩:=aN hs
           have:=dP _ _ h4 i (c8 _) (by omega)
           rw [AG hi] at this
           split at this
           ·cases this
           ·rename_i q;exact iL.1 q
          ·rw [iL] at h9
           unfold pP at h9
           split at h9
           ·cases h9
           ·rename_i q;simpa using q
theorem RuleV.keep {t:Types}{r:Rule}(h:RuleV t r):(r.keep.nodes.length=r.into.nodes.length∧r.keep.edges.length=r.into.edges.length)∧(∀ x∈r.keep.nodes,0≤x∧x<r.left.graph.nodes.length)∧(∀ x∈r.keep.edges,0≤x∧x<r.left.graph.edges.length) ∧
  (∀ x∈r.into.nodes,0≤x∧x<r.right.graph.nodes.length)∧∀ x∈r.into.edges,0≤x∧x<r.right.graph.edges.length:=by
 obtain ⟨h1,h2,h3,h4⟩:=wD h.sub
 obtain ⟨_,_,h5,h6⟩:=lR h.mo
 obtain ⟨h7,h8⟩:=wI h.mo
 have e1:(b7 r.left.graph r.keep).nodes.length=r.keep.nodes.length:=by unfold b7;rw [if_pos h.sub];simp
 have e2:(b7 r.left.graph r.keep).edges.length=r.keep.edges.length:=by unfold b7;rw [if_pos h.sub];simp
 exact ⟨⟨by omega,by omega⟩,h3,h4,h7,h8⟩
theorem RuleV.slots {t:Types}{r:Rule}(h:RuleV t r):∀ s∈r.right.slots,(0≤s.node∧s.node<r.right.graph.nodes.length)∧(0≤s.attr∧s.attr<(bK t (r.right.graph.nodes[s.node.toNat]?.getD 0)).length)∧mV s.term r.left.vars.toNat:=fun s hs=>by
 have:=h.slot s hs
 have hv:=h.pl.vars
 have he:=h.vars
 unfold fF at this
 split at this
 ·rename_i h1
  simp only [aP,jO,decide_eq_true_eq,inF,Pattern.kind] at h1
  exact ⟨h1.1.1.1,⟨h1.1.1.2.1,of_decide_eq_true h1.1.1.2.2⟩,⟨by omega,by omega⟩,by omega,by omega⟩
 ·cases this
theorem Br (t:Types)(ht:t.ok)(r:Rule)(hr:r.ok)(h:Host):Pure Tryz.prog 65 [t.d,r.d,h.d] (dI (eW t r h)):=by
 refine Tz.pK ⟨fun _=>false,fun _=>[]⟩ Tryz.func65 rfl (fun Q hQ=>?_)
 have Y:=wa @Host.d.eq_1 @Host.c.eq_1
 refine wv (h:=aB (Il t ht r hr) wl ?_)
 refine cT (fun h2=>?_) fun h2=>?_
 ·exact wv (h:=hQ _ _ (by simp [go_sem,eW,h2]))
 ·refine wv (h:=aB (vB t ht h) wl ?_)
  exact wv (h:=hQ _ _ (by simp [go_sem,eW,h2,fM]))
theorem nM (l:List Int)(k:Nat)(v:Int):f6 l (k+1) v=if l[k]?.getD (-1)=v then (k:Int) else f6 l k v:=by unfold f6;rw [dB]
theorem Ak (l:List Int)(v:Int):∀ n,-1≤f6 l n v∧f6 l n v<n
 | 0=>by simp [f6]
 | n+1=>by
  have:=Ak l v n
  rw [nM];split<;>omega
theorem Ec (l:List Int)(v:Nat):jF l (v+1)=jF l v++[f6 l l.length v]:=by simp [jF,e9]
theorem jX (l:List Int)(v:Nat):(jF l v).length=v:=by simp [jF]
theorem wU (l:List Int){n i:Nat}(h:i<n):(jF l n)[i]?=some (f6 l l.length i):=by simp [jF,h]
theorem Di (l:List Int)(n:Nat)(hn:n≤1000000):Pure Tryz.prog 173 [dLI l,dI n] (dLI (jF l n)):=by
 refine Tz.pK ⟨fun t=>t==5,fun _=>[]⟩ Tryz.func173 rfl (fun Q hQ=>?_)
 have Y:=trivial
 refine wv (h:=bB (fun v e H=>(e 0=dLI l∧e 1=dI n∧e 5=.own 0 v∧e 6=dI v)∧(H.get 0=some ⟨3,1,(jF l v).map cI,false⟩)∧(0<H.next)∧(v≤n)) (fun v=>n - v) 0 ⟨wg,(by (simp [go_sem,jF])),wn,wi⟩ fun I0 hI0 v e H hi0=>?_)
 obtain ⟨E0,g0_0,n0_0,hv⟩:=hi0
 have Y:=wa Y (wa E0 (wa g0_0 (bY n0_0)))
 refine cT (fun h3=>?_) fun h3=>?_
 ·have hbl:=jX l v
  have Y:=wa Y h3
  refine wp (h:=bB (fun k e H=>∃ B:List Int,(e 0=dLI l∧e 1=dI n∧e 5=.own 0 (v+1)∧e 6=dI v∧e 7=dI k)∧(H.get 0=some ⟨3,1,B.map cI,false⟩)∧(0<H.next)∧(k≤l.length)∧(B=jF l v++[f6 l k v])∧(B.length=v+1)) (fun k=>l.length - k) 0 ⟨(jF l v++[-1]),wg,(by (simp [go_sem,Y,cI])),wn,wi,(by rfl),(by (simp [hbl]))⟩ fun I2 hI2 k e H hi2=>?_)
  obtain ⟨B,E2,g0_2,n0_2,hk,hB,hBl⟩:=hi2
  have Y:=wa Y (wa E2 (wa g0_2 (wa (bY n0_2) hBl)))
  refine wv (h:=?_)
  repeat first|intro _|refine ⟨eM,?_⟩
  refine wq (fun h7=>?_) fun h7=>?_
  ·have hvB:v<B.length:=by omega
   have Y:=wa Y (wa h7 (wa (aA h7) (aA hvB)))
   refine wv (h:=?_)
   repeat first|intro _|refine ⟨eM,?_⟩
   refine wq (fun h9=>?_) fun h9=>?_
   ·obtain ⟨B2,hB2⟩:∃ y,y=B.set v (k:Int):=⟨_,rfl⟩
    have hm:B2.map cI=(B.map cI).set v (cI k):=by rw [hB2,cG]
    have hB3:B.set v (k:Int)=jF l v++[f6 l (k+1) v]:=by
     rw [nM,aA h7,aD,if_pos (by omega),hB,kB _ _ (by omega),hbl,qN];rfl
    have Y:=wa Y (wa hm @cI.eq_1)
    exact wp (h:=wx hI2 (k+1) ⟨B2,wg,(by (simp [go_sem,Y])),wn,wj,(by (rw [hB2];exact hB3)),(by (rw [hB2];simp [hBl]))⟩)
   ·obtain ⟨B2,hB2⟩:∃ y,y=B:=⟨_,rfl⟩
    have hB3:B=jF l v++[f6 l (k+1) v]:=by
     rw [nM,aA h7,aD,if_neg (by omega)];exact hB
    have Y:=wa Y hB2
    exact wp (h:=wx hI2 (k+1) ⟨B2,wg,(by (simp [go_sem,Y])),wn,wj,(by (rw [hB2];exact hB3)),(by (rw [hB2];simp [hBl]))⟩)
  ·have hBe:B.map cI=(jF l v).map cI++[cI (f6 l l.length v)]:=by rw [hB,show k=l.length by omega];simp
   exact wp (h:=wx hI0 (v+1) ⟨wg,(by (simp [go_sem,Y,Ec,hBe])),wn,wj⟩)
 ·have hve:v=n:=by omega
  exact wv (h:=hQ _ _ (by simp [go_sem,Y,hve,dLI,jX]))
theorem zE (l:List Int)(n:Nat)(hn:n≤1000000):Pure Tryz.prog 172 [dI n,dLI l] (dLI (jF l n)):=by
 refine Tz.pK ⟨fun _=>false,fun _=>[]⟩ Tryz.func172 rfl (fun Q hQ=>?_)
 have Y:=trivial
 refine wv (h:=aB (Di l n hn) wl ?_)
 exact wv (h:=hQ _ _ wy)
theorem EI (t:Types)(ht:t.ok)(h:Host)(p:Part)(hl:p.nodes.length≤1000000)(hle:p.edges.length≤1000000)(hn:h.graph.nodes.length≤1000000)(he:h.graph.edges.length≤1000000) :
  Pure Tryz.prog 83 [t.d,h.d,p.d] (.tup [(OI t h p).d,Part.d ⟨jF p.nodes h.graph.nodes.length,jF p.edges h.graph.edges.length⟩]):=by
 refine Tz.pK ⟨fun t=>t==6||t==7||t==8,fun _=>[]⟩ Tryz.func83 rfl (fun Q hQ=>?_)
 have Y:=wa @Host.d.eq_1 (wa @Host.c.eq_1 (wa @Part.d.eq_1 @Part.c.eq_1))
 refine wv (h:=aB (EO t ht h p hl hle) wl ?_)
 refine wp (h:=aI (zE p.nodes h.graph.nodes.length hn) wl ?_)
 refine wp (h:=aI (zE p.edges h.graph.edges.length he) wl ?_)
 exact wp (h:=hQ _ _ wy)
theorem xE (l:List Int)(n:Int):Pure Tryz.prog 174 [dLI l,dI n] (.bool (!mem l n)):=by
 refine Tz.pK ⟨fun _=>false,fun _=>[]⟩ Tryz.func174 rfl (fun Q hQ=>?_)
 have Y:=trivial
 refine wv (h:=bB (fun i e H=>(e 0=dLI l∧e 1=dI n∧e 5=dI i)∧(i≤l.length)∧(∀ j,j<i→∀ hj:j<l.length,l[j]≠n)) (fun i=>l.length - i) 0 ⟨wg,wi,(by (intro j hj;omega))⟩ fun I0 hI0 i e H hi0=>?_)
 obtain ⟨E0,hi,hN⟩:=hi0
 have Y:=wa Y E0
 refine wv (h:=?_)
 repeat first|intro _|refine ⟨eP,?_⟩
 refine wq (fun h2=>?_) fun h2=>?_
 ·have Y:=wa Y (wa h2 (aA h2))
  refine wv (h:=?_)
  repeat first|intro _|refine ⟨eP,?_⟩
  refine wq (fun h4=>?_) fun h4=>?_
  ·have hm:mem l n=true:=(cW _ _).2 (h4 ▸ aC h2)
   exact wv (h:=hQ _ _ (by simp [go_sem,hm]))
  ·exact wo (h:=wx hI0 (i+1) ⟨wg,wj,(by (intro j hj hjl;rcases bN j i with hji|hji;exact hN j hji hjl;(obtain rfl:j=i:=(by omega);exact h4)))⟩)
 ·have hm:mem l n=false:=by
   rw [bH];intro hm
   obtain ⟨j,hj,he⟩:=aN ((cW _ _).1 hm)
   exact hN j (by omega) hj he
  exact wv (h:=hQ _ _ (by simp [go_sem,hm]))
theorem u7 (im tr:List Int)(hl:im.length≤1000000)(hi:∀ x∈im,0≤x∧x<tr.length):Pure Tryz.prog 84 [dLI im,dLI tr] (dLI (mX im tr)):=by
 refine Tz.pK ⟨fun t=>t==5,fun _=>[]⟩ Tryz.func84 rfl (fun Q hQ=>?_)
 have Y:=trivial
 refine wv (h:=bB (fun i e H=>(e 0=dLI im∧e 1=dLI tr∧e 5=.own 0 i∧e 6=dI i)∧(H.get 0=some ⟨3,1,(mX (im.take i) tr).map cI,false⟩)∧(0<H.next)∧(i≤im.length)) (fun i=>im.length - i) 0 ⟨wg,(by (simp [go_sem,mX])),wn,wi⟩ fun I0 hI0 i e H hi0=>?_)
 obtain ⟨E0,g0_0,n0_0,hii⟩:=hi0
 have Y:=wa Y (wa E0 (wa g0_0 (bY n0_0)))
 refine qP (fun h3=>?_) fun h3=>?_
 ·have hx:=hi _ (aC h3)
  have hk:im[i].toNat<tr.length:=by omega
  have hSt:mX (im.take (i+1)) tr=mX (im.take i) tr++[tr[im[i].toNat]]:=by unfold mX;rw [aF h3,List.map_append];simp [aA hk]
  have hal:(mX (im.take i) tr).length=i:=by simp [mX];omega
  have Y:=wa Y (wa h3 (wa (aA h3) (wa (aA hk) hal)))
  exact wp (h:=wx hI0 (i+1) ⟨wg,(by (simp [go_sem,Y,hSt,cI])),wn,wj⟩)
 ·rw [aJ (by omega)] at g0_0
  have hie:i=im.length:=by omega
  have hal:(mX im tr).length=im.length:=by simp [mX]
  exact wv (h:=hQ _ _ (by simp [go_sem,Y,hie,hal,dLI]))
theorem FN (into:List Int)(i:Nat):yA into (i+1)=yA into i+if f6 into into.length i<0 then 1 else 0:=by
 unfold yA;rw [e9,gM,aT]
 congr 1
 simp only [List.filter_cons,List.filter_nil]
 split<;>simp_all
theorem FL (into:List Int):yA into 0=0:=rfl
theorem LL (into:List Int)(i:Nat):yA into i≤i:=by
 unfold yA;exact dM (kD _ _) (by simp)
theorem Jv (keep into at_:List Int)(i remain:Nat):Cl keep into at_ (i+1) remain=Cl keep into at_ i remain++[Gg keep into at_ remain i]:=by simp [Cl,e9]
theorem xF (keep into at_:List Int)(right remain:Nat)(k1:into.length≤keep.length)(k2:∀ x∈keep,0≤x∧x<at_.length)(k3:right≤1000000)(k4:remain≤1000000) :
  Pure Tryz.prog 85 [dLI keep,dLI into,dI right,dLI at_,dI remain] (dLI (Cl keep into at_ right remain)):=by
 refine Tz.pK ⟨fun t=>t==12,fun _=>[]⟩ Tryz.func85 rfl (fun Q hQ=>?_)
 have Y:=@FL
 refine wv (h:=aB (Di into right k3) wl ?_)
 refine wv (h:=bB (fun i e H=>(e 0=dLI keep∧e 1=dLI into∧e 2=dI right∧e 3=dLI at_∧e 4=dI ((remain+yA into i:Nat):Int)∧e 11=dLI (jF into right)∧e 12=.own 0 i∧e 13=dI i)∧(H.get 0=some ⟨3,1,(Cl keep into at_ i remain).map cI,false⟩)∧(0<H.next)∧(i≤right)) (fun i=>right - i) 0 ⟨wg,(by (simp [go_sem,Cl])),wn,wi⟩ fun I0 hI0 i e H hi0=>?_)
 obtain ⟨E0,g0_0,n0_0,hi⟩:=hi0
 have Y:=wa Y (wa E0 (wa g0_0 (bY n0_0)))
 refine cT (fun h4=>?_) fun h4=>?_
 ·have hg:=wU into (n:=right) (i:=i) (by omega)
  have hb:=Ak into i into.length
  have hbl:=jX into right
  have hnc:=FN into i
  have hnl:=LL into i
  have hcl:(Cl keep into at_ i remain).length=i:=by simp [Cl]
  have hg2:(jF into right)[i]'(by omega)=f6 into into.length i:=by simp [jF]
  have Y:=wa Y (wa h4 (wa hg (wa hg2 (wa hbl hcl))))
  refine qP (fun h6=>?_) fun h6=>?_
  ·have hb2:(f6 into into.length i).toNat<keep.length:=by omega
   have hx:=k2 _ (aC hb2)
   have hk:keep[(f6 into into.length i).toNat].toNat<at_.length:=by omega
   have hC:Gg keep into at_ remain i=at_[keep[(f6 into into.length i).toNat].toNat]:=by unfold Gg;rw [if_pos (by omega),aA hb2,aD,aA hk];rfl
   rw [if_neg (by omega)] at hnc
   have Y:=wa Y (wa (aA hb2) (wa (aA hk) hnc))
   exact wp (h:=wx hI0 (i+1) ⟨wg,(by (simp [go_sem,Y,Jv,hC,cI])),wn,wj⟩)
  ·have hC:Gg keep into at_ remain i=((remain+yA into i:Nat):Int):=by unfold Gg;rw [if_neg (by omega)]
   rw [if_pos (by omega)] at hnc
   have Y:=wa Y hnc
   exact wp (h:=wx hI0 (i+1) ⟨wg,(by (simp [go_sem,Y,Jv,hC,cI])),wn,wj⟩)
 ·have hie:i=right:=by omega
  exact wv (h:=hQ _ _ (by simp [go_sem,Y,hie,dLI];simp [Cl]))
theorem Dl (a b:List Int):Pure Tryz.prog 80 [dLI a,dLI b] (.bool (decide (a=b))):=by
 refine Tz.pK ⟨fun _=>false,fun _=>[]⟩ Tryz.func80 rfl (fun Q hQ=>?_)
 have Y:=trivial
 refine wv (h:=?_)
 repeat first|intro _|refine ⟨eP,?_⟩
 refine wq (fun h1=>?_) fun h1=>?_
 ·refine wv (h:=?_)
  have hne:a≠b:=by intro h;subst h;omega
  exact hQ _ _ (by simp [go_sem,hne])
 ·refine wv (h:=bB (fun i e H=>(e 0=dLI a∧e 1=dLI b∧e 5=dI i)∧(i≤a.length)∧(a.take i=b.take i)) (fun i=>a.length - i) 0 ⟨wg,wi,(by rfl)⟩ fun I0 hI0 i e H hi0=>?_)
  obtain ⟨E0,hi,he⟩:=hi0
  have Y:=wa Y E0
  refine wv (h:=?_)
  repeat first|intro _|refine ⟨eP,?_⟩
  refine wq (fun h4=>?_) fun h4=>?_
  ·have hib:i<b.length:=by omega
   have Y:=wa Y (wa h4 hib)
   refine wv (h:=?_)
   repeat first|intro _|refine ⟨eP,?_⟩
   refine wq (fun h6=>?_) fun h6=>?_
   ·refine wv (h:=?_)
    have hne:a≠b:=by intro h;subst h;exact h6 rfl
    exact hQ _ _ (by simp [go_sem,hne])
   ·exact wo (h:=wx hI0 (i+1) ⟨wg,wj,(by (rw [aF h4,aF hib,he,h6]))⟩)
  ·rw [aJ (by omega),aJ (by omega)] at he
   exact wv (h:=hQ _ _ (by simp [go_sem,he]))
def sD (t:Types)(r:Rule)(h:Host)(m:Mat):Part:=if qJ t r h m=0 then b4 r h m else ⟨[],[]⟩
theorem Ld {t:Types}{p g:Graph}{m:Part}{inj:Bool}(h:eG t p g m inj=0):eG t p g m false=0:=by
 unfold eG at h ⊢
 split at h
 ·exact absurd h (by assumption)
 ·rename_i h1
  rw [if_neg h1]
  unfold gJ at h ⊢
  split at h
  ·cases h
  ·rename_i h2
   rw [if_neg h2]
   split at h
   ·exact absurd h (by assumption)
   ·rename_i h3
    rw [if_neg h3]
    split at h
    ·exact absurd h (by assumption)
    ·rename_i h4
     rw [if_neg h4,if_neg (by simp)]
theorem Fo {t:Types}{p:Pattern}{h:Host}{m:Part}(h0:(dA t p h m).2=0):PatOk t p∧HostOk t h∧eG t p.graph h.graph m false=0∧dA t p h m=dH p h m []:=by
 unfold dA at h0 ⊢
 split at h0
 ·exact absurd h0 (by assumption)
 ·rename_i h1
  split at h0
  ·exact absurd h0 (by assumption)
  ·rename_i h2
   split at h0
   ·exact absurd h0 (by assumption)
   ·rename_i h3
    rw [iL] at h1 h2 h3
    rw [if_neg (by omega),if_neg (by omega),if_neg (by omega)]
    exact ⟨Ds (.inr h1),vO h2,h3,rfl⟩
theorem Db (t:Types)(ht:t.ok)(r:Rule)(hR:RuleV t r)(h:Host)(ho:HostOk t h)(m:Mat) :
  Pure Tryz.prog 82 [t.d,r.d,h.d,m.d] (.tup [(sD t r h m).d,dI (j6 t r h m)]):=by
 refine Tz.pK ⟨fun t=>t==8||t==12||t==13,fun _=>[]⟩ Tryz.func82 rfl (fun Q hQ=>?_)
 have Y:=wa @Host.d.eq_1 (wa @Host.c.eq_1 (wa @Mat.d.eq_1 @Mat.c.eq_1))
 refine wv (h:=aB (vA t ht r.left.graph h.graph m.m r.inj) wl ?_)
 refine cT (fun h1=>?_) fun h1=>?_
 ·have hP:qJ t r h m=1:=by unfold qJ;rw [if_pos (by simpa using h1)]
  have hE:j6 t r h m=1:=by unfold j6;rw [if_pos (by omega),hP]
  have hD:sD t r h m=⟨[],[]⟩:=by unfold sD;rw [if_neg (by omega)]
  exact wv (h:=hQ _ _ (by simp [go_sem,hE,hD,Part.d,Part.c,dLI]))
 ·have hc:eG t r.left.graph h.graph m.m r.inj=0:=by simpa using h1
  refine wv (h:=aB (Is t ht r.left h m.m) wl ?_)
  refine cT (fun h4=>?_) fun h4=>?_
  ·have hP:qJ t r h m=(dA t r.left h m.m).2:=by unfold qJ;rw [if_neg (by omega),if_pos h4]
   have hE:j6 t r h m=(dA t r.left h m.m).2:=by unfold j6;rw [if_pos (by omega),hP]
   have hD:sD t r h m=⟨[],[]⟩:=by unfold sD;rw [if_neg (by omega)]
   exact wv (h:=hQ _ _ (by simp [go_sem,hE,hD,Part.d,Part.c,dLI]))
  ·obtain ⟨hso1,hso2,hso3,hso4⟩:=Fo (by simpa using h4)
   have hmo:=pV (pH hc).2
   refine wp (h:=aB (Dl (dA t r.left h m.m).1 m.vars) wl ?_)
   refine qP (fun h6=>?_) fun h6=>?_
   ·have h6':(dA t r.left h m.m).1≠m.vars:=by simpa using h6
    have hP:qJ t r h m=11:=by unfold qJ;rw [if_neg (by omega),if_neg (by omega),if_pos h6']
    have hE:j6 t r h m=11:=by unfold j6;rw [if_pos (by omega),hP]
    have hD:sD t r h m=⟨[],[]⟩:=by unfold sD;rw [if_neg (by omega)]
    exact wv (h:=hQ _ _ (by simp [go_sem,hE,hD,Part.d,Part.c,dLI]))
   ·have h6':(dA t r.left h m.m).1=m.vars:=by simpa using h6
    have hin:w3 t r.left.graph h.graph m.m=oB r.left.graph h.graph m.m:=by unfold w3;rw [if_pos hso3]
    have hP:qJ t r h m=oU (oB r.left.graph h.graph m.m) h.graph r.keep m.m:=by unfold qJ;rw [if_neg (by omega),if_neg (by omega),if_neg (by rw [h6'];simp)]
    have hK:=hR.keep
    have hgl:=bJ hR.pl.gg
    have hgh:=bJ ho.gg
    have hml:=hmo.len
    have hme:=hmo.elen
    have hkl:=hR.kl.1
    have hMat:MatOk t r.left h m:=by
     rw [hso4] at h6'
     have hz:(dH r.left h m.m []).2=0:=by rw [← hso4];simpa using h4
     obtain ⟨a1,a2⟩:=xT (OU hR.pl ho hmo) (vs:=[]) (by simp) (by simp) hz
     rw [h6'] at a1 a2
     exact ⟨hmo,a1,a2⟩
    have Y:=wa Y (wa hin hso3)
    refine wv (h:=aB (Df t ht r.left.graph h.graph m.m) wl ?_)
    refine wv (h:=aB (NH (oB r.left.graph h.graph m.m) h.graph r.keep m.m (by omega) (by omega) (by omega) (by omega) (by omega)) wl ?_)
    refine cT (fun h12=>?_) fun h12=>?_
    ·have hE:j6 t r h m=oU (oB r.left.graph h.graph m.m) h.graph r.keep m.m:=by unfold j6;rw [if_pos (by omega),hP]
     have hD:sD t r h m=⟨[],[]⟩:=by unfold sD;rw [if_neg (by omega)]
     exact wv (h:=hQ _ _ (by simp [go_sem,hE,hD,Part.d,Part.c,dLI]))
    ·have hD:sD t r h m=b4 r h m:=by unfold sD;rw [if_pos (by omega)]
     have hE0:j6 t r h m=if (lI t h r.inj r.cond m).2≠0 then (lI t h r.inj r.cond m).2 else if (lI t h r.inj r.cond m).1=false then 16 else 0:=by unfold j6;rw [if_neg (by omega)]
     refine wv (h:=aB ((by have hq:=Ir t ht h ho r.inj r.cond r.left hR.cond hR.pl m hMat;rwa [Cond.c_eq] at hq)) wl ?_)
     refine qP (fun h15=>?_) fun h15=>?_
     ·rw [if_neg (by rw [h15.1];simp),if_pos h15.2] at hE0
      exact wv (h:=hQ _ _ (by simp [go_sem,Y,hE0,hD,b4]))
     ·have hE2:j6 t r h m=(lI t h r.inj r.cond m).2:=by
       rw [hE0];split
       ·rfl
       ·rename_i hz;rw [iL] at hz;simp [hz] at h15;simp [hz,h15]
      exact wv (h:=hQ _ _ (by simp [go_sem,Y,hE2,hD,b4]))
theorem mJ (l:List Int)(i:Nat):b5 l (i+1)=b5 l i++if mem l i=true then [] else [(i:Int)]:=by
 unfold b5;rw [e9,gM,List.map_append]
 congr 1
 simp only [List.filter_cons,List.filter_nil]
 split<;>simp_all
def CA (t:Types)(r:Rule)(x:Host)(i:Nat):Host :=
 ⟨⟨x.graph.nodes++(b5 r.into.nodes i).map (gN r.right.graph),x.graph.edges⟩,x.values++(b5 r.into.nodes i).map (fun k=>lS t (gN r.right.graph k))⟩
def KO (t:Types)(r:Rule)(c:Part)(x:Host)(i:Nat):Host:=⟨⟨x.graph.nodes,x.graph.edges++(b5 r.into.edges i).map (fun k=>freshE c (r.right.graph.edges[k.toNat]?.getD bQ))⟩,x.values⟩
theorem Bq (t:Types)(ht:t.ok)(r:Rule)(hR:RuleV t r)(x0:Host)(c:Part)(hc:c.nodes.length=r.right.graph.nodes.length)(hs:x0.graph.nodes.length≤1000∧x0.graph.edges.length≤1000∧x0.values.length≤1000)
  (G:AHeap) (lo a b V:Nat) (qs0:List Nat) (hh0:HH G lo a b V qs0 x0) (Q:D→AHeap→Prop)
  (hQ:∀ ns H',(∀ j∈ns,G.next≤j)→HH H' lo a b V (qs0++ns) (iH t r c x0)→(∀ j,j<G.next→j∉a :: b :: V :: qs0→H'.get j=G.get j)→G.next≤H'.next→Q (.agg [.own a (iH t r c x0).graph.nodes.length,.own b (iH t r c x0).graph.edges.length,.own V (iH t r c x0).values.length]) H') :
  ACalls Tryz.prog 86 [t.d,r.d,.agg [.own a x0.graph.nodes.length,.own b x0.graph.edges.length,.own V x0.values.length],c.d] G Q:=by
 have hga:=bJ hR.gr
 have hgi:=dF hR.gr
 have ha0:=hh0.rng a hh0.a_in
 have hb0:=hh0.rng b hh0.b_in
 have hV0:=hh0.rng V hh0.V_in
 have hab:=hh0.ab
 have hout:∀ j,j∉a :: b :: V :: qs0→j≠a∧j≠b∧j≠V:=fun j hj=>by simp only [aS,not_or] at hj;exact ⟨hj.1,hj.2.1,hj.2.2.1⟩
 refine (aG (cfg:=⟨fun t=>t==6||t==8||t==9||t==13||t==16||t==1000001,fun r=>match r with|6=>[(0,8),(1,8),(2,8)]|19=>[(0,18),(1,18),(2,18)]|_=>[]⟩) Tz.mixed Tryz.func86 rfl rfl (aE rfl) (by kernel_rfl) ?_)
 try simp [go_sem,seval,Part.d,Part.c]
 obtain ⟨I0,hI0⟩:∃ I0:Nat→cZ→AHeap→Prop,∀ (i:Nat) (e:cZ) (H:AHeap),I0 i e H↔(∃ X:Nat,∃ R:Nat,∃ Y:Nat,∃ x:Host,∃ ns:List Nat,(e 4=.adr t.c)∧(e 5=.adr r.c)∧(e 7=.adr c.c)∧(e 6=.ptr X 1 0 0)∧(e 8=.ptr R 1 0 0)∧(e 9=.ptr Y 1 0 0)∧(e 10=dI i)∧(H.get X=some ⟨40,3,[[.own a x.graph.nodes.length,.own b x.graph.edges.length,.own V x.values.length]],false⟩)∧(X<H.next)∧(H.get R=some ⟨40,3,[[.nil,.nil,.nil]],false⟩)∧(R<H.next)∧(H.get Y=some ⟨37,2,[[dLI r.right.graph.nodes,.list (r.right.graph.edges.map Edge.c)]],false⟩)∧(Y<H.next)∧(i≤r.right.graph.nodes.length)∧(HH H lo a b V (qs0++ns) x)∧(x=CA t r x0 i)∧(∀ j∈a :: b :: V :: (qs0++ns),j≠X∧j≠R∧j≠Y)∧(∀ j∈ns,G.next≤j)∧(G.next≤X∧X<R∧R<Y)∧(∀ j,j<G.next→j∉a :: b :: V :: qs0→H.get j=G.get j)∧(G.next≤H.next)):=⟨fun i e H=>_,fun _ _ _=>Iff.rfl⟩
 refine q9 I0 (fun i=>r.right.graph.nodes.length - i) (0) ((hI0 _ _ _).2 ⟨(G.next),(G.next+1),(G.next+2),(x0),([]),?_,?_,?_,?_,?_,?_,?_,?_,?_,?_,?_,?_,?_,(by first|assumption|omega|(simp [go_sem,Part.d,Part.c];done)|(simp_all;done)),(by (rw [c5];refine hh0.same (by simp [go_sem];omega) (fun j hj=>by have:=(hh0.rng j hj).2;simp [go_sem,bY this]))),(by (simp [CA,b5])),(by (intro j hj;rw [c5] at hj;have:=(hh0.rng j hj).2;omega)),(by (intro j hj;cases hj)),(by omega),(by (intro j hj _;simp [go_sem,bY hj])),(by (simp [go_sem];omega))⟩) ?_
 iterate 13 (first|omega|(simp [go_sem,seval,Part.d,Part.c]<;>omega))
 intro i e H hi0
 obtain ⟨X,R,Y,x,ns,q4_0,q5_0,q7_0,q6_0,q8_0,q9_0,q10_0,gX_0,nX_0,gR_0,nR_0,gY_0,nY_0,hi,hh,hx,hXq,hns,hXR,hG,hnx⟩:=(hI0 _ _ _).1 hi0
 have xX:=bY nX_0
 have xR:=bY nR_0
 have xY:=bY nY_0
 have F0:=And.intro q4_0 (And.intro q5_0 (And.intro q7_0 (And.intro q6_0 (And.intro q8_0 (And.intro q9_0 (And.intro q10_0 (And.intro gX_0 (And.intro gR_0 (And.intro gY_0 (And.intro xX (And.intro xR xY)))))))))))
 have di1:=And.intro (cO (show Y≠R by omega)) (And.intro (cO (show Y≠X by omega)) (And.intro (cO (show Y≠V by omega)) (And.intro (cO (show Y≠b by omega)) (And.intro (cO (show Y≠a by omega)) (And.intro (cO (show R≠X by omega)) (And.intro (cO (show R≠V by omega)) (And.intro (cO (show R≠b by omega)) (And.intro (cO (show R≠a by omega)) (And.intro (cO (show X≠V by omega)) (And.intro (cO (show X≠b by omega)) (And.intro (cO (show X≠a by omega)) (And.intro (cO (show V≠b by omega)) (And.intro (cO (show V≠a by omega)) (cO (show b≠a by omega)))))))))))))))
 try simp [go_sem,seval,Part.d,Part.c,F0,di1]
 repeat first|intro _|refine ⟨eM,?_⟩
 refine aO (fun h3=>?_) (fun h3=>?_)
 ·try simp [go_sem] at h3
  have hsu:=mJ r.into.nodes i
  obtain ⟨nd,hnd⟩:∃ y,y=r.right.graph.nodes[i]:=⟨_,rfl⟩
  have hgn:gN r.right.graph (i:Int)=nd:=by rw [hnd];simp [gN,aA h3]
  have hoL:=jL r.into.nodes i
  have hxn:x.graph.nodes.length≤2000∧x.values.length≤2000∧x.graph.edges.length≤2000:=by rw [hx];simp [CA];omega
  try simp [go_sem,seval,Part.d,Part.c,F0,di1,h3,aA h3,← hnd]
  repeat first|intro _|refine ⟨eM,?_⟩
  refine aB (xE r.into.nodes i) ((by first|rfl|(simp [go_sem,← List.map_take,← List.map_drop,Part.d,Part.c,F0,di1,h3,aA h3,← hnd];done))) ?_
  try simp [go_sem,seval,Part.d,Part.c,F0,di1,h3,aA h3,← hnd]
  repeat first|intro _|refine ⟨eM,?_⟩
  refine aO (fun h5=>?_) (fun h5=>?_)
  ·try simp [go_sem] at h5
   have hm:mem r.into.nodes i=true:=by simpa using h5
   rw [if_pos hm,c5] at hsu
   obtain ⟨x2,hx2⟩:∃ y,y=x:=⟨_,rfl⟩
   obtain ⟨ns2,hns2⟩:∃ y,y=ns:=⟨_,rfl⟩
   have hx3:x2=CA t r x0 (i+1):=by rw [hx2,hx];unfold CA;rw [hsu]
   have hh2:HH H lo a b V (qs0++ns2) x2:=by rw [hx2,hns2];exact hh
   have hXq2:∀ j∈a :: b :: V :: (qs0++ns2),j≠X∧j≠R∧j≠Y:=by rw [hns2];exact hXq
   have hG2:=hG
   try simp [go_sem,seval,Part.d,Part.c,F0,di1,h3,aA h3,← hnd,hx2]
   repeat first|intro _|refine ⟨eM,?_⟩
   refine eV (i+1) (by omega) ((hI0 _ _ _).2 ⟨(X),(R),(Y),(x2),(ns2),?_,?_,?_,?_,?_,?_,?_,?_,?_,?_,?_,?_,?_,(by first|assumption|omega|(simp [go_sem,Part.d,Part.c,F0,di1,h3,aA h3,← hnd,hx2,h5];done)|(simp_all<;>omega)),(by (first|exact hh2|(rw [hns2,← List.append_assoc,hx2];exact hhk.rowAdd (by first|(simp [go_sem];done)|(simp [go_sem];omega)) (by omega) hWq (by first|(simp [go_sem];done)|(simp [go_sem];omega)) (by simp [go_sem,Part.d,Part.c,F0,di1,h3,aA h3,← hnd,hx2,hleast]) (by simp [go_sem,Part.d,Part.c,F0,di1,h3,aA h3,← hnd,hx2,hleast]) (fun j hj=>by obtain ⟨k1,k2⟩:=hfrm2 j hj;simp [go_sem,k1,k2])))),(by exact hx3),(by exact hXq2),(by (rw [hns2];first|exact hns|(intro j hj;rw [aW,bL] at hj;rcases hj with hj|rfl;exact hns j hj;exact hWlo.2))),(by exact hXR),(by (first|exact hG2|(intro j hj hjn;obtain ⟨ja,jb,jV⟩:=hout j hjn;simp [go_sem,jV,show j≠X by omega];exact hGk j hj hjn))),(by (first|exact hnx|(simp [go_sem];omega)))⟩)<;>first|omega|(simp [go_sem,seval,Part.d,Part.c,F0,di1,h3,aA h3,← hnd,hx2]<;>omega)
  ·try simp [go_sem] at h5
   have hm:¬ mem r.into.nodes i=true:=by simpa using h5
   rw [if_neg hm] at hsu
   have hga1:=hh.ga
   have hgV1:=hh.gV
   have hrl:=g8 hh.len
   have hqa:=hh.rng a hh.a_in
   have hqV:=hh.rng V hh.V_in
   have hqb:=hh.rng b hh.b_in
   have hal8:(bK t nd).length≤8:=p8 hR.vf nd
   have fr2:=And.intro (bY (show a<H.next by omega)) (And.intro (bY (show b<H.next by omega)) (bY (show V<H.next by omega)))
   have hfrm:∀ j∈b :: V :: (qs0++ns),j≠a∧j≠X∧j<H.next:=fun j hj=>by
    have hj':j∈a :: b :: V :: (qs0++ns):=d8 _ hj
    refine ⟨?_,(hXq j hj').1,(hh.rng j hj').2⟩
    rintro rfl
    have:=hh.nd;rw [fO] at this;exact this.1 hj
   try simp [go_sem,seval,Part.d,Part.c,F0,di1,h3,aA h3,← hnd,h5,hga1,hgV1,hrl,fr2]
   repeat first|intro _|refine ⟨eM,?_⟩
   refine aI (n9 t ht nd) ((by first|rfl|(simp [go_sem,← List.map_take,← List.map_drop,Part.d,Part.c,F0,di1,h3,aA h3,← hnd,h5,hga1,hgV1,hrl,fr2];done))) ?_
   try simp [go_sem,seval,Part.d,Part.c,F0,di1,h3,aA h3,← hnd,h5,hga1,hgV1,hrl,fr2]
   repeat first|intro _|refine ⟨eM,?_⟩
   obtain ⟨I2,hI2⟩:∃ I2:Nat→cZ→AHeap→Prop,∀ (k:Nat) (e:cZ) (H:AHeap),I2 k e H↔(∃ W:Nat,(e 4=.adr t.c)∧(e 5=.adr r.c)∧(e 7=.adr c.c)∧(e 6=.ptr X 1 0 0)∧(e 8=.ptr R 1 0 0)∧(e 9=.ptr Y 1 0 0)∧(e 10=dI i)∧(e 11=.list ((bK t nd).map Attr.c))∧(e 13=.own W k)∧(e 14=dI k)∧(H.get X=some ⟨40,3,[[.own a (x.graph.nodes.length+1),.own b x.graph.edges.length,.own V x.values.length]],false⟩)∧(X<H.next)∧(H.get R=some ⟨40,3,[[.nil,.nil,.nil]],false⟩)∧(R<H.next)∧(H.get Y=some ⟨37,2,[[dLI r.right.graph.nodes,.list (r.right.graph.edges.map Edge.c)]],false⟩)∧(Y<H.next)∧(H.get W=some ⟨3,1,(((bK t nd).take k).map fun a=>a.low).map cI,false⟩)∧(W<H.next)∧(k≤(bK t nd).length)∧(HH H lo a b V (qs0++ns) ⟨⟨x.graph.nodes++[nd],x.graph.edges⟩,x.values⟩)∧(∀ j∈a :: b :: V :: (qs0++ns),j≠W)∧((lo≤W∧Y<W)∧G.next≤W)∧(∀ j,j<G.next→j∉a :: b :: V :: qs0→H.get j=G.get j)∧(G.next≤H.next)):=⟨fun k e H=>_,fun _ _ _=>Iff.rfl⟩
   refine q9 I2 (fun k=>(bK t nd).length - k) (0) ((hI2 _ _ _).2 ⟨(H.next+13+12),?_,?_,?_,?_,?_,?_,?_,?_,?_,?_,?_,?_,?_,?_,?_,?_,(by (simp [go_sem])),?_,(by first|assumption|omega|(simp [go_sem,Part.d,Part.c,F0,di1,h3,aA h3,← hnd,h5,hga1,hgV1,hrl,fr2];done)|(simp_all;done)),(by (exact hh.nodes (by first|(simp [go_sem];done)|(simp [go_sem];omega)) (by simp [go_sem,Part.d,Part.c,F0,di1,h3,aA h3,← hnd,h5,hga1,hgV1,hrl,fr2,cI]) (fun j hj=>by obtain ⟨k1,k2,k3⟩:=hfrm j hj;simp [go_sem,k1,k2,bY k3]))),(by (intro j hj;have:=(hh.rng j hj).2;omega)),(by (omega)),(by (intro j hj hjn;obtain ⟨ja,jb,jV⟩:=hout j hjn;simp [go_sem,ja,show j≠X by omega,bY (show j<H.next by omega)];exact hG j hj hjn)),(by (simp [go_sem];omega))⟩) ?_
   iterate 17 (first|omega|(simp [go_sem,seval,Part.d,Part.c,F0,di1,h3,aA h3,← hnd,h5,hga1,hgV1,hrl,fr2]<;>omega))
   intro k e H hi2
   obtain ⟨W,q4_2,q5_2,q7_2,q6_2,q8_2,q9_2,q10_2,q11_2,q13_2,q14_2,gX_2,nX_2,gR_2,nR_2,gY_2,nY_2,gW_2,nW_2,hk,hhk,hWq,hWlo,hGk,hnk⟩:=(hI2 _ _ _).1 hi2
   have xX:=bY nX_2
   have xR:=bY nR_2
   have xY:=bY nY_2
   have xW:=bY nW_2
   have F2:=And.intro q4_2 (And.intro q5_2 (And.intro q7_2 (And.intro q6_2 (And.intro q8_2 (And.intro q9_2 (And.intro q10_2 (And.intro q11_2 (And.intro q13_2 (And.intro q14_2 (And.intro gX_2 (And.intro gR_2 (And.intro gY_2 (And.intro xX (And.intro xR (And.intro xY xW)))))))))))))))
   have di3:=And.intro (cO (show W≠Y by omega)) (And.intro (cO (show W≠R by omega)) (And.intro (cO (show W≠X by omega)) (And.intro (cO (show W≠V by omega)) (And.intro (cO (show W≠b by omega)) (And.intro (cO (show W≠a by omega)) (And.intro (cO (show Y≠R by omega)) (And.intro (cO (show Y≠X by omega)) (And.intro (cO (show Y≠V by omega)) (And.intro (cO (show Y≠b by omega)) (And.intro (cO (show Y≠a by omega)) (And.intro (cO (show R≠X by omega)) (And.intro (cO (show R≠V by omega)) (And.intro (cO (show R≠b by omega)) (And.intro (cO (show R≠a by omega)) (And.intro (cO (show X≠V by omega)) (And.intro (cO (show X≠b by omega)) (And.intro (cO (show X≠a by omega)) (And.intro (cO (show V≠b by omega)) (And.intro (cO (show V≠a by omega)) (cO (show b≠a by omega)))))))))))))))))))))
   try simp [go_sem,seval,Part.d,Part.c,di1,h3,aA h3,← hnd,h5,hga1,hgV1,hrl,fr2,F2,gW_2,di3]
   repeat first|intro _|refine ⟨eM,?_⟩
   refine aO (fun h10=>?_) (fun h10=>?_)
   ·try simp [go_sem] at h10
    have hst:((bK t nd).take (k+1)).map (fun a=>a.low)=((bK t nd).take k).map (fun a=>a.low)++[(bK t nd)[k].low]:=by rw [aF h10,List.map_append];rfl
    try simp [go_sem,seval,Part.d,Part.c,di1,h3,aA h3,← hnd,h5,hga1,hgV1,hrl,fr2,F2,gW_2,di3,h10,aA h10,Attr.c]
    repeat first|intro _|refine ⟨eM,?_⟩
    refine eV (k+1) (by omega) ((hI2 _ _ _).2 ⟨(W),?_,?_,?_,?_,?_,?_,?_,?_,?_,?_,?_,?_,?_,?_,?_,?_,(by (simp [go_sem,Part.d,Part.c,di1,h3,aA h3,← hnd,h5,hga1,hgV1,hrl,fr2,F2,gW_2,di3,h10,aA h10,Attr.c,hst,cI])),?_,(by first|assumption|omega|(simp [go_sem,Part.d,Part.c,di1,h3,aA h3,← hnd,h5,hga1,hgV1,hrl,fr2,F2,gW_2,di3,h10,aA h10,Attr.c];done)|(simp_all<;>omega)),(by (exact hhk.same (by simp [go_sem]) (fun j hj=>by have:=hWq j hj;simp [go_sem,this]))),(by exact hWq),(by omega),(by (intro j hj hjn;simp [go_sem,show j≠W by omega];exact hGk j hj hjn)),(by (simp [go_sem];omega))⟩)<;>first|omega|(simp [go_sem,seval,Part.d,Part.c,di1,h3,aA h3,← hnd,h5,hga1,hgV1,hrl,fr2,F2,gW_2,di3,h10,aA h10,Attr.c]<;>omega)
   ·try simp [go_sem] at h10
    have hke:k=(bK t nd).length:=by omega
    have hgVk:=hhk.gV
    rw [aJ (by omega)] at gW_2
    obtain ⟨x2,hx2⟩:∃ y:Host,y=⟨⟨x.graph.nodes++[nd],x.graph.edges⟩,x.values++[lS t nd]⟩:=⟨_,rfl⟩
    obtain ⟨ns2,hns2⟩:∃ y,y=ns++[W]:=⟨_,rfl⟩
    have hx3:x2=CA t r x0 (i+1):=by rw [hx2,hx];unfold CA;rw [hsu];simp [hgn]
    have hXq2:∀ j∈a :: b :: V :: (qs0++ns2),j≠X∧j≠R∧j≠Y:=fun j hj=>by
     have e:a :: b :: V :: (qs0++ns2)=(a :: b :: V :: (qs0++ns))++[W]:=by rw [hns2];simp
     rw [e,aW,bL] at hj
     rcases hj with hj|rfl
     ·exact hXq j hj
     ·omega
    have hxl:x2.graph.nodes.length=x.graph.nodes.length+1∧x2.graph.edges.length=x.graph.edges.length∧x2.values.length=x.values.length+1:=by rw [hx2];simp
    have hfrm2:∀ j∈a :: b :: (qs0++ns),j≠V∧j≠X:=fun j hj=>by
     simp only [aS] at hj
     rcases hj with rfl|rfl|hj
     ·exact ⟨by omega,(hXq _ hhk.a_in).1⟩
     ·exact ⟨by omega,(hXq _ hhk.b_in).1⟩
     ·exact ⟨(hhk.qn hj).2.2,(hXq _ (hhk.q_in hj)).1⟩
    have hleast:lS t nd=(bK t nd).map fun a=>a.low:=rfl
    try simp [go_sem,seval,Part.d,Part.c,di1,h3,aA h3,← hnd,h5,hga1,hgV1,hrl,fr2,F2,gW_2,di3,hgVk,hxl,gW_2,hke]
    repeat first|intro _|refine ⟨eM,?_⟩
    refine eV (i+1) (by omega) ((hI0 _ _ _).2 ⟨(X),(R),(Y),(x2),(ns2),?_,?_,?_,?_,?_,?_,?_,?_,?_,?_,?_,?_,?_,(by first|assumption|omega|(simp [go_sem,Part.d,Part.c,di1,h3,aA h3,← hnd,h5,hga1,hgV1,hrl,fr2,F2,gW_2,di3,hgVk,hxl,gW_2,hke,h10];done)|(simp_all<;>omega)),(by (first|exact hh2|(rw [hns2,← List.append_assoc,hx2];exact hhk.rowAdd (by first|(simp [go_sem];done)|(simp [go_sem];omega)) (by omega) hWq (by first|(simp [go_sem];done)|(simp [go_sem];omega)) (by simp [go_sem,Part.d,Part.c,di1,h3,aA h3,← hnd,h5,hga1,hgV1,hrl,fr2,F2,gW_2,di3,hgVk,hxl,gW_2,hke,hleast]) (by simp [go_sem,Part.d,Part.c,di1,h3,aA h3,← hnd,h5,hga1,hgV1,hrl,fr2,F2,gW_2,di3,hgVk,hxl,gW_2,hke,hleast]) (fun j hj=>by obtain ⟨k1,k2⟩:=hfrm2 j hj;simp [go_sem,k1,k2])))),(by exact hx3),(by exact hXq2),(by (rw [hns2];first|exact hns|(intro j hj;rw [aW,bL] at hj;rcases hj with hj|rfl;exact hns j hj;exact hWlo.2))),(by exact hXR),(by (first|exact hG2|(intro j hj hjn;obtain ⟨ja,jb,jV⟩:=hout j hjn;simp [go_sem,jV,show j≠X by omega];exact hGk j hj hjn))),(by (first|exact hnx|(simp [go_sem];omega)))⟩)<;>first|omega|(simp [go_sem,seval,Part.d,Part.c,di1,h3,aA h3,← hnd,h5,hga1,hgV1,hrl,fr2,F2,gW_2,di3,hgVk,hxl,gW_2,hke]<;>omega)
 ·try simp [go_sem] at h3
  have hie:i=r.right.graph.nodes.length:=by omega
  have hgb1:=hh.gb
  have hoL:=jL r.into.nodes i
  have hxn:x.graph.edges.length≤1000:=by rw [hx];exact hs.2.1
  try simp [go_sem,seval,Part.d,Part.c,F0,di1,hgb1]
  obtain ⟨I4,hI4⟩:∃ I4:Nat→cZ→AHeap→Prop,∀ (i:Nat) (e:cZ) (H:AHeap),I4 i e H↔(∃ x:Host,(e 4=.adr t.c)∧(e 5=.adr r.c)∧(e 7=.adr c.c)∧(e 6=.ptr X 1 0 0)∧(e 8=.ptr R 1 0 0)∧(e 9=.ptr Y 1 0 0)∧(e 15=dI i)∧(H.get X=some ⟨40,3,[[.own a x.graph.nodes.length,.own b x.graph.edges.length,.own V x.values.length]],false⟩)∧(X<H.next)∧(H.get R=some ⟨40,3,[[.nil,.nil,.nil]],false⟩)∧(R<H.next)∧(H.get Y=some ⟨37,2,[[dLI r.right.graph.nodes,.list (r.right.graph.edges.map Edge.c)]],false⟩)∧(Y<H.next)∧(i≤r.right.graph.edges.length)∧(HH H lo a b V (qs0++ns) x)∧(x=KO t r c (CA t r x0 r.right.graph.nodes.length) i)∧(∀ j,j<G.next→j∉a :: b :: V :: qs0→H.get j=G.get j)∧(G.next≤H.next)):=⟨fun i e H=>_,fun _ _ _=>Iff.rfl⟩
  refine q9 I4 (fun i=>r.right.graph.edges.length - i) (0) ((hI4 _ _ _).2 ⟨(x),?_,?_,?_,?_,?_,?_,?_,?_,?_,?_,?_,?_,?_,(by first|assumption|omega|(simp [go_sem,Part.d,Part.c,F0,di1,hgb1];done)|(simp_all;done)),(by exact hh),(by (rw [hx,hie];simp [KO,b5])),(by exact hG),(by exact hnx)⟩) ?_
  iterate 13 (first|omega|(simp [go_sem,seval,Part.d,Part.c,F0,di1,hgb1]<;>omega))
  intro i e H hi4
  obtain ⟨x,q4_4,q5_4,q7_4,q6_4,q8_4,q9_4,q15_4,gX_4,nX_4,gR_4,nR_4,gY_4,nY_4,hi4,hh4,hx4,hG4,hn4⟩:=(hI4 _ _ _).1 hi4
  have xX:=bY nX_4
  have xR:=bY nR_4
  have xY:=bY nY_4
  have F4:=And.intro q4_4 (And.intro q5_4 (And.intro q7_4 (And.intro q6_4 (And.intro q8_4 (And.intro q9_4 (And.intro q15_4 (And.intro gX_4 (And.intro gR_4 (And.intro gY_4 (And.intro xX (And.intro xR xY)))))))))))
  have di4:=And.intro (cO (show Y≠R by omega)) (And.intro (cO (show Y≠X by omega)) (And.intro (cO (show Y≠V by omega)) (And.intro (cO (show Y≠b by omega)) (And.intro (cO (show Y≠a by omega)) (And.intro (cO (show R≠X by omega)) (And.intro (cO (show R≠V by omega)) (And.intro (cO (show R≠b by omega)) (And.intro (cO (show R≠a by omega)) (And.intro (cO (show X≠V by omega)) (And.intro (cO (show X≠b by omega)) (And.intro (cO (show X≠a by omega)) (And.intro (cO (show V≠b by omega)) (And.intro (cO (show V≠a by omega)) (cO (show b≠a by omega)))))))))))))))
  try simp [go_sem,seval,Part.d,Part.c,di1,hgb1,F4,di4]
  repeat first|intro _|refine ⟨eM,?_⟩
  refine aO (fun h15=>?_) (fun h15=>?_)
  ·try simp [go_sem] at h15
   have hsu:=mJ r.into.edges i
   obtain ⟨y,hy⟩:∃ y,y=r.right.graph.edges[i]:=⟨_,rfl⟩
   have hye:r.right.graph.edges[(i:Int).toNat]?.getD bQ=y:=by rw [hy];simp [aA h15]
   have hye2:r.right.graph.edges[i]?.getD bQ=y:=by rw [hy,aA h15];rfl
   have hyi:=(hgi.2 _ (aC h15)).2
   rw [← hy] at hyi
   have hyf:y.from_.toNat<c.nodes.length:=by omega
   have hyt:y.to_.toNat<c.nodes.length:=by omega
   have hoE:=jL r.into.edges i
   have hxe:x.graph.edges.length≤2000:=by rw [hx4];simp [KO,CA];omega
   have hgb4:=hh4.gb
   have hqb:=hh4.rng b hh4.b_in
   have fr5:=bY (show b<H.next by omega)
   try simp [go_sem,seval,Part.d,Part.c,di1,hgb1,F4,di4,h15,aA h15,← hy,aA hyf,aA hyt,hgb4,Edge.c,fr5]
   refine aB (xE r.into.edges i) ((by first|rfl|(simp [go_sem,← List.map_take,← List.map_drop,Part.d,Part.c,di1,hgb1,F4,di4,h15,aA h15,← hy,aA hyf,aA hyt,hgb4,Edge.c,fr5];done))) ?_
   try simp [go_sem,seval,Part.d,Part.c,di1,hgb1,F4,di4,h15,aA h15,← hy,aA hyf,aA hyt,hgb4,Edge.c,fr5]
   refine aO (fun h17=>?_) (fun h17=>?_)
   ·try simp [go_sem] at h17
    have hm:¬ mem r.into.edges i=true:=by simpa using h17
    rw [if_neg hm] at hsu
    have hfr:freshE c y=⟨y.type,c.nodes[y.from_.toNat],c.nodes[y.to_.toNat]⟩:=by unfold freshE;rw [aA hyf,aA hyt];rfl
    obtain ⟨x2,hx2⟩:∃ z:Host,z=⟨⟨x.graph.nodes,x.graph.edges++[freshE c y]⟩,x.values⟩:=⟨_,rfl⟩
    have hx3:x2=KO t r c (CA t r x0 r.right.graph.nodes.length) (i+1):=by rw [hx2,hx4];unfold KO;rw [hsu];simp [hye,hye2]
    have hxl:x2.graph.nodes.length=x.graph.nodes.length∧x2.graph.edges.length=x.graph.edges.length+1∧x2.values.length=x.values.length:=by rw [hx2];simp
    have hfrm4:∀ j∈a :: V :: (qs0++ns),j≠b∧j≠X∧j<H.next:=fun j hj=>by
     have hj':j∈a :: b :: V :: (qs0++ns):=by simp only [aS] at hj ⊢;rcases hj with h|h|h<;>simp [h]
     refine ⟨?_,(hXq j hj').1,(hh4.rng j hj').2⟩
     rintro rfl
     have:=hh4.nd;simp only [fO,aS,not_or] at this
     simp only [aS] at hj
     rcases hj with h|h|h
     ·exact this.1.1 h.symm
     ·exact this.2.1.1 h
     ·exact this.2.1.2 h
    try simp [go_sem,seval,Part.d,Part.c,di1,hgb1,F4,di4,h15,aA h15,← hy,aA hyf,aA hyt,hgb4,Edge.c,fr5,hxl]
    repeat first|intro _|refine ⟨eM,?_⟩
    refine eV (i+1) (by omega) ((hI4 _ _ _).2 ⟨(x2),?_,?_,?_,?_,?_,?_,?_,?_,?_,?_,?_,?_,?_,(by first|assumption|omega|(simp [go_sem,Part.d,Part.c,di1,hgb1,F4,di4,h15,aA h15,← hy,aA hyf,aA hyt,hgb4,Edge.c,fr5,hxl,h3,h17];done)|(simp_all<;>omega)),(by (first|exact hh2|(rw [hx2];exact hh4.edges (by first|(simp [go_sem];done)|(simp [go_sem];omega)) (by simp [go_sem,Part.d,Part.c,di1,hgb1,F4,di4,h15,aA h15,← hy,aA hyf,aA hyt,hgb4,Edge.c,fr5,hxl,hfr,Edge.c]) (fun j hj=>by obtain ⟨k1,k2,k3⟩:=hfrm4 j hj;simp [go_sem,k1,k2,bY k3])))),(by exact hx3),(by (first|exact hG2|(intro j hj hjn;obtain ⟨ja,jb,jV⟩:=hout j hjn;simp [go_sem,jb,show j≠X by omega,bY (show j<H.next by omega)];exact hG4 j hj hjn))),(by (first|exact hn4|(simp [go_sem];omega)))⟩)<;>first|omega|(simp [go_sem,seval,Part.d,Part.c,di1,hgb1,F4,di4,h15,aA h15,← hy,aA hyf,aA hyt,hgb4,Edge.c,fr5,hxl]<;>omega)
   ·try simp [go_sem] at h17
    have hm:mem r.into.edges i=true:=by simpa using h17
    rw [if_pos hm,c5] at hsu
    obtain ⟨x2,hx2⟩:∃ z,z=x:=⟨_,rfl⟩
    have hx3:x2=KO t r c (CA t r x0 r.right.graph.nodes.length) (i+1):=by rw [hx2,hx4];unfold KO;rw [hsu]
    have hh2:HH H lo a b V (qs0++ns) x2:=by rw [hx2];exact hh4
    have hG2:=hG4
    try simp [go_sem,seval,Part.d,Part.c,di1,hgb1,F4,di4,h15,aA h15,← hy,aA hyf,aA hyt,hgb4,Edge.c,fr5,hx2]
    repeat first|intro _|refine ⟨eM,?_⟩
    refine eV (i+1) (by omega) ((hI4 _ _ _).2 ⟨(x2),?_,?_,?_,?_,?_,?_,?_,?_,?_,?_,?_,?_,?_,(by first|assumption|omega|(simp [go_sem,Part.d,Part.c,di1,hgb1,F4,di4,h15,aA h15,← hy,aA hyf,aA hyt,hgb4,Edge.c,fr5,hx2,h3,h17];done)|(simp_all<;>omega)),(by (first|exact hh2|(rw [hx2];exact hh4.edges (by first|(simp [go_sem];done)|(simp [go_sem];omega)) (by simp [go_sem,Part.d,Part.c,di1,hgb1,F4,di4,h15,aA h15,← hy,aA hyf,aA hyt,hgb4,Edge.c,fr5,hx2,hfr,Edge.c]) (fun j hj=>by obtain ⟨k1,k2,k3⟩:=hfrm4 j hj;simp [go_sem,k1,k2,bY k3])))),(by exact hx3),(by (first|exact hG2|(intro j hj hjn;obtain ⟨ja,jb,jV⟩:=hout j hjn;simp [go_sem,jb,show j≠X by omega,bY (show j<H.next by omega)];exact hG4 j hj hjn))),(by (first|exact hn4|(simp [go_sem];omega)))⟩)<;>first|omega|(simp [go_sem,seval,Part.d,Part.c,di1,hgb1,F4,di4,h15,aA h15,← hy,aA hyf,aA hyt,hgb4,Edge.c,fr5,hx2]<;>omega)
  ·try simp [go_sem] at h15
   have hie4:i=r.right.graph.edges.length:=by omega
   have hX4:x=iH t r c x0:=by rw [hx4,hie4];rfl
   rw [hX4] at hh4
   try simp [go_sem,seval,Part.d,Part.c,di1,hgb1,F4,di4,hX4]
   exact hQ ns _ hns (hh4.same (by simp [go_sem]) (fun j hj=>by simp [go_sem,(hXq j hj).2.1])) (fun j hj hjn=>by simp [go_sem,show j≠R by omega];exact hG4 j hj hjn) (by simp [go_sem];exact hn4)
end Go.Abs
end
