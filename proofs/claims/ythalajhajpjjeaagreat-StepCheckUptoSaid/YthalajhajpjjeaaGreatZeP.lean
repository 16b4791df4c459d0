/- Layer 26 of the reference: rules, places, the match, what re -/
import Derived.Test.YthalajhajpjjeaaGreatZeF
import Derived.Test.YthalajhajpjjeaaGreatZeA
import Derived.Test.YthalajhajpjjeaaGreatZeO
set_option linter.unusedVariables false
set_option linter.unusedSimpArgs false
section
set_option maxRecDepth 100000
set_option maxHeartbeats 4000000
open Go Go.Proofs
namespace Go.Abs
structure RuleV (t:Types) (r:Rule):Prop where
 vf:(b8 t).2=0
 pl:PatOk t r.left
 gr:graphF r.right.graph=0
 tr:f8 t r.right.graph=true
 sub:subF r.left.graph r.keep=0
 mo:dV (bY r.left.graph r.keep) r.right.graph r.into=0
 inj:Eg (bY r.left.graph r.keep) r.right.graph r.into=true
 mkb:v8 t r.right.graph r.freshN r.freshE=true
 vars:r.right.vars=r.left.vars
 few:r.right.slots.length≤10
 slot:∀ s∈r.right.slots,fN t r.right s=0
 cond:CondV t r.left r.cond
 kl:r.keep.nodes.length≤1000000∧r.keep.edges.length≤1000000
theorem OO {t:Types}{r:Rule}(hr:r.ok)(h:ruleF t r=0):RuleV t r:=by
 unfold ruleF at h
 split at h
 ·rename_i h1;exact absurd h h1
 ·rename_i h1
  split at h
  ·cases h
  ·split at h
   ·rename_i h3;exact absurd h h3
   ·rename_i h3
    split at h
    ·rename_i h4;exact absurd h h4
    ·rename_i h4
     split at h
     ·rename_i h5;exact absurd h h5
     ·rename_i h5
      split at h
      ·cases h
      ·rename_i h6
       rw [iT] at h1 h3 h4 h5
       have hR:=A9 h4
       unfold gW at h4
       rw [if_neg (by omega),if_neg (by simp [hR.2])] at h4
       split at h4
       ·cases h4
       ·rename_i h7
        split at h4
        ·cases h4
        ·rename_i h8
         have hk:subF r.left.graph r.keep=0∧dV (bY r.left.graph r.keep) r.right.graph r.into=0∧Eg (bY r.left.graph r.keep) r.right.graph r.into=true:=by
          unfold keptF at h5
          split at h5
          ·rename_i q;exact absurd h5 q
          ·rename_i q
           split at h5
           ·rename_i q2;exact absurd h5 q2
           ·rename_i q2
            split at h5
            ·cases h5
            ·rename_i q3;exact ⟨by omega,by omega,by simpa using q3⟩
         unfold condF at h
         rw [if_neg (by omega)] at h
         split at h
         ·rename_i q;exact absurd h q
         ·rename_i h9
          refine ⟨h1,Gn (.inr h3),hR.1,hR.2,hk.1,hk.2.1,hk.2.2,by simpa using h6,by omega,by omega,fun s hs=>?_,⟨?_,h,hr.size⟩,hr.k1,hr.k2⟩
          ·obtain ⟨i,hi,rfl⟩:=aO hs
           have:=dZ _ _ h4 i (dF _) (by omega)
           rw [A5 hi] at this
           split at this
           ·cases this
           ·rename_i q;exact iT.1 q
          ·rw [iT] at h9
           unfold pX at h9
           split at h9
           ·cases h9
           ·rename_i q;simpa using q
theorem RuleV.keep {t:Types}{r:Rule}(h:RuleV t r):(r.keep.nodes.length=r.into.nodes.length∧r.keep.edges.length=r.into.edges.length)∧(∀ x∈r.keep.nodes,0≤x∧x<r.left.graph.nodes.length)∧(∀ x∈r.keep.edges,0≤x∧x<r.left.graph.edges.length) ∧
  (∀ x∈r.into.nodes,0≤x∧x<r.right.graph.nodes.length)∧∀ x∈r.into.edges,0≤x∧x<r.right.graph.edges.length:=by
 obtain ⟨h1,h2,h3,h4⟩:=wV h.sub
 obtain ⟨_,_,h5,h6⟩:=lX h.mo
 obtain ⟨h7,h8⟩:=w3 h.mo
 have e1:(bY r.left.graph r.keep).nodes.length=r.keep.nodes.length:=by unfold bY;rw [if_pos h.sub];simp
 have e2:(bY r.left.graph r.keep).edges.length=r.keep.edges.length:=by unfold bY;rw [if_pos h.sub];simp
 exact ⟨⟨by omega,by omega⟩,h3,h4,h7,h8⟩
theorem RuleV.slots {t:Types}{r:Rule}(h:RuleV t r):∀ s∈r.right.slots,(0≤s.node∧s.node<r.right.graph.nodes.length)∧(0≤s.attr∧s.attr<(bI t (r.right.graph.nodes[s.node.toNat]?.getD 0)).length)∧nB s.term r.left.vars.toNat:=fun s hs=>by
 have:=h.slot s hs
 have hv:=h.pl.vars
 have he:=h.vars
 unfold fN at this
 split at this
 ·rename_i h1
  simp only [aM,j5,decide_eq_true_eq,inF,Pattern.kind] at h1
  exact ⟨h1.1.1.1,⟨h1.1.1.2.1,of_decide_eq_true h1.1.1.2.2⟩,⟨by omega,by omega⟩,by omega,by omega⟩
 ·cases this
theorem Jf (t:Types)(ht:t.ok)(r:Rule)(hr:r.ok)(h:Host):Pure Tryz.prog 59 [t.d,r.d,h.d] (dI (fC t r h)):=by
 refine Tz.pK ⟨fun _=>false,fun _=>[]⟩ Tryz.func59 rfl (fun Q hQ=>?_)
 have Y:=wa @Host.d.eq_1 @Host.c.eq_1
 refine wv (h:=aB (Ji t ht r hr) wl ?_)
 refine c4 (fun h2=>?_) fun h2=>?_
 ·exact wv (h:=hQ _ _ (by simp [go_sem,fC,h2]))
 ·refine wv (h:=aB (vU t ht h) wl ?_)
  exact wv (h:=hQ _ _ (by simp [go_sem,fC,h2,fW]))
theorem nW (l:List Int)(k:Nat)(v:Int):gF l (k+1) v=if l[k]?.getD (-1)=v then (k:Int) else gF l k v:=by unfold gF;rw [dK]
theorem AK (l:List Int)(v:Int):∀ n,-1≤gF l n v∧gF l n v<n
 | 0=>by simp [gF]
 | n+1=>by
  have:=AK l v n
  rw [nW];split<;>omega
theorem EV (l:List Int)(v:Nat):jR l (v+1)=jR l v++[gF l l.length v]:=by simp [jR,fG]
theorem kD (l:List Int)(v:Nat):(jR l v).length=v:=by simp [jR]
theorem xG (l:List Int){n i:Nat}(h:i<n):(jR l n)[i]?=some (gF l l.length i):=by simp [jR,h]
theorem DR (l:List Int)(n:Nat)(hn:n≤1000000):Pure Tryz.prog 155 [dLI l,dI n] (dLI (jR l n)):=by
 refine Tz.pK ⟨fun t=>t==5,fun _=>[]⟩ Tryz.func155 rfl (fun Q hQ=>?_)
 have Y:=trivial
 refine wv (h:=bA (fun v e H=>(e 0=dLI l∧e 1=dI n∧e 5=.own 0 v∧e 6=dI v)∧(H.get 0=some ⟨3,1,(jR l v).map cI,false⟩)∧(0<H.next)∧(v≤n)) (fun v=>n - v) 0 ⟨wg,(by (simp [go_sem,jR])),wn,wi⟩ fun I0 hI0 v e H hi0=>?_)
 obtain ⟨E0,g0_0,n0_0,hv⟩:=hi0
 have Y:=wa Y (wa E0 (wa g0_0 (bZ n0_0)))
 refine c4 (fun h3=>?_) fun h3=>?_
 ·have hbl:=kD l v
  have Y:=wa Y h3
  refine wp (h:=bA (fun k e H=>∃ B:List Int,(e 0=dLI l∧e 1=dI n∧e 5=.own 0 (v+1)∧e 6=dI v∧e 7=dI k)∧(H.get 0=some ⟨3,1,B.map cI,false⟩)∧(0<H.next)∧(k≤l.length)∧(B=jR l v++[gF l k v])∧(B.length=v+1)) (fun k=>l.length - k) 0 ⟨(jR l v++[-1]),wg,(by (simp [go_sem,Y,cI])),wn,wi,(by rfl),(by (simp [hbl]))⟩ fun I2 hI2 k e H hi2=>?_)
  obtain ⟨B,E2,g0_2,n0_2,hk,hB,hBl⟩:=hi2
  have Y:=wa Y (wa E2 (wa g0_2 (wa (bZ n0_2) hBl)))
  refine wv (h:=?_)
  repeat first|intro _|refine ⟨eZ,?_⟩
  refine wq (fun h7=>?_) fun h7=>?_
  ·have hvB:v<B.length:=by omega
   have Y:=wa Y (wa h7 (wa (aA h7) (aA hvB)))
   refine wv (h:=?_)
   repeat first|intro _|refine ⟨eZ,?_⟩
   refine wq (fun h9=>?_) fun h9=>?_
   ·obtain ⟨B2,hB2⟩:∃ y,y=B.set v (k:Int):=⟨_,rfl⟩
    have hm:B2.map cI=(B.map cI).set v (cI k):=by rw [hB2,c8]
    have hB3:B.set v (k:Int)=jR l v++[gF l (k+1) v]:=by
     rw [nW,aA h7,aD,if_pos (by omega),hB,oA _ _ (by omega),hbl,u7];rfl
    have Y:=wa Y (wa hm @cI.eq_1)
    exact wp (h:=wx hI2 (k+1) ⟨B2,wg,(by (simp [go_sem,Y])),wn,wj,(by (rw [hB2];exact hB3)),(by (rw [hB2];simp [hBl]))⟩)
   ·obtain ⟨B2,hB2⟩:∃ y,y=B:=⟨_,rfl⟩
    have hB3:B=jR l v++[gF l (k+1) v]:=by
     rw [nW,aA h7,aD,if_neg (by omega)];exact hB
    have Y:=wa Y hB2
    exact wp (h:=wx hI2 (k+1) ⟨B2,wg,(by (simp [go_sem,Y])),wn,wj,(by (rw [hB2];exact hB3)),(by (rw [hB2];simp [hBl]))⟩)
  ·have hBe:B.map cI=(jR l v).map cI++[cI (gF l l.length v)]:=by rw [hB,show k=l.length by omega];simp
   exact wp (h:=wx hI0 (v+1) ⟨wg,(by (simp [go_sem,Y,EV,hBe])),wn,wj⟩)
 ·have hve:v=n:=by omega
  exact wv (h:=hQ _ _ (by simp [go_sem,Y,hve,dLI,kD]))
theorem zZ (l:List Int)(n:Nat)(hn:n≤1000000):Pure Tryz.prog 154 [dI n,dLI l] (dLI (jR l n)):=by
 refine Tz.pK ⟨fun _=>false,fun _=>[]⟩ Tryz.func154 rfl (fun Q hQ=>?_)
 have Y:=trivial
 refine wv (h:=aB (DR l n hn) wl ?_)
 exact wv (h:=hQ _ _ wy)
theorem Fw (t:Types)(ht:t.ok)(h:Host)(p:Part)(hl:p.nodes.length≤1000000)(hle:p.edges.length≤1000000)(hn:h.graph.nodes.length≤1000000)(he:h.graph.edges.length≤1000000) :
  Pure Tryz.prog 61 [t.d,h.d,p.d] (.tup [(PU t h p).d,Part.d ⟨jR p.nodes h.graph.nodes.length,jR p.edges h.graph.edges.length⟩]):=by
 refine Tz.pK ⟨fun t=>t==6||t==7||t==8,fun _=>[]⟩ Tryz.func61 rfl (fun Q hQ=>?_)
 have Y:=wa @Host.d.eq_1 (wa @Host.c.eq_1 (wa @Part.d.eq_1 @Part.c.eq_1))
 refine wv (h:=aB (FC t ht h p hl hle) wl ?_)
 refine wp (h:=aK (zZ p.nodes h.graph.nodes.length hn) wl ?_)
 refine wp (h:=aK (zZ p.edges h.graph.edges.length he) wl ?_)
 exact wp (h:=hQ _ _ wy)
theorem xZ (l:List Int)(n:Int):Pure Tryz.prog 156 [dLI l,dI n] (.bool (!mem l n)):=by
 refine Tz.pK ⟨fun _=>false,fun _=>[]⟩ Tryz.func156 rfl (fun Q hQ=>?_)
 have Y:=trivial
 refine wv (h:=bA (fun i e H=>(e 0=dLI l∧e 1=dI n∧e 5=dI i)∧(i≤l.length)∧(∀ j,j<i→∀ hj:j<l.length,l[j]≠n)) (fun i=>l.length - i) 0 ⟨wg,wi,(by (intro j hj;omega))⟩ fun I0 hI0 i e H hi0=>?_)
 obtain ⟨E0,hi,hN⟩:=hi0
 have Y:=wa Y E0
 refine wv (h:=?_)
 repeat first|intro _|refine ⟨dR,?_⟩
 refine wq (fun h2=>?_) fun h2=>?_
 ·have Y:=wa Y (wa h2 (aA h2))
  refine wv (h:=?_)
  repeat first|intro _|refine ⟨dR,?_⟩
  refine wq (fun h4=>?_) fun h4=>?_
  ·have hm:mem l n=true:=(c6 _ _).2 (h4 ▸ aC h2)
   exact wv (h:=hQ _ _ (by simp [go_sem,hm]))
  ·exact wo (h:=wx hI0 (i+1) ⟨wg,wj,(by (intro j hj hjl;rcases bN j i with hji|hji;exact hN j hji hjl;(obtain rfl:j=i:=(by omega);exact h4)))⟩)
 ·have hm:mem l n=false:=by
   rw [bH];intro hm
   obtain ⟨j,hj,he⟩:=aO ((c6 _ _).1 hm)
   exact hN j (by omega) hj he
  exact wv (h:=hQ _ _ (by simp [go_sem,hm]))
theorem vN (im tr:List Int)(hl:im.length≤1000000)(hi:∀ x∈im,0≤x∧x<tr.length):Pure Tryz.prog 62 [dLI im,dLI tr] (dLI (nD im tr)):=by
 refine Tz.pK ⟨fun t=>t==5,fun _=>[]⟩ Tryz.func62 rfl (fun Q hQ=>?_)
 have Y:=trivial
 refine wv (h:=bA (fun i e H=>(e 0=dLI im∧e 1=dLI tr∧e 5=.own 0 i∧e 6=dI i)∧(H.get 0=some ⟨3,1,(nD (im.take i) tr).map cI,false⟩)∧(0<H.next)∧(i≤im.length)) (fun i=>im.length - i) 0 ⟨wg,(by (simp [go_sem,nD])),wn,wi⟩ fun I0 hI0 i e H hi0=>?_)
 obtain ⟨E0,g0_0,n0_0,hii⟩:=hi0
 have Y:=wa Y (wa E0 (wa g0_0 (bZ n0_0)))
 refine tG (fun h3=>?_) fun h3=>?_
 ·have hx:=hi _ (aC h3)
  have hk:im[i].toNat<tr.length:=by omega
  have hSt:nD (im.take (i+1)) tr=nD (im.take i) tr++[tr[im[i].toNat]]:=by unfold nD;rw [aE h3,List.map_append];simp [aA hk]
  have hal:(nD (im.take i) tr).length=i:=by simp [nD];omega
  have Y:=wa Y (wa h3 (wa (aA h3) (wa (aA hk) hal)))
  exact wp (h:=wx hI0 (i+1) ⟨wg,(by (simp [go_sem,Y,hSt,cI])),wn,wj⟩)
 ·rw [aH (by omega)] at g0_0
  have hie:i=im.length:=by omega
  have hal:(nD im tr).length=im.length:=by simp [nD]
  exact wv (h:=hQ _ _ (by simp [go_sem,Y,hie,hal,dLI]))
theorem GA (into:List Int)(i:Nat):yU into (i+1)=yU into i+if gF into into.length i<0 then 1 else 0:=by
 unfold yU;rw [fG,kM,aV]
 congr 1
 simp only [List.filter_cons,List.filter_nil]
 split<;>simp_all
theorem Gz (into:List Int):yU into 0=0:=rfl
theorem MN (into:List Int)(i:Nat):yU into i≤i:=by
 unfold yU;exact dW (oC _ _) (by simp)
theorem Ks (keep into at_:List Int)(i remain:Nat):CQ keep into at_ (i+1) remain=CQ keep into at_ i remain++[G0 keep into at_ remain i]:=by simp [CQ,fG]
theorem x7 (keep into at_:List Int)(right remain:Nat)(k1:into.length≤keep.length)(k2:∀ x∈keep,0≤x∧x<at_.length)(k3:right≤1000000)(k4:remain≤1000000) :
  Pure Tryz.prog 63 [dLI keep,dLI into,dI right,dLI at_,dI remain] (dLI (CQ keep into at_ right remain)):=by
 refine Tz.pK ⟨fun t=>t==12,fun _=>[]⟩ Tryz.func63 rfl (fun Q hQ=>?_)
 have Y:=@Gz
 refine wv (h:=aB (DR into right k3) wl ?_)
 refine wv (h:=bA (fun i e H=>(e 0=dLI keep∧e 1=dLI into∧e 2=dI right∧e 3=dLI at_∧e 4=dI ((remain+yU into i:Nat):Int)∧e 11=dLI (jR into right)∧e 12=.own 0 i∧e 13=dI i)∧(H.get 0=some ⟨3,1,(CQ keep into at_ i remain).map cI,false⟩)∧(0<H.next)∧(i≤right)) (fun i=>right - i) 0 ⟨wg,(by (simp [go_sem,CQ])),wn,wi⟩ fun I0 hI0 i e H hi0=>?_)
 obtain ⟨E0,g0_0,n0_0,hi⟩:=hi0
 have Y:=wa Y (wa E0 (wa g0_0 (bZ n0_0)))
 refine c4 (fun h4=>?_) fun h4=>?_
 ·have hg:=xG into (n:=right) (i:=i) (by omega)
  have hb:=AK into i into.length
  have hbl:=kD into right
  have hnc:=GA into i
  have hnl:=MN into i
  have hcl:(CQ keep into at_ i remain).length=i:=by simp [CQ]
  have hg2:(jR into right)[i]'(by omega)=gF into into.length i:=by simp [jR]
  have Y:=wa Y (wa h4 (wa hg (wa hg2 (wa hbl hcl))))
  refine tG (fun h6=>?_) fun h6=>?_
  ·have hb2:(gF into into.length i).toNat<keep.length:=by omega
   have hx:=k2 _ (aC hb2)
   have hk:keep[(gF into into.length i).toNat].toNat<at_.length:=by omega
   have hC:G0 keep into at_ remain i=at_[keep[(gF into into.length i).toNat].toNat]:=by unfold G0;rw [if_pos (by omega),aA hb2,aD,aA hk];rfl
   rw [if_neg (by omega)] at hnc
   have Y:=wa Y (wa (aA hb2) (wa (aA hk) hnc))
   exact wp (h:=wx hI0 (i+1) ⟨wg,(by (simp [go_sem,Y,Ks,hC,cI])),wn,wj⟩)
  ·have hC:G0 keep into at_ remain i=((remain+yU into i:Nat):Int):=by unfold G0;rw [if_neg (by omega)]
   rw [if_pos (by omega)] at hnc
   have Y:=wa Y hnc
   exact wp (h:=wx hI0 (i+1) ⟨wg,(by (simp [go_sem,Y,Ks,hC,cI])),wn,wj⟩)
 ·have hie:i=right:=by omega
  exact wv (h:=hQ _ _ (by simp [go_sem,Y,hie,dLI];simp [CQ]))
theorem pY (a b:List Int):Pure Tryz.prog 96 [dLI a,dLI b] (.bool (decide (a=b))):=by
 refine Tz.pK ⟨fun _=>false,fun _=>[]⟩ Tryz.func96 rfl (fun Q hQ=>?_)
 have Y:=trivial
 refine wv (h:=?_)
 repeat first|intro _|refine ⟨dR,?_⟩
 refine wq (fun h1=>?_) fun h1=>?_
 ·refine wv (h:=?_)
  have hne:a≠b:=by intro h;subst h;omega
  exact hQ _ _ (by simp [go_sem,hne])
 ·refine wv (h:=bA (fun i e H=>(e 0=dLI a∧e 1=dLI b∧e 5=dI i)∧(i≤a.length)∧(a.take i=b.take i)) (fun i=>a.length - i) 0 ⟨wg,wi,(by rfl)⟩ fun I0 hI0 i e H hi0=>?_)
  obtain ⟨E0,hi,he⟩:=hi0
  have Y:=wa Y E0
  refine wv (h:=?_)
  repeat first|intro _|refine ⟨dR,?_⟩
  refine wq (fun h4=>?_) fun h4=>?_
  ·have hib:i<b.length:=by omega
   have Y:=wa Y (wa h4 hib)
   refine wv (h:=?_)
   repeat first|intro _|refine ⟨dR,?_⟩
   refine wq (fun h6=>?_) fun h6=>?_
   ·refine wv (h:=?_)
    have hne:a≠b:=by intro h;subst h;exact h6 rfl
    exact hQ _ _ (by simp [go_sem,hne])
   ·exact wo (h:=wx hI0 (i+1) ⟨wg,wj,(by (rw [aE h4,aE hib,he,h6]))⟩)
  ·rw [aH (by omega),aH (by omega)] at he
   exact wv (h:=hQ _ _ (by simp [go_sem,he]))
def sP (t:Types)(r:Rule)(h:Host)(m:Mat):Part:=if oT t r h m=0 then b4 r h m else ⟨[],[]⟩
theorem Md {t:Types}{p g:Graph}{m:Part}{inj:Bool}(h:eR t p g m inj=0):eR t p g m false=0:=by
 unfold eR at h ⊢
 split at h
 ·exact absurd h (by assumption)
 ·rename_i h1
  rw [if_neg h1]
  unfold gX at h ⊢
  split at h
  ·cases h
  ·rename_i h2
   rw [if_neg h2]
   split at h
   ·exact absurd h (by assumption)
   ·rename_i h3
    rw [if_neg h3]
    split at h
    ·exact absurd h (by assumption)
    ·rename_i h4
     rw [if_neg h4,if_neg (by simp)]
theorem Gb {t:Types}{p:Pattern}{h:Host}{m:Part}(h0:(dD t p h m).2=0):PatOk t p∧HostOk t h∧eR t p.graph h.graph m false=0∧dD t p h m=d8 p h m []:=by
 unfold dD at h0 ⊢
 split at h0
 ·exact absurd h0 (by assumption)
 ·rename_i h1
  split at h0
  ·exact absurd h0 (by assumption)
  ·rename_i h2
   split at h0
   ·exact absurd h0 (by assumption)
   ·rename_i h3
    rw [iT] at h1 h2 h3
    rw [if_neg (by omega),if_neg (by omega),if_neg (by omega)]
    exact ⟨Gn (.inr h1),tZ h2,h3,rfl⟩
theorem DI (t:Types)(ht:t.ok)(r:Rule)(hR:RuleV t r)(h:Host)(ho:HostOk t h)(m:Mat) :
  Pure Tryz.prog 60 [t.d,r.d,h.d,m.d] (.tup [(sP t r h m).d,dI (jW t r h m)]):=by
 refine Tz.pK ⟨fun t=>t==8||t==12||t==13,fun _=>[]⟩ Tryz.func60 rfl (fun Q hQ=>?_)
 have Y:=wa @Host.d.eq_1 (wa @Host.c.eq_1 (wa @Mat.d.eq_1 @Mat.c.eq_1))
 refine wv (h:=aB (vT t ht r.left.graph h.graph m.m r.inj) wl ?_)
 refine c4 (fun h1=>?_) fun h1=>?_
 ·have hP:oT t r h m=1:=by unfold oT;rw [if_pos (by simpa using h1)]
  have hE:jW t r h m=1:=by unfold jW;rw [if_pos (by omega),hP]
  have hD:sP t r h m=⟨[],[]⟩:=by unfold sP;rw [if_neg (by omega)]
  exact wv (h:=hQ _ _ (by simp [go_sem,hE,hD,Part.d,Part.c,dLI]))
 ·have hc:eR t r.left.graph h.graph m.m r.inj=0:=by simpa using h1
  refine wv (h:=aB (Js t ht r.left h m.m) wl ?_)
  refine c4 (fun h4=>?_) fun h4=>?_
  ·have hP:oT t r h m=(dD t r.left h m.m).2:=by unfold oT;rw [if_neg (by omega),if_pos h4]
   have hE:jW t r h m=(dD t r.left h m.m).2:=by unfold jW;rw [if_pos (by omega),hP]
   have hD:sP t r h m=⟨[],[]⟩:=by unfold sP;rw [if_neg (by omega)]
   exact wv (h:=hQ _ _ (by simp [go_sem,hE,hD,Part.d,Part.c,dLI]))
  ·obtain ⟨hso1,hso2,hso3,hso4⟩:=Gb (by simpa using h4)
   have hmo:=p9 (pR hc).2
   refine wp (h:=aB (pY (dD t r.left h m.m).1 m.vars) wl ?_)
   refine tG (fun h6=>?_) fun h6=>?_
   ·have h6':(dD t r.left h m.m).1≠m.vars:=by simpa using h6
    have hP:oT t r h m=11:=by unfold oT;rw [if_neg (by omega),if_neg (by omega),if_pos h6']
    have hE:jW t r h m=11:=by unfold jW;rw [if_pos (by omega),hP]
    have hD:sP t r h m=⟨[],[]⟩:=by unfold sP;rw [if_neg (by omega)]
    exact wv (h:=hQ _ _ (by simp [go_sem,hE,hD,Part.d,Part.c,dLI]))
   ·have h6':(dD t r.left h m.m).1=m.vars:=by simpa using h6
    have hin:xM t r.left.graph h.graph m.m=oL r.left.graph h.graph m.m:=by unfold xM;rw [if_pos hso3]
    have hP:oT t r h m=o8 (oL r.left.graph h.graph m.m) h.graph r.keep m.m:=by unfold oT;rw [if_neg (by omega),if_neg (by omega),if_neg (by rw [h6'];simp)]
    have hK:=hR.keep
    have hgl:=bK hR.pl.gg
    have hgh:=bK ho.gg
    have hml:=hmo.len
    have hme:=hmo.elen
    have hkl:=hR.kl.1
    have hMat:MatOk t r.left h m:=by
     rw [hso4] at h6'
     have hz:(d8 r.left h m.m []).2=0:=by rw [← hso4];simpa using h4
     obtain ⟨a1,a2⟩:=yM (QM hR.pl ho hmo) (vs:=[]) (by simp) (by simp) hz
     rw [h6'] at a1 a2
     exact ⟨hmo,a1,a2⟩
    have Y:=wa Y (wa hin hso3)
    refine wv (h:=aB (DM t ht r.left.graph h.graph m.m) wl ?_)
    refine wv (h:=aB (OR (oL r.left.graph h.graph m.m) h.graph r.keep m.m (by omega) (by omega) (by omega) (by omega) (by omega)) wl ?_)
    refine c4 (fun h12=>?_) fun h12=>?_
    ·have hE:jW t r h m=o8 (oL r.left.graph h.graph m.m) h.graph r.keep m.m:=by unfold jW;rw [if_pos (by omega),hP]
     have hD:sP t r h m=⟨[],[]⟩:=by unfold sP;rw [if_neg (by omega)]
     exact wv (h:=hQ _ _ (by simp [go_sem,hE,hD,Part.d,Part.c,dLI]))
    ·have hD:sP t r h m=b4 r h m:=by unfold sP;rw [if_pos (by omega)]
     have hE0:jW t r h m=if (lP t h r.inj r.cond m).2≠0 then (lP t h r.inj r.cond m).2 else if (lP t h r.inj r.cond m).1=false then 16 else 0:=by unfold jW;rw [if_neg (by omega)]
     refine wv (h:=aB ((by have hq:=Jq t ht h ho r.inj r.cond r.left hR.cond hR.pl m hMat;rwa [Cond.c_eq] at hq)) wl ?_)
     refine tG (fun h15=>?_) fun h15=>?_
     ·rw [if_neg (by rw [h15.1];simp),if_pos h15.2] at hE0
      exact wv (h:=hQ _ _ (by simp [go_sem,Y,hE0,hD,b4]))
     ·have hE2:jW t r h m=(lP t h r.inj r.cond m).2:=by
       rw [hE0];split
       ·rfl
       ·rename_i hz;rw [iT] at hz;simp [hz] at h15;simp [hz,h15]
      exact wv (h:=hQ _ _ (by simp [go_sem,Y,hE2,hD,b4]))
theorem mQ (l:List Int)(i:Nat):b5 l (i+1)=b5 l i++if mem l i=true then [] else [(i:Int)]:=by
 unfold b5;rw [fG,kM,List.map_append]
 congr 1
 simp only [List.filter_cons,List.filter_nil]
 split<;>simp_all
def C6 (t:Types)(r:Rule)(x:Host)(i:Nat):Host :=
 ⟨⟨x.graph.nodes++(b5 r.into.nodes i).map (gN r.right.graph),x.graph.edges⟩,x.values++(b5 r.into.nodes i).map (fun k=>lY t (gN r.right.graph k))⟩
def LU (t:Types)(r:Rule)(c:Part)(x:Host)(i:Nat):Host:=⟨⟨x.graph.nodes,x.graph.edges++(b5 r.into.edges i).map (fun k=>freshE c (r.right.graph.edges[k.toNat]?.getD bS))⟩,x.values⟩
theorem BT (t:Types)(ht:t.ok)(r:Rule)(hR:RuleV t r)(x0:Host)(c:Part)(hc:c.nodes.length=r.right.graph.nodes.length)(hs:x0.graph.nodes.length≤1000∧x0.graph.edges.length≤1000∧x0.values.length≤1000)
  (G:AHeap) (lo a b V:Nat) (qs0:List Nat) (hh0:HH G lo a b V qs0 x0) (Q:D→AHeap→Prop)
  (hQ:∀ ns H',(∀ j∈ns,G.next≤j)→HH H' lo a b V (qs0++ns) (iO t r c x0)→(∀ j,j<G.next→j∉a :: b :: V :: qs0→H'.get j=G.get j)→G.next≤H'.next→Q (.agg [.own a (iO t r c x0).graph.nodes.length,.own b (iO t r c x0).graph.edges.length,.own V (iO t r c x0).values.length]) H') :
  ACalls Tryz.prog 64 [t.d,r.d,.agg [.own a x0.graph.nodes.length,.own b x0.graph.edges.length,.own V x0.values.length],c.d] G Q:=by
 have hga:=bK hR.gr
 have hgi:=dP hR.gr
 have ha0:=hh0.rng a hh0.a_in
 have hb0:=hh0.rng b hh0.b_in
 have hV0:=hh0.rng V hh0.V_in
 have hab:=hh0.ab
 have hout:∀ j,j∉a :: b :: V :: qs0→j≠a∧j≠b∧j≠V:=fun j hj=>by simp only [aT,not_or] at hj;exact ⟨hj.1,hj.2.1,hj.2.2.1⟩
 refine (aI (cfg:=⟨fun t=>t==6||t==8||t==9||t==13||t==16||t==1000001,fun r=>match r with|6=>[(0,8),(1,8),(2,8)]|19=>[(0,18),(1,18),(2,18)]|_=>[]⟩) Tz.mixed Tryz.func64 rfl rfl (aF rfl) (by kernel_rfl) ?_)
 try simp [go_sem,seval,Part.d,Part.c]
 obtain ⟨I0,hI0⟩:∃ I0:Nat→dA→AHeap→Prop,∀ (i:Nat) (e:dA) (H:AHeap),I0 i e H↔(∃ X:Nat,∃ R:Nat,∃ Y:Nat,∃ x:Host,∃ ns:List Nat,(e 4=.adr t.c)∧(e 5=.adr r.c)∧(e 7=.adr c.c)∧(e 6=.ptr X 1 0 0)∧(e 8=.ptr R 1 0 0)∧(e 9=.ptr Y 1 0 0)∧(e 10=dI i)∧(H.get X=some ⟨44,3,[[.own a x.graph.nodes.length,.own b x.graph.edges.length,.own V x.values.length]],false⟩)∧(X<H.next)∧(H.get R=some ⟨44,3,[[.nil,.nil,.nil]],false⟩)∧(R<H.next)∧(H.get Y=some ⟨29,2,[[dLI r.right.graph.nodes,.list (r.right.graph.edges.map Edge.c)]],false⟩)∧(Y<H.next)∧(i≤r.right.graph.nodes.length)∧(HH H lo a b V (qs0++ns) x)∧(x=C6 t r x0 i)∧(∀ j∈a :: b :: V :: (qs0++ns),j≠X∧j≠R∧j≠Y)∧(∀ j∈ns,G.next≤j)∧(G.next≤X∧X<R∧R<Y)∧(∀ j,j<G.next→j∉a :: b :: V :: qs0→H.get j=G.get j)∧(G.next≤H.next)):=⟨fun i e H=>_,fun _ _ _=>Iff.rfl⟩
 refine uN I0 (fun i=>r.right.graph.nodes.length - i) (0) ((hI0 _ _ _).2 ⟨(G.next),(G.next+1),(G.next+2),(x0),([]),?_,?_,?_,?_,?_,?_,?_,?_,?_,?_,?_,?_,?_,(by first|assumption|omega|(simp [go_sem,Part.d,Part.c];done)|(simp_all;done)),(by (rw [dJ];refine hh0.same (by simp [go_sem];omega) (fun j hj=>by have:=(hh0.rng j hj).2;simp [go_sem,bZ this]))),(by (simp [C6,b5])),(by (intro j hj;rw [dJ] at hj;have:=(hh0.rng j hj).2;omega)),(by (intro j hj;cases hj)),(by omega),(by (intro j hj _;simp [go_sem,bZ hj])),(by (simp [go_sem];omega))⟩) ?_
 iterate 13 (first|omega|(simp [go_sem,seval,Part.d,Part.c]<;>omega))
 intro i e H hi0
 obtain ⟨X,R,Y,x,ns,q4_0,q5_0,q7_0,q6_0,q8_0,q9_0,q10_0,gX_0,nX_0,gR_0,nR_0,gY_0,nY_0,hi,hh,hx,hXq,hns,hXR,hG,hnx⟩:=(hI0 _ _ _).1 hi0
 have xX:=bZ nX_0
 have xR:=bZ nR_0
 have xY:=bZ nY_0
 have F0:=And.intro q4_0 (And.intro q5_0 (And.intro q7_0 (And.intro q6_0 (And.intro q8_0 (And.intro q9_0 (And.intro q10_0 (And.intro gX_0 (And.intro gR_0 (And.intro gY_0 (And.intro xX (And.intro xR xY)))))))))))
 have di1:=And.intro (cW (show Y≠R by omega)) (And.intro (cW (show Y≠X by omega)) (And.intro (cW (show Y≠V by omega)) (And.intro (cW (show Y≠b by omega)) (And.intro (cW (show Y≠a by omega)) (And.intro (cW (show R≠X by omega)) (And.intro (cW (show R≠V by omega)) (And.intro (cW (show R≠b by omega)) (And.intro (cW (show R≠a by omega)) (And.intro (cW (show X≠V by omega)) (And.intro (cW (show X≠b by omega)) (And.intro (cW (show X≠a by omega)) (And.intro (cW (show V≠b by omega)) (And.intro (cW (show V≠a by omega)) (cW (show b≠a by omega)))))))))))))))
 try simp [go_sem,seval,Part.d,Part.c,F0,di1]
 repeat first|intro _|refine ⟨eZ,?_⟩
 refine aP (fun h3=>?_) (fun h3=>?_)
 ·try simp [go_sem] at h3
  have hsu:=mQ r.into.nodes i
  obtain ⟨nd,hnd⟩:∃ y,y=r.right.graph.nodes[i]:=⟨_,rfl⟩
  have hgn:gN r.right.graph (i:Int)=nd:=by rw [hnd];simp [gN,aA h3]
  have hoL:=jY r.into.nodes i
  have hxn:x.graph.nodes.length≤2000∧x.values.length≤2000∧x.graph.edges.length≤2000:=by rw [hx];simp [C6];omega
  try simp [go_sem,seval,Part.d,Part.c,F0,di1,h3,aA h3,← hnd]
  repeat first|intro _|refine ⟨eZ,?_⟩
  refine aB (xZ r.into.nodes i) ((by first|rfl|(simp [go_sem,← List.map_take,← List.map_drop,Part.d,Part.c,F0,di1,h3,aA h3,← hnd];done))) ?_
  try simp [go_sem,seval,Part.d,Part.c,F0,di1,h3,aA h3,← hnd]
  repeat first|intro _|refine ⟨eZ,?_⟩
  refine aP (fun h5=>?_) (fun h5=>?_)
  ·try simp [go_sem] at h5
   have hm:mem r.into.nodes i=true:=by simpa using h5
   rw [if_pos hm,dJ] at hsu
   obtain ⟨x2,hx2⟩:∃ y,y=x:=⟨_,rfl⟩
   obtain ⟨ns2,hns2⟩:∃ y,y=ns:=⟨_,rfl⟩
   have hx3:x2=C6 t r x0 (i+1):=by rw [hx2,hx];unfold C6;rw [hsu]
   have hh2:HH H lo a b V (qs0++ns2) x2:=by rw [hx2,hns2];exact hh
   have hXq2:∀ j∈a :: b :: V :: (qs0++ns2),j≠X∧j≠R∧j≠Y:=by rw [hns2];exact hXq
   have hG2:=hG
   try simp [go_sem,seval,Part.d,Part.c,F0,di1,h3,aA h3,← hnd,hx2]
   repeat first|intro _|refine ⟨eZ,?_⟩
   refine fR (i+1) (by omega) ((hI0 _ _ _).2 ⟨(X),(R),(Y),(x2),(ns2),?_,?_,?_,?_,?_,?_,?_,?_,?_,?_,?_,?_,?_,(by first|assumption|omega|(simp [go_sem,Part.d,Part.c,F0,di1,h3,aA h3,← hnd,hx2,h5];done)|(simp_all<;>omega)),(by (first|exact hh2|(rw [hns2,← List.append_assoc,hx2];exact hhk.rowAdd (by first|(simp [go_sem];done)|(simp [go_sem];omega)) (by omega) hWq (by first|(simp [go_sem];done)|(simp [go_sem];omega)) (by simp [go_sem,Part.d,Part.c,F0,di1,h3,aA h3,← hnd,hx2,hleast]) (by simp [go_sem,Part.d,Part.c,F0,di1,h3,aA h3,← hnd,hx2,hleast]) (fun j hj=>by obtain ⟨k1,k2⟩:=hfrm2 j hj;simp [go_sem,k1,k2])))),(by exact hx3),(by exact hXq2),(by (rw [hns2];first|exact hns|(intro j hj;rw [aY,bL] at hj;rcases hj with hj|rfl;exact hns j hj;exact hWlo.2))),(by exact hXR),(by (first|exact hG2|(intro j hj hjn;obtain ⟨ja,jb,jV⟩:=hout j hjn;simp [go_sem,jV,show j≠X by omega];exact hGk j hj hjn))),(by (first|exact hnx|(simp [go_sem];omega)))⟩)<;>first|omega|(simp [go_sem,seval,Part.d,Part.c,F0,di1,h3,aA h3,← hnd,hx2]<;>omega)
  ·try simp [go_sem] at h5
   have hm:¬ mem r.into.nodes i=true:=by simpa using h5
   rw [if_neg hm] at hsu
   have hga1:=hh.ga
   have hgV1:=hh.gV
   have hrl:=iG hh.len
   have hqa:=hh.rng a hh.a_in
   have hqV:=hh.rng V hh.V_in
   have hqb:=hh.rng b hh.b_in
   have hal8:(bI t nd).length≤8:=qH hR.vf nd
   have fr2:=And.intro (bZ (show a<H.next by omega)) (And.intro (bZ (show b<H.next by omega)) (bZ (show V<H.next by omega)))
   have hfrm:∀ j∈b :: V :: (qs0++ns),j≠a∧j≠X∧j<H.next:=fun j hj=>by
    have hj':j∈a :: b :: V :: (qs0++ns):=dH _ hj
    refine ⟨?_,(hXq j hj').1,(hh.rng j hj').2⟩
    rintro rfl
    have:=hh.nd;rw [fY] at this;exact this.1 hj
   try simp [go_sem,seval,Part.d,Part.c,F0,di1,h3,aA h3,← hnd,h5,hga1,hgV1,hrl,fr2]
   repeat first|intro _|refine ⟨eZ,?_⟩
   refine aK (oI t ht nd) ((by first|rfl|(simp [go_sem,← List.map_take,← List.map_drop,Part.d,Part.c,F0,di1,h3,aA h3,← hnd,h5,hga1,hgV1,hrl,fr2];done))) ?_
   try simp [go_sem,seval,Part.d,Part.c,F0,di1,h3,aA h3,← hnd,h5,hga1,hgV1,hrl,fr2]
   repeat first|intro _|refine ⟨eZ,?_⟩
   obtain ⟨I2,hI2⟩:∃ I2:Nat→dA→AHeap→Prop,∀ (k:Nat) (e:dA) (H:AHeap),I2 k e H↔(∃ W:Nat,(e 4=.adr t.c)∧(e 5=.adr r.c)∧(e 7=.adr c.c)∧(e 6=.ptr X 1 0 0)∧(e 8=.ptr R 1 0 0)∧(e 9=.ptr Y 1 0 0)∧(e 10=dI i)∧(e 11=.list ((bI t nd).map Attr.c))∧(e 13=.own W k)∧(e 14=dI k)∧(H.get X=some ⟨44,3,[[.own a (x.graph.nodes.length+1),.own b x.graph.edges.length,.own V x.values.length]],false⟩)∧(X<H.next)∧(H.get R=some ⟨44,3,[[.nil,.nil,.nil]],false⟩)∧(R<H.next)∧(H.get Y=some ⟨29,2,[[dLI r.right.graph.nodes,.list (r.right.graph.edges.map Edge.c)]],false⟩)∧(Y<H.next)∧(H.get W=some ⟨3,1,(((bI t nd).take k).map fun a=>a.low).map cI,false⟩)∧(W<H.next)∧(k≤(bI t nd).length)∧(HH H lo a b V (qs0++ns) ⟨⟨x.graph.nodes++[nd],x.graph.edges⟩,x.values⟩)∧(∀ j∈a :: b :: V :: (qs0++ns),j≠W)∧((lo≤W∧Y<W)∧G.next≤W)∧(∀ j,j<G.next→j∉a :: b :: V :: qs0→H.get j=G.get j)∧(G.next≤H.next)):=⟨fun k e H=>_,fun _ _ _=>Iff.rfl⟩
   refine uN I2 (fun k=>(bI t nd).length - k) (0) ((hI2 _ _ _).2 ⟨(H.next+13+12),?_,?_,?_,?_,?_,?_,?_,?_,?_,?_,?_,?_,?_,?_,?_,?_,(by (simp [go_sem])),?_,(by first|assumption|omega|(simp [go_sem,Part.d,Part.c,F0,di1,h3,aA h3,← hnd,h5,hga1,hgV1,hrl,fr2];done)|(simp_all;done)),(by (exact hh.nodes (by first|(simp [go_sem];done)|(simp [go_sem];omega)) (by simp [go_sem,Part.d,Part.c,F0,di1,h3,aA h3,← hnd,h5,hga1,hgV1,hrl,fr2,cI]) (fun j hj=>by obtain ⟨k1,k2,k3⟩:=hfrm j hj;simp [go_sem,k1,k2,bZ k3]))),(by (intro j hj;have:=(hh.rng j hj).2;omega)),(by (omega)),(by (intro j hj hjn;obtain ⟨ja,jb,jV⟩:=hout j hjn;simp [go_sem,ja,show j≠X by omega,bZ (show j<H.next by omega)];exact hG j hj hjn)),(by (simp [go_sem];omega))⟩) ?_
   iterate 17 (first|omega|(simp [go_sem,seval,Part.d,Part.c,F0,di1,h3,aA h3,← hnd,h5,hga1,hgV1,hrl,fr2]<;>omega))
   intro k e H hi2
   obtain ⟨W,q4_2,q5_2,q7_2,q6_2,q8_2,q9_2,q10_2,q11_2,q13_2,q14_2,gX_2,nX_2,gR_2,nR_2,gY_2,nY_2,gW_2,nW_2,hk,hhk,hWq,hWlo,hGk,hnk⟩:=(hI2 _ _ _).1 hi2
   have xX:=bZ nX_2
   have xR:=bZ nR_2
   have xY:=bZ nY_2
   have xW:=bZ nW_2
   have F2:=And.intro q4_2 (And.intro q5_2 (And.intro q7_2 (And.intro q6_2 (And.intro q8_2 (And.intro q9_2 (And.intro q10_2 (And.intro q11_2 (And.intro q13_2 (And.intro q14_2 (And.intro gX_2 (And.intro gR_2 (And.intro gY_2 (And.intro xX (And.intro xR (And.intro xY xW)))))))))))))))
   have di3:=And.intro (cW (show W≠Y by omega)) (And.intro (cW (show W≠R by omega)) (And.intro (cW (show W≠X by omega)) (And.intro (cW (show W≠V by omega)) (And.intro (cW (show W≠b by omega)) (And.intro (cW (show W≠a by omega)) (And.intro (cW (show Y≠R by omega)) (And.intro (cW (show Y≠X by omega)) (And.intro (cW (show Y≠V by omega)) (And.intro (cW (show Y≠b by omega)) (And.intro (cW (show Y≠a by omega)) (And.intro (cW (show R≠X by omega)) (And.intro (cW (show R≠V by omega)) (And.intro (cW (show R≠b by omega)) (And.intro (cW (show R≠a by omega)) (And.intro (cW (show X≠V by omega)) (And.intro (cW (show X≠b by omega)) (And.intro (cW (show X≠a by omega)) (And.intro (cW (show V≠b by omega)) (And.intro (cW (show V≠a by omega)) (cW (show b≠a by omega)))))))))))))))))))))
   try simp [go_sem,seval,Part.d,Part.c,di1,h3,aA h3,← hnd,h5,hga1,hgV1,hrl,fr2,F2,gW_2,di3]
   repeat first|intro _|refine ⟨eZ,?_⟩
   refine aP (fun h10=>?_) (fun h10=>?_)
   ·try simp [go_sem] at h10
    have hst:((bI t nd).take (k+1)).map (fun a=>a.low)=((bI t nd).take k).map (fun a=>a.low)++[(bI t nd)[k].low]:=by rw [aE h10,List.map_append];rfl
    try simp [go_sem,seval,Part.d,Part.c,di1,h3,aA h3,← hnd,h5,hga1,hgV1,hrl,fr2,F2,gW_2,di3,h10,aA h10,Attr.c]
    repeat first|intro _|refine ⟨eZ,?_⟩
    refine fR (k+1) (by omega) ((hI2 _ _ _).2 ⟨(W),?_,?_,?_,?_,?_,?_,?_,?_,?_,?_,?_,?_,?_,?_,?_,?_,(by (simp [go_sem,Part.d,Part.c,di1,h3,aA h3,← hnd,h5,hga1,hgV1,hrl,fr2,F2,gW_2,di3,h10,aA h10,Attr.c,hst,cI])),?_,(by first|assumption|omega|(simp [go_sem,Part.d,Part.c,di1,h3,aA h3,← hnd,h5,hga1,hgV1,hrl,fr2,F2,gW_2,di3,h10,aA h10,Attr.c];done)|(simp_all<;>omega)),(by (exact hhk.same (by simp [go_sem]) (fun j hj=>by have:=hWq j hj;simp [go_sem,this]))),(by exact hWq),(by omega),(by (intro j hj hjn;simp [go_sem,show j≠W by omega];exact hGk j hj hjn)),(by (simp [go_sem];omega))⟩)<;>first|omega|(simp [go_sem,seval,Part.d,Part.c,di1,h3,aA h3,← hnd,h5,hga1,hgV1,hrl,fr2,F2,gW_2,di3,h10,aA h10,Attr.c]<;>omega)
   ·try simp [go_sem] at h10
    have hke:k=(bI t nd).length:=by omega
    have hgVk:=hhk.gV
    rw [aH (by omega)] at gW_2
    obtain ⟨x2,hx2⟩:∃ y:Host,y=⟨⟨x.graph.nodes++[nd],x.graph.edges⟩,x.values++[lY t nd]⟩:=⟨_,rfl⟩
    obtain ⟨ns2,hns2⟩:∃ y,y=ns++[W]:=⟨_,rfl⟩
    have hx3:x2=C6 t r x0 (i+1):=by rw [hx2,hx];unfold C6;rw [hsu];simp [hgn]
    have hXq2:∀ j∈a :: b :: V :: (qs0++ns2),j≠X∧j≠R∧j≠Y:=fun j hj=>by
     have e:a :: b :: V :: (qs0++ns2)=(a :: b :: V :: (qs0++ns))++[W]:=by rw [hns2];simp
     rw [e,aY,bL] at hj
     rcases hj with hj|rfl
     ·exact hXq j hj
     ·omega
    have hxl:x2.graph.nodes.length=x.graph.nodes.length+1∧x2.graph.edges.length=x.graph.edges.length∧x2.values.length=x.values.length+1:=by rw [hx2];simp
    have hfrm2:∀ j∈a :: b :: (qs0++ns),j≠V∧j≠X:=fun j hj=>by
     simp only [aT] at hj
     rcases hj with rfl|rfl|hj
     ·exact ⟨by omega,(hXq _ hhk.a_in).1⟩
     ·exact ⟨by omega,(hXq _ hhk.b_in).1⟩
     ·exact ⟨(hhk.qn hj).2.2,(hXq _ (hhk.q_in hj)).1⟩
    have hleast:lY t nd=(bI t nd).map fun a=>a.low:=rfl
    try simp [go_sem,seval,Part.d,Part.c,di1,h3,aA h3,← hnd,h5,hga1,hgV1,hrl,fr2,F2,gW_2,di3,hgVk,hxl,gW_2,hke]
    repeat first|intro _|refine ⟨eZ,?_⟩
    refine fR (i+1) (by omega) ((hI0 _ _ _).2 ⟨(X),(R),(Y),(x2),(ns2),?_,?_,?_,?_,?_,?_,?_,?_,?_,?_,?_,?_,?_,(by first|assumption|omega|(simp [go_sem,Part.d,Part.c,di1,h3,aA h3,← hnd,h5,hga1,hgV1,hrl,fr2,F2,gW_2,di3,hgVk,hxl,gW_2,hke,h10];done)|(simp_all<;>omega)),(by (first|exact hh2|(rw [hns2,← List.append_assoc,hx2];exact hhk.rowAdd (by first|(simp [go_sem];done)|(simp [go_sem];omega)) (by omega) hWq (by first|(simp [go_sem];done)|(simp [go_sem];omega)) (by simp [go_sem,Part.d,Part.c,di1,h3,aA h3,← hnd,h5,hga1,hgV1,hrl,fr2,F2,gW_2,di3,hgVk,hxl,gW_2,hke,hleast]) (by simp [go_sem,Part.d,Part.c,di1,h3,aA h3,← hnd,h5,hga1,hgV1,hrl,fr2,F2,gW_2,di3,hgVk,hxl,gW_2,hke,hleast]) (fun j hj=>by obtain ⟨k1,k2⟩:=hfrm2 j hj;simp [go_sem,k1,k2])))),(by exact hx3),(by exact hXq2),(by (rw [hns2];first|exact hns|(intro j hj;rw [aY,bL] at hj;rcases hj with hj|rfl;exact hns j hj;exact hWlo.2))),(by exact hXR),(by (first|exact hG2|(intro j hj hjn;obtain ⟨ja,jb,jV⟩:=hout j hjn;simp [go_sem,jV,show j≠X by omega];exact hGk j hj hjn))),(by (first|exact hnx|(simp [go_sem];omega)))⟩)<;>first|omega|(simp [go_sem,seval,Part.d,Part.c,di1,h3,aA h3,← hnd,h5,hga1,hgV1,hrl,fr2,F2,gW_2,di3,hgVk,hxl,gW_2,hke]<;>omega)
 ·try simp [go_sem] at h3
  have hie:i=r.right.graph.nodes.length:=by omega
  have hgb1:=hh.gb
  have hoL:=jY r.into.nodes i
  have hxn:x.graph.edges.length≤1000:=by rw [hx];exact hs.2.1
  try simp [go_sem,seval,Part.d,Part.c,F0,di1,hgb1]
  obtain ⟨I4,hI4⟩:∃ I4:Nat→dA→AHeap→Prop,∀ (i:Nat) (e:dA) (H:AHeap),I4 i e H↔(∃ x:Host,(e 4=.adr t.c)∧(e 5=.adr r.c)∧(e 7=.adr c.c)∧(e 6=.ptr X 1 0 0)∧(e 8=.ptr R 1 0 0)∧(e 9=.ptr Y 1 0 0)∧(e 15=dI i)∧(H.get X=some ⟨44,3,[[.own a x.graph.nodes.length,.own b x.graph.edges.length,.own V x.values.length]],false⟩)∧(X<H.next)∧(H.get R=some ⟨44,3,[[.nil,.nil,.nil]],false⟩)∧(R<H.next)∧(H.get Y=some ⟨29,2,[[dLI r.right.graph.nodes,.list (r.right.graph.edges.map Edge.c)]],false⟩)∧(Y<H.next)∧(i≤r.right.graph.edges.length)∧(HH H lo a b V (qs0++ns) x)∧(x=LU t r c (C6 t r x0 r.right.graph.nodes.length) i)∧(∀ j,j<G.next→j∉a :: b :: V :: qs0→H.get j=G.get j)∧(G.next≤H.next)):=⟨fun i e H=>_,fun _ _ _=>Iff.rfl⟩
  refine uN I4 (fun i=>r.right.graph.edges.length - i) (0) ((hI4 _ _ _).2 ⟨(x),?_,?_,?_,?_,?_,?_,?_,?_,?_,?_,?_,?_,?_,(by first|assumption|omega|(simp [go_sem,Part.d,Part.c,F0,di1,hgb1];done)|(simp_all;done)),(by exact hh),(by (rw [hx,hie];simp [LU,b5])),(by exact hG),(by exact hnx)⟩) ?_
  iterate 13 (first|omega|(simp [go_sem,seval,Part.d,Part.c,F0,di1,hgb1]<;>omega))
  intro i e H hi4
  obtain ⟨x,q4_4,q5_4,q7_4,q6_4,q8_4,q9_4,q15_4,gX_4,nX_4,gR_4,nR_4,gY_4,nY_4,hi4,hh4,hx4,hG4,hn4⟩:=(hI4 _ _ _).1 hi4
  have xX:=bZ nX_4
  have xR:=bZ nR_4
  have xY:=bZ nY_4
  have F4:=And.intro q4_4 (And.intro q5_4 (And.intro q7_4 (And.intro q6_4 (And.intro q8_4 (And.intro q9_4 (And.intro q15_4 (And.intro gX_4 (And.intro gR_4 (And.intro gY_4 (And.intro xX (And.intro xR xY)))))))))))
  have di4:=And.intro (cW (show Y≠R by omega)) (And.intro (cW (show Y≠X by omega)) (And.intro (cW (show Y≠V by omega)) (And.intro (cW (show Y≠b by omega)) (And.intro (cW (show Y≠a by omega)) (And.intro (cW (show R≠X by omega)) (And.intro (cW (show R≠V by omega)) (And.intro (cW (show R≠b by omega)) (And.intro (cW (show R≠a by omega)) (And.intro (cW (show X≠V by omega)) (And.intro (cW (show X≠b by omega)) (And.intro (cW (show X≠a by omega)) (And.intro (cW (show V≠b by omega)) (And.intro (cW (show V≠a by omega)) (cW (show b≠a by omega)))))))))))))))
  try simp [go_sem,seval,Part.d,Part.c,di1,hgb1,F4,di4]
  repeat first|intro _|refine ⟨eZ,?_⟩
  refine aP (fun h15=>?_) (fun h15=>?_)
  ·try simp [go_sem] at h15
   have hsu:=mQ r.into.edges i
   obtain ⟨y,hy⟩:∃ y,y=r.right.graph.edges[i]:=⟨_,rfl⟩
   have hye:r.right.graph.edges[(i:Int).toNat]?.getD bS=y:=by rw [hy];simp [aA h15]
   have hye2:r.right.graph.edges[i]?.getD bS=y:=by rw [hy,aA h15];rfl
   have hyi:=(hgi.2 _ (aC h15)).2
   rw [← hy] at hyi
   have hyf:y.from_.toNat<c.nodes.length:=by omega
   have hyt:y.to_.toNat<c.nodes.length:=by omega
   have hoE:=jY r.into.edges i
   have hxe:x.graph.edges.length≤2000:=by rw [hx4];simp [LU,C6];omega
   have hgb4:=hh4.gb
   have hqb:=hh4.rng b hh4.b_in
   have fr5:=bZ (show b<H.next by omega)
   try simp [go_sem,seval,Part.d,Part.c,di1,hgb1,F4,di4,h15,aA h15,← hy,aA hyf,aA hyt,hgb4,Edge.c,fr5]
   refine aB (xZ r.into.edges i) ((by first|rfl|(simp [go_sem,← List.map_take,← List.map_drop,Part.d,Part.c,di1,hgb1,F4,di4,h15,aA h15,← hy,aA hyf,aA hyt,hgb4,Edge.c,fr5];done))) ?_
   try simp [go_sem,seval,Part.d,Part.c,di1,hgb1,F4,di4,h15,aA h15,← hy,aA hyf,aA hyt,hgb4,Edge.c,fr5]
   refine aP (fun h17=>?_) (fun h17=>?_)
   ·try simp [go_sem] at h17
    have hm:¬ mem r.into.edges i=true:=by simpa using h17
    rw [if_neg hm] at hsu
    have hfr:freshE c y=⟨y.type,c.nodes[y.from_.toNat],c.nodes[y.to_.toNat]⟩:=by unfold freshE;rw [aA hyf,aA hyt];rfl
    obtain ⟨x2,hx2⟩:∃ z:Host,z=⟨⟨x.graph.nodes,x.graph.edges++[freshE c y]⟩,x.values⟩:=⟨_,rfl⟩
    have hx3:x2=LU t r c (C6 t r x0 r.right.graph.nodes.length) (i+1):=by rw [hx2,hx4];unfold LU;rw [hsu];simp [hye,hye2]
    have hxl:x2.graph.nodes.length=x.graph.nodes.length∧x2.graph.edges.length=x.graph.edges.length+1∧x2.values.length=x.values.length:=by rw [hx2];simp
    have hfrm4:∀ j∈a :: V :: (qs0++ns),j≠b∧j≠X∧j<H.next:=fun j hj=>by
     have hj':j∈a :: b :: V :: (qs0++ns):=by simp only [aT] at hj ⊢;rcases hj with h|h|h<;>simp [h]
     refine ⟨?_,(hXq j hj').1,(hh4.rng j hj').2⟩
     rintro rfl
     have:=hh4.nd;simp only [fY,aT,not_or] at this
     simp only [aT] at hj
     rcases hj with h|h|h
     ·exact this.1.1 h.symm
     ·exact this.2.1.1 h
     ·exact this.2.1.2 h
    try simp [go_sem,seval,Part.d,Part.c,di1,hgb1,F4,di4,h15,aA h15,← hy,aA hyf,aA hyt,hgb4,Edge.c,fr5,hxl]
    repeat first|intro _|refine ⟨eZ,?_⟩
    refine fR (i+1) (by omega) ((hI4 _ _ _).2 ⟨(x2),?_,?_,?_,?_,?_,?_,?_,?_,?_,?_,?_,?_,?_,(by first|assumption|omega|(simp [go_sem,Part.d,Part.c,di1,hgb1,F4,di4,h15,aA h15,← hy,aA hyf,aA hyt,hgb4,Edge.c,fr5,hxl,h3,h17];done)|(simp_all<;>omega)),(by (first|exact hh2|(rw [hx2];exact hh4.edges (by first|(simp [go_sem];done)|(simp [go_sem];omega)) (by simp [go_sem,Part.d,Part.c,di1,hgb1,F4,di4,h15,aA h15,← hy,aA hyf,aA hyt,hgb4,Edge.c,fr5,hxl,hfr,Edge.c]) (fun j hj=>by obtain ⟨k1,k2,k3⟩:=hfrm4 j hj;simp [go_sem,k1,k2,bZ k3])))),(by exact hx3),(by (first|exact hG2|(intro j hj hjn;obtain ⟨ja,jb,jV⟩:=hout j hjn;simp [go_sem,jb,show j≠X by omega,bZ (show j<H.next by omega)];exact hG4 j hj hjn))),(by (first|exact hn4|(simp [go_sem];omega)))⟩)<;>first|omega|(simp [go_sem,seval,Part.d,Part.c,di1,hgb1,F4,di4,h15,aA h15,← hy,aA hyf,aA hyt,hgb4,Edge.c,fr5,hxl]<;>omega)
   ·try simp [go_sem] at h17
    have hm:mem r.into.edges i=true:=by simpa using h17
    rw [if_pos hm,dJ] at hsu
    obtain ⟨x2,hx2⟩:∃ z,z=x:=⟨_,rfl⟩
    have hx3:x2=LU t r c (C6 t r x0 r.right.graph.nodes.length) (i+1):=by rw [hx2,hx4];unfold LU;rw [hsu]
    have hh2:HH H lo a b V (qs0++ns) x2:=by rw [hx2];exact hh4
    have hG2:=hG4
    try simp [go_sem,seval,Part.d,Part.c,di1,hgb1,F4,di4,h15,aA h15,← hy,aA hyf,aA hyt,hgb4,Edge.c,fr5,hx2]
    repeat first|intro _|refine ⟨eZ,?_⟩
    refine fR (i+1) (by omega) ((hI4 _ _ _).2 ⟨(x2),?_,?_,?_,?_,?_,?_,?_,?_,?_,?_,?_,?_,?_,(by first|assumption|omega|(simp [go_sem,Part.d,Part.c,di1,hgb1,F4,di4,h15,aA h15,← hy,aA hyf,aA hyt,hgb4,Edge.c,fr5,hx2,h3,h17];done)|(simp_all<;>omega)),(by (first|exact hh2|(rw [hx2];exact hh4.edges (by first|(simp [go_sem];done)|(simp [go_sem];omega)) (by simp [go_sem,Part.d,Part.c,di1,hgb1,F4,di4,h15,aA h15,← hy,aA hyf,aA hyt,hgb4,Edge.c,fr5,hx2,hfr,Edge.c]) (fun j hj=>by obtain ⟨k1,k2,k3⟩:=hfrm4 j hj;simp [go_sem,k1,k2,bZ k3])))),(by exact hx3),(by (first|exact hG2|(intro j hj hjn;obtain ⟨ja,jb,jV⟩:=hout j hjn;simp [go_sem,jb,show j≠X by omega,bZ (show j<H.next by omega)];exact hG4 j hj hjn))),(by (first|exact hn4|(simp [go_sem];omega)))⟩)<;>first|omega|(simp [go_sem,seval,Part.d,Part.c,di1,hgb1,F4,di4,h15,aA h15,← hy,aA hyf,aA hyt,hgb4,Edge.c,fr5,hx2]<;>omega)
  ·try simp [go_sem] at h15
   have hie4:i=r.right.graph.edges.length:=by omega
   have hX4:x=iO t r c x0:=by rw [hx4,hie4];rfl
   rw [hX4] at hh4
   try simp [go_sem,seval,Part.d,Part.c,di1,hgb1,F4,di4,hX4]
   exact hQ ns _ hns (hh4.same (by simp [go_sem]) (fun j hj=>by simp [go_sem,(hXq j hj).2.1])) (fun j hj hjn=>by simp [go_sem,show j≠R by omega];exact hG4 j hj hjn) (by simp [go_sem];exact hn4)
theorem Gl (c:Part)(vs:List Int)(l:List Slot)(s:Slot)(vals:List (List Int)):rX c vs (l++[s]) vals=(rX c vs l vals).set (eU c s) (((rX c vs l vals)[eU c s]?.getD []).set s.attr.toNat (cD s.term vs)):=by unfold rX;rw [C8];rfl
theorem pZ (c:Part)(vs:List Int):∀ (l:List Slot) (vals:List (List Int)),(rX c vs l vals).length=vals.length∧∀ n:Nat,((rX c vs l vals)[n]?.getD []).length=(vals[n]?.getD []).length
 | [],vals=>⟨rfl,fun _=>rfl⟩
 | s :: l,vals=>by
  obtain ⟨h1,h2⟩:=pZ c vs l (vals.set (eU c s) ((vals[eU c s]?.getD []).set s.attr.toNat (cD s.term vs)))
  have e:rX c vs (s :: l) vals=rX c vs l (vals.set (eU c s) ((vals[eU c s]?.getD []).set s.attr.toNat (cD s.term vs))):=rfl
  rw [e]
  refine ⟨by rw [h1,i5],fun n=>?_⟩
  rw [h2 n,dN]
  split
  ·rename_i hn
   subst hn
   split
   ·simp
   ·rename_i hn;rw [bP (by omega)]
  ·rfl
def r7 (c:Part)(vs:List Int)(l:List Slot)(i k:Nat):Bool:=match l[k]?,l[i]? with|some a,some b=>Bu c vs a b|_,_=>false
theorem tD (c:Part)(vs:List Int)(l:List Slot):uB c vs l=(List.range l.length).any fun i=>(List.range i).any fun k=>r7 c vs l i k:=rfl
structure PutOk (t:Types) (r:Rule) (x:Host) (c:Part):Prop where
 cl:c.nodes.length=r.right.graph.nodes.length
 few:x.graph.nodes.length≤2000∧x.graph.edges.length≤2000∧x.values.length≤2000
 spot:∀ s∈r.right.slots,0≤c.nodes[s.node.toNat]?.getD 0∧eU c s<x.values.length∧eU c s<x.graph.nodes.length
 attr:∀ s∈r.right.slots,s.attr<(x.values[eU c s]?.getD []).length∧s.attr<(bI t (x.graph.nodes[eU c s]?.getD 0)).length
theorem Lq (t:Types)(ht:t.ok)(r:Rule)(hR:RuleV t r)(x0:Host)(c:Part)(hP:PutOk t r x0 c)(vs:List Int)(hvl:vs.length=r.left.vars.toNat)(hvs:Sm vs)
  (G:AHeap) (lo a b V:Nat) (qs:List Nat) (hh0:HH G lo a b V qs x0) (Q:D→AHeap→Prop)
  (hQe:∀ H',rY t x0.graph c vs r.right.slots≠0→(∀ j,j<G.next→j∉a :: b :: V :: qs→H'.get j=G.get j)→G.next≤H'.next→Q (.tup [.agg [.nil,.nil,.nil],dI (rY t x0.graph c vs r.right.slots)]) H')
  (hQ:∀ H',rY t x0.graph c vs r.right.slots=0→(∀ j,j<G.next→j∉a :: b :: V :: qs→H'.get j=G.get j)→G.next≤H'.next→Q (.tup [Host.d ⟨x0.graph,rX c vs r.right.slots x0.values⟩,dI 0]) H') :
  ACalls Tryz.prog 66 [t.d,r.d,.agg [.own a x0.graph.nodes.length,.own b x0.graph.edges.length,.own V x0.values.length],c.d,dLI vs] G Q:=by
 have hgi:=dP hR.gr
 have ha0:=hh0.rng a hh0.a_in
 have hb0:=hh0.rng b hh0.b_in
 have hV0:=hh0.rng V hh0.V_in
 have hab:=hh0.ab
 have hsl:=hR.slots
 have hfew:=hR.few
 obtain ⟨l,hl⟩:∃ l,l=r.right.slots:=⟨_,rfl⟩
 rw [← hl] at hQe hQ hsl hfew
 have hspot:=hP.spot
 have hattr:=hP.attr
 rw [← hl] at hspot hattr
 have hcl:=hP.cl
 obtain ⟨Q',hQ'⟩:∃ Q':D→AHeap→Prop,∀ d H',Q' d H'↔Q (gQ H' d) (eV (yF H' d) H'):=⟨_,fun _ _=>Iff.rfl⟩
 refine ACalls.deep ?_
 rw [show (fun d H'=>Q (gQ H' d) (eV (yF H' d) H'))=Q' from funext fun d=>funext fun H'=>propext (hQ' d H').symm]
 refine (aI (cfg:=⟨fun t=>t==7||t==10,fun _=>[]⟩) Tz.mixed Tryz.func66 rfl rfl (aF rfl) (by kernel_rfl) ?_)
 have Y:=wa @Part.d.eq_1 (wa @Part.c.eq_1 (wa (Eq.symm hl) @Term.c.eq_1))
 refine wv (h:=bA (fun i e H=>∃ X:Nat,∃ R:Nat,(e 5=.adr t.c∧e 6=.adr r.c∧e 8=.adr c.c∧e 4=dLI vs∧e 12=.list (l.map Slot.c)∧e 7=.ptr X 1 0 0∧e 10=.ptr R 1 0 0∧e 13=dI i)∧(H.get X=some ⟨44,3,[[.own a x0.graph.nodes.length,.own b x0.graph.edges.length,.own V x0.values.length]],false⟩)∧(X<H.next)∧(H.get R=some ⟨44,3,[[.nil,.nil,.nil]],false⟩)∧(R<H.next)∧(i≤l.length)∧(HH H lo a b V qs x0)∧(∀ j∈a :: b :: V :: qs,j≠X∧j≠R)∧(G.next≤X∧X<R)∧(∀ p q,p<i→q<p→r7 c vs l p q=false)∧(∀ j,j<G.next→j∉a :: b :: V :: qs→H.get j=G.get j)∧(G.next≤H.next)) (fun i=>l.length - i) 0 ⟨G.next,(G.next+1),wg,wn,wn,wn,wn,wi,(by (exact hh0.same (by simp [go_sem];omega) (fun j hj=>by have:=(hh0.rng j hj).2;simp [go_sem,bZ this]))),(by (intro j hj;have:=(hh0.rng j hj).2;omega)),(by omega),(by (intro p q hp;omega)),(by (intro j hj _;simp [go_sem,bZ hj])),(by (simp [go_sem];omega))⟩ fun I0 hI0 i e H hi0=>?_)
 obtain ⟨X,R,E0,gX_0,nX_0,gR_0,nR_0,hi,hh,hXq,hXR,hC,hG,hnx⟩:=hi0
 have di1:=And.intro (cW (show R≠X by omega)) (And.intro (cW (show R≠V by omega)) (And.intro (cW (show R≠b by omega)) (And.intro (cW (show R≠a by omega)) (And.intro (cW (show X≠V by omega)) (And.intro (cW (show X≠b by omega)) (And.intro (cW (show X≠a by omega)) (And.intro (cW (show V≠b by omega)) (And.intro (cW (show V≠a by omega)) (cW (show b≠a by omega))))))))))
 have Y:=wa Y (wa E0 (wa gX_0 (wa (bZ nX_0) (wa gR_0 (wa (bZ nR_0) di1)))))
 refine tG (fun h3=>?_) fun h3=>?_
 ·have hlm:=aC h3
  have hTi:=(hsl _ hlm).2.2
  have hni:=(hsl _ hlm).1
  have hnc:l[i].node.toNat<c.nodes.length:=by omega
  have Y:=wa Y (wa h3 (wa (aA h3) (wa @Slot.c.eq_1 (aA hnc))))
  refine wp (h:=aB (iM l[i].term vs (by rw [hvl];exact hTi) hvs) wl ?_)
  refine wp (h:=bA (fun k e H=>(e 5=.adr t.c∧e 6=.adr r.c∧e 8=.adr c.c∧e 4=dLI vs∧e 12=.list (l.map Slot.c)∧e 7=.ptr X 1 0 0∧e 10=.ptr R 1 0 0∧e 13=dI i∧e 14=dI (cD l[i].term vs)∧e 16=dI k)∧(H.get X=some ⟨44,3,[[.own a x0.graph.nodes.length,.own b x0.graph.edges.length,.own V x0.values.length]],false⟩)∧(X<H.next)∧(H.get R=some ⟨44,3,[[.nil,.nil,.nil]],false⟩)∧(R<H.next)∧(k≤i)∧(HH H lo a b V qs x0)∧(∀ q,q<k→r7 c vs l i q=false)∧(∀ j,j<G.next→j∉a :: b :: V :: qs→H.get j=G.get j)∧(G.next≤H.next)) (fun k=>i - k) 0 ⟨wg,wn,wn,wn,wn,wi,(by exact hh.same (by first|(simp [go_sem];done)|(simp [go_sem];omega)) (fun _ _=>rfl)),(by (intro q hq;omega)),(by exact hG),(by (first|exact hnx|(simp [go_sem];omega)))⟩ fun I2 hI2 k e H hi2=>?_)
  obtain ⟨E2,gX_2,nX_2,gR_2,nR_2,hk,hh2,hC2,hG2,hn2⟩:=hi2
  have di2:=And.intro (cW (show R≠X by omega)) (And.intro (cW (show R≠V by omega)) (And.intro (cW (show R≠b by omega)) (And.intro (cW (show R≠a by omega)) (And.intro (cW (show X≠V by omega)) (And.intro (cW (show X≠b by omega)) (And.intro (cW (show X≠a by omega)) (And.intro (cW (show V≠b by omega)) (And.intro (cW (show V≠a by omega)) (cW (show b≠a by omega))))))))))
  have Y:=wa Y (wa E2 (wa gX_2 (wa (bZ nX_2) (wa gR_2 (wa (bZ nR_2) di2)))))
  refine c4 (fun h7=>?_) fun h7=>?_
  ·have hkl:k<l.length:=by omega
   have hlk:=aC hkl
   have hTk:=(hsl _ hlk).2.2
   have hnk:=(hsl _ hlk).1
   have hnck:l[k].node.toNat<c.nodes.length:=by omega
   have hs1:=(hspot _ hlm).1
   have hs2:=(hspot _ hlk).1
   rw [aA hnc,aD] at hs1
   rw [aA hnck,aD] at hs2
   have hCI:r7 c vs l i k=(decide (c.nodes[l[k].node.toNat]=c.nodes[l[i].node.toNat])&&(decide (l[k].attr=l[i].attr)&&decide (cD l[k].term vs≠cD l[i].term vs))):=by
    unfold r7 Bu eU
    simp only [aA hkl,aA h3,aA hnc,aA hnck,aD]
    rw [show (decide ((c.nodes[l[k].node.toNat]).toNat=(c.nodes[l[i].node.toNat]).toNat))=decide (c.nodes[l[k].node.toNat]=c.nodes[l[i].node.toNat]) from by rw [decide_eq_decide];omega]
   have Y:=wa Y (wa h7 (wa (aA hkl) (aA hnck)))
   refine wp (h:=aB (iM l[k].term vs (by rw [hvl];exact hTk) hvs) wl ?_)
   refine tG (fun h10=>?_) fun h10=>?_
   ·have hB:uB c vs l=true:=by
     rw [tD,aW]
     refine ⟨i,by simpa using h3,?_⟩
     rw [aW]
     refine ⟨k,by simpa using h7,?_⟩
     rw [hCI];simp at h10 ⊢;exact ⟨h10.1.1,h10.1.2,fun e=>h10.2 e.symm⟩
    have hE:rY t x0.graph c vs l=11:=by unfold rY;rw [if_pos hB]
    refine wv (h:=?_)
    rw [hE] at hQe;refine (hQ' _ _).2 ?_;simp only [gQ,iV,nC,eJ,yF,Em,H9,jL,f6,iE,uZ,FX,dJ,eV];exact hQe _ (by decide) (fun j hj hjn=>by simp [go_sem,show j≠R by omega];exact hG2 j hj hjn) (by first|(simp [go_sem];omega)|exact hn2)
   ·have hCk:r7 c vs l i k=false:=by
     rw [hCI,bH];intro hT;simp at hT
     exact hT.2.2 (h10 hT.1 hT.2.1).symm
    exact wp (h:=wx hI2 (k+1) ⟨wg,wn,wn,wn,wn,wj,(by exact hh2.same (by first|(simp [go_sem];done)|(simp [go_sem];omega)) (fun _ _=>rfl)),(by (intro q hq;rcases bN q k with hqk|hqk;exact hC2 q hqk;(obtain rfl:q=k:=(by omega);exact hCk))),(by exact hG2),(by (first|exact hn2|(simp [go_sem];omega)))⟩)
  ·exact wp (h:=wx hI0 (i+1) ⟨X,R,wg,wn,wn,wn,wn,wj,(by (exact hh2)),(by exact hXq),(by exact hXR),(by (intro p q hp hq;rcases bN p i with hpi|hpi;exact hC p q hpi hq;(obtain rfl:p=i:=(by omega);exact hC2 q (by omega)))),(by exact hG2),(by exact hn2)⟩)
 ·have hB:uB c vs l=false:=by
   rw [tD,bH];intro hT
   rw [aW] at hT
   obtain ⟨p,hp,hT⟩:=hT
   rw [aW] at hT
   obtain ⟨q,hq,hT⟩:=hT
   rw [b6] at hp hq
   rw [hC p q (by omega) hq] at hT;cases hT
  have hE0:rY t x0.graph c vs l=if l.any (v6 t x0.graph c vs)=true then 6 else 0:=by unfold rY;rw [if_neg (by rw [hB];simp)]
  refine wv (h:=bA (fun i e H=>∃ x:Host,(e 5=.adr t.c∧e 6=.adr r.c∧e 8=.adr c.c∧e 4=dLI vs∧e 12=.list (l.map Slot.c)∧e 7=.ptr X 1 0 0∧e 10=.ptr R 1 0 0∧e 19=dI i)∧(H.get X=some ⟨44,3,[[.own a x0.graph.nodes.length,.own b x0.graph.edges.length,.own V x0.values.length]],false⟩)∧(X<H.next)∧(H.get R=some ⟨44,3,[[.nil,.nil,.nil]],false⟩)∧(R<H.next)∧(i≤l.length)∧(x=⟨x0.graph,rX c vs (l.take i) x0.values⟩)∧(HH H lo a b V qs x)∧((l.take i).any (v6 t x0.graph c vs)=false)∧(∀ j,j<G.next→j∉a :: b :: V :: qs→H.get j=G.get j)∧(G.next≤H.next)) (fun i=>l.length - i) 0 ⟨x0,wg,wn,wn,wn,wn,wi,(by rfl),(by exact hh),(by rfl),(by exact hG),(by exact hnx)⟩ fun I4 hI4 i e H hi4=>?_)
  obtain ⟨x,E4,gX_4,nX_4,gR_4,nR_4,hi4,hx,hh4,hO,hG4,hn4⟩:=hi4
  have di3:=And.intro (cW (show R≠X by omega)) (And.intro (cW (show R≠V by omega)) (And.intro (cW (show R≠b by omega)) (And.intro (cW (show R≠a by omega)) (And.intro (cW (show X≠V by omega)) (And.intro (cW (show X≠b by omega)) (And.intro (cW (show X≠a by omega)) (And.intro (cW (show V≠b by omega)) (And.intro (cW (show V≠a by omega)) (cW (show b≠a by omega))))))))))
  have Y:=wa Y (wa E4 (wa gX_4 (wa (bZ nX_4) (wa gR_4 (wa (bZ nR_4) di3)))))
  refine tG (fun h13=>?_) fun h13=>?_
  ·have hlm:=aC h13
   have hTi:=(hsl _ hlm).2.2
   have hni:=(hsl _ hlm).1
   have hat:=(hsl _ hlm).2.1
   have hnc:l[i].node.toNat<c.nodes.length:=by omega
   obtain ⟨s1,s2,s3⟩:=hspot _ hlm
   obtain ⟨a1,a2⟩:=hattr _ hlm
   have hsp:eU c l[i]=(c.nodes[l[i].node.toNat]).toNat:=by unfold eU;rw [aA hnc];rfl
   rw [aA hnc,aD] at s1
   have hpl:=pZ c vs (l.take i) x0.values
   have hxg:x.graph=x0.graph:=by rw [hx]
   have hxv:x.values=rX c vs (l.take i) x0.values:=by rw [hx]
   have hxl:x.values.length=x0.values.length:=by rw [hxv];exact hpl.1
   have hnV:eU c l[i]<x.values.length:=by omega
   have hnN:eU c l[i]<x.graph.nodes.length:=by rw [hxg];exact s3
   have hnQ:eU c l[i]<qs.length:=by rw [hh4.len];exact hnV
   obtain ⟨q,hq⟩:∃ q,q=qs[eU c l[i]]:=⟨_,rfl⟩
   obtain ⟨v,hv⟩:∃ v,v=x.values[eU c l[i]]:=⟨_,rfl⟩
   have e1:qs[eU c l[i]]?=some q:=by rw [aA hnQ,hq]
   have e2:x.values[eU c l[i]]?=some v:=by rw [aA hnV,hv]
   have hrow:=pM e1 e2
   have hgq:=hh4.gq _ _ _ e1 e2
   have hvl2:v.length=(x0.values[eU c l[i]]?.getD []).length:=by rw [← hpl.2,← hxv,e2];rfl
   have hav:l[i].attr.toNat<v.length:=by omega
   obtain ⟨nd,hnd⟩:∃ y,y=x.graph.nodes[eU c l[i]]:=⟨_,rfl⟩
   have hnd0:x0.graph.nodes[eU c l[i]]?.getD 0=nd:=by rw [hnd,← hxg,aA hnN];rfl
   rw [hnd0] at a2
   have haA:l[i].attr.toNat<(bI t nd).length:=by omega
   have hqin:q∈qs:=aJ e1
   have hqr:=hh4.rng q (hh4.q_in hqin)
   have hqX:=hXq q (hh4.q_in hqin)
   have hqn:=hh4.qn hqin
   have hOB:v6 t x0.graph c vs l[i]=(decide (cD l[i].term vs<(bI t nd)[l[i].attr.toNat].low)||decide ((bI t nd)[l[i].attr.toNat].high<cD l[i].term vs)):=by unfold v6;rw [hnd0,aA haA];rfl
   have gga:=hh4.ga
   have ggb:=hh4.gb
   have ggV:=hh4.gV
   have hgl:x0.graph.nodes.length=x.graph.nodes.length:=by rw [hxg]
   have hrl:=iG hh4.len
   have di4:=And.intro (cW (show R≠X by omega)) (And.intro (cW (show R≠V by omega)) (And.intro (cW (show R≠b by omega)) (And.intro (cW (show R≠a by omega)) (And.intro (cW (show R≠q by omega)) (And.intro (cW (show X≠V by omega)) (And.intro (cW (show X≠b by omega)) (And.intro (cW (show X≠a by omega)) (And.intro (cW (show X≠q by omega)) (And.intro (cW (show V≠b by omega)) (And.intro (cW (show V≠a by omega)) (And.intro (cW (show V≠q by omega)) (And.intro (cW (show b≠a by omega)) (And.intro (cW (show b≠q by omega)) (cW (show a≠q by omega)))))))))))))))
   have Y:=wa Y (wa h13 (wa (aA h13) (wa @Slot.c.eq_1 (wa (aA hnc) (wa (Eq.symm hsp) (wa gga (wa ggb (wa ggV (wa hrow (wa hgq (wa hrl (wa (aA hnN) (wa (Eq.symm hnd) (wa (aA haA) (wa (aA hav) (wa @Attr.c.eq_1 (wa hxl.symm (wa hgl di4))))))))))))))))))
   refine wp (h:=aB (iM l[i].term vs (by rw [hvl];exact hTi) hvs) wl ?_)
   refine wp (h:=aK (oI t ht nd) wl ?_)
   refine tG (fun h18=>?_) fun h18=>?_
   ·have hT:l.any (v6 t x0.graph c vs)=true:=aW.2 ⟨_,hlm,by rw [hOB];simpa using h18⟩
    rw [if_pos hT] at hE0
    refine wv (h:=?_)
    rw [hE0] at hQe;refine (hQ' _ _).2 ?_;simp only [gQ,iV,nC,eJ,yF,Em,H9,jL,f6,iE,uZ,FX,dJ,eV];exact hQe _ (by decide) (fun j hj hjn=>by simp [go_sem,show j≠R by omega];exact hG4 j hj hjn) (by first|(simp [go_sem];omega)|exact hn4)
   ·have hOi:v6 t x0.graph c vs l[i]=false:=by rw [hOB];simpa using h18
    obtain ⟨x2,hx2⟩:∃ y:Host,y=⟨x.graph,x.values.set (eU c l[i]) (v.set l[i].attr.toNat (cD l[i].term vs))⟩:=⟨_,rfl⟩
    have hx3:x2=⟨x0.graph,rX c vs (l.take (i+1)) x0.values⟩:=by
     rw [hx2,aE h13,Gl,← hxv,e2,hxg];rfl
    exact wp (h:=wx hI4 (i+1) ⟨x2,wg,wn,wn,wn,wn,wj,(by exact hx3),(by (rw [hx2];exact hh4.rowSet (by first|(simp [go_sem];done)|(simp [go_sem];omega)) e1 e2 (by simp) (by simp [go_sem,Y,c8,cI]) (fun j hj hjq=>by simp [go_sem,hjq]))),(by (rw [aE h13,zH,hO];simp [hOi])),(by (intro j hj hjn;simp [go_sem,show j≠q from fun e=>hjn (e ▸ hh4.q_in hqin)];exact hG4 j hj hjn)),(by (simp [go_sem];omega))⟩)
  ·rw [aH (by omega)] at hO hx
   rw [if_neg (by rw [hO];simp)] at hE0
   have hxg:x.graph=x0.graph:=by rw [hx]
   have hxl:x.values.length=x0.values.length:=by rw [hx];exact (pZ c vs l x0.values).1
   refine wv (h:=?_)
   refine (hQ' _ _).2 ?_
   obtain ⟨E,hEq⟩:∃ E,E=H.put R ⟨44,3,[[.own a x0.graph.nodes.length,.own b x0.graph.edges.length,.own V x0.values.length]],false⟩:=⟨_,rfl⟩
   have hh5:HH E lo a b V qs x:=hh4.same (by rw [hEq];simp [go_sem]) (fun j hj=>by rw [hEq];simp [go_sem,(hXq j hj).2])
   rw [← hEq]
   have hd:=hh5.deep
   rw [hxg,hxl] at hd
   have hids:=hh5.ids x0.graph.nodes.length x0.graph.edges.length x0.values.length 0
   simp only [dI] at hids
   have hdi:iV E (D.int .i64 0)=.int .i64 0:=rfl
   simp only [gQ,f6,iE,hd,hdi]
   rw [hx]
   refine hQ _ hE0 (fun j hj hjn=>?_) ?_
   ·rw [y4 _ _ j (fun hm=>hjn (hids _ hm)),hEq];simp [go_sem,show j≠R by omega];exact hG4 j hj hjn
   ·rw [(t8 _ E).2,hEq];simp [go_sem];exact hn4
end Go.Abs
end
