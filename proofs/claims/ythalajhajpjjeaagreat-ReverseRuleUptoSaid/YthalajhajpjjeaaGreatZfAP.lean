/- Layer 26 of the reference: rules, places, the match, what re -/
import Derived.Test.YthalajhajpjjeaaGreatZfAF
import Derived.Test.YthalajhajpjjeaaGreatZfAA
import Derived.Test.YthalajhajpjjeaaGreatZfAO
import Derived.Test.YthalajhajpjjeaaGreatZfAN
set_option linter.unusedVariables false
set_option linter.unusedSimpArgs false
section
set_option maxRecDepth 100000
set_option maxHeartbeats 4000000
open Go Go.Proofs
namespace Go.Abs
structure RuleV (t:Types) (r:Rule):Prop where
 vf:(cZ t).2=0
 pl:PatOk t r.left
 gr:graphF r.right.graph=0
 tr:g7 t r.right.graph=true
 sub:subF r.left.graph r.keep=0
 mo:eJ (cY r.left.graph r.keep) r.right.graph r.into=0
 inj:CQ (cY r.left.graph r.keep) r.right.graph r.into=true
 mkb:x9 t r.right.graph r.freshN r.freshE=true
 vars:r.right.vars=r.left.vars
 few:r.right.slots.length<=10
 slot:∀ s∈r.right.slots,gJ t r.right s=0
 cond:CondV t r.left r.cond
 kl:r.keep.nodes.length<=1000000/\r.keep.edges.length<=1000000
theorem O2 {t:Types}{r:Rule}(hr:r.ok)(h:ruleF t r=0):RuleV t r:=by
 unfold ruleF at h
 split at h
 .rename_i h1;exact absurd h h1
 .rename_i h1
  split at h
  .cases h
  .split at h
   .rename_i h3;exact absurd h h3
   .rename_i h3
    split at h
    .rename_i h4;exact absurd h h4
    .rename_i h4
     split at h
     .rename_i h5;exact absurd h h5
     .rename_i h5
      split at h
      .cases h
      .rename_i h6
       rw [jS] at h1 h3 h4 h5
       have hR:=CB h4
       unfold iW at h4
       rw [if_neg aD,if_neg (by simp [hR.2])] at h4
       split at h4
       .cases h4
       .rename_i h7
        split at h4
        .cases h4
        .rename_i h8
         have hk:subF r.left.graph r.keep=0/\eJ (cY r.left.graph r.keep) r.right.graph r.into=0/\CQ (cY r.left.graph r.keep) r.right.graph r.into=true:=by
          unfold keptF at h5
          split at h5
          .rename_i q;exact absurd h5 q
          .rename_i q
           split at h5
           .rename_i q2;exact absurd h5 q2
           .rename_i q2
            split at h5
            .cases h5
            .rename_i q3;exact ⟨aD,aD,by simpa using q3⟩
         unfold condF at h
         rw [if_neg aD] at h
         split at h
         .rename_i q;exact absurd h q
         .rename_i h9
          refine ⟨h1,L2 (.inr h3),hR.1,hR.2,hk.1,hk.2.1,hk.2.2,by simpa using h6,aD,aD,λs hs=>?_,⟨?_,h,hr.size⟩,hr.k1,hr.k2⟩
          .obtain ⟨i,hi,rfl⟩:=aO hs
           have:=eY _ _ h4 i (dY _) aD
           rw [Cx hi] at this
           split at this
           .cases this
           .rename_i q;exact jS.1 q
          .rw [jS] at h9
           unfold rO at h9
           split at h9
           .cases h9
           .rename_i q;simpa using q
theorem RuleV.keep {t:Types}{r:Rule}(h:RuleV t r):(r.keep.nodes.length=r.into.nodes.length/\r.keep.edges.length=r.into.edges.length)/\(∀ x∈r.keep.nodes,0<=x/\x<r.left.graph.nodes.length)/\(∀ x∈r.keep.edges,0<=x/\x<r.left.graph.edges.length) /\
  (∀ x∈r.into.nodes,0<=x/\x<r.right.graph.nodes.length)/\∀ x∈r.into.edges,0<=x/\x<r.right.graph.edges.length:=by
 obtain ⟨h1,h2,h3,h4⟩:=yW h.sub
 obtain ⟨_,_,h5,h6⟩:=nO h.mo
 obtain ⟨h7,h8⟩:=y3 h.mo
 have e1:(cY r.left.graph r.keep).nodes.length=r.keep.nodes.length:=by unfold cY;rw [if_pos h.sub];simp
 have e2:(cY r.left.graph r.keep).edges.length=r.keep.edges.length:=by unfold cY;rw [if_pos h.sub];simp
 exact ⟨⟨aD,aD⟩,h3,h4,h7,h8⟩
theorem RuleV.slots {t:Types}{r:Rule}(h:RuleV t r):∀ s∈r.right.slots,(0<=s.node/\s.node<r.right.graph.nodes.length)/\(0<=s.attr/\s.attr<(bL t (r.right.graph.nodes[s.node.toNat]?.getD 0)).length)/\o8 s.term r.left.vars.toNat:=λs hs=>by
 have:=h.slot s hs
 have hv:=h.pl.vars
 have he:=h.vars
 unfold gJ at this
 split at this
 .rename_i h1
  simp only [aR,lJ,decide_eq_true_eq,inF,Pattern.kind] at h1
  exact ⟨h1.1.1.1,⟨h1.1.1.2.1,of_decide_eq_true h1.1.1.2.2⟩,⟨aD,aD⟩,aD,aD⟩
 .cases this
theorem Lv (t:Types)(ht:t.ok)(r:Rule)(hr:r.ok)(h:Host):Pure Tryz.prog 59 [t.d,r.d,h.d] (dI (iI t r h)):=by
 refine Tz.pK ⟨λ_=>false,λ_=>[]⟩ Tryz.func59 rfl (λQ hQ=>?_)
 have Y:=wa @Host.d.eq_1 @Host.c.eq_1
 refine wv (h:=aB (Ly t ht r hr) wl ?_)
 refine dP (λh2=>?_) λh2=>?_
 .exact wv (h:=hQ _ _ (by simp [go_sem,iI,h2]))
 .refine wv (h:=aB (xO t ht h) wl ?_)
  exact wv (h:=hQ _ _ (by simp [go_sem,iI,h2,iF]))
theorem pP (l:List Int)(k:Nat)(v:Int):gB l (k+1) v=if l[k]?.getD (-1)=v then (k:Int) else gB l k v:=by unfold gB;rw [eE]
theorem Cb (l:List Int)(v:Int):∀ n,-1<=gB l n v/\gB l n v<n
 | 0=>by simp [gB]
 | n+1=>by
  have:=Cb l v n
  rw [pP];split<;>omega
theorem GT (l:List Int)(v:Nat):k9 l (v+1)=k9 l v++[gB l l.length v]:=by simp [k9,dF]
theorem k8 (l:List Int)(v:Nat):(k9 l v).length=v:=by simp [k9]
theorem n5 (l:List Int){n i:Nat}(h:i<n):(k9 l n)[i]?=some (gB l l.length i):=by simp [k9,h]
theorem FG (l:List Int)(n:Nat)(hn:n<=1000000):Pure Tryz.prog 155 [dLI l,dI n] (dLI (k9 l n)):=by
 refine Tz.pK ⟨λt=>t==5,λ_=>[]⟩ Tryz.func155 rfl (λQ hQ=>?_)
 have Y:=trivial
 refine wv (h:=bF (λv e H=>(e 0=dLI l/\e 1=dI n/\e 5=.own 0 v/\e 6=dI v)/\(H.get 0=some ⟨3,1,(k9 l v).map cI,false⟩)/\(0<H.next)/\(v<=n)) (λv=>n - v) 0 ⟨wg,(by simp [go_sem,k9]),wn,wi⟩ λI0 hI0 v e H hi0=>?_)
 obtain ⟨E0,g0_0,n0_0,hv⟩:=hi0
 have Y:=wa Y (wa E0 (wa g0_0 (cD n0_0)))
 refine dP (λh3=>?_) λh3=>?_
 .have hbl:=k8 l v
  have Y:=wa Y h3
  refine wp (h:=bF (λk e H=>∃ B:List Int,(e 0=dLI l/\e 1=dI n/\e 5=.own 0 (v+1)/\e 6=dI v/\e 7=dI k)/\(H.get 0=some ⟨3,1,B.map cI,false⟩)/\(0<H.next)/\(k<=l.length)/\(B=k9 l v++[gB l k v])/\(B.length=v+1)) (λk=>l.length - k) 0 ⟨(k9 l v++[-1]),wg,(by simp [go_sem,Y,cI]),wn,wi,(by rfl),(by simp [hbl])⟩ λI2 hI2 k e H hi2=>?_)
  obtain ⟨B,E2,g0_2,n0_2,hk,hB,hBl⟩:=hi2
  have Y:=wa Y (wa E2 (wa g0_2 (wa (cD n0_2) hBl)))
  refine wv (h:=?_)
  repeat first|intro _|refine ⟨eQ,?_⟩
  refine wq (λh7=>?_) λh7=>?_
  .have hvB:v<B.length:=aD
   have Y:=wa Y (wa h7 (wa (aA h7) (aA hvB)))
   refine wv (h:=?_)
   repeat first|intro _|refine ⟨eQ,?_⟩
   refine wq (λh9=>?_) λh9=>?_
   .obtain ⟨B2,hB2⟩:∃ y,y=B.set v (k:Int):=⟨_,rfl⟩
    have hm:B2.map cI=(B.map cI).set v (cI k):=by rw [hB2,bX]
    have hB3:B.set v (k:Int)=k9 l v++[gB l (k+1) v]:=by
     rw [pP,aA h7,Option.getD_some,if_pos aD,hB,l5 _ _ aD,hbl,w3];rfl
    have Y:=wa Y (wa hm @cI.eq_1)
    exact wp (h:=wx hI2 (k+1) ⟨B2,wg,(by simp [go_sem,Y]),wn,wj,(by rw [hB2];exact hB3),(by rw [hB2];simp [hBl])⟩)
   .obtain ⟨B2,hB2⟩:∃ y,y=B:=⟨_,rfl⟩
    have hB3:B=k9 l v++[gB l (k+1) v]:=by
     rw [pP,aA h7,Option.getD_some,if_neg aD];exact hB
    have Y:=wa Y hB2
    exact wp (h:=wx hI2 (k+1) ⟨B2,wg,(by simp [go_sem,Y]),wn,wj,(by rw [hB2];exact hB3),(by rw [hB2];simp [hBl])⟩)
  .have hBe:B.map cI=(k9 l v).map cI++[cI (gB l l.length v)]:=by rw [hB,(aD:k=l.length)];simp
   exact wp (h:=wx hI0 (v+1) ⟨wg,(by simp [go_sem,Y,GT,hBe]),wn,wj⟩)
 .have hve:v=n:=aD
  exact wv (h:=hQ _ _ (by simp [go_sem,Y,hve,dLI,k8]))
theorem Bo (l:List Int)(n:Nat)(hn:n<=1000000):Pure Tryz.prog 154 [dI n,dLI l] (dLI (k9 l n)):=by
 refine Tz.pK ⟨λ_=>false,λ_=>[]⟩ Tryz.func154 rfl (λQ hQ=>?_)
 have Y:=trivial
 refine wv (h:=aB (FG l n hn) wl ?_)
 exact wv (h:=hQ _ _ wy)
theorem Hq (t:Types)(ht:t.ok)(h:Host)(p:Part)(hl:p.nodes.length<=1000000)(hle:p.edges.length<=1000000)(hn:h.graph.nodes.length<=1000000)(he:h.graph.edges.length<=1000000) :
  Pure Tryz.prog 61 [t.d,h.d,p.d] (.tup [(Sz t h p).d,Part.d ⟨k9 p.nodes h.graph.nodes.length,k9 p.edges h.graph.edges.length⟩]):=by
 refine Tz.pK ⟨λt=>t==6||t==7||t==8,λ_=>[]⟩ Tryz.func61 rfl (λQ hQ=>?_)
 have Y:=wa @Host.d.eq_1 (wa @Host.c.eq_1 (wa @Part.d.eq_1 @Part.c.eq_1))
 refine wv (h:=aB (Hw t ht h p hl hle) wl ?_)
 refine wp (h:=aJ (Bo p.nodes h.graph.nodes.length hn) wl ?_)
 refine wp (h:=aJ (Bo p.edges h.graph.edges.length he) wl ?_)
 exact wp (h:=hQ _ _ wy)
theorem z7 (l:List Int)(n:Int):Pure Tryz.prog 156 [dLI l,dI n] (.bool (!mem l n)):=by
 refine Tz.pK ⟨λ_=>false,λ_=>[]⟩ Tryz.func156 rfl (λQ hQ=>?_)
 have Y:=trivial
 refine wv (h:=bF (λi e H=>(e 0=dLI l/\e 1=dI n/\e 5=dI i)/\(i<=l.length)/\(∀ j,j<i->∀ hj:j<l.length,l[j]≠n)) (λi=>l.length - i) 0 ⟨wg,wi,(by intro j hj;omega)⟩ λI0 hI0 i e H hi0=>?_)
 obtain ⟨E0,hi,hN⟩:=hi0
 have Y:=wa Y E0
 refine wv (h:=?_)
 repeat first|intro _|refine ⟨eO,?_⟩
 refine wq (λh2=>?_) λh2=>?_
 .have Y:=wa Y (wa h2 (aA h2))
  refine wv (h:=?_)
  repeat first|intro _|refine ⟨eO,?_⟩
  refine wq (λh4=>?_) λh4=>?_
  .have hm:mem l n=true:=(mem_iff _ _).2 (h4 ▸ aC h2)
   exact wv (h:=hQ _ _ (by simp [go_sem,hm]))
  .exact wo (h:=wx hI0 (i+1) ⟨wg,wj,(by intro j hj hjl;rcases bZ j i with hji|hji;exact hN j hji hjl;(obtain rfl:j=i:=aD;exact h4))⟩)
 .have hm:mem l n=false:=by
   rw [bH];intro hm
   obtain ⟨j,hj,he⟩:=aO ((mem_iff _ _).1 hm)
   exact hN j aD hj he
  exact wv (h:=hQ _ _ (by simp [go_sem,hm]))
theorem xJ (im tr:List Int)(hl:im.length<=1000000)(hi:∀ x∈im,0<=x/\x<tr.length):Pure Tryz.prog 62 [dLI im,dLI tr] (dLI (oE im tr)):=by
 refine Tz.pK ⟨λt=>t==5,λ_=>[]⟩ Tryz.func62 rfl (λQ hQ=>?_)
 have Y:=trivial
 refine wv (h:=bF (λi e H=>(e 0=dLI im/\e 1=dLI tr/\e 5=.own 0 i/\e 6=dI i)/\(H.get 0=some ⟨3,1,(oE (im.take i) tr).map cI,false⟩)/\(0<H.next)/\(i<=im.length)) (λi=>im.length - i) 0 ⟨wg,(by simp [go_sem,oE]),wn,wi⟩ λI0 hI0 i e H hi0=>?_)
 obtain ⟨E0,g0_0,n0_0,hii⟩:=hi0
 have Y:=wa Y (wa E0 (wa g0_0 (cD n0_0)))
 refine sG (λh3=>?_) λh3=>?_
 .have hx:=hi _ (aC h3)
  have hk:im[i].toNat<tr.length:=aD
  have hSt:oE (im.take (i+1)) tr=oE (im.take i) tr++[tr[im[i].toNat]]:=by unfold oE;rw [aE h3,List.map_append];simp [aA hk]
  have hal:(oE (im.take i) tr).length=i:=by simp [oE];omega
  have Y:=wa Y (wa h3 (wa (aA h3) (wa (aA hk) hal)))
  exact wp (h:=wx hI0 (i+1) ⟨wg,(by simp [go_sem,Y,hSt,cI]),wn,wj⟩)
 .rw [aH aD] at g0_0
  have hie:i=im.length:=aD
  have hal:(oE im tr).length=im.length:=by simp [oE]
  exact wv (h:=hQ _ _ (by simp [go_sem,Y,hie,hal,dLI]))
theorem IB (into:List Int)(i:Nat):Ay into (i+1)=Ay into i+if gB into into.length i<0 then 1 else 0:=by
 unfold Ay;rw [dF,kL,aL]
 congr 1
 simp only [List.filter_cons,List.filter_nil]
 split<;>simp_all
theorem IA (into:List Int):Ay into 0=0:=rfl
theorem Pj (into:List Int)(i:Nat):Ay into i<=i:=by
 unfold Ay;exact fD (l6 _ _) bV
theorem MO (keep into at_:List Int)(i remain:Nat):Co keep into at_ (i+1) remain=Co keep into at_ i remain++[GH keep into at_ remain i]:=by simp [Co,dF]
theorem z8 (keep into at_:List Int)(right remain:Nat)(k1:into.length<=keep.length)(k2:∀ x∈keep,0<=x/\x<at_.length)(k3:right<=1000000)(k4:remain<=1000000) :
  Pure Tryz.prog 63 [dLI keep,dLI into,dI right,dLI at_,dI remain] (dLI (Co keep into at_ right remain)):=by
 refine Tz.pK ⟨λt=>t==12,λ_=>[]⟩ Tryz.func63 rfl (λQ hQ=>?_)
 have Y:=@IA
 refine wv (h:=aB (FG into right k3) wl ?_)
 refine wv (h:=bF (λi e H=>(e 0=dLI keep/\e 1=dLI into/\e 2=dI right/\e 3=dLI at_/\e 4=dI ((remain+Ay into i:Nat):Int)/\e 11=dLI (k9 into right)/\e 12=.own 0 i/\e 13=dI i)/\(H.get 0=some ⟨3,1,(Co keep into at_ i remain).map cI,false⟩)/\(0<H.next)/\(i<=right)) (λi=>right - i) 0 ⟨wg,(by simp [go_sem,Co]),wn,wi⟩ λI0 hI0 i e H hi0=>?_)
 obtain ⟨E0,g0_0,n0_0,hi⟩:=hi0
 have Y:=wa Y (wa E0 (wa g0_0 (cD n0_0)))
 refine dP (λh4=>?_) λh4=>?_
 .have hg:=n5 into (n:=right) (i:=i) aD
  have hb:=Cb into i into.length
  have hbl:=k8 into right
  have hnc:=IB into i
  have hnl:=Pj into i
  have hcl:(Co keep into at_ i remain).length=i:=by simp [Co]
  have hg2:(k9 into right)[i]' aD=gB into into.length i:=by simp [k9]
  have Y:=wa Y (wa h4 (wa hg (wa hg2 (wa hbl hcl))))
  refine sG (λh6=>?_) λh6=>?_
  .have hb2:(gB into into.length i).toNat<keep.length:=aD
   have hx:=k2 _ (aC hb2)
   have hk:keep[(gB into into.length i).toNat].toNat<at_.length:=aD
   have hC:GH keep into at_ remain i=at_[keep[(gB into into.length i).toNat].toNat]:=by unfold GH;rw [if_pos aD,aA hb2,Option.getD_some,aA hk];rfl
   rw [if_neg aD] at hnc
   have Y:=wa Y (wa (aA hb2) (wa (aA hk) hnc))
   exact wp (h:=wx hI0 (i+1) ⟨wg,(by simp [go_sem,Y,MO,hC,cI]),wn,wj⟩)
  .have hC:GH keep into at_ remain i=((remain+Ay into i:Nat):Int):=by unfold GH;rw [if_neg aD]
   rw [if_pos aD] at hnc
   have Y:=wa Y hnc
   exact wp (h:=wx hI0 (i+1) ⟨wg,(by simp [go_sem,Y,MO,hC,cI]),wn,wj⟩)
 .have hie:i=right:=aD
  exact wv (h:=hQ _ _ (by simp [go_sem,Y,hie,dLI];simp [Co]))
theorem rQ (a b:List Int):Pure Tryz.prog 96 [dLI a,dLI b] (.bool (decide (a=b))):=by
 refine Tz.pK ⟨λ_=>false,λ_=>[]⟩ Tryz.func96 rfl (λQ hQ=>?_)
 have Y:=trivial
 refine wv (h:=?_)
 repeat first|intro _|refine ⟨eO,?_⟩
 refine wq (λh1=>?_) λh1=>?_
 .refine wv (h:=?_)
  have hne:a≠b:=by intro h;subst h;omega
  exact hQ _ _ (by simp [go_sem,hne])
 .refine wv (h:=bF (λi e H=>(e 0=dLI a/\e 1=dLI b/\e 5=dI i)/\(i<=a.length)/\(a.take i=b.take i)) (λi=>a.length - i) 0 ⟨wg,wi,(by rfl)⟩ λI0 hI0 i e H hi0=>?_)
  obtain ⟨E0,hi,he⟩:=hi0
  have Y:=wa Y E0
  refine wv (h:=?_)
  repeat first|intro _|refine ⟨eO,?_⟩
  refine wq (λh4=>?_) λh4=>?_
  .have hib:i<b.length:=aD
   have Y:=wa Y (wa h4 hib)
   refine wv (h:=?_)
   repeat first|intro _|refine ⟨eO,?_⟩
   refine wq (λh6=>?_) λh6=>?_
   .refine wv (h:=?_)
    have hne:a≠b:=by intro h;subst h;exact h6 rfl
    exact hQ _ _ (by simp [go_sem,hne])
   .exact wo (h:=wx hI0 (i+1) ⟨wg,wj,(by rw [aE h4,aE hib,he,h6])⟩)
  .rw [aH aD,aH aD] at he
   exact wv (h:=hQ _ _ (by simp [go_sem,he]))
def uH (t:Types)(r:Rule)(h:Host)(m:Mat):Part:=if qL t r h m=0 then bU r h m else ⟨[],[]⟩
theorem OH {t:Types}{p g:Graph}{m:Part}{inj:Bool}(h:fN t p g m inj=0):fN t p g m false=0:=by
 unfold fN at h ⊢
 split at h
 .exact absurd h (by assumption)
 .rename_i h1
  rw [if_neg h1]
  unfold iX at h ⊢
  split at h
  .cases h
  .rename_i h2
   rw [if_neg h2]
   split at h
   .exact absurd h (by assumption)
   .rename_i h3
    rw [if_neg h3]
    split at h
    .exact absurd h (by assumption)
    .rename_i h4
     rw [if_neg h4,if_neg bV]
theorem Ib {t:Types}{p:Pattern}{h:Host}{m:Part}(h0:(d9 t p h m).2=0):PatOk t p/\HostOk t h/\fN t p.graph h.graph m false=0/\d9 t p h m=fC p h m []:=by
 unfold d9 at h0 ⊢
 split at h0
 .exact absurd h0 (by assumption)
 .rename_i h1
  split at h0
  .exact absurd h0 (by assumption)
  .rename_i h2
   split at h0
   .exact absurd h0 (by assumption)
   .rename_i h3
    rw [jS] at h1 h2 h3
    rw [if_neg aD,if_neg aD,if_neg aD]
    exact ⟨L2 (.inr h1),r4 h2,h3,rfl⟩
theorem Fv (t:Types)(ht:t.ok)(r:Rule)(hR:RuleV t r)(h:Host)(ho:HostOk t h)(m:Mat) :
  Pure Tryz.prog 60 [t.d,r.d,h.d,m.d] (.tup [(uH t r h m).d,dI (lE t r h m)]):=by
 refine Tz.pK ⟨λt=>t==8||t==12||t==13,λ_=>[]⟩ Tryz.func60 rfl (λQ hQ=>?_)
 have Y:=wa @Host.d.eq_1 (wa @Host.c.eq_1 (wa @Mat.d.eq_1 @Mat.c.eq_1))
 refine wv (h:=aB (xN t ht r.left.graph h.graph m.m r.inj) wl ?_)
 refine dP (λh1=>?_) λh1=>?_
 .have hP:qL t r h m=1:=by unfold qL;rw [if_pos (bW h1)]
  have hE:lE t r h m=1:=by unfold lE;rw [if_pos aD,hP]
  have hD:uH t r h m=⟨[],[]⟩:=by unfold uH;rw [if_neg aD]
  exact wv (h:=hQ _ _ (by simp [go_sem,hE,hD,Part.d,Part.c,dLI]))
 .have hc:fN t r.left.graph h.graph m.m r.inj=0:=by simpa using h1
  refine wv (h:=aB (LH t ht r.left h m.m) wl ?_)
  refine dP (λh4=>?_) λh4=>?_
  .have hP:qL t r h m=(d9 t r.left h m.m).2:=by unfold qL;rw [if_neg aD,if_pos h4]
   have hE:lE t r h m=(d9 t r.left h m.m).2:=by unfold lE;rw [if_pos aD,hP]
   have hD:uH t r h m=⟨[],[]⟩:=by unfold uH;rw [if_neg aD]
   exact wv (h:=hQ _ _ (by simp [go_sem,hE,hD,Part.d,Part.c,dLI]))
  .obtain ⟨hso1,hso2,hso3,hso4⟩:=Ib (bW h4)
   have hmo:=rX (rJ hc).2
   refine wp (h:=aB (rQ (d9 t r.left h m.m).1 m.vars) wl ?_)
   refine sG (λh6=>?_) λh6=>?_
   .have h6':(d9 t r.left h m.m).1≠m.vars:=by simpa using h6
    have hP:qL t r h m=11:=by unfold qL;rw [if_neg aD,if_neg aD,if_pos h6']
    have hE:lE t r h m=11:=by unfold lE;rw [if_pos aD,hP]
    have hD:uH t r h m=⟨[],[]⟩:=by unfold uH;rw [if_neg aD]
    exact wv (h:=hQ _ _ (by simp [go_sem,hE,hD,Part.d,Part.c,dLI]))
   .have h6':(d9 t r.left h m.m).1=m.vars:=by simpa using h6
    have hin:zM t r.left.graph h.graph m.m=lQ r.left.graph h.graph m.m:=by unfold zM;rw [if_pos hso3]
    have hP:qL t r h m=qV (lQ r.left.graph h.graph m.m) h.graph r.keep m.m:=by unfold qL;rw [if_neg aD,if_neg aD,if_neg (by rw [h6'];simp)]
    have hK:=hR.keep
    have hgl:=bR hR.pl.gg
    have hgh:=bR ho.gg
    have hml:=hmo.len
    have hme:=hmo.elen
    have hkl:=hR.kl.1
    have hMat:MatOk t r.left h m:=by
     rw [hso4] at h6'
     have hz:(fC r.left h m.m []).2=0:=by rw [<- hso4];simpa using h4
     obtain ⟨a1,a2⟩:=Aq (Ue hR.pl ho hmo) (vs:=[]) bV bV hz
     rw [h6'] at a1 a2
     exact ⟨hmo,a1,a2⟩
    have Y:=wa Y (wa hin hso3)
    refine wv (h:=aB (FB t ht r.left.graph h.graph m.m) wl ?_)
    refine wv (h:=aB (Rr (lQ r.left.graph h.graph m.m) h.graph r.keep m.m aD aD aD aD aD) wl ?_)
    refine dP (λh12=>?_) λh12=>?_
    .have hE:lE t r h m=qV (lQ r.left.graph h.graph m.m) h.graph r.keep m.m:=by unfold lE;rw [if_pos aD,hP]
     have hD:uH t r h m=⟨[],[]⟩:=by unfold uH;rw [if_neg aD]
     exact wv (h:=hQ _ _ (by simp [go_sem,hE,hD,Part.d,Part.c,dLI]))
    .have hD:uH t r h m=bU r h m:=by unfold uH;rw [if_pos aD]
     have hE0:lE t r h m=if (nE t h r.inj r.cond m).2≠0 then (nE t h r.inj r.cond m).2 else if (nE t h r.inj r.cond m).1=false then 16 else 0:=by unfold lE;rw [if_neg aD]
     refine wv (h:=aB ((by have hq:=LF t ht h ho r.inj r.cond r.left hR.cond hR.pl m hMat;rwa [Cond.c_eq] at hq)) wl ?_)
     refine sG (λh15=>?_) λh15=>?_
     .rw [if_neg (by rw [h15.1];simp),if_pos h15.2] at hE0
      exact wv (h:=hQ _ _ (by simp [go_sem,Y,hE0,hD,bU]))
     .have hE2:lE t r h m=(nE t h r.inj r.cond m).2:=by
       rw [hE0];split
       .rfl
       .rename_i hz;rw [jS] at hz;simp [hz] at h15;simp [hz,h15]
      exact wv (h:=hQ _ _ (by simp [go_sem,Y,hE2,hD,bU]))
theorem oP (l:List Int)(i:Nat):bJ l (i+1)=bJ l i++if mem l i=true then [] else [(i:Int)]:=by
 unfold bJ;rw [dF,kL,List.map_append]
 congr 1
 simp only [List.filter_cons,List.filter_nil]
 split<;>simp_all
def EH (t:Types)(r:Rule)(x:Host)(i:Nat):Host :=
 ⟨⟨x.graph.nodes++(bJ r.into.nodes i).map (gN r.right.graph),x.graph.edges⟩,x.values++(bJ r.into.nodes i).map (λk=>lV t (gN r.right.graph k))⟩
def Oj (t:Types)(r:Rule)(c:Part)(x:Host)(i:Nat):Host:=⟨⟨x.graph.nodes,x.graph.edges++(bJ r.into.edges i).map (λk=>freshE c (r.right.graph.edges[k.toNat]?.getD cC))⟩,x.values⟩
theorem Dr (t:Types)(ht:t.ok)(r:Rule)(hR:RuleV t r)(x0:Host)(c:Part)(hc:c.nodes.length=r.right.graph.nodes.length)(hs:x0.graph.nodes.length<=1000/\x0.graph.edges.length<=1000/\x0.values.length<=1000)
  (G:AHeap) (lo a b V:Nat) (qs0:List Nat) (hh0:HH G lo a b V qs0 x0) (Q:D->AHeap->Prop)
  (hQ:∀ ns H',(∀ j∈ns,G.next<=j)->HH H' lo a b V (qs0++ns) (jO t r c x0)->(∀ j,j<G.next->j∉a :: b :: V :: qs0->H'.get j=G.get j)->G.next<=H'.next->Q (.agg [.own a (jO t r c x0).graph.nodes.length,.own b (jO t r c x0).graph.edges.length,.own V (jO t r c x0).values.length]) H') :
  ACalls Tryz.prog 64 [t.d,r.d,.agg [.own a x0.graph.nodes.length,.own b x0.graph.edges.length,.own V x0.values.length],c.d] G Q:=by
 have hga:=bR hR.gr
 have hgi:=eL hR.gr
 have ha0:=hh0.rng a hh0.a_in
 have hb0:=hh0.rng b hh0.b_in
 have hV0:=hh0.rng V hh0.V_in
 have hab:=hh0.ab
 have hout:∀ j,j∉a :: b :: V :: qs0->j≠a/\j≠b/\j≠V:=λj hj=>by simp only [aU,not_or] at hj;exact ⟨hj.1,hj.2.1,hj.2.2.1⟩
 refine (aI (cfg:=⟨λt=>t==6||t==8||t==9||t==13||t==16||t==1000001,λr=>match r with|6=>[(0,8),(1,8),(2,8)]|19=>[(0,18),(1,18),(2,18)]|_=>[]⟩) Tz.mixed Tryz.func64 rfl rfl (aF rfl) (by kernel_rfl) ?_)
 try simp [go_sem,seval,Part.d,Part.c]
 obtain ⟨I0,hI0⟩:∃ I0:Nat->dM->AHeap->Prop,∀ (i:Nat) (e:dM) (H:AHeap),I0 i e H↔(∃ X:Nat,∃ R:Nat,∃ Y:Nat,∃ x:Host,∃ ns:List Nat,(e 4=.adr t.c)/\(e 5=.adr r.c)/\(e 7=.adr c.c)/\(e 6=.ptr X 1 0 0)/\(e 8=.ptr R 1 0 0)/\(e 9=.ptr Y 1 0 0)/\(e 10=dI i)/\(H.get X=some ⟨44,3,[[.own a x.graph.nodes.length,.own b x.graph.edges.length,.own V x.values.length]],false⟩)/\(X<H.next)/\(H.get R=some ⟨44,3,[[.nil,.nil,.nil]],false⟩)/\(R<H.next)/\(H.get Y=some ⟨29,2,[[dLI r.right.graph.nodes,.list (r.right.graph.edges.map Edge.c)]],false⟩)/\(Y<H.next)/\(i<=r.right.graph.nodes.length)/\(HH H lo a b V (qs0++ns) x)/\(x=EH t r x0 i)/\(∀ j∈a :: b :: V :: (qs0++ns),j≠X/\j≠R/\j≠Y)/\(∀ j∈ns,G.next<=j)/\(G.next<=X/\X<R/\R<Y)/\(∀ j,j<G.next->j∉a :: b :: V :: qs0->H.get j=G.get j)/\(G.next<=H.next)):=⟨λi e H=>_,λ_ _ _=>Iff.rfl⟩
 refine oS I0 (λi=>r.right.graph.nodes.length - i) (0) ((hI0 _ _ _).2 ⟨(G.next),(G.next+1),(G.next+2),(x0),([]),?_,?_,?_,?_,?_,?_,?_,?_,?_,?_,?_,?_,?_,(by first|assumption|omega|(simp [go_sem,Part.d,Part.c];done)|(simp_all;done)),(by rw [dG];refine hh0.same (by simp [go_sem];omega) (λj hj=>by have:=(hh0.rng j hj).2;simp [go_sem,cD this])),(by simp [EH,bJ]),(by intro j hj;rw [dG] at hj;have:=(hh0.rng j hj).2;omega),(by intro j hj;cases hj),aD,(by intro j hj _;simp [go_sem,cD hj]),(by simp [go_sem];omega)⟩) ?_
 iterate 13 (first|omega|(simp [go_sem,seval,Part.d,Part.c]<;>omega))
 intro i e H hi0
 obtain ⟨X,R,Y,x,ns,q4_0,q5_0,q7_0,q6_0,q8_0,q9_0,q10_0,gX_0,nX_0,gR_0,nR_0,gY_0,nY_0,hi,hh,hx,hXq,hns,hXR,hG,hnx⟩:=(hI0 _ _ _).1 hi0
 have xX:=cD nX_0
 have xR:=cD nR_0
 have xY:=cD nY_0
 have F0:=And.intro q4_0 (And.intro q5_0 (And.intro q7_0 (And.intro q6_0 (And.intro q8_0 (And.intro q9_0 (And.intro q10_0 (And.intro gX_0 (And.intro gR_0 (And.intro gY_0 (And.intro xX (And.intro xR xY)))))))))))
 have di1:=And.intro (dH (aD:Y≠R)) (And.intro (dH (aD:Y≠X)) (And.intro (dH (aD:Y≠V)) (And.intro (dH (aD:Y≠b)) (And.intro (dH (aD:Y≠a)) (And.intro (dH (aD:R≠X)) (And.intro (dH (aD:R≠V)) (And.intro (dH (aD:R≠b)) (And.intro (dH (aD:R≠a)) (And.intro (dH (aD:X≠V)) (And.intro (dH (aD:X≠b)) (And.intro (dH (aD:X≠a)) (And.intro (dH (aD:V≠b)) (And.intro (dH (aD:V≠a)) (dH (aD:b≠a)))))))))))))))
 try simp [go_sem,seval,Part.d,Part.c,F0,di1]
 repeat first|intro _|refine ⟨eQ,?_⟩
 refine aP (λh3=>?_) (λh3=>?_)
 .try simp [go_sem] at h3
  have hsu:=oP r.into.nodes i
  obtain ⟨nd,hnd⟩:∃ y,y=r.right.graph.nodes[i]:=⟨_,rfl⟩
  have hgn:gN r.right.graph (i:Int)=nd:=by rw [hnd];simp [gN,aA h3]
  have hoL:=lG r.into.nodes i
  have hxn:x.graph.nodes.length<=2000/\x.values.length<=2000/\x.graph.edges.length<=2000:=by rw [hx];simp [EH];omega
  try simp [go_sem,seval,Part.d,Part.c,F0,di1,h3,aA h3,<- hnd]
  repeat first|intro _|refine ⟨eQ,?_⟩
  refine aB (z7 r.into.nodes i) ((by first|rfl|(simp [go_sem,<- List.map_take,<- List.map_drop,Part.d,Part.c,F0,di1,h3,aA h3,<- hnd];done))) ?_
  try simp [go_sem,seval,Part.d,Part.c,F0,di1,h3,aA h3,<- hnd]
  repeat first|intro _|refine ⟨eQ,?_⟩
  refine aP (λh5=>?_) (λh5=>?_)
  .try simp [go_sem] at h5
   have hm:mem r.into.nodes i=true:=by simpa using h5
   rw [if_pos hm,dG] at hsu
   obtain ⟨x2,hx2⟩:∃ y,y=x:=⟨_,rfl⟩
   obtain ⟨ns2,hns2⟩:∃ y,y=ns:=⟨_,rfl⟩
   have hx3:x2=EH t r x0 (i+1):=by rw [hx2,hx];unfold EH;rw [hsu]
   have hh2:HH H lo a b V (qs0++ns2) x2:=by rw [hx2,hns2];exact hh
   have hXq2:∀ j∈a :: b :: V :: (qs0++ns2),j≠X/\j≠R/\j≠Y:=by rw [hns2];exact hXq
   have hG2:=hG
   try simp [go_sem,seval,Part.d,Part.c,F0,di1,h3,aA h3,<- hnd,hx2]
   repeat first|intro _|refine ⟨eQ,?_⟩
   refine eB (i+1) aD ((hI0 _ _ _).2 ⟨(X),(R),(Y),(x2),(ns2),?_,?_,?_,?_,?_,?_,?_,?_,?_,?_,?_,?_,?_,(by first|assumption|omega|(simp [go_sem,Part.d,Part.c,F0,di1,h3,aA h3,<- hnd,hx2,h5];done)|(simp_all<;>omega)),(by first|exact hh2|(rw [hns2,<- List.append_assoc,hx2];exact hhk.rowAdd (by first|(simp [go_sem];done)|(simp [go_sem];omega)) aD hWq (by first|(simp [go_sem];done)|(simp [go_sem];omega)) (by simp [go_sem,Part.d,Part.c,F0,di1,h3,aA h3,<- hnd,hx2,hleast]) (by simp [go_sem,Part.d,Part.c,F0,di1,h3,aA h3,<- hnd,hx2,hleast]) (λj hj=>by obtain ⟨k1,k2⟩:=hfrm2 j hj;simp [go_sem,k1,k2]))),(by exact hx3),(by exact hXq2),(by rw [hns2];first|exact hns|(intro j hj;rw [aV,bK] at hj;rcases hj with hj|rfl;exact hns j hj;exact hWlo.2)),(by exact hXR),(by first|exact hG2|(intro j hj hjn;obtain ⟨ja,jb,jV⟩:=hout j hjn;simp [go_sem,jV,(aD:j≠X)];exact hGk j hj hjn)),(by first|exact hnx|(simp [go_sem];omega))⟩)<;>first|omega|(simp [go_sem,seval,Part.d,Part.c,F0,di1,h3,aA h3,<- hnd,hx2]<;>omega)
  .try simp [go_sem] at h5
   have hm:¬ mem r.into.nodes i=true:=by simpa using h5
   rw [if_neg hm] at hsu
   have hga1:=hh.ga
   have hgV1:=hh.gV
   have hrl:=jF hh.len
   have hqa:=hh.rng a hh.a_in
   have hqV:=hh.rng V hh.V_in
   have hqb:=hh.rng b hh.b_in
   have hal8:(bL t nd).length<=8:=pS hR.vf nd
   have fr2:=And.intro (cD (aD:a<H.next)) (And.intro (cD (aD:b<H.next)) (cD (aD:V<H.next)))
   have hfrm:∀ j∈b :: V :: (qs0++ns),j≠a/\j≠X/\j<H.next:=λj hj=>by
    have hj':j∈a :: b :: V :: (qs0++ns):=dD _ hj
    refine ⟨?_,(hXq j hj').1,(hh.rng j hj').2⟩
    rintro rfl
    have:=hh.nd;rw [gY] at this;exact this.1 hj
   try simp [go_sem,seval,Part.d,Part.c,F0,di1,h3,aA h3,<- hnd,h5,hga1,hgV1,hrl,fr2]
   repeat first|intro _|refine ⟨eQ,?_⟩
   refine aJ (nW t ht nd) ((by first|rfl|(simp [go_sem,<- List.map_take,<- List.map_drop,Part.d,Part.c,F0,di1,h3,aA h3,<- hnd,h5,hga1,hgV1,hrl,fr2];done))) ?_
   try simp [go_sem,seval,Part.d,Part.c,F0,di1,h3,aA h3,<- hnd,h5,hga1,hgV1,hrl,fr2]
   repeat first|intro _|refine ⟨eQ,?_⟩
   obtain ⟨I2,hI2⟩:∃ I2:Nat->dM->AHeap->Prop,∀ (k:Nat) (e:dM) (H:AHeap),I2 k e H↔(∃ W:Nat,(e 4=.adr t.c)/\(e 5=.adr r.c)/\(e 7=.adr c.c)/\(e 6=.ptr X 1 0 0)/\(e 8=.ptr R 1 0 0)/\(e 9=.ptr Y 1 0 0)/\(e 10=dI i)/\(e 11=.list ((bL t nd).map Attr.c))/\(e 13=.own W k)/\(e 14=dI k)/\(H.get X=some ⟨44,3,[[.own a (x.graph.nodes.length+1),.own b x.graph.edges.length,.own V x.values.length]],false⟩)/\(X<H.next)/\(H.get R=some ⟨44,3,[[.nil,.nil,.nil]],false⟩)/\(R<H.next)/\(H.get Y=some ⟨29,2,[[dLI r.right.graph.nodes,.list (r.right.graph.edges.map Edge.c)]],false⟩)/\(Y<H.next)/\(H.get W=some ⟨3,1,(((bL t nd).take k).map λa=>a.low).map cI,false⟩)/\(W<H.next)/\(k<=(bL t nd).length)/\(HH H lo a b V (qs0++ns) ⟨⟨x.graph.nodes++[nd],x.graph.edges⟩,x.values⟩)/\(∀ j∈a :: b :: V :: (qs0++ns),j≠W)/\((lo<=W/\Y<W)/\G.next<=W)/\(∀ j,j<G.next->j∉a :: b :: V :: qs0->H.get j=G.get j)/\(G.next<=H.next)):=⟨λk e H=>_,λ_ _ _=>Iff.rfl⟩
   refine oS I2 (λk=>(bL t nd).length - k) (0) ((hI2 _ _ _).2 ⟨(H.next+13+12),?_,?_,?_,?_,?_,?_,?_,?_,?_,?_,?_,?_,?_,?_,?_,?_,(by simp [go_sem]),?_,(by first|assumption|omega|(simp [go_sem,Part.d,Part.c,F0,di1,h3,aA h3,<- hnd,h5,hga1,hgV1,hrl,fr2];done)|(simp_all;done)),(by exact hh.nodes (by first|(simp [go_sem];done)|(simp [go_sem];omega)) (by simp [go_sem,Part.d,Part.c,F0,di1,h3,aA h3,<- hnd,h5,hga1,hgV1,hrl,fr2,cI]) (λj hj=>by obtain ⟨k1,k2,k3⟩:=hfrm j hj;simp [go_sem,k1,k2,cD k3])),(by intro j hj;have:=(hh.rng j hj).2;omega),(by omega),(by intro j hj hjn;obtain ⟨ja,jb,jV⟩:=hout j hjn;simp [go_sem,ja,(aD:j≠X),cD (aD:j<H.next)];exact hG j hj hjn),(by simp [go_sem];omega)⟩) ?_
   iterate 17 (first|omega|(simp [go_sem,seval,Part.d,Part.c,F0,di1,h3,aA h3,<- hnd,h5,hga1,hgV1,hrl,fr2]<;>omega))
   intro k e H hi2
   obtain ⟨W,q4_2,q5_2,q7_2,q6_2,q8_2,q9_2,q10_2,q11_2,q13_2,q14_2,gX_2,nX_2,gR_2,nR_2,gY_2,nY_2,gW_2,nW_2,hk,hhk,hWq,hWlo,hGk,hnk⟩:=(hI2 _ _ _).1 hi2
   have xX:=cD nX_2
   have xR:=cD nR_2
   have xY:=cD nY_2
   have xW:=cD nW_2
   have F2:=And.intro q4_2 (And.intro q5_2 (And.intro q7_2 (And.intro q6_2 (And.intro q8_2 (And.intro q9_2 (And.intro q10_2 (And.intro q11_2 (And.intro q13_2 (And.intro q14_2 (And.intro gX_2 (And.intro gR_2 (And.intro gY_2 (And.intro xX (And.intro xR (And.intro xY xW)))))))))))))))
   have di3:=And.intro (dH (aD:W≠Y)) (And.intro (dH (aD:W≠R)) (And.intro (dH (aD:W≠X)) (And.intro (dH (aD:W≠V)) (And.intro (dH (aD:W≠b)) (And.intro (dH (aD:W≠a)) (And.intro (dH (aD:Y≠R)) (And.intro (dH (aD:Y≠X)) (And.intro (dH (aD:Y≠V)) (And.intro (dH (aD:Y≠b)) (And.intro (dH (aD:Y≠a)) (And.intro (dH (aD:R≠X)) (And.intro (dH (aD:R≠V)) (And.intro (dH (aD:R≠b)) (And.intro (dH (aD:R≠a)) (And.intro (dH (aD:X≠V)) (And.intro (dH (aD:X≠b)) (And.intro (dH (aD:X≠a)) (And.intro (dH (aD:V≠b)) (And.intro (dH (aD:V≠a)) (dH (aD:b≠a)))))))))))))))))))))
   try simp [go_sem,seval,Part.d,Part.c,di1,h3,aA h3,<- hnd,h5,hga1,hgV1,hrl,fr2,F2,gW_2,di3]
   repeat first|intro _|refine ⟨eQ,?_⟩
   refine aP (λh10=>?_) (λh10=>?_)
   .try simp [go_sem] at h10
    have hst:((bL t nd).take (k+1)).map (λa=>a.low)=((bL t nd).take k).map (λa=>a.low)++[(bL t nd)[k].low]:=by rw [aE h10,List.map_append];rfl
    try simp [go_sem,seval,Part.d,Part.c,di1,h3,aA h3,<- hnd,h5,hga1,hgV1,hrl,fr2,F2,gW_2,di3,h10,aA h10,Attr.c]
    repeat first|intro _|refine ⟨eQ,?_⟩
    refine eB (k+1) aD ((hI2 _ _ _).2 ⟨(W),?_,?_,?_,?_,?_,?_,?_,?_,?_,?_,?_,?_,?_,?_,?_,?_,(by simp [go_sem,Part.d,Part.c,di1,h3,aA h3,<- hnd,h5,hga1,hgV1,hrl,fr2,F2,gW_2,di3,h10,aA h10,Attr.c,hst,cI]),?_,(by first|assumption|omega|(simp [go_sem,Part.d,Part.c,di1,h3,aA h3,<- hnd,h5,hga1,hgV1,hrl,fr2,F2,gW_2,di3,h10,aA h10,Attr.c];done)|(simp_all<;>omega)),(by exact hhk.same (by simp [go_sem]) (λj hj=>by have:=hWq j hj;simp [go_sem,this])),(by exact hWq),aD,(by intro j hj hjn;simp [go_sem,(aD:j≠W)];exact hGk j hj hjn),(by simp [go_sem];omega)⟩)<;>first|omega|(simp [go_sem,seval,Part.d,Part.c,di1,h3,aA h3,<- hnd,h5,hga1,hgV1,hrl,fr2,F2,gW_2,di3,h10,aA h10,Attr.c]<;>omega)
   .try simp [go_sem] at h10
    have hke:k=(bL t nd).length:=aD
    have hgVk:=hhk.gV
    rw [aH aD] at gW_2
    obtain ⟨x2,hx2⟩:∃ y:Host,y=⟨⟨x.graph.nodes++[nd],x.graph.edges⟩,x.values++[lV t nd]⟩:=⟨_,rfl⟩
    obtain ⟨ns2,hns2⟩:∃ y,y=ns++[W]:=⟨_,rfl⟩
    have hx3:x2=EH t r x0 (i+1):=by rw [hx2,hx];unfold EH;rw [hsu];simp [hgn]
    have hXq2:∀ j∈a :: b :: V :: (qs0++ns2),j≠X/\j≠R/\j≠Y:=λj hj=>by
     have e:a :: b :: V :: (qs0++ns2)=(a :: b :: V :: (qs0++ns))++[W]:=by rw [hns2];simp
     rw [e,aV,bK] at hj
     rcases hj with hj|rfl
     .exact hXq j hj
     .omega
    have hxl:x2.graph.nodes.length=x.graph.nodes.length+1/\x2.graph.edges.length=x.graph.edges.length/\x2.values.length=x.values.length+1:=by rw [hx2];simp
    have hfrm2:∀ j∈a :: b :: (qs0++ns),j≠V/\j≠X:=λj hj=>by
     simp only [aU] at hj
     rcases hj with rfl|rfl|hj
     .exact ⟨aD,(hXq _ hhk.a_in).1⟩
     .exact ⟨aD,(hXq _ hhk.b_in).1⟩
     .exact ⟨(hhk.qn hj).2.2,(hXq _ (hhk.q_in hj)).1⟩
    have hleast:lV t nd=(bL t nd).map λa=>a.low:=rfl
    try simp [go_sem,seval,Part.d,Part.c,di1,h3,aA h3,<- hnd,h5,hga1,hgV1,hrl,fr2,F2,gW_2,di3,hgVk,hxl,gW_2,hke]
    repeat first|intro _|refine ⟨eQ,?_⟩
    refine eB (i+1) aD ((hI0 _ _ _).2 ⟨(X),(R),(Y),(x2),(ns2),?_,?_,?_,?_,?_,?_,?_,?_,?_,?_,?_,?_,?_,(by first|assumption|omega|(simp [go_sem,Part.d,Part.c,di1,h3,aA h3,<- hnd,h5,hga1,hgV1,hrl,fr2,F2,gW_2,di3,hgVk,hxl,gW_2,hke,h10];done)|(simp_all<;>omega)),(by first|exact hh2|(rw [hns2,<- List.append_assoc,hx2];exact hhk.rowAdd (by first|(simp [go_sem];done)|(simp [go_sem];omega)) aD hWq (by first|(simp [go_sem];done)|(simp [go_sem];omega)) (by simp [go_sem,Part.d,Part.c,di1,h3,aA h3,<- hnd,h5,hga1,hgV1,hrl,fr2,F2,gW_2,di3,hgVk,hxl,gW_2,hke,hleast]) (by simp [go_sem,Part.d,Part.c,di1,h3,aA h3,<- hnd,h5,hga1,hgV1,hrl,fr2,F2,gW_2,di3,hgVk,hxl,gW_2,hke,hleast]) (λj hj=>by obtain ⟨k1,k2⟩:=hfrm2 j hj;simp [go_sem,k1,k2]))),(by exact hx3),(by exact hXq2),(by rw [hns2];first|exact hns|(intro j hj;rw [aV,bK] at hj;rcases hj with hj|rfl;exact hns j hj;exact hWlo.2)),(by exact hXR),(by first|exact hG2|(intro j hj hjn;obtain ⟨ja,jb,jV⟩:=hout j hjn;simp [go_sem,jV,(aD:j≠X)];exact hGk j hj hjn)),(by first|exact hnx|(simp [go_sem];omega))⟩)<;>first|omega|(simp [go_sem,seval,Part.d,Part.c,di1,h3,aA h3,<- hnd,h5,hga1,hgV1,hrl,fr2,F2,gW_2,di3,hgVk,hxl,gW_2,hke]<;>omega)
 .try simp [go_sem] at h3
  have hie:i=r.right.graph.nodes.length:=aD
  have hgb1:=hh.gb
  have hoL:=lG r.into.nodes i
  have hxn:x.graph.edges.length<=1000:=by rw [hx];exact hs.2.1
  try simp [go_sem,seval,Part.d,Part.c,F0,di1,hgb1]
  obtain ⟨I4,hI4⟩:∃ I4:Nat->dM->AHeap->Prop,∀ (i:Nat) (e:dM) (H:AHeap),I4 i e H↔(∃ x:Host,(e 4=.adr t.c)/\(e 5=.adr r.c)/\(e 7=.adr c.c)/\(e 6=.ptr X 1 0 0)/\(e 8=.ptr R 1 0 0)/\(e 9=.ptr Y 1 0 0)/\(e 15=dI i)/\(H.get X=some ⟨44,3,[[.own a x.graph.nodes.length,.own b x.graph.edges.length,.own V x.values.length]],false⟩)/\(X<H.next)/\(H.get R=some ⟨44,3,[[.nil,.nil,.nil]],false⟩)/\(R<H.next)/\(H.get Y=some ⟨29,2,[[dLI r.right.graph.nodes,.list (r.right.graph.edges.map Edge.c)]],false⟩)/\(Y<H.next)/\(i<=r.right.graph.edges.length)/\(HH H lo a b V (qs0++ns) x)/\(x=Oj t r c (EH t r x0 r.right.graph.nodes.length) i)/\(∀ j,j<G.next->j∉a :: b :: V :: qs0->H.get j=G.get j)/\(G.next<=H.next)):=⟨λi e H=>_,λ_ _ _=>Iff.rfl⟩
  refine oS I4 (λi=>r.right.graph.edges.length - i) (0) ((hI4 _ _ _).2 ⟨(x),?_,?_,?_,?_,?_,?_,?_,?_,?_,?_,?_,?_,?_,(by first|assumption|omega|(simp [go_sem,Part.d,Part.c,F0,di1,hgb1];done)|(simp_all;done)),(by exact hh),(by rw [hx,hie];simp [Oj,bJ]),(by exact hG),(by exact hnx)⟩) ?_
  iterate 13 (first|omega|(simp [go_sem,seval,Part.d,Part.c,F0,di1,hgb1]<;>omega))
  intro i e H hi4
  obtain ⟨x,q4_4,q5_4,q7_4,q6_4,q8_4,q9_4,q15_4,gX_4,nX_4,gR_4,nR_4,gY_4,nY_4,hi4,hh4,hx4,hG4,hn4⟩:=(hI4 _ _ _).1 hi4
  have xX:=cD nX_4
  have xR:=cD nR_4
  have xY:=cD nY_4
  have F4:=And.intro q4_4 (And.intro q5_4 (And.intro q7_4 (And.intro q6_4 (And.intro q8_4 (And.intro q9_4 (And.intro q15_4 (And.intro gX_4 (And.intro gR_4 (And.intro gY_4 (And.intro xX (And.intro xR xY)))))))))))
  have di4:=And.intro (dH (aD:Y≠R)) (And.intro (dH (aD:Y≠X)) (And.intro (dH (aD:Y≠V)) (And.intro (dH (aD:Y≠b)) (And.intro (dH (aD:Y≠a)) (And.intro (dH (aD:R≠X)) (And.intro (dH (aD:R≠V)) (And.intro (dH (aD:R≠b)) (And.intro (dH (aD:R≠a)) (And.intro (dH (aD:X≠V)) (And.intro (dH (aD:X≠b)) (And.intro (dH (aD:X≠a)) (And.intro (dH (aD:V≠b)) (And.intro (dH (aD:V≠a)) (dH (aD:b≠a)))))))))))))))
  try simp [go_sem,seval,Part.d,Part.c,di1,hgb1,F4,di4]
  repeat first|intro _|refine ⟨eQ,?_⟩
  refine aP (λh15=>?_) (λh15=>?_)
  .try simp [go_sem] at h15
   have hsu:=oP r.into.edges i
   obtain ⟨y,hy⟩:=cF (r.right.graph.edges[i])
   have hye:r.right.graph.edges[(i:Int).toNat]?.getD cC=y:=by rw [hy];simp [aA h15]
   have hye2:r.right.graph.edges[i]?.getD cC=y:=by rw [hy,aA h15];rfl
   have hyi:=(hgi.2 _ (aC h15)).2
   rw [<- hy] at hyi
   have hyf:y.from_.toNat<c.nodes.length:=aD
   have hyt:y.to_.toNat<c.nodes.length:=aD
   have hoE:=lG r.into.edges i
   have hxe:x.graph.edges.length<=2000:=by rw [hx4];simp [Oj,EH];omega
   have hgb4:=hh4.gb
   have hqb:=hh4.rng b hh4.b_in
   have fr5:=cD (aD:b<H.next)
   try simp [go_sem,seval,Part.d,Part.c,di1,hgb1,F4,di4,h15,aA h15,<- hy,aA hyf,aA hyt,hgb4,Edge.c,fr5]
   refine aB (z7 r.into.edges i) ((by first|rfl|(simp [go_sem,<- List.map_take,<- List.map_drop,Part.d,Part.c,di1,hgb1,F4,di4,h15,aA h15,<- hy,aA hyf,aA hyt,hgb4,Edge.c,fr5];done))) ?_
   try simp [go_sem,seval,Part.d,Part.c,di1,hgb1,F4,di4,h15,aA h15,<- hy,aA hyf,aA hyt,hgb4,Edge.c,fr5]
   refine aP (λh17=>?_) (λh17=>?_)
   .try simp [go_sem] at h17
    have hm:¬ mem r.into.edges i=true:=by simpa using h17
    rw [if_neg hm] at hsu
    have hfr:freshE c y=⟨y.type,c.nodes[y.from_.toNat],c.nodes[y.to_.toNat]⟩:=by unfold freshE;rw [aA hyf,aA hyt];rfl
    obtain ⟨x2,hx2⟩:∃ z:Host,z=⟨⟨x.graph.nodes,x.graph.edges++[freshE c y]⟩,x.values⟩:=⟨_,rfl⟩
    have hx3:x2=Oj t r c (EH t r x0 r.right.graph.nodes.length) (i+1):=by rw [hx2,hx4];unfold Oj;rw [hsu];simp [hye,hye2]
    have hxl:x2.graph.nodes.length=x.graph.nodes.length/\x2.graph.edges.length=x.graph.edges.length+1/\x2.values.length=x.values.length:=by rw [hx2];simp
    have hfrm4:∀ j∈a :: V :: (qs0++ns),j≠b/\j≠X/\j<H.next:=λj hj=>by
     have hj':j∈a :: b :: V :: (qs0++ns):=by simp only [aU] at hj ⊢;rcases hj with h|h|h<;>simp [h]
     refine ⟨?_,(hXq j hj').1,(hh4.rng j hj').2⟩
     rintro rfl
     have:=hh4.nd;simp only [gY,aU,not_or] at this
     simp only [aU] at hj
     rcases hj with h|h|h
     .exact this.1.1 h.symm
     .exact this.2.1.1 h
     .exact this.2.1.2 h
    try simp [go_sem,seval,Part.d,Part.c,di1,hgb1,F4,di4,h15,aA h15,<- hy,aA hyf,aA hyt,hgb4,Edge.c,fr5,hxl]
    repeat first|intro _|refine ⟨eQ,?_⟩
    refine eB (i+1) aD ((hI4 _ _ _).2 ⟨(x2),?_,?_,?_,?_,?_,?_,?_,?_,?_,?_,?_,?_,?_,(by first|assumption|omega|(simp [go_sem,Part.d,Part.c,di1,hgb1,F4,di4,h15,aA h15,<- hy,aA hyf,aA hyt,hgb4,Edge.c,fr5,hxl,h3,h17];done)|(simp_all<;>omega)),(by first|exact hh2|(rw [hx2];exact hh4.edges (by first|(simp [go_sem];done)|(simp [go_sem];omega)) (by simp [go_sem,Part.d,Part.c,di1,hgb1,F4,di4,h15,aA h15,<- hy,aA hyf,aA hyt,hgb4,Edge.c,fr5,hxl,hfr,Edge.c]) (λj hj=>by obtain ⟨k1,k2,k3⟩:=hfrm4 j hj;simp [go_sem,k1,k2,cD k3]))),(by exact hx3),(by first|exact hG2|(intro j hj hjn;obtain ⟨ja,jb,jV⟩:=hout j hjn;simp [go_sem,jb,(aD:j≠X),cD (aD:j<H.next)];exact hG4 j hj hjn)),(by first|exact hn4|(simp [go_sem];omega))⟩)<;>first|omega|(simp [go_sem,seval,Part.d,Part.c,di1,hgb1,F4,di4,h15,aA h15,<- hy,aA hyf,aA hyt,hgb4,Edge.c,fr5,hxl]<;>omega)
   .try simp [go_sem] at h17
    have hm:mem r.into.edges i=true:=by simpa using h17
    rw [if_pos hm,dG] at hsu
    obtain ⟨x2,hx2⟩:∃ z,z=x:=⟨_,rfl⟩
    have hx3:x2=Oj t r c (EH t r x0 r.right.graph.nodes.length) (i+1):=by rw [hx2,hx4];unfold Oj;rw [hsu]
    have hh2:HH H lo a b V (qs0++ns) x2:=by rw [hx2];exact hh4
    have hG2:=hG4
    try simp [go_sem,seval,Part.d,Part.c,di1,hgb1,F4,di4,h15,aA h15,<- hy,aA hyf,aA hyt,hgb4,Edge.c,fr5,hx2]
    repeat first|intro _|refine ⟨eQ,?_⟩
    refine eB (i+1) aD ((hI4 _ _ _).2 ⟨(x2),?_,?_,?_,?_,?_,?_,?_,?_,?_,?_,?_,?_,?_,(by first|assumption|omega|(simp [go_sem,Part.d,Part.c,di1,hgb1,F4,di4,h15,aA h15,<- hy,aA hyf,aA hyt,hgb4,Edge.c,fr5,hx2,h3,h17];done)|(simp_all<;>omega)),(by first|exact hh2|(rw [hx2];exact hh4.edges (by first|(simp [go_sem];done)|(simp [go_sem];omega)) (by simp [go_sem,Part.d,Part.c,di1,hgb1,F4,di4,h15,aA h15,<- hy,aA hyf,aA hyt,hgb4,Edge.c,fr5,hx2,hfr,Edge.c]) (λj hj=>by obtain ⟨k1,k2,k3⟩:=hfrm4 j hj;simp [go_sem,k1,k2,cD k3]))),(by exact hx3),(by first|exact hG2|(intro j hj hjn;obtain ⟨ja,jb,jV⟩:=hout j hjn;simp [go_sem,jb,(aD:j≠X),cD (aD:j<H.next)];exact hG4 j hj hjn)),(by first|exact hn4|(simp [go_sem];omega))⟩)<;>first|omega|(simp [go_sem,seval,Part.d,Part.c,di1,hgb1,F4,di4,h15,aA h15,<- hy,aA hyf,aA hyt,hgb4,Edge.c,fr5,hx2]<;>omega)
  .try simp [go_sem] at h15
   have hie4:i=r.right.graph.edges.length:=aD
   have hX4:x=jO t r c x0:=by rw [hx4,hie4];rfl
   rw [hX4] at hh4
   try simp [go_sem,seval,Part.d,Part.c,di1,hgb1,F4,di4,hX4]
   exact hQ ns _ hns (hh4.same (by simp [go_sem]) (λj hj=>by simp [go_sem,(hXq j hj).2.1])) (λj hj hjn=>by simp [go_sem,(aD:j≠R)];exact hG4 j hj hjn) (by simp [go_sem];exact hn4)
def Oi (t:Types)(r:Rule)(c:Part)(x0:Host)(a b V:Nat)(qs ns:List Nat):List (Nat × Blk) :=
 [(a,⟨3,1,(jO t r c x0).graph.nodes.map cI,false⟩),(b,⟨122,3,(jO t r c x0).graph.edges.map Edge.c,false⟩),(V,⟨26,1,kQ (qs++ns) (jO t r c x0).values,false⟩)]
def RS (t:Types)(r:Rule)(ns:List Nat):List (Nat × Blk):=P3 ns (r.freshN.map λk=>lV t (gN r.right.graph k))
theorem Pr {H H':AHeap}{t:Types}{r:Rule}{c:Part}{x0:Host}{lo a b V:Nat}{qs ns:List Nat}(hh:HH H lo a b V qs x0)(hag:∀ j∈a :: b :: V :: qs,H'.get j=H.get j)(hl:ns.length=r.freshN.length)(hnd:(a :: b :: V :: (qs++ns)).Nodup)
  (hlt:∀ j∈a :: b :: V :: (qs++ns),j<H'.next):HH ((H'.puts (Oi t r c x0 a b V qs ns)).pushs (RS t r ns)) 0 a b V (qs++ns) (jO t r c x0)/\((H'.puts (Oi t r c x0 a b V qs ns)).pushs (RS t r ns)).next=H'.next /\
   (∀ j,j∉a :: b :: V :: (qs++ns)->((H'.puts (Oi t r c x0 a b V qs ns)).pushs (RS t r ns)).get j=H'.get j)/\(∀ j,((H'.puts (Oi t r c x0 a b V qs ns)).pushs (RS t r ns)).al j↔H'.al j\/j∈ns):=by
 have hids:(RS t r ns).map (·.1)=ns:=Fp (bW hl)
 have hab:=hh.ab
 have hnn:∀ j∈ns,j≠a/\j≠b/\j≠V/\j∉qs:=λj hj=>by
  have h:=hnd
  simp only [gY,aU,aV,not_or,nA] at h
  exact ⟨λe=>h.1.2.2.2 (e ▸ hj),λe=>h.2.1.2.2 (e ▸ hj),λe=>h.2.2.1.2 (e ▸ hj),λhq=>h.2.2.2.2.2 j hq j hj rfl⟩
 have hn:((RS t r ns).map (·.1)).Nodup:=by
  rw [hids];have h:=hnd
  simp only [gY,nA] at h
  exact h.2.2.2.2.1
 have hout:∀ j,j∉ns->((H'.puts (Oi t r c x0 a b V qs ns)).pushs (RS t r ns)).get j=(H'.puts (Oi t r c x0 a b V qs ns)).get j:=λj hj=>nX _ _ _ (by rw [hids];exact hj)
 have hnx:((H'.puts (Oi t r c x0 a b V qs ns)).pushs (RS t r ns)).next=H'.next:=by
  rw [pG _ _ λp hp=>?_,uF]
  rw [uF]
  refine hlt p.1 ?_
  have:p.1∈ns:=by rw [<- hids];exact n8 hp
  simp [this]
 have hvl:(jO t r c x0).values=x0.values++r.freshN.map (λk=>lV t (gN r.right.graph k)):=rfl
 refine ⟨⟨?_,?_,?_,?_,λi q v h1 h2=>?_,hnd,λj hj=>⟨dY _,by rw [hnx];exact hlt j hj⟩⟩,hnx,λj hj=>?_,λj=>?_⟩
 .rw [hout a λhm=>(hnn a hm).1 rfl]
  simp [AHeap.puts,AHeap.put,Oi,hab.1,hab.2.1]
 .rw [hout b λhm=>(hnn b hm).2.1 rfl]
  simp [AHeap.puts,AHeap.put,Oi,hab.2.2]
 .rw [hout V λhm=>(hnn V hm).2.2.1 rfl]
  simp [AHeap.puts,AHeap.put,Oi]
 .rw [hvl,aL,aL,aW,hh.len,hl]
 .by_cases hi:i<qs.length
  .rw [aQ hi] at h1
   rw [hvl,aQ (by rw [<- hh.len];exact hi)] at h2
   have hq:=aK h1
   have hqn:=hh.qn hq
   rw [hout q λhm=>(hnn q hm).2.2.2 hq,vP _ _ _ (λp hp=>?_),hag q (hh.q_in hq)]
   .exact hh.gq i q v h1 h2
   .simp only [Oi,aU,fU,or_false] at hp
    rcases hp with rfl|rfl|rfl
    .exact Ne.symm hqn.1
    .exact Ne.symm hqn.2.1
    .exact Ne.symm hqn.2.2
  .rw [aZ aD] at h1
   rw [hvl,aZ (by rw [<- hh.len];omega),<- hh.len] at h2
   exact uG _ _ hn (Lm h1 h2)
 .simp only [aU,aV,not_or] at hj
  rw [hout j hj.2.2.2.2,vP _ _ _ λp hp=>?_]
  simp only [Oi,aU,fU,or_false] at hp
  rcases hp with rfl|rfl|rfl
  .exact Ne.symm hj.1
  .exact Ne.symm hj.2.1
  .exact Ne.symm hj.2.2.1
 .rw [rS,hids,J0]
theorem ACalls.wf {P:Program}{f:FuncId}{args:List D}{H:AHeap}{Q:D->AHeap->Prop}(he:T2 P f)(h:(∀ j,H.al j->j<H.next)->(∀ j,¬ H.al j->H.get j=none)->ACalls P f args H Q):ACalls P f args H Q :=
 ⟨he,λM0 σ w vals hR ha=>(h hR.nxt λj hj=>(hR.top j hj).2).2 M0 σ w vals hR ha⟩
theorem MI {md:Nat->Bool}{ops:Array Oper}{sp:List (Nat × Nat)}{n0 i:Nat}{rest:List Oper}{acc:List (Nat × List Nat)}{e:dM}{dst:Option Tmp}{K:dM->AHeap->Prop}{H:AHeap}
  (t:Types) (ht:t.ok) (r:Rule) (hR:RuleV t r) (x0:Host) (c:Part) (hc:c.nodes.length=r.right.graph.nodes.length) (hs:x0.graph.nodes.length<=1000/\x0.graph.edges.length<=1000/\x0.values.length<=1000)
  (lo a b V:Nat) (qs ns:List Nat) (hh:HH H lo a b V qs x0) (hl:ns.length=r.freshN.length) (hnd:(a :: b :: V :: (qs++ns)).Nodup) (hn0:n0<=H.next) (hfr:∀ j∈ns,j<n0/\¬ H.al j)
  (hmd:CN md dst=true) (hck:G4 sp i (a :: b :: V :: (qs++ns)) acc)
  (hK:∀ E,HH E 0 a b V (qs++ns) (jO t r c x0)->(∀ j,j∉a :: b :: V :: (qs++ns)->E.get j=H.get j)->(∀ j,E.al j↔H.al j\/j∈ns)->E.next=H.next ->
   jX Tryz.prog md ops sp n0 (i+1) rest ((i,a :: b :: V :: (qs++ns)) :: acc) (oD e dst (.agg [.own a (jO t r c x0).graph.nodes.length,.own b (jO t r c x0).graph.edges.length,.own V (jO t r c x0).values.length])) E K) :
  pN Tryz.prog md ops sp n0 i rest acc e dst K 64 [t.d,r.d,.agg [.own a x0.graph.nodes.length,.own b x0.graph.edges.length,.own V x0.values.length],c.d] H:=by
 have hids:(RS t r ns).map (·.1)=ns:=Fp (bW hl)
 have hEnt:=(Dr t ht r hR x0 c hc hs H lo a b V qs hh (λ_ _=>True) (λ_ _ _ _ _ _=>trivial)).1
 unfold pN
 refine Or.inr ⟨hmd,.agg [.own a (jO t r c x0).graph.nodes.length,.own b (jO t r c x0).graph.edges.length,.own V (jO t r c x0).values.length],a :: b :: V :: qs,Oi t r c x0 a b V qs ns,RS t r ns,λp hp=>?_,λp hp=>hfr p.1 (by rw [<- hids];exact n8 hp),λH' hag hfresh=>?_,?_,?_⟩
 .simp only [Oi,aU,fU,or_false] at hp
  rcases hp with rfl|rfl|rfl<;>simp
 .refine ACalls.wf hEnt λhnx hnon=>?_
  have hf':∀ j∈ns,j<H'.next/\¬ H'.al j:=λj hj=>by
   rw [<- hids,bA] at hj
   obtain ⟨p,hp,rfl⟩:=hj
   exact hfresh p hp
  have hgs:∀ j∈a :: b :: V :: qs,∃ k,H.get j=some k:=λj hj=>by
   simp only [aU] at hj
   rcases hj with rfl|rfl|rfl|hq
   .exact ⟨_,hh.ga⟩
   .exact ⟨_,hh.gb⟩
   .exact ⟨_,hh.gV⟩
   .obtain ⟨p,hp,rfl⟩:=aO hq
    exact ⟨_,hh.gq p _ _ (aA hp) (aA (by rw [<- hh.len];exact hp))⟩
  have hA:∀ j∈a :: b :: V :: qs,H'.al j:=λj hj=>bB λhn=>by
   obtain ⟨k,hk⟩:=hgs j hj
   have:=hag j hj
   rw [hk,hnon j hn] at this;cases this
  have hh':HH H' 0 a b V qs x0:=⟨(hag a hh.a_in).trans hh.ga,(hag b hh.b_in).trans hh.gb,(hag V hh.V_in).trans hh.gV,hh.len,λi q v h1 h2=>(hag q (hh.q_in (aK h1))).trans (hh.gq i q v h1 h2),hh.nd,λj hj=>⟨dY _,hnx j (hA j hj)⟩⟩
  have hlt:∀ j∈a :: b :: V :: (qs++ns),j<H'.next:=λj hj=>by
   simp only [aU,aV] at hj
   rcases hj with h|h|h|h|h
   .exact hnx j (hA j (by simp [h]))
   .exact hnx j (hA j (by simp [h]))
   .exact hnx j (hA j (by simp [h]))
   .exact hnx j (hA j (by simp [h]))
   .exact (hf' j h).1
  obtain ⟨g1,g2,g3,g4⟩:=Pr (t:=t) (r:=r) (c:=c) hh hag hl hnd hlt
  refine ACalls.exact (E:=(H'.puts (Oi t r c x0 a b V qs ns)).pushs (RS t r ns)) (Dr t ht r hR x0 c hc hs H' 0 a b V qs hh' (λd H1=>∃ ns1,(∀ j∈ns1,H'.next<=j)/\HH H1 0 a b V (qs++ns1) (jO t r c x0)/\(∀ j,j<H'.next->j∉a :: b :: V :: qs->H1.get j=H'.get j)/\d=.agg [.own a (jO t r c x0).graph.nodes.length,.own b (jO t r c x0).graph.edges.length,.own V (jO t r c x0).values.length]) (λns1 H1 k1 k2 k3 _=>⟨ns1,k1,k2,k3,rfl⟩)) ?_
  rintro _ _ d H1 ⟨ns1,k1,k2,k3,rfl⟩
  refine HH.exact g1 k2 hnx hnon (by rw [g2];exact bC _) (λj=>?_) (λj hj hjn=>k3 j (hnx j hj) λhm=>hjn (by simp only [aU,aV] at hm ⊢;rcases hm with h|h|h|h<;>simp [h])) g3 (λp j j1 e1 e2=>?_)
  .rw [g4]
   constructor
   .rintro (h|h)
    .exact .inl h
    .exact .inr (by simp [h])
   .rintro (h|h)
    .exact .inl h
    .simp only [aU,aV] at h
     rcases h with h|h|h|h|h
     .exact .inl (hA j (by simp [h]))
     .exact .inl (hA j (by simp [h]))
     .exact .inl (hA j (by simp [h]))
     .exact .inl (hA j (by simp [h]))
     .exact .inr h
  .have ea:∀ l:List Nat,a :: b :: V :: (qs++l)=(a :: b :: V :: qs)++l:=λl=>rfl
   rw [ea] at e1 e2
   by_cases hp:p<(a :: b :: V :: qs).length
   .rw [aQ hp] at e1 e2
    rw [e1] at e2;cases e2
    exact ⟨λ_=>rfl,λh=>h⟩
   .rw [aZ aD] at e1 e2
    have m1:=hf' j (aK e1)
    have m2:=k1 j1 (aK e2)
    exact ⟨λh=>absurd h m1.2,λ_ h=>by have:=hnx j1 h;omega⟩
 .rw [hids];exact hck
 .rw [hids]
  have hlt:∀ j∈a :: b :: V :: (qs++ns),j<H.next:=λj hj=>by
   simp only [aU,aV] at hj
   rcases hj with h|h|h|h|h
   .exact (hh.rng j (by simp [h])).2
   .exact (hh.rng j (by simp [h])).2
   .exact (hh.rng j (by simp [h])).2
   .exact (hh.rng j (by simp [h])).2
   .exact b8 (hfr j h).1 hn0
  obtain ⟨g1,g2,g3,g4⟩:=Pr (t:=t) (r:=r) (c:=c) hh (λ_ _=>rfl) hl hnd hlt
  exact hK _ g1 g3 g4 g2
theorem CR {l:List Int}{v:Int}(h:mem l v=true):0<=idx l v/\(idx l v).toNat<l.length/\l[(idx l v).toNat]?=some v:=by
 obtain ⟨i,hi,he⟩:=aO ((mem_iff l v).1 h)
 have h0:0<=idx l v:=by simpa [mem] using h
 unfold idx at h0 ⊢
 cases hf:l.findIdx? (λx=>decide (x=v)) with
 | none=>rw [hf] at h0;simp at h0
 | some k =>
  rw [i4] at hf
  obtain ⟨hk,hv,_⟩:=hf
  simp only [decide_eq_true_eq] at hv
  exact ⟨by simp,by simpa using hk,by simp [hk,hv]⟩
def fX (l:List Int)(n:Nat):List Int:=((List.range n).filter λ(i:Nat)=>mem l i).map λ(i:Nat)=>(i:Int)
theorem mQ {f:Nat->Int}:∀ (n k:Nat),(∀ j,k<=j->j<k+n->f j=0)->bT f k n=0
 | 0,k,_=>rfl
 | n+1,k,h=>by
  unfold bT
  rw [if_neg (by rw [h k (bC _) aD];simp)]
  exact mQ n (k+1) λj h1 h2=>h j aD aD
theorem Si {l:List Int}{n:Int}(h1:∀ x∈l,0<=x/\x<n)(h2:l.Pairwise (· < ·)):Er l n=0:=by
 refine mQ _ _ λj _ hj=>?_
 have hj':j<l.length:=aD
 have hx:=h1 _ (aC hj')
 unfold GV
 rw [aA hj',Option.getD_some,if_neg aD,if_neg]
 rintro ⟨h0,hle⟩
 rw [aA (aD:j - 1<l.length),Option.getD_some] at hle
 have:=dK.1 h2 (j - 1) j aD hj' aD
 omega
theorem Sk {l:List Int}(h:l.Pairwise (· < ·))(h0:∀ x∈l,0<=x):∀ i (hi:i<l.length),(i:Int)<=l[i]
 | 0,hi=>by have:=h0 _ (aC hi);omega
 | i+1,hi=>by
  have h1:=Sk h h0 i aD
  have h2:=dK.1 h i (i+1) aD hi aD
  omega
theorem Mm {α:Type}{f:α->Int}:∀ {l:List α},(∀ x∈l,f x=0)->gK f l=0
 | [],_=>rfl
 | x :: l,h=>by
  unfold gK
  rw [if_neg (by rw [h x (fO ..)];simp)]
  exact Mm λy hy=>h y (dD _ hy)
def eA (g:Graph)(k:Int):Edge:=g.edges[k.toNat]?.getD cC
def iA (l:List Int)(k:Int):Int:=l[k.toNat]?.getD 0
theorem SN {g:Graph}{p:Part}(hg:graphF g=0)(hn:∀ x∈p.nodes,0<=x/\x<g.nodes.length)(hns:p.nodes.Pairwise (· < ·))(he:∀ x∈p.edges,0<=x/\x<g.edges.length)(hes:p.edges.Pairwise (· < ·))
  (hends:∀ k∈p.edges,(eA g k).from_∈p.nodes/\(eA g k).to_∈p.nodes):subF g p=0:=by
 unfold subF qR
 rw [if_neg (by rw [hg];simp),if_neg (by rw [Si hn hns];simp),if_neg (by rw [Si he hes];simp)]
 refine Mm λk hk=>?_
 have h1:=(mem_iff _ _).2 (hends k hk).1
 have h2:=(mem_iff _ _).2 (hends k hk).2
 unfold eA at h1 h2
 unfold yM;rw [if_pos (by rw [h1,h2];rfl)]
theorem FK (p:Nat->Bool)(n:Nat):(((List.range n).filter p).map λ(b:Nat)=>(b:Int)).Pairwise (· < ·):=by
 rw [List.pairwise_map]
 have h:((List.range n).filter p).Pairwise (· < ·):=List.Pairwise.filter _ List.pairwise_lt_range
 exact h.imp λh=>by omega
theorem Ax (p:Nat->Bool)(n:Nat)(x:Int):x∈(((List.range n).filter p).map λ(b:Nat)=>(b:Int))↔(0<=x/\x<n)/\p x.toNat=true:=by
 simp only [bA,gZ,bP]
 constructor
 .rintro ⟨a,⟨h1,h2⟩,rfl⟩;exact ⟨aD,by simpa using h2⟩
 .rintro ⟨⟨h1,h2⟩,h3⟩;exact ⟨x.toNat,⟨aD,h3⟩,aD⟩
theorem gW {l:List Int}{n:Nat}{x:Int}:x∈bJ l n↔(0<=x/\x<n)/\x∉l:=by
 unfold bJ
 rw [Ax]
 constructor
 .rintro ⟨h,h2⟩
  refine ⟨h,λhm=>?_⟩
  rw [show ((x.toNat:Nat):Int)=x by omega,(mem_iff l x).2 hm] at h2;cases h2
 .rintro ⟨h,h2⟩
  refine ⟨h,?_⟩
  rw [show ((x.toNat:Nat):Int)=x by omega,c9,bH]
  exact λhm=>h2 ((mem_iff l x).1 hm)
theorem nY (l:List Int)(n:Nat):(bJ l n).Pairwise (· < ·):=FK _ n
theorem s6 {l:List Int}{n:Nat}{x:Int}:x∈fX l n↔(0<=x/\x<n)/\x∈l:=by
 unfold fX
 rw [Ax]
 constructor
 .rintro ⟨h,h2⟩
  refine ⟨h,?_⟩
  rw [show ((x.toNat:Nat):Int)=x by omega] at h2;exact (mem_iff l x).1 h2
 .rintro ⟨h,h2⟩
  refine ⟨h,?_⟩
  rw [show ((x.toNat:Nat):Int)=x by omega]
  exact (mem_iff l x).2 h2
theorem Ta (l:List Int)(n:Nat):(fX l n).Pairwise (· < ·):=FK _ n
theorem PJ:∀ {l m:List Int},l.Pairwise (· < ·)->m.Pairwise (· < ·)->(∀ x,x∈l↔x∈m)->l=m
 | [],[],_,_,_=>rfl
 | [],b :: m,_,_,h=>by have:=(h b).2 (fO ..);cases this
 | a :: l,[],_,_,h=>by have:=(h a).1 (fO ..);cases this
 | a :: l,b :: m,hl,hm,h=>by
  obtain ⟨h1,h2⟩:=List.pairwise_cons.1 hl
  obtain ⟨h3,h4⟩:=List.pairwise_cons.1 hm
  have hab:a=b:=by
   have q1:=(h a).1 (fO ..)
   have q2:=(h b).2 (fO ..)
   rw [aU] at q1 q2
   rcases q1 with q1|q1
   .exact q1
   .rcases q2 with q2|q2
    .exact q2.symm
    .have h5:=h1 b q2
     have h6:=h3 a q1
     omega
  subst hab
  congr 1
  refine PJ h2 h4 λx=>⟨λhx=>?_,λhx=>?_⟩
  .rcases aU.1 ((h x).1 (dD _ hx)) with rfl|h'
   .have:=h1 x hx;omega
   .exact h'
  .rcases aU.1 ((h x).2 (dD _ hx)) with rfl|h'
   .have:=h3 x hx;omega
   .exact h'
theorem ID {a b:Graph}{m:Part}(h:eJ a b m=0):(∀ i,i<a.nodes.length->j9 a b m i=0)/\∀ k,k<a.edges.length->iE a b m k=0:=by
 obtain ⟨g1,g2,h3,h4⟩:=nO h
 have hM:eJ a b m=(if bT (j9 a b m) 0 a.nodes.length≠0 then bT (j9 a b m) 0 a.nodes.length else bT (iE a b m) 0 a.edges.length):=by
  unfold eJ;rw [if_neg (by rw [g1];simp),if_neg (by rw [g2];simp),if_neg aD]
 rw [hM] at h
 split at h
 .rename_i q;exact absurd h q
 .rename_i q
  exact ⟨λi hi=>eY a.nodes.length 0 (aD:bT (j9 a b m) 0 a.nodes.length=0) i aD aD,λk hk=>eY a.edges.length 0 h k aD aD⟩
theorem N6 {a b:Graph}{m:Part}(h:eJ a b m=0){i:Int}(h0:0<=i)(hi:i<a.nodes.length):(0<=iA m.nodes i/\iA m.nodes i<b.nodes.length)/\gN b (iA m.nodes i)=gN a i:=by
 have q:=(ID h).1 i.toNat aD
 unfold j9 at q
 split at q
 .cases q
 .rename_i q1
  split at q
  .cases q
  .rename_i q2
   exact ⟨by unfold iA;omega,by unfold gN iA;simpa using q2⟩
theorem FW {a b:Graph}{m:Part}(h:eJ a b m=0){k:Int}(h0:0<=k)(hk:k<a.edges.length):(0<=iA m.edges k/\iA m.edges k<b.edges.length)/\(eA a k).type=(eA b (iA m.edges k)).type /\
  iA m.nodes (eA a k).from_=(eA b (iA m.edges k)).from_/\iA m.nodes (eA a k).to_=(eA b (iA m.edges k)).to_:=by
 have q:=(ID h).2 k.toNat aD
 unfold iE at q
 split at q
 .cases q
 .rename_i q1
  split at q
  .cases q
  .rename_i q2
   split at q
   .cases q
   .rename_i q3
    unfold eA iA
    refine ⟨aD,by simpa using q2,?_,?_⟩<;>exact bB λhc=>q3 (by first|exact .inl hc|exact .inr hc)
theorem EJ {g:Graph}(hg:graphF g=0){k:Int}(h0:0<=k)(hk:k<g.edges.length):(0<=(eA g k).from_/\(eA g k).from_<g.nodes.length)/\(0<=(eA g k).to_/\(eA g k).to_<g.nodes.length)/\0<=(eA g k).type/\(eA g k).type<=99:=by
 have hk':k.toNat<g.edges.length:=aD
 have hx:=(eL hg).2 _ (aC hk')
 unfold eA
 rw [aA hk',Option.getD_some]
 exact ⟨hx.2.1,hx.2.2,hx.1⟩
theorem ME {im keep:List Int}(h:q9 im keep=[]){i k:Nat}(hik:i<k)(hk:k<im.length):tP im keep i k=false:=by
 rw [bH]
 intro hd
 have hm:(i,k)∈q9 im keep:=by
  unfold q9 GA
  rw [bS]
  refine ⟨i,bP.2 aD,?_⟩
  unfold lX
  rw [bA]
  exact ⟨k - (i+1),gZ.2 ⟨bP.2 aD,by rw [show i+1+(k - (i+1))=k by omega];exact hd⟩,by simp;omega⟩
 rw [h] at hm;cases hm
theorem MF {im keep:List Int}(h:q9 im keep=[]){i k:Nat}(hi:i<im.length)(hk:k<im.length)(hne:i≠k)(he:im[i]?.getD 0=im[k]?.getD 0):mem keep i=true/\mem keep k=true:=by
 rcases Nat.lt_or_gt_of_ne hne with hlt|hlt
 .have:=ME h hlt hk
  unfold tP at this;rw [he] at this;simpa using this
 .have:=ME h hlt hi
  unfold tP at this;rw [he] at this;simp at this;exact ⟨this.2,this.1⟩
theorem EK {l g:Graph}{keep m:Part}(h:qV l g keep m=0):eJ l g m=0/\subF l keep=0/\q9 m.nodes keep.nodes=[]/\q9 m.edges keep.edges=[]/\Ak g m.edges (jU m.nodes keep.nodes)=[]:=by
 unfold qV at h
 split at h
 .rename_i q;exact absurd h q
 .rename_i q
  have q':compG l g keep m=0:=aD
  unfold compG at q'
  split at h
  .cases h
  .rename_i q2
   split at h
   .cases h
   .rename_i q3
    have q4:eJ l g m=0/\subF l keep=0:=by
     split at q'
     .rename_i q5;exact absurd q' q5
     .rename_i q5;exact ⟨aD,q'⟩
    exact ⟨q4.1,q4.2,bM aD,bM aD,bM aD⟩
theorem uP {im keep:List Int}(hd:q9 im keep=[]){j:Int}(h0:0<=j)(hj:j<im.length)(hk:j∈keep):iA im j∉jU im keep:=by
 intro hm
 obtain ⟨i,hi,hki,he⟩:=uQ.1 hm
 have hne:i≠j.toNat:=by
  rintro rfl
  rw [show ((j.toNat:Nat):Int)=j by omega,(mem_iff _ _).2 hk] at hki;cases hki
 have:=MF hd hi (aD:j.toNat<im.length) hne (by rw [he];rfl)
 rw [hki] at this;exact absurd this.1 bV
theorem Tl {l g:Graph}{keep m:Part}(h:qV l g keep m=0):subF g (r7 l g keep m)=0:=by
 obtain ⟨hm,hs,hd1,hd2,hda⟩:=EK h
 unfold r7;rw [if_pos h]
 obtain ⟨hgl,hg,hln,hle⟩:=nO hm
 refine SN hg (λx hx=>lF hx) (nY _ _) (λx hx=>lF hx) (nY _ _) λk hk=>?_
 obtain ⟨hkr,hkn⟩:=gW.1 hk
 have hen:=EJ hg hkr.1 hkr.2
 by_cases hkm:k∈m.edges
 .obtain ⟨i,hi,hik⟩:=aO hkm
  have hkeep:(i:Int)∈keep.edges:=by
   refine bB λhc=>hkn (uQ.2 ⟨i,hi,?_,?_⟩)
   .rw [bH];exact λh'=>hc ((mem_iff _ _).1 h')
   .rw [aA hi,hik]
  have hse:=Cv hs i hkeep
  have hei:=EJ (k:=(i:Int)) hgl aD aD
  have hme:=FW (k:=(i:Int)) hm aD aD
  have hii:iA m.edges i=k:=by unfold iA;simp [hi,hik]
  rw [hii] at hme
  have g1:=uP hd1 hei.1.1 aD ((mem_iff _ _).1 hse.1)
  have g2:=uP hd1 hei.2.1.1 aD ((mem_iff _ _).1 hse.2)
  rw [hme.2.2.1] at g1
  rw [hme.2.2.2] at g2
  exact ⟨gW.2 ⟨hen.1,g1⟩,gW.2 ⟨hen.2.1,g2⟩⟩
 .have hb:yN g m.edges (jU m.nodes keep.nodes) k.toNat=false:=by
   rw [bH]
   intro hb
   have hmm:k∈Ak g m.edges (jU m.nodes keep.nodes):=by
    unfold Ak;rw [Ax];exact ⟨hkr,hb⟩
   rw [hda] at hmm;cases hmm
  unfold yN at hb
  rw [show ((k.toNat:Nat):Int)=k by omega,show mem m.edges k=false by rw [bH];exact λh'=>hkm ((mem_iff _ _).1 h')] at hb
  simp only [Bool.not_false,gM,Bool.or_eq_false_iff] at hb
  exact ⟨gW.2 ⟨hen.1,λh'=>by have:=(mem_iff _ _).2 h';unfold eA at this;rw [hb.1] at this;cases this⟩,gW.2 ⟨hen.2.1,λh'=>by have:=(mem_iff _ _).2 h';unfold eA at this;rw [hb.2] at this;cases this⟩⟩
theorem QL {g:Graph}(h1:g.nodes.length<=40)(h2:g.edges.length<=80)(hn:∀ a∈g.nodes,0<=a/\a<=99)
  (he:∀ x∈g.edges,(0<=x.type/\x.type<=99)/\(0<=x.from_/\x.from_<g.nodes.length)/\(0<=x.to_/\x.to_<g.nodes.length)):graphF g=0:=by
 unfold graphF
 rw [if_neg aD,if_neg,if_neg]
 .rw [aX];rintro ⟨x,hx,hf⟩
  have h3:=he x hx
  have h4:s7 x g.nodes.length=true:=by simp [s7,iG];omega
  rw [h4] at hf;cases hf
 .rw [aX];rintro ⟨a,ha,hf⟩
  have h3:=hn a ha
  have h4:iG a 99=true:=by simp [iG];omega
  rw [h4] at hf;cases hf
theorem RU {g:Graph}{n:Int}(h0:0<=n)(h:n<g.nodes.length):gN g n∈g.nodes:=by
 unfold gN;rw [aA (aD:n.toNat<g.nodes.length),Option.getD_some];exact aC _
theorem UZ {g:Graph}{n:Int}(h0:0<=n)(h:n<g.edges.length):eA g n∈g.edges:=by
 unfold eA;rw [aA (aD:n.toNat<g.edges.length),Option.getD_some];exact aC _
theorem lL {l:List Int}{n:Int}(h0:0<=n)(h:n<l.length):iA l n∈l:=by
 unfold iA;rw [aA (aD:n.toNat<l.length),Option.getD_some];exact aC _
theorem Sj {l:List Int}{n:Nat}(h:l.Pairwise (· < ·))(hr:∀ x∈l,0<=x/\x<n):l.length<=n:=by
 rcases Nat.eq_zero_or_pos l.length with h1|h1
 .omega
 .have h2:=Sk h (λx hx=>(hr x hx).1) (l.length - 1) aD
  have h3:=hr _ (aC (aD:l.length - 1<l.length))
  omega
theorem Rt {l:List Int}(hs:l.Pairwise (· < ·)){v:Int}(hv:v∈l):tL l v<l.length/\iA l (tL l v)=v/\idx l v=tL l v:=by
 have hm:=(mem_iff l v).2 hv
 have h1:=BO hs hm
 obtain ⟨h2,h3,h4⟩:=CR hm
 rw [h1] at h2 h3 h4
 refine ⟨by simpa using h3,?_,h1⟩
 unfold iA;rw [h4];rfl
theorem xC {g:Graph}{p:Part}(h:subF g p=0){k:Int}(hk:k∈p.edges):(eA g k).from_∈p.nodes/\(eA g k).to_∈p.nodes:=by
 have:=Cv h k hk
 exact ⟨(mem_iff _ _).1 this.1,(mem_iff _ _).1 this.2⟩
theorem RV (g:Graph)(p:Part)(k:Int):gEd g p k=⟨(eA g k).type,tL p.nodes (eA g k).from_,tL p.nodes (eA g k).to_⟩:=rfl
theorem Uu {α β:Type}(f:α->β)(l:List α)(d:α)(e:β){i:Nat}(h:i<l.length):((l.map f)[i]?).getD e=f ((l[i]?).getD d):=by simp [h]
theorem Kp {g:Graph}{p:Part}(h:subF g p=0){i:Int}(h0:0<=i)(hi:i<p.nodes.length):gN (cY g p) i=gN g (iA p.nodes i):=by
 unfold cY;rw [if_pos h]
 exact Uu (gN g) p.nodes 0 0 aD
end Go.Abs
end
