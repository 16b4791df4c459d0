/- The step of the program: fill (a loop over a map). · The ste -/
import Derived.Test.YthalajhajpjjeaaGreatZgAA
import Derived.Test.YthalajhajpjjeaaGreatZgAU
import Derived.Test.YthalajhajpjjeaaGreatZgAF
import Derived.Test.YthalajhajpjjeaaGreatZgAT
import Derived.Test.YthalajhajpjjeaaGreatZgAS
import Derived.Test.YthalajhajpjjeaaGreatZgAN
import Derived.Test.YthalajhajpjjeaaGreatZgAL
import Derived.Laws.BitsLemmas
set_option linter.unusedVariables false
set_option linter.unusedSimpArgs false
section
set_option maxRecDepth 100000
set_option maxHeartbeats 4000000
open Go Go.Proofs
namespace Go.Abs
theorem OZ {c:Part}{vs:List Int}{l:List Slot}(h:wR c vs l=false):VV c vs l:=by
 rw [vS] at h
 have key:∀ (p q:Nat) (hpq:p<q) (hq:q<l.length),lB c l[p]=lB c l[q]->l[p].attr=l[q].attr->c8 l[p].term vs=c8 l[q].term vs:=λp q hpq hq e1 e2=>by
  refine bA λhn=>?_
  have:((List.range l.length).any λi=>(List.range i).any λk=>uO c vs l i k)=true:=by
   rw [aX]
   refine ⟨q,by simpa using hq,?_⟩
   rw [aX]
   refine ⟨p,by simpa using hpq,?_⟩
   unfold uO Dr
   simp only [aA (aD:p<l.length),aA hq,oW,e1,e2]
   simp [hn]
  rw [h] at this;cases this
 intro s hs s' hs' e1 e2
 obtain ⟨p,hp,rfl⟩:=aO hs
 obtain ⟨q,hq,rfl⟩:=aO hs'
 rcases Nat.lt_trichotomy p q with h1|h1|h1
 .exact key p q h1 hq e1 e2
 .subst h1;rfl
 .exact (key q p h1 hp e1.symm e2.symm).symm
theorem Qv (t:Types)(ht:t.ok)(r:Rule)(hR:RuleV t r)(m:Mat)(h x0:Host)(tr co:Part)(hP:PutOk t r x0 co)(hvl:m.vars.length=r.left.vars.toNat)(hvs:Sm m.vars)(G:AHeap)(s a b0 V:Nat)(qs:List Nat)
  (hs:G.get s=some ⟨53,38,[fF r m h (.own a x0.graph.nodes.length) (.own b0 x0.graph.edges.length) (.own V x0.values.length) tr co],false⟩) (hh0:HH G 0 a b0 V qs x0) (hsq:∀ j∈a :: b0 :: V :: qs,j≠s) (hsn:s<G.next) (Q:D->AHeap->Prop)
  (hQe:∀ H',s7 t x0.graph co m.vars r.right.slots≠0->(∀ j,j<G.next->j∉a :: b0 :: V :: qs->H'.get j=G.get j)->G.next<=H'.next->Q (dI (s7 t x0.graph co m.vars r.right.slots)) H')
  (hQ:∀ H',s7 t x0.graph co m.vars r.right.slots=0->HH H' 0 a b0 V qs ⟨x0.graph,uE co m.vars r.right.slots x0.values⟩->(∀ j,j<G.next->j∉a :: b0 :: V :: qs->H'.get j=G.get j)->G.next<=H'.next->Q (dI 0) H') :
  ACalls Tryz.prog 147 [t.d,.ptr s 1 0 0] G Q:=by
 obtain ⟨l,hl⟩:=cW (r.right.slots)
 have hA:=Hy t r hR m h x0 tr co hP hvl hvs a b0 V x0.graph.nodes.length x0.graph.edges.length x0.values.length G
 have hsl:=hR.slots
 have hspot:=hP.spot
 have hattr:=hP.attr
 have hPf:=hP.few
 rw [<- hl] at hsl hspot hattr hQe hQ hA
 refine In (P:=Tryz.prog) (K:=292) (E:=3) (Q:=λd H' _=>Q d H') ?_ (λ_ _ _ h=>h)
 refine y8 Tryz.func147 rfl rfl (by exact aF rfl) ?_
 refine dO λK1 k1=>?_
 refine gF (c:=⟨λt=>t==7,λ_=>[]⟩) Tz.mixed (by kernel_rfl) ?_
 simp [go_sem,seval]
 refine k1 _ _ _ ?_
 clear k1 K1
 refine dO λK1 k1=>?_
 refine WpG.region ?_
 refine OpsG.take (md:=λt=>t==7) 3 rfl λR kR=>?_
 simp [go_sem,seval,hs,fF]
 repeat first|intro _|refine ⟨eL,?_⟩
 refine kR _ _ ?_
 clear kR R
 refine OpsG.call (f:=244) (args:=[.agg (fF r m h (.own a x0.graph.nodes.length) (.own b0 x0.graph.edges.length) (.own V x0.values.length) tr co)]) (by simp [go_sem,gQ,fF]) rfl rfl hA λd H1 g1 hq=>?_
 obtain ⟨hG1,hn1,hcase⟩:=hq
 rcases hcase with ⟨hcl,q,rfl⟩|⟨hcl,b,k,rfl,rfl⟩
 .refine OpsG.all (md:=λt=>t==7) rfl λR kR=>?_
  simp [go_sem,seval]
  repeat first|intro _|refine ⟨eL,?_⟩
  refine kR _ _ (k1 _ _ _ ?_)
  clear kR R k1 K1
  refine dO λK2 k2=>?_
  refine dO λK4 k4=>?_
  refine gF (c:=⟨λt=>t==7,λ_=>[]⟩) Tz.mixed (by kernel_rfl) ?_
  simp [go_sem,seval]
  refine k4 _ _ _ ?_
  clear k4 K4
  refine WpG.cond (t:=true) (by simp [go_sem]) (λ_=>?_) (λhc=>by cases hc)
  refine dO λK5 k5=>?_
  refine gF (c:=⟨λt=>t==7,λ_=>[]⟩) Tz.mixed (by kernel_rfl) ?_
  simp [go_sem,seval]
  refine k5 _ _ _ ?_
  clear k5 K5
  refine WpG.ret ?_
  simp [go_sem,QD]
  have hE:s7 t x0.graph co m.vars l=11:=by unfold s7;rw [if_pos hcl]
  rw [hE] at hQe
  exact hQe _ (by decide) (λj hj _=>hG1 j hj) hn1
 .refine OpsG.all (md:=λt=>t==7) rfl λR kR=>?_
  simp [go_sem,seval]
  repeat first|intro _|refine ⟨eL,?_⟩
  refine kR _ _ (k1 _ _ _ ?_)
  clear kR R k1 K1
  refine dO λK2 k2=>?_
  refine dO λK4 k4=>?_
  refine gF (c:=⟨λt=>t==7,λ_=>[]⟩) Tz.mixed (by kernel_rfl) ?_
  simp [go_sem,seval]
  refine k4 _ _ _ ?_
  clear k4 K4
  refine WpG.cond (t:=false) (by simp [go_sem]) (λhc=>by cases hc) (λ_=>WpG.skip ?_)
  simp only [go_sem]
  refine k2 _ _ _ ?_
  clear k2 K2
  have hE0:s7 t x0.graph co m.vars l=if l.any (yR t x0.graph co m.vars)=true then 6 else 0:=by unfold s7;rw [if_neg (by rw [hcl];simp)]
  refine dO λK3 k3=>?_
  refine dO λK4 k4=>?_
  refine WpG.region ?_
  refine OpsG.take (md:=λt=>t==7) 1 rfl λR kR=>?_
  simp [go_sem,seval]
  refine kR _ _ ?_
  clear kR R
  refine OpsG.range (T:=288) Sg rfl rfl rfl rfl (by simp [go_sem]) λrr uN=>?_
  refine OpsG.nil (k4 _ _ _ ?_)
  clear k4 K4
  have hRng:∀ x∈l,CP (lB co x)/\CP x.attr:=λx hx=>by
   obtain ⟨s1,s2,s3⟩:=hspot x hx
   obtain ⟨t1,t2⟩:=hattr x hx
   have:=qB hR.vf (x0.graph.nodes[fI co x]?.getD 0)
   have h0:=(hsl x hx).2.1.1
   rw [oW] at s2
   exact ⟨⟨by unfold lB;omega,by unfold lB at *;omega⟩,aD,aD⟩
  refine WpG.block ?_
  obtain ⟨F,hF⟩:=cW (FA co m.vars l)
  rw [<- hF]
  obtain ⟨I,hI⟩:∃ I:Nat->MS->dJ->AHeap->Prop,∀ i g e H,I i g e H↔(∃ left cur,g=.rg b rr F left i cur/\e 1=.ptr s 1 0 0/\e 2=.adr t.c/\e 22=.cst (D4 rr) /\
   HH H 0 a b0 V qs ⟨x0.graph,yP F (λu v=>(F u v).isSome&&!left u v) x0.values⟩/\(∀ x∈l,left (lB co x) x.attr=false->yR t x0.graph co m.vars x=false)/\(∀ j,j<G.next->j∉a :: b0 :: V :: qs->H.get j=G.get j)/\G.next<=H.next):=⟨_,λ_ _ _ _=>Iff.rfl⟩
  refine WpG.loop I (λi=>i) uN ((hI _ _ _ _).2 ⟨_,_,rfl,by simp [go_sem],by simp [go_sem],by simp [go_sem],?_,?_,λj hj _=>hG1 j hj,hn1⟩) λi g e H hi0=>?_
  .rw [QU]
   .exact hh0.same hn1 (λj hj=>hG1 j (hh0.rng j hj).2)
   .intro n v _ _;cases F n v<;>rfl
  .intro x hx hf
   have:=Pr (c:=co) (vs:=m.vars) (l:=l) (s:=x) (OZ hcl) hx
   rw [<- hF] at this
   rw [this] at hf;cases hf
  obtain ⟨left,cur,rfl,q1,q2,q22,hh,hO,hG,hnx⟩:=(hI _ _ _ _).1 hi0
  refine dO λK1 k1=>?_
  refine WpG.region ?_
  refine OpsG.next Sg rfl rfl rfl (by simp [go_sem,q22]) (λhd=>?_) (λu v c i' hu hv hlf hFc hlt=>?_)
  .refine OpsG.all (md:=λt=>t==7) rfl λR kR=>?_
   simp [go_sem,seval]
   refine kR _ _ (k1 _ _ _ ?_)
   clear kR R k1 K1
   refine dO λK1 k1=>?_
   refine WpG.cond (t:=false) (by simp [go_sem]) (λhc=>by cases hc) (λ_=>WpG.exit ?_)
   simp [go_sem]
   refine k3 _ _ _ ?_
   refine dO λK5 k5=>?_
   refine gF (c:=⟨λt=>t==7,λ_=>[]⟩) Tz.mixed (by kernel_rfl) ?_
   simp [go_sem,seval]
   refine k5 _ _ _ ?_
   clear k5 K5
   refine WpG.ret ?_
   simp [go_sem,QD]
   have hany:l.any (yR t x0.graph co m.vars)=false:=by
    rw [bH]
    intro hT
    obtain ⟨x,hx,hT⟩:=aX.1 hT
    rw [hO x hx (hd _ _ (hRng x hx).1 (hRng x hx).2)] at hT;cases hT
   rw [if_neg (by rw [hany];simp)] at hE0
   have hV:=QT (c:=co) (vs:=m.vars) (vals:=x0.values) (l:=l) (λx hx=>⟨(hspot x hx).1,(hspot x hx).2.1,(hsl x hx).2.1.1,(hattr x hx).1⟩) (dn:=λu v=>(F u v).isSome&&!left u v) (λn v _ _=>by
    rw [<- hF]
    cases hFn:F n v with
    | none=>rfl
    | some y =>
     obtain ⟨x,hx,e1,e2,_⟩:=Ai (c:=co) (vs:=m.vars) (l:=l) (by rw [<- hF];exact hFn)
     have:=hd _ _ (hRng x hx).1 (hRng x hx).2
     rw [e1,e2] at this
     simp [this])
   rw [<- hF] at hV
   rw [hV] at hh
   exact hQ _ hE0 hh hG hnx
  .refine OpsG.all (md:=λt=>t==7) rfl λR kR=>?_
   simp [go_sem,seval]
   refine kR _ _ (k1 _ _ _ ?_)
   clear kR R k1 K1
   refine dO λK1 k1=>?_
   refine WpG.cond (t:=true) (by simp [go_sem]) (λ_=>WpG.skip ?_) (λhc=>by cases hc)
   simp only [go_sem]
   refine k1 _ _ _ ?_
   clear k1 K1
   refine WpG.block ?_
   refine dO λK1 k1=>?_
   refine WpG.region ?_
   refine OpsG.entry rfl rfl rfl (by simp [go_sem,q22]) ?_
   refine OpsG.all (md:=λt=>t==7) rfl λR kR=>?_
   simp [go_sem,seval]
   repeat first|intro _|refine ⟨eL,?_⟩
   refine kR _ _ (k1 _ _ _ ?_)
   clear kR R k1 K1
   obtain ⟨x,hxm,e1,e2,e3⟩:=Ai (c:=co) (vs:=m.vars) (l:=l) (by rw [<- hF];exact hFc)
   obtain ⟨s1,s2,s3⟩:=hspot x hxm
   obtain ⟨t1,t2⟩:=hattr x hxm
   have a0:=(hsl x hxm).2.1.1
   obtain ⟨n,hn⟩:=cW (fI co x)
   rw [<- hn] at s2 s3 t1 t2
   have hun:u=(n:Int):=by rw [<- e1,hn,oW];unfold lB at *;omega
   subst hun
   obtain ⟨w,hw⟩:∃ w:Nat,v=(w:Int):=⟨v.toNat,aD⟩
   subst hw
   have hsg:H.get s=some ⟨53,38,[fF r m h (.own a x0.graph.nodes.length) (.own b0 x0.graph.edges.length) (.own V x0.values.length) tr co],false⟩:=by rw [hG s hsn (λhm=>hsq s hm rfl)];exact hs
   have hga:=hh.ga
   have hgV:=hh.gV
   have hqa:=hh.rng a hh.a_in
   have hqV:=hh.rng V hh.V_in
   obtain ⟨nd,hnd⟩:∃ y,y=x0.graph.nodes[n]:=⟨_,rfl⟩
   have hnd0:x0.graph.nodes[n]?.getD 0=nd:=by rw [hnd,aA s3];rfl
   rw [hnd0] at t2
   have haA:w<(bM t nd).length:=aD
   have fr1:=And.intro (b8 (aD:s<H.next)) (And.intro (b8 (aD:a<H.next)) (b8 (aD:V<H.next)))
   have hal:=qA ht nd
   refine dO λK1 k1=>?_
   refine gF (c:=⟨λt=>t==7,λ_=>[]⟩) Tz.mixed (by kernel_rfl) ?_
   simp [go_sem,seval,q1,q2,hsg,hga,fF,fr1,aA s3,<- hnd]
   repeat first|intro _|refine ⟨eL,?_⟩
   refine aI (n7 t ht nd) (by first|rfl|(simp [go_sem];done)) ?_
   simp [go_sem,seval]
   repeat first|intro _|refine ⟨eL,?_⟩
   refine k1 _ _ _ ?_
   clear k1 K1
   refine dO λK2 k2=>?_
   refine dO λK4 k4=>?_
   refine gF (c:=⟨λt=>t==7,λ_=>[]⟩) Tz.mixed (by kernel_rfl) ?_
   simp [go_sem,seval,fr1,aA haA,Attr.c]
   repeat first|intro _|refine ⟨eL,?_⟩
   refine k4 _ _ _ ?_
   clear k4 K4
   have hh':=hh
   obtain ⟨dn,hdn⟩:=cW (λu v=>(F u v).isSome&&!left u v)
   rw [<- hdn] at hh'
   have hvl0:(yP F dn x0.values).length=x0.values.length:=sE ..
   have hnV:n<(yP F dn x0.values).length:=aD
   have hnQ:n<qs.length:=by rw [hh'.len];exact hnV
   obtain ⟨q,hq⟩:=cW (qs[n])
   obtain ⟨vr,hvr⟩:∃ v,v=(yP F dn x0.values)[n]:=⟨_,rfl⟩
   have g1:qs[n]?=some q:=by rw [aA hnQ,hq]
   have g2:(yP F dn x0.values)[n]?=some vr:=by rw [aA hnV,hvr]
   have hrow:=rW g1 g2
   have hgq:=hh'.gq _ _ _ g1 g2
   have hvrl:vr.length=(x0.values[n]?.getD []).length:=by rw [<- qR F dn x0.values n,g2];rfl
   have hwv:w<vr.length:=aD
   have hqin:q∈qs:=aK g1
   have hqr:=hh'.rng q (hh'.q_in hqin)
   have hrl:=jF hh'.len
   rw [<- hdn] at hgV
   have fr2:=b8 (aD:q<H.next)
   have hOB:yR t x0.graph co m.vars x=(decide (c<(bM t nd)[w].low)||decide ((bM t nd)[w].high<c)):=by
    unfold yR;rw [<- hn,hnd0,(aD:x.attr.toNat=w),aA haA,e3];rfl
   refine WpG.cond (t:=decide (c<(bM t nd)[w].low)||decide ((bM t nd)[w].high<c)) (by simp [go_sem]) (λhcT=>?_) (λhcF=>WpG.skip ?_)
   .refine dO λK5 k5=>?_
    refine gF (c:=⟨λt=>t==7,λ_=>[]⟩) Tz.mixed (by kernel_rfl) ?_
    simp [go_sem,seval]
    refine k5 _ _ _ ?_
    clear k5 K5
    refine WpG.ret ?_
    simp [go_sem,QD]
    have hT:l.any (yR t x0.graph co m.vars)=true:=aX.2 ⟨_,hxm,by rw [hOB];exact hcT⟩
    rw [if_pos hT] at hE0
    rw [hE0] at hQe
    refine hQe _ (by decide) (λj hj hjn=>?_) (by first|(simp [go_sem];done)|(simp [go_sem];omega))
    simp [go_sem,(aD:j≠H.next)];exact hG j hj hjn
   .simp only [go_sem]
    refine k2 _ _ _ ?_
    clear k2 K2
    refine gF (c:=⟨λt=>t==7,λ_=>[]⟩) Tz.mixed (by kernel_rfl) ?_
    have hnX:n<x0.values.length:=aD
    have hqd:=hh'.qn hqin
    simp [go_sem,seval,q1,hsg,hgV,fF,fr1,fr2,hrow,hgq,hrl,hvl0]
    refine ⟨hnX,hwv,?_⟩
    simp [go_sem,aA hwv,cI]
    repeat first|intro _|refine ⟨eL,?_⟩
    refine ⟨i',hlt,(hI _ _ _ _).2 ⟨_,_,rfl,by simp [go_sem,q1],by simp [go_sem,q2],by simp [go_sem,q22],?_,?_,?_,by first|(simp [go_sem];done)|(simp [go_sem];omega)⟩⟩
    .have hst:=QS F x0.values (dn:=dn) (dn':=λu v=>(F u v).isSome&&!(left u v&&(!decide (u=(n:Int))||!decide (v=(w:Int))))) hnX (by rw [<- hvrl];exact hwv) hFc (λn2 b2 _ _=>by
      rw [hdn]
      by_cases e1:n2=n
      .by_cases e2:b2=w
       .subst e1;subst e2;simp [hFc]
       .have e3':¬ ((b2:Int)=w):=aD
        subst e1;simp [e2,e3']
      .have e3':¬ ((n2:Int)=n):=aD
       simp [e1,e3'])
     rw [g2] at hst
     rw [<- hst]
     exact hh'.rowSet (by first|(simp [go_sem];done)|(simp [go_sem];omega)) g1 g2 bW (by simp [go_sem,hgq,bY,cI]) (λj hj hjq=>by
      have hj2:=(hh'.rng j hj).2
      simp [go_sem,hjq,(aD:j≠H.next)])
    .intro y hy hyf
     cases hL:left (lB co y) y.attr with
     | false=>exact hO y hy hL
     | true =>
      have hyy:lB co y=(n:Int)/\y.attr=(w:Int):=by rw [hL] at hyf;simpa using hyf
      have hsy:fI co y=n:=by rw [oW,hyy.1];rfl
      have hty:c8 y.term m.vars=c:=by rw [<- e3];exact OZ hcl y hy x hxm (by rw [hyy.1,e1]) (by rw [hyy.2,e2])
      unfold yR
      rw [hsy,hnd0,(aD:y.attr.toNat=w),aA haA,hty];exact hcF
    .intro j hj hjn
     simp [go_sem,(aD:j≠H.next),show j≠q from λe=>hjn (e ▸ hh'.q_in hqin)];exact hG j hj hjn
theorem Ua {d:List Int}(hd:d.Pairwise (· < ·)){n:Nat}{x:Int}(h0:0<=x)(hx:x<n)(hm:x∈d):∃ p:Nat,p<d.length/\(lM d n)[x.toNat]?=some (p:Int):=by
 obtain ⟨p,hp,rfl⟩:=aO hm
 refine ⟨p,hp,?_⟩
 rw [oH _ aD,show ((d[p].toNat:Nat):Int)=d[p] by omega,pG (qC hd) hp]
theorem SV {im d:List Int}{n:Nat}(hd:d.Pairwise (· < ·)){k:Int}(h0:0<=k)(hk:k<im.length)(hx:0<=iA im k/\iA im k<n)(hm:iA im k∈d):∃ p:Nat,p<d.length/\(oQ im (nF d n))[k.toNat]?.getD 0=p:=by
 obtain ⟨p,hp,he⟩:=Ua hd hx.1 hx.2 hm
 have hkn:k.toNat<im.length:=aD
 have e:iA im k=im[k.toNat]:=by unfold iA;rw [aA hkn];rfl
 refine ⟨p,hp,?_⟩
 unfold oQ nF
 rw [aN,aA hkn,dQ,Option.getD_some,<- e,he];rfl
theorem Jt {keep into at_:List Int}{rem:Nat}(hin:into.Nodup)(hl:keep.length=into.length)(hk:∀ k∈keep,∃ p:Nat,p<rem/\at_[k.toNat]?.getD 0=p)(i:Nat) :
  G2 keep into at_ rem i=((rem+(bJ into i).length:Nat):Int)↔mem into i=false:=by
 have hb:=JC hin (i:Int)
 have hle:=CD into i into.length
 unfold G2
 cases hm:mem into i with
 | true =>
  rw [hm] at hb
  have h0:¬ gA into into.length i<0:=by simpa using hb
  have hlt:(gA into into.length i).toNat<keep.length:=aD
  obtain ⟨p,hp,hq⟩:=hk _ (aC hlt)
  rw [if_pos aD,aA hlt,Option.getD_some,hq]
  constructor
  .intro e;omega
  .intro e;cases e
 | false =>
  rw [hm] at hb
  have h0:gA into into.length i<0:=by simpa using hb
  rw [if_neg aD,Kw hin];simp
theorem P9 {keep into at_:List Int}{right rem i:Nat}(h:i<right):(CQ keep into at_ right rem)[i]?.getD 0=G2 keep into at_ rem i:=by
 unfold CQ;simp [h]
section
variable {t:Types} {r:Rule} {h:Host} {m:Mat}
theorem StepIn.keptE (S:StepIn t r h m){k:Int}(hk:k∈r.keep.edges):iA m.m.edges k∈(bV r h m).edges:=by
 have hK:=S.hR.keep
 have hl:=S.hm.elen
 have hr:=hK.2.2.1 k hk
 have h1:=vH S.dup.2 hr.1 aD hk
 rw [S.rest]
 have h2:=S.hm.eimg k.toNat aD
 have e:iA m.m.edges k=m.m.edges[k.toNat]' aD:=by unfold iA;rw [aA aD];rfl
 exact gW.2 ⟨by rw [e];exact h2,h1⟩
theorem StepIn.kN (S:StepIn t r h m):∀ k∈r.keep.nodes,(0<=k/\k<m.m.nodes.length)/\(0<=iA m.m.nodes k/\iA m.m.nodes k<h.graph.nodes.length)/\∃ p:Nat,p<(bV r h m).nodes.length/\(oQ m.m.nodes (cO r h m).nodes)[k.toNat]?.getD 0=p:=λk hk=>by
 have hr:=S.hR.keep.2.1 k hk
 have hl:=S.hm.len
 have hi:=S.nin _ (S.keptN hk)
 exact ⟨aD,hi,SV S.nasc hr.1 aD hi (S.keptN hk)⟩
theorem StepIn.kE (S:StepIn t r h m):∀ k∈r.keep.edges,(0<=k/\k<m.m.edges.length)/\(0<=iA m.m.edges k/\iA m.m.edges k<h.graph.edges.length)/\∃ p:Nat,p<(bV r h m).edges.length/\(oQ m.m.edges (cO r h m).edges)[k.toNat]?.getD 0=p:=λk hk=>by
 have hr:=S.hR.keep.2.2.1 k hk
 have hl:=S.hm.elen
 have hi:=S.ein _ (S.keptE hk)
 exact ⟨aD,hi,SV S.easc hr.1 aD hi (S.keptE hk)⟩
theorem StepIn.frN (S:StepIn t r h m):∀ i,i<r.right.graph.nodes.length->((eY r h m).nodes[i]?.getD 0=(((bV r h m).nodes.length+(bJ r.into.nodes i).length:Nat):Int)↔mem r.into.nodes i=false):=λi hi=>by
 have:=Jt S.intoN.1 S.hR.keep.1.1 (λk hk=>(S.kN k hk).2.2) i
 unfold eY;simp only
 rw [P9 hi];exact this
theorem StepIn.frE (S:StepIn t r h m):∀ i,i<r.right.graph.edges.length->((eY r h m).edges[i]?.getD 0=(((bV r h m).edges.length+(bJ r.into.edges i).length:Nat):Int)↔mem r.into.edges i=false):=λi hi=>by
 have:=Jt S.intoN.2 S.hR.keep.1.2 (λk hk=>(S.kE k hk).2.2) i
 unfold eY;simp only
 rw [P9 hi];exact this
theorem StepIn.bdE (S:StepIn t r h m):bdE h (bV r h m) (cO r h m) (bV r h m).edges.length=⟨cY h.graph (bV r h m),(bV r h m).nodes.map λk=>h.values[k.toNat]?.getD []⟩:=by
 unfold Go.Abs.bdE cY
 rw [if_pos S.sub,aG (bC _)]
 congr 2
 refine bU λk hk=>?_
 obtain ⟨s1,s2⟩:=x9 S.sub hk
 have key:∀ v:Int,v∈(bV r h m).nodes->iA (cO r h m).nodes v=(uG (bV r h m).nodes v:Int):=λv hv=>by
  have hr:=S.nin v hv
  unfold iA cO nF
  simp only
  rw [oH _ aD,Option.getD_some,show ((v.toNat:Nat):Int)=v by omega,Du S.nasc,if_pos ((mem_iff _ _).2 hv)]
 unfold trE
 rw [key _ s1,key _ s2];rfl
theorem StepIn.grow (S:StepIn t r h m):jQ t r (eY r h m) (Go.Abs.bdE h (bV r h m) (cO r h m) (bV r h m).edges.length)=bZ t r h m:=by
 rw [S.bdE];rfl
end
theorem TG {t:Types}{r:Rule}{h:Host}{m:Mat}(h0:EB t r h m=0):fM t r.left.graph h.graph m.m r.inj=0/\(d9 t r.left h m.m).2=0/\(d9 t r.left h m.m).1=m.vars:=by
 unfold EB at h0
 split at h0
 .cases h0
 .rename_i h1
  split at h0
  .exact absurd h0 (by assumption)
  .rename_i h2
   split at h0
   .cases h0
   .rename_i h3
    exact ⟨by simpa using h1,by simpa using h2,by simpa using h3⟩
theorem SJ {t:Types}{r:Rule}(h:ruleF t r=0):condF t r.left r.cond=0:=by
 unfold ruleF at h
 split at h
 .exact absurd h (by assumption)
 .split at h
  .cases h
  .split at h
   .exact absurd h (by assumption)
   .split at h
    .exact absurd h (by assumption)
    .split at h
     .exact absurd h (by assumption)
     .split at h
      .cases h
      .exact h
def v6 (t:Types)(r:Rule)(h:Host)(m:Mat):Stp26:=if k8 t r h m=0 then bG t r h m else kJ
theorem UW {P:Program}{f:FuncId}{args:List D}{r:D}(hcl:r.cl=true)(h:∀ Q:D->AHeap->Prop,(∀ d H',(iS H' d).cl=true->(iS H' d=r\/RG (iS H' d)=r)->Q d H')->ACalls P f args .emp Q):Pure P f args r:=by
 refine PH hcl λQ hq=>ACalls.deep (h _ λd H' hc hr=>hq _ _ ?_)
 rw [PA _ hc];exact hr
theorem N3 (t:Types)(ht:t.ok)(r:Rule)(hr:r.ok)(hr0:ruleF t r=0)(h:Host)(hh0:iG t h=0)(m:Mat):Pure Tryz.prog 58 [t.d,r.d,h.d,m.d] (.tup [.agg (v6 t r h m).c,dI (k8 t r h m)]):=by
 refine UW (by simp [go_sem,D.cl,D.clL,Stp26.cl]) λQ hQ=>?_
 have hR:=Pz hr hr0
 have ho:=sM hh0
 have hcF:=SJ hr0
 refine (aJ (cfg:=⟨λt=>t==8||t==11||t==13||t==15,λr=>match r with|15=>[(0,2),(2,3),(0,4),(0,6),(1,6),(2,6),(3,6),(4,6)]|16=>[(6,7),(6,8),(6,9),(6,10),(6,11),(6,12)]|17=>[(20,21),(20,22),(20,23),(20,24),(20,25),(20,26),(20,27),(20,28),(20,29),(20,30),(20,31),(20,32),(20,33),(20,34),(20,35),(20,36),(20,37),(20,38),(20,39),(20,40)]|_=>[]⟩) Tz.mixed Tryz.func58 rfl rfl (aF rfl) (by kernel_rfl) ?_)
 have Y:=wa @Host.d.eq_1 (wa @Host.c.eq_1 (wa @Mat.d.eq_1 @Mat.c.eq_1))
 refine wv (h:=aB (JR t ht r h m) wl ?_)
 refine dP (λh2=>?_) λh2=>?_
 .have hA:k8 t r h m=EB t r h m:=by unfold k8 lQ;rw [Mp,if_pos h2];simp [h2]
  have hV:v6 t r h m=kJ:=by unfold v6;rw [if_neg aD]
  refine wv (h:=?_)
  refine hQ _ _ (by simp [go_sem,iS,jW,pN,fG,D.cl,D.clL]) (by first|(left;(simp [go_sem,iS,jW,pN,fG,hA,hV,kJ,jN,nZ,iO,Stp26.c,Rule.c,Mat.c,Host.c,Cond.kind,Cond.kids,Cond.map,Cond.pattern,dLI,dI]);done)|(right;(simp [go_sem,iS,jW,pN,fG,hA,hV,kJ,jN,nZ,iO,Stp26.c,Rule.c,Mat.c,Host.c,Cond.kind,Cond.kids,Cond.map,Cond.pattern,dLI,dI]);done))
 .have hp0:q6 t r h m=rG (l4 r.left.graph h.graph m.m) h.graph r.keep m.m:=by rw [Mp,if_neg aD]
  obtain ⟨hck,hso,hsv⟩:=TG (aD:EB t r h m=0)
  have hck0:=Pe hck
  have hin:Al t r.left.graph h.graph m.m=l4 r.left.graph h.graph m.m:=by unfold Al;rw [if_pos hck0]
  have hmk:=sI (r4 hck0).2
  have hgl:=bS hR.pl.gg
  have hgr:=bS hR.gr
  have hgh:=bS ho.gg
  have hml:=hmk.len
  have hmel:=hmk.elen
  have hkl:=hR.kl
  have hvh:=ho.vl
  have hrw:∀ v∈h.values,v.length<=100000:=λv hv=>by have:=(ho.row v hv).1;omega
  have Y:=wa Y (wa hck0 hin)
  refine wv (h:=aB (Ew t ht r.left.graph h.graph m.m) wl ?_)
  refine wv (h:=aB (Ie (l4 r.left.graph h.graph m.m) h.graph r.keep m.m aD aD aD aD aD) wl ?_)
  refine dP (λh8=>?_) λh8=>?_
  .have hpe:q6 t r h m≠0:=aD
   have hA:k8 t r h m=q6 t r h m:=by unfold k8 lQ;rw [if_pos hpe,if_pos hpe]
   have hV:v6 t r h m=kJ:=by unfold v6;rw [if_neg aD]
   refine wv (h:=?_)
   refine hQ _ _ (by simp [go_sem,iS,jW,pN,fG,D.cl,D.clL]) (by first|(left;(simp [go_sem,iS,jW,pN,fG,hA,hp0,hV,kJ,jN,nZ,iO,Stp26.c,Rule.c,Mat.c,Host.c,Cond.kind,Cond.kids,Cond.map,Cond.pattern,dLI,dI]);done)|(right;(simp [go_sem,iS,jW,pN,fG,hA,hp0,hV,kJ,jN,nZ,iO,Stp26.c,Rule.c,Mat.c,Host.c,Cond.kind,Cond.kids,Cond.map,Cond.pattern,dLI,dI]);done))
  .have hpre:q6 t r h m=0:=aD
   have S:=N5 hR ho hpre
   have hMat:=I8 S hpre
   have hP:sP (l4 r.left.graph h.graph m.m) h.graph r.keep m.m=bV r h m:=rfl
   have hcg:T7 t r.left r.cond h m r.inj=0:=by
    unfold T7;rw [if_neg aD,if_neg aD,if_neg aD,if_neg aD,if_neg (by rw [hsv];simp)]
   have hS1:lQ t r h m=if (nS t h r.inj r.cond m).2≠0 then (nS t h r.inj r.cond m).2 else if (nS t h r.inj r.cond m).1=false then 16 else 0:=by unfold lQ;rw [if_neg aD]
   have Y:=wa Y hP
   refine wv (h:=aB ((by have hq:=Ao t ht r.left r.cond hr.cond hR.cond hR.pl h ho m hMat r.inj hcg;simp only [Cond.c_eq] at hq;unfold Types.d Types.c Pattern.d Pattern.c Host.d Host.c Mat.d Mat.c dLI dI at hq;exact hq)) wl ?_)
   refine dP (λh11=>?_) λh11=>?_
   .have hA:k8 t r h m=(nS t h r.inj r.cond m).2:=by unfold k8;rw [hS1,if_pos h11];simp [h11]
    have hV:v6 t r h m=kJ:=by unfold v6;rw [if_neg aD]
    refine wv (h:=?_)
    refine hQ _ _ (by simp [go_sem,iS,jW,pN,fG,D.cl,D.clL]) (by first|(left;(simp [go_sem,iS,jW,pN,fG,hA,hV,kJ,jN,nZ,iO,Stp26.c,Rule.c,Mat.c,Host.c,Cond.kind,Cond.kids,Cond.map,Cond.pattern,dLI,dI]);done)|(right;(simp [go_sem,iS,jW,pN,fG,hA,hV,kJ,jN,nZ,iO,Stp26.c,Rule.c,Mat.c,Host.c,Cond.kind,Cond.kids,Cond.map,Cond.pattern,dLI,dI]);done))
   .refine rT (λh13=>?_) λh13=>?_
    .have hA:k8 t r h m=16:=by
      have:(nS t h r.inj r.cond m).1=false:=by simpa using h13
      have hps:lQ t r h m=16:=by rw [hS1,if_neg aD,if_pos this]
      unfold k8;rw [if_pos aD,hps]
     have hV:v6 t r h m=kJ:=by unfold v6;rw [if_neg aD]
     refine wv (h:=?_)
     refine hQ _ _ (by simp [go_sem,iS,jW,pN,fG,D.cl,D.clL]) (by first|(left;(simp [go_sem,iS,jW,pN,fG,hA,hV,kJ,jN,nZ,iO,Stp26.c,Rule.c,Mat.c,Host.c,Cond.kind,Cond.kids,Cond.map,Cond.pattern,dLI,dI]);done)|(right;(simp [go_sem,iS,jW,pN,fG,hA,hV,kJ,jN,nZ,iO,Stp26.c,Rule.c,Mat.c,Host.c,Cond.kind,Cond.kids,Cond.map,Cond.pattern,dLI,dI]);done))
    .have hps:lQ t r h m=0:=by
      have h13':(nS t h r.inj r.cond m).1=true:=by simpa using h13
      rw [hS1,if_neg aD,if_neg (by rw [h13'];simp)]
     have hK:=hR.keep
     have hkN:=S.kN
     have hkE:=S.kE
     obtain ⟨tr,htr⟩:=cW (cO r h m)
     obtain ⟨cm,hcm⟩:=cW (eY r h m)
     have hT1:nF (bV r h m).nodes h.graph.nodes.length=tr.nodes:=by rw [htr];rfl
     have hT2:nF (bV r h m).edges h.graph.edges.length=tr.edges:=by rw [htr];rfl
     have htl1:tr.nodes.length=h.graph.nodes.length:=by rw [<- hT1];exact lL _ _
     have htl2:tr.edges.length=h.graph.edges.length:=by rw [<- hT2];exact lL _ _
     rw [<- htr] at hkN hkE
     have hC1:CQ r.keep.nodes r.into.nodes (oQ m.m.nodes tr.nodes) r.right.graph.nodes.length (bV r h m).nodes.length=cm.nodes:=by rw [hcm,htr];rfl
     have hC2:CQ r.keep.edges r.into.edges (oQ m.m.edges tr.edges) r.right.graph.edges.length (bV r h m).edges.length=cm.edges:=by rw [hcm,htr];rfl
     have hdl:=S.len
     have hvl:=hMat.vl
     have hvs:Sm m.vars:=λv hv=>by have:=hMat.vs v hv;omega
     have hvv:=hR.pl.vars
     have hcl1:cm.nodes.length=r.right.graph.nodes.length:=by rw [hcm];simp [eY,CQ]
     have hcl2:cm.edges.length=r.right.graph.edges.length:=by rw [hcm];simp [eY,CQ]
     have hfN:=S.frN
     have hfE:=S.frE
     have hB:=S.grow
     rw [<- hcm] at hfN hfE hB
     rw [<- htr] at hB
     have Y:=wa Y (wa hT1 (wa hT2 (wa hC1 hC2)))
     refine wv (h:=aI (Fr m aD aD aD) wl ?_)
     refine wv (h:=aI (Hx h aD aD aD hrw) wl ?_)
     refine wp (h:=aI (Fp h.graph.nodes.length aD (bV r h m).nodes S.nasc aD) wl ?_)
     refine wp (h:=aI (Fp h.graph.edges.length aD (bV r h m).edges S.easc aD) wl ?_)
     refine wp (h:=aI (BA r.right.graph.nodes.length aD r.keep.nodes r.into.nodes m.m.nodes tr.nodes (bV r h m).nodes.length aD aD hK.2.2.2.1 (λx hx=>(hkN x hx).1) (λx hx=>by have:=(hkN x hx).2.1;omega) (λx hx=>by obtain ⟨p,_,hp⟩:=(hkN x hx).2.2;omega)) wl ?_)
     refine wp (h:=aI (BA r.right.graph.edges.length aD r.keep.edges r.into.edges m.m.edges tr.edges (bV r h m).edges.length aD aD hK.2.2.2.2 (λx hx=>(hkE x hx).1) (λx hx=>by have:=(hkE x hx).2.1;omega) (λx hx=>by obtain ⟨p,_,hp⟩:=(hkE x hx).2.2;omega)) wl ?_)
     refine wp (h:=?_)
     refine wS (.step (.step (.step (.refl _) 9 0 31 3 1 _ _ (by simp [go_sem];rfl) rfl rfl rfl) 9 0 32 122 3 _ _ (by simp [go_sem];rfl) rfl rfl rfl) 9 0 33 26 1 _ _ (by simp [go_sem];rfl) rfl rfl rfl) ?_
     simp [go_sem]
     unfold fL
     refine N2 t ht r hR m h ho (bV r h m) tr cm S.nin S.ein hdl htl1 ⟨hcl1,hcl2⟩ hfN hfE 9 73 74 75 _ (by simp [go_sem,fF,dLI]) ⟨by simp [go_sem],by simp [go_sem],by simp [go_sem,k9],rfl,λi q v h1 _=>by simp at h1,by simp,λq hq=>by simp at hq;rcases hq with rfl|rfl|rfl<;>simp [go_sem]⟩ (by simp [go_sem]) bW (λj hj hA=>?_) _ (λqs H1 hH1 hs1 hq1 hq2 hf1 hn1=>?_)
     .simp [go_sem,pH,sX,JF,Hh] at hA hj;omega
     rw [hB] at hH1 hs1
     have hn1':76<=H1.next:=by simp [go_sem] at hn1;omega
     have k0:=hf1 0 (by simp [go_sem]) bW
     simp [go_sem] at k0
     have hq0:∀ j,j<73->j∉73 :: 74 :: 75 :: qs:=λj hj hm=>by
      simp only [aU] at hm
      rcases hm with h|h|h|h
      .omega
      .omega
      .omega
      .have:=hq2 j h;simp [go_sem] at this;omega
     refine wp (h:=?_)
     unfold fL
     refine Qv t ht r hR m h (bZ t r h m) tr cm (hcm ▸ S.put) hvl hvs H1 9 73 74 75 qs hs1 hH1 hq1 aD _ (λH2 hE2 hf2 hn2=>?_) (λH2 hE2 hH2 hf2 hn2=>?_)
     .have m0:=(hf2 0 aD (hq0 0 aD)).trans k0
      have hA:k8 t r h m=s7 t (bZ t r h m).graph cm m.vars r.right.slots:=by unfold k8;rw [if_neg aD,<- hcm,if_pos hE2]
      have hV:v6 t r h m=kJ:=by unfold v6;rw [if_neg aD]
      simp [go_sem,seval,m0]
      refine aP (λhc=>?_) (λhc=>absurd (bX hc) hE2)
      simp [go_sem,seval,m0]
      refine hQ _ _ (by simp [go_sem,iS,jW,pN,fG,D.cl,D.clL]) (by first|(left;(simp [go_sem,iS,jW,pN,fG,hA,hV,kJ,jN,nZ,iO,Stp26.c,Rule.c,Mat.c,Host.c,Cond.kind,Cond.kids,Cond.map,Cond.pattern,dLI,dI]);done)|(right;(simp [go_sem,iS,jW,pN,fG,hA,hV,kJ,jN,nZ,iO,Stp26.c,Rule.c,Mat.c,Host.c,Cond.kind,Cond.kids,Cond.map,Cond.pattern,dLI,dI]);done))
     have m0:=(hf2 0 aD (hq0 0 aD)).trans k0
     have m9:=(hf2 9 aD (hq0 9 aD)).trans hs1
     simp only [fF] at m9
     have m73:H2.get 73=some ⟨3,1,(bZ t r h m).graph.nodes.map cI,false⟩:=hH2.ga
     have m74:H2.get 74=some ⟨122,3,(bZ t r h m).graph.edges.map Edge.c,false⟩:=hH2.gb
     have Y:=wa Y (wa m0 (wa m9 (wa m73 m74)))
     refine rT (λh22=>?_) λh22=>?_
     .have hA:k8 t r h m=3:=by
       unfold k8;rw [if_neg aD,<- hcm,if_neg aD,if_pos (by first|exact h22|omega)]
      have hV:v6 t r h m=kJ:=by unfold v6;rw [if_neg aD]
      refine wv (h:=?_)
      refine hQ _ _ (by simp [go_sem,iS,jW,pN,fG,D.cl,D.clL]) (by first|(left;(simp [go_sem,iS,jW,pN,fG,hA,hV,kJ,jN,nZ,iO,Stp26.c,Rule.c,Mat.c,Host.c,Cond.kind,Cond.kids,Cond.map,Cond.pattern,dLI,dI]);done)|(right;(simp [go_sem,iS,jW,pN,fG,hA,hV,kJ,jN,nZ,iO,Stp26.c,Rule.c,Mat.c,Host.c,Cond.kind,Cond.kids,Cond.map,Cond.pattern,dLI,dI]);done))
     .have hA:k8 t r h m=0:=by
       unfold k8;rw [if_neg aD,<- hcm,if_neg aD,if_neg (by first|exact h22|omega)]
      have hV:v6 t r h m=bG t r h m:=by unfold v6;rw [if_pos hA]
      have hW:cT t r h m=⟨(bZ t r h m).graph,uE cm m.vars r.right.slots (bZ t r h m).values⟩:=by rw [hcm];rfl
      have hvl5:=(oZ cm m.vars r.right.slots (bZ t r h m).values).1
      have fin:∀ k:Blk,Q (.tup [.agg (fF r m h (.own 73 (bZ t r h m).graph.nodes.length) (.own 74 (bZ t r h m).graph.edges.length) (.own 75 (bZ t r h m).values.length) tr cm),dI 0]) (H2.put 0 k):=λk=>by
       obtain ⟨E,hE⟩:=cW (H2.put 0 k)
       have h5:HH E 0 73 74 75 qs (cT t r h m):=by
        rw [hW];exact hH2.same (by rw [hE];simp [go_sem]) (λj hj=>by
         have hj0:j≠0:=λe=>hq0 0 aD (e ▸ hj)
         rw [hE];simp [go_sem,hj0])
       have hd:=h5.deep
       have e1:(cT t r h m).graph.nodes.length=(bZ t r h m).graph.nodes.length:=by rw [hW]
       have e2:(cT t r h m).graph.edges.length=(bZ t r h m).graph.edges.length:=by rw [hW]
       have e3:(cT t r h m).values.length=(bZ t r h m).values.length:=by rw [hW];exact hvl5
       rw [e1,e2,e3] at hd
       simp only [jW,g9,jD,Host.d,Host.c,D.agg.injEq,List.cons.injEq,and_true] at hd
       obtain ⟨d1,d2,d3⟩:=hd
       have key:iS E (.tup [.agg (fF r m h (.own 73 (bZ t r h m).graph.nodes.length) (.own 74 (bZ t r h m).graph.edges.length) (.own 75 (bZ t r h m).values.length) tr cm),dI 0])=.tup [.agg (v6 t r h m).c,dI (k8 t r h m)]:=by
        rw [hA,hV]
        simp only [iS,jW,fF,g9,jD,d1,d2,d3]
        simp [jW,pN,fG,bG,Stp26.c,Rule.c,Mat.c,Host.c,dLI,dI,htr,hcm]
       rw [<- hE]
       exact hQ _ _ (by rw [key];simp [go_sem,D.cl,D.clL,Stp26.cl]) (.inl key)
      refine wv (h:=?_)
      exact fin _
theorem Dj {t:Types}{r:Rule}{h:Host}(h0:iJ t r h=0):ruleF t r=0/\iG t h=0:=by
 unfold iJ at h0
 split at h0
 .exact absurd h0 (by assumption)
 .rename_i h1;exact ⟨by simpa using h1,h0⟩
theorem JS (t:Types)(ht:t.ok)(r:Rule)(hr:r.ok)(hr0:ruleF t r=0)(h:Host)(hh0:iG t h=0)(m:Mat){v:Stp26}{e:Int}(hv:v=v6 t r h m)(he:e=k8 t r h m):Pure Tryz.prog 58 [t.d,r.d,h.d,m.d] (.tup [.agg v.c,dI e]):=by
 subst hv he;exact N3 t ht r hr hr0 h hh0 m
theorem Ft (t:Types)(ht:t.ok)(r:Rule)(hr:r.ok)(h:Host)(m:Mat):Pure Tryz.prog 15 [t.d,r.d,h.d,m.d] (.tup [.agg (fU t r h m).c,dI (nT t r h m)]):=by
 obtain ⟨v,hv⟩:=cW (v6 t r h m)
 obtain ⟨e,he⟩:=cW (k8 t r h m)
 refine Tz.pK ⟨λt=>t==8,λ_=>[]⟩ Tryz.func15 rfl (λQ hQ=>?_)
 have Y:=wa @Host.d.eq_1 (wa @Host.c.eq_1 (wa @Mat.d.eq_1 (wa @Mat.c.eq_1 @Stp26.c.eq_1)))
 refine wv (h:=aB (N0 t ht r hr h) wl ?_)
 refine dP (λh2=>?_) λh2=>?_
 .have hA:nT t r h m=iJ t r h:=by unfold nT;rw [if_pos h2]
  have hV:fU t r h m=kJ:=by unfold fU;rw [if_neg aD]
  exact wv (h:=hQ _ _ (by simp [go_sem,hA,hV,kJ,jN,nZ,iO,Stp26.c,Rule.c,Mat.c,Host.c,Cond.kind,Cond.kids,Cond.map,Cond.pattern,dLI,dI]))
 .have hz:=Dj (aD:iJ t r h=0)
  have hA:nT t r h m=e:=by rw [he];unfold nT;rw [if_neg aD]
  have hV:fU t r h m=v:=by rw [hv];unfold fU v6;rw [hA,he]
  refine wv (h:=aB ((by have hq:=JS t ht r hr hz.1 h hz.2 m hv he;simp only [Stp26.c,Rule.c,Mat.c,Host.c,cX,cZ] at hq;unfold Mat.d Mat.c Host.d Host.c dLI at hq;exact hq)) wl ?_)
  exact wv (h:=hQ _ _ (by simp [go_sem,hA,hV,Stp26.c,Rule.c,Mat.c,Host.c]))
theorem Kf (t:Types)(h1:∀ n∈t.nodes,n.attrs.length<=1000000000000000)(r:Rule)(hr:r.le)(h:Host):Pure Tryz.prog 13 [t.d,r.d,h.d] (.bool (light26 t r h)):=by
 refine Tz.pK ⟨λ_=>false,λ_=>[]⟩ Tryz.func13 rfl (λQ hQ=>?_)
 have Y:=wa @Host.c.eq_1 (wa @Rule.c.eq_1 @Cond.c_eq)
 refine wo (h:=aB (C8 t h1) wl ?_)
 refine wo (h:=aH (λhg=>(by have hz:=QK r hr;simpa [Rule.d,Rule.c,Cond.c_eq,go_sem] using hz)) (λhg=>wl) ?_)
 refine wo (h:=aH (λhg=>(by have hz:=L5 t (Cn (by simp at hg;exact hg.1)) r.left r.cond hr.cond h;rwa [Cond.c_eq] at hz)) (λhg=>wl) ?_)
 have Y:=wa Y @light26.eq_1
 exact wo (h:=hQ _ _ wy)
theorem OL {t:Types}{r:Rule}{h:Host}(hL:light26 t r h=true):t.ok/\r.ok:=by
 unfold light26 at hL
 simp only [aQ] at hL
 exact ⟨Cn hL.1.1,KP hL.1.2⟩
theorem Sb (l:List ByteArray):eQ (l.map cS)=l.map cS:=lI λc hc=>by
 rw [bB] at hc;obtain ⟨x,_,rfl⟩:=hc;rfl
theorem Q2 (l:List Attr):eQ (l.map Attr.c)=l.map Attr.c:=lI λc hc=>by
 rw [bB] at hc;obtain ⟨x,_,rfl⟩:=hc
 simp [Attr.c,i6,l8,s9,dI,Sb]
theorem IS (l:List NodeTy):eQ (l.map NodeTy.c)=l.map NodeTy.c:=lI λc hc=>by
 rw [bB] at hc;obtain ⟨x,_,rfl⟩:=hc
 simp [NodeTy.c,i6,l8,dI,Q2]
theorem D1 (l:List EdgeTy):eQ (l.map EdgeTy.c)=l.map EdgeTy.c:=lI λc hc=>by
 rw [bB] at hc;obtain ⟨x,_,rfl⟩:=hc
 simp [EdgeTy.c,i6,l8,dI]
theorem Pure.nzk {P:Program}{f:FuncId}{args args':List D}{r:D}(hp:Pure P f args' r)(ha:args.map l8=args'):Pure P f args r:=by
 subst ha
 refine ⟨hp.1,λM w vals hM hv=>hp.2 M w vals hM ⟨by simpa using hv.len,λj u d hu hd=>?_⟩⟩
 rw [aN,bR] at hd
 obtain ⟨y,hy,rfl⟩:=hd
 exact PQ (hv.rep j u y hu hy)
def exT:Types:=⟨[⟨⟨#[65,99,99,111,117,110,116]⟩,-1,true,[⟨⟨#[98,97,108,97,110,99,101]⟩,-1000,1000,[]⟩]⟩,⟨⟨#[67,97,115,104]⟩,0,false,[]⟩,⟨⟨#[76,111,97,110]⟩,0,false,[⟨⟨#[115,116,97,116,101]⟩,0,1,[⟨#[111,112,101,110]⟩,⟨#[99,108,111,115,101,100]⟩]⟩]⟩,⟨⟨#[80,101,114,115,111,110]⟩,-1,false,[]⟩],
 [⟨⟨#[111,119,110,115]⟩,3,0,0,-1,1,1⟩,⟨⟨#[112,97,121,115]⟩,1,1,0,-1,0,-1⟩]⟩
theorem AG:Pure Tryz.prog 51 [] exT.d:=by
 refine uF (by first|rfl|(simp [go_sem];done)) (λQ hQ=>(aJ (cfg:=⟨λt=>t==0,λ_=>[]⟩) Tz.mixed Tryz.func51 rfl rfl (aF rfl) (by kernel_rfl) ?_))
 have Y:=trivial
 refine pM (h:=?_)
 exact hQ _ _ (by simp [go_sem,exT,Types.d,Types.c,NodeTy.c,EdgeTy.c,Attr.c,s9,cS,dI])
theorem P3:uK exT=true:=by decide +kernel
theorem w3 (a:List Int):Pure Tryz.prog 96 [dLI a,dLI a] (.bool true):=by
 refine Tz.pK ⟨λ_=>false,λ_=>[]⟩ Tryz.func96 rfl (λQ hQ=>?_)
 have Y:=trivial
 refine wo (h:=bD (λi e H=>(e 0=dLI a/\e 1=dLI a/\e 5=dI i)/\(i<=a.length)) (λi=>a.length - i) 0 ⟨wg,wi⟩ λI0 hI0 i e H hi0=>?_)
 obtain ⟨E0,hi⟩:=hi0
 have Y:=wa Y E0
 refine wv (h:=?_)
 repeat first|intro _|refine ⟨eO,?_⟩
 refine wq (λh4=>?_) λh4=>?_
 .have Y:=wa Y (wa h4 (aA h4))
  exact wo (h:=wx hI0 (i+1) ⟨wg,wj⟩)
 .have Y:=wa Y h4
  exact wv (h:=hQ _ _ wy)
theorem DU (p:Part):Pure Tryz.prog 33 [p.d,p.d] (.bool true):=by
 refine Tz.pK ⟨λ_=>false,λ_=>[]⟩ Tryz.func33 rfl (λQ hQ=>?_)
 have Y:=trivial
 refine wo (h:=aB (w3 p.nodes) wl ?_)
 refine wo (h:=aH (λhg=>w3 p.edges) (λhg=>wl) ?_)
 exact wo (h:=hQ _ _ wy)
deriving instance DecidableEq for Edge
deriving instance DecidableEq for Graph
deriving instance DecidableEq for Part
deriving instance DecidableEq for Host
deriving instance DecidableEq for Mat
theorem Jr {x y:Edge}(h:x.type=y.type/\x.from_=y.from_/\x.to_=y.to_):x=y:=by
 obtain ⟨a,b,c⟩:=x;obtain ⟨d,e,f⟩:=y
 obtain ⟨rfl,rfl,rfl⟩:=h;rfl
theorem BY (a b:Part):decide (a=b)=(decide (a.nodes=b.nodes)&&decide (a.edges=b.edges)):=by
 rw [aR];cases a;cases b;simp
theorem Cl (a b:Graph):decide (a=b)=(decide (a.nodes=b.nodes)&&decide (a.edges=b.edges)):=by
 rw [aR];cases a;cases b;simp
theorem Sf (a b:Mat):decide (a=b)=(decide (a.m=b.m)&&decide (a.vars=b.vars)):=by
 rw [aR];cases a;cases b;simp
theorem PX (a b:Host):decide (a=b)=(decide (a.graph=b.graph)&&decide (a.values=b.values)):=by
 rw [aR];cases a;cases b;simp
theorem lH (a b:List Int):Pure Tryz.prog 99 [dLI a,dLI b] (.bool (decide (a=b))):=by
 refine Tz.pK ⟨λ_=>false,λ_=>[]⟩ Tryz.func99 rfl (λQ hQ=>?_)
 have Y:=trivial
 refine wv (h:=?_)
 repeat first|intro _|refine ⟨eO,?_⟩
 refine wq (λh1=>?_) λh1=>?_
 .refine wv (h:=?_)
  have hne:a≠b:=by intro h;subst h;omega
  exact hQ _ _ (by simp [go_sem,hne])
 .refine wv (h:=bD (λi e H=>(e 0=dLI a/\e 1=dLI b/\e 5=dI i)/\(i<=a.length)/\(a.take i=b.take i)) (λi=>a.length - i) 0 ⟨wg,wi,(by rfl)⟩ λI0 hI0 i e H hi0=>?_)
  obtain ⟨E0,hi,he⟩:=hi0
  have Y:=wa Y E0
  refine wv (h:=?_)
  repeat first|intro _|refine ⟨eO,?_⟩
  refine wq (λh4=>?_) λh4=>?_
  .have hib:i<b.length:=aD
   have Y:=wa Y (wa h4 hib)
   refine wv (h:=?_)
   repeat first|intro _|refine ⟨eO,?_⟩
   refine wq (λh6=>?_) λh6=>?_
   .refine wv (h:=?_)
    have hne:a≠b:=by intro h;subst h;exact h6 rfl
    exact hQ _ _ (by simp [go_sem,hne])
   .exact wo (h:=wx hI0 (i+1) ⟨wg,wj,(by rw [aE h4,aE hib,he,h6])⟩)
  .rw [aG aD,aG aD] at he
   exact wv (h:=hQ _ _ (by simp [go_sem,he]))
theorem DV (a b:Graph):Pure Tryz.prog 106 [a.d,b.d] (.bool (decide (a=b))):=by
 refine Tz.pK ⟨λ_=>false,λ_=>[]⟩ Tryz.func106 rfl (λQ hQ=>?_)
 have Y:=trivial
 refine wo (h:=aB (lH a.nodes b.nodes) wl ?_)
 refine wv (h:=?_)
 repeat first|intro _|refine ⟨eO,?_⟩
 refine wq (λh1=>?_) λh1=>?_
 .refine wv (h:=?_)
  have hne:a≠b:=by intro h;subst h;simp at h1
  exact hQ _ _ (by simp [go_sem,hne])
 .have hab:a.nodes=b.nodes/\a.edges.length=b.edges.length:=by (try simp at h1);obtain ⟨q1,q2⟩:=h1;exact ⟨q1,aD⟩
  refine wv (h:=bD (λi e H=>(e 2=.adr a.c/\e 3=.adr b.c/\e 5=dI i)/\(i<=a.edges.length)/\(a.edges.take i=b.edges.take i)) (λi=>a.edges.length - i) 0 ⟨wg,wi,(by rfl)⟩ λI0 hI0 i e H hi0=>?_)
  obtain ⟨E0,hi,he⟩:=hi0
  have Y:=wa Y E0
  refine wv (h:=?_)
  repeat first|intro _|refine ⟨eO,?_⟩
  refine wq (λh4=>?_) λh4=>?_
  .have hib:i<b.edges.length:=aD
   have Y:=wa Y (wa h4 (wa (aA h4) (aA hib)))
   refine wv (h:=?_)
   repeat first|intro _|refine ⟨eO,?_⟩
   refine wq (λh6=>?_) λh6=>?_
   .refine wv (h:=?_)
    have hne:a≠b:=by intro h;subst h;simp at h6
    exact hQ _ _ (by simp [go_sem,hne])
   .exact wo (h:=wx hI0 (i+1) ⟨wg,wj,(by rw [aE h4,aE hib,he,Jr h6])⟩)
  .have hE:a.edges=b.edges:=by rw [aG aD,aG aD] at he;exact he
   exact wv (h:=hQ _ _ (by simp [go_sem,Cl,hab.1,hE]))
theorem tL (a b:Part):Pure Tryz.prog 33 [a.d,b.d] (.bool (decide (a=b))):=by
 refine Tz.pK ⟨λ_=>false,λ_=>[]⟩ Tryz.func33 rfl (λQ hQ=>?_)
 have Y:=trivial
 refine wo (h:=aB (sD a.nodes b.nodes) wl ?_)
 refine wo (h:=aH (λhg=>sD a.edges b.edges) (λhg=>wl) ?_)
 have Y:=wa Y @BY
 exact wo (h:=hQ _ _ wy)
theorem Mg (a b:Part):Pure Tryz.prog 94 [a.d,b.d] (.bool (decide (a=b))):=by
 refine Tz.pK ⟨λ_=>false,λ_=>[]⟩ Tryz.func94 rfl (λQ hQ=>?_)
 have Y:=trivial
 refine wo (h:=aB (lH a.nodes b.nodes) wl ?_)
 refine wo (h:=aH (λhg=>lH a.edges b.edges) (λhg=>wl) ?_)
 have Y:=wa Y @BY
 exact wo (h:=hQ _ _ wy)
theorem C6 (a b:Mat):Pure Tryz.prog 67 [a.d,b.d] (.bool (decide (a=b))):=by
 refine Tz.pK ⟨λ_=>false,λ_=>[]⟩ Tryz.func67 rfl (λQ hQ=>?_)
 have Y:=wa @Mat.d.eq_1 @Mat.c.eq_1
 refine wo (h:=aB (lH a.m.nodes b.m.nodes) wl ?_)
 refine wo (h:=aH (λhg=>lH a.m.edges b.m.edges) (λhg=>wl) ?_)
 refine wo (h:=aH (λhg=>lH a.vars b.vars) (λhg=>wl) ?_)
 have Y:=wa Y (wa @Sf @BY)
 exact wo (h:=hQ _ _ wy)
def zO (a b:List Int):Prop:=∃ k:Int,Pure Tryz.prog 107 [dLI a,dLI b] (dI k)/\(k=0↔a=b)
theorem F1 (a:List Int):Pure Tryz.prog 107 [dLI a,dLI a] (dI 0):=by
 refine Tz.pK ⟨λ_=>false,λ_=>[]⟩ Tryz.func107 rfl (λQ hQ=>?_)
 have Y:=trivial
 refine wv (h:=bD (λi e H=>(e 0=dLI a/\e 1=dLI a/\e 5=dI i)/\(i<=a.length)) (λi=>a.length - i) 0 ⟨wg,wi⟩ λI0 hI0 i e H hi0=>?_)
 obtain ⟨E0,hi⟩:=hi0
 have Y:=wa Y E0
 refine wv (h:=?_)
 repeat first|intro _|refine ⟨eO,?_⟩
 refine wq (λh2=>?_) λh2=>?_
 .have Y:=wa Y (wa h2 (aA h2))
  exact wo (h:=wx hI0 (i+1) ⟨wg,wj⟩)
 .have Y:=wa Y h2
  exact wo (h:=hQ _ _ wy)
theorem Bj (a:List Int):zO a a:=⟨0,F1 a,by simp⟩
theorem tJ (a b:Host)(hC:∀ i (h1:i<a.values.length) (h2:i<b.values.length),zO a.values[i] b.values[i]):Pure Tryz.prog 42 [a.d,b.d] (.bool (decide (a=b))):=by
 refine Tz.pK ⟨λ_=>false,λ_=>[]⟩ Tryz.func42 rfl (λQ hQ=>?_)
 have Y:=wa @Host.d.eq_1 @Host.c.eq_1
 refine wo (h:=aB (DV a.graph b.graph) wl ?_)
 refine wv (h:=?_)
 repeat first|intro _|refine ⟨eO,?_⟩
 refine wq (λh1=>?_) λh1=>?_
 .refine wv (h:=?_)
  have hne:a≠b:=by intro h;subst h;simp at h1
  exact hQ _ _ (by simp [go_sem,hne])
 .have hab:a.graph=b.graph/\a.values.length=b.values.length:=by (try simp at h1);obtain ⟨q1,q2⟩:=h1;exact ⟨q1,aD⟩
  refine wv (h:=bD (λi e H=>(e 2=.adr a.c/\e 3=.adr b.c/\e 5=dI i)/\(i<=a.values.length)/\(a.values.take i=b.values.take i)) (λi=>a.values.length - i) 0 ⟨wg,wi,(by rfl)⟩ λI0 hI0 i e H hi0=>?_)
  obtain ⟨E0,hi,he⟩:=hi0
  have Y:=wa Y E0
  refine wv (h:=?_)
  repeat first|intro _|refine ⟨eO,?_⟩
  refine wq (λh4=>?_) λh4=>?_
  .have hib:i<b.values.length:=aD
   obtain ⟨k,hk1,hk2⟩:=hC i h4 hib
   have Y:=wa Y (wa h4 (wa (aA h4) (wa (aA hib) @cL.eq_1)))
   refine wo (h:=aI (hk1) wl ?_)
   refine wv (h:=?_)
   repeat first|intro _|refine ⟨eO,?_⟩
   refine wq (λh6=>?_) λh6=>?_
   .refine wv (h:=?_)
    have hne:a≠b:=by intro h;subst h;exact h6 (hk2.2 rfl)
    exact hQ _ _ (by simp [go_sem,hne])
   .exact wo (h:=wx hI0 (i+1) ⟨wg,wj,(by rw [aE h4,aE hib,he,hk2.1 h6])⟩)
  .have hV:a.values=b.values:=by rw [aG aD,aG aD] at he;exact he
   exact wv (h:=hQ _ _ (by simp [go_sem,PX,hab.1,hV]))
theorem BB (t:Types)(ht:t.ok)(r:Rule)(hr:r.ok)(h:Host)(m:Mat){v:Stp26}{e:Int}(hv:v=fU t r h m)(he:e=nT t r h m):Pure Tryz.prog 15 [t.d,r.d,h.d,m.d] (.tup [.agg v.c,dI e]):=by
 subst hv he;exact Ft t ht r hr h m
section
variable {g:Graph} {p:Part} {more:Graph} {kept:Part} {im:List Int}
end
section
variable {t:Types} {a b:Rule} {o:Ovl}
end
section
variable {g:Graph} {p q:List Int}
end
section
variable {t:Types} {g:Graph} {d:Dr24}
structure GrOk (t:Types) (g G:Graph):Prop where
 ok:graphF G=0
 ty:iB t G=true
 no:∀ i:Int,0<=i->i<g.nodes.length->gN G i=gN g i
 ed:∀ k:Int,0<=k->k<g.edges.length->eA G k=eA g k
 fi:∀ k:Int,g.edges.length<=k->k<G.edges.length->oF t (eA G k).type (gN G (eA G k).from_) (gN G (eA G k).to_)=true
 ln:g.nodes.length<=G.nodes.length
 le:g.edges.length<=G.edges.length
end
/-! ### type graphs -/
structure MadeTy (t:Types):Prop where
 v:(b9 t).2=0
 fine:t.fine
 ne:t.edges.length<=5
 nn:t.nodes.length<=6
structure SlotIn (t:Types) (ns:List Int) (v:Int) (s:Slot):Prop where
 n0:0<=s.node
 n1:s.node<ns.length
 a0:0<=s.attr
 a1:s.attr<(bM t (ns[s.node.toNat]?.getD 0)).length
 v0 : -1<=s.term.var
 v1:s.term.var<v
 d0 : -1000000<=s.term.add
 d1:s.term.add<=1000000
theorem SlotIn.mono {t:Types}{ns:List Int}{v w:Int}{s:Slot}(h:SlotIn t ns v s)(hv:v<=w):SlotIn t ns w s:=⟨h.n0,h.n1,h.a0,h.a1,h.v0,by have:=h.v1;omega,h.d0,h.d1⟩
def KF (t:Types)(d:Dr24):Part:=⟨(Pw (Sx t d).nodes.length d.order).take (Vc t d).nodes.length,(Pw (Sx t d).edges.length d.order).take (Vc t d).edges.length⟩
structure Core24 (t:Types) (d:Dr24):Prop where
 g0:graphF (yV t d.left.graph)=0
 t0:iB t (yV t d.left.graph)=true
 gR:graphF (Oj t d)=0
 tR:iB t (Oj t d)=true
 sub:subF (yV t d.left.graph) (KC t d)=0
 mor:eV (cY (yV t d.left.graph) (KC t d)) (Oj t d) (KF t d)=0
 inj:Gy (cY (yV t d.left.graph) (KC t d)) (Oj t d) (KF t d)=true
 mkb:yU t (Oj t d) (bJ (KF t d).nodes (Oj t d).nodes.length) (bJ (KF t d).edges (Oj t d).edges.length)=true
def vR (p:Nat->Bool)(n:Nat):Nat:=((List.range n).filter p).length
theorem Aa (p:Nat->Bool)(n:Nat):vR p (n+1)=vR p n+(if p n=true then 1 else 0):=by
 unfold vR
 rw [c7,k6,aL]
 by_cases h:p n=true<;>simp [h]
theorem G5 (p:Nat->Bool):∀ n,vR p n+vR (λi=>!p i) n=n
 | 0=>rfl
 | n+1=>by
  have ih:=G5 p n
  rw [Aa,Aa]
  cases p n<;>simp<;>omega
theorem Mw (l:List Int)(n:Nat):(bJ l n).length=vR (λi=>!mem l i) n:=by unfold bJ vR;rw [aV]
theorem G4 {p q:Nat->Bool}{n:Nat}(h:∀ i,i<n->p i=q i):vR p n=vR q n:=by
 unfold vR
 rw [List.filter_congr λi hi=>h i (bK.1 hi)]
theorem Qb (p:Nat->Bool)(v:Nat):∀ n,vR (λi=>p i||decide (i=v)) n=vR p n+(if v<n/\p v=false then 1 else 0)
 | 0=>by simp [vR]
 | n+1=>by
  rw [Aa,Aa,Qb p v n]
  by_cases h:n=v
  .subst h
   cases hp:p n<;>simp [hp]
  .have e:decide (n=v)=false:=by simpa using h
   have h2:(v<n+1/\p v=false)↔(v<n/\p v=false):=⟨λ⟨a,b⟩=>⟨aD,b⟩,λ⟨a,b⟩=>⟨aD,b⟩⟩
   rw [e,qY]
   simp only [h2]
   omega
theorem HV (l:List Int)(v:Int){j:Nat}(h:j<l.length):mem (l.take (j+1)) v=(mem (l.take j) v||decide (l[j]=v)):=by
 rw [aR,c4,mem_iff,mem_iff,aE h,aW,bL,decide_eq_true_eq]
 exact ⟨λh=>h.imp id Eq.symm,λh=>h.imp id Eq.symm⟩
def GZ (l:List Int)(k:Nat):Nat:=((List.range k).filter λi=>!mem (l.take i) (l[i]?.getD 0)).length
theorem GY (l:List Int)(k:Nat):GZ l (k+1)=GZ l k+if mem (l.take k) (l[k]?.getD 0)=true then 0 else 1:=by
 unfold GZ
 rw [c7,k6,aL]
 cases h:mem (l.take k) (l[k]?.getD 0)<;>simp [h]
theorem Nd {l:List Int}{n:Nat}(hr:∀ x∈l,0<=x/\x<n):∀ k,k<=l.length->GZ l k=vR (λi=>mem (l.take k) i) n
 | 0,_=>by
  have:vR (λi=>mem (l.take 0) (i:Int)) n=vR (λ_=>false) n:=G4 λi _=>by simp [zX]
  have h2:vR (λ_=>false) n=0:=by
   unfold vR
   rw [List.filter_eq_nil_iff.2 (λ_ _=>by simp)]
   rfl
  rw [this,h2];rfl
 | k+1,hk=>by
  have ih:=Nd hr k aD
  have hx:=hr _ (aC (aD:k<l.length))
  have e:vR (λi=>mem (l.take (k+1)) (i:Int)) n=vR (λi=>mem (l.take k) (i:Int)||decide (i=l[k].toNat)) n:=G4 λi _=>by
   rw [HV l _ (aD:k<l.length)]
   congr 1
   rw [decide_eq_decide];omega
  rw [e,Qb,GY,ih,aA (aD:k<l.length),Option.getD_some,show ((l[k].toNat:Nat):Int)=l[k] by omega]
  have hlt:l[k].toNat<n:=aD
  cases hm:mem (l.take k) l[k]<;>simp [hlt]
theorem Mv {l:List Int}{n:Nat}(hr:∀ x∈l,0<=x/\x<n):(bJ l n).length+GZ l l.length=n:=by
 rw [Mw,Nd hr l.length (bC _),Af]
 have:=G5 (λi=>mem l (i:Int)) n
 omega
theorem GX {l:List Int}(hd:l.Nodup):∀ k,k<=l.length->GZ l k=k
 | 0,_=>rfl
 | k+1,hk=>by
  rw [GY,GX hd k aD,if_neg]
  rw [Bool.not_eq_true,bH]
  intro hm
  have hk':k<l.length:=aD
  rw [mem_iff,aA hk',Option.getD_some] at hm
  have h2:(l.take (k+1)).Nodup:=(List.take_sublist _ _).nodup hd
  rw [aE hk',nM] at h2
  exact h2.2.2 _ hm _ (bL.2 rfl) rfl
theorem B5 {l:List Int}{n:Nat}(hr:∀ x∈l,0<=x/\x<n)(hd:l.Nodup):(bJ l n).length+l.length=n:=by
 have:=Mv hr
 rw [GX hd _ (bC _)] at this
 exact this
section
variable {t:Types} {r:Rule} {h:Host} {m:Mat}
theorem StepIn.imN (S:StepIn t r h m):∀ x∈m.m.nodes,0<=x/\x<h.graph.nodes.length:=λx hx=>by
 obtain ⟨i,hi,rfl⟩:=aO hx
 have:=S.hm.len
 exact (S.hm.img i hi aD).1
theorem StepIn.imE (S:StepIn t r h m):∀ x∈m.m.edges,0<=x/\x<h.graph.edges.length:=λx hx=>by
 obtain ⟨i,hi,rfl⟩:=aO hx
 exact S.hm.eimg i hi
end
structure StepOk (t:Types) (r:Rule) (h:Host) (m:Mat):Prop where
 S:StepIn t r h m
 pre:q6 t r h m=0
 sol:d9 t r.left h m.m=(m.vars,0)
 put:s7 t (bZ t r h m).graph (eY r h m) m.vars r.right.slots=0
 nn:(bZ t r h m).graph.nodes.length<=40
 ne:(bZ t r h m).graph.edges.length<=80
theorem RW {t:Types}{r:Rule}{h:Host}{m:Mat}(hR:RuleV t r)(ho:HostOk t h)(h0:k8 t r h m=0):StepOk t r h m:=by
 unfold k8 at h0
 split at h0
 .contradiction
 .rename_i h1
  have hp:lQ t r h m=0:=by simpa using h1
  unfold lQ at hp
  split at hp
  .contradiction
  .rename_i h2
   have h2':q6 t r h m=0:=by simpa using h2
   have hsol:d9 t r.left h m.m=(m.vars,0):=by
    unfold q6 at h2'
    split at h2'
    .cases h2'
    .split at h2'
     .contradiction
     .rename_i h4
      split at h2'
      .cases h2'
      .rename_i h5
       exact Prod.ext (bX h5) (bX h4)
   split at h0
   .contradiction
   .rename_i h3
    split at h0
    .cases h0
    .rename_i h4
     exact ⟨N5 hR ho h2',h2',hsol,by simpa using h3,aD,aD⟩
theorem StepOk.after {t:Types}{r:Rule}{h:Host}{m:Mat}(S:StepOk t r h m):iG t (cT t r h m)=0:=S.S.after S.put S.nn S.ne
@[go_sem] theorem ab5 (o:Option UInt8)(a0:D):((Option.map cU o).getD [a0]).length=1:=by cases o<;>rfl
@[go_sem] theorem abD (o:Option B3)(a0 a1 a2:D):((Option.map Td o).getD [a0,a1,a2]).length=3:=by cases o<;>rfl
@[go_sem] theorem ab6 (o:Option B2)(a0 a1:D):((Option.map cP o).getD [a0,a1]).length=2:=by cases o<;>rfl
theorem Mz (l:List Slot):eQ (l.map Slot.c)=l.map Slot.c:=lI λc hc=>by
 rw [bB] at hc;obtain ⟨x,_,rfl⟩:=hc;rfl
theorem My (l:List Test):eQ (l.map Test.c)=l.map Test.c:=lI λc hc=>by
 rw [bB] at hc;obtain ⟨x,_,rfl⟩:=hc;rfl
theorem TC (c:Cond):i6 c.c=c.c:=by
 refine i9 (p:=λc=>i6 c.c=c.c) (λc ih=>?_) c
 rw [Cond.c_eq]
 have hk:eQ (c.kids.map Cond.c)=c.kids.map Cond.c:=lI λd hd=>by
  rw [bB] at hd;obtain ⟨x,hx,rfl⟩:=hd;exact ih x hx
 simp [i6,l8,dLI,dI,eH,yS,Mz,My,hk]
theorem Sd (l:List Cond):eQ (l.map Cond.c)=l.map Cond.c:=lI λc hc=>by
 rw [bB] at hc;obtain ⟨x,_,rfl⟩:=hc;exact TC x
theorem XD (l:List (List Int)):eQ (l.map cL)=l.map cL:=lI λc hc=>by
 rw [bB] at hc;obtain ⟨x,_,rfl⟩:=hc
 simp [cL,dLI,i6,l8,eH]
def small (d:Dr5)(a b:Nat):Dr5:=⟨d.nodes.take (min d.nodes.length a),d.edges.take (min d.edges.length b)⟩
structure Dr26 where
 types:List B2
 ends:List B2
 rule:Dr24
 host:Dr15
def Dr26.c (d:Dr26):List D:=[.list (d.types.map cP),.list (d.ends.map cP)]++d.rule.c++d.host.c
@[go_sem] theorem Dr26.cl (d:Dr26):D.clL d.c=true:=by simp [Dr26.c,Bl,Dr24.cl,Dr15.c,D.clL,D.cl,SR,CC]
def t26 (d:Dr26):Types:=XQ d.types d.ends
def Lk (d:Dr26):Host:=Vb (t26 d) ⟨d.host.nodes.take (min d.host.nodes.length 6),d.host.edges.take (min d.host.edges.length 8)⟩
@[go_sem] theorem abB (o:Option Mat)(a0 a1 a2:D):((Option.map Mat.c o).getD [a0,a1,a2]).length=3:=by cases o<;>rfl
/-! ### StepCounts -/
@[go_sem] theorem VE (l:List Int):GZ l 0=0:=rfl
def EK:List Int->List Int->Int
 | x :: l,y :: m=>if x≠y then IntKind.i64.wrap (x - y) else EK l m
 | l,m=>IntKind.i64.wrap ((l.length:Int) - m.length)
theorem G7 {l m:List Int}(h:l=[]\/m=[]):EK l m=IntKind.i64.wrap ((l.length:Int) - m.length):=by
 rcases h with rfl|rfl
 .cases m<;>simp [EK]
 .cases l<;>simp [EK]
theorem Jv (x y:Int)(l m:List Int):EK (x :: l) (y :: m)=if x≠y then IntKind.i64.wrap (x - y) else EK l m:=by simp [EK]
def JI (x:Int):Prop:=-9223372036854775808<=x/\x<=9223372036854775807
theorem Th {x y:Int}(hx:JI x)(hy:JI y)(h:x≠y):IntKind.i64.wrap (x - y)≠0:=by
 rw [IntKind.wrap_i64];unfold JI at hx hy;omega
theorem Ju:∀ {a b:List Int},(∀ x∈a,JI x)->(∀ x∈b,JI x)->a.length<=1000000000000000->b.length<=1000000000000000->(EK a b=0↔a=b)
 | [],b,_,_,_,h2=>by
  rw [G7 (.inl rfl),IntKind.wrap_i64]
  cases b with
  | nil=>simp
  | cons y m=>simp at h2 ⊢;omega
 | x :: l,[],_,_,h1,_=>by
  rw [G7 (.inr rfl),IntKind.wrap_i64]
  simp at h1 ⊢;omega
 | x :: l,y :: m,ha,hb,h1,h2=>by
  have ih:=Ju (a:=l) (b:=m) (λz hz=>ha z (dC _ hz)) (λz hz=>hb z (dC _ hz)) (by simp at h1;omega) (by simp at h2;omega)
  rw [Jv]
  by_cases h:x=y
  .subst h
   rw [if_neg bW,ih];simp
  .rw [if_pos h]
   have:=Th (ha x bW) (hb y bW) h
   constructor
   .intro h0;exact absurd h0 this
   .intro h0;cases h0;exact absurd rfl h
theorem FZ (a b:List Int):Pure Tryz.prog 107 [dLI a,dLI b] (dI (EK a b)):=by
 refine Tz.pK ⟨λt=>t==2000000,λ_=>[]⟩ Tryz.func107 rfl (λQ hQ=>?_)
 have Y:=trivial
 refine wv (h:=bD (λi e H=>(e 0=dLI a/\e 1=dLI b/\e 5=dI i)/\(i<=a.length)/\(i<=b.length)/\(EK (a.drop i) (b.drop i)=EK a b)) (λi=>a.length - i) 0 ⟨wg,wi,wi,(by rfl)⟩ λI0 hI0 i e H hi0=>?_)
 obtain ⟨E0,hi,hi2,hc⟩:=hi0
 have Y:=wa Y E0
 refine wv (h:=?_)
 repeat first|intro _|refine ⟨eO,?_⟩
 refine wq (λh2=>?_) λh2=>?_
 .have hia:i<a.length:=aD
  have hib:i<b.length:=aD
  have hst:=hc
  rw [eE hia,eE hib,Jv] at hst
  have Y:=wa Y (wa h2 (wa (aA hia) (aA hib)))
  refine wv (h:=?_)
  repeat first|intro _|refine ⟨eO,?_⟩
  refine wq (λh4=>?_) λh4=>?_
  .rw [if_pos h4] at hst
   exact wo (h:=hQ _ _ (by simp [go_sem,<- hst]))
  .rw [if_neg (bX h4)] at hst
   exact wo (h:=wx hI0 (i+1) ⟨wg,wj,wj,(by exact hst)⟩)
 .have hX:EK a b=IntKind.i64.wrap ((a.length:Int) - b.length):=by
   rw [<- hc,G7]
   .congr 1;rw [gG,gG];omega
   .rcases b6 i a.length with h|h
    .right;rw [List.drop_eq_nil_iff];omega
    .left;rw [List.drop_eq_nil_iff];omega
  exact wo (h:=hQ _ _ (by simp [go_sem,hX]))
theorem No {a b:List Int}(ha:∀ x∈a,JI x)(hb:∀ x∈b,JI x)(h1:a.length<=1000000000000000)(h2:b.length<=1000000000000000):zO a b:=⟨_,FZ a b,Ju ha hb h1 h2⟩
end Go.Abs
end
