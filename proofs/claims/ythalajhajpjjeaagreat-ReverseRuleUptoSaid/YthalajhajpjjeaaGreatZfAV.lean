/- The step of the program: fill (a loop over a map). · The ste -/
import Derived.Test.YthalajhajpjjeaaGreatZfAA
import Derived.Test.YthalajhajpjjeaaGreatZfAU
import Derived.Test.YthalajhajpjjeaaGreatZfAF
import Derived.Test.YthalajhajpjjeaaGreatZfAT
import Derived.Test.YthalajhajpjjeaaGreatZfAS
import Derived.Test.YthalajhajpjjeaaGreatZfAN
import Derived.Test.YthalajhajpjjeaaGreatZfAL
import Derived.Laws.BitsLemmas
set_option linter.unusedVariables false
set_option linter.unusedSimpArgs false
section
set_option maxRecDepth 100000
set_option maxHeartbeats 4000000
open Go Go.Proofs
namespace Go.Abs
theorem Oq {c:Part}{vs:List Int}{l:List Slot}(h:vZ c vs l=false):Vi c vs l:=by
 rw [u3] at h
 have key:∀ (p q:Nat) (hpq:p<q) (hq:q<l.length),kU c l[p]=kU c l[q]->l[p].attr=l[q].attr->c8 l[p].term vs=c8 l[q].term vs:=λp q hpq hq e1 e2=>by
  refine bB λhn=>?_
  have:((List.range l.length).any λi=>(List.range i).any λk=>tT c vs l i k)=true:=by
   rw [aX]
   refine ⟨q,by simpa using hq,?_⟩
   rw [aX]
   refine ⟨p,by simpa using hpq,?_⟩
   unfold tT C1
   simp only [aA (aD:p<l.length),aA hq,oJ,e1,e2]
   simp [hn]
  rw [h] at this;cases this
 intro s hs s' hs' e1 e2
 obtain ⟨p,hp,rfl⟩:=aO hs
 obtain ⟨q,hq,rfl⟩:=aO hs'
 rcases Nat.lt_trichotomy p q with h1|h1|h1
 .exact key p q h1 hq e1 e2
 .subst h1;rfl
 .exact (key q p h1 hp e1.symm e2.symm).symm
theorem PY (t:Types)(ht:t.ok)(r:Rule)(hR:RuleV t r)(m:Mat)(h x0:Host)(tr co:Part)(hP:PutOk t r x0 co)(hvl:m.vars.length=r.left.vars.toNat)(hvs:Sm m.vars)(G:AHeap)(s a b0 V:Nat)(qs:List Nat)
  (hs:G.get s=some ⟨53,38,[fG r m h (.own a x0.graph.nodes.length) (.own b0 x0.graph.edges.length) (.own V x0.values.length) tr co],false⟩) (hh0:HH G 0 a b0 V qs x0) (hsq:∀ j∈a :: b0 :: V :: qs,j≠s) (hsn:s<G.next) (Q:D->AHeap->Prop)
  (hQe:∀ H',sJ t x0.graph co m.vars r.right.slots≠0->(∀ j,j<G.next->j∉a :: b0 :: V :: qs->H'.get j=G.get j)->G.next<=H'.next->Q (dI (sJ t x0.graph co m.vars r.right.slots)) H')
  (hQ:∀ H',sJ t x0.graph co m.vars r.right.slots=0->HH H' 0 a b0 V qs ⟨x0.graph,tJ co m.vars r.right.slots x0.values⟩->(∀ j,j<G.next->j∉a :: b0 :: V :: qs->H'.get j=G.get j)->G.next<=H'.next->Q (dI 0) H') :
  ACalls Tryz.prog 147 [t.d,.ptr s 1 0 0] G Q:=by
 obtain ⟨l,hl⟩:=cF (r.right.slots)
 have hA:=Hd t r hR m h x0 tr co hP hvl hvs a b0 V x0.graph.nodes.length x0.graph.edges.length x0.values.length G
 have hsl:=hR.slots
 have hspot:=hP.spot
 have hattr:=hP.attr
 have hPf:=hP.few
 rw [<- hl] at hsl hspot hattr hQe hQ hA
 refine HW (P:=Tryz.prog) (K:=292) (E:=3) (Q:=λd H' _=>Q d H') ?_ (λ_ _ _ h=>h)
 refine yH Tryz.func147 rfl rfl (by exact aF rfl) ?_
 refine dO λK1 k1=>?_
 refine gF (c:=⟨λt=>t==7,λ_=>[]⟩) Tz.mixed (by kernel_rfl) ?_
 simp [go_sem,seval]
 refine k1 _ _ _ ?_
 clear k1 K1
 refine dO λK1 k1=>?_
 refine WpG.region ?_
 refine OpsG.take (md:=λt=>t==7) 3 rfl λR kR=>?_
 simp [go_sem,seval,hs,fG]
 repeat first|intro _|refine ⟨eQ,?_⟩
 refine kR _ _ ?_
 clear kR R
 refine OpsG.call (f:=244) (args:=[.agg (fG r m h (.own a x0.graph.nodes.length) (.own b0 x0.graph.edges.length) (.own V x0.values.length) tr co)]) (by simp [go_sem,gQ,fG]) rfl rfl hA λd H1 g1 hq=>?_
 obtain ⟨hG1,hn1,hcase⟩:=hq
 rcases hcase with ⟨hcl,q,rfl⟩|⟨hcl,b,k,rfl,rfl⟩
 .refine OpsG.all (md:=λt=>t==7) rfl λR kR=>?_
  simp [go_sem,seval]
  repeat first|intro _|refine ⟨eQ,?_⟩
  refine kR _ _ (k1 _ _ _ ?_)
  clear kR R k1 K1
  refine dO λK2 k2=>?_
  refine dO λK4 k4=>?_
  refine gF (c:=⟨λt=>t==7,λ_=>[]⟩) Tz.mixed (by kernel_rfl) ?_
  simp [go_sem,seval]
  refine k4 _ _ _ ?_
  clear k4 K4
  refine WpG.cond (t:=true) (by simp [go_sem]) (λ_=>?_) (λhc=>by cases hc)
  refine dO λK5 k5=>?_
  refine gF (c:=⟨λt=>t==7,λ_=>[]⟩) Tz.mixed (by kernel_rfl) ?_
  simp [go_sem,seval]
  refine k5 _ _ _ ?_
  clear k5 K5
  refine WpG.ret ?_
  simp [go_sem,P5]
  have hE:sJ t x0.graph co m.vars l=11:=by unfold sJ;rw [if_pos hcl]
  rw [hE] at hQe
  exact hQe _ (by decide) (λj hj _=>hG1 j hj) hn1
 .refine OpsG.all (md:=λt=>t==7) rfl λR kR=>?_
  simp [go_sem,seval]
  repeat first|intro _|refine ⟨eQ,?_⟩
  refine kR _ _ (k1 _ _ _ ?_)
  clear kR R k1 K1
  refine dO λK2 k2=>?_
  refine dO λK4 k4=>?_
  refine gF (c:=⟨λt=>t==7,λ_=>[]⟩) Tz.mixed (by kernel_rfl) ?_
  simp [go_sem,seval]
  refine k4 _ _ _ ?_
  clear k4 K4
  refine WpG.cond (t:=false) (by simp [go_sem]) (λhc=>by cases hc) (λ_=>WpG.skip ?_)
  simp only [go_sem]
  refine k2 _ _ _ ?_
  clear k2 K2
  have hE0:sJ t x0.graph co m.vars l=if l.any (xZ t x0.graph co m.vars)=true then 6 else 0:=by unfold sJ;rw [if_neg (by rw [hcl];simp)]
  refine dO λK3 k3=>?_
  refine dO λK4 k4=>?_
  refine WpG.region ?_
  refine OpsG.take (md:=λt=>t==7) 1 rfl λR kR=>?_
  simp [go_sem,seval]
  refine kR _ _ ?_
  clear kR R
  refine OpsG.range (T:=288) RE rfl rfl rfl rfl (by simp [go_sem]) λrr tS=>?_
  refine OpsG.nil (k4 _ _ _ ?_)
  clear k4 K4
  have hRng:∀ x∈l,Cn (kU co x)/\Cn x.attr:=λx hx=>by
   obtain ⟨s1,s2,s3⟩:=hspot x hx
   obtain ⟨t1,t2⟩:=hattr x hx
   have:=pS hR.vf (x0.graph.nodes[fJ co x]?.getD 0)
   have h0:=(hsl x hx).2.1.1
   rw [oJ] at s2
   exact ⟨⟨by unfold kU;omega,by unfold kU at *;omega⟩,aD,aD⟩
  refine WpG.block ?_
  obtain ⟨F,hF⟩:=cF (FA co m.vars l)
  rw [<- hF]
  obtain ⟨I,hI⟩:∃ I:Nat->MS->dM->AHeap->Prop,∀ i g e H,I i g e H↔(∃ left cur,g=.rg b rr F left i cur/\e 1=.ptr s 1 0 0/\e 2=.adr t.c/\e 22=.cst (DG rr) /\
   HH H 0 a b0 V qs ⟨x0.graph,xU F (λu v=>(F u v).isSome&&!left u v) x0.values⟩/\(∀ x∈l,left (kU co x) x.attr=false->xZ t x0.graph co m.vars x=false)/\(∀ j,j<G.next->j∉a :: b0 :: V :: qs->H.get j=G.get j)/\G.next<=H.next):=⟨_,λ_ _ _ _=>Iff.rfl⟩
  refine WpG.loop I (λi=>i) tS ((hI _ _ _ _).2 ⟨_,_,rfl,by simp [go_sem],by simp [go_sem],by simp [go_sem],?_,?_,λj hj _=>hG1 j hj,hn1⟩) λi g e H hi0=>?_
  .rw [Ql]
   .exact hh0.same hn1 (λj hj=>hG1 j (hh0.rng j hj).2)
   .intro n v _ _;cases F n v<;>rfl
  .intro x hx hf
   have:=OT (c:=co) (vs:=m.vars) (l:=l) (s:=x) (Oq hcl) hx
   rw [<- hF] at this
   rw [this] at hf;cases hf
  obtain ⟨left,cur,rfl,q1,q2,q22,hh,hO,hG,hnx⟩:=(hI _ _ _ _).1 hi0
  refine dO λK1 k1=>?_
  refine WpG.region ?_
  refine OpsG.next RE rfl rfl rfl (by simp [go_sem,q22]) (λhd=>?_) (λu v c i' hu hv hlf hFc hlt=>?_)
  .refine OpsG.all (md:=λt=>t==7) rfl λR kR=>?_
   simp [go_sem,seval]
   refine kR _ _ (k1 _ _ _ ?_)
   clear kR R k1 K1
   refine dO λK1 k1=>?_
   refine WpG.cond (t:=false) (by simp [go_sem]) (λhc=>by cases hc) (λ_=>WpG.exit ?_)
   simp [go_sem]
   refine k3 _ _ _ ?_
   refine dO λK5 k5=>?_
   refine gF (c:=⟨λt=>t==7,λ_=>[]⟩) Tz.mixed (by kernel_rfl) ?_
   simp [go_sem,seval]
   refine k5 _ _ _ ?_
   clear k5 K5
   refine WpG.ret ?_
   simp [go_sem,P5]
   have hany:l.any (xZ t x0.graph co m.vars)=false:=by
    rw [bH]
    intro hT
    obtain ⟨x,hx,hT⟩:=aX.1 hT
    rw [hO x hx (hd _ _ (hRng x hx).1 (hRng x hx).2)] at hT;cases hT
   rw [if_neg (by rw [hany];simp)] at hE0
   have hV:=Qk (c:=co) (vs:=m.vars) (vals:=x0.values) (l:=l) (λx hx=>⟨(hspot x hx).1,(hspot x hx).2.1,(hsl x hx).2.1.1,(hattr x hx).1⟩) (dn:=λu v=>(F u v).isSome&&!left u v) (λn v _ _=>by
    rw [<- hF]
    cases hFn:F n v with
    | none=>rfl
    | some y =>
     obtain ⟨x,hx,e1,e2,_⟩:=zJ (c:=co) (vs:=m.vars) (l:=l) (by rw [<- hF];exact hFn)
     have:=hd _ _ (hRng x hx).1 (hRng x hx).2
     rw [e1,e2] at this
     simp [this])
   rw [<- hF] at hV
   rw [hV] at hh
   exact hQ _ hE0 hh hG hnx
  .refine OpsG.all (md:=λt=>t==7) rfl λR kR=>?_
   simp [go_sem,seval]
   refine kR _ _ (k1 _ _ _ ?_)
   clear kR R k1 K1
   refine dO λK1 k1=>?_
   refine WpG.cond (t:=true) (by simp [go_sem]) (λ_=>WpG.skip ?_) (λhc=>by cases hc)
   simp only [go_sem]
   refine k1 _ _ _ ?_
   clear k1 K1
   refine WpG.block ?_
   refine dO λK1 k1=>?_
   refine WpG.region ?_
   refine OpsG.entry rfl rfl rfl (by simp [go_sem,q22]) ?_
   refine OpsG.all (md:=λt=>t==7) rfl λR kR=>?_
   simp [go_sem,seval]
   repeat first|intro _|refine ⟨eQ,?_⟩
   refine kR _ _ (k1 _ _ _ ?_)
   clear kR R k1 K1
   obtain ⟨x,hxm,e1,e2,e3⟩:=zJ (c:=co) (vs:=m.vars) (l:=l) (by rw [<- hF];exact hFc)
   obtain ⟨s1,s2,s3⟩:=hspot x hxm
   obtain ⟨t1,t2⟩:=hattr x hxm
   have a0:=(hsl x hxm).2.1.1
   obtain ⟨n,hn⟩:=cF (fJ co x)
   rw [<- hn] at s2 s3 t1 t2
   have hun:u=(n:Int):=by rw [<- e1,hn,oJ];unfold kU at *;omega
   subst hun
   obtain ⟨w,hw⟩:∃ w:Nat,v=(w:Int):=⟨v.toNat,aD⟩
   subst hw
   have hsg:H.get s=some ⟨53,38,[fG r m h (.own a x0.graph.nodes.length) (.own b0 x0.graph.edges.length) (.own V x0.values.length) tr co],false⟩:=by rw [hG s hsn (λhm=>hsq s hm rfl)];exact hs
   have hga:=hh.ga
   have hgV:=hh.gV
   have hqa:=hh.rng a hh.a_in
   have hqV:=hh.rng V hh.V_in
   obtain ⟨nd,hnd⟩:∃ y,y=x0.graph.nodes[n]:=⟨_,rfl⟩
   have hnd0:x0.graph.nodes[n]?.getD 0=nd:=by rw [hnd,aA s3];rfl
   rw [hnd0] at t2
   have haA:w<(bL t nd).length:=aD
   have fr1:=And.intro (cD (aD:s<H.next)) (And.intro (cD (aD:a<H.next)) (cD (aD:V<H.next)))
   have hal:=pR ht nd
   refine dO λK1 k1=>?_
   refine gF (c:=⟨λt=>t==7,λ_=>[]⟩) Tz.mixed (by kernel_rfl) ?_
   simp [go_sem,seval,q1,q2,hsg,hga,fG,fr1,aA s3,<- hnd]
   repeat first|intro _|refine ⟨eQ,?_⟩
   refine aJ (nS t ht nd) (by first|rfl|(simp [go_sem];done)) ?_
   simp [go_sem,seval]
   repeat first|intro _|refine ⟨eQ,?_⟩
   refine k1 _ _ _ ?_
   clear k1 K1
   refine dO λK2 k2=>?_
   refine dO λK4 k4=>?_
   refine gF (c:=⟨λt=>t==7,λ_=>[]⟩) Tz.mixed (by kernel_rfl) ?_
   simp [go_sem,seval,fr1,aA haA,Attr.c]
   repeat first|intro _|refine ⟨eQ,?_⟩
   refine k4 _ _ _ ?_
   clear k4 K4
   have hh':=hh
   obtain ⟨dn,hdn⟩:=cF (λu v=>(F u v).isSome&&!left u v)
   rw [<- hdn] at hh'
   have hvl0:(xU F dn x0.values).length=x0.values.length:=rR ..
   have hnV:n<(xU F dn x0.values).length:=aD
   have hnQ:n<qs.length:=by rw [hh'.len];exact hnV
   obtain ⟨q,hq⟩:=cF (qs[n])
   obtain ⟨vr,hvr⟩:∃ v,v=(xU F dn x0.values)[n]:=⟨_,rfl⟩
   have g1:qs[n]?=some q:=by rw [aA hnQ,hq]
   have g2:(xU F dn x0.values)[n]?=some vr:=by rw [aA hnV,hvr]
   have hrow:=rE g1 g2
   have hgq:=hh'.gq _ _ _ g1 g2
   have hvrl:vr.length=(x0.values[n]?.getD []).length:=by rw [<- qC F dn x0.values n,g2];rfl
   have hwv:w<vr.length:=aD
   have hqin:q∈qs:=aK g1
   have hqr:=hh'.rng q (hh'.q_in hqin)
   have hrl:=jF hh'.len
   rw [<- hdn] at hgV
   have fr2:=cD (aD:q<H.next)
   have hOB:xZ t x0.graph co m.vars x=(decide (c<(bL t nd)[w].low)||decide ((bL t nd)[w].high<c)):=by
    unfold xZ;rw [<- hn,hnd0,(aD:x.attr.toNat=w),aA haA,e3];rfl
   refine WpG.cond (t:=decide (c<(bL t nd)[w].low)||decide ((bL t nd)[w].high<c)) (by simp [go_sem]) (λhcT=>?_) (λhcF=>WpG.skip ?_)
   .refine dO λK5 k5=>?_
    refine gF (c:=⟨λt=>t==7,λ_=>[]⟩) Tz.mixed (by kernel_rfl) ?_
    simp [go_sem,seval]
    refine k5 _ _ _ ?_
    clear k5 K5
    refine WpG.ret ?_
    simp [go_sem,P5]
    have hT:l.any (xZ t x0.graph co m.vars)=true:=aX.2 ⟨_,hxm,by rw [hOB];exact hcT⟩
    rw [if_pos hT] at hE0
    rw [hE0] at hQe
    refine hQe _ (by decide) (λj hj hjn=>?_) (by first|(simp [go_sem];done)|(simp [go_sem];omega))
    simp [go_sem,(aD:j≠H.next)];exact hG j hj hjn
   .simp only [go_sem]
    refine k2 _ _ _ ?_
    clear k2 K2
    refine gF (c:=⟨λt=>t==7,λ_=>[]⟩) Tz.mixed (by kernel_rfl) ?_
    have hnX:n<x0.values.length:=aD
    have hqd:=hh'.qn hqin
    simp [go_sem,seval,q1,hsg,hgV,fG,fr1,fr2,hrow,hgq,hrl,hvl0]
    refine ⟨hnX,hwv,?_⟩
    simp [go_sem,aA hwv,cI]
    repeat first|intro _|refine ⟨eQ,?_⟩
    refine ⟨i',hlt,(hI _ _ _ _).2 ⟨_,_,rfl,by simp [go_sem,q1],by simp [go_sem,q2],by simp [go_sem,q22],?_,?_,?_,by first|(simp [go_sem];done)|(simp [go_sem];omega)⟩⟩
    .have hst:=Qj F x0.values (dn:=dn) (dn':=λu v=>(F u v).isSome&&!(left u v&&(!decide (u=(n:Int))||!decide (v=(w:Int))))) hnX (by rw [<- hvrl];exact hwv) hFc (λn2 b2 _ _=>by
      rw [hdn]
      by_cases e1:n2=n
      .by_cases e2:b2=w
       .subst e1;subst e2;simp [hFc]
       .have e3':¬ ((b2:Int)=w):=aD
        subst e1;simp [e2,e3']
      .have e3':¬ ((n2:Int)=n):=aD
       simp [e1,e3'])
     rw [g2] at hst
     rw [<- hst]
     exact hh'.rowSet (by first|(simp [go_sem];done)|(simp [go_sem];omega)) g1 g2 bV (by simp [go_sem,hgq,bX,cI]) (λj hj hjq=>by
      have hj2:=(hh'.rng j hj).2
      simp [go_sem,hjq,(aD:j≠H.next)])
    .intro y hy hyf
     cases hL:left (kU co y) y.attr with
     | false=>exact hO y hy hL
     | true =>
      have hyy:kU co y=(n:Int)/\y.attr=(w:Int):=by rw [hL] at hyf;simpa using hyf
      have hsy:fJ co y=n:=by rw [oJ,hyy.1];rfl
      have hty:c8 y.term m.vars=c:=by rw [<- e3];exact Oq hcl y hy x hxm (by rw [hyy.1,e1]) (by rw [hyy.2,e2])
      unfold xZ
      rw [hsy,hnd0,(aD:y.attr.toNat=w),aA haA,hty];exact hcF
    .intro j hj hjn
     simp [go_sem,(aD:j≠H.next),show j≠q from λe=>hjn (e ▸ hh'.q_in hqin)];exact hG j hj hjn
theorem Tu {d:List Int}(hd:d.Pairwise (· < ·)){n:Nat}{x:Int}(h0:0<=x)(hx:x<n)(hm:x∈d):∃ p:Nat,p<d.length/\(k9 d n)[x.toNat]?=some (p:Int):=by
 obtain ⟨p,hp,rfl⟩:=aO hm
 refine ⟨p,hp,?_⟩
 rw [n5 _ aD,show ((d[p].toNat:Nat):Int)=d[p] by omega,oY (pT hd) hp]
theorem Sh {im d:List Int}{n:Nat}(hd:d.Pairwise (· < ·)){k:Int}(h0:0<=k)(hk:k<im.length)(hx:0<=iA im k/\iA im k<n)(hm:iA im k∈d):∃ p:Nat,p<d.length/\(oE im (mV d n))[k.toNat]?.getD 0=p:=by
 obtain ⟨p,hp,he⟩:=Tu hd hx.1 hx.2 hm
 have hkn:k.toNat<im.length:=aD
 have e:iA im k=im[k.toNat]:=by unfold iA;rw [aA hkn];rfl
 refine ⟨p,hp,?_⟩
 unfold oE mV
 rw [aN,aA hkn,dQ,Option.getD_some,<- e,he];rfl
theorem IY {keep into at_:List Int}{rem:Nat}(hin:into.Nodup)(hl:keep.length=into.length)(hk:∀ k∈keep,∃ p:Nat,p<rem/\at_[k.toNat]?.getD 0=p)(i:Nat) :
  GH keep into at_ rem i=((rem+(bJ into i).length:Nat):Int)↔mem into i=false:=by
 have hb:=Jd hin (i:Int)
 have hle:=Cb into i into.length
 unfold GH
 cases hm:mem into i with
 | true =>
  rw [hm] at hb
  have h0:¬ gB into into.length i<0:=by simpa using hb
  have hlt:(gB into into.length i).toNat<keep.length:=aD
  obtain ⟨p,hp,hq⟩:=hk _ (aC hlt)
  rw [if_pos aD,aA hlt,Option.getD_some,hq]
  constructor
  .intro e;omega
  .intro e;cases e
 | false =>
  rw [hm] at hb
  have h0:gB into into.length i<0:=by simpa using hb
  rw [if_neg aD,J5 hin];simp
theorem PA {keep into at_:List Int}{right rem i:Nat}(h:i<right):(Co keep into at_ right rem)[i]?.getD 0=GH keep into at_ rem i:=by
 unfold Co;simp [h]
section
variable {t:Types} {r:Rule} {h:Host} {m:Mat}
theorem StepIn.keptE (S:StepIn t r h m){k:Int}(hk:k∈r.keep.edges):iA m.m.edges k∈(bU r h m).edges:=by
 have hK:=S.hR.keep
 have hl:=S.hm.elen
 have hr:=hK.2.2.1 k hk
 have h1:=uP S.dup.2 hr.1 aD hk
 rw [S.rest]
 have h2:=S.hm.eimg k.toNat aD
 have e:iA m.m.edges k=m.m.edges[k.toNat]' aD:=by unfold iA;rw [aA aD];rfl
 exact gW.2 ⟨by rw [e];exact h2,h1⟩
theorem StepIn.kN (S:StepIn t r h m):∀ k∈r.keep.nodes,(0<=k/\k<m.m.nodes.length)/\(0<=iA m.m.nodes k/\iA m.m.nodes k<h.graph.nodes.length)/\∃ p:Nat,p<(bU r h m).nodes.length/\(oE m.m.nodes (cW r h m).nodes)[k.toNat]?.getD 0=p:=λk hk=>by
 have hr:=S.hR.keep.2.1 k hk
 have hl:=S.hm.len
 have hi:=S.nin _ (S.keptN hk)
 exact ⟨aD,hi,Sh S.nasc hr.1 aD hi (S.keptN hk)⟩
theorem StepIn.kE (S:StepIn t r h m):∀ k∈r.keep.edges,(0<=k/\k<m.m.edges.length)/\(0<=iA m.m.edges k/\iA m.m.edges k<h.graph.edges.length)/\∃ p:Nat,p<(bU r h m).edges.length/\(oE m.m.edges (cW r h m).edges)[k.toNat]?.getD 0=p:=λk hk=>by
 have hr:=S.hR.keep.2.2.1 k hk
 have hl:=S.hm.elen
 have hi:=S.ein _ (S.keptE hk)
 exact ⟨aD,hi,Sh S.easc hr.1 aD hi (S.keptE hk)⟩
theorem StepIn.frN (S:StepIn t r h m):∀ i,i<r.right.graph.nodes.length->((fB r h m).nodes[i]?.getD 0=(((bU r h m).nodes.length+(bJ r.into.nodes i).length:Nat):Int)↔mem r.into.nodes i=false):=λi hi=>by
 have:=IY S.intoN.1 S.hR.keep.1.1 (λk hk=>(S.kN k hk).2.2) i
 unfold fB;simp only
 rw [PA hi];exact this
theorem StepIn.frE (S:StepIn t r h m):∀ i,i<r.right.graph.edges.length->((fB r h m).edges[i]?.getD 0=(((bU r h m).edges.length+(bJ r.into.edges i).length:Nat):Int)↔mem r.into.edges i=false):=λi hi=>by
 have:=IY S.intoN.2 S.hR.keep.1.2 (λk hk=>(S.kE k hk).2.2) i
 unfold fB;simp only
 rw [PA hi];exact this
theorem StepIn.bdE (S:StepIn t r h m):bdE h (bU r h m) (cW r h m) (bU r h m).edges.length=⟨cY h.graph (bU r h m),(bU r h m).nodes.map λk=>h.values[k.toNat]?.getD []⟩:=by
 unfold Go.Abs.bdE cY
 rw [if_pos S.sub,aH (bC _)]
 congr 2
 refine b6 λk hk=>?_
 obtain ⟨s1,s2⟩:=xC S.sub hk
 have key:∀ v:Int,v∈(bU r h m).nodes->iA (cW r h m).nodes v=(tL (bU r h m).nodes v:Int):=λv hv=>by
  have hr:=S.nin v hv
  unfold iA cW mV
  simp only
  rw [n5 _ aD,Option.getD_some,show ((v.toNat:Nat):Int)=v by omega,C4 S.nasc,if_pos ((mem_iff _ _).2 hv)]
 unfold trE
 rw [key _ s1,key _ s2];rfl
theorem StepIn.grow (S:StepIn t r h m):jO t r (fB r h m) (Go.Abs.bdE h (bU r h m) (cW r h m) (bU r h m).edges.length)=b7 t r h m:=by
 rw [S.bdE];rfl
end
theorem S2 {t:Types}{r:Rule}{h:Host}{m:Mat}(h0:Ed t r h m=0):fN t r.left.graph h.graph m.m r.inj=0/\(d9 t r.left h m.m).2=0/\(d9 t r.left h m.m).1=m.vars:=by
 unfold Ed at h0
 split at h0
 .cases h0
 .rename_i h1
  split at h0
  .exact absurd h0 (by assumption)
  .rename_i h2
   split at h0
   .cases h0
   .rename_i h3
    exact ⟨by simpa using h1,by simpa using h2,by simpa using h3⟩
theorem R4 {t:Types}{r:Rule}(h:ruleF t r=0):condF t r.left r.cond=0:=by
 unfold ruleF at h
 split at h
 .exact absurd h (by assumption)
 .split at h
  .cases h
  .split at h
   .exact absurd h (by assumption)
   .split at h
    .exact absurd h (by assumption)
    .split at h
     .exact absurd h (by assumption)
     .split at h
      .cases h
      .exact h
def vD (t:Types)(r:Rule)(h:Host)(m:Mat):Stp26:=if kP t r h m=0 then bG t r h m else j7
theorem Ui {P:Program}{f:FuncId}{args:List D}{r:D}(hcl:r.cl=true)(h:∀ Q:D->AHeap->Prop,(∀ d H',(iR H' d).cl=true->(iR H' d=r\/Q6 (iR H' d)=r)->Q d H')->ACalls P f args .emp Q):Pure P f args r:=by
 refine O9 hcl λQ hq=>ACalls.deep (h _ λd H' hc hr=>hq _ _ ?_)
 rw [O3 _ hc];exact hr
theorem Nv (t:Types)(ht:t.ok)(r:Rule)(hr:r.ok)(hr0:ruleF t r=0)(h:Host)(hh0:iF t h=0)(m:Mat):Pure Tryz.prog 58 [t.d,r.d,h.d,m.d] (.tup [.agg (vD t r h m).c,dI (kP t r h m)]):=by
 refine Ui (by simp [go_sem,D.cl,D.clL,Stp26.cl]) λQ hQ=>?_
 have hR:=O2 hr hr0
 have ho:=r4 hh0
 have hcF:=R4 hr0
 refine (aI (cfg:=⟨λt=>t==8||t==11||t==13||t==15,λr=>match r with|15=>[(0,2),(2,3),(0,4),(0,6),(1,6),(2,6),(3,6),(4,6)]|16=>[(6,7),(6,8),(6,9),(6,10),(6,11),(6,12)]|17=>[(20,21),(20,22),(20,23),(20,24),(20,25),(20,26),(20,27),(20,28),(20,29),(20,30),(20,31),(20,32),(20,33),(20,34),(20,35),(20,36),(20,37),(20,38),(20,39),(20,40)]|_=>[]⟩) Tz.mixed Tryz.func58 rfl rfl (aF rfl) (by kernel_rfl) ?_)
 have Y:=wa @Host.d.eq_1 (wa @Host.c.eq_1 (wa @Mat.d.eq_1 @Mat.c.eq_1))
 refine wv (h:=aB (Jt t ht r h m) wl ?_)
 refine dP (λh2=>?_) λh2=>?_
 .have hA:kP t r h m=Ed t r h m:=by unfold kP lE;rw [LZ,if_pos h2];simp [h2]
  have hV:vD t r h m=j7:=by unfold vD;rw [if_neg aD]
  refine wv (h:=?_)
  refine hQ _ _ (by simp [go_sem,iR,jT,o9,fH,D.cl,D.clL]) (by first|(left;(simp [go_sem,iR,jT,o9,fH,hA,hV,j7,iM,mN,g8,Stp26.c,Rule.c,Mat.c,Host.c,Cond.kind,Cond.kids,Cond.map,Cond.pattern,dLI,dI]);done)|(right;(simp [go_sem,iR,jT,o9,fH,hA,hV,j7,iM,mN,g8,Stp26.c,Rule.c,Mat.c,Host.c,Cond.kind,Cond.kids,Cond.map,Cond.pattern,dLI,dI]);done))
 .have hp0:qL t r h m=qV (lQ r.left.graph h.graph m.m) h.graph r.keep m.m:=by rw [LZ,if_neg aD]
  obtain ⟨hck,hso,hsv⟩:=S2 (aD:Ed t r h m=0)
  have hck0:=OH hck
  have hin:zM t r.left.graph h.graph m.m=lQ r.left.graph h.graph m.m:=by unfold zM;rw [if_pos hck0]
  have hmk:=rX (rJ hck0).2
  have hgl:=bR hR.pl.gg
  have hgr:=bR hR.gr
  have hgh:=bR ho.gg
  have hml:=hmk.len
  have hmel:=hmk.elen
  have hkl:=hR.kl
  have hvh:=ho.vl
  have hrw:∀ v∈h.values,v.length<=100000:=λv hv=>by have:=(ho.row v hv).1;omega
  have Y:=wa Y (wa hck0 hin)
  refine wv (h:=aB (D8 t ht r.left.graph h.graph m.m) wl ?_)
  refine wv (h:=aB (HM (lQ r.left.graph h.graph m.m) h.graph r.keep m.m aD aD aD aD aD) wl ?_)
  refine dP (λh8=>?_) λh8=>?_
  .have hpe:qL t r h m≠0:=aD
   have hA:kP t r h m=qL t r h m:=by unfold kP lE;rw [if_pos hpe,if_pos hpe]
   have hV:vD t r h m=j7:=by unfold vD;rw [if_neg aD]
   refine wv (h:=?_)
   refine hQ _ _ (by simp [go_sem,iR,jT,o9,fH,D.cl,D.clL]) (by first|(left;(simp [go_sem,iR,jT,o9,fH,hA,hp0,hV,j7,iM,mN,g8,Stp26.c,Rule.c,Mat.c,Host.c,Cond.kind,Cond.kids,Cond.map,Cond.pattern,dLI,dI]);done)|(right;(simp [go_sem,iR,jT,o9,fH,hA,hp0,hV,j7,iM,mN,g8,Stp26.c,Rule.c,Mat.c,Host.c,Cond.kind,Cond.kids,Cond.map,Cond.pattern,dLI,dI]);done))
  .have hpre:qL t r h m=0:=aD
   have S:=Nx hR ho hpre
   have hMat:=IF S hpre
   have hP:r7 (lQ r.left.graph h.graph m.m) h.graph r.keep m.m=bU r h m:=rfl
   have hcg:Tr t r.left r.cond h m r.inj=0:=by
    unfold Tr;rw [if_neg aD,if_neg aD,if_neg aD,if_neg aD,if_neg (by rw [hsv];simp)]
   have hS1:lE t r h m=if (nE t h r.inj r.cond m).2≠0 then (nE t h r.inj r.cond m).2 else if (nE t h r.inj r.cond m).1=false then 16 else 0:=by unfold lE;rw [if_neg aD]
   have Y:=wa Y hP
   refine wv (h:=aB ((by have hq:=zP t ht r.left r.cond hr.cond hR.cond hR.pl h ho m hMat r.inj hcg;simp only [Cond.c_eq] at hq;unfold Types.d Types.c Pattern.d Pattern.c Host.d Host.c Mat.d Mat.c dLI dI at hq;exact hq)) wl ?_)
   refine dP (λh11=>?_) λh11=>?_
   .have hA:kP t r h m=(nE t h r.inj r.cond m).2:=by unfold kP;rw [hS1,if_pos h11];simp [h11]
    have hV:vD t r h m=j7:=by unfold vD;rw [if_neg aD]
    refine wv (h:=?_)
    refine hQ _ _ (by simp [go_sem,iR,jT,o9,fH,D.cl,D.clL]) (by first|(left;(simp [go_sem,iR,jT,o9,fH,hA,hV,j7,iM,mN,g8,Stp26.c,Rule.c,Mat.c,Host.c,Cond.kind,Cond.kids,Cond.map,Cond.pattern,dLI,dI]);done)|(right;(simp [go_sem,iR,jT,o9,fH,hA,hV,j7,iM,mN,g8,Stp26.c,Rule.c,Mat.c,Host.c,Cond.kind,Cond.kids,Cond.map,Cond.pattern,dLI,dI]);done))
   .refine sG (λh13=>?_) λh13=>?_
    .have hA:kP t r h m=16:=by
      have:(nE t h r.inj r.cond m).1=false:=by simpa using h13
      have hps:lE t r h m=16:=by rw [hS1,if_neg aD,if_pos this]
      unfold kP;rw [if_pos aD,hps]
     have hV:vD t r h m=j7:=by unfold vD;rw [if_neg aD]
     refine wv (h:=?_)
     refine hQ _ _ (by simp [go_sem,iR,jT,o9,fH,D.cl,D.clL]) (by first|(left;(simp [go_sem,iR,jT,o9,fH,hA,hV,j7,iM,mN,g8,Stp26.c,Rule.c,Mat.c,Host.c,Cond.kind,Cond.kids,Cond.map,Cond.pattern,dLI,dI]);done)|(right;(simp [go_sem,iR,jT,o9,fH,hA,hV,j7,iM,mN,g8,Stp26.c,Rule.c,Mat.c,Host.c,Cond.kind,Cond.kids,Cond.map,Cond.pattern,dLI,dI]);done))
    .have hps:lE t r h m=0:=by
      have h13':(nE t h r.inj r.cond m).1=true:=by simpa using h13
      rw [hS1,if_neg aD,if_neg (by rw [h13'];simp)]
     have hK:=hR.keep
     have hkN:=S.kN
     have hkE:=S.kE
     obtain ⟨tr,htr⟩:=cF (cW r h m)
     obtain ⟨cm,hcm⟩:=cF (fB r h m)
     have hT1:mV (bU r h m).nodes h.graph.nodes.length=tr.nodes:=by rw [htr];rfl
     have hT2:mV (bU r h m).edges h.graph.edges.length=tr.edges:=by rw [htr];rfl
     have htl1:tr.nodes.length=h.graph.nodes.length:=by rw [<- hT1];exact k8 _ _
     have htl2:tr.edges.length=h.graph.edges.length:=by rw [<- hT2];exact k8 _ _
     rw [<- htr] at hkN hkE
     have hC1:Co r.keep.nodes r.into.nodes (oE m.m.nodes tr.nodes) r.right.graph.nodes.length (bU r h m).nodes.length=cm.nodes:=by rw [hcm,htr];rfl
     have hC2:Co r.keep.edges r.into.edges (oE m.m.edges tr.edges) r.right.graph.edges.length (bU r h m).edges.length=cm.edges:=by rw [hcm,htr];rfl
     have hdl:=S.len
     have hvl:=hMat.vl
     have hvs:Sm m.vars:=λv hv=>by have:=hMat.vs v hv;omega
     have hvv:=hR.pl.vars
     have hcl1:cm.nodes.length=r.right.graph.nodes.length:=by rw [hcm];simp [fB,Co]
     have hcl2:cm.edges.length=r.right.graph.edges.length:=by rw [hcm];simp [fB,Co]
     have hfN:=S.frN
     have hfE:=S.frE
     have hB:=S.grow
     rw [<- hcm] at hfN hfE hB
     rw [<- htr] at hB
     have Y:=wa Y (wa hT1 (wa hT2 (wa hC1 hC2)))
     refine wv (h:=aJ (E7 m aD aD aD) wl ?_)
     refine wv (h:=aJ (Hc h aD aD aD hrw) wl ?_)
     refine wp (h:=aJ (EY h.graph.nodes.length aD (bU r h m).nodes S.nasc aD) wl ?_)
     refine wp (h:=aJ (EY h.graph.edges.length aD (bU r h m).edges S.easc aD) wl ?_)
     refine wp (h:=aJ (A6 r.right.graph.nodes.length aD r.keep.nodes r.into.nodes m.m.nodes tr.nodes (bU r h m).nodes.length aD aD hK.2.2.2.1 (λx hx=>(hkN x hx).1) (λx hx=>by have:=(hkN x hx).2.1;omega) (λx hx=>by obtain ⟨p,_,hp⟩:=(hkN x hx).2.2;omega)) wl ?_)
     refine wp (h:=aJ (A6 r.right.graph.edges.length aD r.keep.edges r.into.edges m.m.edges tr.edges (bU r h m).edges.length aD aD hK.2.2.2.2 (λx hx=>(hkE x hx).1) (λx hx=>by have:=(hkE x hx).2.1;omega) (λx hx=>by obtain ⟨p,_,hp⟩:=(hkE x hx).2.2;omega)) wl ?_)
     refine wp (h:=?_)
     refine v6 (.step (.step (.step (.refl _) 9 0 31 3 1 _ _ (by simp [go_sem];rfl) rfl rfl rfl) 9 0 32 122 3 _ _ (by simp [go_sem];rfl) rfl rfl rfl) 9 0 33 26 1 _ _ (by simp [go_sem];rfl) rfl rfl rfl) ?_
     simp [go_sem]
     unfold fM
     refine Nu t ht r hR m h ho (bU r h m) tr cm S.nin S.ein hdl htl1 ⟨hcl1,hcl2⟩ hfN hfE 9 73 74 75 _ (by simp [go_sem,fG,dLI]) ⟨by simp [go_sem],by simp [go_sem],by simp [go_sem,kQ],rfl,λi q v h1 _=>by simp at h1,by simp,λq hq=>by simp at hq;rcases hq with rfl|rfl|rfl<;>simp [go_sem]⟩ (by simp [go_sem]) bV (λj hj hA=>?_) _ (λqs H1 hH1 hs1 hq1 hq2 hf1 hn1=>?_)
     .simp [go_sem,oZ,sD,Jg,GX] at hA hj;omega
     rw [hB] at hH1 hs1
     have hn1':76<=H1.next:=by simp [go_sem] at hn1;omega
     have k0:=hf1 0 (by simp [go_sem]) bV
     simp [go_sem] at k0
     have hq0:∀ j,j<73->j∉73 :: 74 :: 75 :: qs:=λj hj hm=>by
      simp only [aU] at hm
      rcases hm with h|h|h|h
      .omega
      .omega
      .omega
      .have:=hq2 j h;simp [go_sem] at this;omega
     refine wp (h:=?_)
     unfold fM
     refine PY t ht r hR m h (b7 t r h m) tr cm (hcm ▸ S.put) hvl hvs H1 9 73 74 75 qs hs1 hH1 hq1 aD _ (λH2 hE2 hf2 hn2=>?_) (λH2 hE2 hH2 hf2 hn2=>?_)
     .have m0:=(hf2 0 aD (hq0 0 aD)).trans k0
      have hA:kP t r h m=sJ t (b7 t r h m).graph cm m.vars r.right.slots:=by unfold kP;rw [if_neg aD,<- hcm,if_pos hE2]
      have hV:vD t r h m=j7:=by unfold vD;rw [if_neg aD]
      simp [go_sem,seval,m0]
      refine aP (λhc=>?_) (λhc=>absurd (bW hc) hE2)
      simp [go_sem,seval,m0]
      refine hQ _ _ (by simp [go_sem,iR,jT,o9,fH,D.cl,D.clL]) (by first|(left;(simp [go_sem,iR,jT,o9,fH,hA,hV,j7,iM,mN,g8,Stp26.c,Rule.c,Mat.c,Host.c,Cond.kind,Cond.kids,Cond.map,Cond.pattern,dLI,dI]);done)|(right;(simp [go_sem,iR,jT,o9,fH,hA,hV,j7,iM,mN,g8,Stp26.c,Rule.c,Mat.c,Host.c,Cond.kind,Cond.kids,Cond.map,Cond.pattern,dLI,dI]);done))
     have m0:=(hf2 0 aD (hq0 0 aD)).trans k0
     have m9:=(hf2 9 aD (hq0 9 aD)).trans hs1
     simp only [fG] at m9
     have m73:H2.get 73=some ⟨3,1,(b7 t r h m).graph.nodes.map cI,false⟩:=hH2.ga
     have m74:H2.get 74=some ⟨122,3,(b7 t r h m).graph.edges.map Edge.c,false⟩:=hH2.gb
     have Y:=wa Y (wa m0 (wa m9 (wa m73 m74)))
     refine sG (λh22=>?_) λh22=>?_
     .have hA:kP t r h m=3:=by
       unfold kP;rw [if_neg aD,<- hcm,if_neg aD,if_pos (by first|exact h22|omega)]
      have hV:vD t r h m=j7:=by unfold vD;rw [if_neg aD]
      refine wv (h:=?_)
      refine hQ _ _ (by simp [go_sem,iR,jT,o9,fH,D.cl,D.clL]) (by first|(left;(simp [go_sem,iR,jT,o9,fH,hA,hV,j7,iM,mN,g8,Stp26.c,Rule.c,Mat.c,Host.c,Cond.kind,Cond.kids,Cond.map,Cond.pattern,dLI,dI]);done)|(right;(simp [go_sem,iR,jT,o9,fH,hA,hV,j7,iM,mN,g8,Stp26.c,Rule.c,Mat.c,Host.c,Cond.kind,Cond.kids,Cond.map,Cond.pattern,dLI,dI]);done))
     .have hA:kP t r h m=0:=by
       unfold kP;rw [if_neg aD,<- hcm,if_neg aD,if_neg (by first|exact h22|omega)]
      have hV:vD t r h m=bG t r h m:=by unfold vD;rw [if_pos hA]
      have hW:cX t r h m=⟨(b7 t r h m).graph,tJ cm m.vars r.right.slots (b7 t r h m).values⟩:=by rw [hcm];rfl
      have hvl5:=(oN cm m.vars r.right.slots (b7 t r h m).values).1
      have fin:∀ k:Blk,Q (.tup [.agg (fG r m h (.own 73 (b7 t r h m).graph.nodes.length) (.own 74 (b7 t r h m).graph.edges.length) (.own 75 (b7 t r h m).values.length) tr cm),dI 0]) (H2.put 0 k):=λk=>by
       obtain ⟨E,hE⟩:=cF (H2.put 0 k)
       have h5:HH E 0 73 74 75 qs (cX t r h m):=by
        rw [hW];exact hH2.same (by rw [hE];simp [go_sem]) (λj hj=>by
         have hj0:j≠0:=λe=>hq0 0 aD (e ▸ hj)
         rw [hE];simp [go_sem,hj0])
       have hd:=h5.deep
       have e1:(cX t r h m).graph.nodes.length=(b7 t r h m).graph.nodes.length:=by rw [hW]
       have e2:(cX t r h m).graph.edges.length=(b7 t r h m).graph.edges.length:=by rw [hW]
       have e3:(cX t r h m).values.length=(b7 t r h m).values.length:=by rw [hW];exact hvl5
       rw [e1,e2,e3] at hd
       simp only [jT,g6,jD,Host.d,Host.c,D.agg.injEq,List.cons.injEq,and_true] at hd
       obtain ⟨d1,d2,d3⟩:=hd
       have key:iR E (.tup [.agg (fG r m h (.own 73 (b7 t r h m).graph.nodes.length) (.own 74 (b7 t r h m).graph.edges.length) (.own 75 (b7 t r h m).values.length) tr cm),dI 0])=.tup [.agg (vD t r h m).c,dI (kP t r h m)]:=by
        rw [hA,hV]
        simp only [iR,jT,fG,g6,jD,d1,d2,d3]
        simp [jT,o9,fH,bG,Stp26.c,Rule.c,Mat.c,Host.c,dLI,dI,htr,hcm]
       rw [<- hE]
       exact hQ _ _ (by rw [key];simp [go_sem,D.cl,D.clL,Stp26.cl]) (.inl key)
      refine wv (h:=?_)
      exact fin _
theorem CT {t:Types}{r:Rule}{h:Host}(h0:iI t r h=0):ruleF t r=0/\iF t h=0:=by
 unfold iI at h0
 split at h0
 .exact absurd h0 (by assumption)
 .rename_i h1;exact ⟨by simpa using h1,h0⟩
theorem Ju (t:Types)(ht:t.ok)(r:Rule)(hr:r.ok)(hr0:ruleF t r=0)(h:Host)(hh0:iF t h=0)(m:Mat){v:Stp26}{e:Int}(hv:v=vD t r h m)(he:e=kP t r h m):Pure Tryz.prog 58 [t.d,r.d,h.d,m.d] (.tup [.agg v.c,dI e]):=by
 subst hv he;exact Nv t ht r hr hr0 h hh0 m
theorem E8 (t:Types)(ht:t.ok)(r:Rule)(hr:r.ok)(h:Host)(m:Mat):Pure Tryz.prog 15 [t.d,r.d,h.d,m.d] (.tup [.agg (fP t r h m).c,dI (nF t r h m)]):=by
 obtain ⟨v,hv⟩:=cF (vD t r h m)
 obtain ⟨e,he⟩:=cF (kP t r h m)
 refine Tz.pK ⟨λt=>t==8,λ_=>[]⟩ Tryz.func15 rfl (λQ hQ=>?_)
 have Y:=wa @Host.d.eq_1 (wa @Host.c.eq_1 (wa @Mat.d.eq_1 (wa @Mat.c.eq_1 @Stp26.c.eq_1)))
 refine wv (h:=aB (Nt t ht r hr h) wl ?_)
 refine dP (λh2=>?_) λh2=>?_
 .have hA:nF t r h m=iI t r h:=by unfold nF;rw [if_pos h2]
  have hV:fP t r h m=j7:=by unfold fP;rw [if_neg aD]
  exact wv (h:=hQ _ _ (by simp [go_sem,hA,hV,j7,iM,mN,g8,Stp26.c,Rule.c,Mat.c,Host.c,Cond.kind,Cond.kids,Cond.map,Cond.pattern,dLI,dI]))
 .have hz:=CT (aD:iI t r h=0)
  have hA:nF t r h m=e:=by rw [he];unfold nF;rw [if_neg aD]
  have hV:fP t r h m=v:=by rw [hv];unfold fP vD;rw [hA,he]
  refine wv (h:=aB ((by have hq:=Ju t ht r hr hz.1 h hz.2 m hv he;simp only [Stp26.c,Rule.c,Mat.c,Host.c,c7,dA] at hq;unfold Mat.d Mat.c Host.d Host.c dLI at hq;exact hq)) wl ?_)
  exact wv (h:=hQ _ _ (by simp [go_sem,hA,hV,Stp26.c,Rule.c,Mat.c,Host.c]))
theorem JO (t:Types)(h1:∀ n∈t.nodes,n.attrs.length<=1000000000000000)(r:Rule)(hr:r.le)(h:Host):Pure Tryz.prog 13 [t.d,r.d,h.d] (.bool (light26 t r h)):=by
 refine Tz.pK ⟨λ_=>false,λ_=>[]⟩ Tryz.func13 rfl (λQ hQ=>?_)
 have Y:=wa @Host.c.eq_1 (wa @Rule.c.eq_1 @Cond.c_eq)
 refine wo (h:=aB (Il t h1) wl ?_)
 refine wo (h:=aG (λhg=>(by have hz:=Qb r hr;simpa [Rule.d,Rule.c,Cond.c_eq,go_sem] using hz)) (λhg=>wl) ?_)
 refine wo (h:=aG (λhg=>(by have hz:=LE t (EI (by simp at hg;exact hg.1)) r.left r.cond hr.cond h;rwa [Cond.c_eq] at hz)) (λhg=>wl) ?_)
 have Y:=wa Y @light26.eq_1
 exact wo (h:=hQ _ _ wy)
theorem Oc {t:Types}{r:Rule}{h:Host}(hL:light26 t r h=true):t.ok/\r.ok:=by
 unfold light26 at hL
 simp only [aR] at hL
 exact ⟨EI hL.1.1,Ko hL.1.2⟩
theorem Rz (l:List ByteArray):eR (l.map cS)=l.map cS:=k6 λc hc=>by
 rw [bA] at hc;obtain ⟨x,_,rfl⟩:=hc;rfl
theorem Qs (l:List Attr):eR (l.map Attr.c)=l.map Attr.c:=k6 λc hc=>by
 rw [bA] at hc;obtain ⟨x,_,rfl⟩:=hc
 simp [Attr.c,i6,lU,sL,dI,Rz]
theorem Iv (l:List NodeTy):eR (l.map NodeTy.c)=l.map NodeTy.c:=k6 λc hc=>by
 rw [bA] at hc;obtain ⟨x,_,rfl⟩:=hc
 simp [NodeTy.c,i6,lU,dI,Qs]
theorem DD (l:List EdgeTy):eR (l.map EdgeTy.c)=l.map EdgeTy.c:=k6 λc hc=>by
 rw [bA] at hc;obtain ⟨x,_,rfl⟩:=hc
 simp [EdgeTy.c,i6,lU,dI]
theorem Pure.nzk {P:Program}{f:FuncId}{args args':List D}{r:D}(hp:Pure P f args' r)(ha:args.map lU=args'):Pure P f args r:=by
 subst ha
 refine ⟨hp.1,λM w vals hM hv=>hp.2 M w vals hM ⟨by simpa using hv.len,λj u d hu hd=>?_⟩⟩
 rw [aN,bQ] at hd
 obtain ⟨y,hy,rfl⟩:=hd
 exact Pi (hv.rep j u y hu hy)
def exT:Types:=⟨[⟨⟨#[65,99,99,111,117,110,116]⟩,-1,true,[⟨⟨#[98,97,108,97,110,99,101]⟩,-1000,1000,[]⟩]⟩,⟨⟨#[67,97,115,104]⟩,0,false,[]⟩,⟨⟨#[76,111,97,110]⟩,0,false,[⟨⟨#[115,116,97,116,101]⟩,0,1,[⟨#[111,112,101,110]⟩,⟨#[99,108,111,115,101,100]⟩]⟩]⟩,⟨⟨#[80,101,114,115,111,110]⟩,-1,false,[]⟩],
 [⟨⟨#[111,119,110,115]⟩,3,0,0,-1,1,1⟩,⟨⟨#[112,97,121,115]⟩,1,1,0,-1,0,-1⟩]⟩
theorem Ac:Pure Tryz.prog 51 [] exT.d:=by
 refine tK (by first|rfl|(simp [go_sem];done)) (λQ hQ=>(aI (cfg:=⟨λt=>t==0,λ_=>[]⟩) Tz.mixed Tryz.func51 rfl rfl (aF rfl) (by kernel_rfl) ?_))
 have Y:=trivial
 refine pB (h:=?_)
 exact hQ _ _ (by simp [go_sem,exT,Types.d,Types.c,NodeTy.c,EdgeTy.c,Attr.c,sL,cS,dI])
theorem Pu:uS exT=true:=by decide +kernel
theorem Eb (a:List Int):Pure Tryz.prog 99 [dLI a,dLI a] (.bool true):=by
 refine Tz.pK ⟨λ_=>false,λ_=>[]⟩ Tryz.func99 rfl (λQ hQ=>?_)
 have Y:=trivial
 refine wo (h:=bF (λi e H=>(e 0=dLI a/\e 1=dLI a/\e 5=dI i)/\(i<=a.length)) (λi=>a.length - i) 0 ⟨wg,wi⟩ λI0 hI0 i e H hi0=>?_)
 obtain ⟨E0,hi⟩:=hi0
 have Y:=wa Y E0
 refine wv (h:=?_)
 repeat first|intro _|refine ⟨eO,?_⟩
 refine wq (λh4=>?_) λh4=>?_
 .have Y:=wa Y (wa h4 (aA h4))
  exact wo (h:=wx hI0 (i+1) ⟨wg,wj⟩)
 .have Y:=wa Y h4
  exact wv (h:=hQ _ _ wy)
theorem wH (a:List Int):Pure Tryz.prog 96 [dLI a,dLI a] (.bool true):=by
 refine Tz.pK ⟨λ_=>false,λ_=>[]⟩ Tryz.func96 rfl (λQ hQ=>?_)
 have Y:=trivial
 refine wo (h:=bF (λi e H=>(e 0=dLI a/\e 1=dLI a/\e 5=dI i)/\(i<=a.length)) (λi=>a.length - i) 0 ⟨wg,wi⟩ λI0 hI0 i e H hi0=>?_)
 obtain ⟨E0,hi⟩:=hi0
 have Y:=wa Y E0
 refine wv (h:=?_)
 repeat first|intro _|refine ⟨eO,?_⟩
 refine wq (λh4=>?_) λh4=>?_
 .have Y:=wa Y (wa h4 (aA h4))
  exact wo (h:=wx hI0 (i+1) ⟨wg,wj⟩)
 .have Y:=wa Y h4
  exact wv (h:=hQ _ _ wy)
theorem Dw (p:Part):Pure Tryz.prog 33 [p.d,p.d] (.bool true):=by
 refine Tz.pK ⟨λ_=>false,λ_=>[]⟩ Tryz.func33 rfl (λQ hQ=>?_)
 have Y:=trivial
 refine wo (h:=aB (wH p.nodes) wl ?_)
 refine wo (h:=aG (λhg=>wH p.edges) (λhg=>wl) ?_)
 exact wo (h:=hQ _ _ wy)
deriving instance DecidableEq for Edge
deriving instance DecidableEq for Graph
deriving instance DecidableEq for Part
deriving instance DecidableEq for Host
deriving instance DecidableEq for Mat
theorem IW {x y:Edge}(h:x.type=y.type/\x.from_=y.from_/\x.to_=y.to_):x=y:=by
 obtain ⟨a,b,c⟩:=x;obtain ⟨d,e,f⟩:=y
 obtain ⟨rfl,rfl,rfl⟩:=h;rfl
theorem Bu (a b:Part):decide (a=b)=(decide (a.nodes=b.nodes)&&decide (a.edges=b.edges)):=by
 rw [aT];cases a;cases b;simp
theorem BR (a b:Graph):decide (a=b)=(decide (a.nodes=b.nodes)&&decide (a.edges=b.edges)):=by
 rw [aT];cases a;cases b;simp
theorem RD (a b:Mat):decide (a=b)=(decide (a.m=b.m)&&decide (a.vars=b.vars)):=by
 rw [aT];cases a;cases b;simp
theorem Po (a b:Host):decide (a=b)=(decide (a.graph=b.graph)&&decide (a.values=b.values)):=by
 rw [aT];cases a;cases b;simp
theorem kZ (a b:List Int):Pure Tryz.prog 99 [dLI a,dLI b] (.bool (decide (a=b))):=by
 refine Tz.pK ⟨λ_=>false,λ_=>[]⟩ Tryz.func99 rfl (λQ hQ=>?_)
 have Y:=trivial
 refine wv (h:=?_)
 repeat first|intro _|refine ⟨eO,?_⟩
 refine wq (λh1=>?_) λh1=>?_
 .refine wv (h:=?_)
  have hne:a≠b:=by intro h;subst h;omega
  exact hQ _ _ (by simp [go_sem,hne])
 .refine wv (h:=bF (λi e H=>(e 0=dLI a/\e 1=dLI b/\e 5=dI i)/\(i<=a.length)/\(a.take i=b.take i)) (λi=>a.length - i) 0 ⟨wg,wi,(by rfl)⟩ λI0 hI0 i e H hi0=>?_)
  obtain ⟨E0,hi,he⟩:=hi0
  have Y:=wa Y E0
  refine wv (h:=?_)
  repeat first|intro _|refine ⟨eO,?_⟩
  refine wq (λh4=>?_) λh4=>?_
  .have hib:i<b.length:=aD
   have Y:=wa Y (wa h4 hib)
   refine wv (h:=?_)
   repeat first|intro _|refine ⟨eO,?_⟩
   refine wq (λh6=>?_) λh6=>?_
   .refine wv (h:=?_)
    have hne:a≠b:=by intro h;subst h;exact h6 rfl
    exact hQ _ _ (by simp [go_sem,hne])
   .exact wo (h:=wx hI0 (i+1) ⟨wg,wj,(by rw [aE h4,aE hib,he,h6])⟩)
  .rw [aH aD,aH aD] at he
   exact wv (h:=hQ _ _ (by simp [go_sem,he]))
theorem Dx (a b:Graph):Pure Tryz.prog 106 [a.d,b.d] (.bool (decide (a=b))):=by
 refine Tz.pK ⟨λ_=>false,λ_=>[]⟩ Tryz.func106 rfl (λQ hQ=>?_)
 have Y:=trivial
 refine wo (h:=aB (kZ a.nodes b.nodes) wl ?_)
 refine wv (h:=?_)
 repeat first|intro _|refine ⟨eO,?_⟩
 refine wq (λh1=>?_) λh1=>?_
 .refine wv (h:=?_)
  have hne:a≠b:=by intro h;subst h;simp at h1
  exact hQ _ _ (by simp [go_sem,hne])
 .have hab:a.nodes=b.nodes/\a.edges.length=b.edges.length:=by (try simp at h1);obtain ⟨q1,q2⟩:=h1;exact ⟨q1,aD⟩
  refine wv (h:=bF (λi e H=>(e 2=.adr a.c/\e 3=.adr b.c/\e 5=dI i)/\(i<=a.edges.length)/\(a.edges.take i=b.edges.take i)) (λi=>a.edges.length - i) 0 ⟨wg,wi,(by rfl)⟩ λI0 hI0 i e H hi0=>?_)
  obtain ⟨E0,hi,he⟩:=hi0
  have Y:=wa Y E0
  refine wv (h:=?_)
  repeat first|intro _|refine ⟨eO,?_⟩
  refine wq (λh4=>?_) λh4=>?_
  .have hib:i<b.edges.length:=aD
   have Y:=wa Y (wa h4 (wa (aA h4) (aA hib)))
   refine wv (h:=?_)
   repeat first|intro _|refine ⟨eO,?_⟩
   refine wq (λh6=>?_) λh6=>?_
   .refine wv (h:=?_)
    have hne:a≠b:=by intro h;subst h;simp at h6
    exact hQ _ _ (by simp [go_sem,hne])
   .exact wo (h:=wx hI0 (i+1) ⟨wg,wj,(by rw [aE h4,aE hib,he,IW h6])⟩)
  .have hE:a.edges=b.edges:=by rw [aH aD,aH aD] at he;exact he
   exact wv (h:=hQ _ _ (by simp [go_sem,BR,hab.1,hE]))
theorem sV (a b:Part):Pure Tryz.prog 33 [a.d,b.d] (.bool (decide (a=b))):=by
 refine Tz.pK ⟨λ_=>false,λ_=>[]⟩ Tryz.func33 rfl (λQ hQ=>?_)
 have Y:=trivial
 refine wo (h:=aB (rQ a.nodes b.nodes) wl ?_)
 refine wo (h:=aG (λhg=>rQ a.edges b.edges) (λhg=>wl) ?_)
 have Y:=wa Y @Bu
 exact wo (h:=hQ _ _ wy)
theorem LP (a b:Part):Pure Tryz.prog 94 [a.d,b.d] (.bool (decide (a=b))):=by
 refine Tz.pK ⟨λ_=>false,λ_=>[]⟩ Tryz.func94 rfl (λQ hQ=>?_)
 have Y:=trivial
 refine wo (h:=aB (kZ a.nodes b.nodes) wl ?_)
 refine wo (h:=aG (λhg=>kZ a.edges b.edges) (λhg=>wl) ?_)
 have Y:=wa Y @Bu
 exact wo (h:=hQ _ _ wy)
theorem CF (a b:Mat):Pure Tryz.prog 67 [a.d,b.d] (.bool (decide (a=b))):=by
 refine Tz.pK ⟨λ_=>false,λ_=>[]⟩ Tryz.func67 rfl (λQ hQ=>?_)
 have Y:=wa @Mat.d.eq_1 @Mat.c.eq_1
 refine wo (h:=aB (kZ a.m.nodes b.m.nodes) wl ?_)
 refine wo (h:=aG (λhg=>kZ a.m.edges b.m.edges) (λhg=>wl) ?_)
 refine wo (h:=aG (λhg=>kZ a.vars b.vars) (λhg=>wl) ?_)
 have Y:=wa Y (wa @RD @Bu)
 exact wo (h:=hQ _ _ wy)
def Ap (a b:List Int):Prop:=∃ k:Int,Pure Tryz.prog 107 [dLI a,dLI b] (dI k)/\(k=0↔a=b)
theorem FD (a:List Int):Pure Tryz.prog 107 [dLI a,dLI a] (dI 0):=by
 refine Tz.pK ⟨λ_=>false,λ_=>[]⟩ Tryz.func107 rfl (λQ hQ=>?_)
 have Y:=trivial
 refine wv (h:=bF (λi e H=>(e 0=dLI a/\e 1=dLI a/\e 5=dI i)/\(i<=a.length)) (λi=>a.length - i) 0 ⟨wg,wi⟩ λI0 hI0 i e H hi0=>?_)
 obtain ⟨E0,hi⟩:=hi0
 have Y:=wa Y E0
 refine wv (h:=?_)
 repeat first|intro _|refine ⟨eO,?_⟩
 refine wq (λh2=>?_) λh2=>?_
 .have Y:=wa Y (wa h2 (aA h2))
  exact wo (h:=wx hI0 (i+1) ⟨wg,wj⟩)
 .have Y:=wa Y h2
  exact wo (h:=hQ _ _ wy)
theorem AP (a:List Int):Ap a a:=⟨0,FD a,by simp⟩
theorem xP (a b:Host)(hC:∀ i (h1:i<a.values.length) (h2:i<b.values.length),Ap a.values[i] b.values[i]):Pure Tryz.prog 42 [a.d,b.d] (.bool (decide (a=b))):=by
 refine Tz.pK ⟨λ_=>false,λ_=>[]⟩ Tryz.func42 rfl (λQ hQ=>?_)
 have Y:=wa @Host.d.eq_1 @Host.c.eq_1
 refine wo (h:=aB (Dx a.graph b.graph) wl ?_)
 refine wv (h:=?_)
 repeat first|intro _|refine ⟨eO,?_⟩
 refine wq (λh1=>?_) λh1=>?_
 .refine wv (h:=?_)
  have hne:a≠b:=by intro h;subst h;simp at h1
  exact hQ _ _ (by simp [go_sem,hne])
 .have hab:a.graph=b.graph/\a.values.length=b.values.length:=by (try simp at h1);obtain ⟨q1,q2⟩:=h1;exact ⟨q1,aD⟩
  refine wv (h:=bF (λi e H=>(e 2=.adr a.c/\e 3=.adr b.c/\e 5=dI i)/\(i<=a.values.length)/\(a.values.take i=b.values.take i)) (λi=>a.values.length - i) 0 ⟨wg,wi,(by rfl)⟩ λI0 hI0 i e H hi0=>?_)
  obtain ⟨E0,hi,he⟩:=hi0
  have Y:=wa Y E0
  refine wv (h:=?_)
  repeat first|intro _|refine ⟨eO,?_⟩
  refine wq (λh4=>?_) λh4=>?_
  .have hib:i<b.values.length:=aD
   obtain ⟨k,hk1,hk2⟩:=hC i h4 hib
   have Y:=wa Y (wa h4 (wa (aA h4) (wa (aA hib) @cL.eq_1)))
   refine wo (h:=aJ (hk1) wl ?_)
   refine wv (h:=?_)
   repeat first|intro _|refine ⟨eO,?_⟩
   refine wq (λh6=>?_) λh6=>?_
   .refine wv (h:=?_)
    have hne:a≠b:=by intro h;subst h;exact h6 (hk2.2 rfl)
    exact hQ _ _ (by simp [go_sem,hne])
   .exact wo (h:=wx hI0 (i+1) ⟨wg,wj,(by rw [aE h4,aE hib,he,hk2.1 h6])⟩)
  .have hV:a.values=b.values:=by rw [aH aD,aH aD] at he;exact he
   exact wv (h:=hQ _ _ (by simp [go_sem,Po,hab.1,hV]))
theorem A7 (t:Types)(ht:t.ok)(r:Rule)(hr:r.ok)(h:Host)(m:Mat){v:Stp26}{e:Int}(hv:v=fP t r h m)(he:e=nF t r h m):Pure Tryz.prog 15 [t.d,r.d,h.d,m.d] (.tup [.agg v.c,dI e]):=by
 subst hv he;exact E8 t ht r hr h m
theorem Qx {a b:Graph}{m:Part}(ha:graphF a=0)(hb:graphF b=0)(l1:m.nodes.length=a.nodes.length)(l2:m.edges.length=a.edges.length)
  (hn:∀ i:Int,0<=i->i<a.nodes.length->(0<=iA m.nodes i/\iA m.nodes i<b.nodes.length)/\gN b (iA m.nodes i)=gN a i)
  (he:∀ k:Int,0<=k->k<a.edges.length->(0<=iA m.edges k/\iA m.edges k<b.edges.length)/\(eA a k).type=(eA b (iA m.edges k)).type/\iA m.nodes (eA a k).from_=(eA b (iA m.edges k)).from_/\iA m.nodes (eA a k).to_=(eA b (iA m.edges k)).to_):eJ a b m=0:=by
 unfold eJ
 rw [if_neg (by rw [ha];simp),if_neg (by rw [hb];simp),if_neg aD]
 have h1:bT (j9 a b m) 0 a.nodes.length=0:=mQ _ _ λi _ hi=>by
  have:=hn i aD aD
  unfold iA gN at this
  unfold j9
  simp only [Int.toNat_natCast] at this
  rw [if_neg aD,if_neg (by rw [this.2];simp)]
 rw [if_neg (by rw [h1];simp)]
 refine mQ _ _ λk _ hk=>?_
 have:=he k aD aD
 unfold iA eA at this
 simp only [Int.toNat_natCast] at this
 obtain ⟨q1,q2,q3,q4⟩:=this
 unfold iE
 rw [if_neg aD,if_neg (by rw [q2];simp),if_neg]
 rintro (h|h)
 .exact h q3
 .exact h q4
section
variable {g:Graph} {p:Part} {more:Graph} {kept:Part} {im:List Int}
end
section
variable {t:Types} {a b:Rule} {o:Ovl}
end
section
variable {g:Graph} {p q:List Int}
end
section
variable {t:Types} {g:Graph} {d:Dr24}
structure GrOk (t:Types) (g G:Graph):Prop where
 ok:graphF G=0
 ty:g7 t G=true
 no:∀ i:Int,0<=i->i<g.nodes.length->gN G i=gN g i
 ed:∀ k:Int,0<=k->k<g.edges.length->eA G k=eA g k
 fi:∀ k:Int,g.edges.length<=k->k<G.edges.length->n3 t (eA G k).type (gN G (eA G k).from_) (gN G (eA G k).to_)=true
 ln:g.nodes.length<=G.nodes.length
 le:g.edges.length<=G.edges.length
end
/-! ### type graphs -/
structure MadeTy (t:Types):Prop where
 v:(cZ t).2=0
 fine:t.fine
 ne:t.edges.length<=5
 nn:t.nodes.length<=6
structure SlotIn (t:Types) (ns:List Int) (v:Int) (s:Slot):Prop where
 n0:0<=s.node
 n1:s.node<ns.length
 a0:0<=s.attr
 a1:s.attr<(bL t (ns[s.node.toNat]?.getD 0)).length
 v0 : -1<=s.term.var
 v1:s.term.var<v
 d0 : -1000000<=s.term.add
 d1:s.term.add<=1000000
theorem SlotIn.mono {t:Types}{ns:List Int}{v w:Int}{s:Slot}(h:SlotIn t ns v s)(hv:v<=w):SlotIn t ns w s:=⟨h.n0,h.n1,h.a0,h.a1,h.v0,by have:=h.v1;omega,h.d0,h.d1⟩
def Kf (t:Types)(d:Dr24):Part:=⟨(OZ (RT t d).nodes.length d.order).take (Uy t d).nodes.length,(OZ (RT t d).edges.length d.order).take (Uy t d).edges.length⟩
structure Core24 (t:Types) (d:Dr24):Prop where
 g0:graphF (yA t d.left.graph)=0
 t0:g7 t (yA t d.left.graph)=true
 gR:graphF (NL t d)=0
 tR:g7 t (NL t d)=true
 sub:subF (yA t d.left.graph) (Kb t d)=0
 mor:eJ (cY (yA t d.left.graph) (Kb t d)) (NL t d) (Kf t d)=0
 inj:CQ (cY (yA t d.left.graph) (Kb t d)) (NL t d) (Kf t d)=true
 mkb:x9 t (NL t d) (bJ (Kf t d).nodes (NL t d).nodes.length) (bJ (Kf t d).edges (NL t d).edges.length)=true
def u0 (p:Nat->Bool)(n:Nat):Nat:=((List.range n).filter p).length
theorem y9 (p:Nat->Bool)(n:Nat):u0 p (n+1)=u0 p n+(if p n=true then 1 else 0):=by
 unfold u0
 rw [dF,kL,aL]
 by_cases h:p n=true<;>simp [h]
theorem GK (p:Nat->Bool):∀ n,u0 p n+u0 (λi=>!p i) n=n
 | 0=>rfl
 | n+1=>by
  have ih:=GK p n
  rw [y9,y9]
  cases p n<;>simp<;>omega
theorem L6 (l:List Int)(n:Nat):(bJ l n).length=u0 (λi=>!mem l i) n:=by unfold bJ u0;rw [aW]
theorem GJ {p q:Nat->Bool}{n:Nat}(h:∀ i,i<n->p i=q i):u0 p n=u0 q n:=by
 unfold u0
 rw [List.filter_congr λi hi=>h i (bP.1 hi)]
theorem PC (p:Nat->Bool)(v:Nat):∀ n,u0 (λi=>p i||decide (i=v)) n=u0 p n+(if v<n/\p v=false then 1 else 0)
 | 0=>by simp [u0]
 | n+1=>by
  rw [y9,y9,PC p v n]
  by_cases h:n=v
  .subst h
   cases hp:p n<;>simp [hp]
  .have e:decide (n=v)=false:=by simpa using h
   have h2:(v<n+1/\p v=false)↔(v<n/\p v=false):=⟨λ⟨a,b⟩=>⟨aD,b⟩,λ⟨a,b⟩=>⟨aD,b⟩⟩
   rw [e,qJ]
   simp only [h2]
   omega
theorem Af (l:List Int)(v:Int){j:Nat}(h:j<l.length):mem (l.take (j+1)) v=(mem (l.take j) v||decide (l[j]=v)):=by
 rw [aT,c4,mem_iff,mem_iff,aE h,aV,bK,decide_eq_true_eq]
 exact ⟨λh=>h.imp id Eq.symm,λh=>h.imp id Eq.symm⟩
def GE (l:List Int)(k:Nat):Nat:=((List.range k).filter λi=>!mem (l.take i) (l[i]?.getD 0)).length
theorem GD (l:List Int)(k:Nat):GE l (k+1)=GE l k+if mem (l.take k) (l[k]?.getD 0)=true then 0 else 1:=by
 unfold GE
 rw [dF,kL,aL]
 cases h:mem (l.take k) (l[k]?.getD 0)<;>simp [h]
theorem MH {l:List Int}{n:Nat}(hr:∀ x∈l,0<=x/\x<n):∀ k,k<=l.length->GE l k=u0 (λi=>mem (l.take k) i) n
 | 0,_=>by
  have:u0 (λi=>mem (l.take 0) (i:Int)) n=u0 (λ_=>false) n:=GJ λi _=>by simp [vT]
  have h2:u0 (λ_=>false) n=0:=by
   unfold u0
   rw [List.filter_eq_nil_iff.2 (λ_ _=>by simp)]
   rfl
  rw [this,h2];rfl
 | k+1,hk=>by
  have ih:=MH hr k aD
  have hx:=hr _ (aC (aD:k<l.length))
  have e:u0 (λi=>mem (l.take (k+1)) (i:Int)) n=u0 (λi=>mem (l.take k) (i:Int)||decide (i=l[k].toNat)) n:=GJ λi _=>by
   rw [Af l _ (aD:k<l.length)]
   congr 1
   rw [decide_eq_decide];omega
  rw [e,PC,GD,ih,aA (aD:k<l.length),Option.getD_some,show ((l[k].toNat:Nat):Int)=l[k] by omega]
  have hlt:l[k].toNat<n:=aD
  cases hm:mem (l.take k) l[k]<;>simp [hlt]
theorem L5 {l:List Int}{n:Nat}(hr:∀ x∈l,0<=x/\x<n):(bJ l n).length+GE l l.length=n:=by
 rw [L6,MH hr l.length (bC _),zG]
 have:=GK (λi=>mem l (i:Int)) n
 omega
theorem GC {l:List Int}(hd:l.Nodup):∀ k,k<=l.length->GE l k=k
 | 0,_=>rfl
 | k+1,hk=>by
  rw [GD,GC hd k aD,if_neg]
  rw [Bool.not_eq_true,bH]
  intro hm
  have hk':k<l.length:=aD
  rw [mem_iff,aA hk',Option.getD_some] at hm
  have h2:(l.take (k+1)).Nodup:=(List.take_sublist _ _).nodup hd
  rw [aE hk',nA] at h2
  exact h2.2.2 _ hm _ (bK.2 rfl) rfl
theorem By {l:List Int}{n:Nat}(hr:∀ x∈l,0<=x/\x<n)(hd:l.Nodup):(bJ l n).length+l.length=n:=by
 have:=L5 hr
 rw [GC hd _ (bC _)] at this
 exact this
section
variable {t:Types} {r:Rule} {h:Host} {m:Mat}
theorem StepIn.imN (S:StepIn t r h m):∀ x∈m.m.nodes,0<=x/\x<h.graph.nodes.length:=λx hx=>by
 obtain ⟨i,hi,rfl⟩:=aO hx
 have:=S.hm.len
 exact (S.hm.img i hi aD).1
theorem StepIn.imE (S:StepIn t r h m):∀ x∈m.m.edges,0<=x/\x<h.graph.edges.length:=λx hx=>by
 obtain ⟨i,hi,rfl⟩:=aO hx
 exact S.hm.eimg i hi
end
structure StepOk (t:Types) (r:Rule) (h:Host) (m:Mat):Prop where
 S:StepIn t r h m
 pre:qL t r h m=0
 sol:d9 t r.left h m.m=(m.vars,0)
 put:sJ t (b7 t r h m).graph (fB r h m) m.vars r.right.slots=0
 nn:(b7 t r h m).graph.nodes.length<=40
 ne:(b7 t r h m).graph.edges.length<=80
theorem Rl {t:Types}{r:Rule}{h:Host}{m:Mat}(hR:RuleV t r)(ho:HostOk t h)(h0:kP t r h m=0):StepOk t r h m:=by
 unfold kP at h0
 split at h0
 .contradiction
 .rename_i h1
  have hp:lE t r h m=0:=by simpa using h1
  unfold lE at hp
  split at hp
  .contradiction
  .rename_i h2
   have h2':qL t r h m=0:=by simpa using h2
   have hsol:d9 t r.left h m.m=(m.vars,0):=by
    unfold qL at h2'
    split at h2'
    .cases h2'
    .split at h2'
     .contradiction
     .rename_i h4
      split at h2'
      .cases h2'
      .rename_i h5
       exact Prod.ext (bW h5) (bW h4)
   split at h0
   .contradiction
   .rename_i h3
    split at h0
    .cases h0
    .rename_i h4
     exact ⟨Nx hR ho h2',h2',hsol,by simpa using h3,aD,aD⟩
theorem StepOk.after {t:Types}{r:Rule}{h:Host}{m:Mat}(S:StepOk t r h m):iF t (cX t r h m)=0:=S.S.after S.put S.nn S.ne
@[go_sem] theorem aa1 (o:Option UInt8)(a0:D):((Option.map cU o).getD [a0]).length=1:=by cases o<;>rfl
@[go_sem] theorem Z9 (o:Option B3)(a0 a1 a2:D):((Option.map SA o).getD [a0,a1,a2]).length=3:=by cases o<;>rfl
@[go_sem] theorem aa2 (o:Option B2)(a0 a1:D):((Option.map cP o).getD [a0,a1]).length=2:=by cases o<;>rfl
theorem L9 (l:List Slot):eR (l.map Slot.c)=l.map Slot.c:=k6 λc hc=>by
 rw [bA] at hc;obtain ⟨x,_,rfl⟩:=hc;rfl
theorem L8 (l:List Test):eR (l.map Test.c)=l.map Test.c:=k6 λc hc=>by
 rw [bA] at hc;obtain ⟨x,_,rfl⟩:=hc;rfl
theorem SY (c:Cond):i6 c.c=c.c:=by
 refine i9 (p:=λc=>i6 c.c=c.c) (λc ih=>?_) c
 rw [Cond.c_eq]
 have hk:eR (c.kids.map Cond.c)=c.kids.map Cond.c:=k6 λd hd=>by
  rw [bA] at hd;obtain ⟨x,hx,rfl⟩:=hd;exact ih x hx
 simp [i6,lU,dLI,dI,eI,x7,L9,L8,hk]
theorem RB (l:List Cond):eR (l.map Cond.c)=l.map Cond.c:=k6 λc hc=>by
 rw [bA] at hc;obtain ⟨x,_,rfl⟩:=hc;exact SY x
theorem WY (l:List (List Int)):eR (l.map cL)=l.map cL:=k6 λc hc=>by
 rw [bA] at hc;obtain ⟨x,_,rfl⟩:=hc
 simp [cL,dLI,i6,lU,eI]
def small (d:Dr5)(a b:Nat):Dr5:=⟨d.nodes.take (min d.nodes.length a),d.edges.take (min d.edges.length b)⟩
structure Dr26 where
 types:List B2
 ends:List B2
 rule:Dr24
 host:Dr15
def Dr26.c (d:Dr26):List D:=[.list (d.types.map cP),.list (d.ends.map cP)]++d.rule.c++d.host.c
@[go_sem] theorem Dr26.cl (d:Dr26):D.clL d.c=true:=by simp [Dr26.c,AR,Dr24.cl,Dr15.c,D.clL,D.cl,Sd,Ca]
def t26 (d:Dr26):Types:=Xd d.types d.ends
def KO (d:Dr26):Host:=Ux (t26 d) ⟨d.host.nodes.take (min d.host.nodes.length 6),d.host.edges.take (min d.host.edges.length 8)⟩
@[go_sem] theorem Z7 (o:Option Mat)(a0 a1 a2:D):((Option.map Mat.c o).getD [a0,a1,a2]).length=3:=by cases o<;>rfl
/-! ### StepCounts -/
@[go_sem] theorem U1 (l:List Int):GE l 0=0:=rfl
def Em:List Int->List Int->Int
 | x :: l,y :: m=>if x≠y then IntKind.i64.wrap (x - y) else Em l m
 | l,m=>IntKind.i64.wrap ((l.length:Int) - m.length)
theorem GM {l m:List Int}(h:l=[]\/m=[]):Em l m=IntKind.i64.wrap ((l.length:Int) - m.length):=by
 rcases h with rfl|rfl
 .cases m<;>simp [Em]
 .cases l<;>simp [Em]
theorem I7 (x y:Int)(l m:List Int):Em (x :: l) (y :: m)=if x≠y then IntKind.i64.wrap (x - y) else Em l m:=by simp [Em]
def Jj (x:Int):Prop:=-9223372036854775808<=x/\x<=9223372036854775807
theorem SE {x y:Int}(hx:Jj x)(hy:Jj y)(h:x≠y):IntKind.i64.wrap (x - y)≠0:=by
 rw [IntKind.wrap_i64];unfold Jj at hx hy;omega
theorem IZ:∀ {a b:List Int},(∀ x∈a,Jj x)->(∀ x∈b,Jj x)->a.length<=1000000000000000->b.length<=1000000000000000->(Em a b=0↔a=b)
 | [],b,_,_,_,h2=>by
  rw [GM (.inl rfl),IntKind.wrap_i64]
  cases b with
  | nil=>simp
  | cons y m=>simp at h2 ⊢;omega
 | x :: l,[],_,_,h1,_=>by
  rw [GM (.inr rfl),IntKind.wrap_i64]
  simp at h1 ⊢;omega
 | x :: l,y :: m,ha,hb,h1,h2=>by
  have ih:=IZ (a:=l) (b:=m) (λz hz=>ha z (dD _ hz)) (λz hz=>hb z (dD _ hz)) (by simp at h1;omega) (by simp at h2;omega)
  rw [I7]
  by_cases h:x=y
  .subst h
   rw [if_neg bV,ih];simp
  .rw [if_pos h]
   have:=SE (ha x bV) (hb y bV) h
   constructor
   .intro h0;exact absurd h0 this
   .intro h0;cases h0;exact absurd rfl h
theorem FC (a b:List Int):Pure Tryz.prog 107 [dLI a,dLI b] (dI (Em a b)):=by
 refine Tz.pK ⟨λt=>t==2000000,λ_=>[]⟩ Tryz.func107 rfl (λQ hQ=>?_)
 have Y:=trivial
 refine wv (h:=bF (λi e H=>(e 0=dLI a/\e 1=dLI b/\e 5=dI i)/\(i<=a.length)/\(i<=b.length)/\(Em (a.drop i) (b.drop i)=Em a b)) (λi=>a.length - i) 0 ⟨wg,wi,wi,(by rfl)⟩ λI0 hI0 i e H hi0=>?_)
 obtain ⟨E0,hi,hi2,hc⟩:=hi0
 have Y:=wa Y E0
 refine wv (h:=?_)
 repeat first|intro _|refine ⟨eO,?_⟩
 refine wq (λh2=>?_) λh2=>?_
 .have hia:i<a.length:=aD
  have hib:i<b.length:=aD
  have hst:=hc
  rw [eF hia,eF hib,I7] at hst
  have Y:=wa Y (wa h2 (wa (aA hia) (aA hib)))
  refine wv (h:=?_)
  repeat first|intro _|refine ⟨eO,?_⟩
  refine wq (λh4=>?_) λh4=>?_
  .rw [if_pos h4] at hst
   exact wo (h:=hQ _ _ (by simp [go_sem,<- hst]))
  .rw [if_neg (bW h4)] at hst
   exact wo (h:=wx hI0 (i+1) ⟨wg,wj,wj,(by exact hst)⟩)
 .have hX:Em a b=IntKind.i64.wrap ((a.length:Int) - b.length):=by
   rw [<- hc,GM]
   .congr 1;rw [gG,gG];omega
   .rcases bZ i a.length with h|h
    .right;rw [List.drop_eq_nil_iff];omega
    .left;rw [List.drop_eq_nil_iff];omega
  exact wo (h:=hQ _ _ (by simp [go_sem,hX]))
theorem R6 {a b:List Int}(ha:∀ x∈a,Jj x)(hb:∀ x∈b,Jj x)(h1:a.length<=1000000000000000)(h2:b.length<=1000000000000000):Ap a b:=⟨_,FC a b,IZ ha hb h1 h2⟩
end Go.Abs
end
