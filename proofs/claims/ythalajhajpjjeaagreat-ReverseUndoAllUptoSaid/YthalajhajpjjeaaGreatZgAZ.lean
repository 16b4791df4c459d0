/- Layer 27: lists of steps. · Layer 27: UndoAll of the program -/
import Derived.Test.YthalajhajpjjeaaGreatZgAF
import Derived.Test.YthalajhajpjjeaaGreatZgAA
import Derived.Test.YthalajhajpjjeaaGreatZgAY
import Derived.Test.YthalajhajpjjeaaGreatZgAQ
import Derived.OpenShut
import Derived.Test.YthalajhajpjjeaaGreatRows
set_option linter.unusedVariables false
set_option linter.unusedSimpArgs false
section
set_option maxRecDepth 100000
set_option maxHeartbeats 4000000
open Go Go.Proofs
namespace Go.Abs
theorem Rf (l:List Int)(k:Nat):MQ l (k+1)=MQ l k++[(iA l k,(k:Int))]:=by simp [MQ,c7]
theorem y3 (l:List Int):(iY l).length=l.length:=by unfold iY;rw [gB,dM]
theorem FR (l:List Int)(z:l.length<=1000000)(u:∀ x∈l,0<=x/\x<l.length):Pure Tryz.prog 104 [dLI l] (dLI (iY l)):=by
 refine Tz.pK ⟨λt=>t==3,λ_=>[]⟩ Tryz.func104 rfl (λQ w=>?_)
 try simp [go_sem,seval]
 repeat first|intro _|refine ⟨eL,?_⟩
 obtain ⟨q,g⟩:∃ q:Nat->dJ->AHeap->Prop,∀ (i:Nat) (e:dJ) (H:AHeap),q i e H↔(∃ f:List Int,(e 0=dLI l)/\(e 3=.own 0 l.length)/\(e 4=dI i)/\(H.get 0=some ⟨3,1,f.map cI,false⟩)/\(0<H.next)/\(i<=l.length)/\(f=lF (MQ l i) (List.replicate l.length 0))/\(f.length=l.length)):=⟨λi e H=>_,λ_ _ _=>Iff.rfl⟩
 refine oD q (λi=>l.length - i) (0) ((g _ _ _).2 ⟨((List.replicate l.length 0)),?_,?_,?_,(by simp [go_sem,go_sem]),?_,(by first|assumption|omega|(simp [go_sem];done)|(simp_all;done)),(by rfl),(by simp)⟩) ?_
 iterate 4 (first|omega|(simp [go_sem,seval]<;>omega))
 intro i e H p
 obtain ⟨f,k,j,h,a,m,A,r,o⟩:=(g _ _ _).1 p
 have s:=b8 m
 have d:=And.intro k (And.intro j (And.intro h s))
 try simp [go_sem,seval,d,a]
 repeat first|intro _|refine ⟨eL,?_⟩
 refine aP (λb=>?_) (λb=>?_)
 .try simp [go_sem] at b
  have v:=u _ (aC b)
  have c:l[i].toNat<f.length:=aD
  try simp [go_sem,seval,d,a,b,aA b,aA c]
  repeat first|intro _|refine ⟨eL,?_⟩
  refine d7 (i+1) aD ((g _ _ _).2 ⟨(f.set l[i].toNat i),?_,?_,?_,(by simp [go_sem,d,a,b,aA b,aA c,bY]),?_,(by first|assumption|omega|(simp [go_sem,d,a,b,aA b,aA c];done)|(simp_all<;>omega)),(by rw [Rf,lA b,sB,<- r]),(by rw [g7];exact o)⟩)<;>first|omega|(simp [go_sem,seval,d,a,b,aA b,aA c]<;>omega)
 .try simp [go_sem] at b
  have y:f=iY l:=by rw [r,(aD:i=l.length)];rfl
  have n:=y3 l
  rw [y] at a
  try simp [go_sem,seval,d,a,a]
  exact w _ _ (by first|(left;(simp [go_sem,d,a,a,n,dLI]);done)|(right;(simp [go_sem,d,a,a,n,dLI]);done))
theorem qI (l b:List Int)(s:l.length<=1000000)(p:∀ x∈l,x<b.length):Pure Tryz.prog 105 [dLI l,dLI b] (dLI (e8 l b)):=by
 refine Tz.pK ⟨λt=>t==5,λ_=>[]⟩ Tryz.func105 rfl (λQ q=>?_)
 have Y:=trivial
 refine wv (h:=bD (λi e H=>(e 0=dLI l/\e 1=dLI b/\e 5=.own 0 i/\e 6=dI i)/\(H.get 0=some ⟨3,1,(e8 (l.take i) b).map cI,false⟩)/\(0<H.next)/\(i<=l.length)) (λi=>l.length - i) 0 ⟨wg,(by simp [go_sem,e8]),wn,wi⟩ λv j i e H m=>?_)
 obtain ⟨r,a,f,u⟩:=m
 have Y:=wa Y (wa r (wa a (b8 f)))
 refine rT (λk=>?_) λk=>?_
 .have hck:=p _ (aC k)
  have c:(e8 (l.take i) b).length=i:=by unfold e8;rw [aV,c5];omega
  have g:e8 (l.take (i+1)) b=e8 (l.take i) b++[if 0<=l[i] then iA b l[i] else l[i]]:=by unfold e8;rw [aE k,List.map_append];rfl
  have Y:=wa Y (wa k (wa (aA k) c))
  refine rT (λn=>?_) λn=>?_
  .have hz:0<=l[i]:=by simpa using n
   have o:l[i].toNat<b.length:=aD
   have d:e8 (l.take (i+1)) b=e8 (l.take i) b++[b[l[i].toNat]]:=by rw [g,if_pos hz,Su o]
   have Y:=wa Y (aA o)
   exact wp (h:=wx j (i+1) ⟨wg,(by simp [go_sem,Y,d,cI]),wn,wj⟩)
  .have d:e8 (l.take (i+1)) b=e8 (l.take i) b++[l[i]]:=by rw [g,if_neg (bX n)]
   exact wp (h:=wx j (i+1) ⟨wg,(by simp [go_sem,Y,d,cI]),wn,wj⟩)
 .have hie:i=l.length:=aD
  rw [aG aD] at a
  have c:(e8 l b).length=l.length:=by simp [e8]
  exact wv (h:=q _ _ (by simp [go_sem,Y,hie,c,dLI]))
theorem oV {l:List Stp26}{i:Nat}(h:i<l.length):qG l i=l[i]:=by unfold qG;rw [aA h];rfl
theorem Ka (t:Types)(D:t.ok)(l:List Stp26)(S:l.length<=1000000)(M:∀ s∈l,s.rule.ok):Pure Tryz.prog 101 [t.d,.list (l.map Stp26.c)] (dI (yW t l)):=by
 obtain ⟨G,I⟩:=cW (bQ (yA t l) 0 l.length)
 have O:yW t l=if (b9 t).2≠0 then (b9 t).2 else if l.length=0 then 7 else if 30<l.length then 3 else G:=by rw [I];rfl
 rw [O]
 refine Tz.pK ⟨λt=>t==7,λ_=>[]⟩ Tryz.func101 rfl (λQ f=>?_)
 have Y:=trivial
 refine pM (h:=aB (Ay t D) wl ?_)
 refine pM (h:=wq (λp=>?_) λp=>?_)
 .exact pM (h:=f _ _ (by simp [go_sem,p]))
 .refine jM (h:=wq (λq=>?_) λq=>?_)
  .exact pM (h:=f _ _ (by simp [go_sem,p,q]))
  .refine jM (h:=wq (λP=>?_) λP=>?_)
   .exact pM (h:=f _ _ (by simp [go_sem,p,q,(aD:30<l.length)]))
   .have hpre:(if (b9 t).2≠0 then (b9 t).2 else if l.length=0 then 7 else if 30<l.length then 3 else G)=G:=by rw [if_neg (bX p),if_neg (bX q),if_neg aD]
    rw [hpre] at f
    refine jM (h:=bD (λi e H=>(e 2=.adr t.c/\e 1=.list (l.map Stp26.c)/\e 21=.list (l.map Stp26.c)/\e 22=dI l.length/\e 23=dI i)/\(i<=l.length)/\(bQ (yA t l) i (l.length - i)=G)) (λi=>l.length - i) 0 ⟨wg,wi,(by exact I.symm)⟩ λU A i e H y=>?_)
    obtain ⟨R,T,a⟩:=y
    have Y:=wa Y R
    refine pM (h:=wq (λm=>?_) λm=>?_)
    .rw [eI _ m] at a
     have E:=aC m
     obtain ⟨s,u⟩:=cW (l[i])
     have r:qG l i=s:=by rw [u,oV m]
     rw [<- u] at E
     obtain ⟨b,F⟩:=cW (Aq t s)
     have o:yA t l i=if b=false then 1 else if 0<i/\(qG l (i - 1)).after≠s.before then 11 else 0:=by unfold yA;rw [r,<- F]
     have B:=DI t D s (M s E) rfl rfl
     have z:(decide (nT t s.rule s.before s.mat=0)&&decide (fU t s.rule s.before s.mat=s))=b:=F.symm
     rw [z] at B
     simp only [Stp26.c,Rule.c,Mat.c,Host.c,cX,cZ] at B
     have Y:=wa Y (wa m (wa (aA m) (wa (Eq.symm u) (wa @Stp26.c.eq_1 (wa @Rule.c.eq_1 (wa @Mat.c.eq_1 @Host.c.eq_1))))))
     refine jM (h:=aB (B) wl ?_)
     refine jM (h:=wq (λk=>?_) λk=>?_)
     .have hbf:b=false:=by simpa using k
      rw [o,if_pos hbf,if_pos aD] at a
      exact pM (h:=f _ _ (by simp [go_sem,<- a]))
     .have hbt:b=true:=by simpa using k
      rw [hbt,if_neg bW] at o
      obtain ⟨w,C⟩:=cW (qG l (i - 1))
      have n:i - 1<l.length:=aD
      have x:l[i - 1]=w:=by rw [C,oV n]
      have v:((i:Int) - 1).toNat=i - 1:=aD
      rw [<- C] at o
      have J:=A8 w.after s.before
      unfold Host.d Host.c at J
      have Y:=wa Y (wa v (wa (aA n) x))
      refine jM (h:=dL (λN=>J) (λN=>wl) ?_)
      refine jM (h:=wq (λj=>?_) λj=>?_)
      .have hne:0<i/\w.after≠s.before:=by simpa using j
       have g:yA t l i=11:=by rw [o,if_pos hne]
       rw [g,if_pos aD] at a
       exact pM (h:=f _ _ (by simp [go_sem,<- a]))
      .have hst2:bQ (yA t l) (i+1) (l.length - (i+1))=G:=by
        have g:yA t l i=0:=by
         rw [o,if_neg]
         rintro ⟨L,K⟩
         have:=j
         simp [L,K] at this
        rw [g,if_neg aD] at a;exact a
       exact jM (h:=wx A (i+1) ⟨wg,wj,(by exact hst2)⟩)
    .have hz0:G=0:=by rw [<- a,(aD:l.length - i=0)];rfl
     exact pM (h:=f _ _ (by simp [go_sem,hz0]))
theorem AT (t:Types)(l:List Stp26)(c:Nat)(g:Host)(m:Part)(out:List Stp26):Bv t l (c+1) g m out=if pP t (qG l c)≠0 then ([],⟨[],[]⟩,pP t (qG l c)) else if M7 t (qG l c) g m≠0 then ([],⟨[],[]⟩,M7 t (qG l c) g m)
 else Bv t l c (s6 t (qG l c) g m).after (sR (qG l c) (s6 t (qG l c) g m) m) (out++[s6 t (qG l c) g m]):=rfl
theorem Lq {t:Types}{s:Stp26}(h:pP t s=0):tB t s=d8 t s:=by
 unfold pP at h
 split at h
 .cases h
 .rename_i q;unfold tB;rw [if_neg q]
theorem Ex (t:Types)(ht:t.ok)(l:List Stp26)(hl:l.length<=1000000)(hr:∀ s∈l,s.rule.ok):Pure Tryz.prog 38 [t.d,.list (l.map Stp26.c)] (.tup [.list ((gZ t l).1.map Stp26.c),(gZ t l).2.1.d,dI (gZ t l).2.2]):=by
 have kL:=Ka t ht l hl hr
 have hCh:=λh=>Nx (t:=t) (l:=l) h
 obtain ⟨e0,he0⟩:∃ e,e=yW t l:=⟨_,rfl⟩
 obtain ⟨G,hG⟩:=cW (Bv t l l.length (tQ l) (o8 (tQ l).graph) [])
 have hU:gZ t l=if e0≠0 then ([],⟨[],[]⟩,e0) else G:=by rw [hG,he0];rfl
 rw [<- he0] at kL hCh
 rw [hU]
 clear he0 hU
 refine Tz.pK ⟨λt=>t==5||t==8||t==9||t==10||t==12||t==14||t==15,λr=>match r with|10=>[(0,9),(3,9),(4,9),(5,9)]|13=>[(0,13),(3,13),(4,13),(5,13),(6,13),(7,13),(8,13),(0,14),(3,14),(4,14),(5,14),(6,14),(7,14),(8,14),(13,14)]|17=>[(2,3)]|_=>[]⟩ Tryz.func38 rfl (λQ hQ=>?_)
 have Y:=wa @Part.d.eq_1 (wa @Part.c.eq_1 (wa @Host.d.eq_1 @Host.c.eq_1))
 refine pM (h:=aB (kL) wl ?_)
 refine pM (h:=wq (λh2=>?_) λh2=>?_)
 .exact pM (h:=hQ _ _ (by simp [go_sem,show ¬ e0=0 by simpa using h2,Part.d,Part.c,dLI]))
 .have hE0:e0=0:=by simpa using h2
  have hC:=hCh hE0
  have hpos:=hC.pos
  have hfew:=hC.few
  rw [if_neg (by omega:¬ e0≠0)] at hQ
  have hpi:((l.length:Int) - 1).toNat=l.length - 1:=aD
  have hll:l.length - 1<l.length:=aD
  obtain ⟨g0,hg0⟩:∃ g,g=tQ l:=⟨_,rfl⟩
  have hla:(l[l.length - 1]'hll).after=g0:=by rw [hg0];unfold tQ;rw [oV hll]
  have hst:=Jd hC hr
  rw [<- hg0] at hst hG
  have hgs:g0.graph.nodes.length<=100000/\g0.graph.edges.length<=100000:=by
   have hm:=aC hll
   have hk:=hC.chk _ hll
   rw [oV hll] at hk
   obtain ⟨q1,K,_⟩:=q8 (hr _ hm) hk
   have q2:=congrArg Stp26.after q1
   rw [hla] at q2
   rw [q2]
   have a1:=K.nn
   have a2:=K.ne
   exact ⟨by show (bZ t _ _ _).graph.nodes.length<=_;omega,by show (bZ t _ _ _).graph.edges.length<=_;omega⟩
  have kN:=uZ g0.graph hgs.1 hgs.2
  have e1:(⟨iW g0.graph.nodes.length,iW g0.graph.edges.length⟩:Part)=o8 g0.graph:=rfl
  rw [e1] at kN
  obtain ⟨m0,hm0⟩:∃ m,m=o8 g0.graph:=⟨_,rfl⟩
  rw [<- hm0] at kN hst hG
  have Y:=wa Y (wa hpi (wa (aA hll) (wa hla (wa @Stp26.c.eq_1 (wa @Rule.c.eq_1 @Mat.c.eq_1)))))
  refine jM (h:=aB (kN) wl ?_)
  refine jM (h:=bD (λc e H=>∃ out:List Stp26,∃ g:Host,∃ m:Part,(e 2=.adr t.c/\e 1=.list (l.map Stp26.c)/\e 5=.ptr 0 1 0 0/\e 8=.ptr 1 1 0 0/\e 9=.ptr 2 1 0 0/\e 10=.own 3 out.length/\e 11=.int .i64 ((c:Int) - 1))/\(H.get 0=some ⟨36,2,[[.nil,.nil]],false⟩)/\(0<H.next)/\(H.get 1=some ⟨44,3,[[dLI g.graph.nodes,.list (g.graph.edges.map Edge.c),.list (g.values.map cL)]],false⟩)/\(1<H.next)/\(H.get 2=some ⟨36,2,[[dLI m.nodes,dLI m.edges]],false⟩)/\(2<H.next)/\(H.get 3=some ⟨53,38,out.map Stp26.c,false⟩)/\(3<H.next)/\(c<=l.length)/\(Ub l c g m)/\(Bv t l c g m out=G)/\(out.length+c<=l.length)) (λc=>c) l.length ⟨([]),g0,m0,wg,wn,wn,wn,wn,wn,wn,wn,wn,wi,(by exact hst),(by exact hG.symm),(by simp)⟩ λI0 hI0 c e H hi0=>?_)
  obtain ⟨out,g,m,E0,g0_0,n0_0,g1_0,n1_0,g2_0,n2_0,g3_0,n3_0,hc,hI,hF,hol⟩:=hi0
  have Y:=wa Y (wa @Part.c.eq_1 (wa @Host.c.eq_1 (wa @Stp26.c.eq_1 (wa @Rule.c.eq_1 (wa @Mat.c.eq_1 (wa E0 (wa g0_0 (wa (b8 n0_0) (wa g1_0 (wa (b8 n1_0) (wa g2_0 (wa (b8 n2_0) (wa g3_0 (b8 n3_0))))))))))))))
  refine pM (h:=wq (λh8=>?_) λh8=>?_)
  .obtain ⟨j,hj⟩:∃ j,c=j+1:=⟨c - 1,aD⟩
   have hjl:j<l.length:=aD
   have hcj:(c:Int) - 1=(j:Int):=aD
   obtain ⟨s,hs⟩:=cW (l[j])
   have hsi:qG l j=s:=by rw [hs,oV hjl]
   have hm:s∈l:=by rw [hs];exact aC _
   have hk:Aq t s=true:=by rw [<- hsi];exact hC.chk j hjl
   have hsr:=hr s hm
   obtain ⟨q1,K,hUO⟩:=q8 hsr hk
   have hIs0:HIso g s.after m:=by
    rcases hI with h|h
    .omega
    .rw [hj,(aD:j+1 - 1=j),hsi] at h;exact h
   have hz:=hUO.sz
   have hc1:=hUO.c1
   have hc3:=hUO.c3
   rw [hj,AT,hsi] at hF
   obtain ⟨R,hR⟩:=cW (tB t s)
   obtain ⟨e1,he1⟩:∃ e,e=pP t s:=⟨_,rfl⟩
   obtain ⟨er,her⟩:∃ e,e=M7 t s g m:=⟨_,rfl⟩
   obtain ⟨v,hv⟩:=cW (if er=0 then s6 t s g m else kJ)
   obtain ⟨p,hp⟩:=cW (if er=0 then sR s (s6 t s g m) m else ⟨[],[]⟩)
   have kV:=wY t ht s hUO
   have kU:e1=0->Pure Tryz.prog 90 [t.d,.agg s.c,R.d,g.d,m.d] (.tup [.agg v.c,p.d,dI er]):=λh0=>by
    have hq:=BL t ht s (d8 t s) (xV hsr hUO) g m aD hc3 (v:=s6 t s g m) (er:=er) rfl her (λh1=>(FN hsr hk hIs0 (by rw [<- her];exact h1)).1)
    rw [hR,Lq (by rw [<- he1];exact h0),hv,hp];exact hq
   have hRd:=λh1:er=0=>(FN hsr hk hIs0 (by rw [<- her];exact h1)).2.2.2
   rw [<- hR,<- he1] at kV
   rw [<- he1,<- her] at hF
   simp only [Stp26.c,Rule.c,Mat.c,Host.c,cX,cZ] at kV kU
   unfold Host.d Host.c Part.d Part.c at kU
   have Y:=wa Y (wa h8 (wa hcj (wa (aA hjl) (Eq.symm hs))))
   refine jM (h:=aI (kV) wl ?_)
   refine jM (h:=wq (λh11=>?_) λh11=>?_)
   .have hne:¬ e1=0:=by simpa using h11
    rw [if_pos hne] at hF
    exact pM (h:=hQ _ _ (by simp [go_sem,<- hF,Part.d,Part.c,dLI]))
   .have hz1:e1=0:=by simpa using h11
    rw [if_neg (by omega:¬ e1≠0)] at hF
    refine jM (h:=aI (kU (bX h11)) wl ?_)
    refine jM (h:=wq (λh14=>?_) λh14=>?_)
    .have hne:¬ er=0:=by simpa using h14
     rw [if_pos hne] at hF
     exact pM (h:=hQ _ _ (by simp [go_sem,<- hF,Part.d,Part.c,dLI]))
    .have hz2:er=0:=by simpa using h14
     rw [if_neg (by omega:¬ er≠0)] at hF
     rw [if_pos hz2] at hv hp
     have hIs:=hRd hz2
     rw [<- hp,<- hv] at hF hIs
     rw [<- hsi] at hIs
     exact jM (h:=wx hI0 j ⟨((out++[v])),v.after,p,wg,wn,wn,wn,wn,wn,wn,wn,wn,wj,(by exact MP hC hjl hIs),(by exact hF),(by simp;omega)⟩)
  .have hc0:c=0:=aD
   rw [hc0] at hF
   have hFF:(out,m,(0:Int))=G:=hF
   exact pM (h:=hQ _ _ (by simp [go_sem,Y,<- hFF,Part.d,Part.c,dLI]))
structure CmpL (t:Types) (l:List Stp26):Prop where
 a:∀ s∈l,CmpA t s
 h:∀ i,0<i->i<l.length->∀ k (h1:k<(qG l (i - 1)).after.values.length) (h2:k<(qG l i).before.values.length),zO (qG l (i - 1)).after.values[k] (qG l i).before.values[k]
theorem HL (t:Types)(ht:t.ok)(l:List Stp26)(hl:l.length<=1000000)(hr:∀ s∈l,s.rule.ok)(hCm:CmpL t l):Pure Tryz.prog 40 [t.d,.list (l.map Stp26.c)] (.tup [.list ((gZ t l).1.map Stp26.c),(gZ t l).2.1.d,dI (gZ t l).2.2]):=by
 have hCh:=λh=>Nx (t:=t) (l:=l) h
 obtain ⟨e0,he0⟩:∃ e,e=yW t l:=⟨_,rfl⟩
 obtain ⟨E,hE⟩:=cW (bQ (yA t l) 0 l.length)
 have hU0:e0=if (b9 t).2≠0 then (b9 t).2 else if l.length=0 then 7 else if 30<l.length then 3 else E:=by rw [he0,hE];rfl
 obtain ⟨G,hG⟩:=cW (Bv t l l.length (tQ l) (o8 (tQ l).graph) [])
 have hU:gZ t l=if e0≠0 then ([],⟨[],[]⟩,e0) else G:=by rw [hG,he0];rfl
 rw [<- he0] at hCh
 rw [hU]
 clear he0 hU
 refine Tz.pK ⟨λt=>t==5||t==10||t==11||t==12||t==13||t==15||t==16||t==20||t==21,λr=>match r with|16=>[(0,6),(1,6),(2,6),(3,6),(4,6),(5,6),(0,7),(1,7),(2,7),(3,7),(4,7),(5,7),(6,7)]|26=>[(0,19),(1,19),(2,19),(3,19),(4,19),(5,19),(7,19),(8,19),(9,19),(10,19),(12,19),(15,19)]|31=>[(0,7),(1,7),(2,7),(3,7),(4,7),(0,8),(1,8)]|_=>[]⟩ Tryz.func40 rfl (λQ hQ=>?_)
 have Y:=wa @Part.d.eq_1 (wa @Part.c.eq_1 (wa @Host.d.eq_1 @Host.c.eq_1))
 refine jM (h:=aB (n9 t ht) wl ?_)
 refine jM (h:=wq (λh2=>?_) λh2=>?_)
 .refine jM (h:=?_)
  have hne:¬ (b9 t).2=0:=by simpa using h2
  have h0:e0=(b9 t).2:=by rw [hU0,if_pos hne]
  exact hQ _ _ (by simp [go_sem,h0,hne,Part.d,Part.c,dLI])
 .refine jM (h:=wq (λh4=>?_) λh4=>?_)
  .refine jM (h:=?_)
   have h0:e0=7:=by rw [hU0];simp [h2,h4]
   exact hQ _ _ (by simp [go_sem,h0,Part.d,Part.c,dLI])
  .refine jM (h:=wq (λh6=>?_) λh6=>?_)
   .refine jM (h:=?_)
    have h0:e0=3:=by rw [hU0];simp [h2,h4,(aD:30<l.length)]
    exact hQ _ _ (by simp [go_sem,h0,Part.d,Part.c,dLI])
   .have h0:e0=E:=by rw [hU0];simp [h2,h4,(aD:¬ 30<l.length)]
    have hn0:¬ l.length=0:=by simpa using h4
    have hpos:0<l.length:=aD
    refine jM (h:=bD (λi e H=>(e 2=.adr t.c/\e 1=.list (l.map Stp26.c)/\e 5=.ptr 0 1 0 0/\e 9=dI i)/\(H.get 0=some ⟨36,2,[[.nil,.nil]],false⟩)/\(0<H.next)/\(i<=l.length)/\(bQ (yA t l) i (l.length - i)=E)) (λi=>l.length - i) 0 ⟨wg,wn,wn,wi,(by exact hE.symm)⟩ λI0 hI0 i e H hi0=>?_)
    obtain ⟨E0,g0_0,n0_0,hi,hst⟩:=hi0
    have Y:=wa Y (wa E0 (wa g0_0 (b8 n0_0)))
    refine jM (h:=wq (λh9=>?_) λh9=>?_)
    .rw [eI _ h9] at hst
     have hm:=aC h9
     obtain ⟨s,hs⟩:=cW (l[i])
     have hsi:qG l i=s:=by rw [hs,oV h9]
     rw [<- hs] at hm
     obtain ⟨b,hb⟩:=cW (Aq t s)
     have hEi:yA t l i=if b=false then 1 else if 0<i/\(qG l (i - 1)).after≠s.before then 11 else 0:=by unfold yA;rw [hsi,<- hb]
     have kK:=Kg t ht s (hr s hm) rfl rfl (hCm.a s hm).b (hCm.a s hm).a
     have hb':(decide (nT t s.rule s.before s.mat=0)&&decide (fU t s.rule s.before s.mat=s))=b:=hb.symm
     rw [hb'] at kK
     simp only [Stp26.c,Rule.c,Mat.c,Host.c,cX,cZ] at kK
     have Y:=wa Y (wa h9 (wa (aA h9) (wa (Eq.symm hs) (wa @Stp26.c.eq_1 (wa @Rule.c.eq_1 @Mat.c.eq_1)))))
     refine jM (h:=aI (kK) wl ?_)
     refine jM (h:=wq (λh11=>?_) λh11=>?_)
     .have hbf:b=false:=by simpa using h11
      rw [hEi,if_pos hbf,if_pos aD] at hst
      have h00:e0=1:=by rw [h0,<- hst]
      exact jM (h:=hQ _ _ (by simp [go_sem,h00,Part.d,Part.c,dLI]))
     .have hbt:b=true:=by simpa using h11
      rw [hbt,if_neg bW] at hEi
      obtain ⟨w,hw⟩:=cW (qG l (i - 1))
      have hl1:i - 1<l.length:=aD
      have hli:l[i - 1]=w:=by rw [hw,oV hl1]
      have hpi:((i:Int) - 1).toNat=i - 1:=aD
      have kS:0<i->Pure Tryz.prog 42 [w.after.d,s.before.d] (.bool (decide (w.after=s.before))):=λh=>by
       have hq:=hCm.h i h h9
       rw [<- hw,hsi] at hq
       exact tJ w.after s.before hq
      rw [<- hw] at hEi
      unfold Host.d Host.c at kS
      have Y:=wa Y (wa hpi (wa (aA hl1) hli))
      refine jM (h:=dL (λhg=>kS (by first|simpa using hg|(simp at hg;omega))) (λhg=>wl) ?_)
      refine jM (h:=wq (λh13=>?_) λh13=>?_)
      .have hne:0<i/\w.after≠s.before:=by simpa using h13
       have hEE:yA t l i=11:=by rw [hEi,if_pos hne]
       rw [hEE,if_pos aD] at hst
       have h00:e0=11:=by rw [h0,<- hst]
       exact jM (h:=hQ _ _ (by simp [go_sem,h00,Part.d,Part.c,dLI]))
      .have hst2:bQ (yA t l) (i+1) (l.length - (i+1))=E:=by
        have hEE:yA t l i=0:=by
         rw [hEi,if_neg]
         rintro ⟨q1,q2⟩
         have:=h13
         simp [q1,q2] at this
        rw [hEE,if_neg aD] at hst;exact hst
       exact jM (h:=wx hI0 (i+1) ⟨wg,wn,wn,wj,(by exact hst2)⟩)
    .have h00:e0=0:=by rw [h0,<- hst,(aD:l.length - i=0)];rfl
     have hC:=hCh h00
     have hfew:=hC.few
     rw [if_neg (by omega:¬ e0≠0)] at hQ
     have hpi:((l.length:Int) - 1).toNat=l.length - 1:=aD
     have hll:l.length - 1<l.length:=aD
     obtain ⟨g0,hg0⟩:∃ g,g=tQ l:=⟨_,rfl⟩
     have hla:(l[l.length - 1]'hll).after=g0:=by rw [hg0];unfold tQ;rw [oV hll]
     have hstI:=Jd hC hr
     rw [<- hg0] at hstI hG
     have hgs:g0.graph.nodes.length<=100000/\g0.graph.edges.length<=100000:=by
      have hm:=aC hll
      have hk:=hC.chk _ hll
      rw [oV hll] at hk
      obtain ⟨q1,K,_⟩:=q8 (hr _ hm) hk
      have q2:=congrArg Stp26.after q1
      rw [hla] at q2
      rw [q2]
      have a1:=K.nn
      have a2:=K.ne
      exact ⟨by show (bZ t _ _ _).graph.nodes.length<=_;omega,by show (bZ t _ _ _).graph.edges.length<=_;omega⟩
     have kN:=R3 g0.graph hgs.1 hgs.2
     have e1:(⟨iW g0.graph.nodes.length,iW g0.graph.edges.length⟩:Part)=o8 g0.graph:=rfl
     rw [e1] at kN
     obtain ⟨m0,hm0⟩:∃ m,m=o8 g0.graph:=⟨_,rfl⟩
     rw [<- hm0] at kN hstI hG
     have Y:=wa Y (wa hpi (wa (aA hll) (wa hla (wa @Stp26.c.eq_1 (wa @Rule.c.eq_1 @Mat.c.eq_1)))))
     refine jM (h:=aI (kN) wl ?_)
     refine jM (h:=bD (λc e H=>∃ a:Nat,∃ b:Nat,∃ o:Nat,∃ out:List Stp26,∃ g:Host,∃ m:Part,(e 2=.adr t.c/\e 1=.list (l.map Stp26.c)/\e 5=.ptr 0 1 0 0/\e 11=.ptr a 1 0 0/\e 12=.ptr b 1 0 0/\e 13=.own o out.length/\e 14=.int .i64 ((c:Int) - 1))/\(H.get 0=some ⟨36,2,[[.nil,.nil]],false⟩)/\(0<H.next)/\(H.get a=some ⟨44,3,[[dLI g.graph.nodes,.list (g.graph.edges.map Edge.c),.list (g.values.map cL)]],false⟩)/\(a<H.next)/\(H.get b=some ⟨36,2,[[dLI m.nodes,dLI m.edges]],false⟩)/\(b<H.next)/\(H.get o=some ⟨53,38,out.map Stp26.c,false⟩)/\(o<H.next)/\(0<a/\a<b/\b<o)/\(c<=l.length)/\(Ub l c g m)/\(Bv t l c g m out=G)/\(out.length+c<=l.length)) (λc=>c) l.length ⟨((H.next+7)),((H.next+8)),((H.next+11)),([]),g0,m0,wg,wn,wn,wn,wn,wn,wn,wn,wn,aD,wi,(by exact hstI),(by exact hG.symm),(by simp)⟩ λI2 hI2 c e H hi2=>?_)
     obtain ⟨a,b,o,out,g,m,E2,g0_2,n0_2,ga_2,na_2,gb_2,nb_2,go_2,no_2,hid,hc,hI,hF,hol⟩:=hi2
     have di1:=And.intro (dF (aD:o≠b)) (And.intro (dF (aD:o≠a)) (And.intro (dF (aD:o≠0)) (And.intro (dF (aD:b≠a)) (And.intro (dF (aD:b≠0)) (dF (aD:a≠0))))))
     have Y:=wa Y (wa @Part.c.eq_1 (wa @Host.c.eq_1 (wa @Stp26.c.eq_1 (wa @Rule.c.eq_1 (wa @Mat.c.eq_1 (wa E2 (wa g0_2 (wa (b8 n0_2) (wa ga_2 (wa (b8 na_2) (wa gb_2 (wa (b8 nb_2) (wa go_2 (wa (b8 no_2) di1))))))))))))))
     refine jM (h:=wq (λh19=>?_) λh19=>?_)
     .obtain ⟨j,hj⟩:∃ j,c=j+1:=⟨c - 1,aD⟩
      have hjl:j<l.length:=aD
      have hcj:(c:Int) - 1=(j:Int):=aD
      obtain ⟨s,hs⟩:=cW (l[j])
      have hsi:qG l j=s:=by rw [hs,oV hjl]
      have hm:s∈l:=by rw [hs];exact aC _
      have hk:Aq t s=true:=by rw [<- hsi];exact hC.chk j hjl
      have hsr:=hr s hm
      obtain ⟨q1,K,hUO⟩:=q8 hsr hk
      have hIs0:HIso g s.after m:=by
       rcases hI with h|h
       .omega
       .rw [hj,(aD:j+1 - 1=j),hsi] at h;exact h
      obtain ⟨hMM,hml,hcr,htr⟩:=IF hsr hk hIs0
      obtain ⟨⟨z1,z2⟩,z3,z4⟩:=QB hsr hk
      have hml1:=hml.1
      have hml2:=hml.2
      have hmr:(∀ x∈m.nodes,0<=x/\x<s.after.graph.nodes.length)/\∀ x∈m.edges,0<=x/\x<s.after.graph.edges.length:=⟨hIs0.ni,hIs0.ei⟩
      have hz:=hUO.sz
      have hc1:=hUO.c1
      have hc3:=hUO.c3
      rw [hj,AT,hsi] at hF
      obtain ⟨R,hR⟩:=cW (tB t s)
      obtain ⟨e1,he1⟩:∃ e,e=pP t s:=⟨_,rfl⟩
      obtain ⟨er,her⟩:∃ e,e=M7 t s g m:=⟨_,rfl⟩
      obtain ⟨v,hv⟩:=cW (s6 t s g m)
      obtain ⟨p,hp⟩:=cW (sR s (s6 t s g m) m)
      have kV:=HK t ht s hUO
      obtain ⟨n1,hn1⟩:∃ n,n=e8 s.comatch.nodes (iY m.nodes):=⟨_,rfl⟩
      obtain ⟨n2,hn2⟩:∃ n,n=e8 s.comatch.edges (iY m.edges):=⟨_,rfl⟩
      have kA:e1=0->Pure Tryz.prog 16 [t.d,R.d,g.d,.agg [dLI n1,dLI n2,.nil]] (.tup [.agg v.c,dI er]):=λh0=>by
       have hq:=Qi t ht (d8 t s) (xV hsr hUO) g (r8 s m) (v:=v) (e:=er) hv her
       rw [hMM] at hq
       rw [hR,Lq (by rw [<- he1];exact h0),hn1,hn2]
       exact hq.nzk (Uc t (d8 t s) g _ _)
      obtain ⟨x,hx⟩:=cW (xS s (w5 m))
      have hxt:x.track=⟨e8 s.track.nodes (iY m.nodes),e8 s.track.edges (iY m.edges)⟩:=by rw [hx];rfl
      have hRd:=λh1:er=0=>FN hsr hk hIs0 (by rw [<- her];exact h1)
      have kI:er=0->Pure Tryz.prog 92 [.agg x.c,.agg v.c] p.d:=λh1=>by
       obtain ⟨_,b2,b3,_⟩:=hRd h1
       have hq:=QH x v (by rw [hx,hv];exact b2)
       rw [hx,hv,b3] at hq
       rw [hx,hv,hp];exact hq
      have hRi:=λh1:er=0=>(hRd h1).2.2.2
      rw [<- hR,<- he1] at kV
      rw [<- he1,<- her] at hF
      have nx:=Wp H.next
      obtain ⟨x1,hx1⟩:∃ y,y=e8 s.track.nodes (iY m.nodes):=⟨_,rfl⟩
      obtain ⟨x2,hx2⟩:∃ y,y=e8 s.track.edges (iY m.edges):=⟨_,rfl⟩
      have hxc:(D.agg x.c)=.agg (s.rule.c++s.mat.c++s.before.c++s.after.c++[dLI x1,dLI x2,dLI s.comatch.nodes,dLI s.comatch.edges]):=by rw [hx,hx1,hx2];rfl
      rw [hxc] at kI
      simp only [Stp26.c,Rule.c,Mat.c,Host.c,cX,cZ] at kV kA kI
      unfold Host.d Host.c at kA
      unfold Part.d Part.c at kI
      have Y:=wa Y (wa h19 (wa hcj (wa (aA hjl) (wa (Eq.symm hs) (wa (Eq.symm hn1) (wa (Eq.symm hn2) (wa (Eq.symm hx1) (wa (Eq.symm hx2) nx))))))))
      refine jM (h:=aB (kV) wl ?_)
      refine jM (h:=wq (λh23=>?_) λh23=>?_)
      .have hne:¬ e1=0:=by simpa using h23
       rw [if_pos hne] at hF
       exact jM (h:=hQ _ _ (by simp [go_sem,<- hF,Part.d,Part.c,dLI]))
      .have hz1:e1=0:=by simpa using h23
       rw [if_neg (by omega:¬ e1≠0)] at hF
       refine jM (h:=aI (FR m.nodes aD (by rw [hml.1];exact hmr.1)) wl ?_)
       refine jM (h:=aI (FR m.edges aD (by rw [hml.2];exact hmr.2)) wl ?_)
       refine jM (h:=aI (qI s.comatch.nodes (iY m.nodes) aD (λx hx=>by rw [y3,hml.1];exact (hcr.1 x hx).2)) wl ?_)
       refine jM (h:=aI (qI s.comatch.edges (iY m.edges) aD (λx hx=>by rw [y3,hml.2];exact (hcr.2 x hx).2)) wl ?_)
       refine jM (h:=aI (kA (bX h23)) wl ?_)
       refine jM (h:=wq (λh27=>?_) λh27=>?_)
       .have hne:¬ er=0:=by simpa using h27
        rw [if_pos hne] at hF
        exact jM (h:=hQ _ _ (by simp [go_sem,<- hF,Part.d,Part.c,dLI]))
       .have hz2:er=0:=by simpa using h27
        rw [if_neg (by omega:¬ er≠0)] at hF
        have hIs:=hRi hz2
        rw [<- hp,<- hv] at hF hIs
        rw [<- hsi] at hIs
        refine jM (h:=aI (qI s.track.nodes (iY m.nodes) aD (λx hx=>by rw [y3,hml.1];exact htr.1 x hx)) wl ?_)
        refine jM (h:=aI (qI s.track.edges (iY m.edges) aD (λx hx=>by rw [y3,hml.2];exact htr.2 x hx)) wl ?_)
        refine jM (h:=aI (kI (bX h27)) wl ?_)
        exact jM (h:=wx hI2 j ⟨a,b,o,((out++[v])),v.after,p,wg,wn,wn,wn,wn,wn,wn,wn,wn,aD,wj,(by exact MP hC hjl hIs),(by exact hF),(by simp;omega)⟩)
     .have hc0:c=0:=aD
      rw [hc0] at hF
      have hFF:(out,m,(0:Int))=G:=hF
      exact jM (h:=hQ _ _ (by simp [go_sem,Y,<- hFF,Part.d,Part.c,dLI]))
theorem Nr:Own Tryz.prog 39 [.nil] 53 38 []:=by
 refine Tz.oK ⟨λt=>t==2||t==5,λ_=>[]⟩ Tryz.func39 rfl (λQ a=>?_)
 have Y:=trivial
 refine wv (h:=?_)
 exact a _ _ _ (by simp [go_sem]<;>first|omega|(rw [aR];simp<;>omega)|(simp_all<;>omega)) (by simp [go_sem]<;>first|omega|(rw [aR];simp<;>omega)|(simp_all<;>omega))
theorem Np:Own Tryz.prog 39 [.ne] 53 38 []:=by
 refine Tz.oK ⟨λt=>t==2||t==5,λ_=>[]⟩ Tryz.func39 rfl (λQ a=>?_)
 have Y:=trivial
 refine wo (h:=?_)
 exact a _ _ _ (by simp [go_sem]<;>first|omega|(rw [aR];simp<;>omega)|(simp_all<;>omega)) (by simp [go_sem]<;>first|omega|(rw [aR];simp<;>omega)|(simp_all<;>omega))
theorem Nq (l:List Stp26)(e:l.length<=1000000)(b:l≠[]):Own Tryz.prog 39 [.list (l.map Stp26.c)] 53 38 (l.map Stp26.c):=by
 refine Tz.oK ⟨λt=>t==2||t==5,λ_=>[]⟩ Tryz.func39 rfl (λQ d=>?_)
 have Y:=b
 refine wo (h:=?_)
 refine ⟨⟨aD,λa _=>rfl,λx _=>by simp [Stp26.c,Rule.c,Mat.c,Host.c,dLI,dI]⟩,d _ _ _ bW (by simp [go_sem])⟩
theorem O9 (l:List Stp26)(b:l.length<=1000000):Own Tryz.prog 39 [.list (l.map Stp26.c)] 53 38 (l.map Stp26.c):=by
 by_cases a:l=[]
 .subst a;exact zV Nr Np
 .exact Nq l b a
theorem FT (l:List Stp26)(j:l.length<=1000000):Pure Tryz.prog 41 [.list (l.map Stp26.c),.list (l.map Stp26.c)] (.bool true):=by
 refine Tz.pK ⟨λ_=>false,λ_=>[]⟩ Tryz.func41 rfl (λQ f=>?_)
 have Y:=trivial
 refine jM (h:=bD (λi e H=>(e 0=.list (l.map Stp26.c)/\e 1=.list (l.map Stp26.c)/\e 5=dI i)/\(i<=l.length)) (λi=>l.length - i) 0 ⟨wg,wi⟩ λm d i e H b=>?_)
 obtain ⟨g,k⟩:=b
 have Y:=wa Y g
 refine jM (h:=wq (λa=>?_) λa=>?_)
 .have kS:=DR l[i] l[i] (λi _ _=>Bj _) (λi _ _=>Bj _)
  rw [show decide (l[i]=l[i])=true by simp] at kS
  simp only [Stp26.c,Rule.c,Mat.c,Host.c,cX,cZ] at kS
  have Y:=wa Y (wa a (wa (aA a) (wa @Stp26.c.eq_1 (wa @Rule.c.eq_1 (wa @Mat.c.eq_1 @Host.c.eq_1)))))
  refine jM (h:=aI (kS) wl ?_)
  exact jM (h:=wx d (i+1) ⟨wg,wj⟩)
 .have Y:=wa Y a
  exact pM (h:=f _ _ wy)
def Hg (t:Types)(l:List Stp26)(i:Nat):Bool:=(List.range i).all λk=>yY t (qG l k)
theorem Ry (t:Types)(l:List Stp26)(i:Nat):Hg t l (i+1)=(Hg t l i&&yY t (qG l i)):=by simp [Hg,c7]
theorem QI (t:Types)(q:∀ n∈t.nodes,n.attrs.length<=1000000000000000)(l:List Stp26)(y:∀ s∈l,s.le):Pure Tryz.prog 37 [t.d,.list (l.map Stp26.c)] (.bool (decide (l.length<=40)&&Hg t l l.length&&!(decide (4<l.length)&&decide (l.length<=30)))):=by
 refine Tz.pK ⟨λ_=>false,λ_=>[]⟩ Tryz.func37 rfl (λQ j=>?_)
 have Y:=trivial
 refine jM (h:=wq (λw=>?_) λw=>?_)
 .exact pM (h:=j _ _ (by by_cases o:4<l.length<;>by_cases m:l.length<=30<;>by_cases k:l.length<=40<;>simp [go_sem,o,m,k]<;>omega))
 .have hn:l.length<=40/\¬ (4<l.length/\l.length<=30):=by
   by_cases o:4<l.length<;>by_cases m:l.length<=30<;>by_cases k:l.length<=40<;>simp [o,m,k] at w ⊢<;>omega
  obtain ⟨x,A⟩:=hn
  have g:(decide (l.length<=40)&&Hg t l l.length&&!(decide (4<l.length)&&decide (l.length<=30)))=Hg t l l.length:=by
   rw [decide_eq_true x,show (decide (4<l.length)&&decide (l.length<=30))=false by simpa using λh=>by omega];simp
  rw [g] at j
  refine pM (h:=bD (λi e H=>(e 2=.adr t.c/\e 1=.list (l.map Stp26.c)/\e 5=dI i)/\(i<=l.length)/\(Hg t l i=true)) (λi=>l.length - i) 0 ⟨wg,wi,(by rfl)⟩ λC r i e H p=>?_)
  obtain ⟨z,B,v⟩:=p
  have Y:=wa Y z
  refine jM (h:=wq (λb=>?_) λb=>?_)
  .have kL:=Ey t q l[i] (y _ (aC b))
   have f:qG l i=l[i]:=oV b
   simp only [Stp26.c,Rule.c,Mat.c,Host.c,cX,cZ] at kL
   have Y:=wa Y (wa b (wa (aA b) (wa @Stp26.c.eq_1 (wa @Rule.c.eq_1 (wa @Mat.c.eq_1 @Host.c.eq_1)))))
   refine jM (h:=aI (kL) wl ?_)
   refine jM (h:=wq (λu=>?_) λu=>?_)
   .have hf:Hg t l l.length=false:=by
     have a:yY t l[i]=false:=by simpa using u
     rw [bH];intro g
     unfold Hg at g
     have:=cJ.1 g i (bK.2 b)
     rw [f,a] at this;cases this
    exact pM (h:=j _ _ (by simp [go_sem,hf]))
   .have a:yY t l[i]=true:=by simpa using u
    exact jM (h:=wx r (i+1) ⟨wg,wj,(by rw [Ry,v,f,a];rfl)⟩)
  .have hX:Hg t l l.length=true:=by rw [<- v,(aD:i=l.length)]
   exact pM (h:=j _ _ (by simp [go_sem,hX]))
theorem It (t:Types)(l:List Stp26):∀ (c:Nat) (g:Host) (m:Part) (out:List Stp26),(Bv t l c g m out).1.length<=out.length+c
 | 0,_,_,_=>bC _
 | c+1,g,m,out=>by
  rw [AT]
  split
  .simp
  .split
   .simp
   .have:=It t l c (s6 t (qG l c) g m).after (sR (qG l c) (s6 t (qG l c) g m) m) (out++[s6 t (qG l c) g m])
    rw [aL,List.length_singleton] at this
    omega
theorem Ls (t:Types)(l:List Stp26):(gZ t l).1.length<=l.length:=by
 unfold gZ
 split
 .simp
 .have:=It t l l.length (tQ l) (o8 (tQ l).graph) []
  simpa using this
theorem T0 {t:Types}{l:List Stp26}{B:Nat}(j:B<=1000000000000000)(c:∀ s∈l,s.bnd B)(g:∀ s∈l,s.rule.ok):CmpL t l:=by
 refine ⟨λs d=>T1 j (c s d) (g s d),λi q h k n m=>?_⟩
 have f:qG l (i - 1)∈l:=by rw [oV (by omega:i - 1<l.length)];exact aC _
 have e:qG l i∈l:=by rw [oV h];exact aC _
 have p:=(c _ f).a _ (aC n)
 have o:=(c _ e).b _ (aC m)
 exact No p.2 o.2 aD aD
theorem HY (t:Types)(w:∀ n∈t.nodes,n.attrs.length<=1000000000000000)(l:List Stp26)(N:l.length<=1000000000){B:Nat}(G:B<=1000000000000000)(y:∀ s∈l,s.bnd B):Pure Tryz.prog 8 [t.d,.list (l.map Stp26.c)] (.bool true):=by
 obtain ⟨b,A⟩:=cW (uK t)
 have C:=C8 t w
 rw [<- A] at C
 obtain ⟨m,j⟩:∃ b,b=(decide (l.length<=40)&&Hg t l l.length&&!(decide (4<l.length)&&decide (l.length<=30))):=⟨_,rfl⟩
 have D:=QI t w l (λs z=>Stp26.bnd_le G (y s z))
 rw [<- j] at D
 have k:b=true->t.ok:=λh=>Cn (by rw [<- A];exact h)
 have a:m=true->l.length<=1000000/\∀ s∈l,s.rule.ok:=λh=>by
  rw [j] at h
  simp only [aQ,decide_eq_true_eq] at h
  refine ⟨aD,λs z=>?_⟩
  obtain ⟨i,E,rfl⟩:=aO z
  have q:=cJ.1 h.1.2 i (bK.2 E)
  rw [oV E] at q
  exact (Ra q).2
 have J:m=true->Pure Tryz.prog 39 [.list (l.map Stp26.c)] (.list (l.map Stp26.c)):=λh=>(O9 l (a h).1).pure
 have M:b=true->m=true->Pure Tryz.prog 38 [t.d,.list (l.map Stp26.c)] (.tup [.list ((gZ t l).1.map Stp26.c),(gZ t l).2.1.d,dI (gZ t l).2.2]):=λh o=>Ex t (k h) l (a o).1 (a o).2
 have K:b=true->m=true->Pure Tryz.prog 40 [t.d,.list (l.map Stp26.c)] (.tup [.list ((gZ t l).1.map Stp26.c),(gZ t l).2.1.d,dI (gZ t l).2.2]):=λh o=>HL t (k h) l (a o).1 (a o).2 (T0 G y (a o).2)
 have H:m=true->Pure Tryz.prog 41 [.list ((gZ t l).1.map Stp26.c),.list ((gZ t l).1.map Stp26.c)] (.bool true):=λh=>FT _ (by have:=Ls t l;have:=(a h).1;omega)
 have I:=DU (gZ t l).2.1
 generalize (gZ t l).1=L at *
 generalize (gZ t l).2.1=p at *
 generalize (gZ t l).2.2=e at *
 clear A j k a y
 refine Tz.pK ⟨λt=>t==6||t==9,λr=>match r with|3=>[(0,8),(2,8),(3,8)]|_=>[]⟩ Tryz.func8 rfl (λQ F=>?_)
 have Y:=wa @Part.d.eq_1 @Part.c.eq_1
 refine jM (h:=aB (D3) wl ?_)
 refine jM (h:=aH (λu=>C) (λu=>wl) ?_)
 refine jM (h:=aH (λu=>D) (λu=>wl) ?_)
 refine jM (h:=wq (λx=>?_) λx=>?_)
 .refine pM (h:=aB (D3) wl ?_)
  have Y:=wa Y x
  exact pM (h:=F _ _ wy)
 .have hbt:b=true:=by cases g:b<;>simp [g] at x ⊢
  have f:m=true:=by cases g:b<;>cases v:m<;>simp [g,v] at x ⊢
  refine pM (h:=aI (J f) wl ?_)
  refine pM (h:=aI (M hbt f) wl ?_)
  refine pM (h:=aB (K hbt f) wl ?_)
  refine jM (h:=aB (H f) wl ?_)
  refine jM (h:=aH (λu=>(by have q:=I;unfold Part.d Part.c at q;exact q)) (λu=>wl) ?_)
  have Y:=wa Y x
  exact jM (h:=F _ _ wy)
section
variable {H:Type} {enc:TypeId × Value→H} {w:World} {base:Nat} {spare:Nat→Bool} {held:Bool} {bulk:DataW H→Nat} {B:Nat}
theorem aaS (hB:Bulk bulk):∀ n,Opens enc Tryz.prog w base spare held bulk B n 97 (λl:List Stp26=>[D.list (l.map Stp26.c)]) (λl=>l.length<=B/\∀ s∈l,s.bnd B)
 | 0=>Opens.zero
 | n+1=>(gX hB Tryz.underlying97 (aaT hB n)).map id (λ_=>rfl) (λ_ h=>h)
end
theorem yZ (t:Types)(ha1:∀ n∈t.nodes,n.attrs.length<=1000000000000000)(l:List Stp26){B:Nat}(hB:B<=1000000000)(hl:l.length<=B/\∀ s∈l,s.bnd B):Pure Tryz.prog 8 [t.d,.list (l.map Stp26.c)] (.bool true) :=
 HY t ha1 l aD (B:=B) aD hl.2
end Go.Abs
end
section
namespace Go.Proofs.YthalajhajpjjeaaGreat.bulks
open Go.Abs
theorem one_le {H:Type}(d:DataW H):1<=Rows.uptoBulk d:=by
 cases d with
 | lit l=>cases l<;>simp [Rows.uptoBulk]
 | _=>simp [Rows.uptoBulk]
theorem mem_le {H:Type}{d:DataW H}:∀ {l:List (DataW H)},d∈l->Rows.uptoBulk d<=Rows.uptoBulkAll l
 | [],h=>by cases h
 | x :: r,h=>by
  simp only [Rows.uptoBulkAll]
  rcases aU.1 h with rfl|h
  .omega
  .have:=mem_le h;omega
theorem len_le {H:Type}:∀ l:List (DataW H),l.length<=Rows.uptoBulkAll l
 | []=>by simp [Rows.uptoBulkAll]
 | x :: r=>by have:=one_le x;have:=len_le r;simp only [Rows.uptoBulkAll,fH];omega
theorem ok {H:Type}:Go.Abs.Bulk (Rows.uptoBulk (H:=H)) where
 len e s:=by have:=len_le e;simp only [Rows.uptoBulk];omega
 el e s d h:=by have:=mem_le h;simp only [Rows.uptoBulk];omega
 part l d h:=by have:=mem_le h;simp only [Rows.uptoBulk];omega
 str s:=by simp [Rows.uptoBulk]
theorem bound {H:Type}{l:List (DataW H)}(hk:Rows.uptoSmall H l=true):∀ d∈l,Rows.uptoBulk d<=1048576:=λd hd=>by
 have h:=of_decide_eq_true hk
 have:=mem_le hd
 omega
end Go.Proofs.YthalajhajpjjeaaGreat.bulks
end
