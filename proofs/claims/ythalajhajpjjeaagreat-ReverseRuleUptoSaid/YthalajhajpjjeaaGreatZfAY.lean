/- Layer 27: the undoing rule; where elements come from. · Laye -/
import Derived.Test.YthalajhajpjjeaaGreatZfAF
import Derived.Test.YthalajhajpjjeaaGreatZfAA
import Derived.Test.YthalajhajpjjeaaGreatZfAX
import Derived.Test.YthalajhajpjjeaaGreatZfAW
set_option linter.unusedVariables false
set_option linter.unusedSimpArgs false
section
set_option maxRecDepth 100000
set_option maxHeartbeats 4000000
open Go Go.Proofs
namespace Go.Abs
structure UndOk (t:Types) (s:Stp26):Prop where
 sl:SlotsOk t s
 c1:s.comatch.nodes.length=s.rule.right.graph.nodes.length
 c2:∀ x∈s.comatch.nodes,0<=x/\x<s.after.graph.nodes.length
 c3:s.comatch.edges.length<=1000
 m1:s.mat.m.nodes.length=s.rule.left.graph.nodes.length
 m2:∀ x∈s.mat.m.nodes,0<=x/\x<s.before.graph.nodes.length
 sz:(s.rule.right.graph.nodes.length<=1000/\s.rule.right.graph.edges.length<=1000)/\s.rule.left.graph.nodes.length<=1000/\s.rule.left.graph.edges.length<=1000
 k:s.rule.into.nodes.length=s.rule.keep.nodes.length/\s.rule.into.edges.length=s.rule.keep.edges.length
 il:s.rule.into.nodes.length<=1000000/\s.rule.into.edges.length<=1000000
 inn:s.rule.into.nodes.Nodup/\s.rule.into.edges.Nodup
 ir:(∀ x∈s.rule.into.nodes,0<=x/\x<s.rule.right.graph.nodes.length)/\∀ x∈s.rule.into.edges,0<=x/\x<s.rule.right.graph.edges.length
section
variable {t:Types} {r:Rule} {h:Host} {m:Mat}
theorem StepIn.c_rangeN (S:StepIn t r h m):∀ x∈(fB r h m).nodes,0<=x/\x<(cX t r h m).graph.nodes.length:=λx hx=>by
 obtain ⟨i,hi,rfl⟩:=Ai hx
 rw [S.coN,iV] at hi
 rw [S.sizeN,S.coN]
 exact S.srtN.c_in (j:=(i:Int)) aD
theorem StepIn.c_rangeE (S:StepIn t r h m):∀ x∈(fB r h m).edges,0<=x/\x<(cX t r h m).graph.edges.length:=λx hx=>by
 obtain ⟨i,hi,rfl⟩:=Ai hx
 rw [S.coE,iV] at hi
 rw [S.sizeE,S.coE]
 exact S.srtE.c_in (j:=(i:Int)) aD
theorem StepOk.slotsOk (K:StepOk t r h m):SlotsOk t (bG t r h m):=by
 have hl:m.m.nodes.length=r.left.graph.nodes.length:=K.S.hm.len
 have hg:=bR K.S.hR.pl.gg
 have hv:=K.S.ho.vl
 have hin:∀ i:Nat,i<m.m.nodes.length->0<=iA m.m.nodes i/\iA m.m.nodes i<h.graph.nodes.length:=λi hi=>K.S.imN _ (lL aD aD)
 have hrow:∀ i:Nat,i<m.m.nodes.length->(rT (bG t r h m) i).length=(bL t (gN h.graph (iA m.m.nodes i))).length:=λi hi=>K.S.ho.rowlen (hin i hi).1 (hin i hi).2
 refine ⟨by show m.m.nodes.length<=1000;omega,λi hi=>⟨⟨(hin i hi).1,by have:=(hin i hi).2;show iA m.m.nodes i<h.values.length;omega,(hin i hi).2⟩,hrow i hi,by rw [hrow i hi];exact pS K.S.ho.vf _⟩,λi hi hk=>?_⟩
 have h1:=hin i hi
 have hd:=K.S.srtN.kept_in ((mem_iff _ _).1 hk)
 obtain ⟨p,p1,p2,_⟩:=K.S.srtN.t_in hd
 have hsz:=K.S.sizeN
 have hbl:=K.S.vlen
 have hrr:=K.rows.1
 have hrem:=K.remN (i:=(iA m.m.nodes i).toNat) aD (by rw [K.S.trN,show (((iA m.m.nodes i).toNat:Nat):Int)=iA m.m.nodes i by omega,p1];omega)
 rw [show (((iA m.m.nodes i).toNat:Nat):Int)=iA m.m.nodes i by omega] at hrem
 have hav:(cX t r h m).graph.nodes.length=(b7 t r h m).graph.nodes.length:=rfl
 refine ⟨?_,?_,?_,?_⟩
 .show iA m.m.nodes i<(cW r h m).nodes.length
  rw [K.S.trN,iU];exact h1.2
 .show 0<=iA (cW r h m).nodes (iA m.m.nodes i)
  rw [K.S.trN,p1];omega
 .show iA (cW r h m).nodes (iA m.m.nodes i)<(cX t r h m).values.length
  rw [K.S.trN,p1];omega
 .show (h.values[(iA m.m.nodes i).toNat]?.getD []).length<=((cX t r h m).values[(iA (cW r h m).nodes (iA m.m.nodes i)).toNat]?.getD []).length
  rw [hrem.v2];exact bC _
theorem StepOk.undOk (K:StepOk t r h m)(hr:r.ok):UndOk t (bG t r h m) where
 sl:=K.slotsOk
 c1:=by show (fB r h m).nodes.length=_;rw [K.S.coN,iV];rfl
 c2:=K.S.c_rangeN
 c3:=by
  have:=bR K.S.hR.gr
  show (fB r h m).edges.length<=1000
  rw [K.S.coE,iV];omega
 m1:=K.S.hm.len
 m2:=K.S.imN
 sz:=by
  have h1:=bR K.S.hR.gr
  have h2:=bR K.S.hR.pl.gg
  exact ⟨⟨by show r.right.graph.nodes.length<=_;omega,by show r.right.graph.edges.length<=_;omega⟩,by show r.left.graph.nodes.length<=_;omega,by show r.left.graph.edges.length<=_;omega⟩
 k:=⟨K.S.hR.keep.1.1.symm,K.S.hR.keep.1.2.symm⟩
 il:=⟨hr.i1,hr.i2⟩
 inn:=K.S.intoN
 ir:=⟨K.S.hR.keep.2.2.2.1,K.S.hR.keep.2.2.2.2⟩
end
def wE (t:Types)(s:Stp26):Int:=if 10<(kF t s s.mat.m.nodes.length).length then 3 else 0
def wD (t:Types)(s:Stp26):Rule:=if 10<(kF t s s.mat.m.nodes.length).length then iM else eM t s
theorem Iw (l:List Slot):eR (l.map Slot.c)=l.map Slot.c:=k6 λc hc=>by
 rw [bA] at hc;obtain ⟨x,_,rfl⟩:=hc;rfl
theorem Hp (t:Types)(ht:t.ok)(s:Stp26)(hu:UndOk t s):Pure Tryz.prog 89 [t.d,.agg s.c] (.tup [(wD t s).d,dI (wE t s)]):=by
 obtain ⟨hsl,hc1,hc2,hc3,hm1,hm2,⟨⟨z1,z2⟩,z3,z4⟩,⟨k1,k2⟩,⟨i1,i2⟩,inn,ir⟩:=hu
 have hS:=Ls t ht s hsl
 obtain ⟨L,hL⟩:=cF (kF t s s.mat.m.nodes.length)
 rw [<- hL] at hS
 have g1:=EG s.rule.into.nodes s.rule.right.graph.nodes.length
 have g2:=EG s.rule.into.edges s.rule.right.graph.edges.length
 have cA:=Dq s.rule.right.graph s.after.graph s.comatch.nodes hc1 aD aD hc2
 have cB:=Dq s.rule.left.graph s.before.graph s.mat.m.nodes hm1 aD aD hm2
 obtain ⟨zA,hzA⟩:∃ zs,zs=s.comatch.nodes.map (gN s.after.graph):=⟨_,rfl⟩
 obtain ⟨zB,hzB⟩:∃ zs,zs=s.mat.m.nodes.map (gN s.before.graph):=⟨_,rfl⟩
 rw [<- hzA] at cA
 rw [<- hzB] at cB
 simp only [Stp26.c,Rule.c,Mat.c,Host.c,c7,dA] at hS
 refine tK (by first|rfl|(simp [go_sem];done)) (λQ hQ=>(aI (cfg:=⟨λt=>t==4||t==6||t==7||t==8||t==9,λr=>match r with|2=>[(0,6),(1,6),(2,6),(3,6),(4,6),(5,6),(0,7),(1,7),(2,7),(3,7),(4,7),(5,7),(6,7),(3,8),(4,8),(5,8)]|_=>[]⟩) Tz.mixed Tryz.func89 rfl rfl (aF rfl) (by kernel_rfl) ?_))
 have Y:=wa @Stp26.c.eq_1 (wa @Rule.c.eq_1 (wa @Mat.c.eq_1 @Host.c.eq_1))
 refine pB (h:=aB (cA) wl ?_)
 refine pB (h:=aB (cB) wl ?_)
 refine t6 (h:=aJ (Bn s.rule.right.graph.nodes.length s.rule.into.nodes aD) wl ?_)
 refine t6 (h:=aJ (Bn s.rule.right.graph.edges.length s.rule.into.edges aD) wl ?_)
 refine t6 (h:=aJ (Bm (fX s.rule.into.nodes s.rule.right.graph.nodes.length) s.rule.into.nodes s.rule.keep.nodes (λx hx=>(s6.1 hx).2) k1 aD) wl ?_)
 refine t6 (h:=aJ (Bm (fX s.rule.into.edges s.rule.right.graph.edges.length) s.rule.into.edges s.rule.keep.edges (λx hx=>(s6.1 hx).2) k2 aD) wl ?_)
 refine t6 (h:=aB (hS) wl ?_)
 refine t6 (h:=aB (kY s.comatch.nodes) wl ?_)
 refine t6 (h:=aG (λhg=>kY s.comatch.edges) (λhg=>wl) ?_)
 refine t6 (h:=wq (λh10=>?_) λh10=>?_)
 .refine pB (h:=?_)
  exact hQ _ _ (by simp [go_sem,wD,wE,<- hL,(aD:10<L.length),iM,mN,Rule.d,Rule.c,Cond.kind,Cond.kids,Cond.map,Cond.pattern])
 .refine pB (h:=?_)
  exact hQ _ _ (by simp [go_sem,Y,wD,wE,<- hL,(aD:¬ 10<L.length),eM,KV,Rd,Qo,lQ,<- hzA,<- hzB,Rule.d,Rule.c,Cond.kind,Cond.kids,Cond.map,Cond.pattern,eI,x7,Iw])
theorem D9 (t:Types)(ht:t.ok)(s:Stp26)(hu:UndOk t s):Pure Tryz.prog 102 [t.d,.agg s.c] (.tup [(wD t s).d,dI (wE t s)]):=by
 obtain ⟨hsl,hc1,hc2,hc3,hm1,hm2,⟨⟨z1,z2⟩,z3,z4⟩,⟨k1,k2⟩,⟨i1,i2⟩,inn,ir⟩:=hu
 have hS:=Ho t ht s hsl
 obtain ⟨L,hL⟩:=cF (kF t s s.mat.m.nodes.length)
 rw [<- hL] at hS
 have cA:=zX s.rule.right.graph s.after.graph s.comatch.nodes aD aD hc2
 have cB:=zX s.rule.left.graph s.before.graph s.mat.m.nodes aD aD hm2
 obtain ⟨zA,hzA⟩:∃ zs,zs=s.comatch.nodes.map (gN s.after.graph):=⟨_,rfl⟩
 obtain ⟨zB,hzB⟩:∃ zs,zs=s.mat.m.nodes.map (gN s.before.graph):=⟨_,rfl⟩
 rw [<- hzA] at cA
 rw [<- hzB] at cB
 simp only [Stp26.c,Rule.c,Mat.c,Host.c,c7,dA] at hS
 refine tK (by first|rfl|(simp [go_sem];done)) (λQ hQ=>(aI (cfg:=⟨λt=>t==4||t==6||t==7,λr=>match r with|2=>[(0,40),(1,40),(2,40),(3,40),(4,40),(5,40),(6,40),(7,40),(8,40),(9,40),(10,40),(11,40),(13,40),(14,40),(15,40),(16,40),(17,40),(18,40),(19,40),(20,40),(21,40),(22,40),(23,40),(24,40),(25,40),(26,40),(28,40),(29,40),(30,40),(31,40),(33,40),(34,40),(35,40),(36,40)]|_=>[]⟩) Tz.mixed Tryz.func102 rfl rfl (aF rfl) (by kernel_rfl) ?_))
 have Y:=wa @Stp26.c.eq_1 (wa @Rule.c.eq_1 (wa @Mat.c.eq_1 @Host.c.eq_1))
 refine t6 (h:=aJ (cA) wl ?_)
 refine t6 (h:=aJ (cB) wl ?_)
 refine t6 (h:=aJ (hS) wl ?_)
 refine t6 (h:=aJ (uB s.comatch.nodes aD) wl ?_)
 refine t6 (h:=d8 (λhg=>uB s.comatch.edges aD) (λhg=>wl) ?_)
 refine t6 (h:=aB (zY s.rule.keep.nodes s.rule.into.nodes s.rule.right.graph.nodes.length inn.1 ir.1 k1 i1) wl ?_)
 refine t6 (h:=aB (zY s.rule.keep.edges s.rule.into.edges s.rule.right.graph.edges.length inn.2 ir.2 k2 i2) wl ?_)
 refine t6 (h:=wq (λh5=>?_) λh5=>?_)
 .refine pB (h:=?_)
  exact hQ _ _ (by simp [go_sem,wD,wE,<- hL,(aD:10<L.length),iM,mN,Rule.d,Rule.c,Cond.kind,Cond.kids,Cond.map,Cond.pattern])
 .refine pB (h:=?_)
  exact hQ _ _ (by simp [go_sem,Y,wD,wE,<- hL,(aD:¬ 10<L.length),eM,KV,Rd,Qo,lQ,<- hzA,<- hzB,Rule.d,Rule.c,Cond.kind,Cond.kids,Cond.map,Cond.pattern,eI,x7,Iw])
theorem Qq (track undo:List Int)(k:Nat):J1 track undo (k+1)=J1 track undo k++if 0<=iA track k/\0<=iA undo (iA track k) then [(iA undo (iA track k),(k:Int))] else []:=by simp [J1,dF]
theorem Qp (com mat:List Int)(k:Nat):N4 com mat (k+1)=N4 com mat k++[(iA com k,iA mat k)]:=by simp [N4,dF]
theorem QW (iso und track:List Int)(k:Nat):HO iso und track (k+1)=HO iso und track k++if 0<=iA und k then [(iA und k,idx track (iA iso k))] else []:=by simp [HO,dF]
theorem QV (com mat keep:List Int)(k:Nat):Kv com mat keep (k+1)=Kv com mat keep k++if mem keep k=true then [] else [(iA com k,iA mat k)]:=by simp [Kv,dF]
theorem z6 (track undo com mat:List Int)(n:Nat)(hn:n<=1000000)(a1:∀ x∈track,x<undo.length)(a2:∀ x∈undo,x<n)(a3:∀ x∈com,0<=x/\x<n)(a4:com.length<=mat.length) :
  Pure Tryz.prog 187 [dLI track,dLI undo,dLI com,dLI mat,dI n] (dLI (vQ track undo com mat n)):=by
 refine Tz.pK ⟨λt=>t==11,λ_=>[]⟩ Tryz.func187 rfl (λQ hQ=>?_)
 try simp [go_sem,seval]
 repeat first|intro _|refine ⟨eQ,?_⟩
 obtain ⟨I0,hI0⟩:∃ I0:Nat->dM->AHeap->Prop,∀ (i:Nat) (e:dM) (H:AHeap),I0 i e H↔(∃ xs:List Int,(e 0=dLI track)/\(e 1=dLI undo)/\(e 2=dLI com)/\(e 3=dLI mat)/\(e 11=.own 0 n)/\(e 12=dI i)/\(H.get 0=some ⟨3,1,xs.map cI,false⟩)/\(0<H.next)/\(i<=track.length)/\(xs=lC (J1 track undo i) (List.replicate n 0))/\(xs.length=n)):=⟨λi e H=>_,λ_ _ _=>Iff.rfl⟩
 refine oS I0 (λi=>track.length - i) (0) ((hI0 _ _ _).2 ⟨((List.replicate n 0)),?_,?_,?_,?_,?_,?_,?_,?_,(by first|assumption|omega|(simp [go_sem];done)|(simp_all;done)),(by rfl),(by simp)⟩) ?_
 iterate 8 (first|omega|(simp [go_sem,seval]<;>omega))
 intro i e H hi0
 obtain ⟨xs,q0_0,q1_0,q2_0,q3_0,q11_0,q12_0,g0_0,n0_0,hi,hx,hxl⟩:=(hI0 _ _ _).1 hi0
 have x0:=cD n0_0
 have F0:=And.intro q0_0 (And.intro q1_0 (And.intro q2_0 (And.intro q3_0 (And.intro q11_0 (And.intro q12_0 (And.intro g0_0 x0))))))
 try simp [go_sem,seval,F0]
 repeat first|intro _|refine ⟨eQ,?_⟩
 refine aP (λh3=>?_) (λh3=>?_)
 .try simp [go_sem] at h3
  have ht1:=a1 _ (aC h3)
  have hti:iA track i=track[i]:=kS h3
  have hP:=Qq track undo i
  rw [hti] at hP
  have hg:0<=track[i]->track[i].toNat<undo.length:=λh=>by omega
  have hgu:∀ h:0<=track[i],iA undo track[i]=undo[track[i].toNat]'(hg h):=λh=>by unfold iA;rw [aA (hg h)];rfl
  obtain ⟨ys,hys⟩:=cF (lC (J1 track undo (i+1)) (List.replicate n 0))
  have hN:¬ 0<=track[i]->ys=xs:=λh=>by rw [hys,hP,if_neg (λq=>h q.1),dG,<- hx]
  by_cases hz:0<=track[i]
  .skip
   try simp [go_sem,seval,F0,h3,aA h3,hxl,hz,aA (hg hz)]
   repeat first|intro _|refine ⟨eQ,?_⟩
   refine aP (λh5=>?_) (λh5=>?_)
   .try simp [go_sem] at h5
    have hz2:0<=undo[track[i].toNat]'(hg hz):=by simpa using h5
    have hun:=a2 _ (aC (hg hz))
    have hks:(undo[track[i].toNat]'(hg hz)).toNat<xs.length:=aD
    have hys':ys=xs.set (undo[track[i].toNat]'(hg hz)).toNat i:=by rw [hys,hP,hgu hz,if_pos ⟨hz,hz2⟩,vH,<- hx]
    try simp [go_sem,seval,F0,h3,aA h3,hxl,hz,aA (hg hz),aA hks,hys',bX]
    repeat first|intro _|refine ⟨eQ,?_⟩
    refine eB (i+1) aD ((hI0 _ _ _).2 ⟨(ys),?_,?_,?_,?_,?_,?_,?_,?_,(by first|assumption|omega|(simp [go_sem,F0,h3,aA h3,hxl,hz,aA (hg hz),aA hks,hys',bX,h5];done)|(simp_all<;>omega)),(by exact hys),(by rw [hys,gS,d7])⟩)<;>first|omega|(simp [go_sem,seval,F0,h3,aA h3,hxl,hz,aA (hg hz),aA hks,hys',bX]<;>omega)
   .try simp [go_sem] at h5
    have hys':ys=xs:=by
     rw [hys,hP,if_neg,dG,<- hx]
     rintro ⟨q1,q2⟩
     rw [hgu q1] at q2
     have:¬ 0<=undo[track[i].toNat]'(hg hz):=by simpa using h5
     omega
    try simp [go_sem,seval,F0,h3,aA h3,hxl,hz,aA (hg hz),hys']
    repeat first|intro _|refine ⟨eQ,?_⟩
    refine eB (i+1) aD ((hI0 _ _ _).2 ⟨(ys),?_,?_,?_,?_,?_,?_,?_,?_,(by first|assumption|omega|(simp [go_sem,F0,h3,aA h3,hxl,hz,aA (hg hz),hys',h5];done)|(simp_all<;>omega)),(by exact hys),(by rw [hys,gS,d7])⟩)<;>first|omega|(simp [go_sem,seval,F0,h3,aA h3,hxl,hz,aA (hg hz),hys']<;>omega)
  .skip
   try simp [go_sem,seval,F0,h3,aA h3,hxl,hz,hN hz,Ga,cI]
   repeat first|intro _|refine ⟨eQ,?_⟩
   refine eB (i+1) aD ((hI0 _ _ _).2 ⟨(ys),?_,?_,?_,?_,?_,?_,?_,?_,(by first|assumption|omega|(simp [go_sem,F0,h3,aA h3,hxl,hz,hN hz,Ga,cI];done)|(simp_all<;>omega)),(by exact hys),(by rw [hys,gS,d7])⟩)<;>first|omega|(simp [go_sem,seval,F0,h3,aA h3,hxl,hz,hN hz,Ga,cI]<;>omega)
 .try simp [go_sem] at h3
  have hX:xs=lC (J1 track undo track.length) (List.replicate n 0):=by rw [hx,(aD:i=track.length)]
  try simp [go_sem,seval,F0]
  obtain ⟨I2,hI2⟩:∃ I2:Nat->dM->AHeap->Prop,∀ (k:Nat) (e:dM) (H:AHeap),I2 k e H↔(∃ zs:List Int,(e 0=dLI track)/\(e 1=dLI undo)/\(e 2=dLI com)/\(e 3=dLI mat)/\(e 11=.own 0 n)/\(e 13=dI k)/\(H.get 0=some ⟨3,1,zs.map cI,false⟩)/\(0<H.next)/\(k<=com.length)/\(zs=lC (N4 com mat k) xs)/\(zs.length=n)):=⟨λk e H=>_,λ_ _ _=>Iff.rfl⟩
  refine oS I2 (λk=>com.length - k) (0) ((hI2 _ _ _).2 ⟨(xs),?_,?_,?_,?_,?_,?_,(by simp [go_sem,F0]),?_,(by first|assumption|omega|(simp [go_sem,F0];done)|(simp_all;done)),(by rfl),(by exact hxl)⟩) ?_
  iterate 7 (first|omega|(simp [go_sem,seval,F0]<;>omega))
  intro k e H hi2
  obtain ⟨zs,q0_2,q1_2,q2_2,q3_2,q11_2,q13_2,g0_2,n0_2,hk,hy,hyl⟩:=(hI2 _ _ _).1 hi2
  have x0:=cD n0_2
  have F2:=And.intro q0_2 (And.intro q1_2 (And.intro q2_2 (And.intro q3_2 (And.intro q11_2 (And.intro q13_2 x0)))))
  try simp [go_sem,seval,F2,g0_2]
  repeat first|intro _|refine ⟨eQ,?_⟩
  refine aP (λh8=>?_) (λh8=>?_)
  .try simp [go_sem] at h8
   have hkm:k<mat.length:=aD
   have hck:=a3 _ (aC h8)
   have hks:com[k].toNat<zs.length:=aD
   try simp [go_sem,seval,F2,g0_2,h8,aA h8,aA hkm,aA hks]
   repeat first|intro _|refine ⟨eQ,?_⟩
   refine eB (k+1) aD ((hI2 _ _ _).2 ⟨(zs.set com[k].toNat mat[k]),?_,?_,?_,?_,?_,?_,(by simp [go_sem,F2,g0_2,h8,aA h8,aA hkm,aA hks,bX]),?_,(by first|assumption|omega|(simp [go_sem,F2,g0_2,h8,aA h8,aA hkm,aA hks,h3];done)|(simp_all<;>omega)),(by rw [Qp,kS h8,kS hkm,vH,<- hy]),(by rw [iZ];exact hyl)⟩)<;>first|omega|(simp [go_sem,seval,F2,g0_2,h8,aA h8,aA hkm,aA hks]<;>omega)
  .try simp [go_sem] at h8
   have hE:zs=vQ track undo com mat n:=by rw [hy,(aD:k=com.length),hX];rfl
   have hEl:=FR track undo com mat n
   rw [hE] at g0_2
   try simp [go_sem,seval,F2,g0_2,g0_2]
   exact hQ _ _ (by first|(left;(simp [go_sem,F2,g0_2,g0_2,hEl,dLI]);done)|(right;(simp [go_sem,F2,g0_2,g0_2,hEl,dLI]);done))
theorem Bh (n:Nat)(iso und track com mat keep:List Int)(hn:n<=1000000)(a1:und.length<=iso.length)(a2:∀ x∈und,x<n)(a3:∀ x∈com,0<=x/\x<n)(a4:com.length<=mat.length) :
  Pure Tryz.prog 186 [dI n,dLI iso,dLI und,dLI track,dLI com,dLI mat,dLI keep] (dLI (AU n iso und track com mat keep)):=by
 refine Tz.pK ⟨λt=>t==15,λ_=>[]⟩ Tryz.func186 rfl (λQ hQ=>?_)
 try simp [go_sem,seval]
 repeat first|intro _|refine ⟨eQ,?_⟩
 obtain ⟨I0,hI0⟩:∃ I0:Nat->dM->AHeap->Prop,∀ (i:Nat) (e:dM) (H:AHeap),I0 i e H↔(∃ xs:List Int,(e 1=dLI iso)/\(e 3=dLI track)/\(e 4=dLI com)/\(e 5=dLI mat)/\(e 6=dLI keep)/\(e 15=.own 0 n)/\(e 22=dLI und)/\(e 23=dI und.length)/\(e 24=dI i)/\(H.get 0=some ⟨3,1,xs.map cI,false⟩)/\(0<H.next)/\(i<=und.length)/\(xs=lC (HO iso und track i) (List.replicate n 0))/\(xs.length=n)):=⟨λi e H=>_,λ_ _ _=>Iff.rfl⟩
 refine oS I0 (λi=>und.length - i) (0) ((hI0 _ _ _).2 ⟨((List.replicate n 0)),?_,?_,?_,?_,?_,?_,?_,?_,?_,?_,?_,(by first|assumption|omega|(simp [go_sem];done)|(simp_all;done)),(by rfl),(by simp)⟩) ?_
 iterate 11 (first|omega|(simp [go_sem,seval]<;>omega))
 intro i e H hi0
 obtain ⟨xs,q1_0,q3_0,q4_0,q5_0,q6_0,q15_0,q22_0,q23_0,q24_0,g0_0,n0_0,hi,hx,hxl⟩:=(hI0 _ _ _).1 hi0
 have x0:=cD n0_0
 have F0:=And.intro q1_0 (And.intro q3_0 (And.intro q4_0 (And.intro q5_0 (And.intro q6_0 (And.intro q15_0 (And.intro q22_0 (And.intro q23_0 (And.intro q24_0 (And.intro g0_0 x0)))))))))
 try simp [go_sem,seval,F0]
 refine aP (λh3=>?_) (λh3=>?_)
 .try simp [go_sem] at h3
  have hP:=QW iso und track i
  have hii:i<iso.length:=aD
  rw [kS h3,kS hii] at hP
  have hun:=a2 _ (aC h3)
  try simp [go_sem,seval,F0,h3,aA h3,aA hii,hxl]
  repeat first|intro _|refine ⟨eQ,?_⟩
  refine aP (λh5=>?_) (λh5=>?_)
  .try simp [go_sem] at h5
   have hz2:0<=und[i]:=by simpa using h5
   have hks:und[i].toNat<xs.length:=aD
   obtain ⟨ys,hys'⟩:=cF (xs.set und[i].toNat (idx track iso[i]))
   have hys:ys=lC (HO iso und track (i+1)) (List.replicate n 0):=by rw [hys',hP,if_pos hz2,vH,<- hx]
   try simp [go_sem,seval,F0,h3,aA h3,aA hii,hxl,aA hks,hys',bX]
   repeat first|intro _|refine ⟨eQ,?_⟩
   refine aB (uN track iso[i]) ((by first|rfl|(simp [go_sem,<- List.map_take,<- List.map_drop,F0,h3,aA h3,aA hii,hxl,aA hks,hys',bX];done))) ?_
   try simp [go_sem,seval,F0,h3,aA h3,aA hii,hxl,aA hks,hys',bX]
   repeat first|intro _|refine ⟨eQ,?_⟩
   refine eB (i+1) aD ((hI0 _ _ _).2 ⟨(ys),?_,?_,?_,?_,?_,?_,?_,?_,?_,?_,?_,(by first|assumption|omega|(simp [go_sem,F0,h3,aA h3,aA hii,hxl,aA hks,hys',bX,h5];done)|(simp_all<;>omega)),(by exact hys),(by rw [hys,gS,d7])⟩)<;>first|omega|(simp [go_sem,seval,F0,h3,aA h3,aA hii,hxl,aA hks,hys',bX]<;>omega)
  .try simp [go_sem] at h5
   obtain ⟨ys,hys'⟩:=cF (xs)
   have hys:ys=lC (HO iso und track (i+1)) (List.replicate n 0):=by rw [hys',hP,if_neg (bW h5),dG,<- hx]
   try simp [go_sem,seval,F0,h3,aA h3,aA hii,hxl,hys']
   repeat first|intro _|refine ⟨eQ,?_⟩
   refine eB (i+1) aD ((hI0 _ _ _).2 ⟨(ys),?_,?_,?_,?_,?_,?_,?_,?_,?_,?_,?_,(by first|assumption|omega|(simp [go_sem,F0,h3,aA h3,aA hii,hxl,hys',h5];done)|(simp_all<;>omega)),(by exact hys),(by rw [hys,gS,d7])⟩)<;>first|omega|(simp [go_sem,seval,F0,h3,aA h3,aA hii,hxl,hys']<;>omega)
 .try simp [go_sem] at h3
  have hX:xs=lC (HO iso und track und.length) (List.replicate n 0):=by rw [hx,(aD:i=und.length)]
  try simp [go_sem,seval,F0]
  repeat first|intro _|refine ⟨eQ,?_⟩
  obtain ⟨I2,hI2⟩:∃ I2:Nat->dM->AHeap->Prop,∀ (k:Nat) (e:dM) (H:AHeap),I2 k e H↔(∃ zs:List Int,(e 1=dLI iso)/\(e 3=dLI track)/\(e 4=dLI com)/\(e 5=dLI mat)/\(e 6=dLI keep)/\(e 15=.own 0 n)/\(e 22=dLI und)/\(e 23=dI und.length)/\(e 41=dLI com)/\(e 42=dI com.length)/\(e 43=dI k)/\(H.get 0=some ⟨3,1,zs.map cI,false⟩)/\(0<H.next)/\(k<=com.length)/\(zs=lC (Kv com mat keep k) xs)/\(zs.length=n)):=⟨λk e H=>_,λ_ _ _=>Iff.rfl⟩
  refine oS I2 (λk=>com.length - k) (0) ((hI2 _ _ _).2 ⟨(xs),?_,?_,?_,?_,?_,?_,?_,?_,?_,?_,?_,(by simp [go_sem,F0]),?_,(by first|assumption|omega|(simp [go_sem,F0];done)|(simp_all;done)),(by rfl),(by exact hxl)⟩) ?_
  iterate 12 (first|omega|(simp [go_sem,seval,F0]<;>omega))
  intro k e H hi2
  obtain ⟨zs,q1_2,q3_2,q4_2,q5_2,q6_2,q15_2,q22_2,q23_2,q41_2,q42_2,q43_2,g0_2,n0_2,hk,hy,hyl⟩:=(hI2 _ _ _).1 hi2
  have x0:=cD n0_2
  have F2:=And.intro q1_2 (And.intro q3_2 (And.intro q4_2 (And.intro q5_2 (And.intro q6_2 (And.intro q15_2 (And.intro q22_2 (And.intro q23_2 (And.intro q41_2 (And.intro q42_2 (And.intro q43_2 x0))))))))))
  try simp [go_sem,seval,F2,g0_2]
  refine aP (λh9=>?_) (λh9=>?_)
  .try simp [go_sem] at h9
   have hkm:k<mat.length:=aD
   have hck:=a3 _ (aC h9)
   have hks:com[k].toNat<zs.length:=aD
   have hQ':=QV com mat keep k
   rw [kS h9,kS hkm] at hQ'
   try simp [go_sem,seval,F2,g0_2,h9,aA h9,aA hkm,aA hks]
   repeat first|intro _|refine ⟨eQ,?_⟩
   refine aB (fT keep k) ((by first|rfl|(simp [go_sem,<- List.map_take,<- List.map_drop,F2,g0_2,h9,aA h9,aA hkm,aA hks];done))) ?_
   try simp [go_sem,seval,F2,g0_2,h9,aA h9,aA hkm,aA hks]
   repeat first|intro _|refine ⟨eQ,?_⟩
   refine aP (λh11=>?_) (λh11=>?_)
   .try simp [go_sem] at h11
    obtain ⟨ys,hys'⟩:=cF (zs.set com[k].toNat mat[k])
    have hys:ys=lC (Kv com mat keep (k+1)) xs:=by rw [hys',hQ',if_neg (bW h11),vH,<- hy]
    try simp [go_sem,seval,F2,g0_2,h9,aA h9,aA hkm,aA hks,hys',bX]
    repeat first|intro _|refine ⟨eQ,?_⟩
    refine eB (k+1) aD ((hI2 _ _ _).2 ⟨(ys),?_,?_,?_,?_,?_,?_,?_,?_,?_,?_,?_,(by simp [go_sem,F2,g0_2,h9,aA h9,aA hkm,aA hks,hys',bX]),?_,(by first|assumption|omega|(simp [go_sem,F2,g0_2,h9,aA h9,aA hkm,aA hks,hys',bX,h3,h11];done)|(simp_all<;>omega)),(by exact hys),(by rw [hys,gS];exact hxl)⟩)<;>first|omega|(simp [go_sem,seval,F2,g0_2,h9,aA h9,aA hkm,aA hks,hys',bX]<;>omega)
   .try simp [go_sem] at h11
    obtain ⟨ys,hys'⟩:=cF (zs)
    have hys:ys=lC (Kv com mat keep (k+1)) xs:=by rw [hys',hQ',if_pos (bW h11),dG,<- hy]
    try simp [go_sem,seval,F2,g0_2,h9,aA h9,aA hkm,aA hks,hys']
    repeat first|intro _|refine ⟨eQ,?_⟩
    refine eB (k+1) aD ((hI2 _ _ _).2 ⟨(ys),?_,?_,?_,?_,?_,?_,?_,?_,?_,?_,?_,(by simp [go_sem,F2,g0_2,h9,aA h9,aA hkm,aA hks,hys']),?_,(by first|assumption|omega|(simp [go_sem,F2,g0_2,h9,aA h9,aA hkm,aA hks,hys',h3,h11];done)|(simp_all<;>omega)),(by exact hys),(by rw [hys,gS];exact hxl)⟩)<;>first|omega|(simp [go_sem,seval,F2,g0_2,h9,aA h9,aA hkm,aA hks,hys']<;>omega)
  .try simp [go_sem] at h9
   have hE:zs=AU n iso und track com mat keep:=by rw [hy,(aD:k=com.length),hX];rfl
   have hEl:=Sf n iso und track com mat keep
   rw [hE] at g0_2
   try simp [go_sem,seval,F2,g0_2,g0_2]
   exact hQ _ _ (by first|(left;(simp [go_sem,F2,g0_2,g0_2,hEl,dLI]);done)|(right;(simp [go_sem,F2,g0_2,g0_2,hEl,dLI]);done))
def MW (t:Types)(s:Stp26):Bool:=decide (nF t s.rule s.before s.mat=0)&&decide (fP t s.rule s.before s.mat=s)
theorem GP {t:Types}{s:Stp26}(hr:s.rule.ok)(h:MW t s=true):s=bG t s.rule s.before s.mat/\StepOk t s.rule s.before s.mat/\UndOk t s:=by
 unfold MW at h
 simp only [aR,decide_eq_true_eq] at h
 obtain ⟨h0,h1⟩:=h
 unfold fP at h1
 rw [if_pos h0] at h1
 have hg:iI t s.rule s.before=0/\kP t s.rule s.before s.mat=0:=by
  unfold nF at h0
  split at h0
  .contradiction
  .rename_i hh;exact ⟨by simpa using hh,h0⟩
 obtain ⟨hz1,hz2⟩:=CT hg.1
 have K:=Rl (O2 hr hz1) (r4 hz2) hg.2
 refine ⟨h1.symm,K,?_⟩
 have hU:=K.undOk hr
 rw [h1] at hU;exact hU
theorem MM:(Cond.mk 1 [] ⟨[],[]⟩ Qo).ok/\(Cond.mk 1 [] ⟨[],[]⟩ Qo).size<=1000000:=by
 refine ⟨(qH _).2 ⟨⟨?_,?_,?_,?_,?_,?_⟩,?_⟩,?_⟩<;>simp [Cond.map,Cond.pattern,Cond.kids,Qo,Cond.size,Cond.sizes]
theorem KU {t:Types}{s:Stp26}(hr:s.rule.ok)(hu:UndOk t s):(eM t s).ok:=by
 obtain ⟨⟨⟨z1,z2⟩,z3,z4⟩⟩:=show _/\True from ⟨hu.sz,trivial⟩
 have g1:=EG s.rule.into.nodes s.rule.right.graph.nodes.length
 have g2:=EG s.rule.into.edges s.rule.right.graph.edges.length
 refine ⟨hr.name,?_,?_,?_,?_,MM.1,MM.2⟩
 .show (fX s.rule.into.nodes s.rule.right.graph.nodes.length).length<=1000000;omega
 .show (fX s.rule.into.edges s.rule.right.graph.edges.length).length<=1000000;omega
 .show (dV (fX s.rule.into.nodes s.rule.right.graph.nodes.length) s.rule.into.nodes s.rule.keep.nodes).length<=1000000;unfold dV;rw [aW];omega
 .show (dV (fX s.rule.into.edges s.rule.right.graph.edges.length) s.rule.into.edges s.rule.keep.edges).length<=1000000;unfold dV;rw [aW];omega
def oL (t:Types)(s:Stp26):Int:=if (cZ t).2≠0 then (cZ t).2 else if MW t s=true then 0 else 1
def qP (t:Types)(s:Stp26):Int:=if oL t s≠0 then oL t s else wE t s
def iL (t:Types)(s:Stp26):Rule:=if oL t s≠0 then iM else wD t s
structure CmpA (t:Types) (s:Stp26):Prop where
 b:∀ i (h1:i<(fP t s.rule s.before s.mat).before.values.length) (h2:i<s.before.values.length),Ap (fP t s.rule s.before s.mat).before.values[i] s.before.values[i]
 a:∀ i (h1:i<(fP t s.rule s.before s.mat).after.values.length) (h2:i<s.after.values.length),Ap (fP t s.rule s.before s.mat).after.values[i] s.after.values[i]
theorem Lt (t:Types)(ht:t.ok)(s:Stp26)(hr:s.rule.ok)(hC:CmpA t s):Pure Tryz.prog 88 [t.d,.agg s.c] (dI (oL t s)):=by
 have cK:=JP t ht s hr rfl rfl hC.b hC.a
 obtain ⟨b,hb⟩:=cF (MW t s)
 have hb':(decide (nF t s.rule s.before s.mat=0)&&decide (fP t s.rule s.before s.mat=s))=b:=hb.symm
 rw [hb'] at cK
 simp only [Stp26.c,Rule.c,Mat.c,Host.c,c7,dA] at cK
 refine Tz.pK ⟨λ_=>false,λ_=>[]⟩ Tryz.func88 rfl (λQ hQ=>?_)
 have Y:=wa @Stp26.c.eq_1 (wa @Rule.c.eq_1 (wa @Mat.c.eq_1 @Host.c.eq_1))
 refine pB (h:=aB (nU t ht) wl ?_)
 refine pB (h:=wq (λh2=>?_) λh2=>?_)
 .exact pB (h:=hQ _ _ (by simp [go_sem,oL,h2]))
 .refine t6 (h:=aB (cK) wl ?_)
  refine t6 (h:=wq (λh4=>?_) λh4=>?_)
  .exact pB (h:=hQ _ _ (by simp [go_sem,oL,h2,<- hb,h4]))
  .exact pB (h:=hQ _ _ (by simp [go_sem,oL,h2,<- hb,h4]))
theorem Fu (t:Types)(ht:t.ok)(s:Stp26)(hr:s.rule.ok)(hC:CmpA t s):Pure Tryz.prog 29 [t.d,.agg s.c] (.tup [(iL t s).d,dI (qP t s)]):=by
 have cR:=Lt t ht s hr hC
 have hU:oL t s=0->Pure Tryz.prog 89 [t.d,.agg s.c] (.tup [(wD t s).d,dI (wE t s)]):=λh=>by
  refine Hp t ht s (GP hr ?_).2.2
  unfold oL at h
  split at h
  .contradiction
  .split at h
   .assumption
   .cases h
 obtain ⟨e,he⟩:=cF (oL t s)
 have hR:iL t s=if e≠0 then iM else wD t s:=by rw [he];rfl
 have hE:qP t s=if e≠0 then e else wE t s:=by rw [he];rfl
 rw [<- he] at cR hU
 rw [hR,hE]
 simp only [Stp26.c,Rule.c,Mat.c,Host.c,c7,dA] at cR hU
 refine Tz.pK ⟨λt=>t==4,λ_=>[]⟩ Tryz.func29 rfl (λQ hQ=>?_)
 have Y:=wa @Stp26.c.eq_1 (wa @Rule.c.eq_1 (wa @Mat.c.eq_1 @Host.c.eq_1))
 refine pB (h:=aB (cR) wl ?_)
 refine pB (h:=wq (λh2=>?_) λh2=>?_)
 .exact pB (h:=hQ _ _ (by simp [go_sem,h2,iM,mN,Rule.d,Rule.c,Cond.kind,Cond.kids,Cond.map,Cond.pattern]))
 .refine pB (h:=aB (hU (bW h2)) wl ?_)
  exact pB (h:=hQ _ _ (by simp [go_sem,h2]))
theorem zZ (t:Types)(ht:t.ok)(s:Stp26)(hr:s.rule.ok):Pure Tryz.prog 87 [t.d,.agg s.c] (.tup [(iL t s).d,dI (qP t s)]):=by
 have cV:=Hn t ht
 have cK:=Dj t ht s hr rfl rfl
 have hU:MW t s=true->Pure Tryz.prog 102 [t.d,.agg s.c] (.tup [(wD t s).d,dI (wE t s)]):=λh=>D9 t ht s (GP hr h).2.2
 obtain ⟨b,hb⟩:=cF (MW t s)
 have hb':(decide (nF t s.rule s.before s.mat=0)&&decide (fP t s.rule s.before s.mat=s))=b:=hb.symm
 rw [hb'] at cK
 rw [<- hb] at hU
 obtain ⟨e,he⟩:=cF ((cZ t).2)
 rw [<- he] at cV
 have hR:iL t s=if e≠0 then iM else if b=true then wD t s else iM:=by unfold iL oL;rw [<- he,<- hb];by_cases q1:e=0<;>by_cases q2:b=true<;>simp [q1,q2]
 have hE:qP t s=if e≠0 then e else if b=true then wE t s else 1:=by unfold qP oL;rw [<- he,<- hb];by_cases q1:e=0<;>by_cases q2:b=true<;>simp [q1,q2]
 rw [hR,hE]
 simp only [Stp26.c,Rule.c,Mat.c,Host.c,c7,dA] at cK hU
 clear hb hb' he hR hE
 refine Tz.pK ⟨λt=>t==4,λ_=>[]⟩ Tryz.func87 rfl (λQ hQ=>?_)
 have Y:=wa @Stp26.c.eq_1 (wa @Rule.c.eq_1 (wa @Mat.c.eq_1 @Host.c.eq_1))
 refine pB (h:=aB (cV) wl ?_)
 refine pB (h:=wq (λh2=>?_) λh2=>?_)
 .exact pB (h:=hQ _ _ (by simp [go_sem,h2,iM,mN,Rule.d,Rule.c,Cond.kind,Cond.kids,Cond.map,Cond.pattern]))
 .refine t6 (h:=aB (cK) wl ?_)
  refine t6 (h:=wq (λh4=>?_) λh4=>?_)
  .exact pB (h:=hQ _ _ (by simp [go_sem,h2,h4,iM,mN,Rule.d,Rule.c,Cond.kind,Cond.kids,Cond.map,Cond.pattern]))
  .refine pB (h:=aB (hU (bW h4)) wl ?_)
   exact pB (h:=hQ _ _ (by simp [go_sem,h2,h4]))
theorem Bj (t:Types)(ht:t.ok)(s:Stp26)(hr:s.rule.ok):Pure Tryz.prog 28 [t.d,.agg s.c] (.tup [(iL t s).d,dI (qP t s)]):=by
 have cG:=zZ t ht s hr
 simp only [Stp26.c,Rule.c,Mat.c,Host.c,c7,dA] at cG
 refine Tz.pK ⟨λt=>t==4,λ_=>[]⟩ Tryz.func28 rfl (λQ hQ=>?_)
 have Y:=wa @Stp26.c.eq_1 (wa @Rule.c.eq_1 (wa @Mat.c.eq_1 @Host.c.eq_1))
 refine pB (h:=aB (cG) wl ?_)
 exact pB (h:=hQ _ _ wy)
def BL (s u:Stp26):Part:=⟨vQ s.track.nodes u.track.nodes u.comatch.nodes s.mat.m.nodes u.after.graph.nodes.length,vQ s.track.edges u.track.edges u.comatch.edges s.mat.m.edges u.after.graph.edges.length⟩
structure IsoOk (s u:Stp26):Prop where
 fn:u.after.graph.nodes.length<=1000000/\u.after.graph.edges.length<=1000000
 ft:(∀ x∈s.track.nodes,x<u.track.nodes.length)/\∀ x∈s.track.edges,x<u.track.edges.length
 fu:(∀ x∈u.track.nodes,x<u.after.graph.nodes.length)/\∀ x∈u.track.edges,x<u.after.graph.edges.length
 fc:(∀ x∈u.comatch.nodes,0<=x/\x<u.after.graph.nodes.length)/\∀ x∈u.comatch.edges,0<=x/\x<u.after.graph.edges.length
 fm:u.comatch.nodes.length<=s.mat.m.nodes.length/\u.comatch.edges.length<=s.mat.m.edges.length
theorem P9 (s u:Stp26)(h:IsoOk s u):Pure Tryz.prog 92 [.agg s.c,.agg u.c] (BL s u).d:=by
 have cN:=z6 s.track.nodes u.track.nodes u.comatch.nodes s.mat.m.nodes u.after.graph.nodes.length h.fn.1 h.ft.1 h.fu.1 h.fc.1 h.fm.1
 have cE:=z6 s.track.edges u.track.edges u.comatch.edges s.mat.m.edges u.after.graph.edges.length h.fn.2 h.ft.2 h.fu.2 h.fc.2 h.fm.2
 obtain ⟨p,hp⟩:=cF (vQ s.track.nodes u.track.nodes u.comatch.nodes s.mat.m.nodes u.after.graph.nodes.length)
 obtain ⟨q,hq⟩:=cF (vQ s.track.edges u.track.edges u.comatch.edges s.mat.m.edges u.after.graph.edges.length)
 have hI:BL s u=⟨p,q⟩:=by rw [hp,hq];rfl
 rw [<- hp] at cN
 rw [<- hq] at cE
 rw [hI]
 refine Tz.pK ⟨λt=>t==4,λ_=>[]⟩ Tryz.func92 rfl (λQ hQ=>?_)
 have Y:=wa @Stp26.c.eq_1 (wa @Rule.c.eq_1 (wa @Mat.c.eq_1 @Host.c.eq_1))
 refine t6 (h:=aJ (cN) wl ?_)
 refine t6 (h:=aJ (cE) wl ?_)
 exact t6 (h:=hQ _ _ wy)
def stpZ:List D:=[.str ⟨#[]⟩,.nil,.nil,.nil,.int .i64 (0),.nil,.nil,.nil,.nil,.int .i64 (0),.nil,.nil,.nil,.nil,.nil,.bool false,.int .i64 (0),.nil,.nil,.nil,.nil,.nil,.nil,.int .i64 (0),.nil,.nil,.nil,.nil,.nil,.nil,.nil,.nil,.nil,.nil,.nil,.nil,.nil,.nil]
@[go_sem] theorem Wc:stpZ.length=38:=rfl
def DS (s u:Stp26)(m0:Part):Part:=⟨AU u.after.graph.nodes.length m0.nodes u.track.nodes s.track.nodes u.comatch.nodes s.mat.m.nodes s.rule.keep.nodes,AU u.after.graph.edges.length m0.edges u.track.edges s.track.edges u.comatch.edges s.mat.m.edges s.rule.keep.edges⟩
structure BackOk (s u:Stp26) (m0:Part):Prop where
 fn:u.after.graph.nodes.length<=1000000/\u.after.graph.edges.length<=1000000
 fi:u.track.nodes.length<=m0.nodes.length/\u.track.edges.length<=m0.edges.length
 fu:(∀ x∈u.track.nodes,x<u.after.graph.nodes.length)/\∀ x∈u.track.edges,x<u.after.graph.edges.length
 fc:(∀ x∈u.comatch.nodes,0<=x/\x<u.after.graph.nodes.length)/\∀ x∈u.comatch.edges,0<=x/\x<u.after.graph.edges.length
 fm:u.comatch.nodes.length<=s.mat.m.nodes.length/\u.comatch.edges.length<=s.mat.m.edges.length
def Dg (s:Stp26)(m0:Part):Mat:=⟨⟨s.comatch.nodes.map (idx m0.nodes),s.comatch.edges.map (idx m0.edges)⟩,[]⟩
theorem RA (t:Types):lU t.d=t.d:=by simp [Types.d,Types.c,lU,i6,Iv,DD]
theorem SW (r:Rule):lU r.d=r.d:=by simp [Rule.d,Rule.c,lU,i6,dLI,dI,eI,x7,L9,L8,RB]
theorem SX (h:Host):lU h.d=h.d:=by simp [Host.d,Host.c,lU,i6,dLI,dI,eI,x7,WY]
theorem Us (l:List Int):lU (dLI l)=dLI l:=by simp [dLI,lU,eI]
theorem Tv (t:Types)(r:Rule)(h:Host)(a b:List Int):[t.d,r.d,h.d,.agg [dLI a,dLI b,.nil]].map lU=[t.d,r.d,h.d,.agg [dLI a,dLI b,dLI []]]:=by
 simp [RA,SW,SX,lU,i6,Us];simp [dLI]
theorem JM (t:Types)(ht:t.ok)(s:Stp26)(r:Rule)(hr:r.ok)(h:Host)(m0:Part)(hc1:s.comatch.nodes.length<=1000)(hc2:s.comatch.edges.length<=1000){v:Stp26}{er:Int}(hv:v=fP t r h (Dg s m0))(he:er=nF t r h (Dg s m0))(hB:er=0->BackOk s v m0) :
  Pure Tryz.prog 90 [t.d,.agg s.c,r.d,h.d,m0.d] (.tup [.agg (if er=0 then v else j7).c,(if er=0 then DS s v m0 else ⟨[],[]⟩:Part).d,dI er]):=by
 have cA:=A7 t ht r hr h (Dg s m0) hv he
 obtain ⟨M1,hM1⟩:∃ M,M=s.comatch.nodes.map (idx m0.nodes):=⟨_,rfl⟩
 obtain ⟨M2,hM2⟩:∃ M,M=s.comatch.edges.map (idx m0.edges):=⟨_,rfl⟩
 have hUM:Dg s m0=⟨⟨M1,M2⟩,[]⟩:=by rw [hM1,hM2];rfl
 rw [hUM] at cA
 have l1:M1.length=s.comatch.nodes.length:=by rw [hM1];simp
 have l2:M2.length=s.comatch.edges.length:=by rw [hM2];simp
 have bN:=λh0:er=0=>Bh v.after.graph.nodes.length m0.nodes v.track.nodes s.track.nodes v.comatch.nodes s.mat.m.nodes s.rule.keep.nodes (hB h0).fn.1 (hB h0).fi.1 (hB h0).fu.1 (hB h0).fc.1 (hB h0).fm.1
 have bE:=λh0:er=0=>Bh v.after.graph.edges.length m0.edges v.track.edges s.track.edges v.comatch.edges s.mat.m.edges s.rule.keep.edges (hB h0).fn.2 (hB h0).fi.2 (hB h0).fu.2 (hB h0).fc.2 (hB h0).fm.2
 obtain ⟨p,hp⟩:=cF (AU v.after.graph.nodes.length m0.nodes v.track.nodes s.track.nodes v.comatch.nodes s.mat.m.nodes s.rule.keep.nodes)
 obtain ⟨q,hq⟩:=cF (AU v.after.graph.edges.length m0.edges v.track.edges s.track.edges v.comatch.edges s.mat.m.edges s.rule.keep.edges)
 have hI:DS s v m0=⟨p,q⟩:=by rw [hp,hq];rfl
 rw [<- hp] at bN
 rw [<- hq] at bE
 rw [hI]
 simp only [Stp26.c,Rule.c,Mat.c,Host.c,c7,dA] at cA
 have cA:=cA.nzk (Tv t r h M1 M2)
 unfold Rule.d Host.d at cA
 simp only [Rule.c,Host.c] at cA
 clear hB hp hq hI hv he
 refine Tz.pK ⟨λt=>t==10||t==11||t==13||t==18,λr=>match r with|5=>[(0,7),(1,7),(2,7)]|10=>[(0,7),(1,7),(2,7)]|_=>[]⟩ Tryz.func90 rfl (λQ hQ=>?_)
 try simp -implicitDefEqProofs [go_sem,seval,Stp26.c,Rule.c,Mat.c,Host.c]
 repeat first|intro _|refine ⟨eQ,?_⟩
 obtain ⟨I0,hI0⟩:∃ I0:Nat->dM->AHeap->Prop,∀ (i:Nat) (e:dM) (H:AHeap),I0 i e H↔((e 5=.adr t.c)/\(e 6=.adr s.c)/\(e 7=.adr r.c)/\(e 8=.adr h.c)/\(e 9=.adr m0.c)/\(e 10=.ptr 0 1 0 0)/\(e 11=.ptr 1 1 0 0)/\(e 13=.ptr 2 1 0 0)/\(e 22=dLI s.comatch.nodes)/\(e 23=dI s.comatch.nodes.length)/\(e 24=dI i)/\(H.get 0=some ⟨53,38,[stpZ],false⟩)/\(0<H.next)/\(H.get 1=some ⟨36,2,[[.nil,.nil]],false⟩)/\(1<H.next)/\(H.get 2=some ⟨46,3,[[.own 3 i,.own 4 0,.nil]],false⟩)/\(2<H.next)/\(H.get 3=some ⟨3,1,((s.comatch.nodes.take i).map (idx m0.nodes)).map cI,false⟩)/\(3<H.next)/\(H.get 4=some ⟨3,1,[],false⟩)/\(4<H.next)/\(i<=s.comatch.nodes.length)):=⟨λi e H=>_,λ_ _ _=>Iff.rfl⟩
 refine J7 (Ghosts.step (Ghosts.step (Ghosts.refl _) 2 0 0 3 1 _ _ (rfl) rfl rfl rfl) 2 0 1 3 1 _ _ (rfl) rfl rfl rfl) I0 (λi=>s.comatch.nodes.length - i) (0) ((hI0 _ _ _).2 ⟨?_,?_,?_,?_,?_,?_,?_,?_,?_,?_,?_,(by simp [go_sem,Stp26.c,Rule.c,Mat.c,Host.c,stpZ]),?_,?_,?_,?_,?_,(by rfl),?_,?_,?_,(by first|assumption|omega|(simp [go_sem,Stp26.c,Rule.c,Mat.c,Host.c];done)|(simp_all;done))⟩) ?_
 iterate 19 (first|omega|(simp [go_sem,seval,Stp26.c,Rule.c,Mat.c,Host.c]<;>omega))
 intro i e H hi0
 obtain ⟨q5_0,q6_0,q7_0,q8_0,q9_0,q10_0,q11_0,q13_0,q22_0,q23_0,q24_0,g0_0,n0_0,g1_0,n1_0,g2_0,n2_0,g3_0,n3_0,g4_0,n4_0,hi⟩:=(hI0 _ _ _).1 hi0
 have x0:=cD n0_0
 have x1:=cD n1_0
 have x2:=cD n2_0
 have x3:=cD n3_0
 have x4:=cD n4_0
 have F0:=And.intro q5_0 (And.intro q6_0 (And.intro q7_0 (And.intro q8_0 (And.intro q9_0 (And.intro q10_0 (And.intro q11_0 (And.intro q13_0 (And.intro q22_0 (And.intro q23_0 (And.intro q24_0 (And.intro g0_0 (And.intro g1_0 (And.intro g4_0 (And.intro x0 (And.intro x1 (And.intro x2 (And.intro x3 x4)))))))))))))))))
 try simp -implicitDefEqProofs [go_sem,seval,Stp26.c,Rule.c,Mat.c,Host.c,F0,g2_0,g3_0]
 refine aP (λh3=>?_) (λh3=>?_)
 .try simp [go_sem] at h3
  have hSt:(s.comatch.nodes.take (i+1)).map (idx m0.nodes)=(s.comatch.nodes.take i).map (idx m0.nodes)++[idx m0.nodes s.comatch.nodes[i]]:=by rw [aE h3,List.map_append];rfl
  have hal:((s.comatch.nodes.take i).map (idx m0.nodes)).length=i:=by simp;omega
  try simp -implicitDefEqProofs [go_sem,seval,Stp26.c,Rule.c,Mat.c,Host.c,F0,g2_0,g3_0,h3,aA h3,hal]
  repeat first|intro _|refine ⟨eQ,?_⟩
  refine aJ (uN m0.nodes s.comatch.nodes[i]) ((by first|rfl|(simp [go_sem,<- List.map_take,<- List.map_drop,Stp26.c,Rule.c,Mat.c,Host.c,F0,g2_0,g3_0,h3,aA h3,hal];done))) ?_
  try simp -implicitDefEqProofs [go_sem,seval,Stp26.c,Rule.c,Mat.c,Host.c,F0,g2_0,g3_0,h3,aA h3,hal]
  repeat first|intro _|refine ⟨eQ,?_⟩
  refine eB (i+1) aD ((hI0 _ _ _).2 ⟨?_,?_,?_,?_,?_,?_,?_,?_,?_,?_,?_,(by simp [go_sem,Stp26.c,Rule.c,Mat.c,Host.c,F0,g2_0,g3_0,h3,aA h3,hal]),?_,?_,?_,?_,?_,(by simp [go_sem,Stp26.c,Rule.c,Mat.c,Host.c,F0,g2_0,g3_0,h3,aA h3,hal,hSt]),?_,?_,?_,(by first|assumption|omega|(simp [go_sem,Stp26.c,Rule.c,Mat.c,Host.c,F0,g2_0,g3_0,h3,aA h3,hal];done)|(simp_all<;>omega))⟩)<;>first|omega|(simp [go_sem,seval,Stp26.c,Rule.c,Mat.c,Host.c,F0,g2_0,g3_0,h3,aA h3,hal]<;>omega)
 .try simp [go_sem] at h3
  have hI:i=s.comatch.nodes.length:=aD
  rw [aH aD,<- hM1] at g3_0
  rw [hI,<- l1] at g2_0
  try simp -implicitDefEqProofs [go_sem,seval,Stp26.c,Rule.c,Mat.c,Host.c,F0,g2_0,g3_0,g3_0,g2_0]
  repeat first|intro _|refine ⟨eQ,?_⟩
  obtain ⟨I2,hI2⟩:∃ I2:Nat->dM->AHeap->Prop,∀ (k:Nat) (e:dM) (H:AHeap),I2 k e H↔((e 5=.adr t.c)/\(e 6=.adr s.c)/\(e 7=.adr r.c)/\(e 8=.adr h.c)/\(e 9=.adr m0.c)/\(e 10=.ptr 0 1 0 0)/\(e 11=.ptr 1 1 0 0)/\(e 13=.ptr 2 1 0 0)/\(e 22=dLI s.comatch.nodes)/\(e 23=dI s.comatch.nodes.length)/\(e 42=dLI s.comatch.edges)/\(e 43=dI s.comatch.edges.length)/\(e 44=dI k)/\(H.get 0=some ⟨53,38,[stpZ],false⟩)/\(0<H.next)/\(H.get 1=some ⟨36,2,[[.nil,.nil]],false⟩)/\(1<H.next)/\(H.get 2=some ⟨46,3,[[.own 3 M1.length,.own 4 k,.nil]],false⟩)/\(2<H.next)/\(H.get 3=some ⟨3,1,M1.map cI,false⟩)/\(3<H.next)/\(H.get 4=some ⟨3,1,((s.comatch.edges.take k).map (idx m0.edges)).map cI,false⟩)/\(4<H.next)/\(k<=s.comatch.edges.length)):=⟨λk e H=>_,λ_ _ _=>Iff.rfl⟩
  refine oS I2 (λk=>s.comatch.edges.length - k) (0) ((hI2 _ _ _).2 ⟨?_,?_,?_,?_,?_,?_,?_,?_,?_,?_,?_,?_,?_,?_,?_,?_,?_,?_,?_,?_,?_,(by exact g4_0),?_,(by first|assumption|omega|(simp [go_sem,Stp26.c,Rule.c,Mat.c,Host.c,F0,g2_0,g3_0,g3_0,g2_0];done)|(simp_all;done))⟩) ?_
  iterate 22 (first|omega|(simp [go_sem,seval,Stp26.c,Rule.c,Mat.c,Host.c,F0,g2_0,g3_0,g3_0,g2_0]<;>omega))
  intro k e H hi2
  obtain ⟨q5_2,q6_2,q7_2,q8_2,q9_2,q10_2,q11_2,q13_2,q22_2,q23_2,q42_2,q43_2,q44_2,g0_2,n0_2,g1_2,n1_2,g2_2,n2_2,g3_2,n3_2,g4_2,n4_2,hk⟩:=(hI2 _ _ _).1 hi2
  have x0:=cD n0_2
  have x1:=cD n1_2
  have x2:=cD n2_2
  have x3:=cD n3_2
  have x4:=cD n4_2
  have F2:=And.intro q5_2 (And.intro q6_2 (And.intro q7_2 (And.intro q8_2 (And.intro q9_2 (And.intro q10_2 (And.intro q11_2 (And.intro q13_2 (And.intro q22_2 (And.intro q23_2 (And.intro q42_2 (And.intro q43_2 (And.intro q44_2 (And.intro g0_2 (And.intro g1_2 (And.intro g3_2 (And.intro x0 (And.intro x1 (And.intro x2 (And.intro x3 x4)))))))))))))))))))
  try simp -implicitDefEqProofs [go_sem,seval,Stp26.c,Rule.c,Mat.c,Host.c,F2,g2_2,g4_2]
  refine aP (λh8=>?_) (λh8=>?_)
  .try simp [go_sem] at h8
   have hSt2:(s.comatch.edges.take (k+1)).map (idx m0.edges)=(s.comatch.edges.take k).map (idx m0.edges)++[idx m0.edges s.comatch.edges[k]]:=by rw [aE h8,List.map_append];rfl
   have hal2:((s.comatch.edges.take k).map (idx m0.edges)).length=k:=by simp;omega
   try simp -implicitDefEqProofs [go_sem,seval,Stp26.c,Rule.c,Mat.c,Host.c,F2,g2_2,g4_2,h8,aA h8,hal2]
   repeat first|intro _|refine ⟨eQ,?_⟩
   refine aJ (uN m0.edges s.comatch.edges[k]) ((by first|rfl|(simp [go_sem,<- List.map_take,<- List.map_drop,Stp26.c,Rule.c,Mat.c,Host.c,F2,g2_2,g4_2,h8,aA h8,hal2];done))) ?_
   try simp -implicitDefEqProofs [go_sem,seval,Stp26.c,Rule.c,Mat.c,Host.c,F2,g2_2,g4_2,h8,aA h8,hal2]
   repeat first|intro _|refine ⟨eQ,?_⟩
   refine eB (k+1) aD ((hI2 _ _ _).2 ⟨?_,?_,?_,?_,?_,?_,?_,?_,?_,?_,?_,?_,?_,?_,?_,?_,?_,?_,?_,?_,?_,(by simp [go_sem,Stp26.c,Rule.c,Mat.c,Host.c,F2,g2_2,g4_2,h8,aA h8,hal2,hSt2]),?_,(by first|assumption|omega|(simp [go_sem,Stp26.c,Rule.c,Mat.c,Host.c,F2,g2_2,g4_2,h8,aA h8,hal2,h3];done)|(simp_all<;>omega))⟩)<;>first|omega|(simp [go_sem,seval,Stp26.c,Rule.c,Mat.c,Host.c,F2,g2_2,g4_2,h8,aA h8,hal2]<;>omega)
  .try simp [go_sem] at h8
   have hK:k=s.comatch.edges.length:=aD
   rw [aH aD,<- hM2] at g4_2
   rw [hK,<- l2] at g2_2
   try simp -implicitDefEqProofs [go_sem,seval,Stp26.c,Rule.c,Mat.c,Host.c,F2,g2_2,g4_2,g4_2,g2_2]
   refine MX (cA) (by (simp [go_sem,Stp26.c,Rule.c,Mat.c,Host.c,F2,g2_2,g4_2,g4_2,g2_2])<;>rfl) ((by first|rfl|(simp [go_sem,<- List.map_take,<- List.map_drop,Stp26.c,Rule.c,Mat.c,Host.c,F2,g2_2,g4_2,g4_2,g2_2];done))) (by (simp [go_sem,Stp26.c,Rule.c,Mat.c,Host.c,F2,g2_2,g4_2,g4_2,g2_2])<;>rfl) ?_
   try simp -implicitDefEqProofs [go_sem,seval,Stp26.c,Rule.c,Mat.c,Host.c,F2,g2_2,g4_2,g4_2,g2_2]
   refine aP (λh13=>?_) (λh13=>?_)
   .try simp [go_sem] at h13
    try simp -implicitDefEqProofs [go_sem,seval,Stp26.c,Rule.c,Mat.c,Host.c,F2,g2_2,g4_2,g4_2,g2_2]
    have hne:¬ er=0:=by simpa using h13
    exact hQ _ _ (by first|(left;(simp [go_sem,hne,j7,iM,mN,g8,Part.d,Part.c,Stp26.c,Rule.c,Mat.c,Host.c,Cond.kind,Cond.kids,Cond.map,Cond.pattern,dLI,dI]);done)|(right;(simp [go_sem,hne,j7,iM,mN,g8,Part.d,Part.c,Stp26.c,Rule.c,Mat.c,Host.c,Cond.kind,Cond.kids,Cond.map,Cond.pattern,dLI,dI]);done))
   .try simp [go_sem] at h13
    try simp -implicitDefEqProofs [go_sem,seval,Stp26.c,Rule.c,Mat.c,Host.c,F2,g2_2,g4_2,g4_2,g2_2]
    repeat first|intro _|refine ⟨eQ,?_⟩
    refine aJ (bN (bW h13)) ((by first|rfl|(simp [go_sem,<- List.map_take,<- List.map_drop,Stp26.c,Rule.c,Mat.c,Host.c,F2,g2_2,g4_2,g4_2,g2_2];done))) ?_
    try simp -implicitDefEqProofs [go_sem,seval,Stp26.c,Rule.c,Mat.c,Host.c,F2,g2_2,g4_2,g4_2,g2_2]
    repeat first|intro _|refine ⟨eQ,?_⟩
    refine aJ (bE (bW h13)) ((by first|rfl|(simp [go_sem,<- List.map_take,<- List.map_drop,Stp26.c,Rule.c,Mat.c,Host.c,F2,g2_2,g4_2,g4_2,g2_2];done))) ?_
    try simp -implicitDefEqProofs [go_sem,seval,Stp26.c,Rule.c,Mat.c,Host.c,F2,g2_2,g4_2,g4_2,g2_2]
    repeat first|intro _|refine ⟨eQ,?_⟩
    have hz:er=0:=by simpa using h13
    exact hQ _ _ (by first|(left;(simp [go_sem,Stp26.c,Rule.c,Mat.c,Host.c,F2,g2_2,g4_2,g4_2,g2_2,hz,Part.d,Part.c,Stp26.c,Rule.c,Mat.c,Host.c]);done)|(right;(simp [go_sem,Stp26.c,Rule.c,Mat.c,Host.c,F2,g2_2,g4_2,g4_2,g2_2,hz,Part.d,Part.c,Stp26.c,Rule.c,Mat.c,Host.c]);done))
def xS (s:Stp26)(b:Part):Stp26:=⟨s.rule,s.mat,s.before,s.after,⟨kO s.track.nodes b.nodes,kO s.track.edges b.edges⟩,s.comatch⟩
def BM (m:Part):Part:=⟨oC m.nodes,oC m.edges⟩
def uK (g:Graph):Part:=⟨kT g.nodes.length,kT g.edges.length⟩
theorem vR {n:Nat}{k:Int}(h0:0<=k)(h:k<n):iA (kT n) k=k:=by
 unfold iA kT
 rw [aN,n9 aD]
 simp;omega
theorem J4 {n:Nat}:∀ x∈kT n,0<=x/\x<n:=λx hx=>by
 unfold kT at hx
 obtain ⟨k,hk,rfl⟩:=bA.1 hx
 have:=bP.1 hk
 omega
theorem EB (n:Nat):(kT n).Nodup:=by
 unfold kT
 rw [qN,List.pairwise_map]
 exact List.pairwise_lt_range.imp λh=>by omega
theorem Kd {n:Nat}{k:Int}(h0:0<=k)(h:k<n):iA (oC (kT n)) k=k:=by
 have:=(Ke (BB n) J4 (EB n) h0 h).2
 rw [vR h0 h] at this;exact this
theorem QJ {t:Types}{g:Host}(ho:HostOk t g):HIso g g (uK g.graph) where
 nl:=BB _
 el:=BB _
 nn:=rfl
 en:=rfl
 av:=ho.vl
 bv:=ho.vl
 ni:=J4
 ei:=J4
 nd:=EB _
 ed:=EB _
 ty p h0 h:=by show _=gN g.graph (iA (kT _) p);rw [vR h0 h]
 eg p h0 h:=by
  have hE:=EJ ho.gg h0 h
  show eA g.graph (iA (kT _) p)=⟨_,iA (kT _) _,iA (kT _) _⟩
  rw [vR h0 h,vR hE.1.1 hE.1.2,vR hE.2.1.1 hE.2.1.2]
 va p h0 h:=by show _=g.values[(iA (kT _) p).toNat]?.getD [];rw [vR h0 h]
theorem BE {l:List Int}{f:Int->Int}(h:∀ x∈l,f x=x):l.map f=l:=(b6 (g:=id) h).trans (List.map_id l)
theorem La {l:List Int}{n:Nat}(h:∀ x∈l,x<n):kO l (oC (kT n))=l:=by
 unfold kO
 refine BE λx hx=>?_
 split
 .exact Kd (by assumption) (h x hx)
 .rfl
section
variable {t:Types} {r:Rule} {h g:Host} {m m':Mat} {m0:Part}
theorem An {t:Types}{r:Rule}{h:Host}{m:Mat}(hr:r.ok)(h0:nF t r h m=0):StepOk t r h m:=by
 unfold nF at h0
 split at h0
 .contradiction
 .rename_i hg
  obtain ⟨z1,z2⟩:=CT (bW hg)
  exact Rl (O2 hr z1) (r4 z2) h0
theorem StepIn.t_lt (S:StepIn t r h m):(∀ x∈(cW r h m).nodes,x<(cX t r h m).graph.nodes.length)/\∀ x∈(cW r h m).edges,x<(cX t r h m).graph.edges.length:=by
 constructor
 .intro x hx
  obtain ⟨i,hi,rfl⟩:=Ai hx
  rw [S.trN] at hi ⊢
  rw [iU] at hi
  rw [S.sizeN]
  by_cases hd:(i:Int)∈lT r.keep.nodes m.m.nodes h.graph.nodes.length
  .obtain ⟨p,h1,h2,_⟩:=S.srtN.t_in hd
   omega
  .rw [S.srtN.t_out aD hd];omega
 .intro x hx
  obtain ⟨i,hi,rfl⟩:=Ai hx
  rw [S.trE] at hi ⊢
  rw [iU] at hi
  rw [S.sizeE]
  by_cases hd:(i:Int)∈lT r.keep.edges m.m.edges h.graph.edges.length
  .obtain ⟨p,h1,h2,_⟩:=S.srtE.t_in hd
   omega
  .rw [S.srtE.t_out aD hd];omega
theorem OX {l:List Int}{n N:Nat}(hl:l.length=n)(hr:∀ x∈l,0<=x/\x<n)(hd:l.Nodup){tr:List Int}(ht:∀ x∈tr,x<n):∀ x∈kO tr (oC l),x<n:=λx hx=>by
 unfold kO at hx
 obtain ⟨y,hy,rfl⟩:=bA.1 hx
 split
 .exact (EE hl hr hd (by assumption) (ht y hy)).1.2
 .exact ht y hy
theorem Back.isoOk (B:Back t r h m g m0 m'):IsoOk (xS (bG t r h m) (BM m0)) (bG t (eM t (bG t r h m)) g m') where
 fn:=by
  have h1:=B.K'.nn
  have h2:=B.K'.ne
  exact ⟨by show (cX t _ g m').graph.nodes.length<=_;show (b7 t _ g m').graph.nodes.length<=_;omega,by show (b7 t _ g m').graph.edges.length<=_;omega⟩
 ft:=by
  constructor
  .show ∀ x∈kO (cW r h m).nodes (oC m0.nodes),x<(cW _ g m').nodes.length
   rw [B.K'.S.trN,iU]
   exact OX (N:=0) B.I.nl (by rw [B.I.nn];exact B.I.ni) B.I.nd (by rw [B.I.nn];exact B.K.S.t_lt.1)
  .show ∀ x∈kO (cW r h m).edges (oC m0.edges),x<(cW _ g m').edges.length
   rw [B.K'.S.trE,iU]
   exact OX (N:=0) B.I.el (by rw [B.I.en];exact B.I.ei) B.I.ed (by rw [B.I.en];exact B.K.S.t_lt.2)
 fu:=B.K'.S.t_lt
 fc:=⟨B.K'.S.c_rangeN,B.K'.S.c_rangeE⟩
 fm:=by
  constructor
  .show (fB _ g m').nodes.length<=m.m.nodes.length
   rw [B.K'.S.coN,iV,B.left_len.2,B.K.S.hm.len];exact bC _
  .show (fB _ g m').edges.length<=m.m.edges.length
   rw [B.K'.S.coE,iV,B.K.S.hm.elen];exact bC _
theorem Back.backOk (B:Back t r h m g m0 m'):BackOk (bG t r h m) (bG t (eM t (bG t r h m)) g m') m0 where
 fn:=B.isoOk.fn
 fi:=by
  constructor
  .show (cW _ g m').nodes.length<=m0.nodes.length
   rw [B.K'.S.trN,iU,B.I.nl];exact bC _
  .show (cW _ g m').edges.length<=m0.edges.length
   rw [B.K'.S.trE,iU,B.I.el];exact bC _
 fu:=B.isoOk.fu
 fc:=B.isoOk.fc
 fm:=B.isoOk.fm
theorem Back.same (B:Back t r h m g m0 m'):DS (bG t r h m) (bG t (eM t (bG t r h m)) g m') m0=BL (xS (bG t r h m) (BM m0)) (bG t (eM t (bG t r h m)) g m'):=by
 have hn:=B.K'.S.sizeN
 have he:=B.K'.S.sizeE
 rw [B.left_len.2] at hn
 have h1:=B.undN.same hn
 have h2:=B.undE.same he
 have eC:=B.K'.S.coN
 rw [B.left_len.2] at eC
 have e1:(⟨(DS (bG t r h m) (bG t (eM t (bG t r h m)) g m') m0).nodes,(DS (bG t r h m) (bG t (eM t (bG t r h m)) g m') m0).edges⟩:Part)=⟨(BL (xS (bG t r h m) (BM m0)) (bG t (eM t (bG t r h m)) g m')).nodes,(BL (xS (bG t r h m) (BM m0)) (bG t (eM t (bG t r h m)) g m')).edges⟩:=by
  congr 1
  .show AU _ m0.nodes (cW _ g m').nodes (cW r h m).nodes (fB _ g m').nodes m.m.nodes r.keep.nodes=vQ (kO (cW r h m).nodes (oC m0.nodes)) (cW _ g m').nodes (fB _ g m').nodes m.m.nodes _
   rw [B.K.S.trN,B.K'.S.trN,eC];exact h1
  .show AU _ m0.edges (cW _ g m').edges (cW r h m).edges (fB _ g m').edges m.m.edges r.keep.edges=vQ (kO (cW r h m).edges (oC m0.edges)) (cW _ g m').edges (fB _ g m').edges m.m.edges _
   rw [B.K.S.trE,B.K'.S.trE,B.K'.S.coE];exact h2
 exact e1
theorem PS (K:StepOk t r h m)(hr:r.ok)(h0:nF t (eM t (bG t r h m)) (cX t r h m) ⟨fB r h m,[]⟩=0):Back t r h m (cX t r h m) (uK (cX t r h m).graph) ⟨fB r h m,[]⟩ where
 K:=K
 I:=QJ (r4 K.after)
 bn:=by
  show (fB r h m).nodes=_
  refine (BE λx hx=>?_).symm
  exact Kd (K.S.c_rangeN x hx).1 (K.S.c_rangeN x hx).2
 be:=by
  show (fB r h m).edges=_
  refine (BE λx hx=>?_).symm
  exact Kd (K.S.c_rangeE x hx).1 (K.S.c_rangeE x hx).2
 K':=An (KU hr (K.undOk hr)) h0
theorem T5 (K:StepOk t r h m):xS (bG t r h m) (BM (uK (cX t r h m).graph))=bG t r h m:=by
 have h1:kO (cW r h m).nodes (oC (kT (cX t r h m).graph.nodes.length))=(cW r h m).nodes:=La K.S.t_lt.1
 have h2:kO (cW r h m).edges (oC (kT (cX t r h m).graph.edges.length))=(cW r h m).edges:=La K.S.t_lt.2
 show (⟨r,m,h,cX t r h m,⟨kO (cW r h m).nodes _,kO (cW r h m).edges _⟩,fB r h m⟩:Stp26)=⟨r,m,h,cX t r h m,cW r h m,fB r h m⟩
 rw [show (BM (uK (cX t r h m).graph)).nodes=oC (kT (cX t r h m).graph.nodes.length) from rfl,show (BM (uK (cX t r h m).graph)).edges=oC (kT (cX t r h m).graph.edges.length) from rfl,h1,h2]
end
def AX (s:Stp26):Mat:=⟨s.comatch,[]⟩
def EQ (t:Types)(s:Stp26):Int:=if qP t s≠0 then qP t s else nF t (iL t s) s.after (AX s)
def u6 (t:Types)(s:Stp26):Stp26:=if EQ t s=0 then fP t (iL t s) s.after (AX s) else j7
def KN (t:Types)(s:Stp26):Part:=if EQ t s=0 then BL s (fP t (iL t s) s.after (AX s)) else ⟨[],[]⟩
theorem Be {t:Types}{s:Stp26}(hr:s.rule.ok)(h:qP t s=0):MW t s=true/\iL t s=eM t s/\(iL t s).ok:=by
 unfold qP at h
 split at h
 .contradiction
 .rename_i h1
  have h1':oL t s=0:=by simpa using h1
  have hc:MW t s=true:=by
   unfold oL at h1'
   split at h1'
   .contradiction
   .split at h1'
    .assumption
    .cases h1'
  unfold wE at h
  split at h
  .cases h
  .rename_i h2
   have hR:iL t s=eM t s:=by unfold iL wD;rw [if_neg h1,if_neg h2]
   exact ⟨hc,hR,by rw [hR];exact KU hr (GP hr hc).2.2⟩
theorem KT {t:Types}{s:Stp26}(hs:s=bG t s.rule s.before s.mat)(K:StepOk t s.rule s.before s.mat):Dg s (uK s.after.graph)=AX s:=by
 have key:∀ {l:List Int} {n:Nat},(∀ x∈l,0<=x/\x<n)->l.map (idx (kT n))=l:=λ {l n} hl=>BE λx hx=>by
  have hr:=hl x hx
  have:=RN (EB n) (q:=x.toNat) (by rw [BB];omega)
  rw [show ((x.toNat:Nat):Int)=x by omega,vR hr.1 hr.2] at this
  exact this
 have h1:=K.S.c_rangeN
 have h2:=K.S.c_rangeE
 have e1:s.comatch=fB s.rule s.before s.mat:=congrArg Stp26.comatch hs
 have e2:s.after=cX t s.rule s.before s.mat:=congrArg Stp26.after hs
 rw [<- e1,<- e2] at h1 h2
 show (⟨⟨s.comatch.nodes.map (idx (kT s.after.graph.nodes.length)),s.comatch.edges.map (idx (kT s.after.graph.edges.length))⟩,[]⟩:Mat)=⟨⟨s.comatch.nodes,s.comatch.edges⟩,[]⟩
 rw [key h1,key h2]
theorem OW {t:Types}{s:Stp26}(hr:s.rule.ok)(h:EQ t s=0):∃ r h m,s=bG t r h m/\u6 t s=bG t (eM t s) s.after (AX s)/\KN t s=BL s (bG t (eM t s) s.after (AX s))/\Back t r h m s.after (uK s.after.graph) (AX s):=by
 have hP:u6 t s=fP t (iL t s) s.after (AX s)/\KN t s=BL s (fP t (iL t s) s.after (AX s)):=⟨by unfold u6;rw [if_pos h],by unfold KN;rw [if_pos h]⟩
 unfold EQ at h
 split at h
 .contradiction
 .rename_i h1
  obtain ⟨hc,hR,_⟩:=Be hr (bW h1)
  rw [hR] at h hP
  have hV:fP t (eM t s) s.after (AX s)=bG t (eM t s) s.after (AX s):=by unfold fP;rw [if_pos h]
  rw [hV] at hP
  obtain ⟨hs,K,_⟩:=GP hr hc
  obtain ⟨r,b,m,hs'⟩:∃ r b m,s=bG t r b m:=⟨_,_,_,hs⟩
  refine ⟨r,b,m,hs',hP.1,hP.2,?_⟩
  subst hs'
  exact PS K hr h
theorem Jp {t:Types}{s:Stp26}(hr:s.rule.ok)(h:EQ t s=0):HIso (u6 t s).after s.before (KN t s)/\IsoOk s (u6 t s)/\BackOk s (u6 t s) (uK s.after.graph)/\DS s (u6 t s) (uK s.after.graph)=KN t s/\Dg s (uK s.after.graph)=AX s:=by
 obtain ⟨r,b,m,hs,h1,h2,B⟩:=OW hr h
 rw [h1,h2]
 subst hs
 have hx:xS (bG t r b m) (BM (uK (bG t r b m).after.graph))=bG t r b m:=T5 B.K
 have hI:=B.iso
 have hO:=B.isoOk
 have hK:=B.backOk
 have hS:=B.same
 have hu:Dg (bG t r b m) (uK (cX t r b m).graph)=AX (bG t r b m):=KT rfl B.K
 have hS':DS (bG t r b m) (bG t (eM t (bG t r b m)) (cX t r b m) (AX (bG t r b m))) (uK (cX t r b m).graph)=BL (bG t r b m) (bG t (eM t (bG t r b m)) (cX t r b m) (AX (bG t r b m))):=by
  have:=hS
  rw [hx] at this;exact this
 rw [hx] at hO
 refine ⟨?_,hO,hK,hS',hu⟩
 have hE:BL (bG t r b m) (bG t (eM t (bG t r b m)) (cX t r b m) (AX (bG t r b m)))=BL (xS (bG t r b m) (BM (uK (bG t r b m).after.graph))) (bG t (eM t (bG t r b m)) (cX t r b m) (AX (bG t r b m))):=by rw [hx]
 show HIso (cX t (eM t (bG t r b m)) (cX t r b m) (AX (bG t r b m))) b (BL (bG t r b m) (bG t (eM t (bG t r b m)) (cX t r b m) (AX (bG t r b m))))
 rw [hE]
 exact hI
theorem Ab (l:List Int)(n:Nat)(hn:n<=1000000)(h:∀ v:Int,0<=v->v<n->v∈l):Pure Tryz.prog 189 [dLI l,dI n] (.bool true):=by
 refine Tz.pK ⟨λ_=>false,λ_=>[]⟩ Tryz.func189 rfl (λQ hQ=>?_)
 have Y:=trivial
 refine wv (h:=bF (λk e H=>(e 0=dLI l/\e 1=dI n/\e 5=dI k)/\(k<=n)) (λk=>n - k) 0 ⟨wg,wi⟩ λI0 hI0 k e H hi0=>?_)
 obtain ⟨E0,hk⟩:=hi0
 have Y:=wa Y E0
 refine dP (λh2=>?_) λh2=>?_
 .have Y:=wa Y h2
  refine wv (h:=bF (λj e H=>∃ b:Bool,(e 0=dLI l/\e 1=dI n/\e 5=dI k/\e 6=.bool b/\e 7=dI j)/\(j<=l.length)/\(b=mem (l.take j) k)) (λj=>l.length - j) 0 ⟨false,wg,wi,(by simp [vT])⟩ λI2 hI2 j e H hi2=>?_)
  obtain ⟨b,E2,hj,hb⟩:=hi2
  have Y:=wa Y E2
  refine wv (h:=?_)
  repeat first|intro _|refine ⟨eO,?_⟩
  refine wq (λh6=>?_) λh6=>?_
  .have Y:=wa Y (wa h6 (aA h6))
   exact wo (h:=wx hI2 (j+1) ⟨((b||l[j]==(k:Int))),wg,wj,(by rw [hb,Af _ _ h6];rfl)⟩)
  .rw [aH aD] at hb
   have hm:b=true:=by rw [hb];exact (mem_iff _ _).2 (h k aD aD)
   have Y:=wa Y hm
   exact wo (h:=wx hI0 (k+1) ⟨wg,wj⟩)
 .have Y:=wa Y h2
  exact wv (h:=hQ _ _ wy)
theorem LR (a b:Graph)(m:Part)(hM:eJ a b m=0)(hb:graphF b=0)(h1:∀ v:Int,0<=v->v<b.nodes.length->v∈m.nodes)(h2:∀ v:Int,0<=v->v<b.edges.length->v∈m.edges):Pure Tryz.prog 98 [a.d,b.d,m.d] (.bool true):=by
 have cV:=qB a b m
 rw [hM] at cV
 have hg:=bR hb
 refine Tz.pK ⟨λ_=>false,λ_=>[]⟩ Tryz.func98 rfl (λQ hQ=>?_)
 have Y:=trivial
 refine wo (h:=aB (cV) wl ?_)
 refine wo (h:=aG (λhg=>Ab m.nodes b.nodes.length aD h1) (λhg=>wl) ?_)
 refine wo (h:=aG (λhg=>Ab m.edges b.edges.length aD h2) (λhg=>wl) ?_)
 exact wo (h:=hQ _ _ wy)
theorem HIso.morph {a b:Host}{m:Part}(I:HIso a b m)(ha:graphF a.graph=0)(hb:graphF b.graph=0):eJ a.graph b.graph m=0:=by
 refine Qx ha hb I.nl I.el (λi h0 hi=>?_) (λk h0 hk=>?_)
 .exact ⟨I.ni _ (lL h0 (by rw [I.nl];exact hi)),(I.ty i h0 hi).symm⟩
 .have:=I.eg k h0 hk
  rw [this]
  exact ⟨I.ei _ (lL h0 (by rw [I.el];exact hk)),rfl,rfl,rfl⟩
theorem NO (a b:Host)(m:Part)(I:HIso a b m)(ha:graphF a.graph=0)(hb:graphF b.graph=0):Pure Tryz.prog 34 [a.d,b.d,m.d] (.bool true):=by
 have hM:=I.morph ha hb
 have cJ:=wG a.graph b.graph m
 have hJ:CQ a.graph b.graph m=true:=by unfold CQ;simp [hM,I.nd,I.ed]
 rw [hJ] at cJ
 have cS:=LR a.graph b.graph m hM hb (λv h0 h1=>CH (I.nl.trans I.nn) I.ni I.nd ⟨h0,h1⟩) (λv h0 h1=>CH (I.el.trans I.en) I.ei I.ed ⟨h0,h1⟩)
 have hav:=I.av
 have hbv:=I.bv
 have hnl:=I.nl
 refine Tz.pK ⟨λ_=>false,λ_=>[]⟩ Tryz.func34 rfl (λQ hQ=>?_)
 have Y:=wa @Host.d.eq_1 (wa @Host.c.eq_1 (wa hav hbv))
 refine wp (h:=aB (cJ) wl ?_)
 refine wp (h:=aG (λhg=>cS) (λhg=>wl) ?_)
 refine wp (h:=bF (λi e H=>(e 3=.adr a.c/\e 4=.adr b.c/\e 5=.adr m.c/\e 7=dI i)/\(i<=a.graph.nodes.length)) (λi=>a.graph.nodes.length - i) 0 ⟨wg,wi⟩ λI0 hI0 i e H hi0=>?_)
 obtain ⟨E0,hi⟩:=hi0
 have Y:=wa Y E0
 refine wv (h:=?_)
 repeat first|intro _|refine ⟨eQ,?_⟩
 refine wq (λh4=>?_) λh4=>?_
 .have hia:i<a.values.length:=aD
  have him:i<m.nodes.length:=aD
  have hin:=I.ni _ (aC him)
  have hib:m.nodes[i].toNat<b.values.length:=aD
  have hv:=I.va i aD aD
  rw [kS him,show ((i:Int)).toNat=i by omega,aA hia,aA hib,Option.getD_some,Option.getD_some] at hv
  have cI:=Eb a.values[i]
  have Y:=wa Y (wa h4 (wa (aA hia) (wa (aA him) (wa (aA hib) (wa @cL.eq_1 (Eq.symm hv))))))
  refine wp (h:=aJ (cI) wl ?_)
  exact wp (h:=wx hI0 (i+1) ⟨wg,wj⟩)
 .have Y:=wa Y h4
  exact wv (h:=hQ _ _ wy)
theorem NN (t:Types)(ht:t.ok)(s:Stp26)(hr:s.rule.ok)(hC:CmpA t s):Pure Tryz.prog 31 [t.d,.agg s.c] (.tup [.agg (u6 t s).c,(KN t s).d,dI (EQ t s)]):=by
 have cR:=Fu t ht s hr hC
 obtain ⟨R,hR⟩:=cF (iL t s)
 obtain ⟨e1,he1⟩:∃ e,e=qP t s:=⟨_,rfl⟩
 obtain ⟨v,hv⟩:=cF (fP t (iL t s) s.after (AX s))
 obtain ⟨e2,he2⟩:∃ e,e=nF t (iL t s) s.after (AX s):=⟨_,rfl⟩
 obtain ⟨p,hp⟩:=cF (BL s v)
 have cA:e1=0->Pure Tryz.prog 16 [t.d,R.d,s.after.d,.agg [dLI s.comatch.nodes,dLI s.comatch.edges,.nil]] (.tup [.agg v.c,dI e2]):=λh0=>by
  have hk:=(Be hr (he1 ▸ h0)).2.2
  have hz:=PK t ht (iL t s) hk s.after (AX s) hv he2
  rw [<- hR] at hz
  exact hz.nzk (Tv t R s.after s.comatch.nodes s.comatch.edges)
 have hE:EQ t s=if e1≠0 then e1 else e2:=by unfold EQ;rw [<- he1,<- he2]
 have cI:e1=0->e2=0->Pure Tryz.prog 92 [.agg s.c,.agg v.c] p.d:=λh0 h1=>by
  have h2:EQ t s=0:=by rw [hE,if_neg aD,h1]
  have hq:=(Jp hr h2).2.1
  have e:u6 t s=v:=by unfold u6;rw [if_pos h2,hv]
  rw [e] at hq
  rw [hp];exact P9 s v hq
 have hS:u6 t s=if e1=0/\e2=0 then v else j7:=by
  unfold u6;rw [hE,<- hv]
  by_cases a:e1=0<;>by_cases b:e2=0<;>simp [a,b]
 have hPp:KN t s=if e1=0/\e2=0 then p else ⟨[],[]⟩:=by
  unfold KN;rw [hE,<- hv,<- hp]
  by_cases a:e1=0<;>by_cases b:e2=0<;>simp [a,b]
 rw [<- hR,<- he1] at cR
 rw [hS,hPp,hE]
 simp only [Stp26.c,Rule.c,Mat.c,Host.c,c7,dA] at cR cA cI
 clear hE hS hPp hp he2 hv he1 hR
 refine Tz.pK ⟨λt=>t==4||t==5||t==7||t==9,λ_=>[]⟩ Tryz.func31 rfl (λQ hQ=>?_)
 have Y:=wa @Stp26.c.eq_1 (wa @Rule.c.eq_1 (wa @Mat.c.eq_1 @Host.c.eq_1))
 refine pB (h:=aB (cR) wl ?_)
 refine pB (h:=wq (λh2=>?_) λh2=>?_)
 .exact pB (h:=hQ _ _ (by simp [go_sem,h2,j7,iM,mN,g8,Part.d,Part.c,Stp26.c,Rule.c,Mat.c,Host.c,Cond.kind,Cond.kids,Cond.map,Cond.pattern,dLI,dI]))
 .refine pB (h:=aB (cA (bW h2)) wl ?_)
  refine pB (h:=wq (λh5=>?_) λh5=>?_)
  .exact pB (h:=hQ _ _ (by simp [go_sem,show e1=0 by simpa using h2,h5,j7,iM,mN,g8,Part.d,Part.c,Stp26.c,Rule.c,Mat.c,Host.c,Cond.kind,Cond.kids,Cond.map,Cond.pattern,dLI,dI]))
  .refine pB (h:=aJ (cI (bW h2) (bW h5)) wl ?_)
   exact pB (h:=hQ _ _ (by simp [go_sem,show e1=0 by simpa using h2,show e2=0 by simpa using h5,Part.d,Part.c,Stp26.c,Rule.c,Mat.c,Host.c,dLI,dI]))
theorem Bi (t:Types)(ht:t.ok)(s:Stp26)(hr:s.rule.ok):Pure Tryz.prog 30 [t.d,.agg s.c] (.tup [.agg (u6 t s).c,(KN t s).d,dI (EQ t s)]):=by
 have cR:=zZ t ht s hr
 obtain ⟨R,hR⟩:=cF (iL t s)
 obtain ⟨e1,he1⟩:∃ e,e=qP t s:=⟨_,rfl⟩
 obtain ⟨v,hv⟩:=cF (fP t (iL t s) s.after (AX s))
 obtain ⟨e2,he2⟩:∃ e,e=nF t (iL t s) s.after (AX s):=⟨_,rfl⟩
 obtain ⟨p,hp⟩:=cF (BL s v)
 have hE:EQ t s=if e1≠0 then e1 else e2:=by unfold EQ;rw [<- he1,<- he2]
 have hok:e1=0->(s.after.graph.nodes.length<=100000/\s.after.graph.edges.length<=100000)/\(s.comatch.nodes.length<=1000/\s.comatch.edges.length<=1000)/\Dg s (uK s.after.graph)=AX s:=λh0=>by
  obtain ⟨hc,hRu,hRk⟩:=Be hr (he1 ▸ h0)
  obtain ⟨hs,K,hU⟩:=GP hr hc
  have hz:=hU.sz
  have q1:=hU.c1
  refine ⟨?_,⟨aD,hU.c3⟩,?_⟩
  .rw [hs]
   have h1:=K.nn
   have h2:=K.ne
   exact ⟨by show (b7 t _ _ _).graph.nodes.length<=_;omega,by show (b7 t _ _ _).graph.edges.length<=_;omega⟩
  .exact KT hs K
 have cU:e1=0->Pure Tryz.prog 90 [t.d,.agg s.c,R.d,s.after.d,(uK s.after.graph).d] (.tup [.agg (if e2=0 then v else j7).c,(if e2=0 then p else ⟨[],[]⟩:Part).d,dI e2]):=λh0=>by
  have hk:=(Be hr (he1 ▸ h0)).2.2
  obtain ⟨_,⟨k1,k2⟩,k3⟩:=hok h0
  have hz:=JM t ht s (iL t s) hk s.after (uK s.after.graph) k1 k2 (v:=v) (er:=e2) (by rw [k3];exact hv) (by rw [k3];exact he2) (λh1=>by
   have h2:EQ t s=0:=by rw [hE,if_neg aD,h1]
   have hq:=(Jp hr h2).2.2.1
   have e:u6 t s=v:=by unfold u6;rw [if_pos h2,hv]
   rw [e] at hq;exact hq)
  have hP:e2=0->DS s v (uK s.after.graph)=p:=λh1=>by
   have h2:EQ t s=0:=by rw [hE,if_neg aD,h1]
   have hq:=(Jp hr h2).2.2.2.1
   have e:u6 t s=v:=by unfold u6;rw [if_pos h2,hv]
   rw [e] at hq
   rw [hq,hp];unfold KN;rw [if_pos h2,hv]
  rw [<- hR] at hz
  by_cases h1:e2=0
  .rw [if_pos h1,if_pos h1] at hz ⊢
   rw [hP h1] at hz;exact hz
  .rw [if_neg h1,if_neg h1] at hz ⊢;exact hz
 have cN:e1=0->Pure Tryz.prog 91 [s.after.graph.d] (uK s.after.graph).d:=λh0=>CC s.after.graph (hok h0).1.1 (hok h0).1.2
 have hS:u6 t s=if e1=0/\e2=0 then v else j7:=by
  unfold u6;rw [hE,<- hv]
  by_cases a:e1=0<;>by_cases b:e2=0<;>simp [a,b]
 have hPp:KN t s=if e1=0/\e2=0 then p else ⟨[],[]⟩:=by
  unfold KN;rw [hE,<- hv,<- hp]
  by_cases a:e1=0<;>by_cases b:e2=0<;>simp [a,b]
 rw [<- hR,<- he1] at cR
 rw [hS,hPp,hE]
 obtain ⟨q,hq⟩:=cF (uK s.after.graph)
 rw [<- hq] at cU cN
 simp only [Stp26.c,Rule.c,Mat.c,Host.c,c7,dA] at cR cU
 clear hE hS hPp hp he2 hv he1 hR hok hq
 refine Tz.pK ⟨λt=>t==4||t==5||t==7,λ_=>[]⟩ Tryz.func30 rfl (λQ hQ=>?_)
 have Y:=wa @Stp26.c.eq_1 (wa @Rule.c.eq_1 (wa @Mat.c.eq_1 @Host.c.eq_1))
 refine pB (h:=aB (cR) wl ?_)
 refine pB (h:=wq (λh2=>?_) λh2=>?_)
 .exact pB (h:=hQ _ _ (by simp [go_sem,h2,j7,iM,mN,g8,Part.d,Part.c,Stp26.c,Rule.c,Mat.c,Host.c,Cond.kind,Cond.kids,Cond.map,Cond.pattern,dLI,dI]))
 .refine pB (h:=aJ (cN (bW h2)) wl ?_)
  refine pB (h:=aJ (cU (bW h2)) wl ?_)
  refine pB (h:=?_)
  have h0:e1=0:=by simpa using h2
  exact hQ _ _ (by by_cases h1:e2=0<;>simp [go_sem,h0,h1,j7,iM,mN,g8,Part.d,Part.c,Stp26.c,Rule.c,Mat.c,Host.c,Cond.kind,Cond.kids,Cond.map,Cond.pattern,dLI,dI])
def U7:Rule:=⟨⟨#[99,108,111,115,101]⟩,⟨⟨[3,1],[⟨0,0,1⟩]⟩,[],0,[]⟩,⟨⟨[3],[]⟩,[],0,[]⟩,⟨[0],[]⟩,⟨[0],[]⟩,true,.mk 1 [] ⟨[],[]⟩ mN⟩
def shH:Host:=⟨⟨[3,1,1],[⟨0,0,1⟩,⟨0,0,2⟩]⟩,[[],[10],[5]]⟩
def XF:Mat:=⟨⟨[0,2],[1]⟩,[]⟩
def clS:Stp26:=fP exT U7 shH XF
theorem PD:fewR U7=true:=by decide +kernel
theorem cl1:nF exT U7 shH XF=0:=by decide +kernel
theorem cl2:qP exT clS=0:=by decide +kernel
theorem cl3:(iL exT clS).right.slots=[⟨1,0,⟨-1,5⟩⟩]:=by decide +kernel
theorem cl4:EQ exT clS=0:=by decide +kernel
theorem cl5:(u6 exT clS).after=shH:=by decide +kernel
theorem cl6:KN exT clS=⟨[0,1,2],[0,1]⟩:=by decide +kernel
theorem BH:Pure Tryz.prog 86 [] shH.d:=by
 refine tK (by first|rfl|(simp [go_sem];done)) (λQ hQ=>(aI (cfg:=⟨λt=>t==0,λ_=>[]⟩) Tz.mixed Tryz.func86 rfl rfl (aF rfl) (by kernel_rfl) ?_))
 have Y:=trivial
 refine pB (h:=?_)
 exact hQ _ _ (by simp [go_sem,shH,Host.d,Host.c,Edge.c,cL,dLI,cI,dI])
theorem HA:Pure Tryz.prog 84 [] (.tup [.agg clS.c,dI 0]):=by
 have hA:=E8 exT (EI Pu) U7 (Ko PD) shH XF
 rw [cl1] at hA
 have hv:fP exT U7 shH XF=clS:=rfl
 rw [hv] at hA
 generalize clS=v at *
 refine Tz.pK ⟨λt=>t==0||t==2,λr=>match r with|2=>[(0,3),(1,3),(2,3),(0,4),(1,4),(2,4),(3,4)]|_=>[]⟩ Tryz.func84 rfl (λQ hQ=>?_)
 have Y:=wa @Stp26.c.eq_1 (wa @Rule.c.eq_1 (wa @Mat.c.eq_1 @Host.c.eq_1))
 refine pB (h:=aJ (Ac) wl ?_)
 refine pB (h:=aJ (BH) wl ?_)
 refine pB (h:=aJ (hA.nzk (by simp [go_sem,Iv,DD,U7,shH,XF,mN,Rule.d,Rule.c,Types.d,Types.c,Host.d,Host.c,Mat.d,Mat.c,Slot.c,Edge.c,cL,dLI,cI,dI,Cond.kind,Cond.kids,Cond.map,Cond.pattern,lU,i6,eR])) wl ?_)
 exact pB (h:=hQ _ _ wy)
theorem LN (a:Host):Pure Tryz.prog 42 [a.d,a.d] (.bool true):=by
 have:=xP a a (λi _ _=>AP _)
 rwa [show decide (a=a)=true by simp] at this
theorem DF:Pure Tryz.prog 27 [] (.bool true):=by
 have ht:=EI Pu
 have hr:clS.rule.ok:=by
  have e:clS.rule=U7:=by unfold clS fP;rw [if_pos cl1];rfl
  rw [e];exact Ko PD
 have cR:=Bj exT ht clS hr
 have cU:=Bi exT ht clS hr
 have cE:=HA
 rw [cl2] at cR
 rw [cl4,cl6] at cU
 have h3:=cl3
 have h5:=cl5
 have cQ:=AJ [⟨1,0,⟨-1,5⟩⟩] [⟨1,0,⟨-1,5⟩⟩]
 have cS:=LN shH
 generalize clS=s at *
 generalize iL exT s=R at *
 generalize u6 exT s=u at *
 simp only [Stp26.c,Rule.c,Mat.c,Host.c,c7,dA] at cR cU cE
 refine Tz.pK ⟨λt=>t==1||t==2||t==4||t==6||t==7,λr=>match r with|5=>[(11,16),(12,16),(13,16),(26,27),(26,28),(27,28)]|_=>[]⟩ Tryz.func27 rfl (λQ hQ=>?_)
 have Y:=wa @Stp26.c.eq_1 (wa @Rule.c.eq_1 (wa @Mat.c.eq_1 (wa @Host.c.eq_1 (wa h3 h5))))
 refine pB (h:=aB (Ac) wl ?_)
 refine pB (h:=aB (cE) wl ?_)
 refine pB (h:=aB (cR) wl ?_)
 refine pB (h:=aB (cU) wl ?_)
 refine t6 (h:=d8 (λhg=>(by simpa [Slot.c,Term.c,dI] using cQ)) (λhg=>wl) ?_)
 refine t6 (h:=d8 (λhg=>BH) (λhg=>wl) ?_)
 refine t6 (h:=d8 (λhg=>(by simpa [Host.d,Host.c,h5,dLI] using cS)) (λhg=>wl) ?_)
 refine t6 (h:=d8 (λhg=>Dw ⟨[0,1,2],[0,1]⟩) (λhg=>wl) ?_)
 exact t6 (h:=hQ _ _ wy)
end Go.Abs
end
