/- The rules of drafts; the host of a draft. · Few and Light of -/
import Derived.Test.YtjfaalokjnmdoaaGreatZcAF
import Derived.Test.YtjfaalokjnmdoaaGreatZcAA
import Derived.Test.YtjfaalokjnmdoaaGreatZcAM
import Derived.Test.YtjfaalokjnmdoaaGreatZcAK
import Derived.Maps.RangeWalk
import Derived.DeepKeys4
set_option linter.unusedVariables false
set_option linter.unusedSimpArgs false
section
set_option maxRecDepth 100000
set_option maxHeartbeats 4000000
open Go Go.Proofs
namespace Go.Abs
structure Host where
 graph:Graph
 values:List (List Int)
def Host.c (h:Host):List D:=[dLI h.graph.nodes,.list (h.graph.edges.map Edge.c),.list (h.values.map cL)]
def Host.d (h:Host):D:=.agg h.c
@[go_sem] theorem U5 (l:List (List Int)):D.clLL (l.map cL)=true:=c4 _ (fun a=>by simp [cL,D.clL,nC]) l
@[go_sem] theorem Host.cl (h:Host):h.d.cl=true:=by simp [Host.d,Host.c,D.cl,D.clL,nC,U5,t7]
structure Dr15 where
 nodes:List B2
 edges:List B3
def Dr15.c (d:Dr15):List D:=[.list (d.nodes.map cP),.list (d.edges.map cT3)]
@[go_sem] theorem Dr15.cl (d:Dr15):D.clL d.c=true:=by simp [Dr15.c,D.clL,D.cl,Sc,BR]
def Kz (l:List Attr)(b:UInt8)(k:Nat):Int:=match l[k]? with|some a=>a.low+((b.toNat:Int)+7 * (k:Int)).tmod (a.high - a.low+1)|none=>0
def l9 (l:List Attr)(b:UInt8)(k:Nat):List Int:=(List.range k).map (Kz l b)
def As (t:Types)(x:B2):Int:=rP (g9 t) x.1
def K8 (t:Types)(x:B2):List Int:=l9 (bI t (As t x)) x.2 (bI t (As t x)).length
def zF (t:Types)(ds:List B2)(k:Nat):List Int:=(List.range k).map fun i=>As t (iD ds i)
def zC (t:Types)(ds:List B2)(k:Nat):List (List Int):=(List.range k).map fun i=>K8 t (iD ds i)
def Ao (t:Types)(d:Dr15):Host :=
 ⟨⟨zF t d.nodes (if (g9 t).length=0 then 0 else min d.nodes.length 8),
  Mh t (zF t d.nodes (if (g9 t).length=0 then 0 else min d.nodes.length 8)) [] d.edges (if (zF t d.nodes (if (g9 t).length=0 then 0 else min d.nodes.length 8)).length=0∨t.edges.length=0 then 0 else min d.edges.length 10)⟩,
  zC t d.nodes (if (g9 t).length=0 then 0 else min d.nodes.length 8)⟩
theorem Ky (l:List Attr)(b:UInt8)(k:Nat):l9 l b (k+1)=l9 l b k++[Kz l b k]:=by simp [l9,bJ]
theorem ED (l:List Attr)(b:UInt8)(k:Nat):(l9 l b k).length=k:=by simp [l9]
theorem Qm (t:Types)(ds:List B2)(k:Nat):zF t ds (k+1)=zF t ds k++[As t (iD ds k)]:=by simp [zF,bJ]
theorem LN (t:Types)(ds:List B2)(k:Nat):(zF t ds k).length=k:=by simp [zF]
theorem PL (t:Types)(ds:List B2)(k:Nat):zC t ds (k+1)=zC t ds k++[K8 t (iD ds k)]:=by simp [zC,bJ]
theorem Kw (t:Types)(ds:List B2)(k:Nat):(zC t ds k).length=k:=by simp [zC]
theorem NM (t:Types)(ht:t.fine)(d:Dr15):Pure Tryz.prog 44 [t.d,.agg d.c] (Ao t d).d:=by
 have hfN:=ht.ok.fewN
 have hfE:=ht.ok.fewE
 obtain ⟨C,hC⟩:∃ C,g9 t=C:=⟨_,rfl⟩
 refine Tz.pK ⟨fun t=>t==4||t==5||t==15||t==53||t==11,fun r=>match r with|13=>[(0,4),(1,4),(2,4),(4,6),(5,6),(4,7),(5,7),(0,9),(1,9),(2,9),(4,9),(5,9),(6,9),(7,9),(9,11),(10,11),(9,12),(10,12)]|18=>[(0,30),(1,30),(3,30),(4,30),(5,30),(7,30),(8,30),(9,30),(11,30),(12,30),(14,30),(15,30),(16,30),(20,30),(21,30),(23,30),(24,30),(25,30)]|_=>[]⟩ Tryz.func44 rfl (fun Q hQ=>?_)
 try simp [go_sem,seval,Dr15.c]
 refine aB ((by have hq:=Fi t (by omega);rw [hC] at hq;exact hq)) ((by first|rfl|(simp [go_sem,← List.map_take,← List.map_drop,Dr15.c];done))) ?_
 try simp [go_sem,seval,Dr15.c]
 obtain ⟨I0,hI0⟩:∃ I0:Nat→cX→AHeap→Prop,∀ (i:Nat) (e:cX) (H:AHeap),I0 i e H↔((e 2=.adr t.c)∧(e 3=.adr d.c)∧(e 4=.ptr 0 1 0 0)∧(e 5=.ptr 1 1 0 0)∧(e 6=dLI C)∧(e 7=dI i)∧(H.get 0=some ⟨40,3,[[.nil,.nil,.nil]],false⟩)∧(0<H.next)∧(H.get 1=some ⟨40,3,[[.own 2 i,.nil,.own 3 i]],false⟩)∧(1<H.next)∧(H.get 2=some ⟨3,1,(zF t d.nodes i).map cI,false⟩)∧(2<H.next)∧(H.get 3=some ⟨34,1,(zC t d.nodes i).map cL,false⟩)∧(3<H.next)∧(i≤8)∧(i≤d.nodes.length)∧(C.length=0→i=0)∧((zF t d.nodes i).length=i)∧((zC t d.nodes i).length=i)):=⟨fun i e H=>_,fun _ _ _=>Iff.rfl⟩
 refine Ap (Ghosts.step (Ghosts.step (Ghosts.refl _) 1 0 0 3 1 _ _ (rfl) rfl rfl rfl) 1 0 2 34 1 _ _ ((by simp [go_sem,Dr15.c]:AHeap.get _ _=some ⟨40,3,[[.own 2 0,.nil,.nil]],false⟩)) rfl rfl rfl) I0 (fun i=>8 - i) (0) ((hI0 _ _ _).2 ⟨?_,?_,?_,?_,?_,?_,?_,?_,?_,?_,(by rfl),?_,(by rfl),?_,(by first|assumption|omega|(simp [go_sem,Dr15.c];done)|(simp_all;done)),(by first|assumption|omega|(simp [go_sem,Dr15.c];done)|(simp_all;done)),(by (intro _;rfl)),(by (exact LN _ _ _)),(by (exact Kw _ _ _))⟩) ?_
 iterate 12 (first|omega|(simp [go_sem,seval,Dr15.c]<;>omega))
 intro i e H hi0
 obtain ⟨q2_0,q3_0,q4_0,q5_0,q6_0,q7_0,g0_0,n0_0,g1_0,n1_0,g2_0,n2_0,g3_0,n3_0,hi,hid,hz,hnl,hvl⟩:=(hI0 _ _ _).1 hi0
 have x0:=b5 n0_0
 have x1:=b5 n1_0
 have x2:=b5 n2_0
 have x3:=b5 n3_0
 have F0:=And.intro q2_0 (And.intro q3_0 (And.intro q4_0 (And.intro q5_0 (And.intro q6_0 (And.intro q7_0 (And.intro g0_0 (And.intro g1_0 (And.intro g2_0 (And.intro g3_0 (And.intro x0 (And.intro x1 (And.intro x2 x3))))))))))))
 try simp [go_sem,seval,Dr15.c,F0,hnl,hvl]
 repeat first|intro _|refine ⟨dQ,?_⟩
 refine aK (fun h4=>?_) (fun h4=>?_)
 ·try simp [go_sem] at h4
  have hil:i<d.nodes.length:=by omega
  have hC0:0<C.length:=by omega
  have hCn:¬C=[]:=iQ.1 hC0
  obtain ⟨x,hx⟩:∃ x,d.nodes[i]=x:=⟨_,rfl⟩
  have hgx:iD d.nodes i=x:=by unfold iD;rw [aA hil,← hx];rfl
  have hx1:=iX x.1
  have hx2:=iX x.2
  have tm:=b4 (show 0≤(x.1.toNat:Int) by omega) (show (0:Int)<C.length by omega)
  obtain ⟨kk,hpk⟩:=xD hC0 x.1
  obtain ⟨kd,hkd0⟩:∃ kd,C[((x.1.toNat:Int).tmod C.length).toNat]=kd:=⟨_,rfl⟩
  have hkd:As t (iD d.nodes i)=kd:=by unfold As;rw [hgx,hC,hpk,hkd0]
  have hne0:(C.length:Int)≠0:=by omega
  obtain ⟨la,hla⟩:∃ la,bI t kd=la:=⟨_,rfl⟩
  have hgood:=ht.good kd
  rw [hla] at hgood
  try simp [go_sem,seval,Dr15.c,F0,hnl,hvl,h4,aA hil,hx,cP,aA kk,hkd0,hne0,hkd,hla]
  repeat first|intro _|refine ⟨dQ,?_⟩
  refine aB (rM t ht.ok kd) ((by first|rfl|(simp [go_sem,← List.map_take,← List.map_drop,Dr15.c,F0,hnl,hvl,h4,aA hil,hx,cP,aA kk,hkd0,hne0,hkd,hla];done))) ?_
  try simp [go_sem,seval,Dr15.c,F0,hnl,hvl,h4,aA hil,hx,cP,aA kk,hkd0,hne0,hkd,hla]
  repeat first|intro _|refine ⟨dQ,?_⟩
  obtain ⟨I2,hI2⟩:∃ I2:Nat→cX→AHeap→Prop,∀ (k:Nat) (e:cX) (H:AHeap),I2 k e H↔(∃ c:Nat,(e 2=.adr t.c)∧(e 3=.adr d.c)∧(e 4=.ptr 0 1 0 0)∧(e 5=.ptr 1 1 0 0)∧(e 6=dLI C)∧(e 7=dI i)∧(e 8=dI kd)∧(e 9=.list (la.map Attr.c))∧(e 11=.own c k)∧(e 12=dI k)∧(H.get 0=some ⟨40,3,[[.nil,.nil,.nil]],false⟩)∧(0<H.next)∧(H.get 1=some ⟨40,3,[[.own 2 i,.nil,.own 3 i]],false⟩)∧(1<H.next)∧(H.get 2=some ⟨3,1,(zF t d.nodes i).map cI,false⟩)∧(2<H.next)∧(H.get 3=some ⟨34,1,(zC t d.nodes i).map cL,false⟩)∧(3<H.next)∧(H.get c=some ⟨3,1,(l9 la x.2 k).map cI,false⟩)∧(c<H.next)∧(k≤la.length)∧(3<c)∧((l9 la x.2 k).length=k)):=⟨fun k e H=>_,fun _ _ _=>Iff.rfl⟩
  refine k6 I2 (fun k=>la.length - k) (0) ((hI2 _ _ _).2 ⟨(H.next),?_,?_,?_,?_,?_,?_,?_,?_,?_,?_,?_,?_,?_,?_,?_,?_,?_,?_,(by (simp [go_sem,Dr15.c,F0,hnl,hvl,h4,aA hil,hx,cP,aA kk,hkd0,hne0,hkd,hla,l9])),?_,(by first|assumption|omega|(simp [go_sem,Dr15.c,F0,hnl,hvl,h4,aA hil,hx,cP,aA kk,hkd0,hne0,hkd,hla];done)|(simp_all;done)),(by omega),(by (exact ED _ _ _))⟩) ?_
  iterate 19 (first|omega|(simp [go_sem,seval,Dr15.c,F0,hnl,hvl,h4,aA hil,hx,cP,aA kk,hkd0,hne0,hkd,hla]<;>omega))
  intro k e H hi2
  obtain ⟨c,q2_2,q3_2,q4_2,q5_2,q6_2,q7_2,q8_2,q9_2,q11_2,q12_2,g0_2,n0_2,g1_2,n1_2,g2_2,n2_2,g3_2,n3_2,gc_2,nc_2,hk,hc,hvl2⟩:=(hI2 _ _ _).1 hi2
  have x0:=b5 n0_2
  have x1:=b5 n1_2
  have x2:=b5 n2_2
  have x3:=b5 n3_2
  have xc:=b5 nc_2
  have F2:=And.intro q2_2 (And.intro q3_2 (And.intro q4_2 (And.intro q5_2 (And.intro q6_2 (And.intro q7_2 (And.intro q8_2 (And.intro q9_2 (And.intro q11_2 (And.intro q12_2 (And.intro g0_2 (And.intro g1_2 (And.intro g2_2 (And.intro g3_2 (And.intro gc_2 (And.intro x0 (And.intro x1 (And.intro x2 (And.intro x3 xc))))))))))))))))))
  have di1:=And.intro (cY (show c≠3 by omega)) (And.intro (cY (show c≠2 by omega)) (And.intro (cY (show c≠1 by omega)) (And.intro (cY (show c≠0 by omega)) (And.intro (cY (show 3≠2 by omega)) (And.intro (cY (show 3≠1 by omega)) (And.intro (cY (show 3≠0 by omega)) (And.intro (cY (show 2≠1 by omega)) (And.intro (cY (show 2≠0 by omega)) (cY (show 1≠0 by omega))))))))))
  try simp [go_sem,seval,Dr15.c,hnl,hvl,h4,aA hil,hx,cP,aA kk,hkd0,hne0,hkd,hla,F2,hvl2,di1]
  repeat first|intro _|refine ⟨dQ,?_⟩
  refine aK (fun h10=>?_) (fun h10=>?_)
  ·try simp [go_sem] at h10
   have hg:=hgood.1 _ (aC h10)
   unfold Attr.good at hg
   have hl8:=hgood.2
   have tv:=b4 (show 0≤(x.2.toNat:Int)+7 * (k:Int) by omega) (show 0<la[k].high - la[k].low+1 by omega)
   have hval:Kz la x.2 k=la[k].low+((x.2.toNat:Int)+7 * (k:Int)).tmod (la[k].high - la[k].low+1):=by unfold Kz;rw [aA h10]
   have hneq:la[k].high - la[k].low+1≠0:=by omega
   try simp [go_sem,seval,Dr15.c,hnl,hvl,h4,aA hil,hx,cP,aA kk,hkd0,hne0,hkd,hla,F2,hvl2,di1,h10,aA h10,hneq]
   repeat first|intro _|refine ⟨dQ,?_⟩
   refine cT (k+1) (by omega) ((hI2 _ _ _).2 ⟨(c),?_,?_,?_,?_,?_,?_,?_,?_,?_,?_,?_,?_,?_,?_,?_,?_,?_,?_,(by (simp [go_sem,Dr15.c,hnl,hvl,h4,aA hil,hx,cP,aA kk,hkd0,hne0,hkd,hla,F2,hvl2,di1,h10,aA h10,hneq,Ky,hval])),?_,(by first|assumption|omega|(simp [go_sem,Dr15.c,hnl,hvl,h4,aA hil,hx,cP,aA kk,hkd0,hne0,hkd,hla,F2,hvl2,di1,h10,aA h10,hneq];done)|(simp_all<;>omega)),(by omega),(by (exact ED _ _ _))⟩)<;>first|omega|(simp [go_sem,seval,Dr15.c,hnl,hvl,h4,aA hil,hx,cP,aA kk,hkd0,hne0,hkd,hla,F2,hvl2,di1,h10,aA h10,hneq]<;>omega)
  ·try simp [go_sem] at h10
   have hK:k=la.length:=by omega
   have hrow:K8 t (iD d.nodes i)=l9 la x.2 k:=by unfold K8;rw [hkd,hla,hgx,hK]
   have hl8:=hgood.2
   have nx:=Ph H.next
   try simp [go_sem,seval,Dr15.c,hnl,hvl,h4,aA hil,hx,cP,aA kk,hkd0,hne0,hkd,hla,F2,hvl2,di1,nx]
   repeat first|intro _|refine ⟨dQ,?_⟩
   refine cT (i+1) (by omega) ((hI0 _ _ _).2 ⟨?_,?_,?_,?_,?_,?_,?_,?_,?_,?_,(by (simp [go_sem,Dr15.c,hnl,hvl,h4,aA hil,hx,cP,aA kk,hkd0,hne0,hkd,hla,F2,hvl2,di1,nx,Qm,hkd])),?_,(by (simp [go_sem,Dr15.c,hnl,hvl,h4,aA hil,hx,cP,aA kk,hkd0,hne0,hkd,hla,F2,hvl2,di1,nx,PL,hrow,cL,dLI])),?_,(by first|assumption|omega|(simp [go_sem,Dr15.c,hnl,hvl,h4,aA hil,hx,cP,aA kk,hkd0,hne0,hkd,hla,F2,hvl2,di1,nx,h10];done)|(simp_all<;>omega)),(by first|assumption|omega|(simp [go_sem,Dr15.c,hnl,hvl,h4,aA hil,hx,cP,aA kk,hkd0,hne0,hkd,hla,F2,hvl2,di1,nx,h10];done)|(simp_all<;>omega)),(by omega),(by (exact LN _ _ _)),(by (exact Kw _ _ _))⟩)<;>first|omega|(simp [go_sem,seval,Dr15.c,hnl,hvl,h4,aA hil,hx,cP,aA kk,hkd0,hne0,hkd,hla,F2,hvl2,di1,nx]<;>omega)
 ·try simp [go_sem] at h4
  have hI:i=(if C.length=0 then 0 else min d.nodes.length 8):=by
   split
   ·rename_i h;exact hz h
   ·rename_i h
    have hq:¬ (i<d.nodes.length∧i<8):=fun hh=>h (by rw [h4 hh.1 (by omega)];rfl)
    omega
  obtain ⟨ns,hns⟩:∃ ns,zF t d.nodes i=ns:=⟨_,rfl⟩
  rw [hns] at hnl
  try simp [go_sem,seval,Dr15.c,F0,hnl,hvl,hns]
  repeat first|intro _|refine ⟨dQ,?_⟩
  obtain ⟨I4,hI4⟩:∃ I4:Nat→cX→AHeap→Prop,∀ (k:Nat) (e:cX) (H:AHeap),I4 k e H↔(∃ e4:Nat,∃ ys:List Edge,(e 2=.adr t.c)∧(e 3=.adr d.c)∧(e 4=.ptr 0 1 0 0)∧(e 5=.ptr 1 1 0 0)∧(e 13=dI i)∧(e 14=dI k)∧(H.get 0=some ⟨40,3,[[.nil,.nil,.nil]],false⟩)∧(0<H.next)∧(H.get 1=some ⟨40,3,[[.own 2 i,.own e4 ys.length,.own 3 i]],false⟩)∧(1<H.next)∧(H.get 2=some ⟨3,1,ns.map cI,false⟩)∧(2<H.next)∧(H.get 3=some ⟨34,1,(zC t d.nodes i).map cL,false⟩)∧(3<H.next)∧(H.get e4=some ⟨101,3,ys.map Edge.c,false⟩)∧(e4<H.next)∧(k≤10)∧(k≤d.edges.length)∧(ns.length=0∨t.edges.length=0→k=0)∧(3<e4)∧(ys=Mh t ns [] d.edges k)∧(ys.length≤k)):=⟨fun k e H=>_,fun _ _ _=>Iff.rfl⟩
  refine Ap (Ghosts.step (Ghosts.refl _) 1 0 1 101 3 _ _ (g1_0) rfl rfl rfl) I4 (fun k=>10 - k) (0) ((hI4 _ _ _).2 ⟨(H.next),([]),?_,?_,?_,?_,?_,?_,?_,?_,?_,?_,?_,?_,?_,?_,?_,?_,(by first|assumption|omega|(simp [go_sem,Dr15.c,F0,hnl,hvl,hns];done)|(simp_all;done)),(by first|assumption|omega|(simp [go_sem,Dr15.c,F0,hnl,hvl,hns];done)|(simp_all;done)),(by (intro _;rfl)),(by omega),(by (simp [Mh])),(by simp)⟩) ?_
  iterate 16 (first|omega|(simp [go_sem,seval,Dr15.c,F0,hnl,hvl,hns]<;>omega))
  intro k e H hi4
  obtain ⟨e4,ys,q2_4,q3_4,q4_4,q5_4,q13_4,q14_4,g0_4,n0_4,g1_4,n1_4,g2_4,n2_4,g3_4,n3_4,ge4_4,ne4_4,hk,hkd,hzz,he4,hy,hyl⟩:=(hI4 _ _ _).1 hi4
  have x0:=b5 n0_4
  have x1:=b5 n1_4
  have x2:=b5 n2_4
  have x3:=b5 n3_4
  have xe4:=b5 ne4_4
  have F4:=And.intro q2_4 (And.intro q3_4 (And.intro q4_4 (And.intro q5_4 (And.intro q13_4 (And.intro q14_4 (And.intro g0_4 (And.intro g1_4 (And.intro g2_4 (And.intro g3_4 (And.intro ge4_4 (And.intro x0 (And.intro x1 (And.intro x2 (And.intro x3 xe4))))))))))))))
  have di2:=And.intro (cY (show e4≠3 by omega)) (And.intro (cY (show e4≠2 by omega)) (And.intro (cY (show e4≠1 by omega)) (And.intro (cY (show e4≠0 by omega)) (And.intro (cY (show 3≠2 by omega)) (And.intro (cY (show 3≠1 by omega)) (And.intro (cY (show 3≠0 by omega)) (And.intro (cY (show 2≠1 by omega)) (And.intro (cY (show 2≠0 by omega)) (cY (show 1≠0 by omega))))))))))
  try simp [go_sem,seval,Dr15.c,hnl,hvl,hns,F4,di2]
  repeat first|intro _|refine ⟨dQ,?_⟩
  refine aK (fun h16=>?_) (fun h16=>?_)
  ·try simp [go_sem] at h16
   have hkl:k<d.edges.length:=by omega
   have hE0:0<t.edges.length:=by omega
   have hn0:0<i:=by omega
   have hee0:¬t.edges=[]:=iQ.1 hE0
   have hnn0:¬ns=[]:=iQ.1 (by omega)
   obtain ⟨x,hx⟩:∃ x,d.edges[k]=x:=⟨_,rfl⟩
   have hgx:d.edges[k]?.getD (0,0,0)=x:=by rw [aA hkl,← hx];rfl
   have hx1:=iX x.1
   have hx2:=iX x.2.1
   have hx3:=iX x.2.2
   have t1:=b4 (show 0≤(x.1.toNat:Int) by omega) (show (0:Int)<t.edges.length by omega)
   have t2:=b4 (show 0≤(x.2.1.toNat:Int) by omega) (show (0:Int)<i by omega)
   have t3:=b4 (show 0≤(x.2.2.toNat:Int) by omega) (show (0:Int)<i by omega)
   have hf:((x.2.1.toNat:Int).tmod i).toNat<ns.length:=by omega
   have hto:((x.2.2.toNat:Int).tmod i).toNat<ns.length:=by omega
   have hne0:(t.edges.length:Int)≠0:=by omega
   have hne1:(i:Int)≠0:=by omega
   have nx2:=Ph H.next
   try simp [go_sem,seval,Dr15.c,hnl,hvl,hns,F4,di2,h16,aA hkl,hx,hgx,cT3,aA hf,aA hto,hne0,hne1,nx2]
   repeat first|intro _|refine ⟨dQ,?_⟩
   refine aQ (Fn t ht.ok _ _ _) ((by first|rfl|(simp [go_sem,← List.map_take,← List.map_drop,Dr15.c,hnl,hvl,hns,F4,di2,h16,aA hkl,hx,hgx,cT3,aA hf,aA hto,hne0,hne1,nx2];done))) ?_
   try simp [go_sem,seval,Dr15.c,hnl,hvl,hns,F4,di2,h16,aA hkl,hx,hgx,cT3,aA hf,aA hto,hne0,hne1,nx2]
   repeat first|intro _|refine ⟨dQ,?_⟩
   refine aK (fun h19=>?_) (fun h19=>?_)
   ·try simp [go_sem] at h19
    have hE:tX t ns x=[mkEd t i x]:=by unfold tX nN;rw [hnl];unfold mkEd;rw [if_pos (by simpa [aA hf,aA hto] using h19)]
    try simp [go_sem,seval,Dr15.c,hnl,hvl,hns,F4,di2,h16,aA hkl,hx,hgx,cT3,aA hf,aA hto,hne0,hne1,nx2,hE,mkEd]
    repeat first|intro _|refine ⟨dQ,?_⟩
    refine cT (k+1) (by omega) ((hI4 _ _ _).2 ⟨(e4),(ys++tX t ns (d.edges[k]?.getD (0,0,0))),?_,?_,?_,?_,?_,?_,?_,?_,?_,?_,?_,?_,?_,?_,?_,?_,(by first|assumption|omega|(simp [go_sem,Dr15.c,hnl,hvl,hns,F4,di2,h16,aA hkl,hx,hgx,cT3,aA hf,aA hto,hne0,hne1,nx2,hE,mkEd,h4,h19];done)|(simp_all<;>omega)),(by first|assumption|omega|(simp [go_sem,Dr15.c,hnl,hvl,hns,F4,di2,h16,aA hkl,hx,hgx,cT3,aA hf,aA hto,hne0,hne1,nx2,hE,mkEd,h4,h19];done)|(simp_all<;>omega)),(by omega),(by omega),(by (rw [xP,← hy])),(by (rw [aI];have:=xQ t ns (d.edges[k]?.getD (0,0,0));omega))⟩)<;>first|omega|(simp [go_sem,seval,Dr15.c,hnl,hvl,hns,F4,di2,h16,aA hkl,hx,hgx,cT3,aA hf,aA hto,hne0,hne1,nx2,hE,mkEd]<;>omega)
   ·try simp [go_sem] at h19
    have hE:tX t ns x=[]:=by unfold tX nN;rw [hnl];unfold mkEd;rw [if_neg (by simpa [aA hf,aA hto] using h19)]
    try simp [go_sem,seval,Dr15.c,hnl,hvl,hns,F4,di2,h16,aA hkl,hx,hgx,cT3,aA hf,aA hto,hne0,hne1,nx2,hE]
    repeat first|intro _|refine ⟨dQ,?_⟩
    refine cT (k+1) (by omega) ((hI4 _ _ _).2 ⟨(e4),(ys++tX t ns (d.edges[k]?.getD (0,0,0))),?_,?_,?_,?_,?_,?_,?_,?_,?_,?_,?_,?_,?_,?_,?_,?_,(by first|assumption|omega|(simp [go_sem,Dr15.c,hnl,hvl,hns,F4,di2,h16,aA hkl,hx,hgx,cT3,aA hf,aA hto,hne0,hne1,nx2,hE,h4,h19];done)|(simp_all<;>omega)),(by first|assumption|omega|(simp [go_sem,Dr15.c,hnl,hvl,hns,F4,di2,h16,aA hkl,hx,hgx,cT3,aA hf,aA hto,hne0,hne1,nx2,hE,h4,h19];done)|(simp_all<;>omega)),(by omega),(by omega),(by (rw [xP,← hy])),(by (rw [aI];have:=xQ t ns (d.edges[k]?.getD (0,0,0));omega))⟩)<;>first|omega|(simp [go_sem,seval,Dr15.c,hnl,hvl,hns,F4,di2,h16,aA hkl,hx,hgx,cT3,aA hf,aA hto,hne0,hne1,nx2,hE]<;>omega)
  ·try simp [go_sem] at h16
   have hK:k=(if ns.length=0∨t.edges.length=0 then 0 else min d.edges.length 10):=by
    split
    ·rename_i h;exact hzz h
    ·rename_i h
     have hq:¬ (k<d.edges.length∧k<10):=fun hh=>h (.inr (by rw [h16 hh.1 (by omega) (by omega)];rfl))
     omega
   have hfin:Ao t d=⟨⟨ns,ys⟩,zC t d.nodes i⟩:=by
    unfold Ao
    rw [hC,← hI,hns,← hK,hy]
   try simp [go_sem,seval,Dr15.c,hnl,hvl,hns,F4,di2]
   exact hQ _ _ (by first|(left;(simp [go_sem,Dr15.c,hnl,hvl,hns,F4,di2,hfin,Host.d,Host.c]);done)|(right;(simp [go_sem,Dr15.c,hnl,hvl,hns,F4,di2,hfin,Host.d,Host.c]);done))
attribute [go_sem] Host.d Host.c
def L3 (l:List Int):Bool:=decide (12<(l.length:Int))
def CQ (h:Host):Bool:=fewG h.graph&&decide ((h.values.length:Int)≤45)&&!(h.values.any L3)
theorem H5 (h:Host):Pure Tryz.prog 90 [h.d] (.bool (CQ h)):=by
 refine Tz.pK ⟨fun _=>false,fun _=>[]⟩ Tryz.func90 rfl (fun Q hQ=>?_)
 have Y:=wa @Host.d.eq_1 @Host.c.eq_1
 refine wo (h:=aB (yL h.graph) wl ?_)
 refine fJ (fun h1=>?_) fun h1=>?_
 ·have hF:CQ h=false:=by cases hg:fewG h.graph<;>simp [hg] at h1<;>simp [CQ,hg]<;>omega
  exact wv (h:=hQ _ _ (by simp [go_sem,hF]))
 ·have hG:fewG h.graph=true∧(h.values.length:Int)≤45:=by cases hg:fewG h.graph<;>simp [hg] at h1<;>exact ⟨rfl,by omega⟩
  refine wv (h:=bP (fun i e H=>(e 1=.adr h.c∧e 3=dI i)∧(i≤h.values.length)∧((h.values.take i).any L3=false)) (fun i=>h.values.length - i) 0 ⟨wg,wi,(by rfl)⟩ fun I0 hI0 i e H hi0=>?_)
  obtain ⟨E0,hi,ha⟩:=hi0
  have Y:=wa Y E0
  refine fJ (fun h4=>?_) fun h4=>?_
  ·have Y:=wa Y (wa h4 (wa (aA h4) @cL.eq_1))
   refine fJ (fun h6=>?_) fun h6=>?_
   ·refine wv (h:=?_)
    have hF:CQ h=false:=by
     have:h.values.any L3=true:=aX.2 ⟨_,aC h4,by unfold L3;simp;omega⟩
     unfold CQ;rw [this];simp
    exact hQ _ _ (by simp [go_sem,hF])
   ·exact wo (h:=wx hI0 (i+1) ⟨wg,wj,(by (rw [dK _ _ _ h4,ha];unfold L3;simp;omega))⟩)
  ·have hF:CQ h=true:=by have:=oG ha h4;unfold CQ;rw [hG.1,this,decide_eq_true hG.2];rfl
   exact wv (h:=hQ _ _ (by simp [go_sem,hF]))
def eB (t:Types)(g h:Graph):Int:=if (b9 t).2≠0 then (b9 t).2 else if graphF g≠0 then graphF g else if graphF h≠0 then graphF h else if (!kF t g||!kF t h)=true then 13 else 0
theorem Lq (t:Types)(ht:t.ok)(g h:Graph):Pure Tryz.prog 243 [t.d,g.d,h.d] (dI (eB t g h)):=by
 refine Tz.pK ⟨fun _=>false,fun _=>[]⟩ Tryz.func243 rfl (fun Q hQ=>?_)
 have Y:=trivial
 refine wv (h:=aB (xA t ht) wl ?_)
 refine dO (fun h2=>?_) fun h2=>?_
 ·exact wv (h:=hQ _ _ (by simp [go_sem,eB,h2]))
 ·refine wv (h:=aB (kX g) wl ?_)
  refine dO (fun h5=>?_) fun h5=>?_
  ·exact wv (h:=hQ _ _ (by simp [go_sem,eB,h2,h5]))
  ·refine wv (h:=aB (kX h) wl ?_)
   refine dO (fun h8=>?_) fun h8=>?_
   ·exact wv (h:=hQ _ _ (by simp [go_sem,eB,h2,h5,h8]))
   ·refine wo (h:=aB (wY t g) wl ?_)
    refine wo (h:=aO (fun hg=>wY t h) (fun hg=>wl) ?_)
    refine fJ (fun h10=>?_) fun h10=>?_
    ·exact wv (h:=hQ _ _ (by simp [go_sem,eB,h2,h5,h8];intro hg;rcases h10 with h|h<;>simp_all))
    ·exact wv (h:=hQ _ _ (by simp [go_sem,eB,h2,h5,h8];simpa using h10))
def light17 (t:Types)(g h:Graph):Bool:=tY t&&fewG g&&fewG h&&(decide (eB t g h≠0)||(decide ((g.nodes.length:Int)+g.edges.length≤6)&&decide ((h.nodes.length:Int)≤8)&&decide ((h.edges.length:Int)≤12)))
theorem Lr (t:Types)(ht:t.ok)(g h:Graph):Pure Tryz.prog 212 [t.d,g.d,h.d] (.bool (light17 t g h)):=by
 refine Tz.pK ⟨fun _=>false,fun _=>[]⟩ Tryz.func212 rfl (fun Q hQ=>?_)
 have ho:tY t=true→fewG g=true→fewG h=true→eB t g h=0→PF .i64 ((g.nodes.length:Int)+g.edges.length):=fun _ hg _ _=>by simp [fewG] at hg;exact cW (by omega) (by omega)
 have Y:=trivial
 refine wo (h:=aB (H8 t (fun n hn=>c6 (ht.nodes n hn).few (by omega))) wl ?_)
 refine wo (h:=aO (fun hg=>yL g) (fun hg=>wl) ?_)
 refine wo (h:=aO (fun hg=>yL h) (fun hg=>wl) ?_)
 refine wo (h:=aO (fun hg=>Lq t ht g h) (fun hg=>wl) ?_)
 have Y:=wa Y @light17.eq_1
 exact wo (h:=hQ _ _ wy)
def light21 (t:Types)(p:Pattern)(h:Host):Bool:=fewP p&&CQ h&&light17 t p.graph h.graph
theorem Lp (t:Types)(ht:t.ok)(p:Pattern)(h:Host):Pure Tryz.prog 127 [t.d,p.d,h.d] (.bool (light21 t p h)):=by
 refine Tz.pK ⟨fun _=>false,fun _=>[]⟩ Tryz.func127 rfl (fun Q hQ=>?_)
 have Y:=wa @Host.c.eq_1 @Pattern.c.eq_1
 refine wo (h:=aB (tH p) wl ?_)
 refine wo (h:=aO (fun hg=>H5 h) (fun hg=>wl) ?_)
 refine wo (h:=aO (fun hg=>Lr t ht p.graph h.graph) (fun hg=>wl) ?_)
 have Y:=wa Y @light21.eq_1
 exact wo (h:=hQ _ _ wy)
end Go.Abs
end
section
set_option maxHeartbeats 1000000
namespace Go.Abs
open Go.Maps (Keyed)
def B7 (u:Int):Prop:=-9223372036854775808≤u∧u≤9223372036854775807
theorem JP {u:Int}(h:B7 u):(Lit.int .i64 u).wf=true:=by
 obtain ⟨h1,h2⟩:=h
 simp [Lit.wf,IntKind.min,IntKind.max,IntKind.bits,IntKind.signed];omega
theorem Re {u:Int}(h:(Lit.int .i64 u).wf=true):B7 u:=by
 simp [Lit.wf,IntKind.min,IntKind.max,IntKind.bits,IntKind.signed] at h
 exact ⟨by omega,by omega⟩
def kv (u v:Int):Value:=.agg #[.int .i64 u,.int .i64 v]
def kl (u v:Int):Lit:=.string (keyBytes [.int .i64 u,.int .i64 v])
structure MapT (P:Program) (T K E:TypeId):Prop where
 t:P.underlying T=some (.map K E)
 e:P.underlying E=some (.int .i64)
 law:Keyed P K
 kmk:∀ u v,B7 u→B7 v→keyOf P K (kv u v)=some (kl u v)
 inv:∀ key l,keyOf P K key=some l→∃ u v,B7 u∧B7 v∧key=kv u v
 z:∀ w,(zeroValue E).run P w=.ok (.int .i64 0) w
theorem Bv {P:Program}{K E:TypeId}{f0 f1:Field}(hk:P.underlying K=some (.struct #[f0,f1]))(h0:f0.type=E∧f0.offset=0∧(f0.name != "_")=true)(h1:f1.type=E∧f1.offset=1∧(f1.name != "_")=true)
  (hc:P.cellsOf K=2) (hcE:P.cellsOf E=1) (d:Nat) (a b:Value):P.keyLits (d+1) K [a,b]=(P.keyLits d E [a]).bind fun x=>(P.keyLits d E [b]).map fun y=>x++y:=by
 obtain ⟨a1,a2,a3⟩:=h0
 obtain ⟨b1,b2,b3⟩:=h1
 rw [Program.keyLits.eq_def]
 simp only [hk]
 rw [if_pos (by simp [hc,a3,b3])]
 simp only [List.mapM_cons,List.mapM_nil,a1,a2,b1,b2,hcE,List.drop_zero,rC,List.take_zero,List.drop_succ_cons,bind,pure]
 cases P.keyLits d E [a]<;>simp
 cases P.keyLits d E [b]<;>simp
theorem r6 {P:Program}{E:TypeId}(he:P.underlying E=some (.int .i64))(d:Nat)(v:Value)(l:List Lit):P.keyLits (d+1) E [v]=some l↔∃ u,v=.int .i64 u∧(Lit.int .i64 u).wf=true∧l=[.int .i64 u]:=by
 rw [Program.keyLits.eq_def]
 simp only [he]
 cases v<;>simp
 rename_i k n
 constructor
 ·rintro ⟨⟨rfl,h⟩,rfl⟩;exact ⟨n,⟨rfl,rfl⟩,h,rfl⟩
 ·rintro ⟨u,⟨rfl,rfl⟩,h,rfl⟩;exact ⟨⟨rfl,h⟩,rfl⟩
theorem S1 {P : Program} {T K E : TypeId} {f0 f1 : Field} (ht : P.underlying T = some (.map K E)) (he : P.underlying E = some (.int .i64)) (hk : P.underlying K = some (.struct #[f0, f1])) (h0 : f0.type = E ∧ f0.offset = 0 ∧ (f0.name != "_") = true) (h1 : f1.type = E ∧ f1.offset = 1 ∧ (f1.name != "_") = true)
    (hc : P.cellsOf K = 2) (hcE : P.cellsOf E = 1) (hkt : P.keyType K = true) (hs : ∃ d, P.types.size + 1 = d + 1 + 1) (hlaw : Keyed P K) (hz : ∀ w, (zeroValue E).run P w = .ok (.int .i64 0) w) : MapT P T K E := by
  obtain ⟨d, hd⟩ := hs
  refine ⟨ht, he, hlaw, fun u v hu hv => ?_, fun key l h => ?_, hz⟩
  · unfold keyOf
    simp only [hk]
    rw [if_pos (by simp [hkt, Value.formed, hk, kv, hc]), hd]
    have e0 := (r6 he d (.int .i64 u) _).2 ⟨u, rfl, JP hu, rfl⟩
    have e1 := (r6 he d (.int .i64 v) _).2 ⟨v, rfl, JP hv, rfl⟩
    show ((P.keyLits (d + 1 + 1) K [.int .i64 u, .int .i64 v]).map fun ls => Lit.string (keyBytes ls)) = _
    rw [Bv hk h0 h1 hc hcE, e0, e1]; rfl
  · unfold keyOf at h
    simp only [hk] at h
    split at h
    · rename_i hf
      rw [aJ] at hf
      have hf2 := hf.2
      cases key <;> simp [Value.formed, hk, hc] at hf2
      rename_i cs
      obtain ⟨cs⟩ := cs
      match cs, hf2 with
      | [a, b], _ =>
        rw [hd] at h
        have h' : ((P.keyLits (d + 1 + 1) K [a, b]).map fun ls => Lit.string (keyBytes ls)) = some l := h
        rw [Bv hk h0 h1 hc hcE] at h'
        cases ha : P.keyLits (d + 1) E [a] with
        | none => rw [ha] at h'; cases h'
        | some x =>
          cases hb : P.keyLits (d + 1) E [b] with
          | none => rw [ha, hb] at h'; cases h'
          | some y =>
            obtain ⟨u, rfl, hu, _⟩ := (r6 he d a x).1 ha
            obtain ⟨v, rfl, hv, _⟩ := (r6 he d b y).1 hb
            exact ⟨u, v, Re hu, Re hv, rfl⟩
    · cases h
section
variable {P:Program} {T K E:TypeId}
theorem MapT.inj (h:MapT P T K E){u v u' v':Int}(a:B7 u)(b:B7 v)(a':B7 u')(b':B7 v')(e:kl u v=kl u' v'):u=u'∧v=v':=by
 have:=h.law.inj (h.kmk u v a b) (e ▸ h.kmk u' v' a' b')
 simpa [kv] using this
abbrev FM:=Int→Int→Option Int
def Jj (F:FM)(u v c:Int):FM:=fun u' v'=>if u'=u∧v'=v then some c else F u' v'
def T1 (D:DataW Unit)(F:FM):Prop:=∀ u v,B7 u→B7 v→Maps.has D (kl u v)=(F u v).isSome∧∀ c,F u v=some c→∀ z,D.atKey (kl u v) z=.lit (.int .i64 c)
inductive MS where
 | no
 | mp (b n:Nat) (F:FM)
 | rg (b r:Nat) (F:FM) (left:Int→Int→Bool) (wK:Nat) (cur:Option (Int × Int × Int))
def Oi (σ:Nat→Option Ow)(b:Nat):Prop:=∀ i o,σ i=some o→o.block≠some b
def DE (r:Nat):Value:=.pointer (some ⟨r,0,none⟩)
def MpOk (P:Program)(K E:TypeId)(σ:Nat→Option Ow)(base:Nat)(w:World):MS→Prop
 | .no=>True
 | .mp b n F=>base≤b∧Oi σ b∧∃ D:DataW Unit,w.ownsMap P K (plainElem P E) b n D∧T1 D F
 | .rg b r F left wK cur=>base≤b∧base≤r∧Oi σ b∧Oi σ r∧∃ (n:Nat) (D:DataW Unit) (lf:Lit→Bool),w.ranges P K (plainElem P E) b r n D lf wK∧T1 D F∧(∀ u v,B7 u→B7 v→lf (kl u v)=left u v) ∧
   ∀ u v c,cur=some (u,v,c)→(Instr.entry (DE r)).run P w=.ok (.tuple #[kv u v,.int .i64 c]) w
theorem Gj {σ σ':Nat→Option Ow}{w w':World}(hs:Stp σ w σ' w'){b:Nat}(hb:b<w.heap.size)(h:Oi σ b):Oi σ' b:=fun i o' ho hb'=>by
 rcases hs.new i o' b ho hb' with h1|⟨j,o,h1,h2⟩
 ·omega
 ·exact h j o h1 h2
theorem Ol {w w' : World} {r b s c clock : Nat} {seen : Array Nat} {es : Array MapEntry} {v : Value} (hr : w.heap[r]? = some (.mapIter (some b) s seen c)) (hb : w.heap[b]? = some (.map es clock))
    (hr' : w'.heap[r]? = some (.mapIter (some b) s seen c)) (hb' : w'.heap[b]? = some (.map es clock)) (h : (Instr.entry (DE r)).run P w = .ok v w) : (Instr.entry (DE r)).run P w' = .ok v w' := by
  simp only [DE, Instr.entry, getObj, Sem.run_bind, Sem.run, hr, hb, hr', hb', Result.andThen] at h ⊢
  cases hs : seen.back? with
  | none => simp [hs, stuck, Sem.run] at h
  | some st =>
    simp only [hs, getObj, Sem.run_bind, Sem.run, hb, hb', Result.andThen] at h ⊢
    by_cases hc : clock = c
    · subst hc
      simp only [bne_self_eq_false, dX, if_false, if_true] at h ⊢
      cases hf : es.find? (fun x => x.born == st) with
      | none => simp [hf, unsupported, Sem.run, Result.andThen] at h
      | some x =>
        simp only [hf, Sem.run_pure, Sem.run, Result.ok.injEq, Result.andThen] at h ⊢
        simp_all
    · simp [hc, unsupported, Sem.run, Result.andThen] at h
theorem MpOk.stp {σ σ':Nat→Option Ow}{w w':World}{base:Nat}{g:MS}(h:MpOk P K E σ base w g)(hs:Stp σ w σ' w'):MpOk P K E σ' base w' g:=by
 cases g with
 | no=>trivial
 | mp b n F =>
  obtain ⟨h1,h2,D,h3,h4⟩:=h
  have hlt:=h3.lt
  have he:=hs.old b hlt h2
  refine ⟨h1,Gj hs hlt h2,D,?_,h4⟩
  obtain ⟨es,clock,hb,rest⟩:=h3
  exact ⟨es,clock,he.trans hb,rest⟩
 | rg b r F left wK cur =>
  obtain ⟨h1,h2,h3,h4,n,D,lf,h5,h6,h7,h8⟩:=h
  have hlb:=h5.owns.lt
  have hlr:=h5.lt
  have eb:=hs.old b hlb h3
  have er:=hs.old r hlr h4
  obtain ⟨es,clock,since,seen,c0,hb,F',hn,hD,hr,rest⟩:=h5
  exact ⟨h1,h2,Gj hs hlb h3,Gj hs hlr h4,n,D,lf,⟨es,clock,since,seen,c0,eb.trans hb,F',hn,hD,er.trans hr,rest⟩,h6,h7,fun u v c hc=>Ol hr hb (er.trans hr) (eb.trans hb) (h8 u v c hc)⟩
theorem MpOk.base {σ:Nat→Option Ow}{w:World}{base base':Nat}{g:MS}(h:MpOk P K E σ base w g)(hb:base'≤base):MpOk P K E σ base' w g:=by
 cases g with
 | no=>trivial
 | mp b n F=>exact ⟨c6 hb h.1,h.2⟩
 | rg b r F left wK cur=>exact ⟨c6 hb h.1,c6 hb h.2.1,h.2.2⟩
theorem Sb {w:World}{b:Nat}{es:Array MapEntry}{clock:Nat}(hb:w.heap[b]?=some (.map es clock)):∀ ad:Addr,ad.block=b→w.cell? ad=none:=fun ad e=>by simp [World.cell?,e,hb]
theorem QS {w:World}{r:Nat}{m:Option Nat}{s c:Nat}{seen:Array Nat}(hr:w.heap[r]?=some (.mapIter m s seen c)):∀ ad:Addr,ad.block=r→w.cell? ad=none:=fun ad e=>by simp [World.cell?,e,hr]
theorem Rel.turned {M0:Nat→Prop}{H:AHeap}{σ:Nat→Option Ow}{w w':World}{row:Option Nat}(h:Rel M0 H σ w)(hg:w.grownBy w' row)(hr:∀ b,row=some b→Oi σ b∧∀ ad:Addr,ad.block=b→w.cell? ad=none) :
  Rel M0 H σ w'∧Keeps (cR M0 H σ) σ H.al w (cR M0 H σ) σ H.al w':=by
 have hk:Keeps (cR M0 H σ) σ H.al w (cR M0 H σ) σ H.al w':=⟨fun ad u hm hu=>⟨hm,by
  have hne:some ad.block≠row:=fun e=>by rw [(hr _ e.symm).2 ad rfl] at hu;cases hu
  exact (World.cell?_of_block (hg.block ad.block (World.block_lt_of_cell? w ad hu) hne)).trans hu⟩,fun id o' _ h=>⟨o',h,.inl rfl⟩,fun _ h=>h⟩
 refine ⟨⟨h.top,h.nxt,fun id k hk'=>?_,h.inj,fun i o b' ho hb'=>⟨cN (h.lt i o b' ho hb').1 hg.size,(h.lt i o b' ho hb').2⟩,fun b' hb'=>cN (h.m0 b' hb') hg.size⟩,hk⟩
 obtain ⟨o,ho,l⟩:=h.lies id k hk'
 obtain ⟨xs,h1,h2,h3⟩:=l.row
 refine ⟨o,ho,l.ver,l.ty,l.sz,l.esz,xs,h1.kept hg ?_,h2,h3.keep hk⟩
 cases hb:o.val.ownBlock with
 | none=>exact .inl rfl
 | some b'=>exact .inr fun e=>(hr b' e.symm).1 id o ho hb
theorem Stp.turned {σ0 σ:Nat→Option Ow}{w0 w w':World}{row:Option Nat}(h:Stp σ0 w0 σ w)(hg:w.grownBy w' row)(hr:∀ b,row=some b→w0.heap.size≤b):Stp σ0 w0 σ w' :=
 ⟨hg.os.trans h.os,hg.tape.trans h.tape,hg.output.trans h.output,c6 h.size hg.size,fun b hb hn=>(hg.block b (cN hb h.size) (fun e=>by have:=hr b e.symm;omega)).trans (h.old b hb hn),h.new⟩
structure SG (P:Program) (K E:TypeId) (n:Nat) (M0:Nat→Prop) (H0:AHeap) (σ0:Nat→Option Ow) (w0:World) (g:MS) (e:cX) (H:AHeap) (σ:Nat→Option Ow) (a:Act) (w:World):Prop where
 st:St n M0 H σ w e a
 stp:Stp σ0 w0 σ w
 keep:Keeps (cR M0 H0 σ0) σ0 H0.al w0 (cR M0 H σ) σ H.al w
 map:MpOk P K E σ w0.heap.size w g
section
variable {n:Nat} {M0:Nat→Prop} {H0 H:AHeap} {σ0 σ:Nat→Option Ow} {w0 w w':World} {g g':MS} {e:cX} {a:Act}
theorem SG.turned {row:Option Nat}(h:SG P K E n M0 H0 σ0 w0 g e H σ a w)(hg:w.grownBy w' row)(hr:∀ b,row=some b→w0.heap.size≤b∧Oi σ b∧∀ ad:Addr,ad.block=b→w.cell? ad=none)
  (hM:MpOk P K E σ w0.heap.size w' g') {dst:Option Tmp} (hd:oY n dst=true) {v:Value} {d:D} (hv:RepV (cR M0 H σ) σ H.al w' v d):SG P K E n M0 H0 σ0 w0 g' (nK e dst d) H σ (a.put dst v) w':=by
 obtain ⟨h1,h2⟩:=h.st.rel.turned hg fun b hb=>(hr b hb).2
 exact ⟨h.st.put h1 h2 hd hv,h.stp.turned hg fun b hb=>(hr b hb).1,h.keep.trans h2,hM⟩
def M4 (P:Program)(K E:TypeId)(n:Nat)(M0:Nat→Prop)(H0:AHeap)(σ0:Nat→Option Ow)(w0:World)(X:MS→cX→AHeap→Prop)(a:Act)(w:World):Prop:=∃ g e H σ,X g e H∧SG P K E n M0 H0 σ0 w0 g e H σ a w
end
abbrev PG:=Exit→MS→cX→AHeap→Prop
def WpG (P:Program)(K E:TypeId)(n:Nat)(x:Code)(Q:PG)(g:MS)(e:cX)(H:AHeap):Prop :=
 ∀ M0 H0 σ0 w0 σ a w,SG P K E n M0 H0 σ0 w0 g e H σ a w→x.wp P (fun ex a w=>M4 P K E n M0 H0 σ0 w0 (Q ex) a w) a w
def HQ (R:MS→cX→AHeap→Prop)(Q:PG):PG
 | .normal,g,e,H=>R g e H
 | ex,g,e,H=>Q ex g e H
def J8 (id:Nat)(Q:PG):PG
 | .exit id',g,e,H=>if id'=id then Q .normal g e H else Q (.exit id') g e H
 | ex,g,e,H=>Q ex g e H
variable {n:Nat} {c:Cfg} {Q:PG} {g:MS} {e:cX} {H:AHeap}
theorem fC {x:Code}(hm:P.follows .mixedOrders=true)(hok:nD c n x=true)(h:mN P c x (fun ex e H=>Q ex g e H) e H):WpG P K E n x Q g e H :=
 fun M0 H0 σ0 w0 σ a w hS=>gH (mH hm x _ e H h hok σ w a hS.st) fun ex a' w' ⟨e',H',σ',hq,hS',hst',hk'⟩=>⟨g,e',H',σ',hq,hS',hS.stp.trans hst',hS.keep.trans hk',hS.map.stp hst'⟩
theorem WpG.seq {x y:Code}(h:WpG P K E n x (HQ (WpG P K E n y Q) Q) g e H):WpG P K E n (.seq x y) Q g e H:=fun M0 H0 σ0 w0 σ a w hS=>by
 refine wp_seq (gH (h M0 H0 σ0 w0 σ a w hS) fun ex a' w' hc=>?_)
 cases ex<;>first|exact hc|skip
 obtain ⟨g',e',H',σ',hq,hS'⟩:=hc
 exact hq M0 H0 σ0 w0 σ' a' w' hS'
theorem c8 {x y:Code}(h:∀ R:MS→cX→AHeap→Prop,(∀ g e H,WpG P K E n y Q g e H→R g e H)→WpG P K E n x (HQ R Q) g e H):WpG P K E n (.seq x y) Q g e H:=.seq (h _ fun _ _ _ h=>h)
@[go_sem] theorem SJ {R:MS→cX→AHeap→Prop}{g:MS}{e:cX}{H:AHeap}:HQ R Q .normal g e H=R g e H:=rfl
@[go_sem] theorem Vd {R:MS→cX→AHeap→Prop}{g:MS}{e:cX}{H:AHeap}:HQ R Q .ret g e H=Q .ret g e H:=rfl
@[go_sem] theorem Uc {R:MS→cX→AHeap→Prop}{g:MS}{e:cX}{H:AHeap}{i:Nat}:HQ R Q (.exit i) g e H=Q (.exit i) g e H:=rfl
@[go_sem] theorem U7 {i:Nat}{g:MS}{e:cX}{H:AHeap}:J8 i Q .ret g e H=Q .ret g e H:=rfl
@[go_sem] theorem SA {i:Nat}{g:MS}{e:cX}{H:AHeap}:J8 i Q .normal g e H=Q .normal g e H:=rfl
@[go_sem] theorem TX {i j:Nat}{g:MS}{e:cX}{H:AHeap}:J8 i Q (.exit j) g e H=if j=i then Q .normal g e H else Q (.exit j) g e H:=rfl
theorem WpG.cond {x:Operand}{y z:Code}{t:Bool}(hx:dZ e x=.bool t)(h1:t=true→WpG P K E n y Q g e H)(h2:t=false→WpG P K E n z Q g e H):WpG P K E n (.cond x y z) Q g e H:=fun M0 H0 σ0 w0 σ a w hS=>by
 have hv:=hS.st.envR.ev x
 rw [hx] at hv
 have hc:a.eval x=.bool t:=by generalize a.eval x=v at hv;cases hv;rfl
 exact wp_cond_split hc (fun ht=>h1 ht M0 H0 σ0 w0 σ a w hS) fun ht=>h2 ht M0 H0 σ0 w0 σ a w hS
theorem WpG.block {id:Nat}{b:Code}(h:WpG P K E n b (J8 id Q) g e H):WpG P K E n (.block id b) Q g e H:=fun M0 H0 σ0 w0 σ a w hS=>by
 refine wp_block (gH (h M0 H0 σ0 w0 σ a w hS) fun ex a' w' hc=>?_)
 cases ex<;>first|exact hc|skip
 rename_i id'
 obtain ⟨g',e',H',σ',hq,hS'⟩:=hc
 by_cases hid:id'=id
 ·subst hid
  show (if id'=id' then M4 P K E n M0 H0 σ0 w0 (Q .normal) a' w' else _)
  rw [if_pos rfl]
  refine ⟨g',e',H',σ',?_,hS'⟩
  have h':(if id'=id' then Q .normal g' e' H' else Q (.exit id') g' e' H'):=hq
  rw [if_pos rfl] at h';exact h'
 ·show (if id'=id then M4 P K E n M0 H0 σ0 w0 (Q .normal) a' w' else M4 P K E n M0 H0 σ0 w0 (Q (.exit id')) a' w')
  rw [if_neg hid]
  refine ⟨g',e',H',σ',?_,hS'⟩
  have h':(if id'=id then Q .normal g' e' H' else Q (.exit id') g' e' H'):=hq
  rw [if_neg hid] at h';exact h'
theorem WpG.loop {b:Code}{ι:Type}(I:ι→MS→cX→AHeap→Prop)(m:ι→Nat)(x0:ι)(h0:I x0 g e H)(hI:∀ x g e H,I x g e H→WpG P K E n b (HQ (fun g' e' H'=>∃ x',m x'<m x∧I x' g' e' H') Q) g e H):WpG P K E n (.loop b) Q g e H :=
 fun M0 H0 σ0 w0 σ a w hS=>by
 let J:Nat→Act→World→Prop:=fun k a' w'=>∃ g e H σ x,m x=k∧I x g e H∧SG P K E n M0 H0 σ0 w0 g e H σ a' w'
 have hJ0:J (m x0) a w:=⟨g,e,H,σ,x0,rfl,h0,hS⟩
 classical
 let μ:Act→World→Nat:=fun a' w'=>if hx:∃ k,J k a' w' then Classical.choose (e8 hx) else 0
 refine wp_loop (fun a' w'=>∃ k,J k a' w') μ ⟨_,hJ0⟩ fun a' w' hx=>?_
 have hμ:μ a' w'=Classical.choose (e8 hx):=by simp only [μ,dif_pos hx]
 obtain ⟨g1,e1,H1,σ1,x1,hx1,hi,hS1⟩:=(wM (e8 hx)).1
 refine gH (hI x1 g1 e1 H1 hi M0 H0 σ0 w0 σ1 a' w' hS1) fun ex a'' w'' hc=>?_
 cases ex<;>first|exact hc|skip
 obtain ⟨g2,e2,H2,σ2,⟨x2,hlt,hi2⟩,hS2⟩:=hc
 have hx2:∃ k,J k a'' w'':=⟨m x2,g2,e2,H2,σ2,x2,rfl,hi2,hS2⟩
 refine ⟨hx2,?_⟩
 have:μ a'' w''=Classical.choose (e8 hx2):=by simp only [μ,dif_pos hx2]
 rw [this,hμ]
 refine Nat.lt_of_le_of_lt ?_ (hx1 ▸ hlt)
 rcases bZ (m x2) (Classical.choose (e8 hx2)) with hlt'|hge
 ·exact absurd ⟨g2,e2,H2,σ2,x2,rfl,hi2,hS2⟩ ((wM (e8 hx2)).2 _ hlt')
 ·exact hge
theorem WpG.ret (h:Q .ret g e H):WpG P K E n .ret Q g e H:=fun M0 H0 σ0 w0 σ a w hS=>wp_ret ⟨g,e,H,σ,h,hS⟩
theorem WpG.skip (h:Q .normal g e H):WpG P K E n .skip Q g e H:=fun M0 H0 σ0 w0 σ a w hS=>wp_skip ⟨g,e,H,σ,h,hS⟩
theorem WpG.exit {id:Nat}(h:Q (.exit id) g e H):WpG P K E n (.exit id) Q g e H:=fun M0 H0 σ0 w0 σ a w hS=>wp_exit ⟨g,e,H,σ,h,hS⟩
/-! ### operations -/
def OpsG (P:Program)(K E:TypeId)(n:Nat)(ops:Array Oper)(l:List Oper)(X:MS→cX→AHeap→Prop)(g:MS)(e:cX)(H:AHeap):Prop :=
 ∀ M0 H0 σ0 w0 σ a w (Q:Exit→Act→World→Prop),SG P K E n M0 H0 σ0 w0 g e H σ a w→(∀ a' w',M4 P K E n M0 H0 σ0 w0 X a' w'→Q .normal a' w')→wpList P ops Q l a w
theorem WpG.region {id:Nat}{ops:Array Oper}(h:OpsG P K E n ops ops.toList (Q .normal) g e H):WpG P K E n (.region id ops false) Q g e H:=fun M0 H0 σ0 w0 σ a w hS=>wp_region_list (h M0 H0 σ0 w0 σ a w _ hS fun _ _ hc=>hc)
variable {ops:Array Oper} {l:List Oper} {o:Oper} {X:MS→cX→AHeap→Prop}
theorem OpsG.nil (h:X g e H):OpsG P K E n ops [] X g e H:=fun M0 H0 σ0 w0 σ a w Q hS hQ=>wpList_nil (hQ a w ⟨g,e,H,σ,h,hS⟩)
theorem OpsG.pre {md:Nat→Bool}:∀ (l1:List Oper) {l2:List Oper} {e:cX} {H:AHeap},(∀ o∈l1,oY n o.dst=true)→lQ P md ops l1 e H (fun e' H'=>OpsG P K E n ops l2 X g e' H')→OpsG P K E n ops (l1++l2) X g e H
 | [],l2,e,H,hd,h=>h
 | o :: l1,l2,e,H,hd,h=>fun M0 H0 σ0 w0 σ a w Q hS hQ=>by
  unfold lQ at h
  have hs:=yC (Q:=Q) h hS.st (fun hn=>mK _ (hS.st.rel.nxt _ hn)) (hd o (by simp))
  have:=StepC.mono (K':=wpList P ops Q (l1++l2)) (fun a' w' ⟨v,H',F,σ',hk,hS',hst,hkp⟩ =>
   OpsG.pre l1 (fun o' ho'=>hd o' (by simp [ho'])) hk M0 H0 σ0 w0 σ' a' w' Q ⟨hS',hS.stp.trans hst,hS.keep.trans hkp,hS.map.stp hst⟩ hQ) hs
  unfold StepC at this
  show wpList P ops Q (o :: (l1++l2)) a w
  unfold wpList
  exact this
theorem OpsG.take {md:Nat→Bool}(k:Nat)(hd:((l.take k).all fun o=>oY n o.dst)=true)(h:∀ R:cX→AHeap→Prop,(∀ e' H',OpsG P K E n ops (l.drop k) X g e' H'→R e' H')→lQ P md ops (l.take k) e H R):OpsG P K E n ops l X g e H:=by
 have:=OpsG.pre (g:=g) (X:=X) (P:=P) (K:=K) (E:=E) (n:=n) (ops:=ops) (md:=md) (l.take k) (l2:=l.drop k) (fun o ho=>(cH.1 hd) o ho) (h _ fun _ _ h=>h)
 rwa [List.take_append_drop] at this
theorem OpsG.all {md:Nat→Bool}(hd:(l.all fun o=>oY n o.dst)=true)(h:∀ R:cX→AHeap→Prop,(∀ e' H',X g e' H'→R e' H')→lQ P md ops l e H R):OpsG P K E n ops l X g e H:=by
 have:=OpsG.pre (g:=g) (X:=X) (P:=P) (K:=K) (E:=E) (n:=n) (ops:=ops) (md:=md) l (l2:=[]) (fun o ho=>(cH.1 hd) o ho) (h _ fun _ _ h=>OpsG.nil h)
 rwa [iW] at this
theorem Gn {M0:Nat→Prop}{σ:Nat→Option Ow}{w:World}{a:Act}(hS:St n M0 H σ w e a){m:Operand}{v:Value}(hm:dZ e m=.cst v):a.eval m=v:=by
 have h:=hS.envR.ev m
 rw [hm] at h
 generalize a.eval m=x at h
 cases h;rfl
theorem Pt {M0:Nat→Prop}{σ:Nat→Option Ow}{w:World}{a:Act}(hS:St n M0 H σ w e a){x:Operand}{u v:Int}(hx:dZ e x=.agg [.int .i64 u,.int .i64 v]):a.eval x=kv u v:=by
 have h:=hS.envR.ev x
 rw [hx] at h
 generalize a.eval x=y at h
 cases h
 rename_i vs hl h1 hr
 match vs,hl with
 | [p,q],_ =>
  have a0:=hr 0 p _ rfl rfl
  have a1:=hr 1 q _ rfl rfl
  cases a0;cases a1;rfl
theorem UU {M0:Nat→Prop}{σ:Nat→Option Ow}{w:World}{a:Act}(hS:St n M0 H σ w e a){x:Operand}{k:IntKind}{u:Int}(hx:dZ e x=.int k u):a.eval x=.int k u:=by
 have h:=hS.envR.ev x
 rw [hx] at h
 generalize a.eval x=y at h
 cases h;rfl
theorem La {M:Nat→Prop}{σ:Nat→Option Ow}{N:Nat→Prop}{w:World}(u v:Int):RepV M σ N w (kv u v) (.agg [.int .i64 u,.int .i64 v]) :=
 .agg [.int .i64 u,.int .i64 v] _ rfl (by simp [Value.oneCell']) fun j x d hx hd=>by
  match j with
  | 0=>simp at hx hd;subst hx;subst hd;exact .int _ _
  | 1=>simp at hx hd;subst hx;subst hd;exact .int _ _
  | j+2=>simp at hx
theorem Eo {M:Nat→Prop}{σ:Nat→Option Ow}{N:Nat→Prop}{w:World}{vs:List Value}{ds:List D}(hl:vs.length=ds.length)(hr:∀ (j:Nat) (u:Value) (d:D),vs[j]?=some u→ds[j]?=some d→RepV M σ N w u d):RepV M σ N w (.tuple vs.toArray) (.tup ds):=.tup _ _ hl hr
theorem OpsG.make (hT:MapT P T K E){t:TypeId}(hop:o.op=.makeMap t none)(hg:o.guard=none)(hd:oY n o.dst=true)(h:∀ b,OpsG P K E n ops l X (.mp b 0 fun _ _=>none) (nK e o.dst (.cst (.map (some b)))) H):OpsG P K E n ops (o :: l) X .no e H :=
 fun M0 H0 σ0 w0 σ a w Q hS hQ=>by
 refine wpList_plain hg fun K' hK'=>?_
 unfold Oper.wp
 simp only [execOp,hop,RowKit.run_makeMap,Option.map_none,Sem.run_bind,Sem.run_pure,Result.andThen_ok,Result.andThen,Oper.upon_value]
 refine hK' _ _ (h w.heap.size M0 H0 σ0 w0 σ _ _ Q (hS.turned (g':=.mp w.heap.size 0 fun _ _=>none) (World.grownBy_alloc w _ none) (by simp) ⟨hS.stp.size,fun i o ho hb=>?_,_,World.ownsMap_made w P K _,fun u v _ _=>⟨rfl,by simp⟩⟩ hd (.cst _)) hQ)
 have:=(hS.st.rel.lt i o _ ho hb).1
 omega
theorem Q7 (hT : MapT P T K E) {t : TypeId} (ht : t = T) {m x : Operand} (hop : o.op = .lookup t m x true) (hg : o.guard = none) (hd : oY n o.dst = true) {b k : Nat} {F : FM} (hm : dZ e m = .cst (.map (some b))) {u v : Int} (hx : dZ e x = .agg [.int .i64 u, .int .i64 v]) (hu : B7 u) (hv : B7 v)
    (h : OpsG P K E n ops l X (.mp b k F) (nK e o.dst (.tup [.int .i64 ((F u v).getD 0), .bool (F u v).isSome])) H) : OpsG P K E n ops (o :: l) X (.mp b k F) e H :=
  fun M0 H0 σ0 w0 σ a w Q hS hQ => by
  subst ht
  obtain ⟨m1, m2, D, m3, m4⟩ := hS.map
  obtain ⟨r1, r2⟩ := m4 u v hu hv
  refine wpList_lookup_own_ok w hg m x t hop K E hT.law hT.t _ (hT.z w) (.lit (.int .i64 0)) [] (plainElem_int hT.e (JP ⟨by omega, by omega⟩)) b k D (Gn hS.st hm) m3 (kv u v) (kl u v) (Pt hS.st hx) (hT.kmk u v hu hv) fun y ps hy => ?_
  obtain ⟨c, rfl, hc, _⟩ := plainElem_int_inv hT.e hy
  have hcv : c = (F u v).getD 0 := by
    simp only [Prod.mk.injEq] at hc
    cases hF : F u v with
    | none =>
      rw [hF] at r1
      have := Maps.atKey_of_not_has r1 (.lit (.int .i64 0))
      rw [this] at hc
      have := hc.1; simp at this; simp [this]
    | some c' =>
      have := r2 c' hF (.lit (.int .i64 0))
      rw [this] at hc
      have := hc.1; simp at this; simp [this]
  subst hcv
  rw [r1]
  refine h M0 H0 σ0 w0 σ _ _ Q (hS.turned (row := none) ⟨rfl, rfl, rfl, aY _, fun _ _ _ => rfl⟩ (by simp) hS.map hd (Eo (vs := [_, _]) rfl fun j y d hy hd => ?_)) hQ
  match j with
  | 0 => simp at hy hd; subst hy; subst hd; exact .int _ _
  | 1 => simp at hy hd; subst hy; subst hd; exact .bool _
  | j + 2 => simp at hy
theorem OpsG.store (hT:MapT P T K E){t:TypeId}(ht:t=T){m x y:Operand}(hop:o.op=.mapUpdate t m x y)(hg:o.guard=none)(hd:oY n o.dst=true){b k:Nat}{F:FM}(hm:dZ e m=.cst (.map (some b))){u v c:Int}(hx:dZ e x=.agg [.int .i64 u,.int .i64 v])(hy:dZ e y=.int .i64 c)(hu:B7 u)(hv:B7 v)(hc:B7 c)(hk:k<1000000)
  (h:OpsG P K E n ops l X (.mp b (k+1) (Jj F u v c)) (nK e o.dst .junk) H):OpsG P K E n ops (o :: l) X (.mp b k F) e H :=
 fun M0 H0 σ0 w0 σ a w Q hS hQ=>by
 subst ht
 obtain ⟨m1,m2,D,m3,m4⟩:=hS.map
 have hcm:∀ ad:Addr,ad.block=b→w.cell? ad=none:=by obtain ⟨es,clock,hb,_⟩:=m3;exact Sb hb
 refine wpList_mapUpdate_own w hg m x y t hop K E hT.law hT.t _ b k D (Gn hS.st hm) m3 (by simp only [maxLen];omega) (kv u v) (.int .i64 c) (kl u v) (Pt hS.st hx) (UU hS.st hy) (hT.kmk u v hu hv) (.lit (.int .i64 c)) [] (plainElem_int hT.e (JP hc)) fun w' hw1 hw2=>?_
 refine h M0 H0 σ0 w0 σ _ _ Q (hS.turned (g':=.mp b (k+1) (Jj F u v c)) hw2 (fun b' hb'=>by cases hb';exact ⟨m1,m2,hcm⟩) ⟨m1,m2,_,hw1,fun u' v' hu' hv'=>?_⟩ hd (.junk _)) hQ
 unfold Jj
 by_cases he:u'=u∧v'=v
 ·obtain ⟨rfl,rfl⟩:=he
  rw [if_pos ⟨rfl,rfl⟩]
  have hkl:=hT.law.key (hT.kmk u' v' hu' hv')
  exact ⟨Maps.has_put_same m3.isMap hkl _,fun c' hc' z=>by cases hc';exact Maps.atKey_put_same m3.isMap hkl _ _⟩
 ·rw [if_neg he]
  have hne:kl u' v'≠kl u v:=fun e'=>he (hT.inj hu' hv' hu hv e')
  obtain ⟨r1,r2⟩:=m4 u' v' hu' hv'
  exact ⟨(Maps.has_put_other hne _).trans r1,fun c' hc' z=>(Maps.atKey_put_other hne _ _).trans (r2 c' hc' z)⟩
theorem OpsG.range (hT:MapT P T K E){t:TypeId}(ht:t=T){m:Operand}(hop:o.op=.range t m)(hg:o.guard=none)(hd:oY n o.dst=true){b k:Nat}{F:FM}(hm:dZ e m=.cst (.map (some b)))
  (h:∀ r wK,OpsG P K E n ops l X (.rg b r F (fun u v=>(F u v).isSome) wK none) (nK e o.dst (.cst (DE r))) H):OpsG P K E n ops (o :: l) X (.mp b k F) e H :=
 fun M0 H0 σ0 w0 σ a w Q hS hQ=>by
 subst ht
 obtain ⟨m1,m2,D,m3,m4⟩:=hS.map
 refine wpList_range_own w hg m t hop K E hT.law hT.t _ b k D (Gn hS.st hm) m3 fun w' hw1 hw2 hw3=>?_
 refine h w.heap.size (Maps.size D) M0 H0 σ0 w0 σ _ _ Q (hS.turned (g':=.rg b w.heap.size F (fun u v=>(F u v).isSome) (Maps.size D) none) hw2 (by simp) ⟨m1,hS.stp.size,m2,fun i o ho hb=>?_,k,D,_,hw1,m4,fun u v hu hv=>(m4 u v hu hv).1,by simp⟩ hd (.cst _)) hQ
 have:=(hS.st.rel.lt i o _ ho hb).1
 omega
theorem OpsG.next (hT:MapT P T K E){it:Operand}(hop:o.op=.next it false)(hg:o.guard=none)(hd:oY n o.dst=true){b r wK:Nat}{F:FM}{left:Int→Int→Bool}{cur:Option (Int × Int × Int)}(hit:dZ e it=.cst (DE r))
  (h1:(∀ u v,B7 u→B7 v→left u v=false)→OpsG P K E n ops l X (.rg b r F left wK cur) (nK e o.dst (.tup [.bool false])) H)
  (h2:∀ u v c cnt',B7 u→B7 v→left u v=true→F u v=some c→cnt'<wK→OpsG P K E n ops l X (.rg b r F (fun u' v'=>left u' v'&&!decide (u'=u∧v'=v)) cnt' (some (u,v,c))) (nK e o.dst (.tup [.bool true,.agg [.int .i64 u,.int .i64 v],.int .i64 c])) H) :
  OpsG P K E n ops (o :: l) X (.rg b r F left wK cur) e H :=
 fun M0 H0 σ0 w0 σ a w Q hS hQ=>by
 obtain ⟨m1,m2,m3,m4,k,D,lf,m5,m6,m7,m8⟩:=hS.map
 have hcm:∀ ad:Addr,ad.block=r→w.cell? ad=none:=by obtain ⟨es,clock,since,seen,c0,hb,F',hn,hD,hr,_⟩:=m5;exact QS hr
 refine wpList_next_ranges w hg it hop K hT.law (plainElem P E) (fun p:Int × Int=>kv p.1 p.2) (Value.int .i64) (fun key l hkey=>?_) (fun v y hv=>?_) b r k D lf wK (Gn hS.st hit) m5 (fun hc hl=>?_) fun x c l' y w' cnt' hkey hlk hv hat hrg hlt hgr hsz hen=>?_
 ·obtain ⟨u,v,_,_,rfl⟩:=hT.inv key l hkey
  exact ⟨(u,v),rfl⟩
 ·obtain ⟨c,rfl,_⟩:=plainElem_int_inv hT.e hv;exact ⟨c,rfl⟩
 ·refine h1 (fun u v hu hv=>by rw [← m7 u v hu hv];exact hl _) M0 H0 σ0 w0 σ _ _ Q (hS.turned (row:=none) ⟨rfl,rfl,rfl,aY _,fun _ _ _=>rfl⟩ (by simp) hS.map hd (Eo (vs:=[_]) rfl fun j y d hy hd=>?_)) hQ
  match j with
  | 0=>simp at hy hd;subst hy;subst hd;exact .bool _
  | j+1=>simp at hy
 ·obtain ⟨u,v⟩:=x
  simp only at hkey hen
  obtain ⟨u',v',hu,hv',he⟩:=hT.inv _ _ hkey
  simp only [kv,Value.agg.injEq,Array.mk.injEq,List.cons.injEq,Value.int.injEq,true_and,and_true] at he
  obtain ⟨rfl,rfl⟩:=he
  rw [hT.kmk u v hu hv'] at hkey
  cases hkey
  obtain ⟨c',ec,rfl,hwc⟩:=plainElem_int_inv hT.e hv
  cases ec
  have hhas:=Maps.has_true_of_atKey hat
  obtain ⟨r1,r2⟩:=m6 u v hu hv'
  rw [hhas] at r1
  obtain ⟨c2,hc2⟩:=lW.1 r1.symm
  have hcc:c2=c:=by
   have e1:=r2 c2 hc2 .nil
   rw [hat .nil] at e1
   simp at e1;exact e1.symm
  subst hcc
  refine h2 u v c2 cnt' hu hv' (by rw [← m7 u v hu hv'];exact hlk) hc2 hlt M0 H0 σ0 w0 σ _ _ Q (hS.turned (g':=.rg b r F (fun u' v'=>left u' v'&&!decide (u'=u∧v'=v)) cnt' (some (u,v,c2))) hgr (fun b' hb'=>by cases hb';exact ⟨m2,m4,hcm⟩) ⟨m1,m2,m3,m4,k,D,_,hrg,m6,fun a1 a2 ha1 ha2=>?_,fun a1 a2 a3 ha=>?_⟩ hd (Eo (vs:=[_,_,_]) rfl fun j y d hy hd=>?_)) hQ
  ·rw [m7 a1 a2 ha1 ha2]
   congr 2
   rw [aS]
   constructor
   ·intro h;exact decide_eq_true (hT.inj ha1 ha2 hu hv' (WideAt.sameKey_eq h))
   ·intro h
    obtain ⟨rfl,rfl⟩:=of_decide_eq_true h
    exact WideAt.sameKey_self (hT.law.key (hT.kmk _ _ hu hv'))
  ·cases ha;exact hen
  ·match j with
   | 0=>simp at hy hd;subst hy;subst hd;exact .bool _
   | 1=>simp at hy hd;subst hy;subst hd;exact La _ _
   | 2=>simp at hy hd;subst hy;subst hd;exact .int _ _
   | j+3=>simp at hy
theorem OpsG.entry {it:Operand}(hop:o.op=.entry it)(hg:o.guard=none)(hd:oY n o.dst=true){b r wK:Nat}{F:FM}{left:Int→Int→Bool}{u v c:Int}(hit:dZ e it=.cst (DE r))
  (h:OpsG P K E n ops l X (.rg b r F left wK (some (u,v,c))) (nK e o.dst (.tup [.agg [.int .i64 u,.int .i64 v],.int .i64 c])) H):OpsG P K E n ops (o :: l) X (.rg b r F left wK (some (u,v,c))) e H :=
 fun M0 H0 σ0 w0 σ a w Q hS hQ=>by
 obtain ⟨m1,m2,m3,m4,k,D,lf,m5,m6,m7,m8⟩:=hS.map
 have hrun:=m8 u v c rfl
 refine wpList_plain hg fun K' hK'=>?_
 unfold Oper.wp
 have hit':=Gn hS.st hit
 simp only [execOp,hop,hit',hrun,Sem.run_bind,Sem.run_pure,Result.andThen_ok,Result.andThen,Oper.upon_value]
 refine hK' _ _ (h M0 H0 σ0 w0 σ _ _ Q (hS.turned (row:=none) ⟨rfl,rfl,rfl,aY _,fun _ _ _=>rfl⟩ (by simp) hS.map hd (Eo (vs:=[_,_]) rfl fun j y d hy hd=>?_)) hQ)
 match j with
 | 0=>simp at hy hd;subst hy;subst hd;exact La _ _
 | 1=>simp at hy hd;subst hy;subst hd;exact .int _ _
 | j+2=>simp at hy
/-! ### calls -/
def GCalls (P:Program)(K E:TypeId)(f:FuncId)(args:List D)(H:AHeap)(Q:D→AHeap→MS→Prop):Prop :=
 T3 P f∧∀ (M0:Nat→Prop) (σ:Nat→Option Ow) (w:World) (vals:List Value),Rel M0 H σ w→RepL (cR M0 H σ) σ H.al w vals args →
  Calls P f vals.toArray w fun e w'=>∃ v d H' σ' g,e=.returned v∧Rel M0 H' σ' w'∧RepV (cR M0 H' σ') σ' H'.al w' v d∧Stp σ w σ' w'∧Keeps (cR M0 H σ) σ H.al w (cR M0 H' σ') σ' H'.al w'∧MpOk P K E σ' w.heap.size w' g∧Q d H' g
theorem HL {f:FuncId}{args:List D}{Q:D→AHeap→MS→Prop}{Q':D→AHeap→Prop}(h:GCalls P K E f args H Q)(hq:∀ d H' g,Q d H' g→Q' d H'):ACalls P f args H Q' :=
 ⟨h.1,fun M0 σ w vals hR ha=>(h.2 M0 σ w vals hR ha).mono fun e w' ⟨v,d,H',σ',g,a,b,c,s,k,_,q⟩=>⟨v,d,H',σ',a,b,c,s,k,hq _ _ _ q⟩⟩
def P2 (P:Program)(rs:List ResultVar)(Q:D→AHeap→MS→Prop):PG:=fun ex g e H=>P1 P rs (fun d H'=>Q d H' g) ex e H
theorem xR {f:FuncId}{fn:Func}{x:Code}{args:List D}{Q:D→AHeap→MS→Prop}(hf:P.funcs[f]?=some fn)(hb:fn.body=some x)
  (hnm:(fn.name=="runtime.NumGoroutine")=false) (hlen:args.length≤fn.ntmps) (h:WpG P K E fn.ntmps x (P2 P fn.results.toList Q) .no (zG args) H):GCalls P K E f args H Q:=by
 refine ⟨⟨fn,hf,hnm,by simp [hb]⟩,fun M0 σ w vals hR ha=>calls_of_wp hf hb ?_⟩
 have hS:St fn.ntmps M0 H σ w (zG args) { tmps:=vals.toArray++Array.replicate (fn.ntmps - vals.toArray.size) undef,defers:=[] }:=by
  refine ⟨hR,fun t=>?_,rfl,by simp [ha.len];omega⟩
  simp only [zG]
  by_cases ht:t<vals.length
  ·have h1:vals[t]?=some vals[t]:=aA ht
   have h2:args[t]?=some (args[t]'(by rw [← ha.len];exact ht)):=aA _
   have:=ha.rep t _ _ h1 h2
   rw [List.getD_eq_getElem?_getD,h2]
   simp only [aD,g7]
   rw [Array.getElem?_append_left (by simpa using ht)]
   simpa [h1] using this
  ·rw [List.getD_eq_getElem?_getD,bL (by rw [← ha.len];omega)]
   exact .junk _
 refine gH (h M0 H σ w σ _ w ⟨hS,.refl _ _,.refl _ _ _ _,trivial⟩) fun ex a' w' hc=>?_
 obtain ⟨g,e',H',σ',hq,hS',hst,hk,hM⟩:=hc
 have fin:BZ P fn.results.toList e' H' (fun l=>Q (EH l) H' g)→a'.defers=[]∧∃ v,(results fn a'.tmps).run P w'=.ok v w' ∧
   ∃ v2 d H2 σ2 g2,Ending.returned v=.returned v2∧Rel M0 H2 σ2 w'∧RepV (cR M0 H2 σ2) σ2 H2.al w' v2 d∧Stp σ w σ2 w'∧Keeps (cR M0 H σ) σ H.al w (cR M0 H2 σ2) σ2 H2.al w'∧MpOk P K E σ2 w.heap.size w' g2∧Q d H2 g2:=by
  intro hq
  obtain ⟨vs,l,h1,h2,h3⟩:=vJ hS' _ _ hq
  obtain ⟨v,hv1,hv2⟩:=Dm (fn:=fn) h1 h2
  exact ⟨hS'.defers,v,hv1,v,_,H',σ',g,rfl,hS'.rel,hv2,hst,hk,hM,h3⟩
 cases ex<;>first|exact fin hq|exact hq.elim
theorem OpsG.call {f:FuncId}{args:List D}{Q:D→AHeap→MS→Prop}(hc:fN e o=some (f,args))(hg:o.guard=none)(hd:oY n o.dst=true)(hA:GCalls P K E f args H Q)(h:∀ d H' g',Q d H' g'→OpsG P K E n ops l X g' (nK e o.dst d) H') :
  OpsG P K E n ops (o :: l) X .no e H:=fun M0 H0 σ0 w0 σ a w Q' hS hQ=>by
 refine wpList_plain hg fun K' hK'=>?_
 obtain ⟨vals,hrun,hrep⟩:=AG (P:=P) (fun x _=>hS.st.envR.ev x) hc hA.1
 refine Ac (args:=args) hrun ((hA.2 M0 σ w vals hS.st.rel hrep).mono fun e' w' ⟨v,d,H',σ',g',he,hR',hv,hst,hk,hM,hq⟩=>?_)
 exact ⟨v,he,hK' _ _ (h d H' g' hq M0 H0 σ0 w0 σ' _ _ Q' ⟨hS.st.put hR' hk hd hv,hS.stp.trans hst,hS.keep.trans hk,hM.base hS.stp.size⟩ hQ)⟩
end
end Go.Abs
end
section
set_option maxRecDepth 100000
set_option maxHeartbeats 4000000
open Go Go.Proofs
namespace Go.Abs
@[go_sem] theorem Wm (H:AHeap)(a b c d:Nat):gX H (.ptr a b c d)=.ptr a b c d:=rfl
@[go_sem] theorem Un (a b c d:Nat):dD (.ptr a b c d)=[]:=rfl
@[go_sem] theorem WO (H:AHeap)(i:Nat):(H.frz i).next=H.next:=(Og H i).2
@[go_sem] theorem Yh (H:AHeap)(i j:Nat):(H.frz i).get j=if j=i then (H.get i).map (fun k=>{ k with fz:=true }) else H.get j:=by
 by_cases h:j=i
 ·subst h
  unfold AHeap.frz
  cases hk:H.get j<;>simp [AHeap.put,hk]
 ·rw [if_neg h,IB H i j h]
structure Srch where
 t:Types
 p:Graph
 g:Graph
 pn:List Int
 pe:List Int
 inj:Bool
def UV (y:Edge):List Int:=[y.type,y.from_,y.to_]
def Bz (l:List Int)(i k:Nat):Bool:=decide (l[i]?.getD (-1)<0)||decide (l[i]?.getD (-1)=(k:Int))
def zK (t:Types)(a b:Int):Bool:=mem (t.line b.toNat) a
def Xc (p:Graph)(ns:List Int)(i:Nat):Edge:=⟨(p.edges[i]?.getD b7).type,ns[(p.edges[i]?.getD b7).from_.toNat]?.getD 0,ns[(p.edges[i]?.getD b7).to_.toNat]?.getD 0⟩
def JR (S:Srch)(ns:List Int)(i k:Nat):Bool:=decide (UV (S.g.edges[k]?.getD b7)=UV (Xc S.p ns i))
def Qk (S:Srch)(l:List Int)(k:Nat):Bool:=Bz S.pn l.length k&&(!(S.inj&&mem l k)&&zK S.t (S.p.nodes[l.length]?.getD 0) (S.g.nodes[k]?.getD 0))
def SS (S:Srch)(ns l:List Int)(k:Nat):Bool:=Bz S.pe l.length k&&(!(S.inj&&mem l k)&&JR S ns l.length k)
def OX (S:Srch)(N:Nat)(ns:List Int):Nat→List Int→List Part→List Part
 | 0,l,ou=>if N≤ou.length then ou else ou++[⟨ns,l⟩]
 | d+1,l,ou=>if N≤ou.length then ou else (List.range S.g.edges.length).foldl (fun ou k=>if SS S ns l k=true then OX S N ns d (l++[(k:Int)]) ou else ou) ou
def Fw (S:Srch)(l:List Int)(i:Nat):Bool:=decide (max (S.p.edges[i]?.getD b7).from_ (S.p.edges[i]?.getD b7).to_≠(l.length:Int) - 1)||(List.range S.g.edges.length).any fun k=>Bz S.pe i k&&JR S l i k
def rO (S:Srch)(l:List Int):Bool:=(List.range S.p.edges.length).all (Fw S l)
def O9 (S:Srch)(N:Nat):Nat→List Int→List Part→List Part
 | 0,l,ou=>if N≤ou.length then ou else OX S N l S.p.edges.length [] ou
 | d+1,l,ou=>if N≤ou.length then ou else (List.range S.g.nodes.length).foldl (fun ou k=>if (Qk S l k&&rO S (l++[(k:Int)]))=true then O9 S N d (l++[(k:Int)]) ou else ou) ou
/-! ### all matches -/
def Eg (S:Srch)(ns:List Int):Nat→List Int→List (List Int)
 | 0,l=>[l]
 | d+1,l=>((List.range S.g.edges.length).filter (SS S ns l)).flatMap fun (k:Nat)=>Eg S ns d (l++[(k:Int)])
def Gm (S:Srch):Nat→List Int→List Part
 | 0,l=>(Eg S l S.p.edges.length []).map fun es=>⟨l,es⟩
 | d+1,l=>((List.range S.g.nodes.length).filter (Qk S l)).flatMap fun (k:Nat)=>Gm S d (l++[(k:Int)])
def HG (S:Srch):List Part:=Gm S S.p.nodes.length []
theorem Cd {α:Type}(N:Nat)(a b:List α):((a.take N)++b).take N=(a++b).take N:=by
 rw [zA,zA,List.take_take,Nat.min_self]
 congr 1
 by_cases h:a.length≤N
 ·rw [aP h]
 ·rw [bH,Nat.min_eq_left (by omega)]
  rw [show N - N=0 by omega,show N - a.length=0 by omega]
theorem yW {α:Type}(N:Nat)(ok:Nat→Bool)(f:Nat→List α→List α)(x:Nat→List α)(hf:∀ k ou,ou.length≤N→f k ou=(ou++x k).take N) :
  ∀ (l:List Nat) (ou:List α),ou.length≤N→l.foldl (fun ou k=>if ok k=true then f k ou else ou) ou=(ou++(l.filter ok).flatMap x).take N
 | [],ou,h=>by simp [aP h]
 | k :: l,ou,h=>by
  rw [AO]
  by_cases hk:ok k=true
  ·rw [if_pos hk,hf k ou h,yW N ok f x hf l _ (by simp;omega),Cd,List.filter_cons_of_pos hk,List.flatMap_cons,List.append_assoc]
  ·rw [if_neg hk,yW N ok f x hf l _ h,List.filter_cons_of_neg hk]
theorem yU {α:Type}{N:Nat}{ou x:List α}(h:ou.length≤N)(h2:N≤ou.length):ou=(ou++x).take N:=by
 rw [zA,aP h,show N - ou.length=0 by omega];simp
theorem Nq (S:Srch)(N:Nat)(ns:List Int):∀ (d:Nat) (l:List Int) (ou:List Part),ou.length≤N→OX S N ns d l ou=(ou++(Eg S ns d l).map fun es=>(⟨ns,es⟩:Part)).take N
 | 0,l,ou,h=>by
  simp only [OX,Eg]
  split
  ·rename_i h2;exact yU h h2
  ·rw [aP (by simp;omega)];rfl
 | d+1,l,ou,h=>by
  simp only [OX,Eg]
  split
  ·rename_i h2;exact yU h h2
  ·rw [yW N (SS S ns l) (fun k ou=>OX S N ns d (l++[(k:Int)]) ou) (fun k=>(Eg S ns d (l++[(k:Int)])).map fun es=>(⟨ns,es⟩:Part)) (fun k ou ho=>Nq S N ns d _ ou ho) _ _ h,List.map_flatMap]
theorem Mq {S:Srch}{ns:List Int}:∀ (d:Nat) (l es:List Int),es∈Eg S ns d l→∀ i,l.length≤i→i<l.length+d→∃ k,k<S.g.edges.length∧Bz S.pe i k=true∧JR S ns i k=true
 | 0,l,es,_,i,h1,h2=>by omega
 | d+1,l,es,h,i,h1,h2=>by
  simp only [Eg,bQ,dN,bK] at h
  obtain ⟨k,⟨hk,ho⟩,hr⟩:=h
  by_cases hi:i=l.length
  ·simp only [SS,aJ] at ho
   exact ⟨k,hk,hi ▸ ho.1,hi ▸ ho.2.2⟩
  ·exact Mq d _ es hr i (by simp;omega) (by simp;omega)
theorem BD {S:Srch}:∀ (d:Nat) (l:List Int) (m:Part),m∈Gm S d l→(∃ r,m.nodes=l++r)∧m.edges∈Eg S m.nodes S.p.edges.length []
 | 0,l,m,h=>by
  simp only [Gm,aT] at h
  obtain ⟨es,he,rfl⟩:=h
  exact ⟨⟨[],by simp⟩,he⟩
 | d+1,l,m,h=>by
  simp only [Gm,bQ,dN,bK] at h
  obtain ⟨k,_,hr⟩:=h
  obtain ⟨⟨r,hr1⟩,hr2⟩:=BD d _ m hr
  exact ⟨⟨(k:Int) :: r,by rw [hr1];simp⟩,hr2⟩
theorem Ti {p:Graph}{l r:List Int}{i:Nat}(h1:(p.edges[i]?.getD b7).from_.toNat<l.length)(h2:(p.edges[i]?.getD b7).to_.toNat<l.length):Xc p (l++r) i=Xc p l i:=by
 unfold Xc
 rw [aU h1,aU h2]
theorem QO {S:Srch}(hp:graphF S.p=0)(d:Nat)(l:List Int)(h:rO S l=false):Gm S d l=[]:=by
 rw [List.eq_nil_iff_forall_not_mem]
 intro m hm
 obtain ⟨⟨r,hr⟩,he⟩:=BD d l m hm
 simp only [rO,List.all_eq_false,bK] at h
 obtain ⟨i,hi,hk⟩:=h
 have hx:=((dL hp).2 _ (aC hi)).2
 simp only [Fw,aA hi,aD,cG,decide_eq_true_eq,not_or,aX,bK,not_exists,not_and,ne_eq,jV,aJ] at hk
 obtain ⟨k1,k3⟩:=hk
 obtain ⟨k,a1,a2,a3⟩:=Mq _ _ _ he i (d8 _) (by simpa using hi)
 refine k3 k a1 a2 ?_
 unfold JR at a3 ⊢
 rw [hr,Ti (by rw [aA hi,aD];omega) (by rw [aA hi,aD];omega)] at a3
 exact a3
theorem DM {α:Type}(ok po:Nat→Bool)(x:Nat→List α)(h:∀ k,po k=false→x k=[]):∀ l:List Nat,(l.filter fun k=>ok k&&po k).flatMap x=(l.filter ok).flatMap x
 | []=>rfl
 | k :: l=>by
  cases h1:ok k<;>cases h2:po k<;>simp [List.filter_cons,h1,h2,DM ok po x h l,h k]
theorem NS {S:Srch}(hp:graphF S.p=0)(N:Nat):∀ (d:Nat) (l:List Int) (ou:List Part),ou.length≤N→O9 S N d l ou=(ou++Gm S d l).take N
 | 0,l,ou,h=>by
  simp only [O9]
  split
  ·rename_i h2;exact yU h h2
  ·rw [Nq S N l _ _ _ h];rfl
 | d+1,l,ou,h=>by
  simp only [O9]
  split
  ·rename_i h2;exact yU h h2
  ·rw [yW N (fun k=>Qk S l k&&rO S (l++[(k:Int)])) (fun k ou=>O9 S N d (l++[(k:Int)]) ou) (fun k=>Gm S d (l++[(k:Int)])) (fun k ou ho=>NS hp N d _ ou ho) _ _ h]
   rw [DM (Qk S l) (fun k=>rO S (l++[(k:Int)])) _ fun k hk=>QO hp d _ hk];rfl
theorem Rn (S:Srch){N:Nat}(ns:List Int)(d:Nat)(l:List Int){ou:List Part}(h:ou.length≤N):(OX S N ns d l ou).length≤N:=by
 rw [Nq S N ns d l ou h];exact List.length_take_le _ _
theorem NR {S:Srch}(hp:graphF S.p=0){N:Nat}(d:Nat)(l:List Int){ou:List Part}(h:ou.length≤N):(O9 S N d l ou).length≤N:=by
 rw [NS hp N d l ou h];exact List.length_take_le _ _
theorem KM {S:Srch}{N:Nat}(ns:List Int)(d:Nat)(l:List Int){ou:List Part}(h:N≤ou.length):OX S N ns d l ou=ou:=by cases d<;>simp only [OX,if_pos h]
def Hr (l:List Attr)(vs:List Int)(k:Nat):Int:=if vs[k]?.getD 0<(l[k]?.getD mQ).low∨(l[k]?.getD mQ).high<vs[k]?.getD 0 then 6 else 0
def iT (t:Types)(kind:Int)(vs:List Int):Int :=
 if (t.nodes.length:Int)≤kind then 6 else if j6 t kind.toNat=true then 13 else if vs.length≠(bI t kind).length then 20 else bR (Hr (bI t kind) vs) 0 (bI t kind).length
def jK (f:Nat→Int):Nat→Nat→Int × Int
 | k,0=>(-1,0)
 | k,n+1=>if f k≠0 then ((k:Int),f k) else jK f (k+1) n
theorem BB (f:Nat→Int){k n:Nat}(h:k<n):jK f k (n - k)=if f k≠0 then ((k:Int),f k) else jK f (k+1) (n - (k+1)):=by
 obtain ⟨m,hm⟩:∃ m,n - k=m+1:=⟨n - k - 1,by omega⟩
 rw [hm,show n - (k+1)=m by omega];rfl
theorem sA (f:Nat→Int):∀ n k,(jK f k n).2=bR f k n
 | 0,k=>rfl
 | n+1,k=>by simp only [jK,bR];split<;>simp_all [sA f n]
def Oe (t:Types)(h:Host)(i:Nat):Int:=iT t (h.graph.nodes[i]?.getD 0) (h.values[i]?.getD [])
def TP (t:Types)(h:Host)(i:Nat):Int:=if (t.edges.length:Int)≤(h.graph.edges[i]?.getD b7).type then 6 else
 if j4 t (h.graph.edges[i]?.getD b7).type (gN h.graph (h.graph.edges[i]?.getD b7).from_) (gN h.graph (h.graph.edges[i]?.getD b7).to_)=true then 0 else 13
def vW (t:Types)(h:Host):Int × Int :=
 if (b9 t).2≠0 then (-1,(b9 t).2) else if graphF h.graph≠0 then (-1,graphF h.graph) else if h.values.length≠h.graph.nodes.length then (-1,20)
 else if (jK (Oe t h) 0 h.graph.nodes.length).2≠0 then jK (Oe t h) 0 h.graph.nodes.length else jK (TP t h) 0 h.graph.edges.length
def fR (t:Types)(h:Host):Int:=(vW t h).2
structure G17 (t:Types) (p g:Graph):Prop where
 v:t.valid
 gp:graphF p=0
 gg:graphF g=0
 tp:∀ a∈p.nodes,0≤a∧a<t.nodes.length
 tg:∀ a∈g.nodes,0≤a∧a<t.nodes.length
theorem EG {t:Types}{g:Graph}(h:kF t g=true):∀ a∈g.nodes,0≤a∧a<t.nodes.length:=fun a ha=>by
 simp only [kF,aJ,cQ,gI,insideF,Bool.not_eq_true,Bool.not_eq_false',decide_eq_true_eq] at h
 have:=h.1 a ha
 simpa using this
theorem qQ {t:Types}{p g:Graph}(h:eB t p g=0):G17 t p g:=by
 unfold eB at h
 split at h
 ·exact absurd h (by assumption)
 ·rename_i h1
  split at h
  ·exact absurd h (by assumption)
  ·rename_i h2
   split at h
   ·exact absurd h (by assumption)
   ·rename_i h3
    split at h
    ·cases h
    ·rename_i h4
     simp only [cG,cQ,not_or,Bool.not_eq_false] at h4
     exact ⟨lY (by simpa using h1),by simpa using h2,by simpa using h3,EG h4.1,EG h4.2⟩
def Ra (t:Types)(p g:Graph)(m:Part)(i:Nat):Int :=
 if m.nodes[i]?.getD 0<0∨(g.nodes.length:Int)≤m.nodes[i]?.getD 0 then 6
 else if zK t (p.nodes[i]?.getD 0) (g.nodes[(m.nodes[i]?.getD 0).toNat]?.getD 0)=true then 0 else 13
def jO (t:Types)(p g:Graph)(m:Part)(inj:Bool):Int :=
 if m.nodes.length≠p.nodes.length∨m.edges.length≠p.edges.length then 20
 else if bR (Ra t p g m) 0 p.nodes.length≠0 then bR (Ra t p g m) 0 p.nodes.length
 else if bR (jF p g m) 0 p.edges.length≠0 then bR (jF p g m) 0 p.edges.length
 else if inj=true∧(¬ m.nodes.Nodup∨¬ m.edges.Nodup) then 5 else 0
def fM (t:Types)(p g:Graph)(m:Part)(inj:Bool):Int:=if eB t p g≠0 then eB t p g else jO t p g m inj
def Srch.cells (S:Srch)(most:Int)(fd:D):List D:=[.list (S.t.nodes.map NodeTy.c),.list (S.t.edges.map EdgeTy.c),dLI S.p.nodes,.list (S.p.edges.map Edge.c),dLI S.g.nodes,.list (S.g.edges.map Edge.c),dLI S.pn,dLI S.pe,.bool S.inj,dI most,fd]
theorem Pk (a b:Int):(a==b)=decide (a=b):=by rw [aS];simp
theorem GS (f:Nat→Bool)(k:Nat):(List.range (k+1)).any f=((List.range k).any f||f k):=by rw [bJ,s7];simp
structure SrS (f o:Nat) (S:Srch) (most:Nat) (out:List Part) (H:AHeap):Prop where
 bf:H.get f=some ⟨385,11,[S.cells most (.own o out.length)],false⟩
 bo:H.get o=some ⟨56,2,out.map Part.c,false⟩
 le:out.length≤most+1
@[go_sem] theorem FB (l:List Part):D.clLL (l.map Part.c)=true:=c4 _ (fun p=>by simp [Part.c,D.clL,nC]) l
@[go_sem] theorem Xf {n:Nat}{c:List D}(h:D.clL c=true):D.clLL (List.replicate n c)=true:=by
 induction n with
 | zero=>rfl
 | succ n ih=>simp [rD,D.clLL,h,ih]
theorem RG (l:List Part):d7 (l.map Part.c)=l.map Part.c:=jN fun c hc=>by
 rw [aT] at hc;obtain ⟨x,_,rfl⟩:=hc
 simp [Part.c,jH,mO,dLI,eZ]
def c5 (x:Term)(vs:List Int):Int:=if x.var<0 then x.add else vs[x.var.toNat]?.getD 0+x.add
def Sm (vs:List Int):Prop:=∀ v∈vs,-4000000≤v∧v≤4000000
theorem Sm.get {vs:List Int}(h:Sm vs){k:Nat}(hk:k<vs.length) : -4000000≤vs[k]∧vs[k]≤4000000:=h _ (aC hk)
def nI (x:Term)(n:Nat):Prop:=(-1≤x.var∧x.var<n)∧(-1000000≤x.add∧x.add≤1000000)
theorem Lo (x:Term)(vs:List Int)(hx:nI x vs.length)(hs:Sm vs):Pure Tryz.prog 75 [.agg x.c,dLI vs] (dI (c5 x vs)):=by
 have hx0:=hx
 obtain ⟨⟨a1,a2⟩,a3,a4⟩:=hx0
 refine Tz.pK ⟨fun _=>false,fun _=>[]⟩ Tryz.func75 rfl (fun Q hQ=>?_)
 have Y:=@Term.c.eq_1
 refine dO (fun h1=>?_) fun h1=>?_
 ·exact wv (h:=hQ _ _ (by simp [go_sem,c5,h1]))
 ·have hk:x.var.toNat<vs.length:=by omega
  have hb:=hs.get hk
  have Y:=wa Y (aA hk)
  exact wo (h:=hQ _ _ (by simp [go_sem,c5,show ¬ x.var<0 by omega,aA hk]))
theorem NJ (x:Term)(vs:List Int)(hx:nI x vs.length)(hs:Sm vs):Pure Tryz.prog 27 [.agg x.c,dLI vs] (.tup [dI (c5 x vs),dI 0]):=by
 have hx0:=hx
 obtain ⟨⟨a1,a2⟩,a3,a4⟩:=hx0
 refine Tz.pK ⟨fun _=>false,fun _=>[]⟩ Tryz.func27 rfl (fun Q hQ=>?_)
 have Y:=@Term.c.eq_1
 refine fJ (fun h1=>?_) fun h1=>?_
 ·have Y:=wa Y h1
  exact wv (h:=hQ _ _ wy)
 ·refine wv (h:=aB (Lo x vs hx hs) wl ?_)
  have Y:=wa Y h1
  exact wv (h:=hQ _ _ wy)
def Nf (x:Test)(vs:List Int):Bool:=(decide (x.kind=1)&&decide (c5 x.left vs≤c5 x.right vs))||(decide (x.kind=2)&&decide (c5 x.left vs=c5 x.right vs))
def OS (x:Test)(n:Nat):Prop:=(x.kind=1∨x.kind=2)∧nI x.left n∧nI x.right n
def nQ (h:Host)(m:Part)(s:Slot):Int:=(h.values[(m.nodes[s.node.toNat]?.getD 0).toNat]?.getD [])[s.attr.toNat]?.getD 0
def qR (st:List Int × List Bool)(s:Slot):Bool:=decide (0≤s.term.var)&&!(st.2[s.term.var.toNat]?.getD false)
def oP (h:Host)(m:Part)(st:List Int × List Bool)(s:Slot):List Int × List Bool :=
 if qR st s=true then (st.1.set s.term.var.toNat (nQ h m s - s.term.add),st.2.set s.term.var.toNat true) else st
def iS (h:Host)(m:Part):List Int × List Bool→List Slot→Option (List Int × List Bool)
 | st,[]=>some st
 | st,s :: l=>if c5 s.term (oP h m st s).1=nQ h m s then iS h m (oP h m st s) l else none
theorem wT (h:Host)(m:Part)(s:Slot):∀ (l:List Slot) (st:List Int × List Bool),iS h m st (l++[s])=(iS h m st l).bind fun q=>if c5 s.term (oP h m q s).1=nQ h m s then some (oP h m q s) else none
 | [],st=>by simp [iS]
 | a :: l,st=>by
  simp only [eQ,iS]
  split
  ·exact wT h m s l _
  ·rfl
theorem Dh (h:Host)(m:Part):∀ (l r:List Slot) (st:List Int × List Bool),iS h m st l=none→iS h m st (l++r)=none
 | [],r,st,hn=>by simp [iS] at hn
 | a :: l,r,st,hn=>by
  simp only [eQ,iS] at hn ⊢
  split at hn
  ·rename_i he;rw [if_pos he];exact Dh h m l r _ hn
  ·rename_i he;rw [if_neg he]
theorem Dg {h:Host}{m:Part}{l:List Slot}{i:Nat}(hi:i<l.length){st q:List Int × List Bool}(hq:iS h m st (l.take i)=some q) :
  (c5 l[i].term (oP h m q l[i]).1=nQ h m l[i]→iS h m st (l.take (i+1))=some (oP h m q l[i]))∧(c5 l[i].term (oP h m q l[i]).1≠nQ h m l[i]→iS h m st l=none):=by
 have e:l.take (i+1)=l.take i++[l[i]]:=aF hi
 refine ⟨fun h1=>?_,fun h1=>?_⟩
 ·rw [e,wT,hq];simp [h1]
 ·have hn:iS h m st (l.take (i+1))=none:=by rw [e,wT,hq];simp [h1]
  have:=Dh h m _ (l.drop (i+1)) st hn
  rw [List.take_append_drop] at this;exact this
def fW (p:Pattern)(h:Host)(m:Part)(vs:List Int):List Int × Int :=
 match iS h m (vs++List.replicate (p.vars.toNat - vs.length) 0,List.replicate vs.length true++List.replicate (p.vars.toNat - vs.length) false) p.slots with
 | none=>([],11)
 | some q=>if p.tests.all (fun x=>Nf x q.1)=true then (q.1,0) else ([],16)
end Go.Abs
end
