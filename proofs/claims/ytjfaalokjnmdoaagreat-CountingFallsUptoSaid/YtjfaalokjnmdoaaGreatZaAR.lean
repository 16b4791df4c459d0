/- The rules of drafts; the host of a draft. · Few and Light of -/
import Derived.Test.YtjfaalokjnmdoaaGreatZaAF
import Derived.Test.YtjfaalokjnmdoaaGreatZaAA
import Derived.Test.YtjfaalokjnmdoaaGreatZaAQ
set_option linter.unusedVariables false
set_option linter.unusedSimpArgs false
section
set_option maxRecDepth 100000
set_option maxHeartbeats 4000000
open Go Go.Proofs
namespace Go.Abs
def Cd (t:Types)(l:List Dr24):List Rule:=(l.take 6).map (w8 t)
theorem NG (t:Types)(ht:t.fine)(l:List Dr24):Pure Tryz.prog 43 [t.d,.list (l.map Dr24.c)] (.list ((Cd t l).map Rule.c)):=by
 refine Tz.pK ⟨fun t=>t==5,fun _=>[]⟩ Tryz.func43 rfl (fun Q hQ=>?_)
 have Y:=trivial
 refine wv (h:=bG (fun i e H=>∃ xs:List Rule,(e 2=.adr t.c∧e 1=.list (l.map Dr24.c)∧e 5=.own 0 xs.length∧e 6=dI i)∧(H.get 0=some ⟨61,25,xs.map Rule.c,false⟩)∧(0<H.next)∧(i≤6)∧(i≤l.length)∧(xs.length=i)∧(xs=(l.take i).map (w8 t))) (fun i=>6 - i) 0 ⟨([]),wg,wn,wn,wi,wi,(by rfl),(by rfl)⟩ fun I0 hI0 i e H hi0=>?_)
 obtain ⟨xs,E0,g0_0,n0_0,hi,hil,hxl,hx⟩:=hi0
 have Y:=wa Y (wa E0 (wa g0_0 (wa (cG n0_0) hxl)))
 refine pH (fun h3=>?_) fun h3=>?_
 ·obtain ⟨R,hR⟩:∃ R,w8 t l[i]=R:=⟨_,rfl⟩
  have hRd:R.d=.agg R.c:=rfl
  have hdl:(l[i].c).length=15:=rfl
  have hdt:(l[i].c).take 15=l[i].c:=rfl
  have hRl:R.c.length=25:=rfl
  have Y:=wa Y (wa h3 (wa (aA h3.1) (wa hR (wa hRd (wa hRl (wa hdl hdt))))))
  refine wp (h:=aM (NK t ht l[i]) wl ?_)
  exact wp (h:=wx hI0 (i+1) ⟨(xs++[w8 t l[i]]),wg,wn,wn,wj,wj,(by (rw [aG,hxl];rfl)),(by (rw [fJ _ h3.1,← hx]))⟩)
 ·have hI:i=min 6 l.length:=by omega
  have hfin:Cd t l=xs:=by unfold Cd;rw [hx,hI,List.take_eq_take_min]
  exact wv (h:=hQ _ _ (by simp [go_sem,Y,hfin]))
structure Host where
 graph:Graph
 values:List (List Int)
def Host.c (h:Host):List D:=[dLI h.graph.nodes,.list (h.graph.edges.map Edge.c),.list (h.values.map cL)]
def Host.d (h:Host):D:=.agg h.c
@[go_sem] theorem Va (l:List (List Int)):D.clLL (l.map cL)=true:=dA _ (fun a=>by simp [cL,D.clL,n3]) l
@[go_sem] theorem Host.cl (h:Host):h.d.cl=true:=by simp [Host.d,Host.c,D.cl,D.clL,n3,Va,t8]
structure Dr15 where
 nodes:List B2
 edges:List B3
def Dr15.c (d:Dr15):List D:=[.list (d.nodes.map cP),.list (d.edges.map cT3)]
@[go_sem] theorem Dr15.cl (d:Dr15):D.clL d.c=true:=by simp [Dr15.c,D.clL,D.cl,Sv,By]
def O1 (l:List Attr)(b:UInt8)(k:Nat):Int:=match l[k]? with|some a=>a.low+((b.toNat:Int)+7 * (k:Int)).tmod (a.high - a.low+1)|none=>0
def sK (l:List Attr)(b:UInt8)(k:Nat):List Int:=(List.range k).map (O1 l b)
def xA (t:Types)(x:B2):Int:=zD (lQ t) x.1
def Pc (t:Types)(x:B2):List Int:=sK (b7 t (xA t x)) x.2 (b7 t (xA t x)).length
def A2 (t:Types)(ds:List B2)(k:Nat):List Int:=(List.range k).map fun i=>xA t (mW ds i)
def Eh (t:Types)(ds:List B2)(k:Nat):List (List Int):=(List.range k).map fun i=>Pc t (mW ds i)
def z8 (t:Types)(d:Dr15):Host :=
 ⟨⟨A2 t d.nodes (if (lQ t).length=0 then 0 else min d.nodes.length 8),
  Hi t (A2 t d.nodes (if (lQ t).length=0 then 0 else min d.nodes.length 8)) [] d.edges (if (A2 t d.nodes (if (lQ t).length=0 then 0 else min d.nodes.length 8)).length=0∨t.edges.length=0 then 0 else min d.edges.length 10)⟩,
  Eh t d.nodes (if (lQ t).length=0 then 0 else min d.nodes.length 8)⟩
theorem KE (l:List Attr)(b:UInt8)(k:Nat):sK l b (k+1)=sK l b k++[O1 l b k]:=by simp [sK,bL]
theorem Ei (l:List Attr)(b:UInt8)(k:Nat):(sK l b k).length=k:=by simp [sK]
theorem Qp (t:Types)(ds:List B2)(k:Nat):A2 t ds (k+1)=A2 t ds k++[xA t (mW ds k)]:=by simp [A2,bL]
theorem Fe (t:Types)(ds:List B2)(k:Nat):(A2 t ds k).length=k:=by simp [A2]
theorem PP (t:Types)(ds:List B2)(k:Nat):Eh t ds (k+1)=Eh t ds k++[Pc t (mW ds k)]:=by simp [Eh,bL]
theorem KC (t:Types)(ds:List B2)(k:Nat):(Eh t ds k).length=k:=by simp [Eh]
theorem NT (t:Types)(ht:t.fine)(d:Dr15):Pure Tryz.prog 44 [t.d,.agg d.c] (z8 t d).d:=by
 have hfN:=ht.ok.fewN
 have hfE:=ht.ok.fewE
 obtain ⟨C,hC⟩:∃ C,lQ t=C:=⟨_,rfl⟩
 refine Tz.pK ⟨fun t=>t==4||t==5||t==15||t==53||t==11,fun r=>match r with|13=>[(0,4),(1,4),(2,4),(4,6),(5,6),(4,7),(5,7),(0,9),(1,9),(2,9),(4,9),(5,9),(6,9),(7,9),(9,11),(10,11),(9,12),(10,12)]|18=>[(0,30),(1,30),(3,30),(4,30),(5,30),(7,30),(8,30),(9,30),(11,30),(12,30),(14,30),(15,30),(16,30),(20,30),(21,30),(23,30),(24,30),(25,30)]|_=>[]⟩ Tryz.func44 rfl (fun Q hQ=>?_)
 try simp [go_sem,seval,Dr15.c]
 refine aC ((by have hq:=EO t (by omega);rw [hC] at hq;exact hq)) ((by first|rfl|(simp [go_sem,← List.map_take,← List.map_drop,Dr15.c];done))) ?_
 try simp [go_sem,seval,Dr15.c]
 obtain ⟨I0,hI0⟩:∃ I0:Nat→cY→AHeap→Prop,∀ (i:Nat) (e:cY) (H:AHeap),I0 i e H↔((e 2=.adr t.c)∧(e 3=.adr d.c)∧(e 4=.ptr 0 1 0 0)∧(e 5=.ptr 1 1 0 0)∧(e 6=dLI C)∧(e 7=dI i)∧(H.get 0=some ⟨40,3,[[.nil,.nil,.nil]],false⟩)∧(0<H.next)∧(H.get 1=some ⟨40,3,[[.own 2 i,.nil,.own 3 i]],false⟩)∧(1<H.next)∧(H.get 2=some ⟨3,1,(A2 t d.nodes i).map cI,false⟩)∧(2<H.next)∧(H.get 3=some ⟨34,1,(Eh t d.nodes i).map cL,false⟩)∧(3<H.next)∧(i≤8)∧(i≤d.nodes.length)∧(C.length=0→i=0)∧((A2 t d.nodes i).length=i)∧((Eh t d.nodes i).length=i)):=⟨fun i e H=>_,fun _ _ _=>Iff.rfl⟩
 refine uY (Ghosts.step (Ghosts.step (Ghosts.refl _) 1 0 0 3 1 _ _ (rfl) rfl rfl rfl) 1 0 2 34 1 _ _ ((by simp [go_sem,Dr15.c]:AHeap.get _ _=some ⟨40,3,[[.own 2 0,.nil,.nil]],false⟩)) rfl rfl rfl) I0 (fun i=>8 - i) (0) ((hI0 _ _ _).2 ⟨?_,?_,?_,?_,?_,?_,?_,?_,?_,?_,(by rfl),?_,(by rfl),?_,(by first|assumption|omega|(simp [go_sem,Dr15.c];done)|(simp_all;done)),(by first|assumption|omega|(simp [go_sem,Dr15.c];done)|(simp_all;done)),(by (intro _;rfl)),(by (exact Fe _ _ _)),(by (exact KC _ _ _))⟩) ?_
 iterate 12 (first|omega|(simp [go_sem,seval,Dr15.c]<;>omega))
 intro i e H hi0
 obtain ⟨q2_0,q3_0,q4_0,q5_0,q6_0,q7_0,g0_0,n0_0,g1_0,n1_0,g2_0,n2_0,g3_0,n3_0,hi,hid,hz,hnl,hvl⟩:=(hI0 _ _ _).1 hi0
 have x0:=cG n0_0
 have x1:=cG n1_0
 have x2:=cG n2_0
 have x3:=cG n3_0
 have F0:=And.intro q2_0 (And.intro q3_0 (And.intro q4_0 (And.intro q5_0 (And.intro q6_0 (And.intro q7_0 (And.intro g0_0 (And.intro g1_0 (And.intro g2_0 (And.intro g3_0 (And.intro x0 (And.intro x1 (And.intro x2 x3))))))))))))
 try simp [go_sem,seval,Dr15.c,F0,hnl,hvl]
 repeat first|intro _|refine ⟨eI,?_⟩
 refine aJ (fun h4=>?_) (fun h4=>?_)
 ·try simp [go_sem] at h4
  have hil:i<d.nodes.length:=by omega
  have hC0:0<C.length:=by omega
  have hCn:¬C=[]:=iP.1 hC0
  obtain ⟨x,hx⟩:∃ x,d.nodes[i]=x:=⟨_,rfl⟩
  have hgx:mW d.nodes i=x:=by unfold mW;rw [aA hil,← hx];rfl
  have hx1:=iZ x.1
  have hx2:=iZ x.2
  have tm:=dJ (show 0≤(x.1.toNat:Int) by omega) (show (0:Int)<C.length by omega)
  obtain ⟨kk,hpk⟩:=wZ hC0 x.1
  obtain ⟨kd,hkd0⟩:∃ kd,C[((x.1.toNat:Int).tmod C.length).toNat]=kd:=⟨_,rfl⟩
  have hkd:xA t (mW d.nodes i)=kd:=by unfold xA;rw [hgx,hC,hpk,hkd0]
  have hne0:(C.length:Int)≠0:=by omega
  obtain ⟨la,hla⟩:∃ la,b7 t kd=la:=⟨_,rfl⟩
  have hgood:=ht.good kd
  rw [hla] at hgood
  try simp [go_sem,seval,Dr15.c,F0,hnl,hvl,h4,aA hil,hx,cP,aA kk,hkd0,hne0,hkd,hla]
  repeat first|intro _|refine ⟨eI,?_⟩
  refine aC (jP t ht.ok kd) ((by first|rfl|(simp [go_sem,← List.map_take,← List.map_drop,Dr15.c,F0,hnl,hvl,h4,aA hil,hx,cP,aA kk,hkd0,hne0,hkd,hla];done))) ?_
  try simp [go_sem,seval,Dr15.c,F0,hnl,hvl,h4,aA hil,hx,cP,aA kk,hkd0,hne0,hkd,hla]
  repeat first|intro _|refine ⟨eI,?_⟩
  obtain ⟨I2,hI2⟩:∃ I2:Nat→cY→AHeap→Prop,∀ (k:Nat) (e:cY) (H:AHeap),I2 k e H↔(∃ c:Nat,(e 2=.adr t.c)∧(e 3=.adr d.c)∧(e 4=.ptr 0 1 0 0)∧(e 5=.ptr 1 1 0 0)∧(e 6=dLI C)∧(e 7=dI i)∧(e 8=dI kd)∧(e 9=.list (la.map Attr.c))∧(e 11=.own c k)∧(e 12=dI k)∧(H.get 0=some ⟨40,3,[[.nil,.nil,.nil]],false⟩)∧(0<H.next)∧(H.get 1=some ⟨40,3,[[.own 2 i,.nil,.own 3 i]],false⟩)∧(1<H.next)∧(H.get 2=some ⟨3,1,(A2 t d.nodes i).map cI,false⟩)∧(2<H.next)∧(H.get 3=some ⟨34,1,(Eh t d.nodes i).map cL,false⟩)∧(3<H.next)∧(H.get c=some ⟨3,1,(sK la x.2 k).map cI,false⟩)∧(c<H.next)∧(k≤la.length)∧(3<c)∧((sK la x.2 k).length=k)):=⟨fun k e H=>_,fun _ _ _=>Iff.rfl⟩
  refine fZ I2 (fun k=>la.length - k) (0) ((hI2 _ _ _).2 ⟨(H.next),?_,?_,?_,?_,?_,?_,?_,?_,?_,?_,?_,?_,?_,?_,?_,?_,?_,?_,(by (simp [go_sem,Dr15.c,F0,hnl,hvl,h4,aA hil,hx,cP,aA kk,hkd0,hne0,hkd,hla,sK])),?_,(by first|assumption|omega|(simp [go_sem,Dr15.c,F0,hnl,hvl,h4,aA hil,hx,cP,aA kk,hkd0,hne0,hkd,hla];done)|(simp_all;done)),(by omega),(by (exact Ei _ _ _))⟩) ?_
  iterate 19 (first|omega|(simp [go_sem,seval,Dr15.c,F0,hnl,hvl,h4,aA hil,hx,cP,aA kk,hkd0,hne0,hkd,hla]<;>omega))
  intro k e H hi2
  obtain ⟨c,q2_2,q3_2,q4_2,q5_2,q6_2,q7_2,q8_2,q9_2,q11_2,q12_2,g0_2,n0_2,g1_2,n1_2,g2_2,n2_2,g3_2,n3_2,gc_2,nc_2,hk,hc,hvl2⟩:=(hI2 _ _ _).1 hi2
  have x0:=cG n0_2
  have x1:=cG n1_2
  have x2:=cG n2_2
  have x3:=cG n3_2
  have xc:=cG nc_2
  have F2:=And.intro q2_2 (And.intro q3_2 (And.intro q4_2 (And.intro q5_2 (And.intro q6_2 (And.intro q7_2 (And.intro q8_2 (And.intro q9_2 (And.intro q11_2 (And.intro q12_2 (And.intro g0_2 (And.intro g1_2 (And.intro g2_2 (And.intro g3_2 (And.intro gc_2 (And.intro x0 (And.intro x1 (And.intro x2 (And.intro x3 xc))))))))))))))))))
  have di1:=And.intro (c5 (show c≠3 by omega)) (And.intro (c5 (show c≠2 by omega)) (And.intro (c5 (show c≠1 by omega)) (And.intro (c5 (show c≠0 by omega)) (And.intro (c5 (show 3≠2 by omega)) (And.intro (c5 (show 3≠1 by omega)) (And.intro (c5 (show 3≠0 by omega)) (And.intro (c5 (show 2≠1 by omega)) (And.intro (c5 (show 2≠0 by omega)) (c5 (show 1≠0 by omega))))))))))
  try simp [go_sem,seval,Dr15.c,hnl,hvl,h4,aA hil,hx,cP,aA kk,hkd0,hne0,hkd,hla,F2,hvl2,di1]
  repeat first|intro _|refine ⟨eI,?_⟩
  refine aJ (fun h10=>?_) (fun h10=>?_)
  ·try simp [go_sem] at h10
   have hg:=hgood.1 _ (aB h10)
   unfold Attr.good at hg
   have hl8:=hgood.2
   have tv:=dJ (show 0≤(x.2.toNat:Int)+7 * (k:Int) by omega) (show 0<la[k].high - la[k].low+1 by omega)
   have hval:O1 la x.2 k=la[k].low+((x.2.toNat:Int)+7 * (k:Int)).tmod (la[k].high - la[k].low+1):=by unfold O1;rw [aA h10]
   have hneq:la[k].high - la[k].low+1≠0:=by omega
   try simp [go_sem,seval,Dr15.c,hnl,hvl,h4,aA hil,hx,cP,aA kk,hkd0,hne0,hkd,hla,F2,hvl2,di1,h10,aA h10,hneq]
   repeat first|intro _|refine ⟨eI,?_⟩
   refine bY (k+1) (by omega) ((hI2 _ _ _).2 ⟨(c),?_,?_,?_,?_,?_,?_,?_,?_,?_,?_,?_,?_,?_,?_,?_,?_,?_,?_,(by (simp [go_sem,Dr15.c,hnl,hvl,h4,aA hil,hx,cP,aA kk,hkd0,hne0,hkd,hla,F2,hvl2,di1,h10,aA h10,hneq,KE,hval])),?_,(by first|assumption|omega|(simp [go_sem,Dr15.c,hnl,hvl,h4,aA hil,hx,cP,aA kk,hkd0,hne0,hkd,hla,F2,hvl2,di1,h10,aA h10,hneq];done)|(simp_all<;>omega)),(by omega),(by (exact Ei _ _ _))⟩)<;>first|omega|(simp [go_sem,seval,Dr15.c,hnl,hvl,h4,aA hil,hx,cP,aA kk,hkd0,hne0,hkd,hla,F2,hvl2,di1,h10,aA h10,hneq]<;>omega)
  ·try simp [go_sem] at h10
   have hK:k=la.length:=by omega
   have hrow:Pc t (mW d.nodes i)=sK la x.2 k:=by unfold Pc;rw [hkd,hla,hgx,hK]
   have hl8:=hgood.2
   have nx:=N4 H.next
   try simp [go_sem,seval,Dr15.c,hnl,hvl,h4,aA hil,hx,cP,aA kk,hkd0,hne0,hkd,hla,F2,hvl2,di1,nx]
   repeat first|intro _|refine ⟨eI,?_⟩
   refine bY (i+1) (by omega) ((hI0 _ _ _).2 ⟨?_,?_,?_,?_,?_,?_,?_,?_,?_,?_,(by (simp [go_sem,Dr15.c,hnl,hvl,h4,aA hil,hx,cP,aA kk,hkd0,hne0,hkd,hla,F2,hvl2,di1,nx,Qp,hkd])),?_,(by (simp [go_sem,Dr15.c,hnl,hvl,h4,aA hil,hx,cP,aA kk,hkd0,hne0,hkd,hla,F2,hvl2,di1,nx,PP,hrow,cL,dLI])),?_,(by first|assumption|omega|(simp [go_sem,Dr15.c,hnl,hvl,h4,aA hil,hx,cP,aA kk,hkd0,hne0,hkd,hla,F2,hvl2,di1,nx,h10];done)|(simp_all<;>omega)),(by first|assumption|omega|(simp [go_sem,Dr15.c,hnl,hvl,h4,aA hil,hx,cP,aA kk,hkd0,hne0,hkd,hla,F2,hvl2,di1,nx,h10];done)|(simp_all<;>omega)),(by omega),(by (exact Fe _ _ _)),(by (exact KC _ _ _))⟩)<;>first|omega|(simp [go_sem,seval,Dr15.c,hnl,hvl,h4,aA hil,hx,cP,aA kk,hkd0,hne0,hkd,hla,F2,hvl2,di1,nx]<;>omega)
 ·try simp [go_sem] at h4
  have hI:i=(if C.length=0 then 0 else min d.nodes.length 8):=by
   split
   ·rename_i h;exact hz h
   ·rename_i h
    have hq:¬ (i<d.nodes.length∧i<8):=fun hh=>h (by rw [h4 hh.1 (by omega)];rfl)
    omega
  obtain ⟨ns,hns⟩:∃ ns,A2 t d.nodes i=ns:=⟨_,rfl⟩
  rw [hns] at hnl
  try simp [go_sem,seval,Dr15.c,F0,hnl,hvl,hns]
  repeat first|intro _|refine ⟨eI,?_⟩
  obtain ⟨I4,hI4⟩:∃ I4:Nat→cY→AHeap→Prop,∀ (k:Nat) (e:cY) (H:AHeap),I4 k e H↔(∃ e4:Nat,∃ ys:List Edge,(e 2=.adr t.c)∧(e 3=.adr d.c)∧(e 4=.ptr 0 1 0 0)∧(e 5=.ptr 1 1 0 0)∧(e 13=dI i)∧(e 14=dI k)∧(H.get 0=some ⟨40,3,[[.nil,.nil,.nil]],false⟩)∧(0<H.next)∧(H.get 1=some ⟨40,3,[[.own 2 i,.own e4 ys.length,.own 3 i]],false⟩)∧(1<H.next)∧(H.get 2=some ⟨3,1,ns.map cI,false⟩)∧(2<H.next)∧(H.get 3=some ⟨34,1,(Eh t d.nodes i).map cL,false⟩)∧(3<H.next)∧(H.get e4=some ⟨101,3,ys.map Edge.c,false⟩)∧(e4<H.next)∧(k≤10)∧(k≤d.edges.length)∧(ns.length=0∨t.edges.length=0→k=0)∧(3<e4)∧(ys=Hi t ns [] d.edges k)∧(ys.length≤k)):=⟨fun k e H=>_,fun _ _ _=>Iff.rfl⟩
  refine uY (Ghosts.step (Ghosts.refl _) 1 0 1 101 3 _ _ (g1_0) rfl rfl rfl) I4 (fun k=>10 - k) (0) ((hI4 _ _ _).2 ⟨(H.next),([]),?_,?_,?_,?_,?_,?_,?_,?_,?_,?_,?_,?_,?_,?_,?_,?_,(by first|assumption|omega|(simp [go_sem,Dr15.c,F0,hnl,hvl,hns];done)|(simp_all;done)),(by first|assumption|omega|(simp [go_sem,Dr15.c,F0,hnl,hvl,hns];done)|(simp_all;done)),(by (intro _;rfl)),(by omega),(by (simp [Hi])),(by simp)⟩) ?_
  iterate 16 (first|omega|(simp [go_sem,seval,Dr15.c,F0,hnl,hvl,hns]<;>omega))
  intro k e H hi4
  obtain ⟨e4,ys,q2_4,q3_4,q4_4,q5_4,q13_4,q14_4,g0_4,n0_4,g1_4,n1_4,g2_4,n2_4,g3_4,n3_4,ge4_4,ne4_4,hk,hkd,hzz,he4,hy,hyl⟩:=(hI4 _ _ _).1 hi4
  have x0:=cG n0_4
  have x1:=cG n1_4
  have x2:=cG n2_4
  have x3:=cG n3_4
  have xe4:=cG ne4_4
  have F4:=And.intro q2_4 (And.intro q3_4 (And.intro q4_4 (And.intro q5_4 (And.intro q13_4 (And.intro q14_4 (And.intro g0_4 (And.intro g1_4 (And.intro g2_4 (And.intro g3_4 (And.intro ge4_4 (And.intro x0 (And.intro x1 (And.intro x2 (And.intro x3 xe4))))))))))))))
  have di2:=And.intro (c5 (show e4≠3 by omega)) (And.intro (c5 (show e4≠2 by omega)) (And.intro (c5 (show e4≠1 by omega)) (And.intro (c5 (show e4≠0 by omega)) (And.intro (c5 (show 3≠2 by omega)) (And.intro (c5 (show 3≠1 by omega)) (And.intro (c5 (show 3≠0 by omega)) (And.intro (c5 (show 2≠1 by omega)) (And.intro (c5 (show 2≠0 by omega)) (c5 (show 1≠0 by omega))))))))))
  try simp [go_sem,seval,Dr15.c,hnl,hvl,hns,F4,di2]
  repeat first|intro _|refine ⟨eI,?_⟩
  refine aJ (fun h16=>?_) (fun h16=>?_)
  ·try simp [go_sem] at h16
   have hkl:k<d.edges.length:=by omega
   have hE0:0<t.edges.length:=by omega
   have hn0:0<i:=by omega
   have hee0:¬t.edges=[]:=iP.1 hE0
   have hnn0:¬ns=[]:=iP.1 (by omega)
   obtain ⟨x,hx⟩:∃ x,d.edges[k]=x:=⟨_,rfl⟩
   have hgx:d.edges[k]?.getD (0,0,0)=x:=by rw [aA hkl,← hx];rfl
   have hx1:=iZ x.1
   have hx2:=iZ x.2.1
   have hx3:=iZ x.2.2
   have t1:=dJ (show 0≤(x.1.toNat:Int) by omega) (show (0:Int)<t.edges.length by omega)
   have t2:=dJ (show 0≤(x.2.1.toNat:Int) by omega) (show (0:Int)<i by omega)
   have t3:=dJ (show 0≤(x.2.2.toNat:Int) by omega) (show (0:Int)<i by omega)
   have hf:((x.2.1.toNat:Int).tmod i).toNat<ns.length:=by omega
   have hto:((x.2.2.toNat:Int).tmod i).toNat<ns.length:=by omega
   have hne0:(t.edges.length:Int)≠0:=by omega
   have hne1:(i:Int)≠0:=by omega
   have nx2:=N4 H.next
   try simp [go_sem,seval,Dr15.c,hnl,hvl,hns,F4,di2,h16,aA hkl,hx,hgx,cT3,aA hf,aA hto,hne0,hne1,nx2]
   repeat first|intro _|refine ⟨eI,?_⟩
   refine aM (uS t ht.ok _ _ _) ((by first|rfl|(simp [go_sem,← List.map_take,← List.map_drop,Dr15.c,hnl,hvl,hns,F4,di2,h16,aA hkl,hx,hgx,cT3,aA hf,aA hto,hne0,hne1,nx2];done))) ?_
   try simp [go_sem,seval,Dr15.c,hnl,hvl,hns,F4,di2,h16,aA hkl,hx,hgx,cT3,aA hf,aA hto,hne0,hne1,nx2]
   repeat first|intro _|refine ⟨eI,?_⟩
   refine aJ (fun h19=>?_) (fun h19=>?_)
   ·try simp [go_sem] at h19
    have hE:tY t ns x=[mkEd t i x]:=by unfold tY nN;rw [hnl];unfold mkEd;rw [if_pos (by simpa [aA hf,aA hto] using h19)]
    try simp [go_sem,seval,Dr15.c,hnl,hvl,hns,F4,di2,h16,aA hkl,hx,hgx,cT3,aA hf,aA hto,hne0,hne1,nx2,hE,mkEd]
    repeat first|intro _|refine ⟨eI,?_⟩
    refine bY (k+1) (by omega) ((hI4 _ _ _).2 ⟨(e4),(ys++tY t ns (d.edges[k]?.getD (0,0,0))),?_,?_,?_,?_,?_,?_,?_,?_,?_,?_,?_,?_,?_,?_,?_,?_,(by first|assumption|omega|(simp [go_sem,Dr15.c,hnl,hvl,hns,F4,di2,h16,aA hkl,hx,hgx,cT3,aA hf,aA hto,hne0,hne1,nx2,hE,mkEd,h4,h19];done)|(simp_all<;>omega)),(by first|assumption|omega|(simp [go_sem,Dr15.c,hnl,hvl,hns,F4,di2,h16,aA hkl,hx,hgx,cT3,aA hf,aA hto,hne0,hne1,nx2,hE,mkEd,h4,h19];done)|(simp_all<;>omega)),(by omega),(by omega),(by (rw [xE,← hy])),(by (rw [aG];have:=xF t ns (d.edges[k]?.getD (0,0,0));omega))⟩)<;>first|omega|(simp [go_sem,seval,Dr15.c,hnl,hvl,hns,F4,di2,h16,aA hkl,hx,hgx,cT3,aA hf,aA hto,hne0,hne1,nx2,hE,mkEd]<;>omega)
   ·try simp [go_sem] at h19
    have hE:tY t ns x=[]:=by unfold tY nN;rw [hnl];unfold mkEd;rw [if_neg (by simpa [aA hf,aA hto] using h19)]
    try simp [go_sem,seval,Dr15.c,hnl,hvl,hns,F4,di2,h16,aA hkl,hx,hgx,cT3,aA hf,aA hto,hne0,hne1,nx2,hE]
    repeat first|intro _|refine ⟨eI,?_⟩
    refine bY (k+1) (by omega) ((hI4 _ _ _).2 ⟨(e4),(ys++tY t ns (d.edges[k]?.getD (0,0,0))),?_,?_,?_,?_,?_,?_,?_,?_,?_,?_,?_,?_,?_,?_,?_,?_,(by first|assumption|omega|(simp [go_sem,Dr15.c,hnl,hvl,hns,F4,di2,h16,aA hkl,hx,hgx,cT3,aA hf,aA hto,hne0,hne1,nx2,hE,h4,h19];done)|(simp_all<;>omega)),(by first|assumption|omega|(simp [go_sem,Dr15.c,hnl,hvl,hns,F4,di2,h16,aA hkl,hx,hgx,cT3,aA hf,aA hto,hne0,hne1,nx2,hE,h4,h19];done)|(simp_all<;>omega)),(by omega),(by omega),(by (rw [xE,← hy])),(by (rw [aG];have:=xF t ns (d.edges[k]?.getD (0,0,0));omega))⟩)<;>first|omega|(simp [go_sem,seval,Dr15.c,hnl,hvl,hns,F4,di2,h16,aA hkl,hx,hgx,cT3,aA hf,aA hto,hne0,hne1,nx2,hE]<;>omega)
  ·try simp [go_sem] at h16
   have hK:k=(if ns.length=0∨t.edges.length=0 then 0 else min d.edges.length 10):=by
    split
    ·rename_i h;exact hzz h
    ·rename_i h
     have hq:¬ (k<d.edges.length∧k<10):=fun hh=>h (.inr (by rw [h16 hh.1 (by omega) (by omega)];rfl))
     omega
   have hfin:z8 t d=⟨⟨ns,ys⟩,Eh t d.nodes i⟩:=by
    unfold z8
    rw [hC,← hI,hns,← hK,hy]
   try simp [go_sem,seval,Dr15.c,hnl,hvl,hns,F4,di2]
   exact hQ _ _ (by first|(left;(simp [go_sem,Dr15.c,hnl,hvl,hns,F4,di2,hfin,Host.d,Host.c]);done)|(right;(simp [go_sem,Dr15.c,hnl,hvl,hns,F4,di2,hfin,Host.d,Host.c]);done))
attribute [go_sem] Host.d Host.c
def L2 (l:List Int):Bool:=decide (12<(l.length:Int))
def Cq (h:Host):Bool:=fewG h.graph&&decide ((h.values.length:Int)≤45)&&!(h.values.any L2)
theorem H8 (h:Host):Pure Tryz.prog 90 [h.d] (.bool (Cq h)):=by
 refine Tz.pK ⟨fun _=>false,fun _=>[]⟩ Tryz.func90 rfl (fun Q hQ=>?_)
 have Y:=wa @Host.d.eq_1 @Host.c.eq_1
 refine wo (h:=aC (yD h.graph) wl ?_)
 refine eJ (fun h1=>?_) fun h1=>?_
 ·have hF:Cq h=false:=by cases hg:fewG h.graph<;>simp [hg] at h1<;>simp [Cq,hg]<;>omega
  exact wv (h:=hQ _ _ (by simp [go_sem,hF]))
 ·have hG:fewG h.graph=true∧(h.values.length:Int)≤45:=by cases hg:fewG h.graph<;>simp [hg] at h1<;>exact ⟨rfl,by omega⟩
  refine wv (h:=bG (fun i e H=>(e 1=.adr h.c∧e 3=dI i)∧(i≤h.values.length)∧((h.values.take i).any L2=false)) (fun i=>h.values.length - i) 0 ⟨wg,wi,(by rfl)⟩ fun I0 hI0 i e H hi0=>?_)
  obtain ⟨E0,hi,ha⟩:=hi0
  have Y:=wa Y E0
  refine eJ (fun h4=>?_) fun h4=>?_
  ·have Y:=wa Y (wa h4 (wa (aA h4) @cL.eq_1))
   refine eJ (fun h6=>?_) fun h6=>?_
   ·refine wv (h:=?_)
    have hF:Cq h=false:=by
     have:h.values.any L2=true:=List.any_eq_true.2 ⟨_,aB h4,by unfold L2;simp;omega⟩
     unfold Cq;rw [this];simp
    exact hQ _ _ (by simp [go_sem,hF])
   ·exact wo (h:=wx hI0 (i+1) ⟨wg,wj,(by (rw [cC _ _ _ h4,ha];unfold L2;simp;omega))⟩)
  ·have hF:Cq h=true:=by have:=iO ha h4;unfold Cq;rw [hG.1,this,decide_eq_true hG.2];rfl
   exact wv (h:=hQ _ _ (by simp [go_sem,hF]))
def iL (t:Types)(g h:Graph):Int:=if (cW t).2≠0 then (cW t).2 else if graphF g≠0 then graphF g else if graphF h≠0 then graphF h else if (!n6 t g||!n6 t h)=true then 13 else 0
theorem rQ (t:Types)(ht:t.ok)(g h:Graph):Pure Tryz.prog 243 [t.d,g.d,h.d] (dI (iL t g h)):=by
 refine Tz.pK ⟨fun _=>false,fun _=>[]⟩ Tryz.func243 rfl (fun Q hQ=>?_)
 have Y:=trivial
 refine wv (h:=aC (kP t ht) wl ?_)
 refine d7 (fun h2=>?_) fun h2=>?_
 ·exact wv (h:=hQ _ _ (by simp [go_sem,iL,h2]))
 ·refine wv (h:=aC (i5 g) wl ?_)
  refine d7 (fun h5=>?_) fun h5=>?_
  ·exact wv (h:=hQ _ _ (by simp [go_sem,iL,h2,h5]))
  ·refine wv (h:=aC (i5 h) wl ?_)
   refine d7 (fun h8=>?_) fun h8=>?_
   ·exact wv (h:=hQ _ _ (by simp [go_sem,iL,h2,h5,h8]))
   ·refine wo (h:=aC (rR t g) wl ?_)
    refine wo (h:=aN (fun hg=>rR t h) (fun hg=>wl) ?_)
    refine eJ (fun h10=>?_) fun h10=>?_
    ·exact wv (h:=hQ _ _ (by simp [go_sem,iL,h2,h5,h8];intro hg;rcases h10 with h|h<;>simp_all))
    ·exact wv (h:=hQ _ _ (by simp [go_sem,iL,h2,h5,h8];simpa using h10))
def light17 (t:Types)(g h:Graph):Bool:=nZ t&&fewG g&&fewG h&&(decide (iL t g h≠0)||(decide ((g.nodes.length:Int)+g.edges.length≤6)&&decide ((h.nodes.length:Int)≤8)&&decide ((h.edges.length:Int)≤12)))
theorem Lu (t:Types)(ht:t.ok)(g h:Graph):Pure Tryz.prog 212 [t.d,g.d,h.d] (.bool (light17 t g h)):=by
 refine Tz.pK ⟨fun _=>false,fun _=>[]⟩ Tryz.func212 rfl (fun Q hQ=>?_)
 have ho:nZ t=true→fewG g=true→fewG h=true→iL t g h=0→PK .i64 ((g.nodes.length:Int)+g.edges.length):=fun _ hg _ _=>by simp [fewG] at hg;exact c3 (by omega) (by omega)
 have Y:=trivial
 refine wo (h:=aC (B6 t (fun n hn=>cN (ht.nodes n hn).few (by omega))) wl ?_)
 refine wo (h:=aN (fun hg=>yD g) (fun hg=>wl) ?_)
 refine wo (h:=aN (fun hg=>yD h) (fun hg=>wl) ?_)
 refine wo (h:=aN (fun hg=>rQ t ht g h) (fun hg=>wl) ?_)
 have Y:=wa Y @light17.eq_1
 exact wo (h:=hQ _ _ wy)
def light21 (t:Types)(p:Pattern)(h:Host):Bool:=fewP p&&Cq h&&light17 t p.graph h.graph
theorem Lq (t:Types)(ht:t.ok)(p:Pattern)(h:Host):Pure Tryz.prog 127 [t.d,p.d,h.d] (.bool (light21 t p h)):=by
 refine Tz.pK ⟨fun _=>false,fun _=>[]⟩ Tryz.func127 rfl (fun Q hQ=>?_)
 have Y:=wa @Host.c.eq_1 @Pattern.c.eq_1
 refine wo (h:=aC (tJ p) wl ?_)
 refine wo (h:=aN (fun hg=>H8 h) (fun hg=>wl) ?_)
 refine wo (h:=aN (fun hg=>Lu t ht p.graph h.graph) (fun hg=>wl) ?_)
 have Y:=wa Y @light21.eq_1
 exact wo (h:=hQ _ _ wy)
theorem FB (xs:List Rule)(g:FuncId)(caps:List D)(p:Rule→Bool)(hc:D.clL caps=true)(hg:∀ x∈xs,Pure Tryz.prog g (.agg x.c :: caps) (.bool (p x))) :
  Pure Tryz.prog 108 [.list (xs.map Rule.c),.fn g caps] (dI (Af xs p)):=by
 refine aP (aH (cfg:=⟨fun _=>false,fun _=>[]⟩) Tz.mixed Tryz.func108 rfl rfl (aE rfl) (by kernel_rfl) ?_)
 simp [go_sem,seval,dI,dLI]
 intro hlen
 refine eO (ι:=Nat) (fun i e H=>H=.emp∧i≤xs.length∧e 0=.list (xs.map Rule.c)∧e 1=.fn g caps∧e 7=dI xs.length∧e 8=dI i∧(∀ j x,j<i→xs[j]?=some x→p x=false)) (fun i=>xs.length - i) 0 (by simp [go_sem,seval,dI,dLI]) ?_
 intro i e H ⟨hH,hi,h0,h1,h7,h8,hn⟩
 subst hH
 simp [go_sem,seval,h0,h1,h7,h8,dI,dLI]
 refine eZ (fun hlt=>?_) (fun hge=>?_)
 ·have hgx:=hg xs[i] (aB hlt)
  simp [go_sem,seval,h0,h1,h7,h8,dI,dLI,hlt,Rule.c] at hgx ⊢
  refine aC hgx (by simp [go_sem,hc]) ?_
  simp [go_sem,seval,h0,h1,h7,h8,dI,dLI]
  refine aJ (fun h=>?_) (fun h=>?_)
  ·simp [go_sem,seval,h0,h1,h7,h8,dI,dLI]
   rw [k9 hn hlt h]
  ·simp [go_sem,seval,h0,h1,h7,h8,dI,dLI]
   refine ⟨c3 (by omega) (by omega),i+1,by omega,by omega,by omega,fun j x hj hx=>?_⟩
   rcases b8 j i with hj'|hj'
   ·exact hn j x hj' hx
   ·have:j=i:=by omega
    subst this
    rw [aA hlt] at hx
    cases hx;exact h
 ·simp [go_sem,seval,h0,h1,h7,h8,dI,dLI]
  rw [lA fun j x hj=>hn j x (by omega)]
theorem Bp (xs:List Rule)(g:FuncId)(caps:List D)(p:Rule→Bool)(hc:D.clL caps=true)(hl:D.cl (.list (xs.map Rule.c))=true)(hg:∀ x∈xs,Pure Tryz.prog g (.agg x.c :: caps) (.bool (p x))) :
  Pure Tryz.prog 46 [.list (xs.map Rule.c),.fn g caps] (.bool (xs.any p)):=by
 refine aP (aH (cfg:=⟨fun _=>false,fun _=>[]⟩) Tz.mixed Tryz.func46 rfl rfl (aE rfl) (by kernel_rfl) ?_)
 simp [go_sem,seval]
 refine aC (FB xs g caps p hc hg) (by simp only [D.clL,hl,dU];simp [D.cl,hc]) ?_
 simp [go_sem,seval,dI,mZ]
@[go_sem] theorem Wq (H:AHeap)(a b c d:Nat):gX H (.ptr a b c d)=.ptr a b c d:=rfl
@[go_sem] theorem Ux (a b c d:Nat):dO (.ptr a b c d)=[]:=rfl
@[go_sem] theorem WP (H:AHeap)(i:Nat):(H.frz i).next=H.next:=(On H i).2
@[go_sem] theorem X2 (H:AHeap)(i j:Nat):(H.frz i).get j=if j=i then (H.get i).map (fun k=>{ k with fz:=true }) else H.get j:=by
 by_cases h:j=i
 ·subst h
  unfold AHeap.frz
  cases hk:H.get j<;>simp [AHeap.put,hk]
 ·rw [if_neg h,II H i j h]
theorem MH {P:Program}{md:Nat→Bool}{ops:Array Oper}{rest:List Oper}{e:cY}{dst:Option Tmp}{K:cY→AHeap→Prop}{f:FuncId}{args args':List D}{H:AHeap}(ha:args.map Qo=args')(h:fB P md ops rest e dst K f args' H):fB P md ops rest e dst K f args H:=by
 subst ha;unfold fB at h ⊢
 exact ⟨h.1,fun M0 σ w vals hR hr=>h.2 M0 σ w vals hR ⟨by simpa using hr.len,fun j u d hu hd=>by
  rw [aR,bJ] at hd
  obtain ⟨y,hy,rfl⟩:=hd
  exact JR (hr.rep j u y hu hy)⟩⟩
structure Srch where
 t:Types
 p:Graph
 g:Graph
 pn:List Int
 pe:List Int
 inj:Bool
def Ty (y:Edge):List Int:=[y.type,y.from_,y.to_]
def Mg (l:List Int)(i k:Nat):Bool:=decide (l[i]?.getD (-1)<0)||decide (l[i]?.getD (-1)=(k:Int))
def y0 (t:Types)(a b:Int):Bool:=mem (t.line b.toNat) a
def VX (p:Graph)(ns:List Int)(i:Nat):Edge:=⟨(p.edges[i]?.getD bS).type,ns[(p.edges[i]?.getD bS).from_.toNat]?.getD 0,ns[(p.edges[i]?.getD bS).to_.toNat]?.getD 0⟩
def Hg (S:Srch)(ns:List Int)(i k:Nat):Bool:=decide (Ty (S.g.edges[k]?.getD bS)=Ty (VX S.p ns i))
def S8 (S:Srch)(l:List Int)(k:Nat):Bool:=Mg S.pn l.length k&&(!(S.inj&&mem l k)&&y0 S.t (S.p.nodes[l.length]?.getD 0) (S.g.nodes[k]?.getD 0))
def S9 (S:Srch)(ns l:List Int)(k:Nat):Bool:=Mg S.pe l.length k&&(!(S.inj&&mem l k)&&Hg S ns l.length k)
def Nx (S:Srch)(N:Nat)(ns:List Int):Nat→List Int→List Part→List Part
 | 0,l,ou=>if N≤ou.length then ou else ou++[⟨ns,l⟩]
 | d+1,l,ou=>if N≤ou.length then ou else (List.range S.g.edges.length).foldl (fun ou k=>if S9 S ns l k=true then Nx S N ns d (l++[(k:Int)]) ou else ou) ou
def Ab (S:Srch)(l:List Int)(i:Nat):Bool:=decide ((l.length:Int)≤(S.p.edges[i]?.getD bS).from_)||decide ((l.length:Int)≤(S.p.edges[i]?.getD bS).to_)||(List.range S.g.edges.length).any (Hg S l i)
def sY (S:Srch)(l:List Int):Bool:=(List.range S.p.edges.length).all (Ab S l)
def Nv (S:Srch)(N:Nat):Nat→List Int→List Part→List Part
 | 0,l,ou=>if N≤ou.length∨sY S l=false then ou else Nx S N l S.p.edges.length [] ou
 | d+1,l,ou=>if N≤ou.length∨sY S l=false then ou else (List.range S.g.nodes.length).foldl (fun ou k=>if S8 S l k=true then Nv S N d (l++[(k:Int)]) ou else ou) ou
def DR (S:Srch)(ns:List Int):Nat→List Int→List (List Int)
 | 0,l=>[l]
 | d+1,l=>((List.range S.g.edges.length).filter (S9 S ns l)).flatMap fun (k:Nat)=>DR S ns d (l++[(k:Int)])
def FV (S:Srch):Nat→List Int→List Part
 | 0,l=>(DR S l S.p.edges.length []).map fun es=>⟨l,es⟩
 | d+1,l=>((List.range S.g.nodes.length).filter (S8 S l)).flatMap fun (k:Nat)=>FV S d (l++[(k:Int)])
def CL (S:Srch):List Part:=FV S S.p.nodes.length []
theorem BM {α:Type}(N:Nat)(a b:List α):((a.take N)++b).take N=(a++b).take N:=by
 rw [yQ,yQ,List.take_take,Nat.min_self]
 congr 1
 by_cases h:a.length≤N
 ·rw [aI h]
 ·rw [aV,As (by omega)]
  rw [show N - N=0 by omega,show N - a.length=0 by omega]
theorem yI {α:Type}(N:Nat)(ok:Nat→Bool)(f:Nat→List α→List α)(x:Nat→List α)(hf:∀ k ou,ou.length≤N→f k ou=(ou++x k).take N) :
  ∀ (l:List Nat) (ou:List α),ou.length≤N→l.foldl (fun ou k=>if ok k=true then f k ou else ou) ou=(ou++(l.filter ok).flatMap x).take N
 | [],ou,h=>by simp [aI h]
 | k :: l,ou,h=>by
  rw [tD]
  by_cases hk:ok k=true
  ·rw [if_pos hk,hf k ou h,yI N ok f x hf l _ (by simp;omega),BM,mG hk,vU,List.append_assoc]
  ·rw [if_neg hk,yI N ok f x hf l _ h,mH hk]
theorem yH {α:Type}{N:Nat}{ou x:List α}(h:ou.length≤N)(h2:N≤ou.length):ou=(ou++x).take N:=by
 rw [yQ,aI h,show N - ou.length=0 by omega];simp
theorem Nw (S:Srch)(N:Nat)(ns:List Int):∀ (d:Nat) (l:List Int) (ou:List Part),ou.length≤N→Nx S N ns d l ou=(ou++(DR S ns d l).map fun es=>(⟨ns,es⟩:Part)).take N
 | 0,l,ou,h=>by
  simp only [Nx,DR]
  split
  ·rename_i h2;exact yH h h2
  ·rw [aI (by simp;omega)];rfl
 | d+1,l,ou,h=>by
  simp only [Nx,DR]
  split
  ·rename_i h2;exact yH h h2
  ·rw [yI N (S9 S ns l) (fun k ou=>Nx S N ns d (l++[(k:Int)]) ou) (fun k=>(DR S ns d (l++[(k:Int)])).map fun es=>(⟨ns,es⟩:Part)) (fun k ou ho=>Nw S N ns d _ ou ho) _ _ h,List.map_flatMap]
theorem Mm {S:Srch}{ns:List Int}:∀ (d:Nat) (l es:List Int),es∈DR S ns d l→∀ i,l.length≤i→i<l.length+d→∃ k,k<S.g.edges.length∧Mg S.pe i k=true∧Hg S ns i k=true
 | 0,l,es,_,i,h1,h2=>by omega
 | d+1,l,es,h,i,h1,h2=>by
  simp only [DR,bU,cO,aZ] at h
  obtain ⟨k,⟨hk,ho⟩,hr⟩:=h
  by_cases hi:i=l.length
  ·simp only [S9,aL] at ho
   exact ⟨k,hk,hi ▸ ho.1,hi ▸ ho.2.2⟩
  ·exact Mm d _ es hr i (by simp;omega) (by simp;omega)
theorem Bj {S:Srch}:∀ (d:Nat) (l:List Int) (m:Part),m∈FV S d l→(∃ r,m.nodes=l++r)∧m.edges∈DR S m.nodes S.p.edges.length []
 | 0,l,m,h=>by
  simp only [FV,aU] at h
  obtain ⟨es,he,rfl⟩:=h
  exact ⟨⟨[],by simp⟩,he⟩
 | d+1,l,m,h=>by
  simp only [FV,bU,cO,aZ] at h
  obtain ⟨k,_,hr⟩:=h
  obtain ⟨⟨r,hr1⟩,hr2⟩:=Bj d _ m hr
  exact ⟨⟨(k:Int) :: r,by rw [hr1];simp⟩,hr2⟩
theorem Tx {p:Graph}{l r:List Int}{i:Nat}(h1:(p.edges[i]?.getD bS).from_.toNat<l.length)(h2:(p.edges[i]?.getD bS).to_.toNat<l.length):VX p (l++r) i=VX p l i:=by
 unfold VX
 rw [bA h1,bA h2]
theorem FU {S:Srch}(hp:graphF S.p=0)(d:Nat)(l:List Int)(h:sY S l=false):FV S d l=[]:=by
 rw [List.eq_nil_iff_forall_not_mem]
 intro m hm
 obtain ⟨⟨r,hr⟩,he⟩:=Bj d l m hm
 simp only [sY,Eb,aZ] at h
 obtain ⟨i,hi,hk⟩:=h
 have hx:=((eP hp).2 _ (aB hi)).2
 simp only [Ab,aA hi,aD,bT,decide_eq_true_eq,not_or,List.any_eq_true,aZ,not_exists,not_and,vW] at hk
 obtain ⟨⟨k1,k2⟩,k3⟩:=hk
 obtain ⟨k,a1,a2,a3⟩:=Mm _ _ _ he i (dY _) (by simpa using hi)
 apply k3 k a1
 unfold Hg at a3 ⊢
 rw [hr,Tx (by rw [aA hi,aD];omega) (by rw [aA hi,aD];omega)] at a3
 exact a3
theorem Nu {S:Srch}(hp:graphF S.p=0)(N:Nat):∀ (d:Nat) (l:List Int) (ou:List Part),ou.length≤N→Nv S N d l ou=(ou++FV S d l).take N
 | 0,l,ou,h=>by
  simp only [Nv]
  split
  ·rename_i h2
   rcases h2 with h2|h2
   ·exact yH h h2
   ·rw [FU hp 0 l h2,fE,aI h]
  ·rw [Nw S N l _ _ _ h];rfl
 | d+1,l,ou,h=>by
  simp only [Nv]
  split
  ·rename_i h2
   rcases h2 with h2|h2
   ·exact yH h h2
   ·rw [FU hp _ l h2,fE,aI h]
  ·rw [yI N (S8 S l) (fun k ou=>Nv S N d (l++[(k:Int)]) ou) (fun k=>FV S d (l++[(k:Int)])) (fun k ou ho=>Nu hp N d _ ou ho) _ _ h];rfl
theorem Jr (S:Srch){N:Nat}(ns:List Int)(d:Nat)(l:List Int){ou:List Part}(h:ou.length≤N):(Nx S N ns d l ou).length≤N:=by
 rw [Nw S N ns d l ou h];exact List.length_take_le _ _
theorem Rt {S:Srch}(hp:graphF S.p=0){N:Nat}(d:Nat)(l:List Int){ou:List Part}(h:ou.length≤N):(Nv S N d l ou).length≤N:=by
 rw [Nu hp N d l ou h];exact List.length_take_le _ _
theorem Ru {S:Srch}{N:Nat}(ns:List Int)(d:Nat)(l:List Int){ou:List Part}(h:N≤ou.length):Nx S N ns d l ou=ou:=by cases d<;>simp only [Nx,if_pos h]
def JV (l:List Attr)(vs:List Int)(k:Nat):Int:=if vs[k]?.getD 0<(l[k]?.getD mK).low∨(l[k]?.getD mK).high<vs[k]?.getD 0 then 6 else 0
def jX (t:Types)(kind:Int)(vs:List Int):Int :=
 if (t.nodes.length:Int)≤kind then 6 else if nB t kind.toNat=true then 13 else if vs.length≠(b7 t kind).length then 20 else b9 (JV (b7 t kind) vs) 0 (b7 t kind).length
theorem NS (t:Types)(ht:t.ok)(kind:Int)(hk:0≤kind)(vs:List Int):Pure Tryz.prog 242 [t.d,dI kind,dLI vs] (dI (jX t kind vs)):=by
 refine Tz.pK ⟨fun _=>false,fun _=>[]⟩ Tryz.func242 rfl (fun Q hQ=>?_)
 have Y:=trivial
 refine wv (h:=?_)
 repeat first|intro _|refine ⟨d8,?_⟩
 refine wq (fun h1=>?_) fun h1=>?_
 ·have hE:jX t kind vs=6:=by unfold jX;rw [if_pos (by omega)]
  exact wv (h:=hQ _ _ (by simp [go_sem,hE]))
 ·have hkn:kind.toNat<t.nodes.length:=by omega
  have hA:nB t kind.toNat=t.nodes[kind.toNat].abs:=by simp [nB,aA hkn]
  have hE0:jX t kind vs=if nB t kind.toNat=true then 13 else if vs.length≠(b7 t kind).length then 20 else b9 (JV (b7 t kind) vs) 0 (b7 t kind).length:=by unfold jX;rw [if_neg (by omega)]
  rw [hA] at hE0
  have Y:=wa Y (wa (aA hkn) @NodeTy.c.eq_1)
  refine wv (h:=?_)
  repeat first|intro _|refine ⟨d8,?_⟩
  refine wq (fun h3=>?_) fun h3=>?_
  ·rw [if_pos (by simpa using h3)] at hE0
   exact wv (h:=hQ _ _ (by simp [go_sem,hE0]))
  ·rw [if_neg (by simpa using h3)] at hE0
   refine wv (h:=aC (jP t ht kind) wl ?_)
   refine wv (h:=?_)
   repeat first|intro _|refine ⟨d8,?_⟩
   refine wq (fun h6=>?_) fun h6=>?_
   ·rw [if_pos (by omega)] at hE0
    exact wv (h:=hQ _ _ (by simp [go_sem,hE0]))
   ·rw [if_neg (by omega)] at hE0
    have hln:vs.length=(b7 t kind).length:=by omega
    refine wv (h:=bG (fun k e H=>(e 3=.adr t.c∧e 2=dLI vs∧e 7=.list ((b7 t kind).map Attr.c)∧e 9=dI k)∧(k≤(b7 t kind).length)∧(b9 (JV (b7 t kind) vs) k ((b7 t kind).length - k)=jX t kind vs)) (fun k=>(b7 t kind).length - k) 0 ⟨wg,wi,(by exact hE0.symm)⟩ fun I0 hI0 k e H hi0=>?_)
    obtain ⟨E0,hkl,hF⟩:=hi0
    have Y:=wa Y E0
    refine wv (h:=?_)
    repeat first|intro _|refine ⟨d8,?_⟩
    refine wq (fun h9=>?_) fun h9=>?_
    ·have hv:k<vs.length:=by omega
     have hst:=fN (JV (b7 t kind) vs) h9
     rw [hF] at hst
     have hLE:JV (b7 t kind) vs k=if vs[k]<(b7 t kind)[k].low∨(b7 t kind)[k].high<vs[k] then 6 else 0:=by simp only [JV,aA hv,aA h9,aD]
     have Y:=wa Y (wa h9 (wa (aA hv) (wa (aA h9) @Attr.c.eq_1)))
     refine wv (h:=?_)
     repeat first|intro _|refine ⟨d8,?_⟩
     refine wq (fun h11=>?_) fun h11=>?_
     ·rw [if_pos (by omega)] at hLE
      rw [hLE,if_pos (by omega)] at hst
      exact wv (h:=hQ _ _ (by simp [go_sem,hst]))
     ·rw [if_neg (by omega)] at hLE
      rw [hLE,if_neg (by omega)] at hst
      exact wo (h:=wx hI0 (k+1) ⟨wg,wj,(by exact hst.symm)⟩)
    ·have hZ:jX t kind vs=0:=by rw [← hF,show (b7 t kind).length - k=0 by omega];rfl
     exact wv (h:=hQ _ _ (by simp [go_sem,hZ]))
def jI (f:Nat→Int):Nat→Nat→Int × Int
 | k,0=>(-1,0)
 | k,n+1=>if f k≠0 then ((k:Int),f k) else jI f (k+1) n
theorem Bh (f:Nat→Int){k n:Nat}(h:k<n):jI f k (n - k)=if f k≠0 then ((k:Int),f k) else jI f (k+1) (n - (k+1)):=by
 obtain ⟨m,hm⟩:∃ m,n - k=m+1:=⟨n - k - 1,by omega⟩
 rw [hm,show n - (k+1)=m by omega];rfl
theorem sC (f:Nat→Int):∀ n k,(jI f k n).2=b9 f k n
 | 0,k=>rfl
 | n+1,k=>by simp only [jI,b9];split<;>simp_all [sC f n]
def Ok (t:Types)(h:Host)(i:Nat):Int:=jX t (h.graph.nodes[i]?.getD 0) (h.values[i]?.getD [])
def T8 (t:Types)(h:Host)(i:Nat):Int:=if (t.edges.length:Int)≤(h.graph.edges[i]?.getD bS).type then 6 else
 if l9 t (h.graph.edges[i]?.getD bS).type (gN h.graph (h.graph.edges[i]?.getD bS).from_) (gN h.graph (h.graph.edges[i]?.getD bS).to_)=true then 0 else 13
def vM (t:Types)(h:Host):Int × Int :=
 if (cW t).2≠0 then (-1,(cW t).2) else if graphF h.graph≠0 then (-1,graphF h.graph) else if h.values.length≠h.graph.nodes.length then (-1,20)
 else if (jI (Ok t h) 0 h.graph.nodes.length).2≠0 then jI (Ok t h) 0 h.graph.nodes.length else jI (T8 t h) 0 h.graph.edges.length
def lH (t:Types)(h:Host):Int:=(vM t h).2
theorem wU (t:Types)(ht:t.ok)(h:Host):Pure Tryz.prog 145 [t.d,h.d] (.tup [dI (vM t h).1,dI (vM t h).2]):=by
 refine Tz.pK ⟨fun t=>t==12,fun _=>[]⟩ Tryz.func145 rfl (fun Q hQ=>?_)
 have Y:=wa @Host.d.eq_1 @Host.c.eq_1
 refine wv (h:=aC (kP t ht) wl ?_)
 refine d7 (fun h2=>?_) fun h2=>?_
 ·have hE:vM t h=(-1,(cW t).2):=by unfold vM;rw [if_pos (by simpa using h2)]
  exact wv (h:=hQ _ _ (by simp [go_sem,hE]))
 ·have hE0:vM t h=if graphF h.graph≠0 then (-1,graphF h.graph) else if h.values.length≠h.graph.nodes.length then (-1,20) else if (jI (Ok t h) 0 h.graph.nodes.length).2≠0 then jI (Ok t h) 0 h.graph.nodes.length else jI (T8 t h) 0 h.graph.edges.length:=by unfold vM;rw [if_neg (by simpa using h2)]
  refine wv (h:=aC (i5 h.graph) wl ?_)
  refine d7 (fun h5=>?_) fun h5=>?_
  ·rw [if_pos (by simpa using h5)] at hE0
   exact wv (h:=hQ _ _ (by simp [go_sem,hE0]))
  ·rw [if_neg (by simpa using h5)] at hE0
   have hg0:graphF h.graph=0:=by simpa using h5
   have hgi:=eP hg0
   have hgl:=bZ hg0
   refine eJ (fun h7=>?_) fun h7=>?_
   ·rw [if_pos (by omega)] at hE0
    exact wv (h:=hQ _ _ (by simp [go_sem,hE0]))
   ·rw [if_neg (by omega)] at hE0
    refine wv (h:=bG (fun i e H=>(e 2=.adr t.c∧e 3=.adr h.c∧e 9=dI i)∧(i≤h.graph.nodes.length)∧(jI (Ok t h) i (h.graph.nodes.length - i)=jI (Ok t h) 0 h.graph.nodes.length)) (fun i=>h.graph.nodes.length - i) 0 ⟨wg,wi,(by rfl)⟩ fun I0 hI0 i e H hi0=>?_)
    obtain ⟨E0,hi,hF⟩:=hi0
    have Y:=wa Y E0
    refine eJ (fun h10=>?_) fun h10=>?_
    ·have hv:i<h.values.length:=by omega
     have hn0:0≤h.graph.nodes[i]:=(hgi.1 _ (aB h10)).1
     have hst:=Bh (Ok t h) h10
     rw [hF] at hst
     have hNE:Ok t h i=jX t h.graph.nodes[i] h.values[i]:=by simp only [Ok,aA hv,aA h10,aD]
     have Y:=wa Y (wa h10 (wa (aA hv) (wa (aA h10) @cL.eq_1)))
     refine wo (h:=aM (NS t ht h.graph.nodes[i] hn0 h.values[i]) wl ?_)
     refine eJ (fun h13=>?_) fun h13=>?_
     ·rw [hNE,if_pos (by simpa using h13)] at hst
      rw [hst,if_pos (by simpa using h13)] at hE0
      exact wv (h:=hQ _ _ (by simp [go_sem,hE0]))
     ·rw [hNE,if_neg (by simpa using h13)] at hst
      exact wo (h:=wx hI0 (i+1) ⟨wg,wj,(by exact hst.symm)⟩)
    ·have hN0:jI (Ok t h) 0 h.graph.nodes.length=(-1,0):=by rw [← hF,show h.graph.nodes.length - i=0 by omega];rfl
     rw [hN0,if_neg (by simp)] at hE0
     refine wv (h:=bG (fun j e H=>(e 2=.adr t.c∧e 3=.adr h.c∧e 11=dI j)∧(j≤h.graph.edges.length)∧(jI (T8 t h) j (h.graph.edges.length - j)=vM t h)) (fun j=>h.graph.edges.length - j) 0 ⟨wg,wi,(by exact hE0.symm)⟩ fun I2 hI2 j e H hi2=>?_)
     obtain ⟨E2,hj,hG⟩:=hi2
     have Y:=wa Y E2
     refine eJ (fun h16=>?_) fun h16=>?_
     ·obtain ⟨x,hx⟩:∃ x,x=h.graph.edges[j]:=⟨_,rfl⟩
      have hxi:=(hgi.2 _ (aB h16)).2
      rw [← hx] at hxi
      have hxf:x.from_.toNat<h.graph.nodes.length:=by omega
      have hxt:x.to_.toNat<h.graph.nodes.length:=by omega
      have hst:=Bh (T8 t h) h16
      rw [hG] at hst
      have hEE:T8 t h j=if (t.edges.length:Int)≤x.type then 6 else if l9 t x.type h.graph.nodes[x.from_.toNat] h.graph.nodes[x.to_.toNat]=true then 0 else 13:=by simp only [T8,gN,aA h16,aD,← hx,aA hxf,aA hxt]
      have Y:=wa Y (wa h16 (wa (aA h16) (wa (Eq.symm hx) (wa (aA hxf) (aA hxt)))))
      refine eJ (fun h19=>?_) fun h19=>?_
      ·rw [if_pos (by omega)] at hEE
       rw [hEE,if_pos (by omega)] at hst
       exact wv (h:=hQ _ _ (by simp [go_sem,hst]))
      ·rw [if_neg (by omega)] at hEE
       refine wo (h:=aM (uS t ht x.type h.graph.nodes[x.from_.toNat] h.graph.nodes[x.to_.toNat]) wl ?_)
       refine eJ (fun h21=>?_) fun h21=>?_
       ·rw [if_neg (by simpa using h21)] at hEE
        rw [hEE,if_pos (by omega)] at hst
        exact wv (h:=hQ _ _ (by simp [go_sem,hst]))
       ·rw [if_pos (by simpa using h21)] at hEE
        rw [hEE,if_neg (by omega)] at hst
        exact wo (h:=wx hI2 (j+1) ⟨wg,wj,(by exact hst.symm)⟩)
     ·have hZ:vM t h=(-1,0):=by rw [← hG,show h.graph.edges.length - j=0 by omega];rfl
      exact wv (h:=hQ _ _ (by simp [go_sem,hZ]))
theorem wS (l:List Int):Pure Tryz.prog 347 [dLI l] (.bool (decide l.Nodup)):=by
 refine Tz.pK ⟨fun _=>false,fun _=>[]⟩ Tryz.func347 rfl (fun Q hQ=>?_)
 have Y:=trivial
 refine wv (h:=bG (fun i e H=>(e 0=dLI l∧e 3=dI i)∧(i≤l.length)∧((l.take i).Nodup)) (fun i=>l.length - i) 0 ⟨wg,wi,(by (simp))⟩ fun I0 hI0 i e H hi0=>?_)
 obtain ⟨E0,hi,hD⟩:=hi0
 have Y:=wa Y E0
 refine wv (h:=?_)
 repeat first|intro _|refine ⟨d8,?_⟩
 refine wq (fun h2=>?_) fun h2=>?_
 ·have Y:=wa Y (wa h2 (aA h2))
  refine wv (h:=bG (fun k e H=>(e 0=dLI l∧e 3=dI i∧e 4=dI k)∧(k≤i)∧(∀ j,j<k→∀ hj:j<l.length,l[j]≠l[i])) (fun k=>i - k) 0 ⟨wg,wi,(by (intro j hj;omega))⟩ fun I2 hI2 k e H hi2=>?_)
  obtain ⟨E2,hk,hne⟩:=hi2
  have Y:=wa Y E2
  refine d7 (fun h5=>?_) fun h5=>?_
  ·have hkl:k<l.length:=by omega
   have Y:=wa Y (wa h5 (aA hkl))
   refine wv (h:=?_)
   repeat first|intro _|refine ⟨d8,?_⟩
   refine wq (fun h7=>?_) fun h7=>?_
   ·have hnd:¬ l.Nodup:=fun hN=>by
     have:=(rE (h₀:=h2) (h₁:=hkl) hN).1 h7
     omega
    exact wv (h:=hQ _ _ (by simp [go_sem,hnd]))
   ·exact wo (h:=wx hI2 (k+1) ⟨wg,wj,(by (intro j hj hjl;rcases b8 j k with hjk|hjk;exact hne j hjk hjl;(obtain rfl:j=k:=(by omega);exact fun he=>h7 he.symm)))⟩)
  ·have hD2:(l.take (i+1)).Nodup:=by
    rw [aF h2,vT]
    refine ⟨hD,by simp,fun a ha b hb=>?_⟩
    rw [cH] at hb;subst hb
    obtain ⟨j,hj,rfl⟩:=DC.1 ha
    exact hne j (by omega) _
   exact wo (h:=wx hI0 (i+1) ⟨wg,wj,(by exact hD2)⟩)
 ·have hN:l.Nodup:=by rw [aI (by omega)] at hD;exact hD
  exact wv (h:=hQ _ _ (by simp [go_sem,hN]))
structure G17 (t:Types) (p g:Graph):Prop where
 v:t.valid
 gp:graphF p=0
 gg:graphF g=0
 tp:∀ a∈p.nodes,0≤a∧a<t.nodes.length
 tg:∀ a∈g.nodes,0≤a∧a<t.nodes.length
theorem El {t:Types}{g:Graph}(h:n6 t g=true):∀ a∈g.nodes,0≤a∧a<t.nodes.length:=fun a ha=>by
 simp only [n6,aL,cV,fU,insideF,Bool.not_eq_true,Bool.not_eq_false',decide_eq_true_eq] at h
 have:=h.1 a ha
 simpa using this
theorem u0 {t:Types}{p g:Graph}(h:iL t p g=0):G17 t p g:=by
 unfold iL at h
 split at h
 ·exact absurd h (by assumption)
 ·rename_i h1
  split at h
  ·exact absurd h (by assumption)
  ·rename_i h2
   split at h
   ·exact absurd h (by assumption)
   ·rename_i h3
    split at h
    ·cases h
    ·rename_i h4
     simp only [bT,cV,not_or,Bool.not_eq_false] at h4
     exact ⟨fF (by simpa using h1),by simpa using h2,by simpa using h3,El h4.1,El h4.2⟩
def Re (t:Types)(p g:Graph)(m:Part)(i:Nat):Int :=
 if m.nodes[i]?.getD 0<0∨(g.nodes.length:Int)≤m.nodes[i]?.getD 0 then 6
 else if y0 t (p.nodes[i]?.getD 0) (g.nodes[(m.nodes[i]?.getD 0).toNat]?.getD 0)=true then 0 else 13
def qP (t:Types)(p g:Graph)(m:Part)(inj:Bool):Int :=
 if m.nodes.length≠p.nodes.length∨m.edges.length≠p.edges.length then 20
 else if b9 (Re t p g m) 0 p.nodes.length≠0 then b9 (Re t p g m) 0 p.nodes.length
 else if b9 (jL p g m) 0 p.edges.length≠0 then b9 (jL p g m) 0 p.edges.length
 else if inj=true∧(¬ m.nodes.Nodup∨¬ m.edges.Nodup) then 5 else 0
def m9 (t:Types)(p g:Graph)(m:Part)(inj:Bool):Int:=if iL t p g≠0 then iL t p g else qP t p g m inj
theorem zC (t:Types)(hv:t.valid)(a b:Int)(h0:0≤a)(h1:a<t.nodes.length)(hb:0≤b):Pure Tryz.prog 192 [t.d,dI a,dI b] (.bool (y0 t b a)):=by
 have:=pL t hv b hb a.toNat (by omega)
 rw [Int.toNat_of_nonneg h0] at this;exact this
theorem Ls (t:Types)(p g:Graph)(hG:G17 t p g)(m:Part)(inj:Bool):Pure Tryz.prog 264 [t.d,p.d,g.d,m.d,.bool inj] (dI (qP t p g m inj)):=by
 have hga:=bZ hG.gp
 have hgb:=bZ hG.gg
 have hia:=(eP hG.gp).2
 refine Tz.pK ⟨fun t=>t==13||t==14,fun r=>match r with|15=>[(0,14),(1,14),(3,14),(4,14),(5,14),(6,14),(7,14),(8,14),(10,14),(11,14),(12,14),(13,14),(0,15),(1,15),(3,15),(4,15),(5,15),(6,15),(7,15),(8,15),(10,15),(11,15),(12,15),(13,15),(14,15),(5,16),(6,16),(7,16),(8,16),(10,16),(11,16),(12,16),(13,16)]|_=>[]⟩ Tryz.func264 rfl (fun Q hQ=>?_)
 have Y:=trivial
 refine eJ (fun h1=>?_) fun h1=>?_
 ·have hM:qP t p g m inj=20:=by unfold qP;rw [if_pos (by omega)]
  exact wv (h:=hQ _ _ (by simp [go_sem,hM]))
 ·have hM:qP t p g m inj=(if b9 (Re t p g m) 0 p.nodes.length≠0 then b9 (Re t p g m) 0 p.nodes.length else if b9 (jL p g m) 0 p.edges.length≠0 then b9 (jL p g m) 0 p.edges.length else if inj=true∧(¬ m.nodes.Nodup∨¬ m.edges.Nodup) then 5 else 0):=by unfold qP;rw [if_neg (by omega)]
  have hl1:m.nodes.length=p.nodes.length:=by omega
  have hl2:m.edges.length=p.edges.length:=by omega
  refine wv (h:=bG (fun i e H=>(e 5=.adr t.c∧e 6=.adr p.c∧e 7=.adr g.c∧e 8=.adr m.c∧e 4=.bool inj∧e 11=dI i)∧(i≤m.nodes.length)∧(b9 (Re t p g m) i (p.nodes.length - i)=b9 (Re t p g m) 0 p.nodes.length)) (fun i=>m.nodes.length - i) 0 ⟨wg,wi,(by rfl)⟩ fun I0 hI0 i e H hi0=>?_)
  obtain ⟨E0,hi,hF⟩:=hi0
  have Y:=wa Y E0
  refine eJ (fun h4=>?_) fun h4=>?_
  ·have hn:i<p.nodes.length:=by omega
   have hst:=fN (Re t p g m) hn
   rw [hF] at hst
   have hNE:Re t p g m i=(if m.nodes[i]<0∨(g.nodes.length:Int)≤m.nodes[i] then 6 else if y0 t p.nodes[i] (g.nodes[m.nodes[i].toNat]?.getD 0)=true then 0 else 13):=by simp only [Re,aA h4,aA hn,aD]
   have hbp:=hG.tp _ (aB hn)
   have Y:=wa Y (wa h4 (wa (aA h4) (aA hn)))
   refine eJ (fun h6=>?_) fun h6=>?_
   ·rw [if_pos (by omega)] at hNE
    rw [hNE,if_pos (by omega)] at hst
    rw [hst,if_pos (by omega)] at hM
    exact wv (h:=hQ _ _ (by simp [go_sem,hM]))
   ·have hkb:m.nodes[i].toNat<g.nodes.length:=by omega
    rw [if_neg (by omega),aA hkb,aD] at hNE
    have hbg:=hG.tg _ (aB hkb)
    have Y:=wa Y (aA hkb)
    refine wo (h:=aM ((zC t hG.v g.nodes[m.nodes[i].toNat] p.nodes[i] hbg.1 hbg.2 hbp.1)) wl ?_)
    refine eJ (fun h8=>?_) fun h8=>?_
    ·rw [if_neg (by simpa using h8)] at hNE
     rw [hNE,if_pos (by omega)] at hst
     rw [hst,if_pos (by omega)] at hM
     exact wv (h:=hQ _ _ (by simp [go_sem,hM]))
    ·rw [if_pos (by simpa using h8)] at hNE
     rw [hNE,if_neg (by omega)] at hst
     exact wo (h:=wx hI0 (i+1) ⟨wg,wj,(by exact hst.symm)⟩)
  ·have hN0:b9 (Re t p g m) 0 p.nodes.length=0:=by rw [← hF,show p.nodes.length - i=0 by omega];rfl
   rw [hN0,if_neg (by omega)] at hM
   refine wv (h:=bG (fun k e H=>(e 5=.adr t.c∧e 6=.adr p.c∧e 7=.adr g.c∧e 8=.adr m.c∧e 4=.bool inj∧e 12=dI k)∧(k≤m.edges.length)∧(b9 (jL p g m) k (p.edges.length - k)=b9 (jL p g m) 0 p.edges.length)) (fun k=>m.edges.length - k) 0 ⟨wg,wi,(by rfl)⟩ fun I2 hI2 k e H hi2=>?_)
   obtain ⟨E2,hk,hE⟩:=hi2
   have Y:=wa Y E2
   refine eJ (fun h11=>?_) fun h11=>?_
   ·have hn:k<p.edges.length:=by omega
    have hst:=fN (jL p g m) hn
    rw [hE] at hst
    have hx:=hia _ (aB hn)
    have hxf:p.edges[k].from_.toNat<m.nodes.length:=by omega
    have hxt:p.edges[k].to_.toNat<m.nodes.length:=by omega
    have hEE:jL p g m k=(if m.edges[k]<0∨(g.edges.length:Int)≤m.edges[k] then 6 else if p.edges[k].type≠(g.edges[m.edges[k].toNat]?.getD bS).type then 13 else if m.nodes[p.edges[k].from_.toNat]≠(g.edges[m.edges[k].toNat]?.getD bS).from_∨m.nodes[p.edges[k].to_.toNat]≠(g.edges[m.edges[k].toNat]?.getD bS).to_ then 11 else 0):=by
     simp only [jL,aA h11,aA hn,aD,aA hxf,aA hxt]
    have Y:=wa Y (wa h11 (wa (aA h11) (wa (aA hn) (wa (aA hxf) (aA hxt)))))
    refine eJ (fun h13=>?_) fun h13=>?_
    ·rw [if_pos (by omega)] at hEE
     rw [hEE,if_pos (by omega)] at hst
     rw [hst,if_pos (by omega)] at hM
     exact wv (h:=hQ _ _ (by simp [go_sem,hM]))
    ·have hkb:m.edges[k].toNat<g.edges.length:=by omega
     rw [if_neg (by omega),aA hkb,aD] at hEE
     have Y:=wa Y (aA hkb)
     refine eJ (fun h16=>?_) fun h16=>?_
     ·rw [if_pos h16] at hEE
      rw [hEE,if_pos (by omega)] at hst
      rw [hst,if_pos (by omega)] at hM
      exact wv (h:=hQ _ _ (by simp [go_sem,hM]))
     ·rw [if_neg (by simpa using h16)] at hEE
      refine eJ (fun h18=>?_) fun h18=>?_
      ·rw [if_pos (by omega)] at hEE
       rw [hEE,if_pos (by omega)] at hst
       rw [hst,if_pos (by omega)] at hM
       exact wv (h:=hQ _ _ (by simp [go_sem,hM]))
      ·rw [if_neg (by omega)] at hEE
       rw [hEE,if_neg (by omega)] at hst
       exact wo (h:=wx hI2 (k+1) ⟨wg,wj,(by exact hst.symm)⟩)
   ·have hE0:b9 (jL p g m) 0 p.edges.length=0:=by rw [← hE,show p.edges.length - k=0 by omega];rfl
    rw [hE0,if_neg (by omega)] at hM
    refine wo (h:=aN (fun hg=>wS m.nodes) (fun hg=>wl) ?_)
    refine wo (h:=aN (fun hg=>wS m.edges) (fun hg=>wl) ?_)
    refine eJ (fun h20=>?_) fun h20=>?_
    ·rw [if_pos (by simpa [Classical.or_iff_not_imp_left] using h20)] at hM
     exact wv (h:=hQ _ _ (by simp [go_sem,hM]))
    ·rw [if_neg (by simpa [Classical.or_iff_not_imp_left] using h20)] at hM
     exact wv (h:=hQ _ _ (by simp [go_sem,hM]))
theorem wT (t:Types)(ht:t.ok)(p g:Graph)(m:Part)(inj:Bool):Pure Tryz.prog 166 [t.d,p.d,g.d,m.d,.bool inj] (dI (m9 t p g m inj)):=by
 refine Tz.pK ⟨fun _=>false,fun _=>[]⟩ Tryz.func166 rfl (fun Q hQ=>?_)
 have Y:=trivial
 refine wv (h:=aC (rQ t ht p g) wl ?_)
 refine d7 (fun h2=>?_) fun h2=>?_
 ·exact wv (h:=hQ _ _ (by simp [go_sem,m9,h2]))
 ·refine wv (h:=aC (Ls t p g (u0 (by simpa using h2)) m inj) wl ?_)
  exact wv (h:=hQ _ _ (by simp [go_sem,m9,h2]))
/-! ### the search -/
def Srch.cells (S:Srch)(most:Int)(fd:D):List D:=[.list (S.t.nodes.map NodeTy.c),.list (S.t.edges.map EdgeTy.c),dLI S.p.nodes,.list (S.p.edges.map Edge.c),dLI S.g.nodes,.list (S.g.edges.map Edge.c),dLI S.pn,dLI S.pe,.bool S.inj,dI most,fd]
theorem EM (S:Srch)(most:Int)(fd:D)(hfd:fd.cl=true)(l:List Int)(n:Int):Pure Tryz.prog 392 [.adr (S.cells most fd),dLI l,dI n] (.bool (S.inj&&mem l n)):=by
 refine Tz.pK ⟨fun _=>false,fun _=>[]⟩ Tryz.func392 rfl (fun Q hQ=>?_)
 have hcl:∀ b:Bool,D.clL (S.cells most fd)=true:=fun _=>by simp [go_sem,Srch.cells,hfd]
 have Y:=@Srch.cells.eq_1
 refine wv (h:=bG (fun i e H=>(e 0=.adr (S.cells most fd)∧e 1=dLI l∧e 2=dI n∧e 7=dI i)∧(i≤l.length)∧(∀ j,j<i→∀ hj:j<l.length,l[j]≠n)) (fun i=>l.length - i) 0 ⟨wg,wi,(by (intro j hj;omega))⟩ fun I0 hI0 i e H hi0=>?_)
 obtain ⟨E0,hi,hN⟩:=hi0
 have Y:=wa Y E0
 refine wv (h:=?_)
 repeat first|intro _|refine ⟨d8,?_⟩
 refine wq (fun h2=>?_) fun h2=>?_
 ·have hil:i<l.length:=h2.1
  have Y:=wa Y (wa h2 (aA hil))
  refine wv (h:=?_)
  repeat first|intro _|refine ⟨d8,?_⟩
  refine wq (fun h4=>?_) fun h4=>?_
  ·have hm:mem l n=true:=(dM _ _).2 (h4 ▸ aB hil)
   have hI:S.inj=true:=h2.2
   exact wv (h:=hQ _ _ (by simp [go_sem,hm,hI]))
  ·exact wo (h:=wx hI0 (i+1) ⟨wg,wj,(by (intro j hj hjl;rcases b8 j i with hji|hji;exact hN j hji hjl;(obtain rfl:j=i:=(by omega);exact h4)))⟩)
 ·have hR:(S.inj&&mem l n)=false:=by
   cases hI:S.inj
   ·rfl
   ·simp [hI] at h2
    rw [dU,bO]
    intro hm
    obtain ⟨j,hj,he⟩:=aT ((dM _ _).1 hm)
    exact hN j (by omega) hj he
  exact wv (h:=hQ _ _ (by simp [go_sem,hR]))
theorem JY (a b:Int):(a==b)=decide (a=b):=by rw [aY];simp
theorem Gu (f:Nat→Bool)(k:Nat):(List.range (k+1)).any f=((List.range k).any f||f k):=by rw [bL,oG];simp
theorem NQ (S:Srch)(hp:graphF S.p=0)(hg:graphF S.g=0)(most:Int)(fd:D)(hfd:fd.cl=true)(l:List Int):Pure Tryz.prog 390 [.adr (S.cells most fd),dLI l] (.bool (sY S l)):=by
 have hpi:=(eP hp).2
 have hla:=bZ hp
 have hlb:=bZ hg
 refine Tz.pK ⟨fun t=>t==6||t==9,fun _=>[]⟩ Tryz.func390 rfl (fun Q hQ=>?_)
 have Y:=@Srch.cells.eq_1
 refine wv (h:=bG (fun i e H=>(e 0=.adr (S.cells most fd)∧e 1=dLI l∧e 5=dI i)∧(i≤S.p.edges.length)∧(∀ j,j<i→Ab S l j=true)) (fun i=>S.p.edges.length - i) 0 ⟨wg,wi,(by (intro j hj;omega))⟩ fun I0 hI0 i e H hi0=>?_)
 obtain ⟨E0,hi,hK⟩:=hi0
 have Y:=wa Y E0
 refine eJ (fun h2=>?_) fun h2=>?_
 ·obtain ⟨x,hx⟩:∃ x,x=S.p.edges[i]:=⟨_,rfl⟩
  have hxi:=(hpi _ (aB h2)).2
  rw [← hx] at hxi
  have hKe:Ab S l i=(decide ((l.length:Int)≤x.from_)||decide ((l.length:Int)≤x.to_)||(List.range S.g.edges.length).any (Hg S l i)):=by unfold Ab;rw [aA h2,aD,← hx]
  have Y:=wa Y (wa h2 (wa (aA h2) (wa (Eq.symm hx) @Edge.c.eq_1)))
  refine eJ (fun h5=>?_) fun h5=>?_
  ·have hKi:Ab S l i=true:=by rw [hKe];rcases h5 with h|h<;>simp<;>omega
   exact wo (h:=wx hI0 (i+1) ⟨wg,wj,(by (intro j hj;rcases b8 j i with hji|hji;exact hK j hji;(obtain rfl:j=i:=(by omega);exact hKi)))⟩)
  ·have hf:x.from_.toNat<l.length:=by omega
   have hft:x.to_.toNat<l.length:=by omega
   have hH:∀ k (hk:k<S.g.edges.length),Hg S l i k=(decide (x.type=S.g.edges[k].type)&&(decide (S.g.edges[k].from_=l[x.from_.toNat])&&decide (S.g.edges[k].to_=l[x.to_.toNat]))):=fun k hk=>by
    simp only [Hg,VX,Ty,aA hk,aA h2,aD,← hx,aA hf,aA hft]
    simp [eq_comm (a:=x.type)]
   have Y:=wa Y (wa h5 (wa (aA hf) (aA hft)))
   refine wv (h:=bG (fun k e H=>∃ q:Nat,∃ b:Bool,(e 0=.adr (S.cells most fd)∧e 1=dLI l∧e 5=dI i∧e 6=.ptr q 1 0 0∧e 7=.bool b∧e 8=dI k)∧(H.get q=some ⟨101,3,[[dI x.type,dI x.from_,dI x.to_]],false⟩)∧(q<H.next)∧(k≤S.g.edges.length)∧(b=(List.range k).any (Hg S l i))) (fun k=>S.g.edges.length - k) 0 ⟨H.next,false,wg,wn,wn,wi,(by rfl)⟩ fun I2 hI2 k e H hi2=>?_)
   obtain ⟨q,b,E2,gq_2,nq_2,hk,hb⟩:=hi2
   have Y:=wa Y (wa E2 (wa gq_2 (cG nq_2)))
   refine eJ (fun h8=>?_) fun h8=>?_
   ·have hHk:=hH k h8
    have Y:=wa Y (wa h8 (wa (aA h8) (wa hHk (wa @JY @DE))))
    exact wo (h:=wx hI2 (k+1) ⟨q,((b||Hg S l i k)),wg,wn,wn,wj,(by (rw [Gu,← hb]))⟩)
   ·refine eJ (fun h12=>?_) fun h12=>?_
    ·have hR:sY S l=false:=by
      simp only [sY,Eb,aZ]
      refine ⟨i,h2,?_⟩
      rw [hKe,← show k=S.g.edges.length by omega,← hb]
      simp [h12];omega
     exact wv (h:=hQ _ _ (by simp [go_sem,hR]))
    ·have hKi:Ab S l i=true:=by rw [hKe,← show k=S.g.edges.length by omega,← hb];simp [h12]
     exact wo (h:=wx hI0 (i+1) ⟨wg,wj,(by (intro j hj;rcases b8 j i with hji|hji;exact hK j hji;(obtain rfl:j=i:=(by omega);exact hKi)))⟩)
 ·have hR:sY S l=true:=by
   simp only [sY,cQ,aZ]
   exact fun j hj=>hK j (by omega)
  exact wv (h:=hQ _ _ (by simp [go_sem,hR]))
structure SrS (f o:Nat) (S:Srch) (most:Nat) (out:List Part) (H:AHeap):Prop where
 bf:H.get f=some ⟨385,11,[S.cells most (.own o out.length)],false⟩
 bo:H.get o=some ⟨56,2,out.map Part.c,false⟩
 le:out.length≤most+1
@[go_sem] theorem AU (l:List Part):D.clLL (l.map Part.c)=true:=dA _ (fun p=>by simp [Part.c,D.clL,n3]) l
theorem Lt (S:Srch)(hp:graphF S.p=0)(hg:graphF S.g=0)(hpe:S.pe.length=S.p.edges.length)(most:Nat)(hmo:most≤5000)(ns:List Int)(hns:ns.length=S.p.nodes.length)(f o:Nat)(hd:f≠o) :
  ∀ (d:Nat) (es:List Int) (out:List Part) (G:AHeap) (Q:D→AHeap→Prop),es.length+d=S.p.edges.length→f<G.next→o<G.next→SrS f o S most out G →
  (∀ H',SrS f o S most (Nx S (most+1) ns d es out) H'→(∀ j,j≠f→j≠o→j<G.next→H'.get j=G.get j)→G.next≤H'.next→Q (.tup []) H')→ACalls Tryz.prog 391 [.ptr f 1 0 0,dLI ns,dLI es] G Q:=by
 have hla:=bZ hp
 have hlb:=bZ hg
 have hib:∀ x∈S.p.edges,(0≤x.from_∧x.from_<S.p.nodes.length)∧(0≤x.to_∧x.to_<S.p.nodes.length):=fun x hx=>((eP hp).2 x hx).2
 intro d
 induction d using Nat.strongRecOn with
 | _ d ih =>
 intro es out G Q hk hfN hoN hF hQ
 obtain ⟨gf,go,hle⟩:=hF
 have hds:=hd.symm
 have ff:=cG hfN
 have fo:=cG hoN
 refine (aH (cfg:=⟨fun t=>t==7||t==9||t==35||t==38||t==128,fun r=>match r with|3=>[(2,5),(3,5),(4,5),(2,7),(3,7),(4,7),(2,8),(3,8),(4,8),(5,8),(7,8),(2,10),(3,10),(4,10),(2,12),(3,12),(4,12)]|_=>[]⟩) Tz.mixed Tryz.func391 rfl rfl (aE rfl) (by kernel_rfl) ?_)
 have Y:=wa gf (wa go (wa hd (wa hds (wa ff (wa fo (wa @Part.c.eq_1 @Srch.cells.eq_1))))))
 refine pH (fun h0=>?_) fun h0=>?_
 ·have hfull:most+1≤out.length:=by omega
  refine wv (h:=?_)
  exact hQ _ (by rw [Ru _ _ _ hfull];exact ⟨gf,go,hle⟩) (by intro j _ _ _;rfl) (by first|exact bQ _|exact Nat.le_add_right _ _)
 ·have hnf:¬ most+1≤out.length:=by omega
  refine pH (fun h2=>?_) fun h2=>?_
  ·have hk0:d=0:=by omega
   subst hk0
   refine wp (h:=?_)
   exact hQ _ (by simp only [Nx];rw [if_neg hnf];exact ⟨by simp [go_sem,Y],by simp [go_sem,Y],by simp;omega⟩) (by intro j h1 h2 h3;simp [go_sem,h1,h2,cG h3]) (by first|exact bQ _|(simp [go_sem]<;>omega)|(simp only [go_sem];split<;>omega))
  ·obtain ⟨k',rfl⟩:∃ k',d=k'+1:=⟨d - 1,by omega⟩
   have hel:es.length<S.p.edges.length:=by omega
   have hpl:es.length<S.pe.length:=by omega
   have hbx:=hib _ (aB hel)
   have hf1:S.p.edges[es.length].from_.toNat<ns.length:=by omega
   have hft:S.p.edges[es.length].to_.toNat<ns.length:=by omega
   have hokE:∀ j (hj:j<S.g.edges.length),S9 S ns es j=((decide (S.pe[es.length]<0)||decide (S.pe[es.length]=(j:Int)))&&(!(S.inj&&mem es j)&&(decide (S.p.edges[es.length].type=S.g.edges[j].type)&&(decide (S.g.edges[j].from_=ns[S.p.edges[es.length].from_.toNat])&&decide (S.g.edges[j].to_=ns[S.p.edges[es.length].to_.toNat]))))):=fun j hj=>by
    simp only [S9,Mg,Hg,VX,Ty,aA hj,aA hel,aA hpl,aD,aA hf1,aA hft]
    simp [eq_comm (a:=S.p.edges[es.length].type)]
   have Y:=wa Y (wa (aA hel) (wa (aA hpl) (wa (aA hf1) (aA hft))))
   refine wp (h:=bG (fun j e H=>∃ w7:Nat,∃ ou:List Part,(e 0=.ptr f 1 0 0∧e 1=dLI ns∧e 2=dLI es∧e 6=dI es.length∧e 7=.ptr w7 1 0 0∧e 8=dI j)∧(H.get f=some ⟨385,11,[S.cells most (.own o ou.length)],false⟩)∧(f<H.next)∧(H.get o=some ⟨56,2,ou.map Part.c,false⟩)∧(o<H.next)∧(H.get w7=some ⟨101,3,[S.p.edges[es.length].c],false⟩)∧(w7<H.next)∧(w7=G.next+10)∧(j≤S.g.edges.length)∧(ou.length≤most+1)∧(ou=(List.range j).foldl (fun ou k=>if S9 S ns es k=true then Nx S (most+1) ns k' (es++[(k:Int)]) ou else ou) out)∧(∀ q,q≠f→q≠o→q<G.next→H.get q=G.get q)∧(G.next+1≤H.next)) (fun j=>S.g.edges.length - j) 0 ⟨(G.next+10),out,wg,wn,wn,wn,wn,wn,wn,(by rfl),wi,(by (exact hle)),(by rfl),(by (intro q h1 h2 h3;simp [go_sem,h1,h2,cG h3])),(by (simp [go_sem]))⟩ fun I0 hI0 j e H hi0=>?_)
   obtain ⟨w7,ou,E0,gf_0,nf_0,go_0,no_0,gw7_0,nw7_0,hw7,hj,hou,hst,hfr,hnx⟩:=hi0
   have di1:=And.intro (c5 (show w7≠o by omega)) (And.intro (c5 (show w7≠f by omega)) (c5 (show o≠f by omega)))
   have Y:=wa Y (wa E0 (wa gf_0 (wa (cG nf_0) (wa go_0 (wa (cG no_0) (wa gw7_0 (wa (cG nw7_0) (wa @Edge.c.eq_1 di1))))))))
   refine pH (fun h6=>?_) fun h6=>?_
   ·have hEj:=hokE j h6
    have hbf:=hbx.1
    have hbt:=hbx.2
    have o1:(0≤S.pe[es.length]→S.pe[es.length]=(j:Int))→(S.inj=true→mem es (j:Int)=false)→(S.pe[es.length]<0∨S.pe[es.length]=(j:Int))∧(S.inj=false∨mem es (j:Int)=false):=fun a b=>⟨by omega,by cases hI:S.inj;exact .inl rfl;exact .inr (b hI)⟩
    have o2:(S.pe[es.length]<0∨S.pe[es.length]=(j:Int))→(S.inj=false∨mem es (j:Int)=false)→S.p.edges[es.length].type=S.g.edges[j].type→0≤S.p.edges[es.length].from_∧S.p.edges[es.length].from_<(ns.length:Int):=fun _ _ _=>by omega
    have o3:(0≤S.pe[es.length]→S.pe[es.length]=(j:Int))→(S.inj=true→mem es (j:Int)=false)→S.p.edges[es.length].type=S.g.edges[j].type→((S.pe[es.length]<0∨S.pe[es.length]=(j:Int))∧(S.inj=false∨mem es (j:Int)=false))∧S.p.edges[es.length].type=S.g.edges[j].type:=fun a b c=>⟨o1 a b,c⟩
    have o4:(S.pe[es.length]<0∨S.pe[es.length]=(j:Int))→(S.inj=false∨mem es (j:Int)=false)→S.p.edges[es.length].type=S.g.edges[j].type→S.g.edges[j].from_=ns[S.p.edges[es.length].from_.toNat]→0≤S.p.edges[es.length].to_∧S.p.edges[es.length].to_<(ns.length:Int):=fun _ _ _ _=>by omega
    have o5:(0≤S.pe[es.length]→S.pe[es.length]=(j:Int))→(S.inj=true→mem es (j:Int)=false)→S.p.edges[es.length].type=S.g.edges[j].type→S.g.edges[j].from_=ns[S.p.edges[es.length].from_.toNat]→(((S.pe[es.length]<0∨S.pe[es.length]=(j:Int))∧(S.inj=false∨mem es (j:Int)=false))∧S.p.edges[es.length].type=S.g.edges[j].type)∧S.g.edges[j].from_=ns[S.p.edges[es.length].from_.toNat]:=fun a b c d=>⟨⟨o1 a b,c⟩,d⟩
    have Y:=wa Y (wa h6 (aA h6))
    refine wp (h:=sZ (fun hg=>EM S most (.list (ou.map Part.c)) (by simp [D.cl,AU]) es j) Yf (fun hg=>wl) (fun hg=> rfl) rfl Yg ?_)
    refine pH (fun h9=>?_) fun h9=>?_
    ·have hE:S9 S ns es j=false:=by
      rw [hEj,bO];intro hT;simp at hT
      obtain ⟨a,b,c,d,e⟩:=hT
      rcases h9 with (((h|h)|h)|h)|h
      ·omega
      ·rcases b with b|b
       ·rw [b] at h;cases h.1
       ·rw [b] at h;cases h.2
      ·exact h c
      ·exact h d
      ·exact h e
     obtain ⟨ou2,hou2⟩:∃ x,x=ou:=⟨_,rfl⟩
     have Y:=wa Y (wa @Part.c.eq_1 (wa @Edge.c.eq_1 hou2))
     exact wp (h:=wx hI0 (j+1) ⟨w7,ou2,wg,wn,wn,wn,wn,wn,wn,(by (exact hw7)),wj,(by (rw [hou2];first|exact hou|exact Jr _ _ _ _ _ hou|exact Jr _ _ _ _ hou)),(by (rw [fL,← hst];first|exact hou2|(rw [hou2];first|rw [if_pos hE]|rw [if_neg (by rw [hE];simp)]))),(by (first|exact hfr3|(intro q h1 h2 h3;simp [go_sem,h1,h2,cG (show q<H.next by omega)];exact hfr q h1 h2 h3))),(by (first|omega|(simp [go_sem];omega)))⟩)
    ·have hE:S9 S ns es j=true:=by
      obtain ⟨⟨⟨⟨a,b⟩,c⟩,d⟩,e⟩:=h9
      rw [hEj];simp [c,d,e]
      exact ⟨by omega,by cases hI:S.inj;exact .inl rfl;exact .inr (b hI)⟩
     obtain ⟨ou2,hou2⟩:∃ x,x=Nx S (most+1) ns k' (es++[(j:Int)]) ou:=⟨_,rfl⟩
     have Y:=wa Y (wa @Part.c.eq_1 (wa @Edge.c.eq_1 h9))
     refine wp (h:=?_)
     refine IX (args':=[.ptr f 1 0 0,dLI ns,dLI (es++[(j:Int)])]) (by simp [go_sem,Y,dLI]) rfl ?_
     unfold fB
     refine ih k' (by omega) (es++[(j:Int)]) ou _ _ (by simp;omega) (by simp [go_sem];omega) (by simp [go_sem];omega) ⟨by simp [go_sem,Y],by simp [go_sem,Y],hou⟩ (fun H3 hF3 hf3 hn3=>?_)
     rw [← hou2] at hF3
     obtain ⟨gf3,go3,hle3⟩:=hF3
     have gw3:=hf3 w7 (by omega) (by omega) (by simp [go_sem];omega)
     simp [go_sem,Y] at gw3
     simp [go_sem] at hn3
     have hfr3:∀ j,j≠f→j≠o→j<G.next→H3.get j=G.get j:=fun j h1 h2 h3=>by
      have e1:=cG (show j<H.next by omega)
      rw [hf3 j h1 h2 (by simp [go_sem];omega)]
      simp [go_sem,h1,h2,e1]
      exact hfr j h1 h2 h3
     have fr2:=And.intro (cG (show f<H3.next by omega)) (And.intro (cG (show o<H3.next by omega)) (cG (show w7<H3.next by omega)))
     have Y:=wa Y (wa gf3 (wa go3 (wa gw3 fr2)))
     exact wp (h:=wx hI0 (j+1) ⟨w7,ou2,wg,wn,wn,wn,wn,wn,wn,(by (exact hw7)),wj,(by (rw [hou2];first|exact hou|exact Jr _ _ _ _ _ hou|exact Jr _ _ _ _ hou)),(by (rw [fL,← hst];first|exact hou2|(rw [hou2];first|rw [if_pos hE]|rw [if_neg (by rw [hE];simp)]))),(by (first|exact hfr3|(intro q h1 h2 h3;simp [go_sem,h1,h2,cG (show q<H.next by omega)];exact hfr q h1 h2 h3))),(by (first|omega|(simp [go_sem];omega)))⟩)
   ·have hJ:j=S.g.edges.length:=by omega
    have hOV:Nx S (most+1) ns (k'+1) es out=ou:=by simp only [Nx];rw [if_neg hnf,hst,hJ]
    refine wv (h:=?_)
    exact hQ _ (by rw [hOV];exact ⟨by assumption,by assumption,hou⟩) hfr (by omega)
end Go.Abs
end
