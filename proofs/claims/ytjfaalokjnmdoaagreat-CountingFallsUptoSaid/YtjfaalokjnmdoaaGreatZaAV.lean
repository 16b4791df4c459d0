/- Layer 26 of the reference: grow and put. · Layer 26 of the r -/
import Derived.Test.YtjfaalokjnmdoaaGreatZaAF
import Derived.Test.YtjfaalokjnmdoaaGreatZaAA
import Derived.Test.YtjfaalokjnmdoaaGreatZaAU
set_option linter.unusedVariables false
set_option linter.unusedSimpArgs false
section
set_option maxRecDepth 100000
set_option maxHeartbeats 4000000
open Go Go.Proofs
namespace Go.Abs
theorem uV (l:List Int)(i:Nat):cZ l (i+1)=cZ l i++if mem l i=true then [] else [(i:Int)]:=by
 unfold cZ;rw [bL,eY,List.map_append]
 congr 1
 simp only [HC,List.filter_nil]
 split<;>simp_all
def Sh (t:Types)(r:Rule)(x:Host)(i:Nat):Host :=
 ⟨⟨x.graph.nodes++(cZ r.into.nodes i).map (gN r.right.graph),x.graph.edges⟩,x.values++(cZ r.into.nodes i).map (fun k=>sX t (gN r.right.graph k))⟩
def UW (t:Types)(r:Rule)(c:Part)(x:Host)(i:Nat):Host:=⟨⟨x.graph.nodes,x.graph.edges++(cZ r.into.edges i).map (fun k=>freshE c (r.right.graph.edges[k.toNat]?.getD bS))⟩,x.values⟩
theorem C2 (t:Types)(ht:t.ok)(r:Rule)(hR:RuleV t r)(x0:Host)(c:Part)(hc:c.nodes.length=r.right.graph.nodes.length)(hs:x0.graph.nodes.length≤1000∧x0.graph.edges.length≤1000∧x0.values.length≤1000)
  (G:AHeap) (lo a b V:Nat) (qs0:List Nat) (hh0:HH G lo a b V qs0 x0) (Q:D→AHeap→Prop)
  (hQ:∀ ns H',(∀ j∈ns,G.next≤j)→HH H' lo a b V (qs0++ns) (jZ t r c x0)→(∀ j,j<G.next→j∉a :: b :: V :: qs0→H'.get j=G.get j)→G.next≤H'.next→Q (.agg [.own a (jZ t r c x0).graph.nodes.length,.own b (jZ t r c x0).graph.edges.length,.own V (jZ t r c x0).values.length]) H') :
  ACalls Tryz.prog 86 [t.d,r.d,.agg [.own a x0.graph.nodes.length,.own b x0.graph.edges.length,.own V x0.values.length],c.d] G Q:=by
 have hga:=bZ hR.gr
 have hgi:=eP hR.gr
 have ha0:=hh0.rng a hh0.a_in
 have hb0:=hh0.rng b hh0.b_in
 have hV0:=hh0.rng V hh0.V_in
 have hab:=hh0.ab
 have hout:∀ j,j∉a :: b :: V :: qs0→j≠a∧j≠b∧j≠V:=fun j hj=>by simp only [bB,not_or] at hj;exact ⟨hj.1,hj.2.1,hj.2.2.1⟩
 refine (aH (cfg:=⟨fun t=>t==6||t==8||t==9||t==13||t==16||t==1000001,fun r=>match r with|6=>[(0,8),(1,8),(2,8)]|19=>[(0,18),(1,18),(2,18)]|_=>[]⟩) Tz.mixed Tryz.func86 rfl rfl (aE rfl) (by kernel_rfl) ?_)
 try simp [go_sem,seval,Part.d,Part.c]
 obtain ⟨I0,hI0⟩:∃ I0:Nat→cY→AHeap→Prop,∀ (i:Nat) (e:cY) (H:AHeap),I0 i e H↔(∃ X:Nat,∃ R:Nat,∃ Y:Nat,∃ x:Host,∃ ns:List Nat,(e 4=.adr t.c)∧(e 5=.adr r.c)∧(e 7=.adr c.c)∧(e 6=.ptr X 1 0 0)∧(e 8=.ptr R 1 0 0)∧(e 9=.ptr Y 1 0 0)∧(e 10=dI i)∧(H.get X=some ⟨40,3,[[.own a x.graph.nodes.length,.own b x.graph.edges.length,.own V x.values.length]],false⟩)∧(X<H.next)∧(H.get R=some ⟨40,3,[[.nil,.nil,.nil]],false⟩)∧(R<H.next)∧(H.get Y=some ⟨37,2,[[dLI r.right.graph.nodes,.list (r.right.graph.edges.map Edge.c)]],false⟩)∧(Y<H.next)∧(i≤r.right.graph.nodes.length)∧(HH H lo a b V (qs0++ns) x)∧(x=Sh t r x0 i)∧(∀ j∈a :: b :: V :: (qs0++ns),j≠X∧j≠R∧j≠Y)∧(∀ j∈ns,G.next≤j)∧(G.next≤X∧X<R∧R<Y)∧(∀ j,j<G.next→j∉a :: b :: V :: qs0→H.get j=G.get j)∧(G.next≤H.next)):=⟨fun i e H=>_,fun _ _ _=>Iff.rfl⟩
 refine fZ I0 (fun i=>r.right.graph.nodes.length - i) (0) ((hI0 _ _ _).2 ⟨(G.next),(G.next+1),(G.next+2),(x0),([]),?_,?_,?_,?_,?_,?_,?_,?_,?_,?_,?_,?_,?_,(by first|assumption|omega|(simp [go_sem,Part.d,Part.c];done)|(simp_all;done)),(by (rw [fE];refine hh0.same (by simp [go_sem];omega) (fun j hj=>by have:=(hh0.rng j hj).2;simp [go_sem,cG this]))),(by (simp [Sh,cZ])),(by (intro j hj;rw [fE] at hj;have:=(hh0.rng j hj).2;omega)),(by (intro j hj;cases hj)),(by omega),(by (intro j hj _;simp [go_sem,cG hj])),(by (simp [go_sem];omega))⟩) ?_
 iterate 13 (first|omega|(simp [go_sem,seval,Part.d,Part.c]<;>omega))
 intro i e H hi0
 obtain ⟨X,R,Y,x,ns,q4_0,q5_0,q7_0,q6_0,q8_0,q9_0,q10_0,gX_0,nX_0,gR_0,nR_0,gY_0,nY_0,hi,hh,hx,hXq,hns,hXR,hG,hnx⟩:=(hI0 _ _ _).1 hi0
 have xX:=cG nX_0
 have xR:=cG nR_0
 have xY:=cG nY_0
 have F0:=And.intro q4_0 (And.intro q5_0 (And.intro q7_0 (And.intro q6_0 (And.intro q8_0 (And.intro q9_0 (And.intro q10_0 (And.intro gX_0 (And.intro gR_0 (And.intro gY_0 (And.intro xX (And.intro xR xY)))))))))))
 have di1:=And.intro (c5 (show Y≠R by omega)) (And.intro (c5 (show Y≠X by omega)) (And.intro (c5 (show Y≠V by omega)) (And.intro (c5 (show Y≠b by omega)) (And.intro (c5 (show Y≠a by omega)) (And.intro (c5 (show R≠X by omega)) (And.intro (c5 (show R≠V by omega)) (And.intro (c5 (show R≠b by omega)) (And.intro (c5 (show R≠a by omega)) (And.intro (c5 (show X≠V by omega)) (And.intro (c5 (show X≠b by omega)) (And.intro (c5 (show X≠a by omega)) (And.intro (c5 (show V≠b by omega)) (And.intro (c5 (show V≠a by omega)) (c5 (show b≠a by omega)))))))))))))))
 try simp [go_sem,seval,Part.d,Part.c,F0,di1]
 repeat first|intro _|refine ⟨eI,?_⟩
 refine aJ (fun h3=>?_) (fun h3=>?_)
 ·try simp [go_sem] at h3
  have hsu:=uV r.into.nodes i
  obtain ⟨nd,hnd⟩:∃ y,y=r.right.graph.nodes[i]:=⟨_,rfl⟩
  have hgn:gN r.right.graph (i:Int)=nd:=by rw [hnd];simp [gN,aA h3]
  have hoL:=eG r.into.nodes i
  have hxn:x.graph.nodes.length≤2000∧x.values.length≤2000∧x.graph.edges.length≤2000:=by rw [hx];simp [Sh];omega
  try simp [go_sem,seval,Part.d,Part.c,F0,di1,h3,aA h3,← hnd]
  repeat first|intro _|refine ⟨eI,?_⟩
  refine aC (y7 r.into.nodes i) ((by first|rfl|(simp [go_sem,← List.map_take,← List.map_drop,Part.d,Part.c,F0,di1,h3,aA h3,← hnd];done))) ?_
  try simp [go_sem,seval,Part.d,Part.c,F0,di1,h3,aA h3,← hnd]
  repeat first|intro _|refine ⟨eI,?_⟩
  refine aJ (fun h5=>?_) (fun h5=>?_)
  ·try simp [go_sem] at h5
   have hm:mem r.into.nodes i=true:=by simpa using h5
   rw [if_pos hm,fE] at hsu
   obtain ⟨x2,hx2⟩:∃ y,y=x:=⟨_,rfl⟩
   obtain ⟨ns2,hns2⟩:∃ y,y=ns:=⟨_,rfl⟩
   have hx3:x2=Sh t r x0 (i+1):=by rw [hx2,hx];unfold Sh;rw [hsu]
   have hh2:HH H lo a b V (qs0++ns2) x2:=by rw [hx2,hns2];exact hh
   have hXq2:∀ j∈a :: b :: V :: (qs0++ns2),j≠X∧j≠R∧j≠Y:=by rw [hns2];exact hXq
   have hG2:=hG
   try simp [go_sem,seval,Part.d,Part.c,F0,di1,h3,aA h3,← hnd,hx2]
   repeat first|intro _|refine ⟨eI,?_⟩
   refine bY (i+1) (by omega) ((hI0 _ _ _).2 ⟨(X),(R),(Y),(x2),(ns2),?_,?_,?_,?_,?_,?_,?_,?_,?_,?_,?_,?_,?_,(by first|assumption|omega|(simp [go_sem,Part.d,Part.c,F0,di1,h3,aA h3,← hnd,hx2,h5];done)|(simp_all<;>omega)),(by (first|exact hh2|(rw [hns2,← List.append_assoc,hx2];exact hhk.rowAdd (by first|(simp [go_sem];done)|(simp [go_sem];omega)) (by omega) hWq (by first|(simp [go_sem];done)|(simp [go_sem];omega)) (by simp [go_sem,Part.d,Part.c,F0,di1,h3,aA h3,← hnd,hx2,hleast]) (by simp [go_sem,Part.d,Part.c,F0,di1,h3,aA h3,← hnd,hx2,hleast]) (fun j hj=>by obtain ⟨k1,k2⟩:=hfrm2 j hj;simp [go_sem,k1,k2])))),(by exact hx3),(by exact hXq2),(by (rw [hns2];first|exact hns|(intro j hj;rw [bD,cH] at hj;rcases hj with hj|rfl;exact hns j hj;exact hWlo.2))),(by exact hXR),(by (first|exact hG2|(intro j hj hjn;obtain ⟨ja,jb,jV⟩:=hout j hjn;simp [go_sem,jV,show j≠X by omega];exact hGk j hj hjn))),(by (first|exact hnx|(simp [go_sem];omega)))⟩)<;>first|omega|(simp [go_sem,seval,Part.d,Part.c,F0,di1,h3,aA h3,← hnd,hx2]<;>omega)
  ·try simp [go_sem] at h5
   have hm:¬ mem r.into.nodes i=true:=by simpa using h5
   rw [if_neg hm] at hsu
   have hga1:=hh.ga
   have hgV1:=hh.gV
   have hrl:=nU hh.len
   have hqa:=hh.rng a hh.a_in
   have hqV:=hh.rng V hh.V_in
   have hqb:=hh.rng b hh.b_in
   have hal8:(b7 t nd).length≤8:=Gn hR.vf nd
   have fr2:=And.intro (cG (show a<H.next by omega)) (And.intro (cG (show b<H.next by omega)) (cG (show V<H.next by omega)))
   have hfrm:∀ j∈b :: V :: (qs0++ns),j≠a∧j≠X∧j<H.next:=fun j hj=>by
    have hj':j∈a :: b :: V :: (qs0++ns):=eH _ hj
    refine ⟨?_,(hXq j hj').1,(hh.rng j hj').2⟩
    rintro rfl
    have:=hh.nd;rw [eE] at this;exact this.1 hj
   try simp [go_sem,seval,Part.d,Part.c,F0,di1,h3,aA h3,← hnd,h5,hga1,hgV1,hrl,fr2]
   repeat first|intro _|refine ⟨eI,?_⟩
   refine aM (jP t ht nd) ((by first|rfl|(simp [go_sem,← List.map_take,← List.map_drop,Part.d,Part.c,F0,di1,h3,aA h3,← hnd,h5,hga1,hgV1,hrl,fr2];done))) ?_
   try simp [go_sem,seval,Part.d,Part.c,F0,di1,h3,aA h3,← hnd,h5,hga1,hgV1,hrl,fr2]
   repeat first|intro _|refine ⟨eI,?_⟩
   obtain ⟨I2,hI2⟩:∃ I2:Nat→cY→AHeap→Prop,∀ (k:Nat) (e:cY) (H:AHeap),I2 k e H↔(∃ W:Nat,(e 4=.adr t.c)∧(e 5=.adr r.c)∧(e 7=.adr c.c)∧(e 6=.ptr X 1 0 0)∧(e 8=.ptr R 1 0 0)∧(e 9=.ptr Y 1 0 0)∧(e 10=dI i)∧(e 11=.list ((b7 t nd).map Attr.c))∧(e 13=.own W k)∧(e 14=dI k)∧(H.get X=some ⟨40,3,[[.own a (x.graph.nodes.length+1),.own b x.graph.edges.length,.own V x.values.length]],false⟩)∧(X<H.next)∧(H.get R=some ⟨40,3,[[.nil,.nil,.nil]],false⟩)∧(R<H.next)∧(H.get Y=some ⟨37,2,[[dLI r.right.graph.nodes,.list (r.right.graph.edges.map Edge.c)]],false⟩)∧(Y<H.next)∧(H.get W=some ⟨3,1,(((b7 t nd).take k).map fun a=>a.low).map cI,false⟩)∧(W<H.next)∧(k≤(b7 t nd).length)∧(HH H lo a b V (qs0++ns) ⟨⟨x.graph.nodes++[nd],x.graph.edges⟩,x.values⟩)∧(∀ j∈a :: b :: V :: (qs0++ns),j≠W)∧((lo≤W∧Y<W)∧G.next≤W)∧(∀ j,j<G.next→j∉a :: b :: V :: qs0→H.get j=G.get j)∧(G.next≤H.next)):=⟨fun k e H=>_,fun _ _ _=>Iff.rfl⟩
   refine fZ I2 (fun k=>(b7 t nd).length - k) (0) ((hI2 _ _ _).2 ⟨(H.next+13+12),?_,?_,?_,?_,?_,?_,?_,?_,?_,?_,?_,?_,?_,?_,?_,?_,(by (simp [go_sem])),?_,(by first|assumption|omega|(simp [go_sem,Part.d,Part.c,F0,di1,h3,aA h3,← hnd,h5,hga1,hgV1,hrl,fr2];done)|(simp_all;done)),(by (exact hh.nodes (by first|(simp [go_sem];done)|(simp [go_sem];omega)) (by simp [go_sem,Part.d,Part.c,F0,di1,h3,aA h3,← hnd,h5,hga1,hgV1,hrl,fr2,cI]) (fun j hj=>by obtain ⟨k1,k2,k3⟩:=hfrm j hj;simp [go_sem,k1,k2,cG k3]))),(by (intro j hj;have:=(hh.rng j hj).2;omega)),(by (omega)),(by (intro j hj hjn;obtain ⟨ja,jb,jV⟩:=hout j hjn;simp [go_sem,ja,show j≠X by omega,cG (show j<H.next by omega)];exact hG j hj hjn)),(by (simp [go_sem];omega))⟩) ?_
   iterate 17 (first|omega|(simp [go_sem,seval,Part.d,Part.c,F0,di1,h3,aA h3,← hnd,h5,hga1,hgV1,hrl,fr2]<;>omega))
   intro k e H hi2
   obtain ⟨W,q4_2,q5_2,q7_2,q6_2,q8_2,q9_2,q10_2,q11_2,q13_2,q14_2,gX_2,nX_2,gR_2,nR_2,gY_2,nY_2,gW_2,nW_2,hk,hhk,hWq,hWlo,hGk,hnk⟩:=(hI2 _ _ _).1 hi2
   have xX:=cG nX_2
   have xR:=cG nR_2
   have xY:=cG nY_2
   have xW:=cG nW_2
   have F2:=And.intro q4_2 (And.intro q5_2 (And.intro q7_2 (And.intro q6_2 (And.intro q8_2 (And.intro q9_2 (And.intro q10_2 (And.intro q11_2 (And.intro q13_2 (And.intro q14_2 (And.intro gX_2 (And.intro gR_2 (And.intro gY_2 (And.intro xX (And.intro xR (And.intro xY xW)))))))))))))))
   have di3:=And.intro (c5 (show W≠Y by omega)) (And.intro (c5 (show W≠R by omega)) (And.intro (c5 (show W≠X by omega)) (And.intro (c5 (show W≠V by omega)) (And.intro (c5 (show W≠b by omega)) (And.intro (c5 (show W≠a by omega)) (And.intro (c5 (show Y≠R by omega)) (And.intro (c5 (show Y≠X by omega)) (And.intro (c5 (show Y≠V by omega)) (And.intro (c5 (show Y≠b by omega)) (And.intro (c5 (show Y≠a by omega)) (And.intro (c5 (show R≠X by omega)) (And.intro (c5 (show R≠V by omega)) (And.intro (c5 (show R≠b by omega)) (And.intro (c5 (show R≠a by omega)) (And.intro (c5 (show X≠V by omega)) (And.intro (c5 (show X≠b by omega)) (And.intro (c5 (show X≠a by omega)) (And.intro (c5 (show V≠b by omega)) (And.intro (c5 (show V≠a by omega)) (c5 (show b≠a by omega)))))))))))))))))))))
   try simp [go_sem,seval,Part.d,Part.c,di1,h3,aA h3,← hnd,h5,hga1,hgV1,hrl,fr2,F2,gW_2,di3]
   repeat first|intro _|refine ⟨eI,?_⟩
   refine aJ (fun h10=>?_) (fun h10=>?_)
   ·try simp [go_sem] at h10
    have hst:((b7 t nd).take (k+1)).map (fun a=>a.low)=((b7 t nd).take k).map (fun a=>a.low)++[(b7 t nd)[k].low]:=by rw [aF h10,List.map_append];rfl
    try simp [go_sem,seval,Part.d,Part.c,di1,h3,aA h3,← hnd,h5,hga1,hgV1,hrl,fr2,F2,gW_2,di3,h10,aA h10,Attr.c]
    repeat first|intro _|refine ⟨eI,?_⟩
    refine bY (k+1) (by omega) ((hI2 _ _ _).2 ⟨(W),?_,?_,?_,?_,?_,?_,?_,?_,?_,?_,?_,?_,?_,?_,?_,?_,(by (simp [go_sem,Part.d,Part.c,di1,h3,aA h3,← hnd,h5,hga1,hgV1,hrl,fr2,F2,gW_2,di3,h10,aA h10,Attr.c,hst,cI])),?_,(by first|assumption|omega|(simp [go_sem,Part.d,Part.c,di1,h3,aA h3,← hnd,h5,hga1,hgV1,hrl,fr2,F2,gW_2,di3,h10,aA h10,Attr.c];done)|(simp_all<;>omega)),(by (exact hhk.same (by simp [go_sem]) (fun j hj=>by have:=hWq j hj;simp [go_sem,this]))),(by exact hWq),(by omega),(by (intro j hj hjn;simp [go_sem,show j≠W by omega];exact hGk j hj hjn)),(by (simp [go_sem];omega))⟩)<;>first|omega|(simp [go_sem,seval,Part.d,Part.c,di1,h3,aA h3,← hnd,h5,hga1,hgV1,hrl,fr2,F2,gW_2,di3,h10,aA h10,Attr.c]<;>omega)
   ·try simp [go_sem] at h10
    have hke:k=(b7 t nd).length:=by omega
    have hgVk:=hhk.gV
    rw [aI (by omega)] at gW_2
    obtain ⟨x2,hx2⟩:∃ y:Host,y=⟨⟨x.graph.nodes++[nd],x.graph.edges⟩,x.values++[sX t nd]⟩:=⟨_,rfl⟩
    obtain ⟨ns2,hns2⟩:∃ y,y=ns++[W]:=⟨_,rfl⟩
    have hx3:x2=Sh t r x0 (i+1):=by rw [hx2,hx];unfold Sh;rw [hsu];simp [hgn]
    have hXq2:∀ j∈a :: b :: V :: (qs0++ns2),j≠X∧j≠R∧j≠Y:=fun j hj=>by
     have e:a :: b :: V :: (qs0++ns2)=(a :: b :: V :: (qs0++ns))++[W]:=by rw [hns2];simp
     rw [e,bD,cH] at hj
     rcases hj with hj|rfl
     ·exact hXq j hj
     ·omega
    have hxl:x2.graph.nodes.length=x.graph.nodes.length+1∧x2.graph.edges.length=x.graph.edges.length∧x2.values.length=x.values.length+1:=by rw [hx2];simp
    have hfrm2:∀ j∈a :: b :: (qs0++ns),j≠V∧j≠X:=fun j hj=>by
     simp only [bB] at hj
     rcases hj with rfl|rfl|hj
     ·exact ⟨by omega,(hXq _ hhk.a_in).1⟩
     ·exact ⟨by omega,(hXq _ hhk.b_in).1⟩
     ·exact ⟨(hhk.qn hj).2.2,(hXq _ (hhk.q_in hj)).1⟩
    have hleast:sX t nd=(b7 t nd).map fun a=>a.low:=rfl
    try simp [go_sem,seval,Part.d,Part.c,di1,h3,aA h3,← hnd,h5,hga1,hgV1,hrl,fr2,F2,gW_2,di3,hgVk,hxl,gW_2,hke]
    repeat first|intro _|refine ⟨eI,?_⟩
    refine bY (i+1) (by omega) ((hI0 _ _ _).2 ⟨(X),(R),(Y),(x2),(ns2),?_,?_,?_,?_,?_,?_,?_,?_,?_,?_,?_,?_,?_,(by first|assumption|omega|(simp [go_sem,Part.d,Part.c,di1,h3,aA h3,← hnd,h5,hga1,hgV1,hrl,fr2,F2,gW_2,di3,hgVk,hxl,gW_2,hke,h10];done)|(simp_all<;>omega)),(by (first|exact hh2|(rw [hns2,← List.append_assoc,hx2];exact hhk.rowAdd (by first|(simp [go_sem];done)|(simp [go_sem];omega)) (by omega) hWq (by first|(simp [go_sem];done)|(simp [go_sem];omega)) (by simp [go_sem,Part.d,Part.c,di1,h3,aA h3,← hnd,h5,hga1,hgV1,hrl,fr2,F2,gW_2,di3,hgVk,hxl,gW_2,hke,hleast]) (by simp [go_sem,Part.d,Part.c,di1,h3,aA h3,← hnd,h5,hga1,hgV1,hrl,fr2,F2,gW_2,di3,hgVk,hxl,gW_2,hke,hleast]) (fun j hj=>by obtain ⟨k1,k2⟩:=hfrm2 j hj;simp [go_sem,k1,k2])))),(by exact hx3),(by exact hXq2),(by (rw [hns2];first|exact hns|(intro j hj;rw [bD,cH] at hj;rcases hj with hj|rfl;exact hns j hj;exact hWlo.2))),(by exact hXR),(by (first|exact hG2|(intro j hj hjn;obtain ⟨ja,jb,jV⟩:=hout j hjn;simp [go_sem,jV,show j≠X by omega];exact hGk j hj hjn))),(by (first|exact hnx|(simp [go_sem];omega)))⟩)<;>first|omega|(simp [go_sem,seval,Part.d,Part.c,di1,h3,aA h3,← hnd,h5,hga1,hgV1,hrl,fr2,F2,gW_2,di3,hgVk,hxl,gW_2,hke]<;>omega)
 ·try simp [go_sem] at h3
  have hie:i=r.right.graph.nodes.length:=by omega
  have hgb1:=hh.gb
  have hoL:=eG r.into.nodes i
  have hxn:x.graph.edges.length≤1000:=by rw [hx];exact hs.2.1
  try simp [go_sem,seval,Part.d,Part.c,F0,di1,hgb1]
  obtain ⟨I4,hI4⟩:∃ I4:Nat→cY→AHeap→Prop,∀ (i:Nat) (e:cY) (H:AHeap),I4 i e H↔(∃ x:Host,(e 4=.adr t.c)∧(e 5=.adr r.c)∧(e 7=.adr c.c)∧(e 6=.ptr X 1 0 0)∧(e 8=.ptr R 1 0 0)∧(e 9=.ptr Y 1 0 0)∧(e 15=dI i)∧(H.get X=some ⟨40,3,[[.own a x.graph.nodes.length,.own b x.graph.edges.length,.own V x.values.length]],false⟩)∧(X<H.next)∧(H.get R=some ⟨40,3,[[.nil,.nil,.nil]],false⟩)∧(R<H.next)∧(H.get Y=some ⟨37,2,[[dLI r.right.graph.nodes,.list (r.right.graph.edges.map Edge.c)]],false⟩)∧(Y<H.next)∧(i≤r.right.graph.edges.length)∧(HH H lo a b V (qs0++ns) x)∧(x=UW t r c (Sh t r x0 r.right.graph.nodes.length) i)∧(∀ j,j<G.next→j∉a :: b :: V :: qs0→H.get j=G.get j)∧(G.next≤H.next)):=⟨fun i e H=>_,fun _ _ _=>Iff.rfl⟩
  refine fZ I4 (fun i=>r.right.graph.edges.length - i) (0) ((hI4 _ _ _).2 ⟨(x),?_,?_,?_,?_,?_,?_,?_,?_,?_,?_,?_,?_,?_,(by first|assumption|omega|(simp [go_sem,Part.d,Part.c,F0,di1,hgb1];done)|(simp_all;done)),(by exact hh),(by (rw [hx,hie];simp [UW,cZ])),(by exact hG),(by exact hnx)⟩) ?_
  iterate 13 (first|omega|(simp [go_sem,seval,Part.d,Part.c,F0,di1,hgb1]<;>omega))
  intro i e H hi4
  obtain ⟨x,q4_4,q5_4,q7_4,q6_4,q8_4,q9_4,q15_4,gX_4,nX_4,gR_4,nR_4,gY_4,nY_4,hi4,hh4,hx4,hG4,hn4⟩:=(hI4 _ _ _).1 hi4
  have xX:=cG nX_4
  have xR:=cG nR_4
  have xY:=cG nY_4
  have F4:=And.intro q4_4 (And.intro q5_4 (And.intro q7_4 (And.intro q6_4 (And.intro q8_4 (And.intro q9_4 (And.intro q15_4 (And.intro gX_4 (And.intro gR_4 (And.intro gY_4 (And.intro xX (And.intro xR xY)))))))))))
  have di4:=And.intro (c5 (show Y≠R by omega)) (And.intro (c5 (show Y≠X by omega)) (And.intro (c5 (show Y≠V by omega)) (And.intro (c5 (show Y≠b by omega)) (And.intro (c5 (show Y≠a by omega)) (And.intro (c5 (show R≠X by omega)) (And.intro (c5 (show R≠V by omega)) (And.intro (c5 (show R≠b by omega)) (And.intro (c5 (show R≠a by omega)) (And.intro (c5 (show X≠V by omega)) (And.intro (c5 (show X≠b by omega)) (And.intro (c5 (show X≠a by omega)) (And.intro (c5 (show V≠b by omega)) (And.intro (c5 (show V≠a by omega)) (c5 (show b≠a by omega)))))))))))))))
  try simp [go_sem,seval,Part.d,Part.c,di1,hgb1,F4,di4]
  repeat first|intro _|refine ⟨eI,?_⟩
  refine aJ (fun h15=>?_) (fun h15=>?_)
  ·try simp [go_sem] at h15
   have hsu:=uV r.into.edges i
   obtain ⟨y,hy⟩:∃ y,y=r.right.graph.edges[i]:=⟨_,rfl⟩
   have hye:r.right.graph.edges[(i:Int).toNat]?.getD bS=y:=by rw [hy];simp [aA h15]
   have hye2:r.right.graph.edges[i]?.getD bS=y:=by rw [hy,aA h15];rfl
   have hyi:=(hgi.2 _ (aB h15)).2
   rw [← hy] at hyi
   have hyf:y.from_.toNat<c.nodes.length:=by omega
   have hyt:y.to_.toNat<c.nodes.length:=by omega
   have hoE:=eG r.into.edges i
   have hxe:x.graph.edges.length≤2000:=by rw [hx4];simp [UW,Sh];omega
   have hgb4:=hh4.gb
   have hqb:=hh4.rng b hh4.b_in
   have fr5:=cG (show b<H.next by omega)
   try simp [go_sem,seval,Part.d,Part.c,di1,hgb1,F4,di4,h15,aA h15,← hy,aA hyf,aA hyt,hgb4,Edge.c,fr5]
   refine aC (y7 r.into.edges i) ((by first|rfl|(simp [go_sem,← List.map_take,← List.map_drop,Part.d,Part.c,di1,hgb1,F4,di4,h15,aA h15,← hy,aA hyf,aA hyt,hgb4,Edge.c,fr5];done))) ?_
   try simp [go_sem,seval,Part.d,Part.c,di1,hgb1,F4,di4,h15,aA h15,← hy,aA hyf,aA hyt,hgb4,Edge.c,fr5]
   refine aJ (fun h17=>?_) (fun h17=>?_)
   ·try simp [go_sem] at h17
    have hm:¬ mem r.into.edges i=true:=by simpa using h17
    rw [if_neg hm] at hsu
    have hfr:freshE c y=⟨y.type,c.nodes[y.from_.toNat],c.nodes[y.to_.toNat]⟩:=by unfold freshE;rw [aA hyf,aA hyt];rfl
    obtain ⟨x2,hx2⟩:∃ z:Host,z=⟨⟨x.graph.nodes,x.graph.edges++[freshE c y]⟩,x.values⟩:=⟨_,rfl⟩
    have hx3:x2=UW t r c (Sh t r x0 r.right.graph.nodes.length) (i+1):=by rw [hx2,hx4];unfold UW;rw [hsu];simp [hye,hye2]
    have hxl:x2.graph.nodes.length=x.graph.nodes.length∧x2.graph.edges.length=x.graph.edges.length+1∧x2.values.length=x.values.length:=by rw [hx2];simp
    have hfrm4:∀ j∈a :: V :: (qs0++ns),j≠b∧j≠X∧j<H.next:=fun j hj=>by
     have hj':j∈a :: b :: V :: (qs0++ns):=by simp only [bB] at hj ⊢;rcases hj with h|h|h<;>simp [h]
     refine ⟨?_,(hXq j hj').1,(hh4.rng j hj').2⟩
     rintro rfl
     have:=hh4.nd;simp only [eE,bB,not_or] at this
     simp only [bB] at hj
     rcases hj with h|h|h
     ·exact this.1.1 h.symm
     ·exact this.2.1.1 h
     ·exact this.2.1.2 h
    try simp [go_sem,seval,Part.d,Part.c,di1,hgb1,F4,di4,h15,aA h15,← hy,aA hyf,aA hyt,hgb4,Edge.c,fr5,hxl]
    repeat first|intro _|refine ⟨eI,?_⟩
    refine bY (i+1) (by omega) ((hI4 _ _ _).2 ⟨(x2),?_,?_,?_,?_,?_,?_,?_,?_,?_,?_,?_,?_,?_,(by first|assumption|omega|(simp [go_sem,Part.d,Part.c,di1,hgb1,F4,di4,h15,aA h15,← hy,aA hyf,aA hyt,hgb4,Edge.c,fr5,hxl,h3,h17];done)|(simp_all<;>omega)),(by (first|exact hh2|(rw [hx2];exact hh4.edges (by first|(simp [go_sem];done)|(simp [go_sem];omega)) (by simp [go_sem,Part.d,Part.c,di1,hgb1,F4,di4,h15,aA h15,← hy,aA hyf,aA hyt,hgb4,Edge.c,fr5,hxl,hfr,Edge.c]) (fun j hj=>by obtain ⟨k1,k2,k3⟩:=hfrm4 j hj;simp [go_sem,k1,k2,cG k3])))),(by exact hx3),(by (first|exact hG2|(intro j hj hjn;obtain ⟨ja,jb,jV⟩:=hout j hjn;simp [go_sem,jb,show j≠X by omega,cG (show j<H.next by omega)];exact hG4 j hj hjn))),(by (first|exact hn4|(simp [go_sem];omega)))⟩)<;>first|omega|(simp [go_sem,seval,Part.d,Part.c,di1,hgb1,F4,di4,h15,aA h15,← hy,aA hyf,aA hyt,hgb4,Edge.c,fr5,hxl]<;>omega)
   ·try simp [go_sem] at h17
    have hm:mem r.into.edges i=true:=by simpa using h17
    rw [if_pos hm,fE] at hsu
    obtain ⟨x2,hx2⟩:∃ z,z=x:=⟨_,rfl⟩
    have hx3:x2=UW t r c (Sh t r x0 r.right.graph.nodes.length) (i+1):=by rw [hx2,hx4];unfold UW;rw [hsu]
    have hh2:HH H lo a b V (qs0++ns) x2:=by rw [hx2];exact hh4
    have hG2:=hG4
    try simp [go_sem,seval,Part.d,Part.c,di1,hgb1,F4,di4,h15,aA h15,← hy,aA hyf,aA hyt,hgb4,Edge.c,fr5,hx2]
    repeat first|intro _|refine ⟨eI,?_⟩
    refine bY (i+1) (by omega) ((hI4 _ _ _).2 ⟨(x2),?_,?_,?_,?_,?_,?_,?_,?_,?_,?_,?_,?_,?_,(by first|assumption|omega|(simp [go_sem,Part.d,Part.c,di1,hgb1,F4,di4,h15,aA h15,← hy,aA hyf,aA hyt,hgb4,Edge.c,fr5,hx2,h3,h17];done)|(simp_all<;>omega)),(by (first|exact hh2|(rw [hx2];exact hh4.edges (by first|(simp [go_sem];done)|(simp [go_sem];omega)) (by simp [go_sem,Part.d,Part.c,di1,hgb1,F4,di4,h15,aA h15,← hy,aA hyf,aA hyt,hgb4,Edge.c,fr5,hx2,hfr,Edge.c]) (fun j hj=>by obtain ⟨k1,k2,k3⟩:=hfrm4 j hj;simp [go_sem,k1,k2,cG k3])))),(by exact hx3),(by (first|exact hG2|(intro j hj hjn;obtain ⟨ja,jb,jV⟩:=hout j hjn;simp [go_sem,jb,show j≠X by omega,cG (show j<H.next by omega)];exact hG4 j hj hjn))),(by (first|exact hn4|(simp [go_sem];omega)))⟩)<;>first|omega|(simp [go_sem,seval,Part.d,Part.c,di1,hgb1,F4,di4,h15,aA h15,← hy,aA hyf,aA hyt,hgb4,Edge.c,fr5,hx2]<;>omega)
  ·try simp [go_sem] at h15
   have hie4:i=r.right.graph.edges.length:=by omega
   have hX4:x=jZ t r c x0:=by rw [hx4,hie4];rfl
   rw [hX4] at hh4
   try simp [go_sem,seval,Part.d,Part.c,di1,hgb1,F4,di4,hX4]
   exact hQ ns _ hns (hh4.same (by simp [go_sem]) (fun j hj=>by simp [go_sem,(hXq j hj).2.1])) (fun j hj hjn=>by simp [go_sem,show j≠R by omega];exact hG4 j hj hjn) (by simp [go_sem];exact hn4)
def Ol (t:Types)(r:Rule)(c:Part)(x0:Host)(a b V:Nat)(qs ns:List Nat):List (Nat × Blk) :=
 [(a,⟨3,1,(jZ t r c x0).graph.nodes.map cI,false⟩),(b,⟨101,3,(jZ t r c x0).graph.edges.map Edge.c,false⟩),(V,⟨34,1,lL (qs++ns) (jZ t r c x0).values,false⟩)]
def Sg (t:Types)(r:Rule)(ns:List Nat):List (Nat × Blk):=P4 ns (r.freshN.map fun k=>sX t (gN r.right.graph k))
theorem Pt {H H':AHeap}{t:Types}{r:Rule}{c:Part}{x0:Host}{lo a b V:Nat}{qs ns:List Nat}(hh:HH H lo a b V qs x0)(hag:∀ j∈a :: b :: V :: qs,H'.get j=H.get j)(hl:ns.length=r.freshN.length)(hnd:(a :: b :: V :: (qs++ns)).Nodup)
  (hlt:∀ j∈a :: b :: V :: (qs++ns),j<H'.next):HH ((H'.puts (Ol t r c x0 a b V qs ns)).pushs (Sg t r ns)) 0 a b V (qs++ns) (jZ t r c x0)∧((H'.puts (Ol t r c x0 a b V qs ns)).pushs (Sg t r ns)).next=H'.next ∧
   (∀ j,j∉a :: b :: V :: (qs++ns)→((H'.puts (Ol t r c x0 a b V qs ns)).pushs (Sg t r ns)).get j=H'.get j)∧(∀ j,((H'.puts (Ol t r c x0 a b V qs ns)).pushs (Sg t r ns)).al j↔H'.al j∨j∈ns):=by
 have hids:(Sg t r ns).map (·.1)=ns:=EH (by simpa using hl)
 have hab:=hh.ab
 have hnn:∀ j∈ns,j≠a∧j≠b∧j≠V∧j∉qs:=fun j hj=>by
  have h:=hnd
  simp only [eE,bB,bD,not_or,vT] at h
  exact ⟨fun e=>h.1.2.2.2 (e ▸ hj),fun e=>h.2.1.2.2 (e ▸ hj),fun e=>h.2.2.1.2 (e ▸ hj),fun hq=>h.2.2.2.2.2 j hq j hj rfl⟩
 have hn:((Sg t r ns).map (·.1)).Nodup:=by
  rw [hids];have h:=hnd
  simp only [eE,vT] at h
  exact h.2.2.2.2.1
 have hout:∀ j,j∉ns→((H'.puts (Ol t r c x0 a b V qs ns)).pushs (Sg t r ns)).get j=(H'.puts (Ol t r c x0 a b V qs ns)).get j:=fun j hj=>l7 _ _ _ (by rw [hids];exact hj)
 have hnx:((H'.puts (Ol t r c x0 a b V qs ns)).pushs (Sg t r ns)).next=H'.next:=by
  rw [nW _ _ fun p hp=>?_,tL]
  rw [tL]
  refine hlt p.1 ?_
  have:p.1∈ns:=by rw [← hids];exact mE hp
  simp [this]
 have hvl:(jZ t r c x0).values=x0.values++r.freshN.map (fun k=>sX t (gN r.right.graph k)):=rfl
 refine ⟨⟨?_,?_,?_,?_,fun i q v h1 h2=>?_,hnd,fun j hj=>⟨dY _,by rw [hnx];exact hlt j hj⟩⟩,hnx,fun j hj=>?_,fun j=>?_⟩
 ·rw [hout a fun hm=>(hnn a hm).1 rfl]
  simp [AHeap.puts,AHeap.put,Ol,hab.1,hab.2.1]
 ·rw [hout b fun hm=>(hnn b hm).2.1 rfl]
  simp [AHeap.puts,AHeap.put,Ol,hab.2.2]
 ·rw [hout V fun hm=>(hnn V hm).2.2.1 rfl]
  simp [AHeap.puts,AHeap.put,Ol]
 ·rw [hvl,aG,aG,bE,hh.len,hl]
 ·by_cases hi:i<qs.length
  ·rw [bA hi] at h1
   rw [hvl,bA (by rw [← hh.len];exact hi)] at h2
   have hq:=aK h1
   have hqn:=hh.qn hq
   rw [hout q fun hm=>(hnn q hm).2.2.2 hq,uU _ _ _ (fun p hp=>?_),hag q (hh.q_in hq)]
   ·exact hh.gq i q v h1 h2
   ·simp only [Ol,bB,mJ,or_false] at hp
    rcases hp with rfl|rfl|rfl
    ·exact Ne.symm hqn.1
    ·exact Ne.symm hqn.2.1
    ·exact Ne.symm hqn.2.2
  ·rw [bK (by omega)] at h1
   rw [hvl,bK (by rw [← hh.len];omega),← hh.len] at h2
   exact tM _ _ hn (K4 h1 h2)
 ·simp only [bB,bD,not_or] at hj
  rw [hout j hj.2.2.2.2,uU _ _ _ fun p hp=>?_]
  simp only [Ol,bB,mJ,or_false] at hp
  rcases hp with rfl|rfl|rfl
  ·exact Ne.symm hj.1
  ·exact Ne.symm hj.2.1
  ·exact Ne.symm hj.2.2.1
 ·rw [qI,hids,JM]
theorem ACalls.wf {P:Program}{f:FuncId}{args:List D}{H:AHeap}{Q:D→AHeap→Prop}(he:TM P f)(h:(∀ j,H.al j→j<H.next)→(∀ j,¬ H.al j→H.get j=none)→ACalls P f args H Q):ACalls P f args H Q :=
 ⟨he,fun M0 σ w vals hR ha=>(h hR.nxt fun j hj=>(hR.top j hj).2).2 M0 σ w vals hR ha⟩
theorem Mt {md:Nat→Bool}{ops:Array Oper}{sp:List (Nat × Nat)}{n0 i:Nat}{rest:List Oper}{acc:List (Nat × List Nat)}{e:cY}{dst:Option Tmp}{K:cY→AHeap→Prop}{H:AHeap}
  (t:Types) (ht:t.ok) (r:Rule) (hR:RuleV t r) (x0:Host) (c:Part) (hc:c.nodes.length=r.right.graph.nodes.length) (hs:x0.graph.nodes.length≤1000∧x0.graph.edges.length≤1000∧x0.values.length≤1000)
  (lo a b V:Nat) (qs ns:List Nat) (hh:HH H lo a b V qs x0) (hl:ns.length=r.freshN.length) (hnd:(a :: b :: V :: (qs++ns)).Nodup) (hn0:n0≤H.next) (hfr:∀ j∈ns,j<n0∧¬ H.al j)
  (hmd:Df md dst=true) (hck:Ke sp i (a :: b :: V :: (qs++ns)) acc)
  (hK:∀ E,HH E 0 a b V (qs++ns) (jZ t r c x0)→(∀ j,j∉a :: b :: V :: (qs++ns)→E.get j=H.get j)→(∀ j,E.al j↔H.al j∨j∈ns)→E.next=H.next →
   iS Tryz.prog md ops sp n0 (i+1) rest ((i,a :: b :: V :: (qs++ns)) :: acc) (oW e dst (.agg [.own a (jZ t r c x0).graph.nodes.length,.own b (jZ t r c x0).graph.edges.length,.own V (jZ t r c x0).values.length])) E K) :
  o7 Tryz.prog md ops sp n0 i rest acc e dst K 86 [t.d,r.d,.agg [.own a x0.graph.nodes.length,.own b x0.graph.edges.length,.own V x0.values.length],c.d] H:=by
 have hids:(Sg t r ns).map (·.1)=ns:=EH (by simpa using hl)
 have hEnt:=(C2 t ht r hR x0 c hc hs H lo a b V qs hh (fun _ _=>True) (fun _ _ _ _ _ _=>trivial)).1
 unfold o7
 refine Or.inr ⟨hmd,.agg [.own a (jZ t r c x0).graph.nodes.length,.own b (jZ t r c x0).graph.edges.length,.own V (jZ t r c x0).values.length],a :: b :: V :: qs,Ol t r c x0 a b V qs ns,Sg t r ns,fun p hp=>?_,fun p hp=>hfr p.1 (by rw [← hids];exact mE hp),fun H' hag hfresh=>?_,?_,?_⟩
 ·simp only [Ol,bB,mJ,or_false] at hp
  rcases hp with rfl|rfl|rfl<;>simp
 ·refine ACalls.wf hEnt fun hnx hnon=>?_
  have hf':∀ j∈ns,j<H'.next∧¬ H'.al j:=fun j hj=>by
   rw [← hids,aU] at hj
   obtain ⟨p,hp,rfl⟩:=hj
   exact hfresh p hp
  have hgs:∀ j∈a :: b :: V :: qs,∃ k,H.get j=some k:=fun j hj=>by
   simp only [bB] at hj
   rcases hj with rfl|rfl|rfl|hq
   ·exact ⟨_,hh.ga⟩
   ·exact ⟨_,hh.gb⟩
   ·exact ⟨_,hh.gV⟩
   ·obtain ⟨p,hp,rfl⟩:=aT hq
    exact ⟨_,hh.gq p _ _ (aA hp) (aA (by rw [← hh.len];exact hp))⟩
  have hA:∀ j∈a :: b :: V :: qs,H'.al j:=fun j hj=>bP fun hn=>by
   obtain ⟨k,hk⟩:=hgs j hj
   have:=hag j hj
   rw [hk,hnon j hn] at this;cases this
  have hh':HH H' 0 a b V qs x0:=⟨(hag a hh.a_in).trans hh.ga,(hag b hh.b_in).trans hh.gb,(hag V hh.V_in).trans hh.gV,hh.len,fun i q v h1 h2=>(hag q (hh.q_in (aK h1))).trans (hh.gq i q v h1 h2),hh.nd,fun j hj=>⟨dY _,hnx j (hA j hj)⟩⟩
  have hlt:∀ j∈a :: b :: V :: (qs++ns),j<H'.next:=fun j hj=>by
   simp only [bB,bD] at hj
   rcases hj with h|h|h|h|h
   ·exact hnx j (hA j (by simp [h]))
   ·exact hnx j (hA j (by simp [h]))
   ·exact hnx j (hA j (by simp [h]))
   ·exact hnx j (hA j (by simp [h]))
   ·exact (hf' j h).1
  obtain ⟨g1,g2,g3,g4⟩:=Pt (t:=t) (r:=r) (c:=c) hh hag hl hnd hlt
  refine ACalls.exact (E:=(H'.puts (Ol t r c x0 a b V qs ns)).pushs (Sg t r ns)) (C2 t ht r hR x0 c hc hs H' 0 a b V qs hh' (fun d H1=>∃ ns1,(∀ j∈ns1,H'.next≤j)∧HH H1 0 a b V (qs++ns1) (jZ t r c x0)∧(∀ j,j<H'.next→j∉a :: b :: V :: qs→H1.get j=H'.get j)∧d=.agg [.own a (jZ t r c x0).graph.nodes.length,.own b (jZ t r c x0).graph.edges.length,.own V (jZ t r c x0).values.length]) (fun ns1 H1 k1 k2 k3 _=>⟨ns1,k1,k2,k3,rfl⟩)) ?_
  rintro _ _ d H1 ⟨ns1,k1,k2,k3,rfl⟩
  refine HH.exact g1 k2 hnx hnon (by rw [g2];exact bQ _) (fun j=>?_) (fun j hj hjn=>k3 j (hnx j hj) fun hm=>hjn (by simp only [bB,bD] at hm ⊢;rcases hm with h|h|h|h<;>simp [h])) g3 (fun p j j1 e1 e2=>?_)
  ·rw [g4]
   constructor
   ·rintro (h|h)
    ·exact .inl h
    ·exact .inr (by simp [h])
   ·rintro (h|h)
    ·exact .inl h
    ·simp only [bB,bD] at h
     rcases h with h|h|h|h|h
     ·exact .inl (hA j (by simp [h]))
     ·exact .inl (hA j (by simp [h]))
     ·exact .inl (hA j (by simp [h]))
     ·exact .inl (hA j (by simp [h]))
     ·exact .inr h
  ·have ea:∀ l:List Nat,a :: b :: V :: (qs++l)=(a :: b :: V :: qs)++l:=fun l=>rfl
   rw [ea] at e1 e2
   by_cases hp:p<(a :: b :: V :: qs).length
   ·rw [bA hp] at e1 e2
    rw [e1] at e2;cases e2
    exact ⟨fun _=>rfl,fun h=>h⟩
   ·rw [bK (by omega)] at e1 e2
    have m1:=hf' j (aK e1)
    have m2:=k1 j1 (aK e2)
    exact ⟨fun h=>absurd h m1.2,fun _ h=>by have:=hnx j1 h;omega⟩
 ·rw [hids];exact hck
 ·rw [hids]
  have hlt:∀ j∈a :: b :: V :: (qs++ns),j<H.next:=fun j hj=>by
   simp only [bB,bD] at hj
   rcases hj with h|h|h|h|h
   ·exact (hh.rng j (by simp [h])).2
   ·exact (hh.rng j (by simp [h])).2
   ·exact (hh.rng j (by simp [h])).2
   ·exact (hh.rng j (by simp [h])).2
   ·exact cT (hfr j h).1 hn0
  obtain ⟨g1,g2,g3,g4⟩:=Pt (t:=t) (r:=r) (c:=c) hh (fun _ _=>rfl) hl hnd hlt
  exact hK _ g1 g3 g4 g2
theorem Qj (c:Part)(vs:List Int)(l:List Slot)(s:Slot)(vals:List (List Int)):wY c vs (l++[s]) vals=(wY c vs l vals).set (f5 c s) (((wY c vs l vals)[f5 c s]?.getD []).set s.attr.toNat (gA s.term vs)):=by unfold wY;rw [oX];rfl
theorem AS (c:Part)(vs:List Int):∀ (l:List Slot) (vals:List (List Int)),(wY c vs l vals).length=vals.length∧∀ n:Nat,((wY c vs l vals)[n]?.getD []).length=(vals[n]?.getD []).length
 | [],vals=>⟨rfl,fun _=>rfl⟩
 | s :: l,vals=>by
  obtain ⟨h1,h2⟩:=AS c vs l (vals.set (f5 c s) ((vals[f5 c s]?.getD []).set s.attr.toNat (gA s.term vs)))
  have e:wY c vs (s :: l) vals=wY c vs l (vals.set (f5 c s) ((vals[f5 c s]?.getD []).set s.attr.toNat (gA s.term vs))):=rfl
  rw [e]
  refine ⟨by rw [h1,dX],fun n=>?_⟩
  rw [h2 n,c6]
  split
  ·rename_i hn
   subst hn
   split
   ·simp
   ·rename_i hn;rw [aX (by omega)]
  ·rfl
def CB (c:Part)(vs:List Int)(l:List Slot)(i k:Nat):Bool:=match l[k]?,l[i]? with|some a,some b=>OI c vs a b|_,_=>false
theorem IU (c:Part)(vs:List Int)(l:List Slot):Kd c vs l=(List.range l.length).any fun i=>(List.range i).any fun k=>CB c vs l i k:=rfl
structure PutOk (t:Types) (r:Rule) (x:Host) (c:Part):Prop where
 cl:c.nodes.length=r.right.graph.nodes.length
 few:x.graph.nodes.length≤2000∧x.graph.edges.length≤2000∧x.values.length≤2000
 spot:∀ s∈r.right.slots,0≤c.nodes[s.node.toNat]?.getD 0∧f5 c s<x.values.length∧f5 c s<x.graph.nodes.length
 attr:∀ s∈r.right.slots,s.attr<(x.values[f5 c s]?.getD []).length∧s.attr<(b7 t (x.graph.nodes[f5 c s]?.getD 0)).length
theorem NH (t:Types)(ht:t.ok)(r:Rule)(hR:RuleV t r)(x0:Host)(c:Part)(hP:PutOk t r x0 c)(vs:List Int)(hvl:vs.length=r.left.vars.toNat)(hvs:Sm vs)
  (G:AHeap) (lo a b V:Nat) (qs:List Nat) (hh0:HH G lo a b V qs x0) (Q:D→AHeap→Prop)
  (hQe:∀ H',DN t x0.graph c vs r.right.slots≠0→(∀ j,j<G.next→j∉a :: b :: V :: qs→H'.get j=G.get j)→G.next≤H'.next→Q (.tup [.agg [.nil,.nil,.nil],dI (DN t x0.graph c vs r.right.slots)]) H')
  (hQ:∀ H',DN t x0.graph c vs r.right.slots=0→(∀ j,j<G.next→j∉a :: b :: V :: qs→H'.get j=G.get j)→G.next≤H'.next→Q (.tup [Host.d ⟨x0.graph,wY c vs r.right.slots x0.values⟩,dI 0]) H') :
  ACalls Tryz.prog 88 [t.d,r.d,.agg [.own a x0.graph.nodes.length,.own b x0.graph.edges.length,.own V x0.values.length],c.d,dLI vs] G Q:=by
 have hgi:=eP hR.gr
 have ha0:=hh0.rng a hh0.a_in
 have hb0:=hh0.rng b hh0.b_in
 have hV0:=hh0.rng V hh0.V_in
 have hab:=hh0.ab
 have hsl:=hR.slots
 have hfew:=hR.few
 obtain ⟨l,hl⟩:∃ l,l=r.right.slots:=⟨_,rfl⟩
 rw [← hl] at hQe hQ hsl hfew
 have hspot:=hP.spot
 have hattr:=hP.attr
 rw [← hl] at hspot hattr
 have hcl:=hP.cl
 obtain ⟨Q',hQ'⟩:∃ Q':D→AHeap→Prop,∀ d H',Q' d H'↔Q (EC H' d) (eW (zH H' d) H'):=⟨_,fun _ _=>Iff.rfl⟩
 refine ACalls.deep ?_
 rw [show (fun d H'=>Q (EC H' d) (eW (zH H' d) H'))=Q' from funext fun d=>funext fun H'=>propext (hQ' d H').symm]
 refine (aH (cfg:=⟨fun t=>t==7||t==10,fun _=>[]⟩) Tz.mixed Tryz.func88 rfl rfl (aE rfl) (by kernel_rfl) ?_)
 have Y:=wa @Part.d.eq_1 (wa @Part.c.eq_1 (wa (Eq.symm hl) @Term.c.eq_1))
 refine wv (h:=bG (fun i e H=>∃ X:Nat,∃ R:Nat,(e 5=.adr t.c∧e 6=.adr r.c∧e 8=.adr c.c∧e 4=dLI vs∧e 12=.list (l.map Slot.c)∧e 7=.ptr X 1 0 0∧e 10=.ptr R 1 0 0∧e 13=dI i)∧(H.get X=some ⟨40,3,[[.own a x0.graph.nodes.length,.own b x0.graph.edges.length,.own V x0.values.length]],false⟩)∧(X<H.next)∧(H.get R=some ⟨40,3,[[.nil,.nil,.nil]],false⟩)∧(R<H.next)∧(i≤l.length)∧(HH H lo a b V qs x0)∧(∀ j∈a :: b :: V :: qs,j≠X∧j≠R)∧(G.next≤X∧X<R)∧(∀ p q,p<i→q<p→CB c vs l p q=false)∧(∀ j,j<G.next→j∉a :: b :: V :: qs→H.get j=G.get j)∧(G.next≤H.next)) (fun i=>l.length - i) 0 ⟨G.next,(G.next+1),wg,wn,wn,wn,wn,wi,(by (exact hh0.same (by simp [go_sem];omega) (fun j hj=>by have:=(hh0.rng j hj).2;simp [go_sem,cG this]))),(by (intro j hj;have:=(hh0.rng j hj).2;omega)),(by omega),(by (intro p q hp;omega)),(by (intro j hj _;simp [go_sem,cG hj])),(by (simp [go_sem];omega))⟩ fun I0 hI0 i e H hi0=>?_)
 obtain ⟨X,R,E0,gX_0,nX_0,gR_0,nR_0,hi,hh,hXq,hXR,hC,hG,hnx⟩:=hi0
 have di1:=And.intro (c5 (show R≠X by omega)) (And.intro (c5 (show R≠V by omega)) (And.intro (c5 (show R≠b by omega)) (And.intro (c5 (show R≠a by omega)) (And.intro (c5 (show X≠V by omega)) (And.intro (c5 (show X≠b by omega)) (And.intro (c5 (show X≠a by omega)) (And.intro (c5 (show V≠b by omega)) (And.intro (c5 (show V≠a by omega)) (c5 (show b≠a by omega))))))))))
 have Y:=wa Y (wa E0 (wa gX_0 (wa (cG nX_0) (wa gR_0 (wa (cG nR_0) di1)))))
 refine pH (fun h3=>?_) fun h3=>?_
 ·have hlm:=aB h3
  have hTi:=(hsl _ hlm).2.2
  have hni:=(hsl _ hlm).1
  have hnc:l[i].node.toNat<c.nodes.length:=by omega
  have Y:=wa Y (wa h3 (wa (aA h3) (wa @Slot.c.eq_1 (aA hnc))))
  refine wp (h:=aC (iF l[i].term vs (by rw [hvl];exact hTi) hvs) wl ?_)
  refine wp (h:=bG (fun k e H=>(e 5=.adr t.c∧e 6=.adr r.c∧e 8=.adr c.c∧e 4=dLI vs∧e 12=.list (l.map Slot.c)∧e 7=.ptr X 1 0 0∧e 10=.ptr R 1 0 0∧e 13=dI i∧e 14=dI (gA l[i].term vs)∧e 16=dI k)∧(H.get X=some ⟨40,3,[[.own a x0.graph.nodes.length,.own b x0.graph.edges.length,.own V x0.values.length]],false⟩)∧(X<H.next)∧(H.get R=some ⟨40,3,[[.nil,.nil,.nil]],false⟩)∧(R<H.next)∧(k≤i)∧(HH H lo a b V qs x0)∧(∀ q,q<k→CB c vs l i q=false)∧(∀ j,j<G.next→j∉a :: b :: V :: qs→H.get j=G.get j)∧(G.next≤H.next)) (fun k=>i - k) 0 ⟨wg,wn,wn,wn,wn,wi,(by exact hh.same (by first|(simp [go_sem];done)|(simp [go_sem];omega)) (fun _ _=>rfl)),(by (intro q hq;omega)),(by exact hG),(by (first|exact hnx|(simp [go_sem];omega)))⟩ fun I2 hI2 k e H hi2=>?_)
  obtain ⟨E2,gX_2,nX_2,gR_2,nR_2,hk,hh2,hC2,hG2,hn2⟩:=hi2
  have di2:=And.intro (c5 (show R≠X by omega)) (And.intro (c5 (show R≠V by omega)) (And.intro (c5 (show R≠b by omega)) (And.intro (c5 (show R≠a by omega)) (And.intro (c5 (show X≠V by omega)) (And.intro (c5 (show X≠b by omega)) (And.intro (c5 (show X≠a by omega)) (And.intro (c5 (show V≠b by omega)) (And.intro (c5 (show V≠a by omega)) (c5 (show b≠a by omega))))))))))
  have Y:=wa Y (wa E2 (wa gX_2 (wa (cG nX_2) (wa gR_2 (wa (cG nR_2) di2)))))
  refine d7 (fun h7=>?_) fun h7=>?_
  ·have hkl:k<l.length:=by omega
   have hlk:=aB hkl
   have hTk:=(hsl _ hlk).2.2
   have hnk:=(hsl _ hlk).1
   have hnck:l[k].node.toNat<c.nodes.length:=by omega
   have hs1:=(hspot _ hlm).1
   have hs2:=(hspot _ hlk).1
   rw [aA hnc,aD] at hs1
   rw [aA hnck,aD] at hs2
   have hCI:CB c vs l i k=(decide (c.nodes[l[k].node.toNat]=c.nodes[l[i].node.toNat])&&(decide (l[k].attr=l[i].attr)&&decide (gA l[k].term vs≠gA l[i].term vs))):=by
    unfold CB OI f5
    simp only [aA hkl,aA h3,aA hnc,aA hnck,aD]
    rw [show (decide ((c.nodes[l[k].node.toNat]).toNat=(c.nodes[l[i].node.toNat]).toNat))=decide (c.nodes[l[k].node.toNat]=c.nodes[l[i].node.toNat]) from by rw [decide_eq_decide];omega]
   have Y:=wa Y (wa h7 (wa (aA hkl) (aA hnck)))
   refine wp (h:=aC (iF l[k].term vs (by rw [hvl];exact hTk) hvs) wl ?_)
   refine pH (fun h10=>?_) fun h10=>?_
   ·have hB:Kd c vs l=true:=by
     rw [IU,List.any_eq_true]
     refine ⟨i,by simpa using h3,?_⟩
     rw [List.any_eq_true]
     refine ⟨k,by simpa using h7,?_⟩
     rw [hCI];simp at h10 ⊢;exact ⟨h10.1.1,h10.1.2,fun e=>h10.2 e.symm⟩
    have hE:DN t x0.graph c vs l=11:=by unfold DN;rw [if_pos hB]
    refine wv (h:=?_)
    rw [hE] at hQe;refine (hQ' _ _).2 ?_;simp only [EC,C0,K1,gQ,zH,FJ,J1,iW,fA,rK,vU,HB,fE,eW];exact hQe _ (by decide) (fun j hj hjn=>by simp [go_sem,show j≠R by omega];exact hG2 j hj hjn) (by first|(simp [go_sem];omega)|exact hn2)
   ·have hCk:CB c vs l i k=false:=by
     rw [hCI,bO];intro hT;simp at hT
     exact hT.2.2 (h10 hT.1 hT.2.1).symm
    exact wp (h:=wx hI2 (k+1) ⟨wg,wn,wn,wn,wn,wj,(by exact hh2.same (by first|(simp [go_sem];done)|(simp [go_sem];omega)) (fun _ _=>rfl)),(by (intro q hq;rcases b8 q k with hqk|hqk;exact hC2 q hqk;(obtain rfl:q=k:=(by omega);exact hCk))),(by exact hG2),(by (first|exact hn2|(simp [go_sem];omega)))⟩)
  ·exact wp (h:=wx hI0 (i+1) ⟨X,R,wg,wn,wn,wn,wn,wj,(by (exact hh2)),(by exact hXq),(by exact hXR),(by (intro p q hp hq;rcases b8 p i with hpi|hpi;exact hC p q hpi hq;(obtain rfl:p=i:=(by omega);exact hC2 q (by omega)))),(by exact hG2),(by exact hn2)⟩)
 ·have hB:Kd c vs l=false:=by
   rw [IU,bO];intro hT
   rw [List.any_eq_true] at hT
   obtain ⟨p,hp,hT⟩:=hT
   rw [List.any_eq_true] at hT
   obtain ⟨q,hq,hT⟩:=hT
   rw [aZ] at hp hq
   rw [hC p q (by omega) hq] at hT;cases hT
  have hE0:DN t x0.graph c vs l=if l.any (Hc t x0.graph c vs)=true then 6 else 0:=by unfold DN;rw [if_neg (by rw [hB];simp)]
  refine wv (h:=bG (fun i e H=>∃ x:Host,(e 5=.adr t.c∧e 6=.adr r.c∧e 8=.adr c.c∧e 4=dLI vs∧e 12=.list (l.map Slot.c)∧e 7=.ptr X 1 0 0∧e 10=.ptr R 1 0 0∧e 19=dI i)∧(H.get X=some ⟨40,3,[[.own a x0.graph.nodes.length,.own b x0.graph.edges.length,.own V x0.values.length]],false⟩)∧(X<H.next)∧(H.get R=some ⟨40,3,[[.nil,.nil,.nil]],false⟩)∧(R<H.next)∧(i≤l.length)∧(x=⟨x0.graph,wY c vs (l.take i) x0.values⟩)∧(HH H lo a b V qs x)∧((l.take i).any (Hc t x0.graph c vs)=false)∧(∀ j,j<G.next→j∉a :: b :: V :: qs→H.get j=G.get j)∧(G.next≤H.next)) (fun i=>l.length - i) 0 ⟨x0,wg,wn,wn,wn,wn,wi,(by rfl),(by exact hh),(by rfl),(by exact hG),(by exact hnx)⟩ fun I4 hI4 i e H hi4=>?_)
  obtain ⟨x,E4,gX_4,nX_4,gR_4,nR_4,hi4,hx,hh4,hO,hG4,hn4⟩:=hi4
  have di3:=And.intro (c5 (show R≠X by omega)) (And.intro (c5 (show R≠V by omega)) (And.intro (c5 (show R≠b by omega)) (And.intro (c5 (show R≠a by omega)) (And.intro (c5 (show X≠V by omega)) (And.intro (c5 (show X≠b by omega)) (And.intro (c5 (show X≠a by omega)) (And.intro (c5 (show V≠b by omega)) (And.intro (c5 (show V≠a by omega)) (c5 (show b≠a by omega))))))))))
  have Y:=wa Y (wa E4 (wa gX_4 (wa (cG nX_4) (wa gR_4 (wa (cG nR_4) di3)))))
  refine pH (fun h13=>?_) fun h13=>?_
  ·have hlm:=aB h13
   have hTi:=(hsl _ hlm).2.2
   have hni:=(hsl _ hlm).1
   have hat:=(hsl _ hlm).2.1
   have hnc:l[i].node.toNat<c.nodes.length:=by omega
   obtain ⟨s1,s2,s3⟩:=hspot _ hlm
   obtain ⟨a1,a2⟩:=hattr _ hlm
   have hsp:f5 c l[i]=(c.nodes[l[i].node.toNat]).toNat:=by unfold f5;rw [aA hnc];rfl
   rw [aA hnc,aD] at s1
   have hpl:=AS c vs (l.take i) x0.values
   have hxg:x.graph=x0.graph:=by rw [hx]
   have hxv:x.values=wY c vs (l.take i) x0.values:=by rw [hx]
   have hxl:x.values.length=x0.values.length:=by rw [hxv];exact hpl.1
   have hnV:f5 c l[i]<x.values.length:=by omega
   have hnN:f5 c l[i]<x.graph.nodes.length:=by rw [hxg];exact s3
   have hnQ:f5 c l[i]<qs.length:=by rw [hh4.len];exact hnV
   obtain ⟨q,hq⟩:∃ q,q=qs[f5 c l[i]]:=⟨_,rfl⟩
   obtain ⟨v,hv⟩:∃ v,v=x.values[f5 c l[i]]:=⟨_,rfl⟩
   have e1:qs[f5 c l[i]]?=some q:=by rw [aA hnQ,hq]
   have e2:x.values[f5 c l[i]]?=some v:=by rw [aA hnV,hv]
   have hrow:=yB e1 e2
   have hgq:=hh4.gq _ _ _ e1 e2
   have hvl2:v.length=(x0.values[f5 c l[i]]?.getD []).length:=by rw [← hpl.2,← hxv,e2];rfl
   have hav:l[i].attr.toNat<v.length:=by omega
   obtain ⟨nd,hnd⟩:∃ y,y=x.graph.nodes[f5 c l[i]]:=⟨_,rfl⟩
   have hnd0:x0.graph.nodes[f5 c l[i]]?.getD 0=nd:=by rw [hnd,← hxg,aA hnN];rfl
   rw [hnd0] at a2
   have haA:l[i].attr.toNat<(b7 t nd).length:=by omega
   have hqin:q∈qs:=aK e1
   have hqr:=hh4.rng q (hh4.q_in hqin)
   have hqX:=hXq q (hh4.q_in hqin)
   have hqn:=hh4.qn hqin
   have hOB:Hc t x0.graph c vs l[i]=(decide (gA l[i].term vs<(b7 t nd)[l[i].attr.toNat].low)||decide ((b7 t nd)[l[i].attr.toNat].high<gA l[i].term vs)):=by unfold Hc;rw [hnd0,aA haA];rfl
   have gga:=hh4.ga
   have ggb:=hh4.gb
   have ggV:=hh4.gV
   have hgl:x0.graph.nodes.length=x.graph.nodes.length:=by rw [hxg]
   have hrl:=nU hh4.len
   have di4:=And.intro (c5 (show R≠X by omega)) (And.intro (c5 (show R≠V by omega)) (And.intro (c5 (show R≠b by omega)) (And.intro (c5 (show R≠a by omega)) (And.intro (c5 (show R≠q by omega)) (And.intro (c5 (show X≠V by omega)) (And.intro (c5 (show X≠b by omega)) (And.intro (c5 (show X≠a by omega)) (And.intro (c5 (show X≠q by omega)) (And.intro (c5 (show V≠b by omega)) (And.intro (c5 (show V≠a by omega)) (And.intro (c5 (show V≠q by omega)) (And.intro (c5 (show b≠a by omega)) (And.intro (c5 (show b≠q by omega)) (c5 (show a≠q by omega)))))))))))))))
   have Y:=wa Y (wa h13 (wa (aA h13) (wa @Slot.c.eq_1 (wa (aA hnc) (wa (Eq.symm hsp) (wa gga (wa ggb (wa ggV (wa hrow (wa hgq (wa hrl (wa (aA hnN) (wa (Eq.symm hnd) (wa (aA haA) (wa (aA hav) (wa @Attr.c.eq_1 (wa hxl.symm (wa hgl di4))))))))))))))))))
   refine wp (h:=aC (iF l[i].term vs (by rw [hvl];exact hTi) hvs) wl ?_)
   refine wp (h:=aM (jP t ht nd) wl ?_)
   refine pH (fun h18=>?_) fun h18=>?_
   ·have hT:l.any (Hc t x0.graph c vs)=true:=List.any_eq_true.2 ⟨_,hlm,by rw [hOB];simpa using h18⟩
    rw [if_pos hT] at hE0
    refine wv (h:=?_)
    rw [hE0] at hQe;refine (hQ' _ _).2 ?_;simp only [EC,C0,K1,gQ,zH,FJ,J1,iW,fA,rK,vU,HB,fE,eW];exact hQe _ (by decide) (fun j hj hjn=>by simp [go_sem,show j≠R by omega];exact hG4 j hj hjn) (by first|(simp [go_sem];omega)|exact hn4)
   ·have hOi:Hc t x0.graph c vs l[i]=false:=by rw [hOB];simpa using h18
    obtain ⟨x2,hx2⟩:∃ y:Host,y=⟨x.graph,x.values.set (f5 c l[i]) (v.set l[i].attr.toNat (gA l[i].term vs))⟩:=⟨_,rfl⟩
    have hx3:x2=⟨x0.graph,wY c vs (l.take (i+1)) x0.values⟩:=by
     rw [hx2,aF h13,Qj,← hxv,e2,hxg];rfl
    exact wp (h:=wx hI4 (i+1) ⟨x2,wg,wn,wn,wn,wn,wj,(by exact hx3),(by (rw [hx2];exact hh4.rowSet (by first|(simp [go_sem];done)|(simp [go_sem];omega)) e1 e2 (by simp) (by simp [go_sem,Y,cK,cI]) (fun j hj hjq=>by simp [go_sem,hjq]))),(by (rw [aF h13,oG,hO];simp [hOi])),(by (intro j hj hjn;simp [go_sem,show j≠q from fun e=>hjn (e ▸ hh4.q_in hqin)];exact hG4 j hj hjn)),(by (simp [go_sem];omega))⟩)
  ·rw [aI (by omega)] at hO hx
   rw [if_neg (by rw [hO];simp)] at hE0
   have hxg:x.graph=x0.graph:=by rw [hx]
   have hxl:x.values.length=x0.values.length:=by rw [hx];exact (AS c vs l x0.values).1
   refine wv (h:=?_)
   refine (hQ' _ _).2 ?_
   obtain ⟨E,hEq⟩:∃ E,E=H.put R ⟨40,3,[[.own a x0.graph.nodes.length,.own b x0.graph.edges.length,.own V x0.values.length]],false⟩:=⟨_,rfl⟩
   have hh5:HH E lo a b V qs x:=hh4.same (by rw [hEq];simp [go_sem]) (fun j hj=>by rw [hEq];simp [go_sem,(hXq j hj).2])
   rw [← hEq]
   have hd:=hh5.deep
   rw [hxg,hxl] at hd
   have hids:=hh5.ids x0.graph.nodes.length x0.graph.edges.length x0.values.length 0
   simp only [dI] at hids
   have hdi:C0 E (D.int .i64 0)=.int .i64 0:=rfl
   simp only [EC,fA,rK,hd,hdi]
   rw [hx]
   refine hQ _ hE0 (fun j hj hjn=>?_) ?_
   ·rw [Ai _ _ j (fun hm=>hjn (hids _ hm)),hEq];simp [go_sem,show j≠R by omega];exact hG4 j hj hjn
   ·rw [(u4 _ E).2,hEq];simp [go_sem];exact hn4
theorem I9 {l:List Int}(hn:l.Nodup){p:Nat}(hp:p<l.length):∀ n,n≤l.length→j6 l n l[p]=if p<n then (p:Int) else -1
 | 0,_=>rfl
 | n+1,h=>by
  rw [q6,I9 hn hp n (by omega),aA (by omega),aD]
  by_cases he:n=p
  ·subst he;rw [if_pos rfl,if_pos (by omega)]
  ·rw [if_neg (fun e=>he ((rE hn).1 e))]
   by_cases h2:p<n
   ·rw [if_pos h2,if_pos (by omega)]
   ·rw [if_neg h2,if_neg (by omega)]
theorem Gm {l:List Int}(hn:l.Nodup){p:Nat}(hp:p<l.length):j6 l l.length l[p]=p:=by rw [I9 hn hp _ (bQ _),if_pos hp]
theorem CE {l:List Int}{v:Int}(h:v∉l):∀ n,n≤l.length→j6 l n v = -1
 | 0,_=>rfl
 | n+1,hl=>by
  rw [q6,CE h n (by omega),aA (by omega),aD,if_neg]
  exact fun e=>h (e ▸ aB _)
theorem Q1 {l:List Int}(hn:l.Nodup)(v:Int):decide (j6 l l.length v<0) = !mem l v:=by
 by_cases h:v∈l
 ·obtain ⟨p,hp,rfl⟩:=aT h
  rw [Gm hn hp,(dM _ _).2 h];simp
 ·rw [CE h _ (bQ _),bO.2 fun hm=>h ((dM _ _).1 hm)];rfl
theorem Td {l:List Int}(hn:l.Nodup)(i:Nat):Fh l i=(cZ l i).length:=by
 unfold Fh cZ
 rw [bE]
 congr 1
 exact vV fun j _=>Q1 hn j
theorem Ih {l:List Int}:∀ (n j:Nat),j<n→mem l j=false→(cZ l n)[(cZ l j).length]?=some (j:Int)
 | n+1,j,hj,hm=>by
  rw [uV]
  by_cases h:j=n
  ·subst h
   rw [if_neg (by rw [hm];simp),bK (bQ _)];simp
  ·have:=Ih n j (by omega) hm
   rw [bA (aO.1 this).1];exact this
theorem Q4 {l:List Int}(h:l.Pairwise (· < ·)):l.Nodup:=h.imp fun h=>by omega
structure StepIn (t:Types) (r:Rule) (h:Host) (m:Mat):Prop where
 hR:RuleV t r
 ho:HostOk t h
 hm:MOk t r.left.graph h.graph m.m
 hc:xM (vL r.left.graph h.graph m.m) h.graph r.keep m.m=0
section
variable {t:Types} {r:Rule} {h:Host} {m:Mat}
theorem Rr (hR:RuleV t r)(ho:HostOk t h)(hp:yU t r h m=0):StepIn t r h m:=by
 unfold yU at hp
 split at hp
 ·cases hp
 ·rename_i h1
  split at hp
  ·exact absurd hp (by assumption)
  ·split at hp
   ·cases hp
   ·exact ⟨hR,ho,z2 (yM (by simpa using h1)).2,hp⟩
theorem StepIn.rest (S:StepIn t r h m):dD r h m=⟨cZ (iR m.m.nodes r.keep.nodes) h.graph.nodes.length,cZ (iR m.m.edges r.keep.edges) h.graph.edges.length⟩:=by unfold dD Bw;rw [if_pos S.hc]
theorem StepIn.sub (S:StepIn t r h m):subF h.graph (dD r h m)=0:=TC S.hc
theorem StepIn.nasc (S:StepIn t r h m):(dD r h m).nodes.Pairwise (· < ·):=by rw [S.rest];exact rX _ _
theorem StepIn.easc (S:StepIn t r h m):(dD r h m).edges.Pairwise (· < ·):=by rw [S.rest];exact rX _ _
theorem StepIn.nin (S:StepIn t r h m):∀ x∈(dD r h m).nodes,0≤x∧x<h.graph.nodes.length:=(x9 S.sub).2.2.1
theorem StepIn.ein (S:StepIn t r h m):∀ x∈(dD r h m).edges,0≤x∧x<h.graph.edges.length:=(x9 S.sub).2.2.2
theorem StepIn.len (S:StepIn t r h m):(dD r h m).nodes.length≤40∧(dD r h m).edges.length≤80:=by
 have hg:=bZ S.ho.gg
 have h1:=SE S.nasc S.nin
 have h2:=SE S.easc S.ein
 omega
theorem StepIn.dup (S:StepIn t r h m):v6 m.m.nodes r.keep.nodes=[]∧v6 m.m.edges r.keep.edges=[]:=⟨(D9 S.hc).2.2.1,(D9 S.hc).2.2.2.1⟩
theorem StepIn.keptN (S:StepIn t r h m){k:Int}(hk:k∈r.keep.nodes):iA m.m.nodes k∈(dD r h m).nodes:=by
 have hK:=S.hR.keep
 have hl:=S.hm.len
 have hr:=hK.2.1 k hk
 have h1:=Cm S.dup.1 hr.1 (by omega) hk
 rw [S.rest]
 have h2:=(S.hm.img k.toNat (by omega) (by omega)).1
 have e:iA m.m.nodes k=m.m.nodes[k.toNat]'(by omega):=by unfold iA;rw [aA (by omega)];rfl
 exact l8.2 ⟨by rw [e];exact h2,h1⟩
theorem StepIn.bareN (S:StepIn t r h m):(eB t r h m).graph.nodes=(dD r h m).nodes.map (gN h.graph)++r.freshN.map (gN r.right.graph):=by
 unfold eB jZ cM;rw [if_pos S.sub]
theorem StepIn.bareE (S:StepIn t r h m):(eB t r h m).graph.edges=(dD r h m).edges.map (gEd h.graph (dD r h m))++r.freshE.map (fun k=>freshE (v7 r h m) (r.right.graph.edges[k.toNat]?.getD bS)):=by
 unfold eB jZ cM;rw [if_pos S.sub]
theorem Uf:(eB t r h m).values=(dD r h m).nodes.map (fun k=>h.values[k.toNat]?.getD [])++r.freshN.map (fun k=>sX t (gN r.right.graph k)):=rfl
theorem StepIn.intoN (S:StepIn t r h m):r.into.nodes.Nodup∧r.into.edges.Nodup:=by
 have:=S.hR.inj
 unfold He at this
 simp only [aL,decide_eq_true_eq] at this
 exact this.2
theorem StepIn.kept_type (S:StepIn t r h m){p:Nat}(hp:p<r.into.nodes.length)(hq:p<r.keep.nodes.length):gN r.right.graph r.into.nodes[p]=gN r.left.graph r.keep.nodes[p]:=by
 have e1:(cM r.left.graph r.keep).nodes.length=r.keep.nodes.length:=by unfold cM;rw [if_pos S.hR.sub];simp
 have hmn:=(N6 S.hR.mo (i:=(p:Int)) (by omega) (by omega)).2
 rw [J8 S.hR.sub (by omega) (by omega)] at hmn
 simpa [iA,aA hp,aA hq] using hmn
theorem StepIn.com (S:StepIn t r h m){i:Nat}(hi:i<r.right.graph.nodes.length):∃ n:Nat,(v7 r h m).nodes[i]?=some (n:Int)∧∃ hn:n<(eB t r h m).graph.nodes.length,y0 t r.right.graph.nodes[i] ((eB t r h m).graph.nodes[n])=true:=by
 obtain ⟨hK1,hK2,hK3,hK4,hK5⟩:=S.hR.keep
 have hml:=S.hm.len
 have hin:=S.intoN.1
 have hcm:(v7 r h m).nodes[i]?=some (Ss r.keep.nodes r.into.nodes (Ea m.m.nodes (wJ r h m).nodes) (dD r h m).nodes.length i):=by
  unfold v7 Na;simp [hi]
 rw [hcm]
 have hb:=S.bareN
 have hvt:=fF S.hR.vf
 have hri:=(j7 S.hR.gr S.hR.tr).1 _ (aB hi)
 by_cases hm:(i:Int)∈r.into.nodes
 ·obtain ⟨p,hp,he⟩:=aT hm
  have hq:p<r.keep.nodes.length:=by omega
  have hkr:=hK2 _ (aB hq)
  have hkm:r.keep.nodes[p].toNat<m.m.nodes.length:=by omega
  have hD:=S.keptN (aB hq)
  obtain ⟨n,hn,hne⟩:=aT hD
  have hv:=S.nin _ (aB hn)
  have hiA:iA m.m.nodes r.keep.nodes[p]=m.m.nodes[r.keep.nodes[p].toNat]:=by unfold iA;rw [aA hkm];rfl
  have hco:Ss r.keep.nodes r.into.nodes (Ea m.m.nodes (wJ r h m).nodes) (dD r h m).nodes.length i=n:=by
   unfold Ss
   rw [← he,Gm hin hp,if_pos (by omega)]
   rw [show (p:Int).toNat=p by omega,aA hq,aD]
   unfold Ea wJ Nh
   rw [aR,aA hkm,fD,aD]
   rw [← hiA,← hne]
   simp only
   rw [I7 _ (by omega),aD,show (((dD r h m).nodes[n].toNat:Nat):Int)=(dD r h m).nodes[n] by omega,Gm (Q4 S.nasc) hn]
  refine ⟨n,by rw [hco],by rw [hb];simp;omega,?_⟩
  have hty:=S.kept_type hp hq
  rw [he] at hty
  have hgr:gN r.right.graph (i:Int)=r.right.graph.nodes[i]:=by simp [gN,aA hi]
  have hkl:r.keep.nodes[p].toNat<r.left.graph.nodes.length:=by omega
  have hgl:gN r.left.graph r.keep.nodes[p]=r.left.graph.nodes[r.keep.nodes[p].toNat]:=by simp [gN,aA hkl]
  rw [hgr,hgl] at hty
  rw [hty]
  have hbel:=(S.hm.img _ hkm hkl).2
  have hx:(eB t r h m).graph.nodes[n]?=some (h.graph.nodes[(m.m.nodes[r.keep.nodes[p].toNat]).toNat]?.getD 0):=by
   rw [hb,bA (by simpa using hn),aR,aA hn,fD,hne,hiA];rfl
  obtain ⟨_,hx2⟩:=aO.1 hx
  rw [hx2];exact hbel
 ·have hmf:mem r.into.nodes i=false:=bO.2 fun h=>hm ((dM _ _).1 h)
  have hco:Ss r.keep.nodes r.into.nodes (Ea m.m.nodes (wJ r h m).nodes) (dD r h m).nodes.length i=(((dD r h m).nodes.length+(cZ r.into.nodes i).length:Nat):Int):=by
   unfold Ss
   rw [if_neg (by rw [CE hm _ (bQ _)];omega),Td hin]
  have hoa:=Ih r.right.graph.nodes.length i hi hmf
  have hlt:(cZ r.into.nodes i).length<r.freshN.length:=(aO.1 hoa).1
  refine ⟨(dD r h m).nodes.length+(cZ r.into.nodes i).length,by rw [hco],by rw [hb];simp;omega,?_⟩
  have hx:(eB t r h m).graph.nodes[(dD r h m).nodes.length+(cZ r.into.nodes i).length]?=some r.right.graph.nodes[i]:=by
   rw [hb,bK (by simp),bE,Nat.add_sub_cancel_left,aR]
   have:r.freshN[(cZ r.into.nodes i).length]?=some (i:Int):=hoa
   rw [this];simp [gN,aA hi]
  obtain ⟨_,hx2⟩:=aO.1 hx
  rw [hx2]
  unfold y0
  have:=Cg hvt (a:=(r.right.graph.nodes[i]).toNat) (by omega)
  rw [show (((r.right.graph.nodes[i]).toNat:Nat):Int)=r.right.graph.nodes[i] by omega] at this
  exact this
theorem StepIn.vlen (S:StepIn t r h m):(eB t r h m).values.length=(eB t r h m).graph.nodes.length:=by rw [S.bareN,Uf];simp
theorem R4 {k:Int}(hv:(cW t).2=0)(h0:0≤k)(h1:k<t.nodes.length)(ha:nB t k.toNat=false):jX t k (sX t k)=0:=by
 unfold jX
 rw [if_neg (by omega),if_neg (by rw [ha];simp),if_neg (by simp [sX])]
 refine pY _ _ fun j _ hj=>?_
 have hj':j<(b7 t k).length:=by omega
 unfold JV sX
 rw [aR,aA hj',fD,aD,aD,if_neg]
 have:=(Bz hv k _ (aB hj')).le
 omega
theorem StepIn.fresh_node (S:StepIn t r h m):∀ k∈r.freshN,(0≤gN r.right.graph k∧gN r.right.graph k<t.nodes.length)∧nB t (gN r.right.graph k).toNat=false:=fun k hk=>by
 have hr:=dQ hk
 have hin:=(j7 S.hR.gr S.hR.tr).1 _ (J6 hr.1 hr.2)
 refine ⟨hin,?_⟩
 have:=S.hR.mkb
 unfold zF at this
 rw [aL,cV,fU] at this
 have h1:=this.1 k hk
 unfold absB at h1
 unfold nB
 rw [aA (show (gN r.right.graph k).toNat<t.nodes.length by omega)] at h1 ⊢
 simpa using h1
theorem StepIn.node (S:StepIn t r h m):∀ (n:Nat) (h1:n<(eB t r h m).graph.nodes.length) (h2:n<(eB t r h m).values.length),jX t (eB t r h m).graph.nodes[n] (eB t r h m).values[n]=0:=fun n h1 h2=>by
 have e1:=S.bareN
 have e2:(eB t r h m).values=_:=Uf
 have g1:(eB t r h m).graph.nodes[n]?=some (eB t r h m).graph.nodes[n]:=aA h1
 have g2:(eB t r h m).values[n]?=some (eB t r h m).values[n]:=aA h2
 generalize (eB t r h m).graph.nodes[n]=x at *
 generalize (eB t r h m).values[n]=y at *
 rw [e1] at g1;rw [e2] at g2
 by_cases hn:n<(dD r h m).nodes.length
 ·rw [bA (by simpa using hn),aR,aA hn] at g1 g2
  simp only [fD,bH] at g1 g2
  have hv:=S.nin _ (aB hn)
  have hl:=S.ho.vl
  have a1:(dD r h m).nodes[n].toNat<h.graph.nodes.length:=by omega
  have a2:(dD r h m).nodes[n].toNat<h.values.length:=by omega
  rw [aA a2] at g2
  unfold gN at g1
  rw [aA a1] at g1
  have:=S.ho.nd _ a1 a2
  rw [← g1,← g2];exact this
 ·have l1:((dD r h m).nodes.map (gN h.graph)).length=(dD r h m).nodes.length:=by simp
  have l2:((dD r h m).nodes.map fun k=>h.values[k.toNat]?.getD []).length=(dD r h m).nodes.length:=by simp
  rw [bK (by omega),l1,aR,bJ] at g1
  rw [bK (by omega),l2,aR,bJ] at g2
  obtain ⟨k,hk,rfl⟩:=g1
  obtain ⟨k',hk',rfl⟩:=g2
  rw [hk] at hk';cases hk'
  obtain ⟨⟨b1,b2⟩,b3⟩:=S.fresh_node k (aK hk)
  exact R4 S.hR.vf b1 b2 b3
theorem StepIn.bin (S:StepIn t r h m):∀ a∈(eB t r h m).graph.nodes,0≤a∧a<t.nodes.length:=fun a ha=>by
 rw [S.bareN,bD,aU,aU] at ha
 rcases ha with ⟨k,hk,rfl⟩|⟨k,hk,rfl⟩
 ·exact sA S.ho _ (J6 (S.nin k hk).1 (S.nin k hk).2)
 ·exact (S.fresh_node k hk).1
theorem StepIn.put (S:StepIn t r h m):PutOk t r (eB t r h m) (v7 r h m):=by
 have hl:=S.len
 have hg:=bZ S.hR.gr
 have hf1:r.freshN.length≤r.right.graph.nodes.length:=eG _ _
 have hf2:r.freshE.length≤r.right.graph.edges.length:=eG _ _
 have hN:(eB t r h m).graph.nodes.length≤80:=by rw [S.bareN];simp;omega
 have hE:(eB t r h m).graph.edges.length≤160:=by rw [S.bareE];simp;omega
 have hV:=S.vlen
 have key:∀ s∈r.right.slots,∃ n:Nat,(v7 r h m).nodes[s.node.toNat]?=some (n:Int)∧∃ hn:n<(eB t r h m).graph.nodes.length,s.attr<(b7 t (eB t r h m).graph.nodes[n]).length:=fun s hs=>by
  obtain ⟨⟨a1,a2⟩,a3,a4⟩:=S.hR.slots s hs
  have hi:s.node.toNat<r.right.graph.nodes.length:=by omega
  obtain ⟨n,e1,hn,e2⟩:=S.com hi
  refine ⟨n,e1,hn,?_⟩
  rw [aA hi,aD] at a3
  have hri:=(j7 S.hR.gr S.hR.tr).1 _ (aB hi)
  have hno:=(tX (S.node n hn (by omega))).1
  have hn0:=(S.bin _ (aB hn)).1
  rw [p6 S.hR.vf hri.1 hri.2] at a3
  rw [p6 S.hR.vf hn0 hno]
  unfold y0 at e2
  obtain ⟨u,hu⟩:=Ja (fF S.hR.vf) ((eB t r h m).graph.nodes[n]).toNat (by omega) (r.right.graph.nodes[s.node.toNat]).toNat (by rw [Int.toNat_of_nonneg hri.1];exact e2)
  rw [hu,aG];omega
 refine ⟨by simp [v7,Na],⟨by omega,by omega,by omega⟩,fun s hs=>?_,fun s hs=>?_⟩
 ·obtain ⟨n,e1,hn,e2⟩:=key s hs
  have:f5 (v7 r h m) s=n:=by unfold f5;rw [e1];simp
  rw [this,e1]
  exact ⟨by simp,by omega,hn⟩
 ·obtain ⟨n,e1,hn,e2⟩:=key s hs
  have:f5 (v7 r h m) s=n:=by unfold f5;rw [e1];simp
  have hnv:n<(eB t r h m).values.length:=by omega
  rw [this,aA hnv,aA hn,aD,aD]
  have:=(tX (S.node n hn hnv)).2.2.1
  exact ⟨by omega,e2⟩
end
theorem Fr {t:Types}(hv:t.valid):∀ c:Nat,c<t.nodes.length→∀ (b:Nat) (a:Int),mem (t.line c) (b:Int)=true→mem (t.line b) a=true→mem (t.line c) a=true:=by
 intro c
 induction c using Nat.strongRecOn with
 | _ c ih =>
 intro hc b a hb ha
 have hpar:=hv.parent c _ (aA hc)
 have hr:=qR t c hc (hv.parentsOK c)
 rw [hr,qO,bT] at hb
 rcases hb with hb|hb
 ·by_cases h0:0≤t.nodes[c].parent
  ·rw [if_pos h0] at hb
   rw [hr,qO,bT,if_pos h0]
   exact .inl (ih _ (by omega) (by omega) b a hb ha)
  ·rw [if_neg h0,A6] at hb;cases hb
 ·have:b=c:=by simp at hb;omega
  subst this;exact ha
theorem QO {t:Types}(hv:(cW t).2=0){ty a b a' b':Int}(h:l9 t ty a b=true)(ha:y0 t a a'=true)(hb:y0 t b b'=true)(ra:0≤a'∧a'<t.nodes.length)(rb:0≤b'∧b'<t.nodes.length):l9 t ty a' b'=true:=by
 have hval:=fF hv
 unfold l9 at h ⊢
 simp only [aL,decide_eq_true_eq] at h ⊢
 obtain ⟨⟨h1,h2⟩,h3,h4⟩:=h
 obtain ⟨_,a0,b0⟩:=oT h1
 unfold y0 at ha hb
 rw [show a=((a.toNat:Nat):Int) by omega] at ha
 rw [show b=((b.toNat:Nat):Int) by omega] at hb
 refine ⟨⟨?_,h2⟩,Fr hval _ (by omega) a.toNat _ ha h3,Fr hval _ (by omega) b.toNat _ hb h4⟩
 simp [given2F,hv,insideF,ra,rb]
section
variable {t:Types} {r:Rule} {h:Host} {m:Mat}
theorem Tq {l l':List Int}{es:List Edge}{g:Graph}{n:Int}(h0:0≤n)(hn:n<l.length)(hg:g.nodes=l++l'):gN g n=l[n.toNat]?.getD 0:=by
 unfold gN;rw [hg,bA (by omega)]
theorem StepIn.edge (S:StepIn t r h m):∀ x∈(eB t r h m).graph.edges,((0≤x.type∧x.type<t.edges.length)∧(0≤x.from_∧x.from_<(eB t r h m).graph.nodes.length)∧(0≤x.to_∧x.to_<(eB t r h m).graph.nodes.length)) ∧
  l9 t x.type (gN (eB t r h m).graph x.from_) (gN (eB t r h m).graph x.to_)=true:=fun x hx=>by
 have hbN:=S.bareN
 have hbin:=S.bin
 rw [S.bareE,bD,aU,aU] at hx
 rcases hx with ⟨k,hk,rfl⟩|⟨k,hk,rfl⟩
 ·have hr:=S.ein k hk
  have hy:=U3 hr.1 hr.2
  obtain ⟨e1,e2⟩:=S.ho.ed _ hy
  have hgi:=(eP S.ho.gg).2 _ hy
  obtain ⟨s1,s2⟩:=Rp S.sub hk
  obtain ⟨p1,p2,_⟩:=RH S.nasc s1
  obtain ⟨q1,q2,_⟩:=RH S.nasc s2
  have key:∀ v:Int,v∈(dD r h m).nodes→vY (dD r h m).nodes v<(dD r h m).nodes.length→iA (dD r h m).nodes (vY (dD r h m).nodes v)=v→gN (eB t r h m).graph (vY (dD r h m).nodes v)=gN h.graph v:=fun v hv hp hi=>by
   rw [Tq (es:=[]) (by omega) (by simpa using hp) hbN,show ((vY (dD r h m).nodes v:Nat):Int).toNat=vY (dD r h m).nodes v by omega,aR]
   unfold iA at hi
   rw [show ((vY (dD r h m).nodes v:Nat):Int).toNat=vY (dD r h m).nodes v by omega,aA hp,aD] at hi
   rw [aA hp,fD,aD,hi]
  have hl:(eB t r h m).graph.nodes.length=(dD r h m).nodes.length+r.freshN.length:=by rw [hbN];simp
  rw [UZ]
  refine ⟨⟨⟨hgi.1.1,e1⟩,⟨by simp only;omega,by simp only;omega⟩,by simp only;omega,by simp only;omega⟩,?_⟩
  simp only
  rw [key _ s1 p1 p2,key _ s2 q1 q2];exact e2
 ·have hr:=dQ hk
  have hk2:k.toNat<r.right.graph.edges.length:=by omega
  have hy:=(j7 S.hR.gr S.hR.tr).2 _ (aB hk2)
  rw [aA hk2,aD]
  obtain ⟨y,hye⟩:∃ y,y=r.right.graph.edges[k.toNat]:=⟨_,rfl⟩
  rw [← hye] at hy ⊢
  have hf:y.from_.toNat<r.right.graph.nodes.length:=by omega
  have ht:y.to_.toNat<r.right.graph.nodes.length:=by omega
  obtain ⟨n1,c1,l1,b1⟩:=S.com hf
  obtain ⟨n2,c2,l2,b2⟩:=S.com ht
  unfold freshE
  rw [c1,c2]
  simp only [aD]
  have hfit:l9 t y.type r.right.graph.nodes[y.from_.toNat] r.right.graph.nodes[y.to_.toNat]=true:=by
   have:=S.hR.mkb
   unfold zF at this
   rw [aL,cV,cV,fU,fU] at this
   have h1:=this.2 k hk
   unfold unfitB at h1
   rw [aA hk2,aD,← hye] at h1
   unfold gN at h1
   rw [aA hf,aA ht] at h1
   simpa using h1
  have e1:gN (eB t r h m).graph (n1:Int)=(eB t r h m).graph.nodes[n1]:=by simp [gN,aA l1]
  have e2:gN (eB t r h m).graph (n2:Int)=(eB t r h m).graph.nodes[n2]:=by simp [gN,aA l2]
  refine ⟨⟨⟨hy.1.1,hy.1.2⟩,⟨by omega,by omega⟩,by omega,by omega⟩,?_⟩
  rw [e1,e2]
  exact QO S.hR.vf hfit b1 b2 (hbin _ (aB l1)) (hbin _ (aB l2))
theorem Sf {x:Host}(hv:(cW t).2=0)(hn:x.graph.nodes.length≤40)(he:x.graph.edges.length≤80)(hl:x.values.length=x.graph.nodes.length)(hb:∀ a∈x.graph.nodes,0≤a∧a<t.nodes.length)
  (hnd:∀ (n:Nat) (h1:n<x.graph.nodes.length) (h2:n<x.values.length),jX t x.graph.nodes[n] x.values[n]=0)
  (hed:∀ y∈x.graph.edges,((0≤y.type∧y.type<t.edges.length)∧(0≤y.from_∧y.from_<x.graph.nodes.length)∧(0≤y.to_∧y.to_<x.graph.nodes.length))∧l9 t y.type (gN x.graph y.from_) (gN x.graph y.to_)=true):lH t x=0:=by
 have hf:=(fF hv).fewN
 have hf2:=(fF hv).fewE
 have hg:graphF x.graph=0:=IF hn he (fun a ha=>by have:=hb a ha;omega) fun y hy=>by
  obtain ⟨⟨a1,a2,a3⟩,_⟩:=hed y hy
  exact ⟨by omega,a2,a3⟩
 have h1:(jI (Ok t x) 0 x.graph.nodes.length).2=0:=by
  rw [sC]
  refine pY _ _ fun j _ hj=>?_
  have hj1:j<x.graph.nodes.length:=by omega
  unfold Ok
  rw [aA hj1,aA (show j<x.values.length by omega),aD,aD]
  exact hnd j hj1 (by omega)
 unfold lH vM
 rw [if_neg (by omega),if_neg (by omega),if_neg (by omega),if_neg (by omega),sC]
 refine pY _ _ fun j _ hj=>?_
 have hj1:j<x.graph.edges.length:=by omega
 obtain ⟨a1,a2⟩:=hed _ (aB hj1)
 unfold T8
 rw [aA hj1,aD,if_neg (by omega),if_pos a2]
theorem Pe {g:Graph}{c:Part}{vs:List Int}:∀ (l:List Slot) (vals:List (List Int)),vals.length=g.nodes.length→(∀ (n:Nat) (h1:n<g.nodes.length) (h2:n<vals.length),jX t g.nodes[n] vals[n]=0) →
  (∀ s∈l,Hc t g c vs s=false)→(∀ s∈l,0≤s.attr)→∀ (n:Nat) (h1:n<g.nodes.length) (h2:n<(wY c vs l vals).length),jX t g.nodes[n] (wY c vs l vals)[n]=0
 | [],vals,_,hx,_,_=>fun n h1 h2=>hx n h1 h2
 | s :: l,vals,hl,hx,ho,ha=>by
  refine Pe l (vals.set (f5 c s) ((vals[f5 c s]?.getD []).set s.attr.toNat (gA s.term vs))) (by rw [dX];exact hl) (fun n h1 h2=>?_) (fun s hs=>ho s (by simp [hs])) (fun s hs=>ha s (by simp [hs]))
  rw [dX] at h2
  have hI:=hx n h1 h2
  rw [List.getElem_set]
  split
  ·rename_i hs'
   subst hs'
   rw [aA h2,aD]
   obtain ⟨a1,a2,a3,a4⟩:=tX hI
   unfold jX
   rw [if_neg (by omega),if_neg (by rw [a2];simp),if_neg (by rw [dX];omega)]
   refine pY _ _ fun j _ hj=>?_
   have hja:j<(b7 t g.nodes[f5 c s]).length:=by omega
   unfold JV
   rw [aA hja,aD]
   by_cases hj2:s.attr.toNat=j
   ·have e:((vals[f5 c s]).set s.attr.toNat (gA s.term vs))[j]?=some (gA s.term vs):=by rw [← hj2];exact List.getElem?_set_self (by omega)
    rw [e,aD,if_neg]
    have hO:=ho s (by simp)
    unfold Hc at hO
    rw [aA h1,aD,hj2,aA hja,aD,Bool.or_eq_false_iff,decide_eq_false_iff_not,decide_eq_false_iff_not] at hO
    omega
   ·rw [pG hj2,aA (show j<(vals[f5 c s]).length by omega),aD,if_neg]
    have:=a4 j (by omega) hja
    omega
  ·exact hI
theorem StepIn.after (S:StepIn t r h m)(hp:DN t (eB t r h m).graph (v7 r h m) m.vars r.right.slots=0)(hn:(eB t r h m).graph.nodes.length≤40)(he:(eB t r h m).graph.edges.length≤80):lH t (Gx t r h m)=0:=by
 have ho:∀ s∈r.right.slots,Hc t (eB t r h m).graph (v7 r h m) m.vars s=false:=by
  unfold DN at hp
  split at hp
  ·cases hp
  ·split at hp
   ·cases hp
   ·rename_i h2
    rw [Bool.not_eq_true,fU] at h2
    exact fun s hs=>by simpa using h2 s hs
 exact Sf S.hR.vf hn he (by show (wY _ _ _ _).length=_;rw [(AS _ _ _ _).1];exact S.vlen) S.bin (fun n h1 h2=>Pe _ _ S.vlen S.node ho (fun s hs=>(S.hR.slots s hs).2.1.1) n h1 h2) S.edge
theorem Au {x:Host}(ho:HostOk t x):dC t x.graph=0:=by
 unfold dC
 rw [if_neg (by rw [ho.vf];simp),if_neg (by rw [ho.gg];simp),if_neg]
 ·refine w9 fun y hy=>?_
  obtain ⟨e1,e2⟩:=ho.ed y hy
  unfold iH
  rw [if_neg (by omega),if_pos e2]
 ·rw [List.any_eq_true]
  rintro ⟨a,ha,hd⟩
  rw [decide_eq_true_eq] at hd
  have:=sA ho a ha
  omega
end
end Go.Abs
end
