/- Plain law: the undoing step leads to a host that is isomorph -/
import Derived.Test.YthalajhajpjjeaaGreatZgAW
import Derived.Test.YthalajhajpjjeaaGreatZgAF
import Derived.Test.YthalajhajpjjeaaGreatZgAA
set_option linter.unusedVariables false
set_option linter.unusedSimpArgs false
section
set_option maxRecDepth 100000
set_option maxHeartbeats 4000000
open Go Go.Proofs
namespace Go.Abs
section
variable {t:Types} {r:Rule} {h:Host} {m:Mat}
theorem StepIn.newN (S:StepIn t r h m){f:Nat}(a:f<r.freshN.length):gN (bZ t r h m).graph ((bV r h m).nodes.length+f:Nat)=gN r.right.graph (iA r.freshN f) /\
  (bZ t r h m).values[(bV r h m).nodes.length+f]?.getD []=l9 t (gN r.right.graph (iA r.freshN f)):=by
 rw [lA a]
 constructor
 .unfold gN
  rw [Int.toNat_natCast,S.bareN,aZ bW,aV,uT,aN,aA a];rfl
 .rw [NF,aZ bW,aV,uT,aN,aA a];rfl
theorem StepIn.newE (S:StepIn t r h m){f:Nat}(a:f<r.freshE.length):eA (bZ t r h m).graph ((bV r h m).edges.length+f:Nat)=freshE (eY r h m) (eA r.right.graph (iA r.freshE f)):=by
 rw [lA a]
 unfold eA
 rw [Int.toNat_natCast,S.bareE,aZ bW,aV,uT,aN,aA a];rfl
theorem HostOk.rowlen (c:HostOk t h){v:Int}(f:0<=v)(e:v<h.graph.nodes.length):(h.values[v.toNat]?.getD []).length=(bM t (gN h.graph v)).length:=by
 have d:=c.vl
 have a:v.toNat<h.graph.nodes.length:=aD
 have b:v.toNat<h.values.length:=aD
 have:=(sN (c.nd v.toNat a b)).2.2.1
 rw [aA b,Option.getD_some,this]
 unfold gN;rw [aA a];rfl
end
section
variable {t:Types} {r:Rule} {h g:Host} {m m':Mat} {m0:Part}
theorem Back.val (B:Back t r h m g m0 m'){p:Nat}{v:Int}(hR:CL r.keep.nodes r.into.nodes m.m.nodes m0.nodes m'.m.nodes r.left.graph.nodes.length r.right.graph.nodes.length h.graph.nodes.length g.graph.nodes.length p v)
  (hp:p<(cT t (d8 t (bG t r h m)) g m').graph.nodes.length):(cT t (d8 t (bG t r h m)) g m').values[p]?.getD []=h.values[v.toNat]?.getD []:=by
 have U:=B.undN
 have K:=B.K
 have K':=B.K'
 obtain ⟨u,n⟩:=cW (d8 t (bG t r h m))
 have N:=(U.range hR).2
 have hh:=K.S.ho
 have ex:u.right.slots=kP t (bG t r h m) m.m.nodes.length:=by rw [n];rfl
 have eN:(cO r h m).nodes=_:=K.S.trN
 have eT:(cO u g m').nodes=nG (fW r.into.nodes r.right.graph.nodes.length) m'.m.nodes g.graph.nodes.length:=by rw [n];exact K'.S.trN
 have eC:(eY u g m').nodes=xN (fW r.into.nodes r.right.graph.nodes.length) (dW (fW r.into.nodes r.right.graph.nodes.length) r.into.nodes r.keep.nodes) m'.m.nodes r.left.graph.nodes.length g.graph.nodes.length:=by
  have:=K'.S.coN
  rw [B.left_len.2] at this
  rw [n];exact this
 have b4:m.m.nodes.length=r.left.graph.nodes.length:=K.S.hm.len
 rw [<- n] at K' hp ⊢
 obtain ⟨r1,r2⟩:=K'.rows
 have a9:=K'.S.vlen
 have a1:p<(bZ t u g m').values.length:=by rw [a9];exact hp
 have J:∀ {s:Slot} {i k:Nat},i<m.m.nodes.length->k<(sG (bG t r h m) i).length->s=⟨i,k,⟨-1,(sG (bG t r h m) i)[k]?.getD 0⟩⟩->lB (eY u g m') s=p->iA m.m.nodes i=v:=by
  intro s i k hi z o he
  have H:CL r.keep.nodes r.into.nodes m.m.nodes m0.nodes m'.m.nodes r.left.graph.nodes.length r.right.graph.nodes.length h.graph.nodes.length g.graph.nodes.length p (iA m.m.nodes i):=by
   refine .inr ⟨i,aD,?_,rfl⟩
   rw [<- he,o,<- eC];rfl
  exact U.uni H hR
 have some_:∀ {a x:Int},FA (eY u g m') m'.vars u.right.slots p a=some x->x=(h.values[v.toNat]?.getD [])[a.toNat]?.getD 0:=by
  intro a x T
  obtain ⟨s,o,e1,e2,e3⟩:=Ai T
  rw [ex] at o
  obtain ⟨i,hi,k,z,O,rfl⟩:=Fw.1 o
  have c:=J hi z rfl e1
  rw [<- e3,<- e2]
  unfold c8
  simp only
  rw [if_pos aD]
  unfold sG
  simp only [bG]
  rw [c];simp
 have none_:∀ {a:Nat} {j:Int},(0<=j/\j<r.left.graph.nodes.length)->iA m.m.nodes j=v->a<(h.values[v.toNat]?.getD []).length->FA (eY u g m') m'.vars u.right.slots p a=none->Dd t (bG t r h m) j.toNat a=(h.values[v.toNat]?.getD [])[a]?.getD 0:=by
  intro a j A c G P
  refine bA λO=>?_
  have e0:sG (bG t r h m) j.toNat=h.values[v.toNat]?.getD []:=by
   unfold sG;simp only [bG];rw [show ((j.toNat:Nat):Int)=j by omega,c]
  have o:(⟨(j.toNat:Nat),a,⟨-1,(sG (bG t r h m) j.toNat)[a]?.getD 0⟩⟩:Slot)∈u.right.slots:=by
   rw [ex]
   exact Fw.2 ⟨j.toNat,aD,a,by rw [e0];exact G,by rw [e0];exact λe=>O e.symm,rfl⟩
  have z:lB (eY u g m') ⟨(j.toNat:Nat),a,⟨-1,(sG (bG t r h m) j.toNat)[a]?.getD 0⟩⟩=p:=by
   have H:CL r.keep.nodes r.into.nodes m.m.nodes m0.nodes m'.m.nodes r.left.graph.nodes.length r.right.graph.nodes.length h.graph.nodes.length g.graph.nodes.length (iA (eY u g m').nodes j) v:=.inr ⟨j,A,by rw [eC],c⟩
   have:=U.inj H hR
   rw [<- this];unfold lB iA;rw [Int.toNat_natCast]
  have:=Pr K'.eqK o
  rw [z] at this
  simp only at this
  rw [P] at this;cases this
 have L:∀ {w:List Int},(bZ t u g m').values[p]?.getD []=w->w.length=(h.values[v.toNat]?.getD []).length->(∀ a:Nat,a<(h.values[v.toNat]?.getD []).length->FA (eY u g m') m'.vars u.right.slots p a=none->w[a]?.getD 0=(h.values[v.toNat]?.getD [])[a]?.getD 0) ->
   (cT t u g m').values[p]?.getD []=h.values[v.toNat]?.getD []:=by
  intro w W hl hN
  have C:=r2 p
  rw [W] at C
  refine fT aD λa h1 H=>?_
  have c:=K'.value a1 (a:=a) (by rw [W];omega)
  rw [W] at c
  have e1:((cT t u g m').values[p]?.getD [])[a]=(FA (eY u g m') m'.vars u.right.slots p a).getD (w[a]?.getD 0):=by
   rw [aA h1] at c;exact Option.some.inj c
  have e2:(h.values[v.toNat]?.getD [])[a]=(h.values[v.toNat]?.getD [])[a]?.getD 0:=by rw [aA H];rfl
  rw [e1,e2]
  cases Z:FA (eY u g m') m'.vars u.right.slots p a with
  | none=>exact hN a H Z
  | some x=>exact some_ Z
 rcases U.cases hR with ⟨x,T,hT,c,b1⟩|⟨j,f,A,a4,hf,a7,b3,c⟩
 .have hxr:=(U.S'.d_iff.1 T).1
  have F:g.values[x.toNat]?.getD []=(cT t r h m).values[(iA m0.nodes x).toNat]?.getD []:=B.I.va x hxr.1 hxr.2
  rw [<- b1] at F
  obtain ⟨q,q1,q2,q3⟩:=U.S.t_in c
  have d:=K.remN (i:=v.toNat) aD (by rw [eN,show ((v.toNat:Nat):Int)=v by omega,q1];omega)
  rw [eN,show ((v.toNat:Nat):Int)=v by omega] at d
  have a8:(bZ t u g m').values[p]?.getD []=g.values[x.toNat]?.getD []:=by
   obtain ⟨q',b2,M,V⟩:=U.S'.t_in T
   have a0:p=q':=aD
   have l:(bV u g m').nodes=l7 (fW r.into.nodes r.right.graph.nodes.length) m'.m.nodes g.graph.nodes.length:=by rw [n];exact B.K'.S.restN
   rw [NF,aS (by rw [aV,l];omega),aN,l,a0,aA M,dQ,Option.getD_some,<- lA M,V]
  refine L a8 ?_ λa G P=>?_
  .rw [F,d.v2]
  .rw [F]
   by_cases R:∃ j:Int,(0<=j/\j<r.left.graph.nodes.length)/\iA m.m.nodes j=v
   .obtain ⟨j,A,E⟩:=R
    have z:j∈r.keep.nodes:=bA λz=>(U.S.d_iff.1 c).2 j A.1 A.2 z E
    have:=none_ A E G P
    unfold Dd at this
    rw [if_pos (by simp only [bG];rw [show ((j.toNat:Nat):Int)=j by omega];exact (mem_iff _ _).2 z)] at this
    simp only [bG] at this
    rw [show ((j.toNat:Nat):Int)=j by omega,E,eN] at this
    exact this
   .refine d.v3 a (by rw [<- Option.getD_some (a:=h.values[v.toNat]?.getD []) (b:=[])];exact G) λs o ⟨D,_⟩=>R ?_
    have X:=K.S.hR.slots s o
    have a3:lB (eY r h m) s=iA (xN r.keep.nodes r.into.nodes m.m.nodes r.right.graph.nodes.length h.graph.nodes.length) s.node:=by rw [<- K.S.coN];rfl
    rw [a3] at D
    have a5:s.node∈r.into.nodes:=by
     refine bA λa2=>?_
     obtain ⟨f,_,_,hf⟩:=U.S.c_fresh X.1 a2
     omega
    obtain ⟨q,Z,Y⟩:=AL a5
    have b5:=U.S.kl
    rw [<- Y,U.S.c_kept aD] at D
    have Q:iA r.keep.nodes q∈r.keep.nodes:=mN aD aD
    exact ⟨_,U.S.kr _ Q,U.S.t_inj (U.S.kept_in Q) c D⟩
 .have hfr:u.freshN=bJ (dW (fW r.into.nodes r.right.graph.nodes.length) r.into.nodes r.keep.nodes) r.left.graph.nodes.length:=by
   unfold Rule.freshN;rw [n,B.left_len.2];rfl
  have l:(bV u g m').nodes=l7 (fW r.into.nodes r.right.graph.nodes.length) m'.m.nodes g.graph.nodes.length:=by rw [n];exact B.K'.S.restN
  have y:=(K'.S.newN (f:=f) (by rw [hfr];exact hf)).2
  have a6:gN u.right.graph j=gN h.graph v:=by
   have e:u.right.graph=l4 r.left.graph h.graph m.m:=by rw [n];rfl
   rw [e]
   have:gN (l4 r.left.graph h.graph m.m) j=iA (m.m.nodes.map (gN h.graph)) j:=rfl
   rw [this,Kx _ A.1 aD,c]
  rw [hfr,a7,a6,l,show (l7 (fW r.into.nodes r.right.graph.nodes.length) m'.m.nodes g.graph.nodes.length).length+f=p by omega] at y
  have C:=hh.rowlen N.1 N.2
  refine L y (by unfold l9;rw [aV,C]) λa G P=>?_
  have:=none_ A c G P
  rw [<- this]
  unfold Dd
  rw [if_neg (by simp only [bG];rw [show ((j.toNat:Nat):Int)=j by omega];exact λhm=>a4 ((mem_iff _ _).1 hm))]
  simp only [bG]
  rw [show ((j.toNat:Nat):Int)=j by omega,c]
  have b0:a<(bM t (gN h.graph v)).length:=aD
  unfold l9
  rw [aN,aA b0];rfl
theorem Back.iso (B:Back t r h m g m0 m'):HIso (cT t (d8 t (bG t r h m)) g m') h
  (XX (cO r h m) (cO (d8 t (bG t r h m)) g m') (eY (d8 t (bG t r h m)) g m') m.m ⟨iY m0.nodes,iY m0.edges⟩ (cT t (d8 t (bG t r h m)) g m').graph.nodes.length (cT t (d8 t (bG t r h m)) g m').graph.edges.length):=by
 have U:=B.undN
 have V:=B.undE
 have K:=B.K
 have K':=B.K'
 have F:=B.left_len
 have hn:(cT t (d8 t (bG t r h m)) g m').graph.nodes.length=(l7 (fW r.into.nodes r.right.graph.nodes.length) m'.m.nodes g.graph.nodes.length).length+(bJ (dW (fW r.into.nodes r.right.graph.nodes.length) r.into.nodes r.keep.nodes) r.left.graph.nodes.length).length:=by
  have:=K'.S.sizeN
  rw [F.2] at this;exact this
 have he:(cT t (d8 t (bG t r h m)) g m').graph.edges.length=(l7 (fW r.into.edges r.right.graph.edges.length) m'.m.edges g.graph.edges.length).length+(bJ (dW (fW r.into.edges r.right.graph.edges.length) r.into.edges r.keep.edges) r.left.graph.edges.length).length:=K'.S.sizeE
 have eT:(cO (d8 t (bG t r h m)) g m').nodes=nG (fW r.into.nodes r.right.graph.nodes.length) m'.m.nodes g.graph.nodes.length:=K'.S.trN
 have Y:(cO (d8 t (bG t r h m)) g m').edges=nG (fW r.into.edges r.right.graph.edges.length) m'.m.edges g.graph.edges.length:=K'.S.trE
 have eC:(eY (d8 t (bG t r h m)) g m').nodes=xN (fW r.into.nodes r.right.graph.nodes.length) (dW (fW r.into.nodes r.right.graph.nodes.length) r.into.nodes r.keep.nodes) m'.m.nodes r.left.graph.nodes.length g.graph.nodes.length:=by
  have:=K'.S.coN
  rw [F.2] at this;exact this
 have b4:(eY (d8 t (bG t r h m)) g m').edges=xN (fW r.into.edges r.right.graph.edges.length) (dW (fW r.into.edges r.right.graph.edges.length) r.into.edges r.keep.edges) m'.m.edges r.left.graph.edges.length g.graph.edges.length:=K'.S.coE
 have e:=U.org hn
 have L:=V.org he
 have P:=λ {p:Nat} {v:Int} hR hp=>B.val (p:=p) (v:=v) hR hp
 have b5:m.m.nodes.length=r.left.graph.nodes.length:=K.S.hm.len
 have a9:=(Fc K.S.hc).1
 have a7:∀ {k:Int},k∈(bV r h m).edges->(eA h.graph k).from_∈(bV r h m).nodes/\(eA h.graph k).to_∈(bV r h m).nodes:=λhk=>x9 K.S.sub hk
 have a8:∀ {k:Int},k∈(bV (d8 t (bG t r h m)) g m').edges->(eA g.graph k).from_∈(bV (d8 t (bG t r h m)) g m').nodes/\(eA g.graph k).to_∈(bV (d8 t (bG t r h m)) g m').nodes:=λhk=>x9 K'.S.sub hk
 have Q:(bV (d8 t (bG t r h m)) g m').nodes=l7 (fW r.into.nodes r.right.graph.nodes.length) m'.m.nodes g.graph.nodes.length:=K'.S.restN
 have n:(bV (d8 t (bG t r h m)) g m').edges=l7 (fW r.into.edges r.right.graph.edges.length) m'.m.edges g.graph.edges.length:=K'.S.restE
 have o:=λ {i:Nat} a b=>K'.remN (i:=i) a b
 have c:=λ {i:Nat} a b=>K'.remE (i:=i) a b
 have C:=λ {f:Nat} a=>(K'.S.newN (f:=f) a).1
 have D:=λ {f:Nat} a=>K'.S.newE (f:=f) a
 have s:(d8 t (bG t r h m)).freshN=bJ (dW (fW r.into.nodes r.right.graph.nodes.length) r.into.nodes r.keep.nodes) r.left.graph.nodes.length:=by unfold Rule.freshN;rw [F.2];rfl
 have w:(d8 t (bG t r h m)).freshE=bJ (dW (fW r.into.edges r.right.graph.edges.length) r.into.edges r.keep.edges) r.left.graph.edges.length:=rfl
 have R:(d8 t (bG t r h m)).right.graph=l4 r.left.graph h.graph m.m:=rfl
 have H:(cT t (d8 t (bG t r h m)) g m').graph=(bZ t (d8 t (bG t r h m)) g m').graph:=rfl
 have a6:(cT t (d8 t (bG t r h m)) g m').values.length=(cT t (d8 t (bG t r h m)) g m').graph.nodes.length:=by rw [K'.rows.1,K'.S.vlen,H]
 unfold XX
 rw [K.S.trN,K.S.trE,eT,Y,eC,b4]
 simp only
 rw [eT] at o
 rw [eT,Y] at c
 generalize d8 t (bG t r h m)=u at *
 obtain ⟨nn,A⟩:=cW ((cT t u g m').graph.nodes.length)
 obtain ⟨ne,E⟩:=cW ((cT t u g m').graph.edges.length)
 rw [<- A] at e hn ⊢
 rw [<- E] at L he ⊢
 have T:=Gh (e8 (nG r.keep.nodes m.m.nodes h.graph.nodes.length) (iY m0.nodes)) (nG (fW r.into.nodes r.right.graph.nodes.length) m'.m.nodes g.graph.nodes.length) (xN (fW r.into.nodes r.right.graph.nodes.length) (dW (fW r.into.nodes r.right.graph.nodes.length) r.into.nodes r.keep.nodes) m'.m.nodes r.left.graph.nodes.length g.graph.nodes.length) m.m.nodes nn
 have W:=Gh (e8 (nG r.keep.edges m.m.edges h.graph.edges.length) (iY m0.edges)) (nG (fW r.into.edges r.right.graph.edges.length) m'.m.edges g.graph.edges.length) (xN (fW r.into.edges r.right.graph.edges.length) (dW (fW r.into.edges r.right.graph.edges.length) r.into.edges r.keep.edges) m'.m.edges r.left.graph.edges.length g.graph.edges.length) m.m.edges ne
 generalize wJ (e8 (nG r.keep.nodes m.m.nodes h.graph.nodes.length) (iY m0.nodes)) (nG (fW r.into.nodes r.right.graph.nodes.length) m'.m.nodes g.graph.nodes.length) (xN (fW r.into.nodes r.right.graph.nodes.length) (dW (fW r.into.nodes r.right.graph.nodes.length) r.into.nodes r.keep.nodes) m'.m.nodes r.left.graph.nodes.length g.graph.nodes.length) m.m.nodes nn=sn at *
 generalize wJ (e8 (nG r.keep.edges m.m.edges h.graph.edges.length) (iY m0.edges)) (nG (fW r.into.edges r.right.graph.edges.length) m'.m.edges g.graph.edges.length) (xN (fW r.into.edges r.right.graph.edges.length) (dW (fW r.into.edges r.right.graph.edges.length) r.into.edges r.keep.edges) m'.m.edges r.left.graph.edges.length g.graph.edges.length) m.m.edges ne=se at *
 obtain ⟨a1,a2,a3⟩:=U.perm hn T e
 obtain ⟨b1,b2,b3⟩:=V.perm he W L
 have at_:∀ {p v:Int},CL r.keep.nodes r.into.nodes m.m.nodes m0.nodes m'.m.nodes r.left.graph.nodes.length r.right.graph.nodes.length h.graph.nodes.length g.graph.nodes.length p v->iA sn p=v:=λ {p v} hR=>by
  have hr:=(U.range hR).1
  have:=e p.toNat aD
  rw [show ((p.toNat:Nat):Int)=p by omega] at this
  exact U.uni this hR
 refine ⟨by rw [T,A],by rw [W,E],by rw [<- A];exact a3,by rw [<- E];exact b3,a6,K.S.ho.vl,a1,b1,a2,b2,λp h0 hp=>?_,λp h0 hp=>?_,λp h0 hp=>?_⟩
 .have hR:=e p.toNat aD
  rw [show ((p.toNat:Nat):Int)=p by omega] at hR
  rcases U.cases hR with ⟨x,N,hT,l,J⟩|⟨j,f,O,b0,hf,G,z,l⟩
  .have hxr:=(U.S'.d_iff.1 N).1
   have a5:=(U.S.d_iff.1 l).1
   obtain ⟨q,q1,q2,q3⟩:=U.S.t_in l
   obtain ⟨q',y,a4,a0⟩:=U.S'.t_in N
   have M:=(K.remN (i:=(iA sn p).toNat) aD (by rw [K.S.trN,show (((iA sn p).toNat:Nat):Int)=iA sn p by omega,q1];omega)).n2
   rw [K.S.trN,show (((iA sn p).toNat:Nat):Int)=iA sn p by omega,J] at M
   have Z:=(o (i:=x.toNat) aD (by rw [show ((x.toNat:Nat):Int)=x by omega,y];omega)).n2
   rw [show ((x.toNat:Nat):Int)=x by omega,hT] at Z
   have e3:=B.I.ty x hxr.1 hxr.2
   unfold gN at e3 ⊢
   rw [Z,e3,M]
  .have:=C (f:=f) (by rw [s];exact hf)
   rw [Q,s,G,R,<- z,<- H] at this
   rw [this,<- l]
   exact Kx _ O.1 aD
 .have hR:=L p.toNat aD
  rw [show ((p.toNat:Nat):Int)=p by omega] at hR
  rcases V.cases hR with ⟨x,N,hT,l,J⟩|⟨j,f,O,b0,hf,G,z,l⟩
  .have hxr:=(V.S'.d_iff.1 N).1
   have a5:=(V.S.d_iff.1 l).1
   obtain ⟨q,q1,q2,q3⟩:=V.S.t_in l
   obtain ⟨q',y,a4,a0⟩:=V.S'.t_in N
   have M:=(K.remE (i:=(iA se p).toNat) aD (by rw [K.S.trE,show (((iA se p).toNat:Nat):Int)=iA se p by omega,q1];omega)).2
   rw [K.S.trE,K.S.trN,show (((iA se p).toNat:Nat):Int)=iA se p by omega,J] at M
   have Z:=(c (i:=x.toNat) aD (by rw [show ((x.toNat:Nat):Int)=x by omega,y];omega)).2
   rw [show ((x.toNat:Nat):Int)=x by omega,hT] at Z
   have e3:=B.I.eg x hxr.1 hxr.2
   rw [e3] at M
   rw [Z]
   simp only [Edge.mk.injEq] at M
   obtain ⟨c1,c2,c3⟩:=M
   have s1:=a7 (k:=iA se p) (by rw [K.S.restE];exact l)
   have s2:=a8 (k:=x) (by rw [n];exact N)
   rw [K.S.restN] at s1
   rw [Q] at s2
   have d1:=at_ (.inl ⟨_,s2.1,rfl,s1.1,c2.symm⟩)
   have d2:=at_ (.inl ⟨_,s2.2,rfl,s1.2,c3.symm⟩)
   simp only
   rw [c1,d1,d2]
  .have hw:=D (f:=f) (by rw [w];exact hf)
   rw [n,w,G,R,<- z,<- H] at hw
   rw [hw,<- l]
   have d:=Gm a9 (k:=j) O.1 O.2
   have X:=Fb K.S.hR.pl.gg (k:=j) O.1 O.2
   have e0:eA (l4 r.left.graph h.graph m.m) j=eA r.left.graph j:=rfl
   rw [e0] at d ⊢
   unfold freshE
   simp only
   have d1:=at_ (p:=iA (eY u g m').nodes (eA r.left.graph j).from_) (.inr ⟨_,X.1,by rw [eC],rfl⟩)
   have d2:=at_ (p:=iA (eY u g m').nodes (eA r.left.graph j).to_) (.inr ⟨_,X.2.1,by rw [eC],rfl⟩)
   unfold iA at d1 d2 d ⊢
   rw [d1,d2,d.2.1,d.2.2.1,d.2.2.2]
 .have hR:=e p.toNat aD
  have:=P hR aD
  rw [show ((p.toNat:Nat):Int)=p by omega] at this
  exact this
end
theorem IG (l:List Int)(v:Int):Pure Tryz.prog 273 [dLI l,dI v] (.bool (mem l v)):=by
 refine Tz.pK ⟨λ_=>false,λ_=>[]⟩ Tryz.func273 rfl (λQ m=>?_)
 have Y:=trivial
 refine wv (h:=bD (λi e H=>(e 0=dLI l/\e 1=dI v/\e 5=dI i)/\(i<=l.length)/\(∀ j,j<i->l[j]?≠some v)) (λi=>l.length - i) 0 ⟨wg,wi,(by intro j k;omega)⟩ λq f i e H d=>?_)
 obtain ⟨o,p,a⟩:=d
 have Y:=wa Y o
 refine wv (h:=?_)
 repeat first|intro _|refine ⟨eO,?_⟩
 refine wq (λb=>?_) λb=>?_
 .have Y:=wa Y b
  refine wv (h:=?_)
  repeat first|intro _|refine ⟨eO,?_⟩
  refine wq (λg=>?_) λg=>?_
  .refine wv (h:=?_)
   have c:mem l v=true:=(mem_iff l v).2 (g ▸ aC b)
   exact m _ _ (by simp [go_sem,c])
  .exact wo (h:=wx f (i+1) ⟨wg,wj,(by exact iQ a (by rw [aA b];simpa using g))⟩)
 .refine wv (h:=?_)
  have c:mem l v=false:=by rw [bH];intro h;obtain ⟨j,k,n⟩:=aO ((mem_iff l v).1 h);exact a j aD (by rw [aA k,n])
  exact m _ _ (by simp [go_sem,c])
theorem LU (l:List Int)(v:Int):Pure Tryz.prog 274 [dLI l,dI v] (dI (idx l v)):=by
 refine Tz.pK ⟨λ_=>false,λ_=>[]⟩ Tryz.func274 rfl (λQ g=>?_)
 have Y:=trivial
 refine wv (h:=bD (λi e H=>(e 0=dLI l/\e 1=dI v/\e 5=dI i)/\(i<=l.length)/\(∀ j,j<i->l[j]?≠some v)) (λi=>l.length - i) 0 ⟨wg,wi,(by intro j k;omega)⟩ λo d i e H c=>?_)
 obtain ⟨m,n,a⟩:=c
 have Y:=wa Y m
 refine wv (h:=?_)
 repeat first|intro _|refine ⟨eO,?_⟩
 refine wq (λb=>?_) λb=>?_
 .have Y:=wa Y b
  refine wv (h:=?_)
  repeat first|intro _|refine ⟨eO,?_⟩
  refine wq (λf=>?_) λf=>?_
  .exact wv (h:=g _ _ (by rw [sK a (by rw [aA b,f])];simp [go_sem]))
  .exact wo (h:=wx d (i+1) ⟨wg,wj,(by exact iQ a (by rw [aA b];simpa using f))⟩)
 .exact wv (h:=g _ _ (by rw [y6 λj k=>a j aD];simp [go_sem]))
theorem MU (l:List Int)(n:Nat):fW l (n+1)=fW l n++(if mem l n=true then [(n:Int)] else []):=by
 unfold fW
 rw [c7,k6,List.map_append]
 congr 1
 cases h:mem l (n:Int)<;>simp [h]
theorem E9 (l:List Int)(n:Nat):(fW l n).length<=n:=by
 unfold fW;rw [aV];exact fC (mH _ _) bW
theorem BQ (n:Nat)(l:List Int)(p:n<=1000000):Pure Tryz.prog 182 [dI n,dLI l] (dLI (fW l n)):=by
 refine Tz.pK ⟨λt=>t==5,λ_=>[]⟩ Tryz.func182 rfl (λQ m=>?_)
 have Y:=trivial
 refine wv (h:=bD (λi e H=>∃ a:List Int,(e 0=dI n/\e 1=dLI l/\e 5=.own 0 a.length/\e 6=dI i)/\(H.get 0=some ⟨3,1,a.map cI,false⟩)/\(0<H.next)/\(i<=n)/\(a.length<=i)/\(a=fW l i)) (λi=>n - i) 0 ⟨([]),wg,wn,wn,wi,bW,(by rfl)⟩ λs c i e H g=>?_)
 obtain ⟨a,o,d,b,r,q,f⟩:=g
 have Y:=wa Y (wa o (wa d (b8 b)))
 refine dP (λk=>?_) λk=>?_
 .have Y:=wa Y k
  refine wv (h:=aB (IG l i) wl ?_)
  refine dP (λj=>?_) λj=>?_
  .have Y:=wa Y j
   exact wo (h:=wx c (i+1) ⟨(a++(if mem l i=true then [(i:Int)] else [])),wg,wn,wn,wj,(by rw [aL];split<;>simp<;>omega),(by rw [MU,<- f])⟩)
  .have Y:=wa Y j
   exact wo (h:=wx c (i+1) ⟨(a++(if mem l i=true then [(i:Int)] else [])),wg,wn,wn,wj,(by rw [aL];split<;>simp<;>omega),(by rw [MU,<- f])⟩)
 .have hX:a=fW l n:=by rw [f,(aD:i=n)]
  exact wv (h:=m _ _ (by simp [go_sem,Y,hX,dLI]))
theorem BP (a b keep:List Int)(o:∀ x∈a,x∈b)(w:b.length=keep.length)(v:a.length<=1000000):Pure Tryz.prog 183 [dLI a,dLI b,dLI keep] (dLI (dW a b keep)):=by
 refine Tz.pK ⟨λt=>t==7,λ_=>[]⟩ Tryz.func183 rfl (λQ q=>?_)
 have Y:=trivial
 refine wv (h:=bD (λi e H=>(e 0=dLI a/\e 1=dLI b/\e 2=dLI keep/\e 7=.own 0 i/\e 8=dI i)/\(H.get 0=some ⟨3,1,(dW (a.take i) b keep).map cI,false⟩)/\(0<H.next)/\(i<=a.length)) (λi=>a.length - i) 0 ⟨wg,(by simp [go_sem,dW]),wn,wi⟩ λy n i e H l=>?_)
 obtain ⟨r,c,f,p⟩:=l
 have Y:=wa Y (wa r (wa c (b8 f)))
 refine rT (λj=>?_) λj=>?_
 .obtain ⟨u,s,_⟩:=Dh ((mem_iff _ _).2 (o _ (aC j)))
  have g:(idx b a[i]).toNat<keep.length:=aD
  have m:dW (a.take (i+1)) b keep=dW (a.take i) b keep++[keep[(idx b a[i]).toNat]]:=by unfold dW;rw [aE j,List.map_append];simp [iA,aA g]
  have d:(dW (a.take i) b keep).length=i:=by simp [dW];omega
  have Y:=wa Y (wa j (wa (aA j) (wa (aA g) d)))
  refine wp (h:=aB (LU b a[i]) wl ?_)
  exact wp (h:=wx n (i+1) ⟨wg,(by simp [go_sem,Y,m,cI]),wn,wj⟩)
 .rw [aG aD] at c
  have k:i=a.length:=aD
  have d:(dW a b keep).length=a.length:=by simp [dW]
  exact wv (h:=q _ _ (by simp [go_sem,Y,k,d,dLI]))
def Hu (p g:Graph)(im:List Int)(i:Nat):List Int:=(im.take i).map (gN g)++p.nodes.drop i
theorem Ly {p g:Graph}{a:List Int}(b:a.length=p.nodes.length){i:Nat}(c:i<=a.length):(Hu p g a i).length=p.nodes.length:=by simp [Hu];omega
theorem Qr {p g:Graph}{a:List Int}(c:a.length=p.nodes.length){i:Nat}(b:i<a.length):Hu p g a (i+1)=(Hu p g a i).set i (gN g a[i]):=by
 unfold Hu
 rw [aE b,List.map_append,List.append_assoc,eE (aD:i<p.nodes.length),mG _ _ (by rw [aV,c5];omega)]
 have e:i - ((a.take i).map (gN g)).length=0:=by rw [aV,c5];omega
 rw [e];rfl
theorem DP (p g:Graph)(q:List Int)(P:q.length=p.nodes.length)(hn:p.nodes.length<=100000)(he:p.edges.length<=100000)(hi:∀ x∈q,0<=x/\x<g.nodes.length):Pure Tryz.prog 181 [p.d,g.d,dLI q] (Graph.d ⟨q.map (gN g),p.edges⟩):=by
 obtain ⟨U,J⟩:=cW (q.map (gN g))
 rw [<- J]
 refine Tz.pK ⟨λt=>t==6||t==7,λ_=>[]⟩ Tryz.func181 rfl (λQ hQ=>?_)
 try simp [go_sem,seval]
 unfold fL;refine uD p hn he _ _ (λa b y ha hb a4 a3 a1 k j S Z=>?_)
 have a6:(0:Nat)<y.next:=aD
 have a5:a≠0:=by simp [go_sem] at ha;omega
 have a2:b≠0:=by simp [go_sem] at hb;omega
 have h:=S 0 (by simp [go_sem])
 simp [go_sem] at h
 have s:=Wp y.next
 have l:=And.intro (b8 (aD:a<y.next)) (And.intro (b8 (aD:b<y.next)) (b8 (aD:0<y.next)))
 have m:=And.intro (dF (aD:0≠b)) (And.intro (dF (aD:0≠a)) (dF (aD:b≠a)))
 try simp [go_sem,seval,l,m,k,j,h,s]
 obtain ⟨T,w⟩:∃ T:Nat->dJ->AHeap->Prop,∀ (i:Nat) (e:dJ) (H:AHeap),T i e H↔(∃ c:Nat,(e 2=dLI q)/\(e 4=.adr g.c)/\(e 6=.ptr 0 1 0 0)/\(e 7=.ptr c 1 0 0)/\(e 8=dI i)/\(H.get 0=some ⟨29,2,[[.nil,.nil]],false⟩)/\(0<H.next)/\(H.get c=some ⟨29,2,[[.own a p.nodes.length,.own b p.edges.length]],false⟩)/\(c<H.next)/\(H.get a=some ⟨3,1,(Hu p g q i).map cI,false⟩)/\(a<H.next)/\(H.get b=some ⟨122,3,p.edges.map Edge.c,false⟩)/\(b<H.next)/\(i<=q.length)/\(a<c/\b<c)/\((Hu p g q i).length=p.nodes.length)):=⟨λi e H=>_,λ_ _ _=>Iff.rfl⟩
 refine oD T (λi=>q.length - i) (0) ((w _ _ _).2 ⟨(y.next),?_,?_,?_,?_,?_,?_,?_,?_,?_,(by simp [go_sem,l,m,k,j,h,s,Hu]),?_,?_,?_,(by first|assumption|omega|(simp [go_sem,l,m,k,j,h,s];done)|(simp_all;done)),aD,(by exact Ly P (dY _))⟩) ?_
 iterate 12 (first|omega|(simp [go_sem,seval,l,m,k,j,h,s]<;>omega))
 intro i e H R
 obtain ⟨c,D,C,B,A,z,N,I,L,E,f,G,M,F,a0,hc,n⟩:=(w _ _ _).1 R
 have Y:=b8 I
 have V:=b8 E
 have X:=b8 G
 have W:=b8 F
 have v:=And.intro D (And.intro C (And.intro B (And.intro A (And.intro z (And.intro N (And.intro L (And.intro M (And.intro Y (And.intro V (And.intro X W))))))))))
 have o:=And.intro (dF (aD:0≠c)) (And.intro (dF (aD:0≠b)) (And.intro (dF (aD:0≠a)) (And.intro (dF (aD:c≠b)) (And.intro (dF (aD:c≠a)) (dF (aD:b≠a))))))
 try simp [go_sem,seval,l,m,k,j,h,s,v,f,n,o]
 repeat first|intro _|refine ⟨eL,?_⟩
 refine aP (λr=>?_) (λr=>?_)
 .try simp [go_sem] at r
  have hx:=hi _ (aC r)
  have K:q[i].toNat<g.nodes.length:=aD
  have O:gN g q[i]=g.nodes[q[i].toNat]:=by simp [gN,aA K]
  have u:i<p.nodes.length:=aD
  try simp [go_sem,seval,l,m,k,j,h,s,v,f,n,o,r,aA r,aA K,u]
  repeat first|intro _|refine ⟨eL,?_⟩
  refine d7 (i+1) aD ((w _ _ _).2 ⟨(c),?_,?_,?_,?_,?_,?_,?_,?_,?_,(by simp [go_sem,l,m,k,j,h,s,v,f,n,o,r,aA r,aA K,u,Qr P r,bY,O]),?_,?_,?_,(by first|assumption|omega|(simp [go_sem,l,m,k,j,h,s,v,f,n,o,r,aA r,aA K,u];done)|(simp_all<;>omega)),aD,(by exact Ly P r)⟩)<;>first|omega|(simp [go_sem,seval,l,m,k,j,h,s,v,f,n,o,r,aA r,aA K,u]<;>omega)
 .try simp [go_sem] at r
  have hI:i=q.length:=aD
  have hE:Hu p g q i=U:=by rw [hI,J];unfold Hu;rw [Af,List.drop_eq_nil_iff.2 aD,dE]
  rw [hE] at f n
  try simp [go_sem,seval,l,m,k,j,h,s,v,f,n,o,f]
  exact hQ _ _ (by first|(left;(simp [go_sem,l,m,k,j,h,s,v,f,n,o,f,n,dLI]);done)|(right;(simp [go_sem,l,m,k,j,h,s,v,f,n,o,f,n,dLI]);done))
theorem Ay (t:Types)(a:t.ok):Pure Tryz.prog 115 [t.d] (dI (b9 t).2):=by
 refine Tz.pK ⟨λ_=>false,λ_=>[]⟩ Tryz.func115 rfl (λQ b=>?_)
 have Y:=trivial
 refine wv (h:=aB (mI t a) wl ?_)
 exact wv (h:=b _ _ wy)
theorem Az (p g:Graph)(a:List Int)(I:a.length<=100000)(J:p.edges.length<=100000)(E:∀ x∈a,0<=x/\x<g.nodes.length):Pure Tryz.prog 191 [p.d,g.d,dLI a] (Graph.d ⟨a.map (gN g),p.edges⟩):=by
 obtain ⟨b,j⟩:=cW (a.map (gN g))
 have C:b.length=a.length:=by rw [j];simp
 rw [<- j]
 refine Tz.pK ⟨λt=>t==6||t==7||t==1000001,λr=>match r with|5=>[(0,7),(1,7)]|_=>[]⟩ Tryz.func191 rfl (λQ F=>?_)
 have Y:=trivial
 refine wv (h:=?_)
 refine Hb (Bk p.edges aD) (by simp [go_sem]) (by simp [go_sem]) (SA _) ?_
 refine wp (h:=uI (Ghosts.step (Ghosts.refl _) 1 0 0 3 1 _ _ (rfl) rfl rfl rfl) (λi e H=>(e 4=.adr g.c/\e 6=.ptr 0 1 0 0/\e 7=.ptr 1 1 0 0/\e 14=dLI a/\e 15=dI a.length/\e 16=dI i)/\(H.get 0=some ⟨29,2,[[.nil,.nil]],false⟩)/\(0<H.next)/\(H.get 1=some ⟨29,2,[[.own 2 i,.list (p.edges.map Edge.c)]],false⟩)/\(1<H.next)/\(H.get 2=some ⟨3,1,(b.take i).map cI,false⟩)/\(2<H.next)/\(i<=a.length)) (λi=>a.length - i) 0 ⟨wg,wn,wn,wn,wn,(by rfl),wn,wi⟩ λK A i e H w=>?_)
 obtain ⟨G,o,m,n,l,f,k,D⟩:=w
 have Y:=wa Y (wa G (wa o (wa (b8 m) (wa n (wa (b8 l) (wa f (b8 k)))))))
 refine dP (λq=>?_) λq=>?_
 .have hx:=E _ (aC q)
  have B:a[i].toNat<g.nodes.length:=aD
  have u:i<b.length:=aD
  have s:b[i]=g.nodes[a[i].toNat]:=by simp [j,gN,aA B]
  have z:b.take (i+1)=b.take i++[g.nodes[a[i].toNat]]:=by rw [aE u,s]
  have y:(b.take i).length=i:=by simp;omega
  have Y:=wa Y (wa q (wa (aA q) (wa (aA B) y)))
  exact wp (h:=wx A (i+1) ⟨wg,wn,wn,wn,wn,(by simp [go_sem,Y,z,cI]),wn,wj⟩)
 .rw [aG aD] at f
  have v:i=b.length:=aD
  exact wv (h:=F _ _ (by simp [go_sem,Y,v,dLI]))
theorem u0 (l:List Int)(b:l.length<=1000000):Pure Tryz.prog 193 [dLI l] (.bool (decide l.Nodup)):=by
 have a:=kO l
 have c:=y5 l
 have d:=Bi (j5 l)
 unfold imagesN at c
 refine Tz.pK ⟨λ_=>false,λ_=>[]⟩ Tryz.func193 rfl (λQ e=>?_)
 have Y:=trivial
 refine wv (h:=lY (jG l b) wl ?_)
 refine wv (h:=?_)
 unfold fL;refine BC (ty:=3) (xs:=l) (by simp [go_sem]) b ?_
 refine wo (h:=?_)
 unfold fL;refine ACalls.frz ?_;simp [go_sem,a];refine Er (jG (j5 l) aD) (by simp [go_sem]) ?_
 refine wo (h:=?_)
 unfold fL;rw [show l.length=(j5 l).length from a.symm];refine zJ (ty:=3) (xs:=j5 l) (by simp [go_sem]) aD λk=>?_
 exact wo (h:=e _ _ (by simp [go_sem];rw [aR,beq_iff_eq,decide_eq_true_eq,<- c,a];omega))
theorem N9 {l:List Int}{n:Nat}(d:l.Nodup)(c:∀ x∈l,0<=x/\x<n):j5 l=fW l n:=by
 have b:(j5 l).Perm l:=List.mergeSort_perm l _
 have k:(j5 l).Nodup:=b.nodup_iff.2 d
 refine Qh ?_ (TO _ _) λx=>?_
 .rw [dH]
  intro i j f e a
  have o:=dH.1 (Ix l) i j f e a
  have m:(j5 l)[i]≠(j5 l)[j]:=λg=>by have:=(mF k).1 g;omega
  omega
 .rw [tU,b.mem_iff]
  exact ⟨λh=>⟨c x h,h⟩,λh=>h.2⟩
theorem AA (keep a:List Int)(n:Nat)(N:a.Nodup)(M:∀ x∈a,0<=x/\x<n)(T:a.length=keep.length)(I:a.length<=1000000):Pure Tryz.prog 194 [dLI keep,dLI a] (.tup [dLI (fW a n),dLI (dW (fW a n) a keep)]):=by
 have z:=kO a
 have F:=N9 N M
 obtain ⟨g,p⟩:=cW (fW a n)
 rw [<- p] at F
 have C:∀ x∈g,x∈a:=λx L=>(tU.1 (p ▸ L)).2
 have c:g.length=a.length:=by rw [<- F];exact z
 rw [<- p]
 refine Tz.pK ⟨λt=>t==6||t==7,λ_=>[]⟩ Tryz.func194 rfl (λQ P=>?_)
 try simp [go_sem,seval]
 refine lY (jG a I) ((by first|rfl|(simp [go_sem,<- List.map_take,<- List.map_drop];done))) ?_
 try simp [go_sem,seval]
 unfold fL;refine BC (ty:=3) (xs:=a) (by simp [go_sem]) I ?_
 rw [F]
 try simp [go_sem,seval]
 repeat first|intro _|refine ⟨eL,?_⟩
 obtain ⟨G,q⟩:∃ G:Nat->dJ->AHeap->Prop,∀ (i:Nat) (e:dJ) (H:AHeap),G i e H↔((e 0=dLI keep)/\(e 1=dLI a)/\(e 6=.own 0 a.length)/\(e 14=.own 0 a.length)/\(e 15=dI a.length)/\(e 7=.own 1 i)/\(e 16=dI i)/\(H.get 0=some ⟨3,1,g.map cI,false⟩)/\(0<H.next)/\(H.get 1=some ⟨3,1,(dW (g.take i) a keep).map cI,false⟩)/\(1<H.next)/\(i<=g.length)):=⟨λi e H=>_,λ_ _ _=>Iff.rfl⟩
 refine oD G (λi=>g.length - i) (0) ((q _ _ _).2 ⟨?_,?_,?_,?_,?_,?_,?_,?_,?_,(by simp [go_sem,dW]),?_,(by first|assumption|omega|(simp [go_sem];done)|(simp_all;done))⟩) ?_
 iterate 10 (first|omega|(simp [go_sem,seval]<;>omega))
 intro i e H D
 obtain ⟨v,u,s,o,m,r,l,B,y,b,w,O⟩:=(q _ _ _).1 D
 have K:=b8 y
 have J:=b8 w
 have j:=And.intro v (And.intro u (And.intro s (And.intro o (And.intro m (And.intro r (And.intro l (And.intro B (And.intro K J))))))))
 try simp [go_sem,seval,j,b]
 refine aP (λk=>?_) (λk=>?_)
 .try simp [go_sem] at k
  have f:i<g.length:=aD
  obtain ⟨S,R,_⟩:=Dh ((mem_iff _ _).2 (C _ (aC f)))
  have h:(idx a g[i]).toNat<keep.length:=aD
  have E:dW (g.take (i+1)) a keep=dW (g.take i) a keep++[keep[(idx a g[i]).toNat]]:=by unfold dW;rw [aE f,List.map_append];simp [iA,aA h]
  have d:(dW (g.take i) a keep).length=i:=by simp [dW];omega
  try simp [go_sem,seval,j,b,k,aA f,aA h,d,c]
  repeat first|intro _|refine ⟨eL,?_⟩
  refine aB (vF a g[i]) ((by first|rfl|(simp [go_sem,<- List.map_take,<- List.map_drop,j,b,k,aA f,aA h,d,c];done))) ?_
  try simp [go_sem,seval,j,b,k,aA f,aA h,d,c]
  repeat first|intro _|refine ⟨eL,?_⟩
  refine d7 (i+1) aD ((q _ _ _).2 ⟨?_,?_,?_,?_,?_,?_,?_,?_,?_,(by simp [go_sem,j,b,k,aA f,aA h,d,c,E,cI]),?_,(by first|assumption|omega|(simp [go_sem,j,b,k,aA f,aA h,d,c];done)|(simp_all<;>omega))⟩)<;>first|omega|(simp [go_sem,seval,j,b,k,aA f,aA h,d,c]<;>omega)
 .try simp [go_sem] at k
  rw [aG aD] at b
  have A:i=g.length:=aD
  have d:(dW g a keep).length=g.length:=by simp [dW]
  try simp [go_sem,seval,j,b,b,c]
  exact P _ _ (by first|(left;(simp [go_sem,j,b,b,c,A,d,c,dLI]);done)|(right;(simp [go_sem,j,b,b,c,A,d,c,dLI]);done))
theorem uZ (g:Graph)(K:g.nodes.length<=100000)(N:g.edges.length<=100000):Pure Tryz.prog 91 [g.d] (Part.d ⟨iW g.nodes.length,iW g.edges.length⟩):=by
 refine Tz.pK ⟨λt=>t==2||t==3||t==1000001,λ_=>[]⟩ Tryz.func91 rfl (λQ G=>?_)
 have Y:=trivial
 refine wp (h:=uI (Ghosts.step (Ghosts.step (Ghosts.refl _) 1 0 0 3 1 _ _ (rfl) rfl rfl rfl) 1 0 1 3 1 _ _ (rfl) rfl rfl rfl) (λi e H=>(e 1=.adr g.c/\e 2=.ptr 0 1 0 0/\e 3=.ptr 1 1 0 0/\e 8=dI g.nodes.length/\e 9=dI i)/\(H.get 0=some ⟨36,2,[[.nil,.nil]],false⟩)/\(0<H.next)/\(H.get 1=some ⟨36,2,[[.own 2 i,.own 3 0]],false⟩)/\(1<H.next)/\(H.get 2=some ⟨3,1,(iW i).map cI,false⟩)/\(2<H.next)/\(H.get 3=some ⟨3,1,(iW 0).map cI,false⟩)/\(3<H.next)/\(i<=g.nodes.length)) (λi=>g.nodes.length - i) 0 ⟨wg,wn,wn,wn,wn,(by rfl),wn,(by rfl),wn,wi⟩ λP D i e H B=>?_)
 obtain ⟨J,z,r,x,p,v,n,f,l,M⟩:=B
 have Y:=wa Y (wa J (wa z (wa (b8 r) (wa x (wa (b8 p) (wa v (wa (b8 n) (wa f (b8 l)))))))))
 refine dP (λF=>?_) λF=>?_
 .have b:(iW i).length=i:=by simp [iW]
  have Y:=wa Y (wa F b)
  exact wp (h:=wx D (i+1) ⟨wg,wn,wn,wn,wn,(by simp [go_sem,Y,Dc,b]),wn,(by simp [go_sem,Y]),wn,wj⟩)
 .have hI:i=g.nodes.length:=aD
  subst hI
  have b:(iW g.nodes.length).length=g.nodes.length:=by simp [iW]
  have Y:=wa Y b
  refine wp (h:=bD (λk e H=>(e 1=.adr g.c/\e 2=.ptr 0 1 0 0/\e 3=.ptr 1 1 0 0/\e 8=dI g.nodes.length/\e 21=dI g.edges.length/\e 22=dI k)/\(H.get 0=some ⟨36,2,[[.nil,.nil]],false⟩)/\(0<H.next)/\(H.get 1=some ⟨36,2,[[.own 2 g.nodes.length,.own 3 k]],false⟩)/\(1<H.next)/\(H.get 2=some ⟨3,1,(iW g.nodes.length).map cI,false⟩)/\(2<H.next)/\(H.get 3=some ⟨3,1,(iW k).map cI,false⟩)/\(3<H.next)/\(k<=g.edges.length)) (λk=>g.edges.length - k) 0 ⟨wg,wn,wn,wn,wn,wn,wn,(by exact f),wn,wi⟩ λO C k e H A=>?_)
  obtain ⟨I,y,q,w,o,u,m,s,j,L⟩:=A
  have Y:=wa Y (wa I (wa y (wa (b8 q) (wa w (wa (b8 o) (wa u (wa (b8 m) (wa s (b8 j)))))))))
  refine dP (λE=>?_) λE=>?_
  .have a:(iW k).length=k:=by simp [iW]
   have Y:=wa Y (wa E a)
   exact wp (h:=wx C (k+1) ⟨wg,wn,wn,wn,wn,wn,wn,(by simp [go_sem,Y,Dc,a]),wn,wj⟩)
  .have hK:k=g.edges.length:=aD
   subst hK
   have a:(iW g.edges.length).length=g.edges.length:=by simp [iW]
   have Y:=wa Y a
   exact wv (h:=G _ _ (by simp [go_sem,Y,dLI,Part.d,Part.c]))
structure SlotsOk (t:Types) (s:Stp26):Prop where
 n:s.mat.m.nodes.length<=1000
 a:∀ i:Nat,i<s.mat.m.nodes.length->(0<=iA s.mat.m.nodes i/\iA s.mat.m.nodes i<s.before.values.length/\iA s.mat.m.nodes i<s.before.graph.nodes.length)/\(sG s i).length=(bM t (gN s.before.graph (iA s.mat.m.nodes i))).length/\(sG s i).length<=8
 b:∀ i:Nat,i<s.mat.m.nodes.length->mem s.rule.keep.nodes i=true->iA s.mat.m.nodes i<s.track.nodes.length/\0<=iA s.track.nodes (iA s.mat.m.nodes i)/\iA s.track.nodes (iA s.mat.m.nodes i)<s.after.values.length/\(sG s i).length<=(s.after.values[(iA s.track.nodes (iA s.mat.m.nodes i)).toNat]?.getD []).length
theorem j9 (t:Types)(s:Stp26)(i n:Nat):qZ t s i (n+1)=qZ t s i n++fV t s i n:=by simp [qZ,c7]
theorem yC (t:Types)(s:Stp26)(n:Nat):kP t s (n+1)=kP t s n++qZ t s n (sG s n).length:=by simp [kP,c7]
theorem Fx (t:Types)(s:Stp26)(i:Nat):∀ n,(qZ t s i n).length<=n
 | 0=>by simp [qZ]
 | n+1=>by
  have:=Fx t s i n
  rw [j9,aL]
  have:(fV t s i n).length<=1:=by unfold fV;split<;>simp
  omega
theorem AV {t:Types}{s:Stp26}(h:SlotsOk t s):∀ n,n<=s.mat.m.nodes.length->(kP t s n).length<=8 * n
 | 0,_=>by simp [kP]
 | n+1,hn=>by
  have h1:=AV h n aD
  have h2:=Fx t s n (sG s n).length
  have h3:=(h.a n aD).2.2
  rw [yC,aL]
  omega
theorem LT (t:Types)(ht:t.ok)(s:Stp26)(J:SlotsOk t s):Pure Tryz.prog 184 [t.d,.agg s.c] (.list ((kP t s s.mat.m.nodes.length).map Slot.c)):=by
 have hn:=J.n
 refine Tz.pK ⟨λt=>t==5,λ_=>[]⟩ Tryz.func184 rfl (λQ hQ=>?_)
 have Y:=wa @Stp26.c.eq_1 (wa @Rule.c.eq_1 (wa @Mat.c.eq_1 @Host.c.eq_1))
 refine wv (h:=bD (λi e H=>∃ u:List Slot,(e 2=.adr t.c/\e 3=.adr s.c/\e 5=.own 0 u.length/\e 6=dI i)/\(H.get 0=some ⟨159,4,u.map Slot.c,false⟩)/\(0<H.next)/\(i<=s.mat.m.nodes.length)/\(u.length<=8 * i)/\(u=kP t s i)) (λi=>s.mat.m.nodes.length - i) 0 ⟨([]),wg,wn,wn,wi,bW,(by rfl)⟩ λI0 W i e H P=>?_)
 obtain ⟨u,E0,I,A,hi,hl,X⟩:=P
 have Y:=wa Y (wa E0 (wa I (b8 A)))
 refine rT (λy=>?_) λy=>?_
 .obtain ⟨⟨a1,a2,a3⟩,a4,a5⟩:=J.a i y
  have Z:=J.b i y
  obtain ⟨q,hq⟩:=cW ((iA s.mat.m.nodes i).toNat)
  have w:iA s.mat.m.nodes i=(q:Int):=aD
  have N:s.mat.m.nodes[i]=(q:Int):=by rw [<- w,lA y]
  have C:q<s.before.values.length:=aD
  have E:q<s.before.graph.nodes.length:=aD
  obtain ⟨K,V⟩:=cW (gN s.before.graph (iA s.mat.m.nodes i))
  have U:s.before.graph.nodes[q]=K:=by rw [V,w];unfold gN;rw [Int.toNat_natCast,aA E];rfl
  obtain ⟨o,v⟩:=cW (sG s i)
  have M:s.before.values[q]=o:=by rw [v];unfold sG;rw [<- hq,aA C];rfl
  rw [<- V,<- v] at a4
  rw [<- v] at a5 Z
  have Y:=wa Y (wa y (wa (aA y) (wa N (wa (aA C) (wa (aA E) (wa U (wa M @cL.eq_1)))))))
  refine wp (h:=aI (oA t ht K) wl ?_)
  refine wp (h:=bD (λk e H=>∃ j:List Slot,(e 2=.adr t.c/\e 3=.adr s.c/\e 5=.own 0 j.length/\e 6=dI i/\e 7=dI q/\e 8=dLI o/\e 9=.list ((bM t K).map Attr.c)/\e 11=dI k)/\(H.get 0=some ⟨159,4,j.map Slot.c,false⟩)/\(0<H.next)/\(k<=o.length)/\(j.length<=8 * i+k)/\(j=u++qZ t s i k)) (λk=>o.length - k) 0 ⟨u,wg,wn,wn,wi,aD,(by simp [qZ])⟩ λI2 p k e H O=>?_)
  obtain ⟨j,E2,G,z,hk,a0,B⟩:=O
  have Y:=wa Y (wa E2 (wa G (b8 z)))
  refine rT (λL=>?_) λL=>?_
  .have hka:k<(bM t K).length:=aD
   have l:o[k]?.getD 0=o[k]:=by rw [aA L];rfl
   have Y:=wa Y (wa L (wa (aA L) (wa (aA hka) @Attr.c.eq_1)))
   refine wp (h:=aB (IG s.rule.keep.nodes i) wl ?_)
   refine rT (λr=>?_) λr=>?_
   .obtain ⟨b1,b2,b3,b4⟩:=Z (bX r)
    obtain ⟨T,hT⟩:=cW ((iA s.track.nodes (iA s.mat.m.nodes i)).toNat)
    have D:q<s.track.nodes.length:=aD
    have S:iA s.track.nodes (iA s.mat.m.nodes i)=(T:Int):=aD
    have R:s.track.nodes[q]=(T:Int):=by rw [<- S,w,lA D]
    have x:T<s.after.values.length:=aD
    rw [<- hT,aA x] at b4
    have F:k<s.after.values[T].length:=by simp only [Option.getD_some] at b4;omega
    have f:Dd t s i k=s.after.values[T][k]:=by unfold Dd;rw [if_pos (bX r),<- hT,aA x,Option.getD_some,aA F];rfl
    have Y:=wa Y (wa (aA D) (wa R (wa (aA x) (aA F))))
    refine rT (λg=>?_) λg=>?_
    .have hsl:fV t s i k=[⟨i,k,⟨-1,o[k]⟩⟩]:=by unfold fV;rw [<- v,l,f,if_pos (bX g)]
     have Y:=wa Y (wa hsl (wa @Slot.c.eq_1 @Term.c.eq_1))
     exact wp (h:=wx p (k+1) ⟨(j++fV t s i k),wg,wn,wn,wj,(by rw [aL];have:(fV t s i k).length<=1:=(by unfold fV;split<;>simp);omega),(by rw [B,j9,List.append_assoc])⟩)
    .have hsl:fV t s i k=[]:=by unfold fV;rw [<- v,l,f,if_neg (bX g)]
     have Y:=wa Y hsl
     exact wp (h:=wx p (k+1) ⟨(j++fV t s i k),wg,wn,wn,wj,(by rw [aL];have:(fV t s i k).length<=1:=(by unfold fV;split<;>simp);omega),(by rw [B,j9,List.append_assoc])⟩)
   .have f:Dd t s i k=(bM t K)[k].low:=by unfold Dd;rw [if_neg (bX r),<- V,aA hka];rfl
    refine rT (λg=>?_) λg=>?_
    .have hsl:fV t s i k=[⟨i,k,⟨-1,o[k]⟩⟩]:=by unfold fV;rw [<- v,l,f,if_pos (bX g)]
     have Y:=wa Y (wa hsl (wa @Slot.c.eq_1 @Term.c.eq_1))
     exact wp (h:=wx p (k+1) ⟨(j++fV t s i k),wg,wn,wn,wj,(by rw [aL];have:(fV t s i k).length<=1:=(by unfold fV;split<;>simp);omega),(by rw [B,j9,List.append_assoc])⟩)
    .have hsl:fV t s i k=[]:=by unfold fV;rw [<- v,l,f,if_neg (bX g)]
     have Y:=wa Y hsl
     exact wp (h:=wx p (k+1) ⟨(j++fV t s i k),wg,wn,wn,wj,(by rw [aL];have:(fV t s i k).length<=1:=(by unfold fV;split<;>simp);omega),(by rw [B,j9,List.append_assoc])⟩)
  .have hyx:j=kP t s (i+1):=by rw [B,yC,<- X,<- v,(aD:k=o.length)]
   exact wp (h:=wx W (i+1) ⟨j,wg,wn,wn,wj,(by rw [hyx];have:=AV J (i+1) y;omega),(by rw [hyx])⟩)
 .have hX:u=kP t s s.mat.m.nodes.length:=by rw [X,(aD:i=s.mat.m.nodes.length)]
  exact wv (h:=hQ _ _ (by simp [go_sem,Y,hX]))
theorem HJ (t:Types)(ht:t.ok)(s:Stp26)(J:SlotsOk t s):Pure Tryz.prog 192 [t.d,.agg s.c] (.list ((kP t s s.mat.m.nodes.length).map Slot.c)):=by
 have hn:=J.n
 refine Tz.pK ⟨λt=>t==5||t==11,λ_=>[]⟩ Tryz.func192 rfl (λQ hQ=>?_)
 have Y:=wa @Stp26.c.eq_1 (wa @Rule.c.eq_1 (wa @Mat.c.eq_1 @Host.c.eq_1))
 refine wp (h:=bD (λi e H=>∃ u:List Slot,(e 2=.adr t.c/\e 3=.adr s.c/\e 17=dLI s.mat.m.nodes/\e 18=dI s.mat.m.nodes.length/\e 5=.own 0 u.length/\e 19=dI i)/\(H.get 0=some ⟨159,4,u.map Slot.c,false⟩)/\(0<H.next)/\(i<=s.mat.m.nodes.length)/\(u.length<=8 * i)/\(u=kP t s i)) (λi=>s.mat.m.nodes.length - i) 0 ⟨([]),wg,wn,wn,wi,bW,(by rfl)⟩ λI0 W i e H P=>?_)
 obtain ⟨u,E0,I,A,hi,hl,X⟩:=P
 have Y:=wa Y (wa E0 (wa I (b8 A)))
 refine dP (λy=>?_) λy=>?_
 .obtain ⟨⟨a1,a2,a3⟩,a4,a5⟩:=J.a i y
  have Z:=J.b i y
  obtain ⟨q,hq⟩:=cW ((iA s.mat.m.nodes i).toNat)
  have w:iA s.mat.m.nodes i=(q:Int):=aD
  have N:s.mat.m.nodes[i]=(q:Int):=by rw [<- w,lA y]
  have C:q<s.before.values.length:=aD
  have E:q<s.before.graph.nodes.length:=aD
  obtain ⟨K,V⟩:=cW (gN s.before.graph (iA s.mat.m.nodes i))
  have U:s.before.graph.nodes[q]=K:=by rw [V,w];unfold gN;rw [Int.toNat_natCast,aA E];rfl
  obtain ⟨o,v⟩:=cW (sG s i)
  have M:s.before.values[q]=o:=by rw [v];unfold sG;rw [<- hq,aA C];rfl
  rw [<- V,<- v] at a4
  rw [<- v] at a5 Z
  have Y:=wa Y (wa y (wa (aA y) (wa N (wa (aA C) (wa (aA E) (wa U (wa M @cL.eq_1)))))))
  refine wp (h:=aI (n7 t ht K) wl ?_)
  refine wp (h:=bD (λk e H=>∃ j:List Slot,(e 2=.adr t.c/\e 3=.adr s.c/\e 17=dLI s.mat.m.nodes/\e 18=dI s.mat.m.nodes.length/\e 5=.own 0 j.length/\e 19=dI i/\e 6=dI i/\e 7=dI q/\e 8=.list ((bM t K).map Attr.c)/\e 36=.list ((bM t K).map Attr.c)/\e 37=dI o.length/\e 38=dI k)/\(H.get 0=some ⟨159,4,j.map Slot.c,false⟩)/\(0<H.next)/\(k<=o.length)/\(j.length<=8 * i+k)/\(j=u++qZ t s i k)) (λk=>o.length - k) 0 ⟨u,wg,wn,wn,wi,aD,(by simp [qZ])⟩ λI2 p k e H O=>?_)
  obtain ⟨j,E2,G,z,hk,a0,B⟩:=O
  have Y:=wa Y (wa E2 (wa G (b8 z)))
  refine dP (λL=>?_) λL=>?_
  .have hka:k<(bM t K).length:=aD
   have l:o[k]?.getD 0=o[k]:=by rw [aA L];rfl
   have Y:=wa Y (wa L (wa (aA L) (wa (aA hka) @Attr.c.eq_1)))
   refine wp (h:=aB (fR s.rule.keep.nodes i) wl ?_)
   refine rT (λr=>?_) λr=>?_
   .obtain ⟨b1,b2,b3,b4⟩:=Z (bX r)
    obtain ⟨T,hT⟩:=cW ((iA s.track.nodes (iA s.mat.m.nodes i)).toNat)
    have D:q<s.track.nodes.length:=aD
    have S:iA s.track.nodes (iA s.mat.m.nodes i)=(T:Int):=aD
    have R:s.track.nodes[q]=(T:Int):=by rw [<- S,w,lA D]
    have x:T<s.after.values.length:=aD
    rw [<- hT,aA x] at b4
    have F:k<s.after.values[T].length:=by simp only [Option.getD_some] at b4;omega
    have f:Dd t s i k=s.after.values[T][k]:=by unfold Dd;rw [if_pos (bX r),<- hT,aA x,Option.getD_some,aA F];rfl
    have Y:=wa Y (wa (aA D) (wa R (wa (aA x) (aA F))))
    refine rT (λg=>?_) λg=>?_
    .have hsl:fV t s i k=[⟨i,k,⟨-1,o[k]⟩⟩]:=by unfold fV;rw [<- v,l,f,if_pos (bX g)]
     have Y:=wa Y (wa hsl (wa @Slot.c.eq_1 @Term.c.eq_1))
     exact wp (h:=wx p (k+1) ⟨(j++fV t s i k),wg,wn,wn,wj,(by rw [aL];have:(fV t s i k).length<=1:=(by unfold fV;split<;>simp);omega),(by rw [B,j9,List.append_assoc])⟩)
    .have hsl:fV t s i k=[]:=by unfold fV;rw [<- v,l,f,if_neg (bX g)]
     have Y:=wa Y hsl
     exact wp (h:=wx p (k+1) ⟨(j++fV t s i k),wg,wn,wn,wj,(by rw [aL];have:(fV t s i k).length<=1:=(by unfold fV;split<;>simp);omega),(by rw [B,j9,List.append_assoc])⟩)
   .have f:Dd t s i k=(bM t K)[k].low:=by unfold Dd;rw [if_neg (bX r),<- V,aA hka];rfl
    refine dP (λg=>?_) λg=>?_
    .have hsl:fV t s i k=[⟨i,k,⟨-1,o[k]⟩⟩]:=by unfold fV;rw [<- v,l,f,if_pos (bX g)]
     have Y:=wa Y (wa hsl (wa @Slot.c.eq_1 @Term.c.eq_1))
     exact wp (h:=wx p (k+1) ⟨(j++fV t s i k),wg,wn,wn,wj,(by rw [aL];have:(fV t s i k).length<=1:=(by unfold fV;split<;>simp);omega),(by rw [B,j9,List.append_assoc])⟩)
    .have hsl:fV t s i k=[]:=by unfold fV;rw [<- v,l,f,if_neg (bX g)]
     have Y:=wa Y hsl
     exact wp (h:=wx p (k+1) ⟨(j++fV t s i k),wg,wn,wn,wj,(by rw [aL];have:(fV t s i k).length<=1:=(by unfold fV;split<;>simp);omega),(by rw [B,j9,List.append_assoc])⟩)
  .have hyx:j=kP t s (i+1):=by rw [B,yC,<- X,<- v,(aD:k=o.length)]
   exact wp (h:=wx W (i+1) ⟨j,wg,wn,wn,wj,(by rw [hyx];have:=AV J (i+1) y;omega),(by rw [hyx])⟩)
 .have hX:u=kP t s s.mat.m.nodes.length:=by rw [X,(aD:i=s.mat.m.nodes.length)]
  exact wv (h:=hQ _ _ (by simp [go_sem,Y,hX]))
end Go.Abs
end
