/- Plain law: the undoing step leads to a host that is isomorph -/
import Derived.Test.YthalajhajpjjeaaGreatZhV
import Derived.Test.YthalajhajpjjeaaGreatZhF
import Derived.Test.YthalajhajpjjeaaGreatZhA
set_option linter.unusedVariables false
set_option linter.unusedSimpArgs false
section
set_option maxRecDepth 100000
set_option maxHeartbeats 4000000
open Go Go.Proofs
namespace Go.Abs
section
variable {t:Types} {r:Rule} {h:Host} {m:Mat}
theorem StepIn.newN (S:StepIn t r h m){f:Nat}(hf:f<r.freshN.length):gN (bI t r h m).graph ((bY r h m).nodes.length+f:Nat)=gN r.right.graph (iA r.freshN f) ∧
  (bI t r h m).values[(bY r h m).nodes.length+f]?.getD []=oA t (gN r.right.graph (iA r.freshN f)):=by
 rw [lH hf]
 constructor
 ·unfold gN
  rw [Int.toNat_natCast,S.bareN,bB (by simp),aS,nS,aH,aA hf];rfl
 ·rw [JC,bB (by simp),aS,nS,aH,aA hf];rfl
theorem StepIn.newE (S:StepIn t r h m){f:Nat}(hf:f<r.freshE.length):eA (bI t r h m).graph ((bY r h m).edges.length+f:Nat)=freshE (dO r h m) (eA r.right.graph (iA r.freshE f)):=by
 rw [lH hf]
 unfold eA
 rw [Int.toNat_natCast,S.bareE,bB (by simp),aS,nS,aH,aA hf];rfl
theorem HostOk.rowlen (ho:HostOk t h){v:Int}(h0:0≤v)(h1:v<h.graph.nodes.length):(h.values[v.toNat]?.getD []).length=(bM t (gN h.graph v)).length:=by
 have hv:=ho.vl
 have a:v.toNat<h.graph.nodes.length:=by omega
 have b:v.toNat<h.values.length:=by omega
 have:=(rX (ho.nd v.toNat a b)).2.2.1
 rw [aA b,Option.getD_some,this]
 unfold gN;rw [aA a];rfl
end
section
variable {t:Types} {r:Rule} {h g:Host} {m m':Mat} {m0:Part}
theorem Back.val (B:Back t r h m g m0 m'){p:Nat}{v:Int}(hR:CH r.keep.nodes r.into.nodes m.m.nodes m0.nodes m'.m.nodes r.left.graph.nodes.length r.right.graph.nodes.length h.graph.nodes.length g.graph.nodes.length p v)
  (hp:p<(dR t (gB t (b9 t r h m)) g m').graph.nodes.length):(dR t (gB t (b9 t r h m)) g m').values[p]?.getD []=h.values[v.toNat]?.getD []:=by
 have U:=B.undN
 have K:=B.K
 have K':=B.K'
 obtain ⟨u,hu⟩:∃ u,u=gB t (b9 t r h m):=⟨_,rfl⟩
 have hvr:=(U.range hR).2
 have hh:=K.S.ho
 have ex:u.right.slots=JX t (b9 t r h m) m.m.nodes.length:=by rw [hu];rfl
 have eN:(dJ r h m).nodes=_:=K.S.trN
 have eT:(dJ u g m').nodes=kP (f8 r.into.nodes r.right.graph.nodes.length) m'.m.nodes g.graph.nodes.length:=by rw [hu];exact K'.S.trN
 have eC:(dO u g m').nodes=wI (f8 r.into.nodes r.right.graph.nodes.length) (fI (f8 r.into.nodes r.right.graph.nodes.length) r.into.nodes r.keep.nodes) m'.m.nodes r.left.graph.nodes.length g.graph.nodes.length:=by
  have:=K'.S.coN
  rw [B.left_len.2] at this
  rw [hu];exact this
 have hml:m.m.nodes.length=r.left.graph.nodes.length:=K.S.hm.len
 rw [← hu] at K' hp ⊢
 obtain ⟨r1,r2⟩:=K'.rows
 have hbl:=K'.S.vlen
 have hpb:p<(bI t u g m').values.length:=by rw [hbl];exact hp
 have slot:∀ {s:Slot} {i k:Nat},i<m.m.nodes.length→k<(Aq (b9 t r h m) i).length→s=⟨i,k,⟨-1,(Aq (b9 t r h m) i)[k]?.getD 0⟩⟩→kF (dO u g m') s=p→iA m.m.nodes i=v:=by
  intro s i k hi hk hs he
  have h2:CH r.keep.nodes r.into.nodes m.m.nodes m0.nodes m'.m.nodes r.left.graph.nodes.length r.right.graph.nodes.length h.graph.nodes.length g.graph.nodes.length p (iA m.m.nodes i):=by
   refine .inr ⟨i,by omega,?_,rfl⟩
   rw [← he,hs,← eC];rfl
  exact U.uni h2 hR
 have some_:∀ {a x:Int},FA (dO u g m') m'.vars u.right.slots p a=some x→x=(h.values[v.toNat]?.getD [])[a.toNat]?.getD 0:=by
  intro a x hx
  obtain ⟨s,hs,e1,e2,e3⟩:=Am hx
  rw [ex] at hs
  obtain ⟨i,hi,k,hk,hne,rfl⟩:=Fz.1 hs
  have hv:=slot hi hk rfl e1
  rw [← e3,← e2]
  unfold dE
  simp only
  rw [if_pos (by omega)]
  unfold Aq
  simp only [b9]
  rw [hv];simp
 have none_:∀ {a:Nat} {j:Int},(0≤j∧j<r.left.graph.nodes.length)→iA m.m.nodes j=v→a<(h.values[v.toNat]?.getD []).length→FA (dO u g m') m'.vars u.right.slots p a=none→S3 t (b9 t r h m) j.toNat a=(h.values[v.toNat]?.getD [])[a]?.getD 0:=by
  intro a j hj hv ha hn
  refine bA fun hne=>?_
  have e0:Aq (b9 t r h m) j.toNat=h.values[v.toNat]?.getD []:=by
   unfold Aq;simp only [b9];rw [show ((j.toNat:Nat):Int)=j by omega,hv]
  have hs:(⟨(j.toNat:Nat),a,⟨-1,(Aq (b9 t r h m) j.toNat)[a]?.getD 0⟩⟩:Slot)∈u.right.slots:=by
   rw [ex]
   exact Fz.2 ⟨j.toNat,by omega,a,by rw [e0];exact ha,by rw [e0];exact fun e=>hne e.symm,rfl⟩
  have hk:kF (dO u g m') ⟨(j.toNat:Nat),a,⟨-1,(Aq (b9 t r h m) j.toNat)[a]?.getD 0⟩⟩=p:=by
   have h2:CH r.keep.nodes r.into.nodes m.m.nodes m0.nodes m'.m.nodes r.left.graph.nodes.length r.right.graph.nodes.length h.graph.nodes.length g.graph.nodes.length (iA (dO u g m').nodes j) v:=.inr ⟨j,hj,by rw [eC],hv⟩
   have:=U.inj h2 hR
   rw [← this];unfold kF iA;rw [Int.toNat_natCast]
  have:=PU K'.eqK hs
  rw [hk] at this
  simp only at this
  rw [hn] at this;cases this
 have row:∀ {w:List Int},(bI t u g m').values[p]?.getD []=w→w.length=(h.values[v.toNat]?.getD []).length→(∀ a:Nat,a<(h.values[v.toNat]?.getD []).length→FA (dO u g m') m'.vars u.right.slots p a=none→w[a]?.getD 0=(h.values[v.toNat]?.getD [])[a]?.getD 0) →
   (dR t u g m').values[p]?.getD []=h.values[v.toNat]?.getD []:=by
  intro w hw hl hN
  have hrl:=r2 p
  rw [hw] at hrl
  refine eW (by omega) fun a h1 h2=>?_
  have hv:=K'.value hpb (a:=a) (by rw [hw];omega)
  rw [hw] at hv
  have e1:((dR t u g m').values[p]?.getD [])[a]=(FA (dO u g m') m'.vars u.right.slots p a).getD (w[a]?.getD 0):=by
   rw [aA h1] at hv;exact Option.some.inj hv
  have e2:(h.values[v.toNat]?.getD [])[a]=(h.values[v.toNat]?.getD [])[a]?.getD 0:=by rw [aA h2];rfl
  rw [e1,e2]
  cases hq:FA (dO u g m') m'.vars u.right.slots p a with
  | none=>exact hN a h2 hq
  | some x=>exact some_ hq
 rcases U.cases hR with ⟨x,hx,hT,hv,hTv⟩|⟨j,f,hj,hjk,hf,hfj,hpf,hv⟩
 ·have hxr:=(U.S'.d_iff.1 hx).1
  have hgx:g.values[x.toNat]?.getD []=(dR t r h m).values[(iA m0.nodes x).toNat]?.getD []:=B.I.va x hxr.1 hxr.2
  rw [← hTv] at hgx
  obtain ⟨q,q1,q2,q3⟩:=U.S.t_in hv
  have hrem:=K.remN (i:=v.toNat) (by omega) (by rw [eN,show ((v.toNat:Nat):Int)=v by omega,q1];omega)
  rw [eN,show ((v.toNat:Nat):Int)=v by omega] at hrem
  have hbx:(bI t u g m').values[p]?.getD []=g.values[x.toNat]?.getD []:=by
   obtain ⟨q',q1',q2',q3'⟩:=U.S'.t_in hx
   have hpq:p=q':=by omega
   have hrs:(bY u g m').nodes=iL (f8 r.into.nodes r.right.graph.nodes.length) m'.m.nodes g.graph.nodes.length:=by rw [hu];exact B.K'.S.restN
   rw [JC,aT (by rw [aS,hrs];omega),aH,hrs,hpq,aA q2',c6,Option.getD_some,← lH q2',q3']
  refine row hbx ?_ fun a ha hn=>?_
  ·rw [hgx,hrem.v2]
  ·rw [hgx]
   by_cases hex:∃ j:Int,(0≤j∧j<r.left.graph.nodes.length)∧iA m.m.nodes j=v
   ·obtain ⟨j,hj,hjv⟩:=hex
    have hk:j∈r.keep.nodes:=bA fun hk=>(U.S.d_iff.1 hv).2 j hj.1 hj.2 hk hjv
    have:=none_ hj hjv ha hn
    unfold S3 at this
    rw [if_pos (by simp only [b9];rw [show ((j.toNat:Nat):Int)=j by omega];exact (cQ _ _).2 hk)] at this
    simp only [b9] at this
    rw [show ((j.toNat:Nat):Int)=j by omega,hjv,eN] at this
    exact this
   ·refine hrem.v3 a (by rw [← Option.getD_some (a:=h.values[v.toNat]?.getD []) (b:=[])];exact ha) fun s hs ⟨hks,_⟩=>hex ?_
    have hsr:=K.S.hR.slots s hs
    have hky:kF (dO r h m) s=iA (wI r.keep.nodes r.into.nodes m.m.nodes r.right.graph.nodes.length h.graph.nodes.length) s.node:=by rw [← K.S.coN];rfl
    rw [hky] at hks
    have hin:s.node∈r.into.nodes:=by
     refine bA fun hni=>?_
     obtain ⟨f,_,_,hf⟩:=U.S.c_fresh hsr.1 hni
     omega
    obtain ⟨q,hq,hqe⟩:=w5 hin
    have hkl:=U.S.kl
    rw [← hqe,U.S.c_kept (by omega)] at hks
    have hkm:iA r.keep.nodes q∈r.keep.nodes:=fG (by omega) (by omega)
    exact ⟨_,U.S.kr _ hkm,U.S.t_inj (U.S.kept_in hkm) hv hks⟩
 ·have hfr:u.freshN=bF (fI (f8 r.into.nodes r.right.graph.nodes.length) r.into.nodes r.keep.nodes) r.left.graph.nodes.length:=by
   unfold Rule.freshN;rw [hu,B.left_len.2];rfl
  have hrs:(bY u g m').nodes=iL (f8 r.into.nodes r.right.graph.nodes.length) m'.m.nodes g.graph.nodes.length:=by rw [hu];exact B.K'.S.restN
  have hnew:=(K'.S.newN (f:=f) (by rw [hfr];exact hf)).2
  have hgn:gN u.right.graph j=gN h.graph v:=by
   have e:u.right.graph=nI r.left.graph h.graph m.m:=by rw [hu];rfl
   rw [e]
   have:gN (nI r.left.graph h.graph m.m) j=iA (m.m.nodes.map (gN h.graph)) j:=rfl
   rw [this,yN _ hj.1 (by omega),hv]
  rw [hfr,hfj,hgn,hrs,show (iL (f8 r.into.nodes r.right.graph.nodes.length) m'.m.nodes g.graph.nodes.length).length+f=p by omega] at hnew
  have hrl:=hh.rowlen hvr.1 hvr.2
  refine row hnew (by unfold oA;rw [aS,hrl]) fun a ha hn=>?_
  have:=none_ hj hv ha hn
  rw [← this]
  unfold S3
  rw [if_neg (by simp only [b9];rw [show ((j.toNat:Nat):Int)=j by omega];exact fun hm=>hjk ((cQ _ _).1 hm))]
  simp only [b9]
  rw [show ((j.toNat:Nat):Int)=j by omega,hv]
  have ha':a<(bM t (gN h.graph v)).length:=by omega
  unfold oA
  rw [aH,aA ha'];rfl
theorem Back.iso (B:Back t r h m g m0 m'):HIso (dR t (gB t (b9 t r h m)) g m') h
  (YA (dJ r h m) (dJ (gB t (b9 t r h m)) g m') (dO (gB t (b9 t r h m)) g m') m.m ⟨tY m0.nodes,tY m0.edges⟩ (dR t (gB t (b9 t r h m)) g m').graph.nodes.length (dR t (gB t (b9 t r h m)) g m').graph.edges.length):=by
 have U:=B.undN
 have V:=B.undE
 have K:=B.K
 have K':=B.K'
 have hll:=B.left_len
 have hn:(dR t (gB t (b9 t r h m)) g m').graph.nodes.length=(iL (f8 r.into.nodes r.right.graph.nodes.length) m'.m.nodes g.graph.nodes.length).length+(bF (fI (f8 r.into.nodes r.right.graph.nodes.length) r.into.nodes r.keep.nodes) r.left.graph.nodes.length).length:=by
  have:=K'.S.sizeN
  rw [hll.2] at this;exact this
 have he:(dR t (gB t (b9 t r h m)) g m').graph.edges.length=(iL (f8 r.into.edges r.right.graph.edges.length) m'.m.edges g.graph.edges.length).length+(bF (fI (f8 r.into.edges r.right.graph.edges.length) r.into.edges r.keep.edges) r.left.graph.edges.length).length:=K'.S.sizeE
 have eT:(dJ (gB t (b9 t r h m)) g m').nodes=kP (f8 r.into.nodes r.right.graph.nodes.length) m'.m.nodes g.graph.nodes.length:=K'.S.trN
 have eT2:(dJ (gB t (b9 t r h m)) g m').edges=kP (f8 r.into.edges r.right.graph.edges.length) m'.m.edges g.graph.edges.length:=K'.S.trE
 have eC:(dO (gB t (b9 t r h m)) g m').nodes=wI (f8 r.into.nodes r.right.graph.nodes.length) (fI (f8 r.into.nodes r.right.graph.nodes.length) r.into.nodes r.keep.nodes) m'.m.nodes r.left.graph.nodes.length g.graph.nodes.length:=by
  have:=K'.S.coN
  rw [hll.2] at this;exact this
 have eC2:(dO (gB t (b9 t r h m)) g m').edges=wI (f8 r.into.edges r.right.graph.edges.length) (fI (f8 r.into.edges r.right.graph.edges.length) r.into.edges r.keep.edges) m'.m.edges r.left.graph.edges.length g.graph.edges.length:=K'.S.coE
 have hRn:=U.org hn
 have hRe:=V.org he
 have hval:=fun {p:Nat} {v:Int} hR hp=>B.val (p:=p) (v:=v) hR hp
 have hml:m.m.nodes.length=r.left.graph.nodes.length:=K.S.hm.len
 have hmo:=(Cu K.S.hc).1
 have hsv:∀ {k:Int},k∈(bY r h m).edges→(eA h.graph k).from_∈(bY r h m).nodes∧(eA h.graph k).to_∈(bY r h m).nodes:=fun hk=>pT K.S.sub hk
 have hsg:∀ {k:Int},k∈(bY (gB t (b9 t r h m)) g m').edges→(eA g.graph k).from_∈(bY (gB t (b9 t r h m)) g m').nodes∧(eA g.graph k).to_∈(bY (gB t (b9 t r h m)) g m').nodes:=fun hk=>pT K'.S.sub hk
 have hrs:(bY (gB t (b9 t r h m)) g m').nodes=iL (f8 r.into.nodes r.right.graph.nodes.length) m'.m.nodes g.graph.nodes.length:=K'.S.restN
 have hrs2:(bY (gB t (b9 t r h m)) g m').edges=iL (f8 r.into.edges r.right.graph.edges.length) m'.m.edges g.graph.edges.length:=K'.S.restE
 have hrem:=fun {i:Nat} a b=>K'.remN (i:=i) a b
 have hremE:=fun {i:Nat} a b=>K'.remE (i:=i) a b
 have hnewN:=fun {f:Nat} a=>(K'.S.newN (f:=f) a).1
 have hnewE:=fun {f:Nat} a=>K'.S.newE (f:=f) a
 have hfrN:(gB t (b9 t r h m)).freshN=bF (fI (f8 r.into.nodes r.right.graph.nodes.length) r.into.nodes r.keep.nodes) r.left.graph.nodes.length:=by unfold Rule.freshN;rw [hll.2];rfl
 have hfrE:(gB t (b9 t r h m)).freshE=bF (fI (f8 r.into.edges r.right.graph.edges.length) r.into.edges r.keep.edges) r.left.graph.edges.length:=rfl
 have hrg:(gB t (b9 t r h m)).right.graph=nI r.left.graph h.graph m.m:=rfl
 have hag:(dR t (gB t (b9 t r h m)) g m').graph=(bI t (gB t (b9 t r h m)) g m').graph:=rfl
 have hvl:(dR t (gB t (b9 t r h m)) g m').values.length=(dR t (gB t (b9 t r h m)) g m').graph.nodes.length:=by rw [K'.rows.1,K'.S.vlen,hag]
 unfold YA
 rw [K.S.trN,K.S.trE,eT,eT2,eC,eC2]
 simp only
 rw [eT] at hrem
 rw [eT,eT2] at hremE
 generalize gB t (b9 t r h m)=u at *
 obtain ⟨nn,hnn⟩:∃ nn,nn=(dR t u g m').graph.nodes.length:=⟨_,rfl⟩
 obtain ⟨ne,hne⟩:∃ ne,ne=(dR t u g m').graph.edges.length:=⟨_,rfl⟩
 rw [← hnn] at hRn hn ⊢
 rw [← hne] at hRe he ⊢
 have hlN:=Mx (oP (kP r.keep.nodes m.m.nodes h.graph.nodes.length) (tY m0.nodes)) (kP (f8 r.into.nodes r.right.graph.nodes.length) m'.m.nodes g.graph.nodes.length) (wI (f8 r.into.nodes r.right.graph.nodes.length) (fI (f8 r.into.nodes r.right.graph.nodes.length) r.into.nodes r.keep.nodes) m'.m.nodes r.left.graph.nodes.length g.graph.nodes.length) m.m.nodes nn
 have hlE:=Mx (oP (kP r.keep.edges m.m.edges h.graph.edges.length) (tY m0.edges)) (kP (f8 r.into.edges r.right.graph.edges.length) m'.m.edges g.graph.edges.length) (wI (f8 r.into.edges r.right.graph.edges.length) (fI (f8 r.into.edges r.right.graph.edges.length) r.into.edges r.keep.edges) m'.m.edges r.left.graph.edges.length g.graph.edges.length) m.m.edges ne
 generalize AZ (oP (kP r.keep.nodes m.m.nodes h.graph.nodes.length) (tY m0.nodes)) (kP (f8 r.into.nodes r.right.graph.nodes.length) m'.m.nodes g.graph.nodes.length) (wI (f8 r.into.nodes r.right.graph.nodes.length) (fI (f8 r.into.nodes r.right.graph.nodes.length) r.into.nodes r.keep.nodes) m'.m.nodes r.left.graph.nodes.length g.graph.nodes.length) m.m.nodes nn=sn at *
 generalize AZ (oP (kP r.keep.edges m.m.edges h.graph.edges.length) (tY m0.edges)) (kP (f8 r.into.edges r.right.graph.edges.length) m'.m.edges g.graph.edges.length) (wI (f8 r.into.edges r.right.graph.edges.length) (fI (f8 r.into.edges r.right.graph.edges.length) r.into.edges r.keep.edges) m'.m.edges r.left.graph.edges.length g.graph.edges.length) m.m.edges ne=se at *
 obtain ⟨a1,a2,a3⟩:=U.perm hn hlN hRn
 obtain ⟨b1,b2,b3⟩:=V.perm he hlE hRe
 have at_:∀ {p v:Int},CH r.keep.nodes r.into.nodes m.m.nodes m0.nodes m'.m.nodes r.left.graph.nodes.length r.right.graph.nodes.length h.graph.nodes.length g.graph.nodes.length p v→iA sn p=v:=fun {p v} hR=>by
  have hr:=(U.range hR).1
  have:=hRn p.toNat (by omega)
  rw [show ((p.toNat:Nat):Int)=p by omega] at this
  exact U.uni this hR
 refine ⟨by rw [hlN,hnn],by rw [hlE,hne],by rw [← hnn];exact a3,by rw [← hne];exact b3,hvl,K.S.ho.vl,a1,b1,a2,b2,fun p h0 hp=>?_,fun p h0 hp=>?_,fun p h0 hp=>?_⟩
 ·have hR:=hRn p.toNat (by omega)
  rw [show ((p.toNat:Nat):Int)=p by omega] at hR
  rcases U.cases hR with ⟨x,hx,hT,hv,hTv⟩|⟨j,f,hj,hjk,hf,hfj,hpf,hv⟩
  ·have hxr:=(U.S'.d_iff.1 hx).1
   have hvr:=(U.S.d_iff.1 hv).1
   obtain ⟨q,q1,q2,q3⟩:=U.S.t_in hv
   obtain ⟨q',q1',q2',q3'⟩:=U.S'.t_in hx
   have e1:=(K.remN (i:=(iA sn p).toNat) (by omega) (by rw [K.S.trN,show (((iA sn p).toNat:Nat):Int)=iA sn p by omega,q1];omega)).n2
   rw [K.S.trN,show (((iA sn p).toNat:Nat):Int)=iA sn p by omega,hTv] at e1
   have e2:=(hrem (i:=x.toNat) (by omega) (by rw [show ((x.toNat:Nat):Int)=x by omega,q1'];omega)).n2
   rw [show ((x.toNat:Nat):Int)=x by omega,hT] at e2
   have e3:=B.I.ty x hxr.1 hxr.2
   unfold gN at e3 ⊢
   rw [e2,e3,e1]
  ·have:=hnewN (f:=f) (by rw [hfrN];exact hf)
   rw [hrs,hfrN,hfj,hrg,← hpf,← hag] at this
   rw [this,← hv]
   exact yN _ hj.1 (by omega)
 ·have hR:=hRe p.toNat (by omega)
  rw [show ((p.toNat:Nat):Int)=p by omega] at hR
  rcases V.cases hR with ⟨x,hx,hT,hv,hTv⟩|⟨j,f,hj,hjk,hf,hfj,hpf,hv⟩
  ·have hxr:=(V.S'.d_iff.1 hx).1
   have hvr:=(V.S.d_iff.1 hv).1
   obtain ⟨q,q1,q2,q3⟩:=V.S.t_in hv
   obtain ⟨q',q1',q2',q3'⟩:=V.S'.t_in hx
   have e1:=(K.remE (i:=(iA se p).toNat) (by omega) (by rw [K.S.trE,show (((iA se p).toNat:Nat):Int)=iA se p by omega,q1];omega)).2
   rw [K.S.trE,K.S.trN,show (((iA se p).toNat:Nat):Int)=iA se p by omega,hTv] at e1
   have e2:=(hremE (i:=x.toNat) (by omega) (by rw [show ((x.toNat:Nat):Int)=x by omega,q1'];omega)).2
   rw [show ((x.toNat:Nat):Int)=x by omega,hT] at e2
   have e3:=B.I.eg x hxr.1 hxr.2
   rw [e3] at e1
   rw [e2]
   simp only [Edge.mk.injEq] at e1
   obtain ⟨c1,c2,c3⟩:=e1
   have s1:=hsv (k:=iA se p) (by rw [K.S.restE];exact hv)
   have s2:=hsg (k:=x) (by rw [hrs2];exact hx)
   rw [K.S.restN] at s1
   rw [hrs] at s2
   have d1:=at_ (.inl ⟨_,s2.1,rfl,s1.1,c2.symm⟩)
   have d2:=at_ (.inl ⟨_,s2.2,rfl,s1.2,c3.symm⟩)
   simp only
   rw [c1,d1,d2]
  ·have hw:=hnewE (f:=f) (by rw [hfrE];exact hf)
   rw [hrs2,hfrE,hfj,hrg,← hpf,← hag] at hw
   rw [hw,← hv]
   have hme:=A1 hmo (k:=j) hj.1 hj.2
   have hge:=tG K.S.hR.pl.gg (k:=j) hj.1 hj.2
   have e0:eA (nI r.left.graph h.graph m.m) j=eA r.left.graph j:=rfl
   rw [e0] at hme ⊢
   unfold freshE
   simp only
   have d1:=at_ (p:=iA (dO u g m').nodes (eA r.left.graph j).from_) (.inr ⟨_,hge.1,by rw [eC],rfl⟩)
   have d2:=at_ (p:=iA (dO u g m').nodes (eA r.left.graph j).to_) (.inr ⟨_,hge.2.1,by rw [eC],rfl⟩)
   unfold iA at d1 d2 hme ⊢
   rw [d1,d2,hme.2.1,hme.2.2.1,hme.2.2.2]
 ·have hR:=hRn p.toNat (by omega)
  have:=hval hR (by omega)
  rw [show ((p.toNat:Nat):Int)=p by omega] at this
  exact this
end

structure SlotsOk (t:Types) (s:Stp26):Prop where
 n:s.mat.m.nodes.length≤1000
 a:∀ i:Nat,i<s.mat.m.nodes.length→(0≤iA s.mat.m.nodes i∧iA s.mat.m.nodes i<s.before.values.length∧iA s.mat.m.nodes i<s.before.graph.nodes.length)∧(Aq s i).length=(bM t (gN s.before.graph (iA s.mat.m.nodes i))).length∧(Aq s i).length≤8
 b:∀ i:Nat,i<s.mat.m.nodes.length→mem s.rule.keep.nodes i=true→iA s.mat.m.nodes i<s.track.nodes.length∧0≤iA s.track.nodes (iA s.mat.m.nodes i)∧iA s.track.nodes (iA s.mat.m.nodes i)<s.after.values.length∧(Aq s i).length≤(s.after.values[(iA s.track.nodes (iA s.mat.m.nodes i)).toNat]?.getD []).length
structure UndOk (t:Types) (s:Stp26):Prop where
 sl:SlotsOk t s
 c1:s.comatch.nodes.length=s.rule.right.graph.nodes.length
 c2:∀ x∈s.comatch.nodes,0≤x∧x<s.after.graph.nodes.length
 c3:s.comatch.edges.length≤1000
 m1:s.mat.m.nodes.length=s.rule.left.graph.nodes.length
 m2:∀ x∈s.mat.m.nodes,0≤x∧x<s.before.graph.nodes.length
 sz:(s.rule.right.graph.nodes.length≤1000∧s.rule.right.graph.edges.length≤1000)∧s.rule.left.graph.nodes.length≤1000∧s.rule.left.graph.edges.length≤1000
 k:s.rule.into.nodes.length=s.rule.keep.nodes.length∧s.rule.into.edges.length=s.rule.keep.edges.length
 il:s.rule.into.nodes.length≤1000000∧s.rule.into.edges.length≤1000000
 inn:s.rule.into.nodes.Nodup∧s.rule.into.edges.Nodup
 ir:(∀ x∈s.rule.into.nodes,0≤x∧x<s.rule.right.graph.nodes.length)∧∀ x∈s.rule.into.edges,0≤x∧x<s.rule.right.graph.edges.length
section
variable {t:Types} {r:Rule} {h:Host} {m:Mat}
end
structure CmpA (t:Types) (s:Stp26):Prop where
 b:∀ i (h1:i<(pU t s.rule s.before s.mat).before.values.length) (h2:i<s.before.values.length),VF (pU t s.rule s.before s.mat).before.values[i] s.before.values[i]
 a:∀ i (h1:i<(pU t s.rule s.before s.mat).after.values.length) (h2:i<s.after.values.length),VF (pU t s.rule s.before s.mat).after.values[i] s.after.values[i]
def V7 (s u:Stp26):Part:=⟨AZ s.track.nodes u.track.nodes u.comatch.nodes s.mat.m.nodes u.after.graph.nodes.length,AZ s.track.edges u.track.edges u.comatch.edges s.mat.m.edges u.after.graph.edges.length⟩
structure IsoOk (s u:Stp26):Prop where
 fn:u.after.graph.nodes.length≤1000000∧u.after.graph.edges.length≤1000000
 ft:(∀ x∈s.track.nodes,x<u.track.nodes.length)∧∀ x∈s.track.edges,x<u.track.edges.length
 fu:(∀ x∈u.track.nodes,x<u.after.graph.nodes.length)∧∀ x∈u.track.edges,x<u.after.graph.edges.length
 fc:(∀ x∈u.comatch.nodes,0≤x∧x<u.after.graph.nodes.length)∧∀ x∈u.comatch.edges,0≤x∧x<u.after.graph.edges.length
 fm:u.comatch.nodes.length≤s.mat.m.nodes.length∧u.comatch.edges.length≤s.mat.m.edges.length
def stpZ:List D:=[.str ⟨#[]⟩,.nil,.nil,.nil,.int .i64 (0),.nil,.nil,.nil,.nil,.int .i64 (0),.nil,.nil,.nil,.nil,.nil,.bool false,.int .i64 (0),.nil,.nil,.nil,.nil,.nil,.nil,.int .i64 (0),.nil,.nil,.nil,.nil,.nil,.nil,.nil,.nil,.nil,.nil,.nil,.nil,.nil,.nil]
@[go_sem] theorem XR:stpZ.length=38:=rfl
def TH (s u:Stp26)(m0:Part):Part:=⟨KQ u.after.graph.nodes.length m0.nodes u.track.nodes s.track.nodes u.comatch.nodes s.mat.m.nodes s.rule.keep.nodes,KQ u.after.graph.edges.length m0.edges u.track.edges s.track.edges u.comatch.edges s.mat.m.edges s.rule.keep.edges⟩
structure BackOk (s u:Stp26) (m0:Part):Prop where
 fn:u.after.graph.nodes.length≤1000000∧u.after.graph.edges.length≤1000000
 fi:u.track.nodes.length≤m0.nodes.length∧u.track.edges.length≤m0.edges.length
 fu:(∀ x∈u.track.nodes,x<u.after.graph.nodes.length)∧∀ x∈u.track.edges,x<u.after.graph.edges.length
 fc:(∀ x∈u.comatch.nodes,0≤x∧x<u.after.graph.nodes.length)∧∀ x∈u.comatch.edges,0≤x∧x<u.after.graph.edges.length
 fm:u.comatch.nodes.length≤s.mat.m.nodes.length∧u.comatch.edges.length≤s.mat.m.edges.length
def xS (s:Stp26)(b:Part):Stp26:=⟨s.rule,s.mat,s.before,s.after,⟨oP s.track.nodes b.nodes,oP s.track.edges b.edges⟩,s.comatch⟩
def Te (m:Part):Part:=⟨tY m.nodes,tY m.edges⟩
theorem Us {n:Nat}{k:Int}(h0:0≤k)(h:k<n):iA (e9 n) k=k:=by
 unfold iA e9
 rw [aH,dZ (by omega)]
 simp;omega
theorem Uq {n:Nat}:∀ x∈e9 n,0≤x∧x<n:=fun x hx=>by
 unfold e9 at hx
 obtain ⟨k,hk,rfl⟩:=aQ.1 hx
 have:=aR.1 hk
 omega
theorem Ur (n:Nat):(e9 n).Nodup:=by
 unfold e9
 rw [cY,qB]
 exact List.pairwise_lt_range.imp fun h=>by omega
section
variable {t:Types} {r:Rule} {h g:Host} {m m':Mat} {m0:Part}
theorem Im {t:Types}{r:Rule}{h:Host}{m:Mat}(hr:r.ok)(h0:wN t r h m=0):StepOk t r h m:=by
 unfold wN at h0
 split at h0
 ·contradiction
 ·rename_i hg
  obtain ⟨z1,z2⟩:=Dm (by simpa using hg)
  exact JV (LQ hr z1) (hostOk z2) h0
theorem Back.same (B:Back t r h m g m0 m'):TH (b9 t r h m) (b9 t (gB t (b9 t r h m)) g m') m0=V7 (xS (b9 t r h m) (Te m0)) (b9 t (gB t (b9 t r h m)) g m'):=by
 have hn:=B.K'.S.sizeN
 have he:=B.K'.S.sizeE
 rw [B.left_len.2] at hn
 have h1:=B.undN.same hn
 have h2:=B.undE.same he
 have eC:=B.K'.S.coN
 rw [B.left_len.2] at eC
 have e1:(⟨(TH (b9 t r h m) (b9 t (gB t (b9 t r h m)) g m') m0).nodes,(TH (b9 t r h m) (b9 t (gB t (b9 t r h m)) g m') m0).edges⟩:Part)=⟨(V7 (xS (b9 t r h m) (Te m0)) (b9 t (gB t (b9 t r h m)) g m')).nodes,(V7 (xS (b9 t r h m) (Te m0)) (b9 t (gB t (b9 t r h m)) g m')).edges⟩:=by
  congr 1
  ·show KQ _ m0.nodes (dJ _ g m').nodes (dJ r h m).nodes (dO _ g m').nodes m.m.nodes r.keep.nodes=AZ (oP (dJ r h m).nodes (tY m0.nodes)) (dJ _ g m').nodes (dO _ g m').nodes m.m.nodes _
   rw [B.K.S.trN,B.K'.S.trN,eC];exact h1
  ·show KQ _ m0.edges (dJ _ g m').edges (dJ r h m).edges (dO _ g m').edges m.m.edges r.keep.edges=AZ (oP (dJ r h m).edges (tY m0.edges)) (dJ _ g m').edges (dO _ g m').edges m.m.edges _
   rw [B.K.S.trE,B.K'.S.trE,B.K'.S.coE];exact h2
 exact e1
end
theorem LE {xs ys:List Int}(h:xs.Perm ys):lC xs=lC ys:=by
 have h1:(lC xs).Perm (lC ys):=((List.mergeSort_perm xs _).trans h).trans (List.mergeSort_perm ys _).symm
 exact h1.eq_of_pairwise (fun a b _ _ h1 h2=>by omega) (CT xs) (CT ys)
theorem Jp {a b:Host}:∀ {m:Nat} {l r:List Int},oC a b m l=some r→r.length=l.length+m
 | 0,l,r,h=>by simp only [oC,bD] at h;rw [h];rfl
 | m+1,l,r,h=>by
  simp only [oC] at h
  obtain ⟨k,_,hk⟩:=List.exists_of_findSome?_eq_some h
  split at hk
  ·rw [Jp hk];simp;omega
  ·cases hk
def mvE (s:Part)(x:Edge):Edge:=⟨x.type,iA s.nodes x.from_,iA s.nodes x.to_⟩
theorem SQ {l:List Int}{n:Nat}(hl:l.length=n)(hr:∀ x∈l,0≤x∧x<n)(hd:l.Nodup):l.Perm (e9 n):=by
 refine (CK hd (Ur n)).2 fun x=>⟨fun h=>?_,fun h=>o3 hl hr hd (Uq x h)⟩
 obtain ⟨h0,h1⟩:=hr x h
 have:=fG (l:=e9 n) h0 (by simp [e9];omega)
 rwa [Us h0 h1] at this
theorem Rm (g:Graph):(e9 g.edges.length).map (eA g)=g.edges:=by
 refine eW (by simp [e9]) fun i h1 h2=>?_
 rw [jB]
 have:(e9 g.edges.length)[i]'(by simpa using h1)=(i:Int):=by simp [e9]
 rw [this,Js h2]
theorem HIso.edges {a b:Host}{s:Part}(I:HIso a b s):(a.graph.edges.map (mvE s)).Perm b.graph.edges:=by
 have h1:a.graph.edges.map (mvE s)=s.edges.map (eA b.graph):=by
  refine eW (by simp [I.el]) fun i h1 h2=>?_
  rw [jB,jB]
  have hi:i<a.graph.edges.length:=by simpa using h1
  have hs:i<s.edges.length:=by simpa using h2
  have:=I.eg i (by omega) (by omega)
  rw [lH hs,Js hi] at this
  rw [this];rfl
 rw [h1]
 conv=>rhs;rw [← Rm b.graph]
 exact (SQ (by rw [I.el,I.en]) I.ei I.ed).map _
theorem HIso.inj {a b:Host}{s:Part}(I:HIso a b s){x y:Int}(hx:0≤x∧x<a.graph.nodes.length)(hy:0≤y∧y<a.graph.nodes.length)(h:iA s.nodes x=iA s.nodes y):x=y:=by
 have hl:=I.nl
 have:=qG I.nd (i:=x.toNat) (j:=y.toNat) (by omega) (by omega) (by rw [show ((x.toNat:Nat):Int)=x by omega,show ((y.toNat:Nat):Int)=y by omega];exact h)
 omega
theorem HIso.bet {a b:Host}{s:Part}(I:HIso a b s)(hg:graphF a.graph=0){x y:Int}(hx:0≤x∧x<a.graph.nodes.length)(hy:0≤y∧y<a.graph.nodes.length):y9 a.graph x y=y9 b.graph (iA s.nodes x) (iA s.nodes y):=by
 unfold y9
 refine LE ?_
 unfold Bi
 rw [nY,nY]
 have h1:=((I.edges.filter (NI (iA s.nodes x) (iA s.nodes y))).map Edge.type).symm
 refine List.Perm.trans (List.Perm.of_eq ?_) h1.symm
 rw [List.filter_map,List.map_map]
 rw [show Edge.type ∘ mvE s=Edge.type from rfl]
 congr 1
 refine xH fun e he=>?_
 have hin:=((dF hg).2 e he).2
 unfold NI mvE
 simp only [Function.comp]
 congr 1
 ·exact decide_eq_decide.2 ⟨fun h=>by rw [h],fun h=>I.inj hin.1 hx h⟩
 ·exact decide_eq_decide.2 ⟨fun h=>by rw [h],fun h=>I.inj hin.2 hy h⟩
theorem HIso.fit {a b:Host}{s:Part}(I:HIso a b s)(hg:graphF a.graph=0){i:Nat}(hi:i<a.graph.nodes.length):At a b (s.nodes.take i) (iA s.nodes i).toNat=true:=by
 have hl:=I.nl
 have hlen:(s.nodes.take i).length=i:=by simp;omega
 have hs:i<s.nodes.length:=by omega
 have hin:=I.ni _ (fG (l:=s.nodes) (n:=(i:Int)) (by omega) (by omega))
 have hk:(((iA s.nodes i).toNat:Nat):Int)=iA s.nodes i:=by omega
 have hat:∀ j:Nat,j<i+1→iA (s.nodes.take i++[iA s.nodes i]) j=iA s.nodes j:=fun j hj=>by
  rw [lH hs,← List.take_succ_eq_append_getElem hs]
  unfold iA
  rw [Int.toNat_natCast,List.getElem?_take_of_lt hj]
 unfold At
 rw [hlen,hk]
 simp only [aN,cG,decide_eq_true_eq]
 refine ⟨?_,I.ty i (by omega) (by omega),?_,?_⟩
 ·rw [bN];intro hm
  rw [cQ] at hm
  obtain ⟨j,hj,he⟩:=aK hm
  rw [Fe] at he
  rw [hlen] at hj
  have:=qG I.nd (i:=j) (j:=i) (by omega) hs (by rw [lH (by omega:j<s.nodes.length),he])
  omega
 ·have:=I.va i (by omega) (by omega)
  rwa [Int.toNat_natCast] at this
 ·rw [cD]
  intro j hj
  have hj':=aR.1 hj
  unfold KG
  rw [hlen,hk,hat j hj',aN,decide_eq_true_eq,decide_eq_true_eq]
  exact ⟨I.bet hg (by omega) (by omega),I.bet hg (by omega) (by omega)⟩
theorem HIso.finds {a b:Host}{s:Part}(I:HIso a b s)(hg:graphF a.graph=0):∀ (m i:Nat),i+m=a.graph.nodes.length→(oC a b m (s.nodes.take i)).isSome=true
 | 0,i,h=>by simp [oC]
 | m+1,i,h=>by
  simp only [oC,List.findSome?_isSome_iff]
  have hi:i<a.graph.nodes.length:=by omega
  have hl:=I.nl
  have hs:i<s.nodes.length:=by omega
  have hin:=I.ni _ (fG (l:=s.nodes) (n:=(i:Int)) (by omega) (by omega))
  refine ⟨(iA s.nodes i).toNat,aR.2 (by omega),?_⟩
  rw [if_pos (I.fit hg hi),show (((iA s.nodes i).toNat:Nat):Int)=iA s.nodes i by omega,lH hs,← List.take_succ_eq_append_getElem hs]
  exact I.finds hg m (i+1) (by omega)
theorem HIso.found {a b:Host}{s:Part}(I:HIso a b s)(hg:graphF a.graph=0):∃ r,oC a b a.graph.nodes.length []=some r∧r.length=a.graph.nodes.length:=by
 have h:=I.finds hg a.graph.nodes.length 0 (by omega)
 rw [List.take_zero] at h
 obtain ⟨r,hr⟩:=fQ.1 h
 exact ⟨r,hr,by rw [Jp hr];simp⟩
theorem Pe (t:Types)(ht:t.ok)(a b:Host)(ha:fA t a=0)(hb:fA t b=0){s:Part}(I:HIso a b s):∃ (p:Part) (e:Int),(e=0∨e=3)∧Pure Tryz.prog 26 [t.d,a.d,b.d] (.tup [p.d,dI e]):=by
 by_cases hL:a.graph.nodes.length≤8
 ·obtain ⟨r,hr,hl⟩:=I.found (hostOk ha).gg
  have h1:=cJ (hostOk ha).gg
  have h2:=cJ (hostOk hb).gg
  exact ⟨_,0,.inl rfl,Pc t ht a b ha hb hL I.nn.symm I.en.symm ⟨I.av,I.bv,by omega,by omega,by omega,by omega⟩ r hr hl⟩
 ·exact ⟨_,3,.inr rfl,Pd t ht a b ha hb (by omega)⟩
@[go_sem] theorem XD (l:List Int)(f:Int→Int):D.clLL (l.map (cI ∘ f))=true:=by
 rw [← List.map_map];exact qX _
theorem AG (l b:List Int)(hl:l.length≤1000000)(h:∀ x∈l,0≤x∧x<b.length):Pure Tryz.prog 80 [dLI l,dLI b] (dLI (l.map (iA b))):=by
 refine Tz.pK ⟨fun t=>t==5,fun _=>[]⟩ Tryz.func80 rfl (fun Q hQ=>?_)
 have Y:=trivial
 refine wv (h:=bV (fun i e H=>(e 0=dLI l∧e 1=dLI b∧e 5=.own 0 i∧e 6=dI i)∧(H.get 0=some ⟨3,1,((l.take i).map (iA b)).map cI,false⟩)∧(0<H.next)∧(i≤l.length)) (fun i=>l.length - i) 0 ⟨wg,(by (simp [go_sem])),wn,wi⟩ fun I0 hI0 i e H hi0=>?_)
 obtain ⟨E0,g0_0,n0_0,hii⟩:=hi0
 have Y:=wa Y (wa E0 (wa g0_0 (b8 n0_0)))
 refine vJ (fun h3=>?_) fun h3=>?_
 ·have hx:=h _ (aC h3)
  have hk:l[i].toNat<b.length:=by omega
  have hSt:(l.take (i+1)).map (iA b)=(l.take i).map (iA b)++[b[l[i].toNat]]:=by rw [List.take_succ_eq_append_getElem h3,List.map_append];simp [iA,aA hk]
  have hal:((l.take i).map (iA b)).length=i:=by simp;omega
  have Y:=wa Y (wa h3 (wa (aA h3) (wa (aA hk) hal)))
  exact wp (h:=wx hI0 (i+1) ⟨wg,(by (simp [go_sem,Y,hSt,cI])),wn,wj⟩)
 ·rw [aY (by omega)] at g0_0
  have hie:i=l.length:=by omega
  exact wv (h:=hQ _ _ (by simp [go_sem,Y,hie,dLI]))
theorem OM (m n:Part)(h1:m.nodes.length≤1000000)(h2:m.edges.length≤1000000)(h3:∀ x∈m.nodes,0≤x∧x<n.nodes.length)(h4:∀ x∈m.edges,0≤x∧x<n.edges.length) :
  Pure Tryz.prog 25 [m.d,n.d] (Part.mk (m.nodes.map (iA n.nodes)) (m.edges.map (iA n.edges))).d:=by
 refine Tz.pK ⟨fun t=>t==4,fun _=>[]⟩ Tryz.func25 rfl (fun Q hQ=>?_)
 have Y:=trivial
 refine wv (h:=aM (AG m.nodes n.nodes h1 h3) wl ?_)
 refine wv (h:=aM (AG m.edges n.edges h2 h4) wl ?_)
 exact wv (h:=hQ _ _ (by simp [go_sem,Y,Part.d,Part.c,dLI]))
def FT (p:List Int)(vs:List (List Int))(k:Nat):List (List Int):=(List.range k).foldl (fun acc (i:Nat)=>acc.set (iA p (i:Int)).toNat (vs[i]?.getD [])) (List.replicate vs.length [])
def BI (p:List Int)(vs:List (List Int)):List (List Int):=FT p vs vs.length
def OC (h:Host)(p q:List Int):Host:=⟨qD h.graph p q,BI p h.values⟩
theorem FS (p:List Int)(vs:List (List Int))(k:Nat):FT p vs (k+1)=(FT p vs k).set (iA p k).toNat (vs[k]?.getD []):=by simp [FT,bK]
theorem zN (p:List Int)(vs:List (List Int)):∀ k,(FT p vs k).length=vs.length
 | 0=>by simp [FT]
 | k+1=>by rw [FS,c7,zN p vs k]
theorem Ke {n:Nat}{p:List Int}{vs:List (List Int)}(hp:lK n p)(hv:vs.length=n){i:Nat}(hi:i<n):∀ k,k≤n→i<k→(FT p vs k)[(iA p i).toNat]?=vs[i]?
 | 0,_,h=>by omega
 | k+1,hk,h=>by
  rw [FS]
  have h1:=zQ hp (i:=i) (by omega) (by omega)
  have h2:=zQ hp (i:=k) (by omega) (by omega)
  by_cases hik:i=k
  ·subst hik
   rw [fK (by rw [zN];omega),aA (by omega)];rfl
  ·have hne:(iA p k).toNat≠(iA p i).toNat:=fun he=>by
    have:=qG (lW hp) (i:=k) (j:=i) (by rw [hp.1];omega) (by rw [hp.1];omega) (by omega)
    omega
   rw [iZ hne,Ke hp hv hi k (by omega) (by omega)]
theorem Tg {h:Host}{p q:List Int}(hg:graphF h.graph=0)(hl:h.values.length=h.graph.nodes.length)(hp:lK h.graph.nodes.length p)(hq:lK h.graph.edges.length q):HIso h (OC h p q) ⟨p,q⟩ where
 nl:=hp.1
 el:=hq.1
 nn:=(sS hg).1.symm
 en:=(sS hg).2.symm
 av:=hl
 bv:=by show (BI p h.values).length=(qD h.graph p q).nodes.length;unfold BI;rw [zN,(sS hg).1];exact hl
 ni:=fun x hx=>by have:=hp.2.1 x hx;rw [show (OC h p q).graph=qD h.graph p q from rfl,(sS hg).1];exact this
 ei:=fun x hx=>by have:=hq.2.1 x hx;rw [show (OC h p q).graph=qD h.graph p q from rfl,(sS hg).2];exact this
 nd:=lW hp
 ed:=lW hq
 ty:=fun x h0 h1=>(BG hg hp h0 h1).symm
 eg:=fun x h0 h1=>by
  rw [show (OC h p q).graph=qD h.graph p q from rfl]
  rw [show iA (Part.mk p q).edges x=iA q x from rfl,BH hg hq h0 h1]
  have hin:=((dF hg).2 _ (t7 h0 h1)).2
  unfold Kd
  rfl
 va:=fun x h0 h1=>by
  have:=Ke hp hl (i:=x.toNat) (by omega) h.values.length (by omega) (by omega)
  rw [show ((x.toNat:Nat):Int)=x by omega] at this
  show _=(BI p h.values)[(iA p x).toNat]?.getD []
  unfold BI;rw [this]
theorem HIso.onto {a b:Host}{s:Part}(I:HIso a b s){v:Int}(h:0≤v∧v<b.graph.nodes.length):∃ x:Int,(0≤x∧x<a.graph.nodes.length)∧iA s.nodes x=v:=by
 obtain ⟨i,hi,he⟩:=w5 (o3 (by rw [I.nl,I.nn]) I.ni I.nd h)
 have:=I.nl
 exact ⟨i,by omega,he⟩
theorem HIso.ontoE {a b:Host}{s:Part}(I:HIso a b s){v:Int}(h:0≤v∧v<b.graph.edges.length):∃ x:Int,(0≤x∧x<a.graph.edges.length)∧iA s.edges x=v:=by
 obtain ⟨i,hi,he⟩:=w5 (o3 (by rw [I.el,I.en]) I.ei I.ed h)
 have:=I.el
 exact ⟨i,by omega,he⟩
theorem WQ {a b:Host}{s:Part}(I:HIso a b s):∀ v∈b.graph.nodes,v∈a.graph.nodes:=fun v hv=>by
 obtain ⟨i,hi,rfl⟩:=aK hv
 obtain ⟨x,hx,hs⟩:=I.onto (v:=i) ⟨by omega,by omega⟩
 have h1:=I.ty x hx.1 hx.2
 rw [hs,Nb hi] at h1
 rw [← h1];exact yX hx.1 hx.2
theorem HIso.hostOk {t:Types}{a b:Host}{s:Part}(I:HIso a b s)(ho:HostOk t a)(hg:graphF b.graph=0):HostOk t b where
 vf:=ho.vf
 gg:=hg
 vl:=I.bv
 nd:=fun i hi hv=>by
  obtain ⟨x,hx,hs⟩:=I.onto (v:=i) ⟨by omega,by omega⟩
  have hxn:x.toNat<a.graph.nodes.length:=by omega
  have hxv:x.toNat<a.values.length:=by have:=I.av;omega
  have h1:=ho.nd x.toNat hxn hxv
  have h2:=I.ty x hx.1 hx.2
  have h3:=I.va x hx.1 hx.2
  rw [hs,Nb hi] at h2
  rw [hs,Int.toNat_natCast,aA hxv,aA hv,Option.getD_some,Option.getD_some] at h3
  have h4:gN a.graph x=a.graph.nodes[x.toNat]:=by
   have:=Nb hxn;rwa [show ((x.toNat:Nat):Int)=x by omega] at this
  rw [← h2,← h3,h4];exact h1
 ed:=fun y hy=>by
  obtain ⟨k,hk,rfl⟩:=aK hy
  obtain ⟨x,hx,hs⟩:=I.ontoE (v:=k) ⟨by omega,by omega⟩
  have h1:=I.eg x hx.1 hx.2
  rw [hs,Js hk] at h1
  have hin:=((dF ho.gg).2 _ (t7 hx.1 hx.2)).2
  obtain ⟨h2,h3⟩:=ho.ed _ (t7 hx.1 hx.2)
  rw [h1]
  refine ⟨h2,?_⟩
  show kS t (eA a.graph x).type (gN b.graph (iA s.nodes (eA a.graph x).from_)) (gN b.graph (iA s.nodes (eA a.graph x).to_))=true
  rw [← I.ty _ hin.1.1 hin.1.2,← I.ty _ hin.2.1 hin.2.2];exact h3
def TT (H:AHeap)(X:List (List D))(p:List Int)(vs:List (List Int))(k:Nat):Prop:=∃ q:Nat,X[(iA p k).toNat]?=some [.own q (vs[k]?.getD []).length]∧(24<q∧q<H.next)∧H.get q=some ⟨3,1,(vs[k]?.getD []).map cI,false⟩
theorem SI {H:AHeap}{p:List Int}{vs:List (List Int)}{X:List (List D)}{n:Nat}(hp:lK n p)(hv:vs.length=n)(hX:X.length=n)(h:∀ k:Nat,k<n→TT H X p vs k):X.map (·.map (eM H))=(BI p vs).map cL:=by
 have hl:(BI p vs).length=n:=by unfold BI;rw [zN,hv]
 refine eZ fun j=>?_
 rw [aH,aH]
 by_cases hj:j<n
 ·obtain ⟨k,hk,he⟩:=w5 (o3 hp.1 hp.2.1 (lW hp) (v:=(j:Int)) (by omega))
  have hkn:k<n:=by have:=hp.1;omega
  obtain ⟨q,q1,_,q3⟩:=h k hkn
  have e:=Ke hp hv hkn vs.length (by omega) (by omega)
  rw [he,Int.toNat_natCast] at q1 e
  have e2:(BI p vs)[j]?=vs[k]?:=e
  rw [q1,e2,aA (show k<vs.length by omega)]
  rw [aA (show k<vs.length by omega),Option.getD_some] at q3
  simp [eM,q3,cL,dLI,aA (show k<vs.length by omega)]
 ·rw [bE (by omega),bE (by omega)];rfl
theorem HU (h:Host)(hg:graphF h.graph=0)(hv:h.values.length=h.graph.nodes.length)(hr:∀ v∈h.values,v.length≤100000)(o1 o2:List UInt8):Pure Tryz.prog 23 [h.d,.list (o1.map cU),.list (o2.map cU)] (.tup [(OC h (jD h.graph.nodes.length o1) (jD h.graph.edges.length o2)).d,Part.d ⟨jD h.graph.nodes.length o1,jD h.graph.edges.length o2⟩]):=by
 have hl:=cJ hg
 have s1:=pI h.graph.nodes.length (by omega) o1
 have s2:=pI h.graph.edges.length (by omega) o2
 have p1:=lQ h.graph.nodes.length o1
 have p2:=lQ h.graph.edges.length o2
 obtain ⟨p,hp⟩:∃ p,p=jD h.graph.nodes.length o1:=⟨_,rfl⟩
 obtain ⟨q,hq⟩:∃ q,q=jD h.graph.edges.length o2:=⟨_,rfl⟩
 rw [← hp] at s1 p1 ⊢
 rw [← hq] at s2 p2 ⊢
 have cR:=AH h.graph (by omega) (by omega) p q p1 p2
 rw [hg] at cR
 have hE:OC h p q=⟨qD h.graph p q,BI p h.values⟩:=rfl
 obtain ⟨G,hG⟩:∃ G,G=qD h.graph p q:=⟨_,rfl⟩
 rw [← hG] at cR hE
 rw [hE]
 have hpl:=p1.1
 refine Vd (by simp [go_sem,D.cl,D.clL,Host.d,Host.c,Part.d,Part.c]) ?_
 obtain ⟨Q,hQ⟩:∃ Q:D→AHeap→Prop,∀ d H',Q d H'↔iV H' d=.tup [Host.d ⟨G,BI p h.values⟩,Part.d ⟨p,q⟩]:=⟨_,fun _ _=>Iff.rfl⟩
 rw [show (fun d H'=>iV H' d=.tup [Host.d ⟨G,BI p h.values⟩,Part.d ⟨p,q⟩])=Q from funext fun d=>funext fun H'=>propext (hQ d H').symm]
 refine (aG (cfg:=⟨fun t=>t==6||t==7||t==8||t==9||t==11||t==37||t==53,fun r=>match r with|1=>[(0,13),(1,13),(2,13),(3,13),(5,13),(6,13),(7,13),(8,13),(9,13),(11,13)]|3=>[(0,4),(0,6),(1,6),(2,6),(3,6),(4,6)]|7=>[(0,7),(1,7),(2,7),(3,7),(5,7),(6,7),(7,8),(7,9),(7,11),(7,12),(0,13),(1,13),(2,13),(3,13),(5,13),(6,13)]|8=>[(1,2)]|_=>[]⟩) Tz.mixed Tryz.func23 rfl rfl (aE rfl) (by kernel_rfl) ?_)
 have Y:=wa @Host.d.eq_1 (wa @Host.c.eq_1 (wa @Part.d.eq_1 @Part.c.eq_1))
 refine wp (h:=aM (s1) wl ?_)
 refine wp (h:=aM (s2) wl ?_)
 refine wp (h:=aB (cR) wl ?_)
 refine wp (h:=bV (fun i e H=>∃ X:List (List D),(e 1=.list (o1.map cU)∧e 2=.list (o2.map cU)∧e 3=.adr h.c∧e 6=.ptr 0 1 0 0∧e 7=.ptr 1 1 0 0∧e 8=.ptr 15 1 0 0∧e 11=.ptr 24 1 0 0∧e 12=dI i)∧(H.get 0=some ⟨44,3,[[.nil,.nil,.nil]],false⟩)∧(0<H.next)∧(H.get 1=some ⟨36,2,[[.nil,.nil]],false⟩)∧(1<H.next)∧(H.get 15=some ⟨36,2,[[dLI p,dLI q]],false⟩)∧(15<H.next)∧(H.get 22=some ⟨26,1,X,false⟩)∧(22<H.next)∧(H.get 24=some ⟨44,3,[[dLI G.nodes,.list (G.edges.map Edge.c),.own 22 h.values.length]],false⟩)∧(24<H.next)∧(i≤h.values.length)∧(X.length=h.values.length)∧(∀ c∈X,∃ z:D,c=[z])∧(∀ k:Nat,k<i→TT H X p h.values k)) (fun i=>h.values.length - i) 0 ⟨(List.replicate h.values.length [.nil]),wg,wn,wn,wn,wn,wn,wn,wn,wn,wn,wn,wi,(by (simp)),(by (intro c hc;rw [List.mem_replicate] at hc;exact ⟨_,hc.2⟩)),(by (intro k hk;omega))⟩ fun I0 hI0 i e H hi0=>?_)
 obtain ⟨X,E0,g0_0,n0_0,g1_0,n1_0,g15_0,n15_0,g22_0,n22_0,g24_0,n24_0,hi,hXl,hXc,hXo⟩:=hi0
 have Y:=wa Y (wa E0 (wa g0_0 (wa (b8 n0_0) (wa g1_0 (wa (b8 n1_0) (wa g15_0 (wa (b8 n15_0) (wa g22_0 (wa (b8 n22_0) (wa g24_0 (wa (b8 n24_0) hXl)))))))))))
 refine vJ (fun h5=>?_) fun h5=>?_
 ·have hip:i<p.length:=by omega
  have hpi:=p1.2.1 _ (aC hip)
  have hr8:=hr _ (aC h5)
  have hpl2:p[i].toNat<X.length:=by rw [hXl];omega
  obtain ⟨z,hz⟩:=hXc _ (aC hpl2)
  have hz2:X[p[i].toNat]?=some [z]:=by rw [aA hpl2,hz]
  have hpi2:0≤p[i]∧p[i]<h.values.length:=by omega
  have hstep:∀ H2:AHeap,H.next+7<H2.next→H2.get (H.next+7)=some ⟨3,1,h.values[i].map cI,false⟩→(∀ q,24<q→q<H.next→H2.get q=H.get q)→∀ k:Nat,k<i+1→TT H2 (X.set p[i].toNat [.own (H.next+7) h.values[i].length]) p h.values k:=fun H2 g0 g1 g2 k hk=>by
   have ei:iA p (i:Int)=p[i]:=lH hip
   by_cases hki:k<i
   ·obtain ⟨q0,e1,e2,e3⟩:=hXo k hki
    refine ⟨q0,?_,by omega,by rw [g2 q0 e2.1 e2.2];exact e3⟩
    rw [iZ,e1]
    intro he
    have hpk:=p1.2.1 _ (fG (l:=p) (n:=(k:Int)) (by omega) (by omega))
    have:=qG (lW p1) (i:=i) (j:=k) hip (by omega) (by omega)
    omega
   ·have:k=i:=by omega
    subst this
    refine ⟨H.next+7,?_,by omega,?_⟩
    ·rw [ei,fK hpl2,aA h5];rfl
    ·rw [aA h5];exact g1
  have Y:=wa Y (wa h5 (wa (aA h5) (wa (aA hip) (wa hz2 (wa hz (wa hpi2 (wa hip @cL.eq_1)))))))
  exact wp (h:=wx hI0 (i+1) ⟨(X.set p[i].toNat [.own (H.next+7) h.values[i].length]),wg,wn,wn,wn,wn,wn,wn,wn,wn,wn,wn,wj,(by (rw [c7];exact hXl)),(by (intro c hc;rcases gI hc with h|h;exact hXc c h;exact ⟨_,h⟩)),(by (exact hstep _ (by first|(simp [go_sem];done)|(simp [go_sem];omega)) (by simp [go_sem,Y,cL]) (fun q q1 q2=>by simp [go_sem,b8 q2,show q≠22 by omega])))⟩)
 ·have hie:i=h.values.length:=by omega
  refine wv (h:=?_)
  refine (hQ _ _).2 ?_
  have key:∀ E:AHeap,E.get 22=some ⟨26,1,X,false⟩→(∀ j,24<j→E.get j=H.get j)→H.next≤E.next→iV E (.tup [.agg [.list (G.nodes.map cI),.list (G.edges.map Edge.c),.own 22 h.values.length],.agg [.list (p.map cI),.list (q.map cI)]])=.tup [Host.d ⟨G,BI p h.values⟩,Part.d ⟨p,q⟩]:=fun E e1 e2 e3=>by
   have hR:X.map (·.map (eM E))=(BI p h.values).map cL:=SI (H:=E) p1 hv (by omega) (fun k hk=>by
    obtain ⟨q0,q1,q2,q3⟩:=hXo k (by rw [hie,hv];exact hk)
    exact ⟨q0,q1,⟨q2.1,by omega⟩,by rw [e2 q0 q2.1];exact q3⟩)
   simp only [iV,kD,oY,eM,gS,lO,e1,hXl,if_true]
   rw [hR];rfl
  exact key _ (by simp [go_sem,g22_0]) (fun j hj=>by simp [go_sem,show j≠0 by omega,show j≠1 by omega]) (by simp [go_sem])
def Si (l:List Int)(v:Int):Int:=if v<0 then v else iA l v
structure SIso (S S':Srch) (a b:Host) (s:Part):Prop where
 I:HIso a b s
 hg:graphF a.graph=0
 hp:graphF S.p=0
 ga:S.g=a.graph
 gb:S'.g=b.graph
 t:S'.t=S.t
 p:S'.p=S.p
 j:S'.inj=S.inj
 pn:∀ i:Nat,S'.pn[i]?.getD (-1)=Si s.nodes (S.pn[i]?.getD (-1))
 pe:∀ i:Nat,S'.pe[i]?.getD (-1)=Si s.edges (S.pe[i]?.getD (-1))
 rn:∀ i:Nat,S.pn[i]?.getD (-1)<a.graph.nodes.length
 re:∀ i:Nat,S.pe[i]?.getD (-1)<a.graph.edges.length
theorem HIso.injE {a b:Host}{s:Part}(I:HIso a b s){x y:Int}(hx:0≤x∧x<a.graph.edges.length)(hy:0≤y∧y<a.graph.edges.length)(h:iA s.edges x=iA s.edges y):x=y:=by
 have hl:=I.el
 have:=qG I.ed (i:=x.toNat) (j:=y.toNat) (by omega) (by omega) (by rw [show ((x.toNat:Nat):Int)=x by omega,show ((y.toNat:Nat):Int)=y by omega];exact h)
 omega
theorem HIso.inN {a b:Host}{s:Part}(I:HIso a b s){x:Int}(h:0≤x∧x<a.graph.nodes.length):0≤iA s.nodes x∧iA s.nodes x<b.graph.nodes.length:=I.ni _ (fG h.1 (by rw [I.nl];exact h.2))
theorem HIso.inE {a b:Host}{s:Part}(I:HIso a b s){x:Int}(h:0≤x∧x<a.graph.edges.length):0≤iA s.edges x∧iA s.edges x<b.graph.edges.length:=I.ei _ (fG h.1 (by rw [I.el];exact h.2))
theorem Qq {l:List Int}{n m:Nat}{v:Int}{k:Nat}(hv:v<n)(hk:k<n)(hr:∀ x:Int,0≤x∧x<n→0≤iA l x∧iA l x<m)(hi:∀ x y:Int,0≤x∧x<n→0≤y∧y<n→iA l x=iA l y→x=y) :
  (decide (Si l v<0)||decide (Si l v=(((iA l k).toNat:Nat):Int)))=(decide (v<0)||decide (v=(k:Int))):=by
 have hk':=hr k (by omega)
 rw [show (((iA l k).toNat:Nat):Int)=iA l k by omega]
 unfold Si
 by_cases h:v<0
 ·rw [if_pos h];simp [h]
 ·rw [if_neg h]
  have hv':=hr v (by omega)
  have:iA l v=iA l k↔v=k:=⟨fun e=>hi _ _ (by omega) (by omega) e,fun e=>by rw [e]⟩
  rw [show decide (iA l v<0)=false by simp;omega,show decide (v<0)=false by simp;omega,decide_eq_decide.2 this]
theorem Gr {l:List Int}{f:Int→Int}{n:Nat}{k:Int}(hl:∀ x∈l,0≤x∧x<n)(hk:0≤k∧k<n)(hi:∀ x y:Int,0≤x∧x<n→0≤y∧y<n→f x=f y→x=y):mem (l.map f) (f k)=mem l k:=by
 rw [aX,cQ,cQ,aQ]
 exact ⟨fun ⟨x,hx,he⟩=>hi x k (hl x hx) hk he ▸ hx,fun h=>⟨k,h,rfl⟩⟩
theorem SIso.okN {S S':Srch}{a b:Host}{s:Part}(Z:SIso S S' a b s){l:List Int}(hl:∀ x∈l,0≤x∧x<a.graph.nodes.length){k:Nat}(hk:k<a.graph.nodes.length) :
  okN S' (l.map (iA s.nodes)) (iA s.nodes k).toNat=okN S l k:=by
 have hin:=Z.I.inN (x:=k) (by omega)
 unfold Go.Abs.okN yY
 rw [aS,Z.pn,Z.j,Z.t,Z.p]
 rw [Qq (Z.rn _) hk (fun x h=>Z.I.inN h) (fun x y h1 h2 h=>Z.I.inj h1 h2 h)]
 rw [show (((iA s.nodes k).toNat:Nat):Int)=iA s.nodes k by omega,Gr hl (by omega) (fun x y h1 h2 h=>Z.I.inj h1 h2 h)]
 have h1:=Z.I.ty k (by omega) (by omega)
 rw [Z.ga,Z.gb]
 unfold gN at h1
 rw [Int.toNat_natCast] at h1
 rw [← h1]
theorem BY {l:List Int}{f:Int→Int}{i:Int}(h0:0≤i)(h:i<l.length):(l.map f)[i.toNat]?.getD 0=f (l[i.toNat]?.getD 0):=by
 rw [aH,aA (by omega)];rfl
theorem Pi {l:List Int}{n:Nat}(hl:∀ x∈l,0≤x∧x<n){i:Int}(h0:0≤i)(h:i<l.length):0≤l[i.toNat]?.getD 0∧l[i.toNat]?.getD 0<n:=by
 rw [aA (by omega)];exact hl _ (aC _)
theorem SIso.hitE {S S':Srch}{a b:Host}{s:Part}(Z:SIso S S' a b s){ns:List Int}(hn:∀ x∈ns,0≤x∧x<a.graph.nodes.length)(hl:ns.length=S.p.nodes.length){i k:Nat}(hi:i<S.p.edges.length)(hk:k<a.graph.edges.length) :
  hitE S' (ns.map (iA s.nodes)) i (iA s.edges k).toNat=hitE S ns i k:=by
 have hpi:=((dF Z.hp).2 _ (aC hi)).2
 have hin:=((dF Z.hg).2 _ (t7 (g:=a.graph) (n:=(k:Int)) (by omega) (by omega))).2
 have he:=Z.I.eg k (by omega) (by omega)
 unfold Go.Abs.hitE Xz
 rw [Z.p,Z.ga,Z.gb,aA hi,Option.getD_some,BY hpi.1.1 (by omega),BY hpi.2.1 (by omega)]
 have e1:b.graph.edges[(iA s.edges k).toNat]?.getD b4=⟨(eA a.graph k).type,iA s.nodes (eA a.graph k).from_,iA s.nodes (eA a.graph k).to_⟩:=he
 have e2:a.graph.edges[k]?.getD b4=eA a.graph k:=by unfold eA;rw [Int.toNat_natCast]
 rw [e1,e2]
 unfold US
 have q1:=Pi hn hpi.1.1 (by omega)
 have q2:=Pi hn hpi.2.1 (by omega)
 refine decide_eq_decide.2 ?_
 simp only [List.cons.injEq,and_true]
 exact ⟨fun ⟨x,y,z⟩=>⟨x,Z.I.inj hin.1 q1 y,Z.I.inj hin.2 q2 z⟩,fun ⟨x,y,z⟩=>⟨x,by rw [y],by rw [z]⟩⟩
theorem SIso.okE {S S':Srch}{a b:Host}{s:Part}(Z:SIso S S' a b s){ns l:List Int}(hn:∀ x∈ns,0≤x∧x<a.graph.nodes.length)(hnl:ns.length=S.p.nodes.length)(hl:∀ x∈l,0≤x∧x<a.graph.edges.length)(hi:l.length<S.p.edges.length){k:Nat}(hk:k<a.graph.edges.length) :
  okE S' (ns.map (iA s.nodes)) (l.map (iA s.edges)) (iA s.edges k).toNat=okE S ns l k:=by
 have hin:=Z.I.inE (x:=k) (by omega)
 unfold Go.Abs.okE yY
 rw [aS,Z.pe,Z.j,Z.hitE hn hnl hi hk]
 rw [Qq (Z.re _) hk (fun x h=>Z.I.inE h) (fun x y h1 h2 h=>Z.I.injE h1 h2 h)]
 rw [show (((iA s.edges k).toNat:Nat):Int)=iA s.edges k by omega,Gr hl (by omega) (fun x y h1 h2 h=>Z.I.injE h1 h2 h)]
theorem Ei {l:List Int}{n m:Nat}(hnm:n=m)(hl:l.length=n)(hr:∀ x∈l,0≤x∧x<m)(hd:l.Nodup){f g:Nat→Bool}(h:∀ k,k<n→g (iA l k).toNat=f k) :
  (((List.range n).filter f).map fun (k:Nat)=>(iA l k).toNat).Perm ((List.range m).filter g):=by
 have h1:((List.range n).map fun (k:Nat)=>(iA l k).toNat).Perm (List.range m):=by
  refine (CK ?_ List.nodup_range).2 fun x=>?_
  ·rw [cY,qB]
   refine List.Pairwise.imp_of_mem ?_ (cY.1 (List.nodup_range (n:=n)))
   intro x y hx hy hne he
   have hx':=aR.1 hx
   have hy':=aR.1 hy
   have a1:=hr _ (fG (l:=l) (n:=(x:Int)) (by omega) (by omega))
   have a2:=hr _ (fG (l:=l) (n:=(y:Int)) (by omega) (by omega))
   exact hne (qG hd (by omega) (by omega) (by omega))
  ·rw [aQ,aR]
   constructor
   ·rintro ⟨k,hk,rfl⟩
    have hk':=aR.1 hk
    have a1:=hr _ (fG (l:=l) (n:=(k:Int)) (by omega) (by omega))
    omega
   ·intro hx
    obtain ⟨k,hk,he⟩:=w5 (o3 (hl.trans hnm) hr hd (v:=x) (by omega))
    exact ⟨k,aR.2 (by omega),by rw [he];omega⟩
 have h2:=(h1.filter g)
 rw [List.filter_map] at h2
 refine List.Perm.trans (List.Perm.of_eq ?_) h2
 congr 1
 exact xH fun k hk=>by rw [Function.comp,h k (aR.1 hk)]
theorem Do {α β:Type}{f g:α→List β}:∀ (l:List α),(∀ x∈l,(f x).Perm (g x))→(l.flatMap f).Perm (l.flatMap g)
 | [],_=>.refl _
 | a :: l,h=>by rw [iC,iC];exact (h a (by simp)).append (Do l fun x hx=>h x (by simp [hx]))
theorem wF {α β:Type}{f g:α→List β}:∀ (l:List α),(∀ x∈l,f x=g x)→l.flatMap f=l.flatMap g
 | [],_=>rfl
 | a :: l,h=>by rw [iC,iC,h a (by simp),wF l fun x hx=>h x (by simp [hx])]
theorem GV {α β:Type}{f:α→List β}{l l':List α}(h:l.Perm l'):(l.flatMap f).Perm (l'.flatMap f):=by
 induction h with
 | nil=>exact .refl _
 | cons x _ ih=>rw [iC,iC];exact ih.append_left _
 | swap x y l=>simp only [iC,← List.append_assoc];exact (List.perm_append_comm).append_right _
 | trans _ _ h1 h2=>exact h1.trans h2
theorem SIso.extE {S S':Srch}{a b:Host}{s:Part}(Z:SIso S S' a b s){ns:List Int}(hn:∀ x∈ns,0≤x∧x<a.graph.nodes.length)(hnl:ns.length=S.p.nodes.length) :
  ∀ (d:Nat) (l:List Int),l.length+d=S.p.edges.length→(∀ x∈l,0≤x∧x<a.graph.edges.length)→((extE S ns d l).map (List.map (iA s.edges))).Perm (extE S' (ns.map (iA s.nodes)) d (l.map (iA s.edges)))
 | 0,l,_,_=>.refl _
 | d+1,l,hd,hl=>by
  simp only [Go.Abs.extE]
  rw [List.map_flatMap]
  rw [Z.ga,Z.gb]
  have hm:∀ k∈(List.range a.graph.edges.length).filter (Go.Abs.okE S ns l),k<a.graph.edges.length:=fun k hk=>aR.1 (dL.1 hk).1
  refine (Do (g:=fun (k:Nat)=>Go.Abs.extE S' (ns.map (iA s.nodes)) d (l.map (iA s.edges)++[iA s.edges k])) _ fun k hk=>?_).trans ?_
  ·have h1:=Z.extE hn hnl d (l++[(k:Int)]) (by simp;omega) (fun x hx=>by
    rcases aV.1 hx with h|h
    ·exact hl x h
    ·have:=hm k hk;simp at h;omega)
   rw [List.map_append] at h1
   exact h1
  ·have h2:=Ei Z.I.en Z.I.el Z.I.ei Z.I.ed (f:=Go.Abs.okE S ns l) (g:=Go.Abs.okE S' (ns.map (iA s.nodes)) (l.map (iA s.edges))) (fun k hk=>Z.okE hn hnl hl (by omega) hk)
   refine List.Perm.trans (List.Perm.of_eq ?_) (GV h2)
   rw [List.flatMap_map]
   refine wF _ fun k hk=>?_
   have:=Z.I.inE (x:=k) (by have:=hm k hk;omega)
   rw [show (((iA s.edges k).toNat:Nat):Int)=iA s.edges k by omega]
def imP (s m:Part):Part:=⟨m.nodes.map (iA s.nodes),m.edges.map (iA s.edges)⟩
theorem SIso.extN {S S':Srch}{a b:Host}{s:Part}(Z:SIso S S' a b s) :
  ∀ (d:Nat) (l:List Int),l.length+d=S.p.nodes.length→(∀ x∈l,0≤x∧x<a.graph.nodes.length)→((extN S d l).map (imP s)).Perm (extN S' d (l.map (iA s.nodes)))
 | 0,l,hd,hl=>by
  simp only [Go.Abs.extN]
  have h1:=(Z.extE hl (by omega) S.p.edges.length [] (by simp) (by simp)).map fun es=>(⟨l.map (iA s.nodes),es⟩:Part)
  rw [List.map_map] at h1 ⊢
  rw [Z.p]
  exact h1
 | d+1,l,hd,hl=>by
  simp only [Go.Abs.extN]
  rw [List.map_flatMap]
  rw [Z.ga,Z.gb]
  have hm:∀ k∈(List.range a.graph.nodes.length).filter (Go.Abs.okN S l),k<a.graph.nodes.length:=fun k hk=>aR.1 (dL.1 hk).1
  refine (Do (g:=fun (k:Nat)=>Go.Abs.extN S' d (l.map (iA s.nodes)++[iA s.nodes k])) _ fun k hk=>?_).trans ?_
  ·have h1:=Z.extN d (l++[(k:Int)]) (by simp;omega) (fun x hx=>by
    rcases aV.1 hx with h|h
    ·exact hl x h
    ·have:=hm k hk;simp at h;omega)
   rw [List.map_append] at h1
   exact h1
  ·have h2:=Ei Z.I.nn Z.I.nl Z.I.ni Z.I.nd (f:=Go.Abs.okN S l) (g:=Go.Abs.okN S' (l.map (iA s.nodes))) (fun k hk=>Z.okN hl hk)
   refine List.Perm.trans (List.Perm.of_eq ?_) (GV h2)
   rw [List.flatMap_map]
   refine wF _ fun k hk=>?_
   have:=Z.I.inN (x:=k) (by have:=hm k hk;omega)
   rw [show (((iA s.nodes k).toNat:Nat):Int)=iA s.nodes k by omega]
theorem SIso.allM {S S':Srch}{a b:Host}{s:Part}(Z:SIso S S' a b s):((allM S).map (imP s)).Perm (allM S'):=by
 unfold Go.Abs.allM
 rw [Z.p]
 exact Z.extN S.p.nodes.length [] (by simp) (by simp)
theorem RY {f:Part→Part}{l l':List Part}(h:(l.map f).Perm l'):(xM l').2=(xM l).2∧((xM l).1.map f).Perm (xM l').1:=by
 have hl:=h.length_eq
 rw [aS] at hl
 rw [Qw,Qw,← hl]
 split
 ·exact ⟨rfl,.refl _⟩
 ·exact ⟨rfl,h⟩
theorem HIso.haveV {a b:Host}{s:Part}(I:HIso a b s){m:Part}(hm:∀ x∈m.nodes,0≤x∧x<a.graph.nodes.length){c:Slot}(h0:0≤c.node)(h1:c.node<m.nodes.length):haveV b (imP s m) c=haveV a m c:=by
 have hin:=Pi hm h0 h1
 unfold Go.Abs.haveV imP
 simp only
 rw [BY h0 h1,I.va _ hin.1 hin.2]
theorem HIso.slotsV {a b:Host}{s:Part}(I:HIso a b s){m:Part}(hm:∀ x∈m.nodes,0≤x∧x<a.graph.nodes.length):∀ (l:List Slot) (st:List Int × List Bool),(∀ c∈l,0≤c.node∧c.node<m.nodes.length)→slotsV b (imP s m) st l=slotsV a m st l
 | [],st,_=>rfl
 | c :: l,st,h=>by
  have hc:=h c (by simp)
  have e1:=I.haveV hm hc.1 hc.2
  have e2:nE b (imP s m) st c=nE a m st c:=by unfold nE;rw [e1]
  simp only [Go.Abs.slotsV]
  rw [e1,e2,I.slotsV hm l _ fun x hx=>h x (by simp [hx])]
theorem HIso.values {a b:Host}{s:Part}(I:HIso a b s){m:Part}(hm:∀ x∈m.nodes,0≤x∧x<a.graph.nodes.length){p:Pattern}(h:∀ c∈p.slots,0≤c.node∧c.node<m.nodes.length)(vs:List Int):fB p b (imP s m) vs=fB p a m vs:=by
 unfold fB
 rw [I.slotsV hm _ _ h]
theorem Gn {l:List Int}{f:Int→Int}{n:Nat}(hl:∀ x∈l,0≤x∧x<n)(hi:∀ x y:Int,0≤x∧x<n→0≤y∧y<n→f x=f y→x=y):(l.map f).Nodup↔l.Nodup:=by
 rw [cY,cY,qB]
 constructor
 ·exact fun h=>h.imp fun hne he=>hne (by rw [he])
 ·exact fun h=>h.imp_of_mem fun hx hy hne he=>hne (hi _ _ (hl _ hx) (hl _ hy) he)
theorem zR {l:List Int}{f:Int→Int}{i:Nat}(h:i<l.length):(l.map f)[i]?.getD 0=f (l[i]?.getD 0):=by
 rw [aH,aA h];rfl
theorem HIso.mNE {t:Types}{a b:Host}{s:Part}(I:HIso a b s){p:Graph}{m:Part}{i:Nat}(hi:i<m.nodes.length)(h:mNE t p a.graph m i=0):mNE t p b.graph (imP s m) i=0:=by
 unfold Go.Abs.mNE at h ⊢
 split at h
 ·cases h
 ·rename_i h1
  split at h
  ·rename_i h2
   have hr:0≤m.nodes[i]?.getD 0∧m.nodes[i]?.getD 0<a.graph.nodes.length:=by omega
   have hn:(imP s m).nodes[i]?.getD 0=iA s.nodes (m.nodes[i]?.getD 0):=zR hi
   have h3:=I.inN hr
   have h4:=I.ty _ hr.1 hr.2
   unfold gN at h4
   rw [hn,if_neg (by omega),← h4,if_pos h2]
  ·cases h
theorem HIso.mapEE {a b:Host}{s:Part}(I:HIso a b s)(hg:graphF a.graph=0){p:Graph}(hp:graphF p=0){m:Part}(hl:m.nodes.length=p.nodes.length){i:Nat}(hi:i<m.edges.length)(hi2:i<p.edges.length)(h:mapEE p a.graph m i=0):mapEE p b.graph (imP s m) i=0:=by
 unfold Go.Abs.mapEE at h ⊢
 split at h
 ·cases h
 ·rename_i h1
  split at h
  ·cases h
  ·rename_i h2
   split at h
   ·cases h
   ·rename_i h3
    have hr:0≤m.edges[i]?.getD 0∧m.edges[i]?.getD 0<a.graph.edges.length:=by omega
    have hn:(imP s m).edges[i]?.getD 0=iA s.edges (m.edges[i]?.getD 0):=zR hi
    have h4:=I.inE hr
    have h5:=I.eg _ hr.1 hr.2
    have hpi:=((dF hp).2 _ (aC hi2)).2
    rw [hn,if_neg (by omega)]
    unfold eA at h5
    rw [h5]
    rw [aA hi2,Option.getD_some] at h2 h3 ⊢
    have e1:(imP s m).nodes[p.edges[i].from_.toNat]?.getD 0=iA s.nodes (m.nodes[p.edges[i].from_.toNat]?.getD 0):=BY hpi.1.1 (by omega)
    have e2:(imP s m).nodes[p.edges[i].to_.toNat]?.getD 0=iA s.nodes (m.nodes[p.edges[i].to_.toNat]?.getD 0):=BY hpi.2.1 (by omega)
    rw [e1,e2]
    simp only [not_or,ne_eq,iD] at h2 h3
    rw [if_neg (by simpa using h2),if_neg]
    rintro (h6|h6)
    ·exact h6 (by rw [h3.1])
    ·exact h6 (by rw [h3.2])
theorem HIso.matchE {t:Types}{a b:Host}{s:Part}(I:HIso a b s)(hg:graphF a.graph=0){p:Graph}(hp:graphF p=0){m:Part}{inj:Bool}(h:matchE t p a.graph m inj=0):matchE t p b.graph (imP s m) inj=0:=by
 have M:=vY h
 unfold Go.Abs.matchE at h ⊢
 have l1:(imP s m).nodes.length=m.nodes.length:=aS ..
 have l2:(imP s m).edges.length=m.edges.length:=aS ..
 rw [l1,l2]
 have k1:=M.len
 have k2:=M.elen
 rw [if_neg (by omega)] at h ⊢
 split at h
 ·rename_i h1;exact absurd h h1
 ·rename_i h1
  split at h
  ·rename_i h2;exact absurd h h2
  ·rename_i h2
   split at h
   ·cases h
   ·rename_i h3
    rw [iD] at h1 h2
    have e1:bT (Go.Abs.mNE t p b.graph (imP s m)) 0 p.nodes.length=0:=iJ _ _ fun j q1 q2=>I.mNE (by omega) (dV _ _ h1 j q1 q2)
    have e2:bT (Go.Abs.mapEE p b.graph (imP s m)) 0 p.edges.length=0:=iJ _ _ fun j q1 q2=>I.mapEE hg hp k1 (by omega) (by omega) (dV _ _ h2 j q1 q2)
    rw [if_neg (by rw [e1];simp),if_neg (by rw [e2];simp),if_neg]
    rintro ⟨hi,hd⟩
    refine h3 ⟨hi,?_⟩
    have n1:=Gn (l:=m.nodes) (f:=iA s.nodes) (n:=a.graph.nodes.length) (fun x hx=>by
     obtain ⟨i,hi,rfl⟩:=aK hx;exact (M.img i hi (by omega)).1) (fun x y h1 h2 h=>I.inj h1 h2 h)
    have n2:=Gn (l:=m.edges) (f:=iA s.edges) (n:=a.graph.edges.length) (fun x hx=>by
     obtain ⟨i,hi,rfl⟩:=aK hx;exact M.eimg i hi) (fun x y h1 h2 h=>I.injE h1 h2 h)
    rcases hd with hd|hd
    ·exact .inl fun hc=>hd (n1.2 hc)
    ·exact .inr fun hc=>hd (n2.2 hc)
theorem GL {t:Types}{b:Host}(H:HostOk t b):kT t b.graph=true:=by
 rw [oV H.gg]
 exact nD (fun a ha=>(tD H a ha).2) fun x hx=>(H.ed x hx).1
theorem Cc {t:Types}{p g:Graph}{b:Host}(h:dM t p g=0)(H:HostOk t b):dM t p b.graph=0:=by
 have hT:=GL H
 have hG:=H.gg
 unfold dM at h ⊢
 rw [hT,hG]
 split at h
 ·exact absurd h (by assumption)
 ·rename_i h1
  rw [if_neg h1]
  split at h
  ·exact absurd h (by assumption)
  ·rename_i h2
   rw [if_neg h2]
   split at h
   ·exact absurd h (by assumption)
   ·split at h
    ·cases h
    ·rename_i h4
     simp only [cO,cG,not_or,Bool.not_eq_false] at h4
     rw [if_neg (by simp),h4.1];rfl
theorem KN {t:Types}{p g:Graph}{m:Part}{inj:Bool}(h:checkE t p g m inj=0):dM t p g=0:=by
 unfold checkE at h
 split at h
 ·exact absurd h (by assumption)
 ·rename_i h1;simpa using h1
theorem HIso.checkE {t:Types}{a b:Host}{s:Part}(I:HIso a b s)(ha:graphF a.graph=0)(hb:HostOk t b){p:Graph}{m:Part}{inj:Bool}(h:checkE t p a.graph m inj=0):checkE t p b.graph (imP s m) inj=0:=by
 have G:=Ae h
 unfold Go.Abs.checkE
 rw [if_neg (by rw [Cc (KN h) hb];simp)]
 exact I.matchE ha G.1.gp G.2
theorem HIso.solve {t:Types}{a b:Host}{s:Part}(I:HIso a b s)(ha:fA t a=0)(hb:fA t b=0){p:Pattern}{m:Part}{vs:List Int}(hP:PatOk t p)(M:MOk t p.graph a.graph m)(h:eL t p a m=(vs,0)):eL t p b (imP s m)=(vs,0):=by
 have hS:=W4 hP (Go.Abs.hostOk ha) M
 have hv:=(Go.Abs.hostOk ha).vl
 unfold eL at h ⊢
 split at h
 ·rename_i h1;exact absurd (congrArg Prod.snd h) h1
 ·rename_i h1
  rw [if_neg h1,if_neg (by rw [hb];simp)]
  rw [if_neg (by rw [ha];simp)] at h
  split at h
  ·rename_i h2;exact absurd (congrArg Prod.snd h) h2
  ·rename_i h2
   rw [if_neg (by rw [I.checkE (Go.Abs.hostOk ha).gg (Go.Abs.hostOk hb) (by simpa using h2)];simp),I.values (fun x hx=>by have:=hS.img x hx;omega) hS.node]
   exact h
theorem HIso.inst {a b:Host}{s:Part}(I:HIso a b s){p:Graph}{m:Part}(hm:∀ x∈m.nodes,0≤x∧x<a.graph.nodes.length):nI p b.graph (imP s m)=nI p a.graph m:=by
 unfold nI imP
 rw [List.map_map]
 congr 1
 exact bW fun x hx=>(I.ty x (hm x hx).1 (hm x hx).2).symm
theorem Qu {im keep:List Int}{f:Int→Int}{n:Nat}(hl:∀ x∈im,0≤x∧x<n)(hi:∀ x y:Int,0≤x∧x<n→0≤y∧y<n→f x=f y→x=y):qH (im.map f) keep=qH im keep:=by
 have hB:∀ i k:Nat,i<im.length→k<im.length→xL (im.map f) keep i k=xL im keep i k:=fun i k h1 h2=>by
  unfold xL
  rw [zR h1,zR h2,aA h1,aA h2,Option.getD_some,Option.getD_some]
  congr 1
  exact decide_eq_decide.2 ⟨fun h=>hi _ _ (hl _ (aC h1)) (hl _ (aC h2)) h,fun h=>by rw [h]⟩
 unfold qH Ib
 rw [aS]
 refine wF _ fun i hi=>?_
 have hi':=aR.1 hi
 unfold nA
 congr 1
 exact xH fun k hk=>hB _ _ hi' (by have:=aR.1 hk;omega)
theorem Tl {im keep:List Int}{f:Int→Int}:j5 (im.map f) keep=(j5 im keep).map f:=by
 unfold j5
 rw [aS,List.map_map]
 refine bW fun i hi=>?_
 exact zR (aR.1 (dL.1 hi).1)
theorem Tk {im keep:List Int}{x:Int}(h:x∈j5 im keep):x∈im:=by
 obtain ⟨i,_,_,hx⟩:=rE.1 h
 exact aI hx
theorem HIso.comp {a b:Host}{s:Part}(I:HIso a b s)(hb:graphF b.graph=0){l:Graph}{keep m:Part}(h:tJ l a.graph keep m=0):tJ l b.graph keep (imP s m)=0:=by
 obtain ⟨c1,c2,c3,c4,c5⟩:=Cu h
 obtain ⟨g1,g2,l1,l2⟩:=lZ c1
 obtain ⟨i1,i2⟩:=uV c1
 have iN:=fun (x y:Int) (h1:0≤x∧x<a.graph.nodes.length) (h2:0≤y∧y<a.graph.nodes.length) (h:iA s.nodes x=iA s.nodes y)=>I.inj h1 h2 h
 have iE:=fun (x y:Int) (h1:0≤x∧x<a.graph.edges.length) (h2:0≤y∧y<a.graph.edges.length) (h:iA s.edges x=iA s.edges y)=>I.injE h1 h2 h
 have gN_:∀ {k:Int},0≤k→k<l.nodes.length→iA (imP s m).nodes k=iA s.nodes (iA m.nodes k):=fun h0 h1=>yN _ h0 (by omega)
 have gE_:∀ {k:Int},0≤k→k<l.edges.length→iA (imP s m).edges k=iA s.edges (iA m.edges k):=fun h0 h1=>yN _ h0 (by omega)
 have hM:dS l b.graph (imP s m)=0:=by
  refine Dc g1 hb (by rw [← l1];exact aS ..) (by rw [← l2];exact aS ..) (fun i h0 h1=>?_) (fun k h0 h1=>?_)
  ·obtain ⟨m1,m2⟩:=Gq c1 h0 h1
   rw [gN_ h0 h1]
   exact ⟨I.inN m1,by rw [← I.ty _ m1.1 m1.2,m2]⟩
  ·obtain ⟨m1,m2,m3,m4⟩:=A1 c1 h0 h1
   have he:=tG g1 h0 h1
   rw [gE_ h0 h1,gN_ he.1.1 he.1.2,gN_ he.2.1.1 he.2.1.2,I.eg _ m1.1 m1.2,m3,m4]
   exact ⟨I.inE m1,m2,rfl,rfl⟩
 have hD:Ck b.graph (imP s m).edges (j5 (imP s m).nodes keep.nodes)=[]:=by
  unfold Ck at c5 ⊢
  rw [List.map_eq_nil_iff,JL] at c5 ⊢
  intro k hk
  obtain ⟨x,hx,he⟩:=I.ontoE (v:=k) (by have:=aR.1 hk;omega)
  have hc:=c5 x.toNat (aR.2 (by omega))
  have hin:=((dF g2).2 _ (t7 hx.1 hx.2)).2
  have h1:=I.eg x hx.1 hx.2
  rw [he] at h1
  have e1:b.graph.edges[k]?.getD b4=⟨(eA a.graph x).type,iA s.nodes (eA a.graph x).from_,iA s.nodes (eA a.graph x).to_⟩:=by
   unfold eA at h1;rw [Int.toNat_natCast] at h1;exact h1
  have e2:a.graph.edges[x.toNat]?.getD b4=eA a.graph x:=rfl
  have hgn:∀ v∈j5 m.nodes keep.nodes,0≤v∧v<a.graph.nodes.length:=fun v hv=>i1 v (Tk hv)
  unfold Cl at hc ⊢
  rw [e1]
  rw [e2] at hc
  show ¬ (!mem (m.edges.map (iA s.edges)) (k:Int)&&(mem (j5 (m.nodes.map (iA s.nodes)) keep.nodes) (iA s.nodes (eA a.graph x).from_)||mem (j5 (m.nodes.map (iA s.nodes)) keep.nodes) (iA s.nodes (eA a.graph x).to_)))=true
  rw [Tl,Gr hgn hin.1 iN,Gr hgn hin.2 iN,← he,Gr i2 hx iE]
  rw [show ((x.toNat:Nat):Int)=x by omega] at hc
  exact hc
 unfold tJ compG
 rw [if_neg (by rw [if_neg (by rw [hM];simp)];have hs:subF l keep=0:=c2;rw [hs];simp),if_neg,if_neg (by rw [hD];simp)]
 have d1:qH (imP s m).nodes keep.nodes=[]:=by rw [← c3];exact Qu i1 iN
 have d2:qH (imP s m).edges keep.edges=[]:=by rw [← c4];exact Qu i2 iE
 rw [d1,d2];simp
end Go.Abs
end
