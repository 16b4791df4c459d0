/- Plain law: the undoing step leads to a host that is isomorph -/
import Derived.Test.YthalajhajpjjeaaGreatZfAW
import Derived.Test.YthalajhajpjjeaaGreatZfAF
import Derived.Test.YthalajhajpjjeaaGreatZfAA
set_option linter.unusedVariables false
set_option linter.unusedSimpArgs false
section
set_option maxRecDepth 100000
set_option maxHeartbeats 4000000
open Go Go.Proofs
namespace Go.Abs
section
variable {t:Types} {r:Rule} {h:Host} {m:Mat}
theorem StepIn.newN (S:StepIn t r h m){f:Nat}(hf:f<r.freshN.length):gN (b7 t r h m).graph ((bU r h m).nodes.length+f:Nat)=gN r.right.graph (iA r.freshN f) /\
  (b7 t r h m).values[(bU r h m).nodes.length+f]?.getD []=lV t (gN r.right.graph (iA r.freshN f)):=by
 rw [kS hf]
 constructor
 .unfold gN
  rw [Int.toNat_natCast,S.bareN,aZ bV,aW,tX,aN,aA hf];rfl
 .rw [M7,aZ bV,aW,tX,aN,aA hf];rfl
theorem StepIn.newE (S:StepIn t r h m){f:Nat}(hf:f<r.freshE.length):eA (b7 t r h m).graph ((bU r h m).edges.length+f:Nat)=freshE (fB r h m) (eA r.right.graph (iA r.freshE f)):=by
 rw [kS hf]
 unfold eA
 rw [Int.toNat_natCast,S.bareE,aZ bV,aW,tX,aN,aA hf];rfl
theorem HostOk.rowlen (ho:HostOk t h){v:Int}(h0:0<=v)(h1:v<h.graph.nodes.length):(h.values[v.toNat]?.getD []).length=(bL t (gN h.graph v)).length:=by
 have hv:=ho.vl
 have a:v.toNat<h.graph.nodes.length:=aD
 have b:v.toNat<h.values.length:=aD
 have:=(r5 (ho.nd v.toNat a b)).2.2.1
 rw [aA b,Option.getD_some,this]
 unfold gN;rw [aA a];rfl
end
section
variable {t:Types} {r:Rule} {h g:Host} {m m':Mat} {m0:Part}
theorem Back.val (B:Back t r h m g m0 m'){p:Nat}{v:Int}(hR:Cj r.keep.nodes r.into.nodes m.m.nodes m0.nodes m'.m.nodes r.left.graph.nodes.length r.right.graph.nodes.length h.graph.nodes.length g.graph.nodes.length p v)
  (hp:p<(cX t (eM t (bG t r h m)) g m').graph.nodes.length):(cX t (eM t (bG t r h m)) g m').values[p]?.getD []=h.values[v.toNat]?.getD []:=by
 have U:=B.undN
 have K:=B.K
 have K':=B.K'
 obtain ⟨u,hu⟩:=cF (eM t (bG t r h m))
 have hvr:=(U.range hR).2
 have hh:=K.S.ho
 have ex:u.right.slots=kF t (bG t r h m) m.m.nodes.length:=by rw [hu];rfl
 have eN:(cW r h m).nodes=_:=K.S.trN
 have eT:(cW u g m').nodes=mW (fX r.into.nodes r.right.graph.nodes.length) m'.m.nodes g.graph.nodes.length:=by rw [hu];exact K'.S.trN
 have eC:(fB u g m').nodes=wZ (fX r.into.nodes r.right.graph.nodes.length) (dV (fX r.into.nodes r.right.graph.nodes.length) r.into.nodes r.keep.nodes) m'.m.nodes r.left.graph.nodes.length g.graph.nodes.length:=by
  have:=K'.S.coN
  rw [B.left_len.2] at this
  rw [hu];exact this
 have hml:m.m.nodes.length=r.left.graph.nodes.length:=K.S.hm.len
 rw [<- hu] at K' hp ⊢
 obtain ⟨r1,r2⟩:=K'.rows
 have hbl:=K'.S.vlen
 have hpb:p<(b7 t u g m').values.length:=by rw [hbl];exact hp
 have slot:∀ {s:Slot} {i k:Nat},i<m.m.nodes.length->k<(rT (bG t r h m) i).length->s=⟨i,k,⟨-1,(rT (bG t r h m) i)[k]?.getD 0⟩⟩->kU (fB u g m') s=p->iA m.m.nodes i=v:=by
  intro s i k hi hk hs he
  have h2:Cj r.keep.nodes r.into.nodes m.m.nodes m0.nodes m'.m.nodes r.left.graph.nodes.length r.right.graph.nodes.length h.graph.nodes.length g.graph.nodes.length p (iA m.m.nodes i):=by
   refine .inr ⟨i,aD,?_,rfl⟩
   rw [<- he,hs,<- eC];rfl
  exact U.uni h2 hR
 have some_:∀ {a x:Int},FA (fB u g m') m'.vars u.right.slots p a=some x->x=(h.values[v.toNat]?.getD [])[a.toNat]?.getD 0:=by
  intro a x hx
  obtain ⟨s,hs,e1,e2,e3⟩:=zJ hx
  rw [ex] at hs
  obtain ⟨i,hi,k,hk,hne,rfl⟩:=Fb.1 hs
  have hv:=slot hi hk rfl e1
  rw [<- e3,<- e2]
  unfold c8
  simp only
  rw [if_pos aD]
  unfold rT
  simp only [bG]
  rw [hv];simp
 have none_:∀ {a:Nat} {j:Int},(0<=j/\j<r.left.graph.nodes.length)->iA m.m.nodes j=v->a<(h.values[v.toNat]?.getD []).length->FA (fB u g m') m'.vars u.right.slots p a=none->CM t (bG t r h m) j.toNat a=(h.values[v.toNat]?.getD [])[a]?.getD 0:=by
  intro a j hj hv ha hn
  refine bB λhne=>?_
  have e0:rT (bG t r h m) j.toNat=h.values[v.toNat]?.getD []:=by
   unfold rT;simp only [bG];rw [show ((j.toNat:Nat):Int)=j by omega,hv]
  have hs:(⟨(j.toNat:Nat),a,⟨-1,(rT (bG t r h m) j.toNat)[a]?.getD 0⟩⟩:Slot)∈u.right.slots:=by
   rw [ex]
   exact Fb.2 ⟨j.toNat,aD,a,by rw [e0];exact ha,by rw [e0];exact λe=>hne e.symm,rfl⟩
  have hk:kU (fB u g m') ⟨(j.toNat:Nat),a,⟨-1,(rT (bG t r h m) j.toNat)[a]?.getD 0⟩⟩=p:=by
   have h2:Cj r.keep.nodes r.into.nodes m.m.nodes m0.nodes m'.m.nodes r.left.graph.nodes.length r.right.graph.nodes.length h.graph.nodes.length g.graph.nodes.length (iA (fB u g m').nodes j) v:=.inr ⟨j,hj,by rw [eC],hv⟩
   have:=U.inj h2 hR
   rw [<- this];unfold kU iA;rw [Int.toNat_natCast]
  have:=OT K'.eqK hs
  rw [hk] at this
  simp only at this
  rw [hn] at this;cases this
 have row:∀ {w:List Int},(b7 t u g m').values[p]?.getD []=w->w.length=(h.values[v.toNat]?.getD []).length->(∀ a:Nat,a<(h.values[v.toNat]?.getD []).length->FA (fB u g m') m'.vars u.right.slots p a=none->w[a]?.getD 0=(h.values[v.toNat]?.getD [])[a]?.getD 0) ->
   (cX t u g m').values[p]?.getD []=h.values[v.toNat]?.getD []:=by
  intro w hw hl hN
  have hrl:=r2 p
  rw [hw] at hrl
  refine fV aD λa h1 h2=>?_
  have hv:=K'.value hpb (a:=a) (by rw [hw];omega)
  rw [hw] at hv
  have e1:((cX t u g m').values[p]?.getD [])[a]=(FA (fB u g m') m'.vars u.right.slots p a).getD (w[a]?.getD 0):=by
   rw [aA h1] at hv;exact Option.some.inj hv
  have e2:(h.values[v.toNat]?.getD [])[a]=(h.values[v.toNat]?.getD [])[a]?.getD 0:=by rw [aA h2];rfl
  rw [e1,e2]
  cases hq:FA (fB u g m') m'.vars u.right.slots p a with
  | none=>exact hN a h2 hq
  | some x=>exact some_ hq
 rcases U.cases hR with ⟨x,hx,hT,hv,hTv⟩|⟨j,f,hj,hjk,hf,hfj,hpf,hv⟩
 .have hxr:=(U.S'.d_iff.1 hx).1
  have hgx:g.values[x.toNat]?.getD []=(cX t r h m).values[(iA m0.nodes x).toNat]?.getD []:=B.I.va x hxr.1 hxr.2
  rw [<- hTv] at hgx
  obtain ⟨q,q1,q2,q3⟩:=U.S.t_in hv
  have hrem:=K.remN (i:=v.toNat) aD (by rw [eN,show ((v.toNat:Nat):Int)=v by omega,q1];omega)
  rw [eN,show ((v.toNat:Nat):Int)=v by omega] at hrem
  have hbx:(b7 t u g m').values[p]?.getD []=g.values[x.toNat]?.getD []:=by
   obtain ⟨q',q1',q2',q3'⟩:=U.S'.t_in hx
   have hpq:p=q':=aD
   have hrs:(bU u g m').nodes=lT (fX r.into.nodes r.right.graph.nodes.length) m'.m.nodes g.graph.nodes.length:=by rw [hu];exact B.K'.S.restN
   rw [M7,aQ (by rw [aW,hrs];omega),aN,hrs,hpq,aA q2',dQ,Option.getD_some,<- kS q2',q3']
  refine row hbx ?_ λa ha hn=>?_
  .rw [hgx,hrem.v2]
  .rw [hgx]
   by_cases hex:∃ j:Int,(0<=j/\j<r.left.graph.nodes.length)/\iA m.m.nodes j=v
   .obtain ⟨j,hj,hjv⟩:=hex
    have hk:j∈r.keep.nodes:=bB λhk=>(U.S.d_iff.1 hv).2 j hj.1 hj.2 hk hjv
    have:=none_ hj hjv ha hn
    unfold CM at this
    rw [if_pos (by simp only [bG];rw [show ((j.toNat:Nat):Int)=j by omega];exact (mem_iff _ _).2 hk)] at this
    simp only [bG] at this
    rw [show ((j.toNat:Nat):Int)=j by omega,hjv,eN] at this
    exact this
   .refine hrem.v3 a (by rw [<- Option.getD_some (a:=h.values[v.toNat]?.getD []) (b:=[])];exact ha) λs hs ⟨hks,_⟩=>hex ?_
    have hsr:=K.S.hR.slots s hs
    have hky:kU (fB r h m) s=iA (wZ r.keep.nodes r.into.nodes m.m.nodes r.right.graph.nodes.length h.graph.nodes.length) s.node:=by rw [<- K.S.coN];rfl
    rw [hky] at hks
    have hin:s.node∈r.into.nodes:=by
     refine bB λhni=>?_
     obtain ⟨f,_,_,hf⟩:=U.S.c_fresh hsr.1 hni
     omega
    obtain ⟨q,hq,hqe⟩:=Ai hin
    have hkl:=U.S.kl
    rw [<- hqe,U.S.c_kept aD] at hks
    have hkm:iA r.keep.nodes q∈r.keep.nodes:=lL aD aD
    exact ⟨_,U.S.kr _ hkm,U.S.t_inj (U.S.kept_in hkm) hv hks⟩
 .have hfr:u.freshN=bJ (dV (fX r.into.nodes r.right.graph.nodes.length) r.into.nodes r.keep.nodes) r.left.graph.nodes.length:=by
   unfold Rule.freshN;rw [hu,B.left_len.2];rfl
  have hrs:(bU u g m').nodes=lT (fX r.into.nodes r.right.graph.nodes.length) m'.m.nodes g.graph.nodes.length:=by rw [hu];exact B.K'.S.restN
  have hnew:=(K'.S.newN (f:=f) (by rw [hfr];exact hf)).2
  have hgn:gN u.right.graph j=gN h.graph v:=by
   have e:u.right.graph=lQ r.left.graph h.graph m.m:=by rw [hu];rfl
   rw [e]
   have:gN (lQ r.left.graph h.graph m.m) j=iA (m.m.nodes.map (gN h.graph)) j:=rfl
   rw [this,J6 _ hj.1 aD,hv]
  rw [hfr,hfj,hgn,hrs,show (lT (fX r.into.nodes r.right.graph.nodes.length) m'.m.nodes g.graph.nodes.length).length+f=p by omega] at hnew
  have hrl:=hh.rowlen hvr.1 hvr.2
  refine row hnew (by unfold lV;rw [aW,hrl]) λa ha hn=>?_
  have:=none_ hj hv ha hn
  rw [<- this]
  unfold CM
  rw [if_neg (by simp only [bG];rw [show ((j.toNat:Nat):Int)=j by omega];exact λhm=>hjk ((mem_iff _ _).1 hm))]
  simp only [bG]
  rw [show ((j.toNat:Nat):Int)=j by omega,hv]
  have ha':a<(bL t (gN h.graph v)).length:=aD
  unfold lV
  rw [aN,aA ha'];rfl
theorem Back.iso (B:Back t r h m g m0 m'):HIso (cX t (eM t (bG t r h m)) g m') h
  (Xk (cW r h m) (cW (eM t (bG t r h m)) g m') (fB (eM t (bG t r h m)) g m') m.m ⟨oC m0.nodes,oC m0.edges⟩ (cX t (eM t (bG t r h m)) g m').graph.nodes.length (cX t (eM t (bG t r h m)) g m').graph.edges.length):=by
 have U:=B.undN
 have V:=B.undE
 have K:=B.K
 have K':=B.K'
 have hll:=B.left_len
 have hn:(cX t (eM t (bG t r h m)) g m').graph.nodes.length=(lT (fX r.into.nodes r.right.graph.nodes.length) m'.m.nodes g.graph.nodes.length).length+(bJ (dV (fX r.into.nodes r.right.graph.nodes.length) r.into.nodes r.keep.nodes) r.left.graph.nodes.length).length:=by
  have:=K'.S.sizeN
  rw [hll.2] at this;exact this
 have he:(cX t (eM t (bG t r h m)) g m').graph.edges.length=(lT (fX r.into.edges r.right.graph.edges.length) m'.m.edges g.graph.edges.length).length+(bJ (dV (fX r.into.edges r.right.graph.edges.length) r.into.edges r.keep.edges) r.left.graph.edges.length).length:=K'.S.sizeE
 have eT:(cW (eM t (bG t r h m)) g m').nodes=mW (fX r.into.nodes r.right.graph.nodes.length) m'.m.nodes g.graph.nodes.length:=K'.S.trN
 have eT2:(cW (eM t (bG t r h m)) g m').edges=mW (fX r.into.edges r.right.graph.edges.length) m'.m.edges g.graph.edges.length:=K'.S.trE
 have eC:(fB (eM t (bG t r h m)) g m').nodes=wZ (fX r.into.nodes r.right.graph.nodes.length) (dV (fX r.into.nodes r.right.graph.nodes.length) r.into.nodes r.keep.nodes) m'.m.nodes r.left.graph.nodes.length g.graph.nodes.length:=by
  have:=K'.S.coN
  rw [hll.2] at this;exact this
 have eC2:(fB (eM t (bG t r h m)) g m').edges=wZ (fX r.into.edges r.right.graph.edges.length) (dV (fX r.into.edges r.right.graph.edges.length) r.into.edges r.keep.edges) m'.m.edges r.left.graph.edges.length g.graph.edges.length:=K'.S.coE
 have hRn:=U.org hn
 have hRe:=V.org he
 have hval:=λ {p:Nat} {v:Int} hR hp=>B.val (p:=p) (v:=v) hR hp
 have hml:m.m.nodes.length=r.left.graph.nodes.length:=K.S.hm.len
 have hmo:=(EK K.S.hc).1
 have hsv:∀ {k:Int},k∈(bU r h m).edges->(eA h.graph k).from_∈(bU r h m).nodes/\(eA h.graph k).to_∈(bU r h m).nodes:=λhk=>xC K.S.sub hk
 have hsg:∀ {k:Int},k∈(bU (eM t (bG t r h m)) g m').edges->(eA g.graph k).from_∈(bU (eM t (bG t r h m)) g m').nodes/\(eA g.graph k).to_∈(bU (eM t (bG t r h m)) g m').nodes:=λhk=>xC K'.S.sub hk
 have hrs:(bU (eM t (bG t r h m)) g m').nodes=lT (fX r.into.nodes r.right.graph.nodes.length) m'.m.nodes g.graph.nodes.length:=K'.S.restN
 have hrs2:(bU (eM t (bG t r h m)) g m').edges=lT (fX r.into.edges r.right.graph.edges.length) m'.m.edges g.graph.edges.length:=K'.S.restE
 have hrem:=λ {i:Nat} a b=>K'.remN (i:=i) a b
 have hremE:=λ {i:Nat} a b=>K'.remE (i:=i) a b
 have hnewN:=λ {f:Nat} a=>(K'.S.newN (f:=f) a).1
 have hnewE:=λ {f:Nat} a=>K'.S.newE (f:=f) a
 have hfrN:(eM t (bG t r h m)).freshN=bJ (dV (fX r.into.nodes r.right.graph.nodes.length) r.into.nodes r.keep.nodes) r.left.graph.nodes.length:=by unfold Rule.freshN;rw [hll.2];rfl
 have hfrE:(eM t (bG t r h m)).freshE=bJ (dV (fX r.into.edges r.right.graph.edges.length) r.into.edges r.keep.edges) r.left.graph.edges.length:=rfl
 have hrg:(eM t (bG t r h m)).right.graph=lQ r.left.graph h.graph m.m:=rfl
 have hag:(cX t (eM t (bG t r h m)) g m').graph=(b7 t (eM t (bG t r h m)) g m').graph:=rfl
 have hvl:(cX t (eM t (bG t r h m)) g m').values.length=(cX t (eM t (bG t r h m)) g m').graph.nodes.length:=by rw [K'.rows.1,K'.S.vlen,hag]
 unfold Xk
 rw [K.S.trN,K.S.trE,eT,eT2,eC,eC2]
 simp only
 rw [eT] at hrem
 rw [eT,eT2] at hremE
 generalize eM t (bG t r h m)=u at *
 obtain ⟨nn,hnn⟩:=cF ((cX t u g m').graph.nodes.length)
 obtain ⟨ne,hne⟩:=cF ((cX t u g m').graph.edges.length)
 rw [<- hnn] at hRn hn ⊢
 rw [<- hne] at hRe he ⊢
 have hlN:=FR (kO (mW r.keep.nodes m.m.nodes h.graph.nodes.length) (oC m0.nodes)) (mW (fX r.into.nodes r.right.graph.nodes.length) m'.m.nodes g.graph.nodes.length) (wZ (fX r.into.nodes r.right.graph.nodes.length) (dV (fX r.into.nodes r.right.graph.nodes.length) r.into.nodes r.keep.nodes) m'.m.nodes r.left.graph.nodes.length g.graph.nodes.length) m.m.nodes nn
 have hlE:=FR (kO (mW r.keep.edges m.m.edges h.graph.edges.length) (oC m0.edges)) (mW (fX r.into.edges r.right.graph.edges.length) m'.m.edges g.graph.edges.length) (wZ (fX r.into.edges r.right.graph.edges.length) (dV (fX r.into.edges r.right.graph.edges.length) r.into.edges r.keep.edges) m'.m.edges r.left.graph.edges.length g.graph.edges.length) m.m.edges ne
 generalize vQ (kO (mW r.keep.nodes m.m.nodes h.graph.nodes.length) (oC m0.nodes)) (mW (fX r.into.nodes r.right.graph.nodes.length) m'.m.nodes g.graph.nodes.length) (wZ (fX r.into.nodes r.right.graph.nodes.length) (dV (fX r.into.nodes r.right.graph.nodes.length) r.into.nodes r.keep.nodes) m'.m.nodes r.left.graph.nodes.length g.graph.nodes.length) m.m.nodes nn=sn at *
 generalize vQ (kO (mW r.keep.edges m.m.edges h.graph.edges.length) (oC m0.edges)) (mW (fX r.into.edges r.right.graph.edges.length) m'.m.edges g.graph.edges.length) (wZ (fX r.into.edges r.right.graph.edges.length) (dV (fX r.into.edges r.right.graph.edges.length) r.into.edges r.keep.edges) m'.m.edges r.left.graph.edges.length g.graph.edges.length) m.m.edges ne=se at *
 obtain ⟨a1,a2,a3⟩:=U.perm hn hlN hRn
 obtain ⟨b1,b2,b3⟩:=V.perm he hlE hRe
 have at_:∀ {p v:Int},Cj r.keep.nodes r.into.nodes m.m.nodes m0.nodes m'.m.nodes r.left.graph.nodes.length r.right.graph.nodes.length h.graph.nodes.length g.graph.nodes.length p v->iA sn p=v:=λ {p v} hR=>by
  have hr:=(U.range hR).1
  have:=hRn p.toNat aD
  rw [show ((p.toNat:Nat):Int)=p by omega] at this
  exact U.uni this hR
 refine ⟨by rw [hlN,hnn],by rw [hlE,hne],by rw [<- hnn];exact a3,by rw [<- hne];exact b3,hvl,K.S.ho.vl,a1,b1,a2,b2,λp h0 hp=>?_,λp h0 hp=>?_,λp h0 hp=>?_⟩
 .have hR:=hRn p.toNat aD
  rw [show ((p.toNat:Nat):Int)=p by omega] at hR
  rcases U.cases hR with ⟨x,hx,hT,hv,hTv⟩|⟨j,f,hj,hjk,hf,hfj,hpf,hv⟩
  .have hxr:=(U.S'.d_iff.1 hx).1
   have hvr:=(U.S.d_iff.1 hv).1
   obtain ⟨q,q1,q2,q3⟩:=U.S.t_in hv
   obtain ⟨q',q1',q2',q3'⟩:=U.S'.t_in hx
   have e1:=(K.remN (i:=(iA sn p).toNat) aD (by rw [K.S.trN,show (((iA sn p).toNat:Nat):Int)=iA sn p by omega,q1];omega)).n2
   rw [K.S.trN,show (((iA sn p).toNat:Nat):Int)=iA sn p by omega,hTv] at e1
   have e2:=(hrem (i:=x.toNat) aD (by rw [show ((x.toNat:Nat):Int)=x by omega,q1'];omega)).n2
   rw [show ((x.toNat:Nat):Int)=x by omega,hT] at e2
   have e3:=B.I.ty x hxr.1 hxr.2
   unfold gN at e3 ⊢
   rw [e2,e3,e1]
  .have:=hnewN (f:=f) (by rw [hfrN];exact hf)
   rw [hrs,hfrN,hfj,hrg,<- hpf,<- hag] at this
   rw [this,<- hv]
   exact J6 _ hj.1 aD
 .have hR:=hRe p.toNat aD
  rw [show ((p.toNat:Nat):Int)=p by omega] at hR
  rcases V.cases hR with ⟨x,hx,hT,hv,hTv⟩|⟨j,f,hj,hjk,hf,hfj,hpf,hv⟩
  .have hxr:=(V.S'.d_iff.1 hx).1
   have hvr:=(V.S.d_iff.1 hv).1
   obtain ⟨q,q1,q2,q3⟩:=V.S.t_in hv
   obtain ⟨q',q1',q2',q3'⟩:=V.S'.t_in hx
   have e1:=(K.remE (i:=(iA se p).toNat) aD (by rw [K.S.trE,show (((iA se p).toNat:Nat):Int)=iA se p by omega,q1];omega)).2
   rw [K.S.trE,K.S.trN,show (((iA se p).toNat:Nat):Int)=iA se p by omega,hTv] at e1
   have e2:=(hremE (i:=x.toNat) aD (by rw [show ((x.toNat:Nat):Int)=x by omega,q1'];omega)).2
   rw [show ((x.toNat:Nat):Int)=x by omega,hT] at e2
   have e3:=B.I.eg x hxr.1 hxr.2
   rw [e3] at e1
   rw [e2]
   simp only [Edge.mk.injEq] at e1
   obtain ⟨c1,c2,c3⟩:=e1
   have s1:=hsv (k:=iA se p) (by rw [K.S.restE];exact hv)
   have s2:=hsg (k:=x) (by rw [hrs2];exact hx)
   rw [K.S.restN] at s1
   rw [hrs] at s2
   have d1:=at_ (.inl ⟨_,s2.1,rfl,s1.1,c2.symm⟩)
   have d2:=at_ (.inl ⟨_,s2.2,rfl,s1.2,c3.symm⟩)
   simp only
   rw [c1,d1,d2]
  .have hw:=hnewE (f:=f) (by rw [hfrE];exact hf)
   rw [hrs2,hfrE,hfj,hrg,<- hpf,<- hag] at hw
   rw [hw,<- hv]
   have hme:=FW hmo (k:=j) hj.1 hj.2
   have hge:=EJ K.S.hR.pl.gg (k:=j) hj.1 hj.2
   have e0:eA (lQ r.left.graph h.graph m.m) j=eA r.left.graph j:=rfl
   rw [e0] at hme ⊢
   unfold freshE
   simp only
   have d1:=at_ (p:=iA (fB u g m').nodes (eA r.left.graph j).from_) (.inr ⟨_,hge.1,by rw [eC],rfl⟩)
   have d2:=at_ (p:=iA (fB u g m').nodes (eA r.left.graph j).to_) (.inr ⟨_,hge.2.1,by rw [eC],rfl⟩)
   unfold iA at d1 d2 hme ⊢
   rw [d1,d2,hme.2.1,hme.2.2.1,hme.2.2.2]
 .have hR:=hRn p.toNat aD
  have:=hval hR aD
  rw [show ((p.toNat:Nat):Int)=p by omega] at this
  exact this
end
theorem Ii (l:List Int)(v:Int):Pure Tryz.prog 273 [dLI l,dI v] (.bool (mem l v)):=by
 refine Tz.pK ⟨λ_=>false,λ_=>[]⟩ Tryz.func273 rfl (λQ hQ=>?_)
 have Y:=trivial
 refine wv (h:=bF (λi e H=>(e 0=dLI l/\e 1=dI v/\e 5=dI i)/\(i<=l.length)/\(∀ j,j<i->l[j]?≠some v)) (λi=>l.length - i) 0 ⟨wg,wi,(by intro j hj;omega)⟩ λI0 hI0 i e H hi0=>?_)
 obtain ⟨E0,hi,hne⟩:=hi0
 have Y:=wa Y E0
 refine wv (h:=?_)
 repeat first|intro _|refine ⟨eO,?_⟩
 refine wq (λh2=>?_) λh2=>?_
 .have Y:=wa Y h2
  refine wv (h:=?_)
  repeat first|intro _|refine ⟨eO,?_⟩
  refine wq (λh4=>?_) λh4=>?_
  .refine wv (h:=?_)
   have hm:mem l v=true:=(mem_iff l v).2 (h4 ▸ aC h2)
   exact hQ _ _ (by simp [go_sem,hm])
  .exact wo (h:=wx hI0 (i+1) ⟨wg,wj,(by exact iP hne (by rw [aA h2];simpa using h4))⟩)
 .refine wv (h:=?_)
  have hm:mem l v=false:=by rw [bH];intro h;obtain ⟨j,hj,he⟩:=aO ((mem_iff l v).1 h);exact hne j aD (by rw [aA hj,he])
  exact hQ _ _ (by simp [go_sem,hm])
theorem Lu (l:List Int)(v:Int):Pure Tryz.prog 274 [dLI l,dI v] (dI (idx l v)):=by
 refine Tz.pK ⟨λ_=>false,λ_=>[]⟩ Tryz.func274 rfl (λQ hQ=>?_)
 have Y:=trivial
 refine wv (h:=bF (λi e H=>(e 0=dLI l/\e 1=dI v/\e 5=dI i)/\(i<=l.length)/\(∀ j,j<i->l[j]?≠some v)) (λi=>l.length - i) 0 ⟨wg,wi,(by intro j hj;omega)⟩ λI0 hI0 i e H hi0=>?_)
 obtain ⟨E0,hi,hne⟩:=hi0
 have Y:=wa Y E0
 refine wv (h:=?_)
 repeat first|intro _|refine ⟨eO,?_⟩
 refine wq (λh2=>?_) λh2=>?_
 .have Y:=wa Y h2
  refine wv (h:=?_)
  repeat first|intro _|refine ⟨eO,?_⟩
  refine wq (λh4=>?_) λh4=>?_
  .exact wv (h:=hQ _ _ (by rw [rZ hne (by rw [aA h2,h4])];simp [go_sem]))
  .exact wo (h:=wx hI0 (i+1) ⟨wg,wj,(by exact iP hne (by rw [aA h2];simpa using h4))⟩)
 .exact wv (h:=hQ _ _ (by rw [yF λj hj=>hne j aD];simp [go_sem]))
theorem Ms (l:List Int)(n:Nat):fX l (n+1)=fX l n++(if mem l n=true then [(n:Int)] else []):=by
 unfold fX
 rw [dF,kL,List.map_append]
 congr 1
 cases h:mem l (n:Int)<;>simp [h]
theorem EG (l:List Int)(n:Nat):(fX l n).length<=n:=by
 unfold fX;rw [aW];exact fD (l6 _ _) bV
theorem Bn (n:Nat)(l:List Int)(hn:n<=1000000):Pure Tryz.prog 182 [dI n,dLI l] (dLI (fX l n)):=by
 refine Tz.pK ⟨λt=>t==5,λ_=>[]⟩ Tryz.func182 rfl (λQ hQ=>?_)
 have Y:=trivial
 refine wv (h:=bF (λi e H=>∃ xs:List Int,(e 0=dI n/\e 1=dLI l/\e 5=.own 0 xs.length/\e 6=dI i)/\(H.get 0=some ⟨3,1,xs.map cI,false⟩)/\(0<H.next)/\(i<=n)/\(xs.length<=i)/\(xs=fX l i)) (λi=>n - i) 0 ⟨([]),wg,wn,wn,wi,bV,(by rfl)⟩ λI0 hI0 i e H hi0=>?_)
 obtain ⟨xs,E0,g0_0,n0_0,hi,hl,hx⟩:=hi0
 have Y:=wa Y (wa E0 (wa g0_0 (cD n0_0)))
 refine dP (λh3=>?_) λh3=>?_
 .have Y:=wa Y h3
  refine wv (h:=aB (Ii l i) wl ?_)
  refine dP (λh5=>?_) λh5=>?_
  .have Y:=wa Y h5
   exact wo (h:=wx hI0 (i+1) ⟨(xs++(if mem l i=true then [(i:Int)] else [])),wg,wn,wn,wj,(by rw [aL];split<;>simp<;>omega),(by rw [Ms,<- hx])⟩)
  .have Y:=wa Y h5
   exact wo (h:=wx hI0 (i+1) ⟨(xs++(if mem l i=true then [(i:Int)] else [])),wg,wn,wn,wj,(by rw [aL];split<;>simp<;>omega),(by rw [Ms,<- hx])⟩)
 .have hX:xs=fX l n:=by rw [hx,(aD:i=n)]
  exact wv (h:=hQ _ _ (by simp [go_sem,Y,hX,dLI]))
theorem Bm (part into keep:List Int)(hp:∀ x∈part,x∈into)(hk:into.length=keep.length)(hl:part.length<=1000000):Pure Tryz.prog 183 [dLI part,dLI into,dLI keep] (dLI (dV part into keep)):=by
 refine Tz.pK ⟨λt=>t==7,λ_=>[]⟩ Tryz.func183 rfl (λQ hQ=>?_)
 have Y:=trivial
 refine wv (h:=bF (λi e H=>(e 0=dLI part/\e 1=dLI into/\e 2=dLI keep/\e 7=.own 0 i/\e 8=dI i)/\(H.get 0=some ⟨3,1,(dV (part.take i) into keep).map cI,false⟩)/\(0<H.next)/\(i<=part.length)) (λi=>part.length - i) 0 ⟨wg,(by simp [go_sem,dV]),wn,wi⟩ λI0 hI0 i e H hi0=>?_)
 obtain ⟨E0,g0_0,n0_0,hii⟩:=hi0
 have Y:=wa Y (wa E0 (wa g0_0 (cD n0_0)))
 refine sG (λh3=>?_) λh3=>?_
 .obtain ⟨q1,q2,_⟩:=CR ((mem_iff _ _).2 (hp _ (aC h3)))
  have hk':(idx into part[i]).toNat<keep.length:=aD
  have hSt:dV (part.take (i+1)) into keep=dV (part.take i) into keep++[keep[(idx into part[i]).toNat]]:=by unfold dV;rw [aE h3,List.map_append];simp [iA,aA hk']
  have hal:(dV (part.take i) into keep).length=i:=by simp [dV];omega
  have Y:=wa Y (wa h3 (wa (aA h3) (wa (aA hk') hal)))
  refine wp (h:=aB (Lu into part[i]) wl ?_)
  exact wp (h:=wx hI0 (i+1) ⟨wg,(by simp [go_sem,Y,hSt,cI]),wn,wj⟩)
 .rw [aH aD] at g0_0
  have hie:i=part.length:=aD
  have hal:(dV part into keep).length=part.length:=by simp [dV]
  exact wv (h:=hQ _ _ (by simp [go_sem,Y,hie,hal,dLI]))
def G9 (p g:Graph)(im:List Int)(i:Nat):List Int:=(im.take i).map (gN g)++p.nodes.drop i
theorem K7 {p g:Graph}{im:List Int}(hl:im.length=p.nodes.length){i:Nat}(hi:i<=im.length):(G9 p g im i).length=p.nodes.length:=by simp [G9];omega
theorem PU {p g:Graph}{im:List Int}(hl:im.length=p.nodes.length){i:Nat}(hi:i<im.length):G9 p g im (i+1)=(G9 p g im i).set i (gN g im[i]):=by
 unfold G9
 rw [aE hi,List.map_append,List.append_assoc,eF (aD:i<p.nodes.length),l5 _ _ (by rw [aW,c6];omega)]
 have e:i - ((im.take i).map (gN g)).length=0:=by rw [aW,c6];omega
 rw [e];rfl
theorem Dq (p g:Graph)(im:List Int)(hl:im.length=p.nodes.length)(hn:p.nodes.length<=100000)(he:p.edges.length<=100000)(hi:∀ x∈im,0<=x/\x<g.nodes.length):Pure Tryz.prog 181 [p.d,g.d,dLI im] (Graph.d ⟨im.map (gN g),p.edges⟩):=by
 obtain ⟨zs,hzs⟩:=cF (im.map (gN g))
 rw [<- hzs]
 refine Tz.pK ⟨λt=>t==6||t==7,λ_=>[]⟩ Tryz.func181 rfl (λQ hQ=>?_)
 try simp [go_sem,seval]
 unfold fM;refine tI p hn he _ _ (λa b H1 ha hb hab han hbn hga hgb hfr hnn=>?_)
 have h0n:(0:Nat)<H1.next:=aD
 have ha0:a≠0:=by simp [go_sem] at ha;omega
 have hb0:b≠0:=by simp [go_sem] at hb;omega
 have hg0:=hfr 0 (by simp [go_sem])
 simp [go_sem] at hg0
 have nx:=W6 H1.next
 have fr1:=And.intro (cD (aD:a<H1.next)) (And.intro (cD (aD:b<H1.next)) (cD (aD:0<H1.next)))
 have di2:=And.intro (dH (aD:0≠b)) (And.intro (dH (aD:0≠a)) (dH (aD:b≠a)))
 try simp [go_sem,seval,fr1,di2,hga,hgb,hg0,nx]
 obtain ⟨I0,hI0⟩:∃ I0:Nat->dM->AHeap->Prop,∀ (i:Nat) (e:dM) (H:AHeap),I0 i e H↔(∃ c:Nat,(e 2=dLI im)/\(e 4=.adr g.c)/\(e 6=.ptr 0 1 0 0)/\(e 7=.ptr c 1 0 0)/\(e 8=dI i)/\(H.get 0=some ⟨29,2,[[.nil,.nil]],false⟩)/\(0<H.next)/\(H.get c=some ⟨29,2,[[.own a p.nodes.length,.own b p.edges.length]],false⟩)/\(c<H.next)/\(H.get a=some ⟨3,1,(G9 p g im i).map cI,false⟩)/\(a<H.next)/\(H.get b=some ⟨122,3,p.edges.map Edge.c,false⟩)/\(b<H.next)/\(i<=im.length)/\(a<c/\b<c)/\((G9 p g im i).length=p.nodes.length)):=⟨λi e H=>_,λ_ _ _=>Iff.rfl⟩
 refine oS I0 (λi=>im.length - i) (0) ((hI0 _ _ _).2 ⟨(H1.next),?_,?_,?_,?_,?_,?_,?_,?_,?_,(by simp [go_sem,fr1,di2,hga,hgb,hg0,nx,G9]),?_,?_,?_,(by first|assumption|omega|(simp [go_sem,fr1,di2,hga,hgb,hg0,nx];done)|(simp_all;done)),aD,(by exact K7 hl (dY _))⟩) ?_
 iterate 12 (first|omega|(simp [go_sem,seval,fr1,di2,hga,hgb,hg0,nx]<;>omega))
 intro i e H hi0
 obtain ⟨c,q2_0,q4_0,q6_0,q7_0,q8_0,g0_0,n0_0,gc_0,nc_0,ga_0,na_0,gb_0,nb_0,hi',hc,hrl⟩:=(hI0 _ _ _).1 hi0
 have x0:=cD n0_0
 have xc:=cD nc_0
 have xa:=cD na_0
 have xb:=cD nb_0
 have F0:=And.intro q2_0 (And.intro q4_0 (And.intro q6_0 (And.intro q7_0 (And.intro q8_0 (And.intro g0_0 (And.intro gc_0 (And.intro gb_0 (And.intro x0 (And.intro xc (And.intro xa xb))))))))))
 have di3:=And.intro (dH (aD:0≠c)) (And.intro (dH (aD:0≠b)) (And.intro (dH (aD:0≠a)) (And.intro (dH (aD:c≠b)) (And.intro (dH (aD:c≠a)) (dH (aD:b≠a))))))
 try simp [go_sem,seval,fr1,di2,hga,hgb,hg0,nx,F0,ga_0,hrl,di3]
 repeat first|intro _|refine ⟨eQ,?_⟩
 refine aP (λh3=>?_) (λh3=>?_)
 .try simp [go_sem] at h3
  have hx:=hi _ (aC h3)
  have hk:im[i].toNat<g.nodes.length:=aD
  have hxg:gN g im[i]=g.nodes[im[i].toNat]:=by simp [gN,aA hk]
  have hil:i<p.nodes.length:=aD
  try simp [go_sem,seval,fr1,di2,hga,hgb,hg0,nx,F0,ga_0,hrl,di3,h3,aA h3,aA hk,hil]
  repeat first|intro _|refine ⟨eQ,?_⟩
  refine eB (i+1) aD ((hI0 _ _ _).2 ⟨(c),?_,?_,?_,?_,?_,?_,?_,?_,?_,(by simp [go_sem,fr1,di2,hga,hgb,hg0,nx,F0,ga_0,hrl,di3,h3,aA h3,aA hk,hil,PU hl h3,bX,hxg]),?_,?_,?_,(by first|assumption|omega|(simp [go_sem,fr1,di2,hga,hgb,hg0,nx,F0,ga_0,hrl,di3,h3,aA h3,aA hk,hil];done)|(simp_all<;>omega)),aD,(by exact K7 hl h3)⟩)<;>first|omega|(simp [go_sem,seval,fr1,di2,hga,hgb,hg0,nx,F0,ga_0,hrl,di3,h3,aA h3,aA hk,hil]<;>omega)
 .try simp [go_sem] at h3
  have hI:i=im.length:=aD
  have hE:G9 p g im i=zs:=by rw [hI,hzs];unfold G9;rw [zG,List.drop_eq_nil_iff.2 aD,dG]
  rw [hE] at ga_0 hrl
  try simp [go_sem,seval,fr1,di2,hga,hgb,hg0,nx,F0,ga_0,hrl,di3,ga_0]
  exact hQ _ _ (by first|(left;(simp [go_sem,fr1,di2,hga,hgb,hg0,nx,F0,ga_0,hrl,di3,ga_0,hrl,dLI]);done)|(right;(simp [go_sem,fr1,di2,hga,hgb,hg0,nx,F0,ga_0,hrl,di3,ga_0,hrl,dLI]);done))
theorem Hn (t:Types)(ht:t.ok):Pure Tryz.prog 115 [t.d] (dI (cZ t).2):=by
 refine Tz.pK ⟨λ_=>false,λ_=>[]⟩ Tryz.func115 rfl (λQ hQ=>?_)
 have Y:=trivial
 refine wv (h:=aB (l7 t ht) wl ?_)
 exact wv (h:=hQ _ _ wy)
theorem zX (p g:Graph)(im:List Int)(hn:im.length<=100000)(he:p.edges.length<=100000)(hi:∀ x∈im,0<=x/\x<g.nodes.length):Pure Tryz.prog 191 [p.d,g.d,dLI im] (Graph.d ⟨im.map (gN g),p.edges⟩):=by
 obtain ⟨zs,hzs⟩:=cF (im.map (gN g))
 have hzl:zs.length=im.length:=by rw [hzs];simp
 rw [<- hzs]
 refine Tz.pK ⟨λt=>t==6||t==7||t==1000001,λr=>match r with|5=>[(0,7),(1,7)]|_=>[]⟩ Tryz.func191 rfl (λQ hQ=>?_)
 have Y:=trivial
 refine wv (h:=?_)
 refine GR (AQ p.edges aD) (by simp [go_sem]) (by simp [go_sem]) (RW _) ?_
 refine wp (h:=tN (Ghosts.step (Ghosts.refl _) 1 0 0 3 1 _ _ (rfl) rfl rfl rfl) (λi e H=>(e 4=.adr g.c/\e 6=.ptr 0 1 0 0/\e 7=.ptr 1 1 0 0/\e 14=dLI im/\e 15=dI im.length/\e 16=dI i)/\(H.get 0=some ⟨29,2,[[.nil,.nil]],false⟩)/\(0<H.next)/\(H.get 1=some ⟨29,2,[[.own 2 i,.list (p.edges.map Edge.c)]],false⟩)/\(1<H.next)/\(H.get 2=some ⟨3,1,(zs.take i).map cI,false⟩)/\(2<H.next)/\(i<=im.length)) (λi=>im.length - i) 0 ⟨wg,wn,wn,wn,wn,(by rfl),wn,wi⟩ λI0 hI0 i e H hi0=>?_)
 obtain ⟨E0,g0_0,n0_0,g1_0,n1_0,g2_0,n2_0,hii⟩:=hi0
 have Y:=wa Y (wa E0 (wa g0_0 (wa (cD n0_0) (wa g1_0 (wa (cD n1_0) (wa g2_0 (cD n2_0)))))))
 refine dP (λh3=>?_) λh3=>?_
 .have hx:=hi _ (aC h3)
  have hk:im[i].toNat<g.nodes.length:=aD
  have hiz:i<zs.length:=aD
  have hzi:zs[i]=g.nodes[im[i].toNat]:=by simp [hzs,gN,aA hk]
  have hSt:zs.take (i+1)=zs.take i++[g.nodes[im[i].toNat]]:=by rw [aE hiz,hzi]
  have hal:(zs.take i).length=i:=by simp;omega
  have Y:=wa Y (wa h3 (wa (aA h3) (wa (aA hk) hal)))
  exact wp (h:=wx hI0 (i+1) ⟨wg,wn,wn,wn,wn,(by simp [go_sem,Y,hSt,cI]),wn,wj⟩)
 .rw [aH aD] at g2_0
  have hie:i=zs.length:=aD
  exact wv (h:=hQ _ _ (by simp [go_sem,Y,hie,dLI]))
theorem uB (l:List Int)(hl:l.length<=1000000):Pure Tryz.prog 193 [dLI l] (.bool (decide l.Nodup)):=by
 have hlen:=kD l
 have hI:=yE l
 have hle:=AO (jZ l)
 unfold imagesN at hI
 refine Tz.pK ⟨λ_=>false,λ_=>[]⟩ Tryz.func193 rfl (λQ hQ=>?_)
 have Y:=trivial
 refine wv (h:=lN (jG l hl) wl ?_)
 refine wv (h:=?_)
 unfold fM;refine A8 (ty:=3) (xs:=l) (by simp [go_sem]) hl ?_
 refine wo (h:=?_)
 unfold fM;refine ACalls.frz ?_;simp [go_sem,hlen];refine D3 (jG (jZ l) aD) (by simp [go_sem]) ?_
 refine wo (h:=?_)
 unfold fM;rw [show l.length=(jZ l).length from hlen.symm];refine yQ (ty:=3) (xs:=jZ l) (by simp [go_sem]) aD λk=>?_
 exact wo (h:=hQ _ _ (by simp [go_sem];rw [aT,beq_iff_eq,decide_eq_true_eq,<- hI,hlen];omega))
theorem NB {l:List Int}{n:Nat}(hn:l.Nodup)(hr:∀ x∈l,0<=x/\x<n):jZ l=fX l n:=by
 have hp:(jZ l).Perm l:=List.mergeSort_perm l _
 have hd:(jZ l).Nodup:=hp.nodup_iff.2 hn
 refine PJ ?_ (Ta _ _) λx=>?_
 .rw [dK]
  intro i j hi hj hij
  have h1:=dK.1 (Ia l) i j hi hj hij
  have h2:(jZ l)[i]≠(jZ l)[j]:=λhe=>by have:=(l4 hd).1 he;omega
  omega
 .rw [s6,hp.mem_iff]
  exact ⟨λh=>⟨hr x h,h⟩,λh=>h.2⟩
theorem zY (keep into:List Int)(n:Nat)(hn:into.Nodup)(hr:∀ x∈into,0<=x/\x<n)(hk:into.length=keep.length)(hl:into.length<=1000000):Pure Tryz.prog 194 [dLI keep,dLI into] (.tup [dLI (fX into n),dLI (dV (fX into n) into keep)]):=by
 have hlen:=kD into
 have hS:=NB hn hr
 obtain ⟨ys,hys⟩:=cF (fX into n)
 rw [<- hys] at hS
 have hin:∀ x∈ys,x∈into:=λx hx=>(s6.1 (hys ▸ hx)).2
 have hyl:ys.length=into.length:=by rw [<- hS];exact hlen
 rw [<- hys]
 refine Tz.pK ⟨λt=>t==6||t==7,λ_=>[]⟩ Tryz.func194 rfl (λQ hQ=>?_)
 try simp [go_sem,seval]
 refine lN (jG into hl) ((by first|rfl|(simp [go_sem,<- List.map_take,<- List.map_drop];done))) ?_
 try simp [go_sem,seval]
 unfold fM;refine A8 (ty:=3) (xs:=into) (by simp [go_sem]) hl ?_
 rw [hS]
 try simp [go_sem,seval]
 repeat first|intro _|refine ⟨eQ,?_⟩
 obtain ⟨I0,hI0⟩:∃ I0:Nat->dM->AHeap->Prop,∀ (i:Nat) (e:dM) (H:AHeap),I0 i e H↔((e 0=dLI keep)/\(e 1=dLI into)/\(e 6=.own 0 into.length)/\(e 14=.own 0 into.length)/\(e 15=dI into.length)/\(e 7=.own 1 i)/\(e 16=dI i)/\(H.get 0=some ⟨3,1,ys.map cI,false⟩)/\(0<H.next)/\(H.get 1=some ⟨3,1,(dV (ys.take i) into keep).map cI,false⟩)/\(1<H.next)/\(i<=ys.length)):=⟨λi e H=>_,λ_ _ _=>Iff.rfl⟩
 refine oS I0 (λi=>ys.length - i) (0) ((hI0 _ _ _).2 ⟨?_,?_,?_,?_,?_,?_,?_,?_,?_,(by simp [go_sem,dV]),?_,(by first|assumption|omega|(simp [go_sem];done)|(simp_all;done))⟩) ?_
 iterate 10 (first|omega|(simp [go_sem,seval]<;>omega))
 intro i e H hi0
 obtain ⟨q0_0,q1_0,q6_0,q14_0,q15_0,q7_0,q16_0,g0_0,n0_0,g1_0,n1_0,hii⟩:=(hI0 _ _ _).1 hi0
 have x0:=cD n0_0
 have x1:=cD n1_0
 have F0:=And.intro q0_0 (And.intro q1_0 (And.intro q6_0 (And.intro q14_0 (And.intro q15_0 (And.intro q7_0 (And.intro q16_0 (And.intro g0_0 (And.intro x0 x1))))))))
 try simp [go_sem,seval,F0,g1_0]
 refine aP (λh5=>?_) (λh5=>?_)
 .try simp [go_sem] at h5
  have hiy:i<ys.length:=aD
  obtain ⟨q1,q2,_⟩:=CR ((mem_iff _ _).2 (hin _ (aC hiy)))
  have hk':(idx into ys[i]).toNat<keep.length:=aD
  have hSt:dV (ys.take (i+1)) into keep=dV (ys.take i) into keep++[keep[(idx into ys[i]).toNat]]:=by unfold dV;rw [aE hiy,List.map_append];simp [iA,aA hk']
  have hal:(dV (ys.take i) into keep).length=i:=by simp [dV];omega
  try simp [go_sem,seval,F0,g1_0,h5,aA hiy,aA hk',hal,hyl]
  repeat first|intro _|refine ⟨eQ,?_⟩
  refine aB (uN into ys[i]) ((by first|rfl|(simp [go_sem,<- List.map_take,<- List.map_drop,F0,g1_0,h5,aA hiy,aA hk',hal,hyl];done))) ?_
  try simp [go_sem,seval,F0,g1_0,h5,aA hiy,aA hk',hal,hyl]
  repeat first|intro _|refine ⟨eQ,?_⟩
  refine eB (i+1) aD ((hI0 _ _ _).2 ⟨?_,?_,?_,?_,?_,?_,?_,?_,?_,(by simp [go_sem,F0,g1_0,h5,aA hiy,aA hk',hal,hyl,hSt,cI]),?_,(by first|assumption|omega|(simp [go_sem,F0,g1_0,h5,aA hiy,aA hk',hal,hyl];done)|(simp_all<;>omega))⟩)<;>first|omega|(simp [go_sem,seval,F0,g1_0,h5,aA hiy,aA hk',hal,hyl]<;>omega)
 .try simp [go_sem] at h5
  rw [aH aD] at g1_0
  have hie:i=ys.length:=aD
  have hal:(dV ys into keep).length=ys.length:=by simp [dV]
  try simp [go_sem,seval,F0,g1_0,g1_0,hyl]
  exact hQ _ _ (by first|(left;(simp [go_sem,F0,g1_0,g1_0,hyl,hie,hal,hyl,dLI]);done)|(right;(simp [go_sem,F0,g1_0,g1_0,hyl,hie,hal,hyl,dLI]);done))
theorem CC (g:Graph)(hn:g.nodes.length<=100000)(he:g.edges.length<=100000):Pure Tryz.prog 91 [g.d] (Part.d ⟨kT g.nodes.length,kT g.edges.length⟩):=by
 refine Tz.pK ⟨λt=>t==2||t==3||t==1000001,λ_=>[]⟩ Tryz.func91 rfl (λQ hQ=>?_)
 have Y:=trivial
 refine wp (h:=tN (Ghosts.step (Ghosts.step (Ghosts.refl _) 1 0 0 3 1 _ _ (rfl) rfl rfl rfl) 1 0 1 3 1 _ _ (rfl) rfl rfl rfl) (λi e H=>(e 1=.adr g.c/\e 2=.ptr 0 1 0 0/\e 3=.ptr 1 1 0 0/\e 8=dI g.nodes.length/\e 9=dI i)/\(H.get 0=some ⟨36,2,[[.nil,.nil]],false⟩)/\(0<H.next)/\(H.get 1=some ⟨36,2,[[.own 2 i,.own 3 0]],false⟩)/\(1<H.next)/\(H.get 2=some ⟨3,1,(kT i).map cI,false⟩)/\(2<H.next)/\(H.get 3=some ⟨3,1,(kT 0).map cI,false⟩)/\(3<H.next)/\(i<=g.nodes.length)) (λi=>g.nodes.length - i) 0 ⟨wg,wn,wn,wn,wn,(by rfl),wn,(by rfl),wn,wi⟩ λI0 hI0 i e H hi0=>?_)
 obtain ⟨E0,g0_0,n0_0,g1_0,n1_0,g2_0,n2_0,g3_0,n3_0,hi⟩:=hi0
 have Y:=wa Y (wa E0 (wa g0_0 (wa (cD n0_0) (wa g1_0 (wa (cD n1_0) (wa g2_0 (wa (cD n2_0) (wa g3_0 (cD n3_0)))))))))
 refine dP (λh3=>?_) λh3=>?_
 .have hal:(kT i).length=i:=by simp [kT]
  have Y:=wa Y (wa h3 hal)
  exact wp (h:=wx hI0 (i+1) ⟨wg,wn,wn,wn,wn,(by simp [go_sem,Y,Ix,hal]),wn,(by simp [go_sem,Y]),wn,wj⟩)
 .have hI:i=g.nodes.length:=aD
  subst hI
  have hal:(kT g.nodes.length).length=g.nodes.length:=by simp [kT]
  have Y:=wa Y hal
  refine wp (h:=bF (λk e H=>(e 1=.adr g.c/\e 2=.ptr 0 1 0 0/\e 3=.ptr 1 1 0 0/\e 8=dI g.nodes.length/\e 21=dI g.edges.length/\e 22=dI k)/\(H.get 0=some ⟨36,2,[[.nil,.nil]],false⟩)/\(0<H.next)/\(H.get 1=some ⟨36,2,[[.own 2 g.nodes.length,.own 3 k]],false⟩)/\(1<H.next)/\(H.get 2=some ⟨3,1,(kT g.nodes.length).map cI,false⟩)/\(2<H.next)/\(H.get 3=some ⟨3,1,(kT k).map cI,false⟩)/\(3<H.next)/\(k<=g.edges.length)) (λk=>g.edges.length - k) 0 ⟨wg,wn,wn,wn,wn,wn,wn,(by exact g3_0),wn,wi⟩ λI2 hI2 k e H hi2=>?_)
  obtain ⟨E2,g0_2,n0_2,g1_2,n1_2,g2_2,n2_2,g3_2,n3_2,hk⟩:=hi2
  have Y:=wa Y (wa E2 (wa g0_2 (wa (cD n0_2) (wa g1_2 (wa (cD n1_2) (wa g2_2 (wa (cD n2_2) (wa g3_2 (cD n3_2)))))))))
  refine dP (λh8=>?_) λh8=>?_
  .have hal2:(kT k).length=k:=by simp [kT]
   have Y:=wa Y (wa h8 hal2)
   exact wp (h:=wx hI2 (k+1) ⟨wg,wn,wn,wn,wn,wn,wn,(by simp [go_sem,Y,Ix,hal2]),wn,wj⟩)
  .have hK:k=g.edges.length:=aD
   subst hK
   have hal2:(kT g.edges.length).length=g.edges.length:=by simp [kT]
   have Y:=wa Y hal2
   exact wv (h:=hQ _ _ (by simp [go_sem,Y,dLI,Part.d,Part.c]))
structure SlotsOk (t:Types) (s:Stp26):Prop where
 n:s.mat.m.nodes.length<=1000
 a:∀ i:Nat,i<s.mat.m.nodes.length->(0<=iA s.mat.m.nodes i/\iA s.mat.m.nodes i<s.before.values.length/\iA s.mat.m.nodes i<s.before.graph.nodes.length)/\(rT s i).length=(bL t (gN s.before.graph (iA s.mat.m.nodes i))).length/\(rT s i).length<=8
 b:∀ i:Nat,i<s.mat.m.nodes.length->mem s.rule.keep.nodes i=true->iA s.mat.m.nodes i<s.track.nodes.length/\0<=iA s.track.nodes (iA s.mat.m.nodes i)/\iA s.track.nodes (iA s.mat.m.nodes i)<s.after.values.length/\(rT s i).length<=(s.after.values[(iA s.track.nodes (iA s.mat.m.nodes i)).toNat]?.getD []).length
theorem j8 (t:Types)(s:Stp26)(i n:Nat):qK t s i (n+1)=qK t s i n++fW t s i n:=by simp [qK,dF]
theorem xE (t:Types)(s:Stp26)(n:Nat):kF t s (n+1)=kF t s n++qK t s n (rT s n).length:=by simp [kF,dF]
theorem Fc (t:Types)(s:Stp26)(i:Nat):∀ n,(qK t s i n).length<=n
 | 0=>by simp [qK]
 | n+1=>by
  have:=Fc t s i n
  rw [j8,aL]
  have:(fW t s i n).length<=1:=by unfold fW;split<;>simp
  omega
theorem At {t:Types}{s:Stp26}(h:SlotsOk t s):∀ n,n<=s.mat.m.nodes.length->(kF t s n).length<=8 * n
 | 0,_=>by simp [kF]
 | n+1,hn=>by
  have h1:=At h n aD
  have h2:=Fc t s n (rT s n).length
  have h3:=(h.a n aD).2.2
  rw [xE,aL]
  omega
theorem Ls (t:Types)(ht:t.ok)(s:Stp26)(hs:SlotsOk t s):Pure Tryz.prog 184 [t.d,.agg s.c] (.list ((kF t s s.mat.m.nodes.length).map Slot.c)):=by
 have hn:=hs.n
 refine Tz.pK ⟨λt=>t==5,λ_=>[]⟩ Tryz.func184 rfl (λQ hQ=>?_)
 have Y:=wa @Stp26.c.eq_1 (wa @Rule.c.eq_1 (wa @Mat.c.eq_1 @Host.c.eq_1))
 refine wv (h:=bF (λi e H=>∃ xs:List Slot,(e 2=.adr t.c/\e 3=.adr s.c/\e 5=.own 0 xs.length/\e 6=dI i)/\(H.get 0=some ⟨159,4,xs.map Slot.c,false⟩)/\(0<H.next)/\(i<=s.mat.m.nodes.length)/\(xs.length<=8 * i)/\(xs=kF t s i)) (λi=>s.mat.m.nodes.length - i) 0 ⟨([]),wg,wn,wn,wi,bV,(by rfl)⟩ λI0 hI0 i e H hi0=>?_)
 obtain ⟨xs,E0,g0_0,n0_0,hi,hl,hx⟩:=hi0
 have Y:=wa Y (wa E0 (wa g0_0 (cD n0_0)))
 refine sG (λh3=>?_) λh3=>?_
 .obtain ⟨⟨a1,a2,a3⟩,a4,a5⟩:=hs.a i h3
  have hb:=hs.b i h3
  obtain ⟨q,hq⟩:=cF ((iA s.mat.m.nodes i).toNat)
  have hqi:iA s.mat.m.nodes i=(q:Int):=aD
  have hmi:s.mat.m.nodes[i]=(q:Int):=by rw [<- hqi,kS h3]
  have hqv:q<s.before.values.length:=aD
  have hqg:q<s.before.graph.nodes.length:=aD
  obtain ⟨K,hK⟩:=cF (gN s.before.graph (iA s.mat.m.nodes i))
  have hKg:s.before.graph.nodes[q]=K:=by rw [hK,hqi];unfold gN;rw [Int.toNat_natCast,aA hqg];rfl
  obtain ⟨o,ho⟩:=cF (rT s i)
  have hov:s.before.values[q]=o:=by rw [ho];unfold rT;rw [<- hq,aA hqv];rfl
  rw [<- hK,<- ho] at a4
  rw [<- ho] at a5 hb
  have Y:=wa Y (wa h3 (wa (aA h3) (wa hmi (wa (aA hqv) (wa (aA hqg) (wa hKg (wa hov @cL.eq_1)))))))
  refine wp (h:=aJ (nW t ht K) wl ?_)
  refine wp (h:=bF (λk e H=>∃ ys:List Slot,(e 2=.adr t.c/\e 3=.adr s.c/\e 5=.own 0 ys.length/\e 6=dI i/\e 7=dI q/\e 8=dLI o/\e 9=.list ((bL t K).map Attr.c)/\e 11=dI k)/\(H.get 0=some ⟨159,4,ys.map Slot.c,false⟩)/\(0<H.next)/\(k<=o.length)/\(ys.length<=8 * i+k)/\(ys=xs++qK t s i k)) (λk=>o.length - k) 0 ⟨xs,wg,wn,wn,wi,aD,(by simp [qK])⟩ λI2 hI2 k e H hi2=>?_)
  obtain ⟨ys,E2,g0_2,n0_2,hk,hyl,hy⟩:=hi2
  have Y:=wa Y (wa E2 (wa g0_2 (cD n0_2)))
  refine sG (λh9=>?_) λh9=>?_
  .have hka:k<(bL t K).length:=aD
   have hok:o[k]?.getD 0=o[k]:=by rw [aA h9];rfl
   have Y:=wa Y (wa h9 (wa (aA h9) (wa (aA hka) @Attr.c.eq_1)))
   refine wp (h:=aB (Ii s.rule.keep.nodes i) wl ?_)
   refine sG (λh12=>?_) λh12=>?_
   .obtain ⟨b1,b2,b3,b4⟩:=hb (bW h12)
    obtain ⟨T,hT⟩:=cF ((iA s.track.nodes (iA s.mat.m.nodes i)).toNat)
    have hqt:q<s.track.nodes.length:=aD
    have hT2:iA s.track.nodes (iA s.mat.m.nodes i)=(T:Int):=aD
    have hTt:s.track.nodes[q]=(T:Int):=by rw [<- hT2,hqi,kS hqt]
    have hTv:T<s.after.values.length:=aD
    rw [<- hT,aA hTv] at b4
    have hkT:k<s.after.values[T].length:=by simp only [Option.getD_some] at b4;omega
    have hnow:CM t s i k=s.after.values[T][k]:=by unfold CM;rw [if_pos (bW h12),<- hT,aA hTv,Option.getD_some,aA hkT];rfl
    have Y:=wa Y (wa (aA hqt) (wa hTt (wa (aA hTv) (aA hkT))))
    refine sG (λh14=>?_) λh14=>?_
    .have hsl:fW t s i k=[⟨i,k,⟨-1,o[k]⟩⟩]:=by unfold fW;rw [<- ho,hok,hnow,if_pos (bW h14)]
     have Y:=wa Y (wa hsl (wa @Slot.c.eq_1 @Term.c.eq_1))
     exact wp (h:=wx hI2 (k+1) ⟨(ys++fW t s i k),wg,wn,wn,wj,(by rw [aL];have:(fW t s i k).length<=1:=(by unfold fW;split<;>simp);omega),(by rw [hy,j8,List.append_assoc])⟩)
    .have hsl:fW t s i k=[]:=by unfold fW;rw [<- ho,hok,hnow,if_neg (bW h14)]
     have Y:=wa Y hsl
     exact wp (h:=wx hI2 (k+1) ⟨(ys++fW t s i k),wg,wn,wn,wj,(by rw [aL];have:(fW t s i k).length<=1:=(by unfold fW;split<;>simp);omega),(by rw [hy,j8,List.append_assoc])⟩)
   .have hnow:CM t s i k=(bL t K)[k].low:=by unfold CM;rw [if_neg (bW h12),<- hK,aA hka];rfl
    refine sG (λh14=>?_) λh14=>?_
    .have hsl:fW t s i k=[⟨i,k,⟨-1,o[k]⟩⟩]:=by unfold fW;rw [<- ho,hok,hnow,if_pos (bW h14)]
     have Y:=wa Y (wa hsl (wa @Slot.c.eq_1 @Term.c.eq_1))
     exact wp (h:=wx hI2 (k+1) ⟨(ys++fW t s i k),wg,wn,wn,wj,(by rw [aL];have:(fW t s i k).length<=1:=(by unfold fW;split<;>simp);omega),(by rw [hy,j8,List.append_assoc])⟩)
    .have hsl:fW t s i k=[]:=by unfold fW;rw [<- ho,hok,hnow,if_neg (bW h14)]
     have Y:=wa Y hsl
     exact wp (h:=wx hI2 (k+1) ⟨(ys++fW t s i k),wg,wn,wn,wj,(by rw [aL];have:(fW t s i k).length<=1:=(by unfold fW;split<;>simp);omega),(by rw [hy,j8,List.append_assoc])⟩)
  .have hyx:ys=kF t s (i+1):=by rw [hy,xE,<- hx,<- ho,(aD:k=o.length)]
   exact wp (h:=wx hI0 (i+1) ⟨ys,wg,wn,wn,wj,(by rw [hyx];have:=At hs (i+1) h3;omega),(by rw [hyx])⟩)
 .have hX:xs=kF t s s.mat.m.nodes.length:=by rw [hx,(aD:i=s.mat.m.nodes.length)]
  exact wv (h:=hQ _ _ (by simp [go_sem,Y,hX]))
theorem Ho (t:Types)(ht:t.ok)(s:Stp26)(hs:SlotsOk t s):Pure Tryz.prog 192 [t.d,.agg s.c] (.list ((kF t s s.mat.m.nodes.length).map Slot.c)):=by
 have hn:=hs.n
 refine Tz.pK ⟨λt=>t==5||t==11,λ_=>[]⟩ Tryz.func192 rfl (λQ hQ=>?_)
 have Y:=wa @Stp26.c.eq_1 (wa @Rule.c.eq_1 (wa @Mat.c.eq_1 @Host.c.eq_1))
 refine wp (h:=bF (λi e H=>∃ xs:List Slot,(e 2=.adr t.c/\e 3=.adr s.c/\e 17=dLI s.mat.m.nodes/\e 18=dI s.mat.m.nodes.length/\e 5=.own 0 xs.length/\e 19=dI i)/\(H.get 0=some ⟨159,4,xs.map Slot.c,false⟩)/\(0<H.next)/\(i<=s.mat.m.nodes.length)/\(xs.length<=8 * i)/\(xs=kF t s i)) (λi=>s.mat.m.nodes.length - i) 0 ⟨([]),wg,wn,wn,wi,bV,(by rfl)⟩ λI0 hI0 i e H hi0=>?_)
 obtain ⟨xs,E0,g0_0,n0_0,hi,hl,hx⟩:=hi0
 have Y:=wa Y (wa E0 (wa g0_0 (cD n0_0)))
 refine dP (λh3=>?_) λh3=>?_
 .obtain ⟨⟨a1,a2,a3⟩,a4,a5⟩:=hs.a i h3
  have hb:=hs.b i h3
  obtain ⟨q,hq⟩:=cF ((iA s.mat.m.nodes i).toNat)
  have hqi:iA s.mat.m.nodes i=(q:Int):=aD
  have hmi:s.mat.m.nodes[i]=(q:Int):=by rw [<- hqi,kS h3]
  have hqv:q<s.before.values.length:=aD
  have hqg:q<s.before.graph.nodes.length:=aD
  obtain ⟨K,hK⟩:=cF (gN s.before.graph (iA s.mat.m.nodes i))
  have hKg:s.before.graph.nodes[q]=K:=by rw [hK,hqi];unfold gN;rw [Int.toNat_natCast,aA hqg];rfl
  obtain ⟨o,ho⟩:=cF (rT s i)
  have hov:s.before.values[q]=o:=by rw [ho];unfold rT;rw [<- hq,aA hqv];rfl
  rw [<- hK,<- ho] at a4
  rw [<- ho] at a5 hb
  have Y:=wa Y (wa h3 (wa (aA h3) (wa hmi (wa (aA hqv) (wa (aA hqg) (wa hKg (wa hov @cL.eq_1)))))))
  refine wp (h:=aJ (nS t ht K) wl ?_)
  refine wp (h:=bF (λk e H=>∃ ys:List Slot,(e 2=.adr t.c/\e 3=.adr s.c/\e 17=dLI s.mat.m.nodes/\e 18=dI s.mat.m.nodes.length/\e 5=.own 0 ys.length/\e 19=dI i/\e 6=dI i/\e 7=dI q/\e 8=.list ((bL t K).map Attr.c)/\e 36=.list ((bL t K).map Attr.c)/\e 37=dI o.length/\e 38=dI k)/\(H.get 0=some ⟨159,4,ys.map Slot.c,false⟩)/\(0<H.next)/\(k<=o.length)/\(ys.length<=8 * i+k)/\(ys=xs++qK t s i k)) (λk=>o.length - k) 0 ⟨xs,wg,wn,wn,wi,aD,(by simp [qK])⟩ λI2 hI2 k e H hi2=>?_)
  obtain ⟨ys,E2,g0_2,n0_2,hk,hyl,hy⟩:=hi2
  have Y:=wa Y (wa E2 (wa g0_2 (cD n0_2)))
  refine dP (λh7=>?_) λh7=>?_
  .have hka:k<(bL t K).length:=aD
   have hok:o[k]?.getD 0=o[k]:=by rw [aA h7];rfl
   have Y:=wa Y (wa h7 (wa (aA h7) (wa (aA hka) @Attr.c.eq_1)))
   refine wp (h:=aB (fT s.rule.keep.nodes i) wl ?_)
   refine sG (λh10=>?_) λh10=>?_
   .obtain ⟨b1,b2,b3,b4⟩:=hb (bW h10)
    obtain ⟨T,hT⟩:=cF ((iA s.track.nodes (iA s.mat.m.nodes i)).toNat)
    have hqt:q<s.track.nodes.length:=aD
    have hT2:iA s.track.nodes (iA s.mat.m.nodes i)=(T:Int):=aD
    have hTt:s.track.nodes[q]=(T:Int):=by rw [<- hT2,hqi,kS hqt]
    have hTv:T<s.after.values.length:=aD
    rw [<- hT,aA hTv] at b4
    have hkT:k<s.after.values[T].length:=by simp only [Option.getD_some] at b4;omega
    have hnow:CM t s i k=s.after.values[T][k]:=by unfold CM;rw [if_pos (bW h10),<- hT,aA hTv,Option.getD_some,aA hkT];rfl
    have Y:=wa Y (wa (aA hqt) (wa hTt (wa (aA hTv) (aA hkT))))
    refine sG (λh12=>?_) λh12=>?_
    .have hsl:fW t s i k=[⟨i,k,⟨-1,o[k]⟩⟩]:=by unfold fW;rw [<- ho,hok,hnow,if_pos (bW h12)]
     have Y:=wa Y (wa hsl (wa @Slot.c.eq_1 @Term.c.eq_1))
     exact wp (h:=wx hI2 (k+1) ⟨(ys++fW t s i k),wg,wn,wn,wj,(by rw [aL];have:(fW t s i k).length<=1:=(by unfold fW;split<;>simp);omega),(by rw [hy,j8,List.append_assoc])⟩)
    .have hsl:fW t s i k=[]:=by unfold fW;rw [<- ho,hok,hnow,if_neg (bW h12)]
     have Y:=wa Y hsl
     exact wp (h:=wx hI2 (k+1) ⟨(ys++fW t s i k),wg,wn,wn,wj,(by rw [aL];have:(fW t s i k).length<=1:=(by unfold fW;split<;>simp);omega),(by rw [hy,j8,List.append_assoc])⟩)
   .have hnow:CM t s i k=(bL t K)[k].low:=by unfold CM;rw [if_neg (bW h10),<- hK,aA hka];rfl
    refine dP (λh12=>?_) λh12=>?_
    .have hsl:fW t s i k=[⟨i,k,⟨-1,o[k]⟩⟩]:=by unfold fW;rw [<- ho,hok,hnow,if_pos (bW h12)]
     have Y:=wa Y (wa hsl (wa @Slot.c.eq_1 @Term.c.eq_1))
     exact wp (h:=wx hI2 (k+1) ⟨(ys++fW t s i k),wg,wn,wn,wj,(by rw [aL];have:(fW t s i k).length<=1:=(by unfold fW;split<;>simp);omega),(by rw [hy,j8,List.append_assoc])⟩)
    .have hsl:fW t s i k=[]:=by unfold fW;rw [<- ho,hok,hnow,if_neg (bW h12)]
     have Y:=wa Y hsl
     exact wp (h:=wx hI2 (k+1) ⟨(ys++fW t s i k),wg,wn,wn,wj,(by rw [aL];have:(fW t s i k).length<=1:=(by unfold fW;split<;>simp);omega),(by rw [hy,j8,List.append_assoc])⟩)
  .have hyx:ys=kF t s (i+1):=by rw [hy,xE,<- hx,<- ho,(aD:k=o.length)]
   exact wp (h:=wx hI0 (i+1) ⟨ys,wg,wn,wn,wj,(by rw [hyx];have:=At hs (i+1) h3;omega),(by rw [hyx])⟩)
 .have hX:xs=kF t s s.mat.m.nodes.length:=by rw [hx,(aD:i=s.mat.m.nodes.length)]
  exact wv (h:=hQ _ _ (by simp [go_sem,Y,hX]))
end Go.Abs
end
