/- The step of the program: build. · The step of the program: w -/
import Derived.Test.YthalajhajpjjeaaGreatZfAF
import Derived.Test.YthalajhajpjjeaaGreatZfAA
import Derived.Test.YthalajhajpjjeaaGreatZfAS
set_option linter.unusedVariables false
set_option linter.unusedSimpArgs false
section
set_option maxRecDepth 100000
set_option maxHeartbeats 4000000
open Go Go.Proofs
namespace Go.Abs
theorem EZ (t:Types)(ht:t.ok)(k:Int):Own Tryz.prog 243 [t.d,dI k] 3 1 ((lV t k).map cI):=by
 have hal:=pR ht k
 refine Tz.oK ⟨λt=>t==9||t==16,λ_=>[]⟩ Tryz.func243 rfl (λQ hQ=>?_)
 have Y:=trivial
 refine wv (h:=aB (nS t ht k) wl ?_)
 refine wo (h:=bF (λi e H=>∃ xs:List Int,(e 2=.adr t.c/\e 17=.list ((bL t k).map Attr.c)/\e 18=dI (bL t k).length/\e 19=dI i/\e 7=.own 0 xs.length)/\(H.get 0=some ⟨3,1,xs.map cI,false⟩)/\(0<H.next)/\(i<=(bL t k).length)/\(xs=((bL t k).take i).map (λa=>a.low))) (λi=>(bL t k).length - i) 0 ⟨([]),wg,wn,wn,wi,(by rfl)⟩ λI0 hI0 i e H hi0=>?_)
 obtain ⟨xs,E0,g0_0,n0_0,hi,hx⟩:=hi0
 have Y:=wa Y (wa E0 (wa g0_0 (cD n0_0)))
 refine dP (λh4=>?_) λh4=>?_
 .have hxl:xs.length=i:=by rw [hx];simp;omega
  have Y:=wa Y (wa h4 (wa (aA h4) @Attr.c.eq_1))
  exact wo (h:=wx hI0 (i+1) ⟨(xs++[(bL t k)[i].low]),wg,wn,wn,wj,(by rw [kH _ h4,<- hx])⟩)
 .have hX:xs=lV t k:=by rw [hx,lK _ aD];rfl
  refine wv (h:=?_)
  exact hQ _ _ _ (by simp [go_sem,Y,hX,dLI]) (by simp [go_sem,Y,hX,dLI])
theorem HH.nodeRow {H H':AHeap}{lo a b V:Nat}{qs:List Nat}{x:Host}(h:HH H lo a b V qs x)(hn:H.next<=H'.next){q:Nat}{nd:Int}{v:List Int}(hlo:lo<=q)(hq:∀ j∈a :: b :: V :: qs,j≠q)(hq2:q<H'.next)
  (ga:H'.get a=some ⟨3,1,(x.graph.nodes++[nd]).map cI,false⟩) (gq:H'.get q=some ⟨3,1,v.map cI,false⟩) (gV:H'.get V=some ⟨26,1,kQ qs x.values++[[.own q v.length]],false⟩) (hf:∀ j∈b :: qs,H'.get j=H.get j) :
  HH H' lo a b V (qs++[q]) ⟨⟨x.graph.nodes++[nd],x.graph.edges⟩,x.values++[v]⟩ where
 ga:=ga
 gb:=(hf b bV).trans h.gb
 gV:=by rw [vM h.len];exact gV
 len:=by simp [h.len]
 gq i q' v' h1 h2:=by
  by_cases hi:i<qs.length
  .rw [aQ hi] at h1
   rw [aQ (by rw [<- h.len];exact hi)] at h2
   exact (hf q' (by simp [aK h1])).trans (h.gq i q' v' h1 h2)
  .have h1':=(aM.1 h1).1
   have:i=qs.length:=by simp at h1';omega
   subst this
   simp at h1
   rw [h.len] at h2;simp at h2
   subst h1 h2;exact gq
 nd:=by
  have:=h.nd
  have e:a :: b :: V :: (qs++[q])=(a :: b :: V :: qs)++[q]:=rfl
  rw [e,nA]
  exact ⟨this,by simp,λy hy z hz=>by rw [bK] at hz;subst hz;exact hq y hy⟩
 rng j hj:=by
  have e:a :: b :: V :: (qs++[q])=(a :: b :: V :: qs)++[q]:=rfl
  rw [e,aV,bK] at hj
  rcases hj with hj|rfl
  .exact ⟨(h.rng j hj).1,b8 (h.rng j hj).2 hn⟩
  .exact ⟨hlo,hq2⟩
def fG (r:Rule)(m:Mat)(h:Host)(A B C:D)(tr co:Part):List D:=[.str r.name,dLI r.left.graph.nodes,.list (r.left.graph.edges.map Edge.c),.list (r.left.slots.map Slot.c),dI r.left.vars,.list (r.left.tests.map Test.c),
 dLI r.right.graph.nodes,.list (r.right.graph.edges.map Edge.c),.list (r.right.slots.map Slot.c),dI r.right.vars,.list (r.right.tests.map Test.c),
 dLI r.keep.nodes,dLI r.keep.edges,dLI r.into.nodes,dLI r.into.edges,.bool r.inj,
 dI r.cond.kind,.list (r.cond.kids.map Cond.c),dLI r.cond.map.nodes,dLI r.cond.map.edges,dLI r.cond.pattern.graph.nodes,.list (r.cond.pattern.graph.edges.map Edge.c),.list (r.cond.pattern.slots.map Slot.c),dI r.cond.pattern.vars,.list (r.cond.pattern.tests.map Test.c),
 dLI m.m.nodes,dLI m.m.edges,dLI m.vars,dLI h.graph.nodes,.list (h.graph.edges.map Edge.c),.list (h.values.map cL),A,B,C,dLI tr.nodes,dLI tr.edges,dLI co.nodes,dLI co.edges]
def trE (h:Host)(tr:Part)(k:Int):Edge:=⟨(eA h.graph k).type,iA tr.nodes (eA h.graph k).from_,iA tr.nodes (eA h.graph k).to_⟩
def V0 (h:Host)(d:Part)(i:Nat):Host:=⟨⟨(d.nodes.take i).map (gN h.graph),[]⟩,(d.nodes.take i).map λk=>h.values[k.toNat]?.getD []⟩
def bdE (h:Host)(d tr:Part)(i:Nat):Host:=⟨⟨d.nodes.map (gN h.graph),(d.edges.take i).map (trE h tr)⟩,d.nodes.map λk=>h.values[k.toNat]?.getD []⟩
theorem Se (h:Host)(d tr:Part){i:Nat}(hi:d.nodes.length<=i):bdE h d tr 0=V0 h d i:=by unfold bdE V0;rw [aH hi];rfl
theorem Nu (t:Types)(ht:t.ok)(r:Rule)(hR:RuleV t r)(m:Mat)(h:Host)(ho:HostOk t h)(d tr co:Part)(hdn:∀ x∈d.nodes,0<=x/\x<h.graph.nodes.length)(hde:∀ x∈d.edges,0<=x/\x<h.graph.edges.length)
  (hdl:d.nodes.length<=40/\d.edges.length<=80) (htl:tr.nodes.length=h.graph.nodes.length) (hcl:co.nodes.length=r.right.graph.nodes.length/\co.edges.length=r.right.graph.edges.length)
  (hcn:∀ i,i<r.right.graph.nodes.length->(co.nodes[i]?.getD 0=((d.nodes.length+(bJ r.into.nodes i).length:Nat):Int)↔mem r.into.nodes i=false))
  (hce:∀ i,i<r.right.graph.edges.length->(co.edges[i]?.getD 0=((d.edges.length+(bJ r.into.edges i).length:Nat):Int)↔mem r.into.edges i=false))
  (s a b V:Nat) (G:AHeap) (hs:G.get s=some ⟨53,38,[fG r m h (.own a 0) (.own b 0) (.own V 0) tr co],false⟩) (hh0:HH G 0 a b V [] ⟨⟨[],[]⟩,[]⟩) (hsn:s<G.next) (hsd:s≠a/\s≠b/\s≠V) (hal0:∀ j,G.next<=j->¬ G.al j) (Q:D->AHeap->Prop)
  (hQ:∀ qs H',HH H' 0 a b V qs (jO t r co (bdE h d tr d.edges.length))->H'.get s=some ⟨53,38,[fG r m h (.own a (jO t r co (bdE h d tr d.edges.length)).graph.nodes.length) (.own b (jO t r co (bdE h d tr d.edges.length)).graph.edges.length) (.own V (jO t r co (bdE h d tr d.edges.length)).values.length) tr co],false⟩ ->
   (∀ j∈a :: b :: V :: qs,j≠s)->(∀ j∈qs,G.next<=j)->(∀ j,j<G.next->j∉[s,a,b,V]->H'.get j=G.get j)->G.next<=H'.next->Q (.tup []) H') :
  ACalls Tryz.prog 146 [t.d,.ptr s 1 0 0,d.d] G Q:=by
 have hga:=bR hR.gr
 have hgi:=eL hR.gr
 have hhg:=bR ho.gg
 have hhi:=eL ho.gg
 have hvl:=ho.vl
 have ha0:=hh0.rng a hh0.a_in
 have hb0:=hh0.rng b hh0.b_in
 have hV0:=hh0.rng V hh0.V_in
 have hab:=hh0.ab
 obtain ⟨hs1,hs2,hs3⟩:=hsd
 refine (aI (cfg:=⟨λt=>t==6||t==7||t==12||t==16||t==59||t==166||t==1000001,λr=>match r with|1=>[(1,10),(2,10),(3,10),(5,10),(6,10),(7,10),(8,10),(9,10),(1,11),(2,11),(3,11),(5,11),(6,11),(7,11),(8,11),(9,11),(10,11),(5,12),(6,12),(7,12),(8,12),(9,12)]|5=>[(2,13),(3,13),(4,13),(5,13),(6,13)]|6=>[(2,6),(3,6),(4,6),(5,6),(6,7),(6,8),(6,10),(6,11),(2,12),(3,12),(4,12),(5,12),(2,13),(3,13),(4,13),(5,13)]|12=>[(2,28),(3,28),(4,28),(5,28),(6,28)]|19=>[(2,8),(3,8),(4,8),(5,8),(2,9),(3,9),(4,9),(5,9)]|25=>[(2,28),(3,28),(4,28),(5,28),(6,28)]|_=>[]⟩) Tz.mixed Tryz.func146 rfl rfl (aF rfl) (by kernel_rfl) ?_)
 have di1:=And.intro (dH (aD:V≠b)) (And.intro (dH (aD:V≠a)) (And.intro (dH (aD:V≠s)) (And.intro (dH (aD:b≠a)) (And.intro (dH (aD:b≠s)) (dH (aD:a≠s))))))
 have fr2:=And.intro (cD (aD:s<G.next)) (And.intro (cD (aD:a<G.next)) (And.intro (cD (aD:b<G.next)) (cD (aD:V<G.next))))
 try simp [go_sem,seval,hs,fG,Part.d,Part.c,Host.c,Graph.c,di1,fr2]
 repeat first|intro _|refine ⟨eQ,?_⟩
 obtain ⟨I0,hI0⟩:∃ I0:Nat->dM->AHeap->Prop,∀ (i:Nat) (e:dM) (H:AHeap),I0 i e H↔(∃ X:Nat,∃ Y:Nat,∃ x:Host,∃ qs:List Nat,(e 1=.ptr s 1 0 0)/\(e 3=.adr t.c)/\(e 5=.adr d.c)/\(e 6=.ptr X 1 0 0)/\(e 7=.ptr Y 1 0 0)/\(e 28=dLI d.nodes)/\(e 29=dI d.nodes.length)/\(e 30=dI i)/\(H.get X=some ⟨44,3,[h.c],false⟩)/\(X<H.next)/\(H.get Y=some ⟨29,2,[r.right.graph.c],false⟩)/\(Y<H.next)/\(H.get s=some ⟨53,38,[fG r m h (.own a x.graph.nodes.length) (.own b x.graph.edges.length) (.own V x.values.length) tr co],false⟩)/\(s<H.next)/\(i<=d.nodes.length)/\(HH H 0 a b V qs x)/\(x=V0 h d i)/\(∀ j∈a :: b :: V :: qs,j≠s)/\(∀ j∈qs,G.next<=j)/\(∀ j,H.next<=j->¬ H.al j)/\(∀ j,j<G.next->j∉[s,a,b,V]->H.get j=G.get j)/\(G.next<=H.next)/\(G.next<=X/\X<Y)):=⟨λi e H=>_,λ_ _ _=>Iff.rfl⟩
 refine oS I0 (λi=>d.nodes.length - i) (0) ((hI0 _ _ _).2 ⟨(G.next+10),(G.next+11),(⟨⟨[],[]⟩,[]⟩),([]),?_,?_,?_,?_,?_,?_,?_,?_,?_,?_,?_,?_,?_,?_,(by first|assumption|omega|(simp [go_sem,hs,fG,Part.d,Part.c,Host.c,Graph.c,di1,fr2];done)|(simp_all;done)),(by exact hh0.same (by first|(simp [go_sem];done)|(simp [go_sem];omega)) (λj hj=>by have:=(hh0.rng j hj).2;simp [go_sem,cD this])),(by rfl),(by intro j hj;simp at hj;omega),(by intro j hj;cases hj),(by intro j hj;simp [go_sem,oZ,sD,Jg] at hj ⊢;exact ⟨aD,aD,hal0 j aD⟩),(by intro j hj hn;simp [go_sem,cD hj]),(by first|(simp [go_sem];done)|(simp [go_sem];omega)),aD⟩) ?_
 iterate 14 (first|omega|(simp [go_sem,seval,hs,fG,Part.d,Part.c,Host.c,Graph.c,di1,fr2]<;>omega))
 intro i e H hi0
 obtain ⟨X,Y,x,qs,q1_0,q3_0,q5_0,q6_0,q7_0,q28_0,q29_0,q30_0,gX_0,nX_0,gY_0,nY_0,gs_0,ns_0,hi,hh,hx,hsq,hq0,hal,hG,hnx,hXY⟩:=(hI0 _ _ _).1 hi0
 have xX:=cD nX_0
 have xY:=cD nY_0
 have xs:=cD ns_0
 have F0:=And.intro q1_0 (And.intro q3_0 (And.intro q5_0 (And.intro q6_0 (And.intro q7_0 (And.intro q28_0 (And.intro q29_0 (And.intro q30_0 (And.intro gX_0 (And.intro gY_0 (And.intro gs_0 (And.intro xX (And.intro xY xs))))))))))))
 have di3:=And.intro (dH (aD:Y≠X)) (And.intro (dH (aD:Y≠V)) (And.intro (dH (aD:Y≠b)) (And.intro (dH (aD:Y≠a)) (And.intro (dH (aD:Y≠s)) (And.intro (dH (aD:X≠V)) (And.intro (dH (aD:X≠b)) (And.intro (dH (aD:X≠a)) (And.intro (dH (aD:X≠s)) (And.intro (dH (aD:V≠b)) (And.intro (dH (aD:V≠a)) (And.intro (dH (aD:V≠s)) (And.intro (dH (aD:b≠a)) (And.intro (dH (aD:b≠s)) (dH (aD:a≠s)))))))))))))))
 try simp [go_sem,seval,hs,fG,Part.d,Part.c,Host.c,Graph.c,di1,fr2,F0,di3]
 refine aP (λh3=>?_) (λh3=>?_)
 .try simp [go_sem] at h3
  obtain ⟨k,hk⟩:∃ y,y=d.nodes[i]:=⟨_,rfl⟩
  have hkb:=hdn _ (aC h3)
  rw [<- hk] at hkb
  have hkn:k.toNat<h.graph.nodes.length:=aD
  have hkv:k.toNat<h.values.length:=aD
  obtain ⟨x2,hx2⟩:∃ y:Host,y=⟨⟨x.graph.nodes++[h.graph.nodes[k.toNat]],x.graph.edges⟩,x.values++[h.values[k.toNat]]⟩:=⟨_,rfl⟩
  have hx3:x2=V0 h d (i+1):=by rw [hx2,hx];unfold V0;rw [aE h3,<- hk];simp [gN,aA hkn,aA hkv]
  have hrow:(h.values[k.toNat]).length<=1000:=by
   have:=(ho.row _ (aC hkv)).1
   omega
  have hxl:x.graph.nodes.length=i/\x.graph.edges.length=0/\x.values.length=i:=by rw [hx];simp [V0];omega
  have hx2l:x2.graph.nodes.length=x.graph.nodes.length+1/\x2.graph.edges.length=x.graph.edges.length/\x2.values.length=x.values.length+1:=by rw [hx2];simp
  have hga1:=hh.ga
  have hgV1:=hh.gV
  have hrl:=jF hh.len
  have hqa:=hh.rng a hh.a_in
  have hqV:=hh.rng V hh.V_in
  have hqb:=hh.rng b hh.b_in
  have hWq:∀ j∈a :: b :: V :: qs,j≠H.next+20+6:=λj hj=>by have:=(hh.rng j hj).2;omega
  have hfrm:∀ j∈b :: qs,j≠a/\j≠s/\j≠V/\j<H.next:=λj hj=>by
   rcases aU.1 hj with rfl|hj
   .exact ⟨aD,aD,aD,hqb.2⟩
   .exact ⟨(hh.qn hj).1,hsq j (hh.q_in hj),(hh.qn hj).2.2,(hh.rng j (hh.q_in hj)).2⟩
  have hsq2:∀ j∈a :: b :: V :: (qs++[H.next+20+6]),j≠s:=λj hj=>by
   have e:a :: b :: V :: (qs++[H.next+20+6])=(a :: b :: V :: qs)++[H.next+20+6]:=rfl
   rw [e,aV,bK] at hj
   rcases hj with hj|rfl
   .exact hsq j hj
   .omega
  have hq02:∀ j∈qs++[H.next+20+6],G.next<=j:=λj hj=>by
   rw [aV,bK] at hj
   rcases hj with hj|rfl
   .exact hq0 j hj
   .omega
  have fr4:=And.intro (cD (aD:s<H.next)) (And.intro (cD (aD:a<H.next)) (And.intro (cD (aD:b<H.next)) (cD (aD:V<H.next))))
  try simp [go_sem,seval,hs,fG,Part.d,Part.c,Host.c,Graph.c,di1,fr2,F0,di3,h3,aA h3,<- hk,aA hkn,aA hkv,hga1,hgV1,hrl,hx2l,cL,fr4]
  repeat first|intro _|refine ⟨eQ,?_⟩
  refine eB (i+1) aD ((hI0 _ _ _).2 ⟨(X),(Y),(x2),(qs++[H.next+20+6]),?_,?_,?_,?_,?_,?_,?_,?_,?_,?_,?_,?_,?_,?_,(by first|assumption|omega|(simp [go_sem,hs,fG,Part.d,Part.c,Host.c,Graph.c,di1,fr2,F0,di3,h3,aA h3,<- hk,aA hkn,aA hkv,hga1,hgV1,hrl,hx2l,cL,fr4];done)|(simp_all<;>omega)),(by rw [hx2];exact hh.nodeRow (by first|(simp [go_sem];done)|(simp [go_sem];omega)) (dY _) hWq (by first|(simp [go_sem];done)|(simp [go_sem];omega)) (by simp [go_sem,hs,fG,Part.d,Part.c,Host.c,Graph.c,di1,fr2,F0,di3,h3,aA h3,<- hk,aA hkn,aA hkv,hga1,hgV1,hrl,hx2l,cL,fr4,cI]) (by simp [go_sem,hs,fG,Part.d,Part.c,Host.c,Graph.c,di1,fr2,F0,di3,h3,aA h3,<- hk,aA hkn,aA hkv,hga1,hgV1,hrl,hx2l,cL,fr4]) (by simp [go_sem,hs,fG,Part.d,Part.c,Host.c,Graph.c,di1,fr2,F0,di3,h3,aA h3,<- hk,aA hkn,aA hkv,hga1,hgV1,hrl,hx2l,cL,fr4]) (λj hj=>by obtain ⟨k1,k2,k3,k4⟩:=hfrm j hj;simp [go_sem,k1,k2,k3,cD k4])),(by exact hx3),(by exact hsq2),(by exact hq02),(by intro j hj;simp [go_sem,oZ,sD] at hj ⊢;exact ⟨aD,hal j aD⟩),(by intro j hj hn;simp only [aU,fU,or_false,not_or] at hn;simp [go_sem,hn,cD (aD:j<H.next)];exact hG j hj (by simp [hn])),(by first|(simp [go_sem];done)|(simp [go_sem];omega)),(by exact hXY)⟩)<;>first|omega|(simp [go_sem,seval,hs,fG,Part.d,Part.c,Host.c,Graph.c,di1,fr2,F0,di3,h3,aA h3,<- hk,aA hkn,aA hkv,hga1,hgV1,hrl,hx2l,cL,fr4]<;>omega)
 .try simp [go_sem] at h3
  have hx4:x=bdE h d tr 0:=by rw [hx,Se _ _ _ aD]
  have fr5:=And.intro (cD (aD:s<H.next)) (And.intro (cD (aD:a<H.next)) (And.intro (cD (aD:b<H.next)) (cD (aD:V<H.next))))
  try simp [go_sem,seval,hs,fG,Part.d,Part.c,Host.c,Graph.c,di1,fr2,F0,di3,fr5]
  repeat first|intro _|refine ⟨eQ,?_⟩
  obtain ⟨I2,hI2⟩:∃ I2:Nat->dM->AHeap->Prop,∀ (i:Nat) (e:dM) (H:AHeap),I2 i e H↔(∃ x:Host,(e 1=.ptr s 1 0 0)/\(e 3=.adr t.c)/\(e 5=.adr d.c)/\(e 6=.ptr X 1 0 0)/\(e 7=.ptr Y 1 0 0)/\(e 73=dLI d.edges)/\(e 74=dI d.edges.length)/\(e 75=dI i)/\(H.get X=some ⟨44,3,[h.c],false⟩)/\(X<H.next)/\(H.get Y=some ⟨29,2,[r.right.graph.c],false⟩)/\(Y<H.next)/\(H.get s=some ⟨53,38,[fG r m h (.own a x.graph.nodes.length) (.own b x.graph.edges.length) (.own V x.values.length) tr co],false⟩)/\(s<H.next)/\(i<=d.edges.length)/\(HH H 0 a b V qs x)/\(x=bdE h d tr i)/\(∀ j,H.next<=j->¬ H.al j)/\(∀ j,j<G.next->j∉[s,a,b,V]->H.get j=G.get j)/\(G.next<=H.next)):=⟨λi e H=>_,λ_ _ _=>Iff.rfl⟩
  refine oS I2 (λi=>d.edges.length - i) (0) ((hI2 _ _ _).2 ⟨(x),?_,?_,?_,?_,?_,?_,?_,?_,?_,?_,?_,?_,?_,?_,(by first|assumption|omega|(simp [go_sem,hs,fG,Part.d,Part.c,Host.c,Graph.c,di1,fr2,F0,di3,fr5];done)|(simp_all;done)),(by exact hh),(by exact hx4),(by exact hal),(by exact hG),(by exact hnx)⟩) ?_
  iterate 14 (first|omega|(simp [go_sem,seval,hs,fG,Part.d,Part.c,Host.c,Graph.c,di1,fr2,F0,di3,fr5]<;>omega))
  intro i e H hi2
  obtain ⟨x,q1_2,q3_2,q5_2,q6_2,q7_2,q73_2,q74_2,q75_2,gX_2,nX_2,gY_2,nY_2,gs_2,ns_2,hi,hh,hx,hal,hG,hnx⟩:=(hI2 _ _ _).1 hi2
  have xX:=cD nX_2
  have xY:=cD nY_2
  have xs:=cD ns_2
  have F2:=And.intro q1_2 (And.intro q3_2 (And.intro q5_2 (And.intro q6_2 (And.intro q7_2 (And.intro q73_2 (And.intro q74_2 (And.intro q75_2 (And.intro gX_2 (And.intro gY_2 (And.intro gs_2 (And.intro xX (And.intro xY xs))))))))))))
  have di6:=And.intro (dH (aD:Y≠X)) (And.intro (dH (aD:Y≠V)) (And.intro (dH (aD:Y≠b)) (And.intro (dH (aD:Y≠a)) (And.intro (dH (aD:Y≠s)) (And.intro (dH (aD:X≠V)) (And.intro (dH (aD:X≠b)) (And.intro (dH (aD:X≠a)) (And.intro (dH (aD:X≠s)) (And.intro (dH (aD:V≠b)) (And.intro (dH (aD:V≠a)) (And.intro (dH (aD:V≠s)) (And.intro (dH (aD:b≠a)) (And.intro (dH (aD:b≠s)) (dH (aD:a≠s)))))))))))))))
  try simp [go_sem,seval,hs,fG,Part.d,Part.c,Host.c,Graph.c,di1,fr2,di3,fr5,F2,di6]
  refine aP (λh9=>?_) (λh9=>?_)
  .try simp [go_sem] at h9
   obtain ⟨k,hk⟩:∃ y,y=d.edges[i]:=⟨_,rfl⟩
   have hkb:=hde _ (aC h9)
   rw [<- hk] at hkb
   have hkn:k.toNat<h.graph.edges.length:=aD
   obtain ⟨y,hy⟩:=cF (h.graph.edges[k.toNat])
   have hyi:=(hhi.2 _ (aC hkn)).2
   rw [<- hy] at hyi
   have hyf:y.from_.toNat<tr.nodes.length:=aD
   have hyt:y.to_.toNat<tr.nodes.length:=aD
   have hyA:eA h.graph k=y:=by rw [hy];simp [eA,aA hkn]
   have htE:trE h tr k=⟨y.type,tr.nodes[y.from_.toNat],tr.nodes[y.to_.toNat]⟩:=by unfold trE;rw [hyA];simp [iA,aA hyf,aA hyt]
   obtain ⟨x2,hx2⟩:∃ z:Host,z=⟨⟨x.graph.nodes,x.graph.edges++[trE h tr k]⟩,x.values⟩:=⟨_,rfl⟩
   have hx3:x2=bdE h d tr (i+1):=by rw [hx2,hx];unfold bdE;rw [aE h9,<- hk];simp
   have hxl:x.graph.edges.length=i:=by rw [hx];simp [bdE];omega
   have hx2l:x2.graph.nodes.length=x.graph.nodes.length/\x2.graph.edges.length=x.graph.edges.length+1/\x2.values.length=x.values.length:=by rw [hx2];simp
   have hgb1:=hh.gb
   have hqa:=hh.rng a hh.a_in
   have hqV:=hh.rng V hh.V_in
   have hqb:=hh.rng b hh.b_in
   have hfrm:∀ j∈a :: V :: qs,j≠b/\j≠s/\j<H.next:=λj hj=>by
    have hj':j∈a :: b :: V :: qs:=by simp only [aU] at hj ⊢;rcases hj with h|h|h<;>simp [h]
    refine ⟨?_,hsq j hj',(hh.rng j hj').2⟩
    rintro rfl
    have:=hh.nd;simp only [gY,aU,not_or] at this
    simp only [aU] at hj
    rcases hj with h|h|h
    .exact this.1.1 h.symm
    .exact this.2.1.1 h
    .exact this.2.1.2 h
   have fr7:=And.intro (cD (aD:s<H.next)) (And.intro (cD (aD:a<H.next)) (And.intro (cD (aD:b<H.next)) (cD (aD:V<H.next))))
   try simp [go_sem,seval,hs,fG,Part.d,Part.c,Host.c,Graph.c,di1,fr2,di3,fr5,F2,di6,h9,aA h9,<- hk,aA hkn,<- hy,aA hyf,aA hyt,hgb1,hx2l,Edge.c,fr7]
   repeat first|intro _|refine ⟨eQ,?_⟩
   refine eB (i+1) aD ((hI2 _ _ _).2 ⟨(x2),?_,?_,?_,?_,?_,?_,?_,?_,?_,?_,?_,?_,?_,?_,(by first|assumption|omega|(simp [go_sem,hs,fG,Part.d,Part.c,Host.c,Graph.c,di1,fr2,di3,fr5,F2,di6,h9,aA h9,<- hk,aA hkn,<- hy,aA hyf,aA hyt,hgb1,hx2l,Edge.c,fr7,h3];done)|(simp_all<;>omega)),(by rw [hx2];exact hh.edges (by first|(simp [go_sem];done)|(simp [go_sem];omega)) (by simp [go_sem,hs,fG,Part.d,Part.c,Host.c,Graph.c,di1,fr2,di3,fr5,F2,di6,h9,aA h9,<- hk,aA hkn,<- hy,aA hyf,aA hyt,hgb1,hx2l,Edge.c,fr7,htE,Edge.c]) (λj hj=>by obtain ⟨k1,k2,k3⟩:=hfrm j hj;simp [go_sem,k1,k2,cD k3])),(by exact hx3),(by intro j hj;simp [go_sem,oZ,sD] at hj ⊢;first|exact ⟨aD,hal j aD⟩|exact hal j aD|exact ⟨aD,aD,hal j aD⟩),(by intro j hj hn;simp only [aU,fU,or_false,not_or] at hn;simp [go_sem,hn,cD (aD:j<H.next)];exact hG j hj (by simp [hn])),(by first|(simp [go_sem];done)|(simp [go_sem];omega))⟩)<;>first|omega|(simp [go_sem,seval,hs,fG,Part.d,Part.c,Host.c,Graph.c,di1,fr2,di3,fr5,F2,di6,h9,aA h9,<- hk,aA hkn,<- hy,aA hyf,aA hyt,hgb1,hx2l,Edge.c,fr7]<;>omega)
  .try simp [go_sem] at h9
   have hx5:x=EH t r (bdE h d tr d.edges.length) 0:=by rw [hx,(aD:i=d.edges.length)];simp [EH,bJ]
   have fr8:=And.intro (cD (aD:s<H.next)) (And.intro (cD (aD:a<H.next)) (And.intro (cD (aD:b<H.next)) (cD (aD:V<H.next))))
   try simp [go_sem,seval,hs,fG,Part.d,Part.c,Host.c,Graph.c,di1,fr2,di3,fr5,F2,di6,fr8]
   repeat first|intro _|refine ⟨eQ,?_⟩
   obtain ⟨I4,hI4⟩:∃ I4:Nat->dM->AHeap->Prop,∀ (i:Nat) (e:dM) (H:AHeap),I4 i e H↔(∃ x:Host,∃ qs:List Nat,(e 1=.ptr s 1 0 0)/\(e 3=.adr t.c)/\(e 5=.adr d.c)/\(e 7=.ptr Y 1 0 0)/\(e 121=dLI r.right.graph.nodes)/\(e 122=dI r.right.graph.nodes.length)/\(e 123=dI i)/\(H.get Y=some ⟨29,2,[r.right.graph.c],false⟩)/\(Y<H.next)/\(H.get s=some ⟨53,38,[fG r m h (.own a x.graph.nodes.length) (.own b x.graph.edges.length) (.own V x.values.length) tr co],false⟩)/\(s<H.next)/\(i<=r.right.graph.nodes.length)/\(HH H 0 a b V qs x)/\(x=EH t r (bdE h d tr d.edges.length) i)/\(∀ j∈a :: b :: V :: qs,j≠s)/\(∀ j∈qs,G.next<=j)/\(∀ j,H.next<=j->¬ H.al j)/\(∀ j,j<G.next->j∉[s,a,b,V]->H.get j=G.get j)/\(G.next<=H.next)):=⟨λi e H=>_,λ_ _ _=>Iff.rfl⟩
   refine oS I4 (λi=>r.right.graph.nodes.length - i) (0) ((hI4 _ _ _).2 ⟨(x),(qs),?_,?_,?_,?_,?_,?_,?_,?_,?_,?_,?_,(by first|assumption|omega|(simp [go_sem,hs,fG,Part.d,Part.c,Host.c,Graph.c,di1,fr2,di3,fr5,F2,di6,fr8];done)|(simp_all;done)),(by exact hh),(by exact hx5),(by exact hsq),(by exact hq0),(by exact hal),(by exact hG),(by exact hnx)⟩) ?_
   iterate 11 (first|omega|(simp [go_sem,seval,hs,fG,Part.d,Part.c,Host.c,Graph.c,di1,fr2,di3,fr5,F2,di6,fr8]<;>omega))
   intro i e H hi4
   obtain ⟨x,qs,q1_4,q3_4,q5_4,q7_4,q121_4,q122_4,q123_4,gY_4,nY_4,gs_4,ns_4,hi,hh,hx,hsq,hq0,hal,hG,hnx⟩:=(hI4 _ _ _).1 hi4
   have xY:=cD nY_4
   have xs:=cD ns_4
   have F4:=And.intro q1_4 (And.intro q3_4 (And.intro q5_4 (And.intro q7_4 (And.intro q121_4 (And.intro q122_4 (And.intro q123_4 (And.intro gY_4 (And.intro gs_4 (And.intro xY xs)))))))))
   have di9:=And.intro (dH (aD:Y≠V)) (And.intro (dH (aD:Y≠b)) (And.intro (dH (aD:Y≠a)) (And.intro (dH (aD:Y≠s)) (And.intro (dH (aD:V≠b)) (And.intro (dH (aD:V≠a)) (And.intro (dH (aD:V≠s)) (And.intro (dH (aD:b≠a)) (And.intro (dH (aD:b≠s)) (dH (aD:a≠s))))))))))
   try simp [go_sem,seval,hs,fG,Part.d,Part.c,Host.c,Graph.c,di1,fr2,di3,fr5,di6,fr8,F4,di9]
   refine aP (λh15=>?_) (λh15=>?_)
   .try simp [go_sem] at h15
    have hsu:=oP r.into.nodes i
    obtain ⟨nd,hnd⟩:∃ y,y=r.right.graph.nodes[i]:=⟨_,rfl⟩
    have hgn:gN r.right.graph (i:Int)=nd:=by rw [hnd];simp [gN,aA h15]
    have hoL:=lG r.into.nodes i
    have hcb:i<co.nodes.length:=aD
    have hcc:=hcn i h15
    rw [aA hcb,Option.getD_some] at hcc
    have hxl:x.graph.nodes.length=d.nodes.length+(bJ r.into.nodes i).length/\x.values.length=x.graph.nodes.length/\x.graph.edges.length<=100:=by rw [hx];simp [EH,bdE];omega
    have hga1:=hh.ga
    have hgV1:=hh.gV
    have hrl:=jF hh.len
    have hqa:=hh.rng a hh.a_in
    have hqV:=hh.rng V hh.V_in
    have hqb:=hh.rng b hh.b_in
    have fr10:=And.intro (cD (aD:s<H.next)) (And.intro (cD (aD:a<H.next)) (And.intro (cD (aD:b<H.next)) (cD (aD:V<H.next))))
    try simp [go_sem,seval,hs,fG,Part.d,Part.c,Host.c,Graph.c,di1,fr2,di3,fr5,di6,fr8,F4,di9,h15,aA h15,<- hnd,aA hcb,hga1,hgV1,hrl,fr10]
    repeat first|intro _|refine ⟨eQ,?_⟩
    refine aP (λh17=>?_) (λh17=>?_)
    .try simp [go_sem] at h17
     have hm:mem r.into.nodes i=false:=hcc.1 (by simpa [hxl.1] using h17)
     rw [if_neg (by rw [hm];simp)] at hsu
     have hlv:(lV t nd).length<=8:=by unfold lV;rw [aW];exact pS hR.vf nd
     obtain ⟨x2,hx2⟩:∃ y:Host,y=⟨⟨x.graph.nodes++[nd],x.graph.edges⟩,x.values++[lV t nd]⟩:=⟨_,rfl⟩
     obtain ⟨qs2,hqs2⟩:∃ y,y=qs++[H.next]:=⟨_,rfl⟩
     have hx3:x2=EH t r (bdE h d tr d.edges.length) (i+1):=by rw [hx2,hx];unfold EH;rw [hsu];simp [hgn]
     have hx2l:x2.graph.nodes.length=x.graph.nodes.length+1/\x2.graph.edges.length=x.graph.edges.length/\x2.values.length=x.values.length+1:=by rw [hx2];simp
     have hWq:∀ j∈a :: b :: V :: qs,j≠H.next:=λj hj=>by have:=(hh.rng j hj).2;omega
     have hfrm:∀ j∈b :: qs,j≠a/\j≠s/\j≠V/\j<H.next:=λj hj=>by
      rcases aU.1 hj with rfl|hj
      .exact ⟨aD,aD,aD,hqb.2⟩
      .exact ⟨(hh.qn hj).1,hsq j (hh.q_in hj),(hh.qn hj).2.2,(hh.rng j (hh.q_in hj)).2⟩
     have hsq2:∀ j∈a :: b :: V :: qs2,j≠s:=λj hj=>by
      have e:a :: b :: V :: qs2=(a :: b :: V :: qs)++[H.next]:=by rw [hqs2];rfl
      rw [e,aV,bK] at hj
      rcases hj with hj|rfl
      .exact hsq j hj
      .omega
     have hq02:∀ j∈qs2,G.next<=j:=λj hj=>by
      rw [hqs2,aV,bK] at hj
      rcases hj with hj|rfl
      .exact hq0 j hj
      .omega
     try simp [go_sem,seval,hs,fG,Part.d,Part.c,Host.c,Graph.c,di1,fr2,di3,fr5,di6,fr8,F4,di9,h15,aA h15,<- hnd,aA hcb,hga1,hgV1,hrl,fr10,hx2l]
     repeat first|intro _|refine ⟨eQ,?_⟩
     refine DP H.next (EZ t ht nd) (by first|rfl|(simp [go_sem];done)) rfl (by first|omega|(simp [go_sem];done)|(first|(simp [go_sem];done)|(simp [go_sem];omega))) (by simp [oZ,sD];exact hal _ aD) (by first|trivial|(simp [go_sem];done)|(simp [go_sem,G4];done)|(simp [go_sem,G4];omega)) ?_
     try simp [go_sem,seval,hs,fG,Part.d,Part.c,Host.c,Graph.c,di1,fr2,di3,fr5,di6,fr8,F4,di9,h15,aA h15,<- hnd,aA hcb,hga1,hgV1,hrl,fr10,hx2l]
     repeat first|intro _|refine ⟨eQ,?_⟩
     refine eB (i+1) aD ((hI4 _ _ _).2 ⟨(x2),(qs2),?_,?_,?_,?_,?_,?_,?_,?_,?_,?_,?_,(by first|assumption|omega|(simp [go_sem,hs,fG,Part.d,Part.c,Host.c,Graph.c,di1,fr2,di3,fr5,di6,fr8,F4,di9,h15,aA h15,<- hnd,aA hcb,hga1,hgV1,hrl,fr10,hx2l,h3,h9,h17];done)|(simp_all<;>omega)),(by first|exact hh2|exact hh2.same (by first|(simp [go_sem];done)|(simp [go_sem];omega)) (λ_ _=>rfl)|exact hh2.same (by first|(simp [go_sem];done)|(simp [go_sem];omega)) (λj hj=>by have:=(hh2.rng j hj).2;simp [go_sem,cD this])|(rw [hx2,hqs2];exact hh.nodeRow (by first|(simp [go_sem];done)|(simp [go_sem];omega)) (dY _) hWq (by first|(simp [go_sem];done)|(simp [go_sem];omega)) (by simp [go_sem,hs,fG,Part.d,Part.c,Host.c,Graph.c,di1,fr2,di3,fr5,di6,fr8,F4,di9,h15,aA h15,<- hnd,aA hcb,hga1,hgV1,hrl,fr10,hx2l,cI]) (by simp [go_sem,hs,fG,Part.d,Part.c,Host.c,Graph.c,di1,fr2,di3,fr5,di6,fr8,F4,di9,h15,aA h15,<- hnd,aA hcb,hga1,hgV1,hrl,fr10,hx2l]) (by simp [go_sem,hs,fG,Part.d,Part.c,Host.c,Graph.c,di1,fr2,di3,fr5,di6,fr8,F4,di9,h15,aA h15,<- hnd,aA hcb,hga1,hgV1,hrl,fr10,hx2l]) (λj hj=>by obtain ⟨k1,k2,k3,k4⟩:=hfrm j hj;simp [go_sem,k1,k2,k3,cD k4]))),(by exact hx3),(by exact hsq2),(by exact hq02),(by intro j hj;simp [go_sem,oZ,sD] at hj ⊢;first|exact ⟨aD,hal j aD⟩|exact hal j aD),(by first|exact hG2|(intro j hj hn;simp only [aU,fU,or_false,not_or] at hn;simp [go_sem,hn,cD (aD:j<H.next)];exact hG j hj (by simp [hn]))),(by first|(simp [go_sem];done)|(simp [go_sem];omega))⟩)<;>first|omega|(simp [go_sem,seval,hs,fG,Part.d,Part.c,Host.c,Graph.c,di1,fr2,di3,fr5,di6,fr8,F4,di9,h15,aA h15,<- hnd,aA hcb,hga1,hgV1,hrl,fr10,hx2l]<;>omega)
    .try simp [go_sem] at h17
     have hm:mem r.into.nodes i=true:=by
      cases hmm:mem r.into.nodes i with
      | true=>rfl
      | false=>exact absurd (by simpa [hxl.1] using hcc.2 hmm) h17
     rw [if_pos hm,dG] at hsu
     obtain ⟨x2,hx2⟩:∃ y,y=x:=⟨_,rfl⟩
     obtain ⟨qs2,hqs2⟩:∃ y,y=qs:=⟨_,rfl⟩
     have hx3:x2=EH t r (bdE h d tr d.edges.length) (i+1):=by rw [hx2,hx];unfold EH;rw [hsu]
     have hh2:HH H 0 a b V qs2 x2:=by rw [hx2,hqs2];exact hh
     have hsq2:∀ j∈a :: b :: V :: qs2,j≠s:=by rw [hqs2];exact hsq
     have hq02:∀ j∈qs2,G.next<=j:=by rw [hqs2];exact hq0
     have hG2:=hG
     try simp [go_sem,seval,hs,fG,Part.d,Part.c,Host.c,Graph.c,di1,fr2,di3,fr5,di6,fr8,F4,di9,h15,aA h15,<- hnd,aA hcb,hga1,hgV1,hrl,fr10,hx2]
     repeat first|intro _|refine ⟨eQ,?_⟩
     refine eB (i+1) aD ((hI4 _ _ _).2 ⟨(x2),(qs2),?_,?_,?_,?_,?_,?_,?_,?_,?_,?_,?_,(by first|assumption|omega|(simp [go_sem,hs,fG,Part.d,Part.c,Host.c,Graph.c,di1,fr2,di3,fr5,di6,fr8,F4,di9,h15,aA h15,<- hnd,aA hcb,hga1,hgV1,hrl,fr10,hx2,h3,h9,h17];done)|(simp_all<;>omega)),(by first|exact hh2|exact hh2.same (by first|(simp [go_sem];done)|(simp [go_sem];omega)) (λ_ _=>rfl)|exact hh2.same (by first|(simp [go_sem];done)|(simp [go_sem];omega)) (λj hj=>by have:=(hh2.rng j hj).2;simp [go_sem,cD this])|(rw [hx2,hqs2];exact hh.nodeRow (by first|(simp [go_sem];done)|(simp [go_sem];omega)) (dY _) hWq (by first|(simp [go_sem];done)|(simp [go_sem];omega)) (by simp [go_sem,hs,fG,Part.d,Part.c,Host.c,Graph.c,di1,fr2,di3,fr5,di6,fr8,F4,di9,h15,aA h15,<- hnd,aA hcb,hga1,hgV1,hrl,fr10,hx2,cI]) (by simp [go_sem,hs,fG,Part.d,Part.c,Host.c,Graph.c,di1,fr2,di3,fr5,di6,fr8,F4,di9,h15,aA h15,<- hnd,aA hcb,hga1,hgV1,hrl,fr10,hx2]) (by simp [go_sem,hs,fG,Part.d,Part.c,Host.c,Graph.c,di1,fr2,di3,fr5,di6,fr8,F4,di9,h15,aA h15,<- hnd,aA hcb,hga1,hgV1,hrl,fr10,hx2]) (λj hj=>by obtain ⟨k1,k2,k3,k4⟩:=hfrm j hj;simp [go_sem,k1,k2,k3,cD k4]))),(by exact hx3),(by exact hsq2),(by exact hq02),(by intro j hj;simp [go_sem,oZ,sD] at hj ⊢;first|exact ⟨aD,hal j aD⟩|exact hal j aD),(by first|exact hG2|(intro j hj hn;simp only [aU,fU,or_false,not_or] at hn;simp [go_sem,hn,cD (aD:j<H.next)];exact hG j hj (by simp [hn]))),(by first|(simp [go_sem];done)|(simp [go_sem];omega))⟩)<;>first|omega|(simp [go_sem,seval,hs,fG,Part.d,Part.c,Host.c,Graph.c,di1,fr2,di3,fr5,di6,fr8,F4,di9,h15,aA h15,<- hnd,aA hcb,hga1,hgV1,hrl,fr10,hx2]<;>omega)
   .try simp [go_sem] at h15
    have hie:i=r.right.graph.nodes.length:=aD
    have hx6:x=Oj t r co (EH t r (bdE h d tr d.edges.length) r.right.graph.nodes.length) 0:=by rw [hx,hie];simp [Oj,bJ]
    have fr11:=And.intro (cD (aD:s<H.next)) (And.intro (cD (aD:a<H.next)) (And.intro (cD (aD:b<H.next)) (cD (aD:V<H.next))))
    try simp [go_sem,seval,hs,fG,Part.d,Part.c,Host.c,Graph.c,di1,fr2,di3,fr5,di6,fr8,F4,di9,fr11]
    repeat first|intro _|refine ⟨eQ,?_⟩
    obtain ⟨I6,hI6⟩:∃ I6:Nat->dM->AHeap->Prop,∀ (i:Nat) (e:dM) (H:AHeap),I6 i e H↔(∃ x:Host,(e 1=.ptr s 1 0 0)/\(e 3=.adr t.c)/\(e 5=.adr d.c)/\(e 174=.list (r.right.graph.edges.map Edge.c))/\(e 175=dI r.right.graph.edges.length)/\(e 176=dI i)/\(H.get s=some ⟨53,38,[fG r m h (.own a x.graph.nodes.length) (.own b x.graph.edges.length) (.own V x.values.length) tr co],false⟩)/\(s<H.next)/\(i<=r.right.graph.edges.length)/\(HH H 0 a b V qs x)/\(x=Oj t r co (EH t r (bdE h d tr d.edges.length) r.right.graph.nodes.length) i)/\(∀ j,j<G.next->j∉[s,a,b,V]->H.get j=G.get j)/\(G.next<=H.next)):=⟨λi e H=>_,λ_ _ _=>Iff.rfl⟩
    refine oS I6 (λi=>r.right.graph.edges.length - i) (0) ((hI6 _ _ _).2 ⟨(x),?_,?_,?_,?_,?_,?_,?_,?_,(by first|assumption|omega|(simp [go_sem,hs,fG,Part.d,Part.c,Host.c,Graph.c,di1,fr2,di3,fr5,di6,fr8,F4,di9,fr11];done)|(simp_all;done)),(by exact hh),(by exact hx6),(by exact hG),(by exact hnx)⟩) ?_
    iterate 8 (first|omega|(simp [go_sem,seval,hs,fG,Part.d,Part.c,Host.c,Graph.c,di1,fr2,di3,fr5,di6,fr8,F4,di9,fr11]<;>omega))
    intro i e H hi6
    obtain ⟨x,q1_6,q3_6,q5_6,q174_6,q175_6,q176_6,gs_6,ns_6,hi,hh,hx,hG,hnx⟩:=(hI6 _ _ _).1 hi6
    have xs:=cD ns_6
    have F6:=And.intro q1_6 (And.intro q3_6 (And.intro q5_6 (And.intro q174_6 (And.intro q175_6 (And.intro q176_6 (And.intro gs_6 xs))))))
    have di12:=And.intro (dH (aD:V≠b)) (And.intro (dH (aD:V≠a)) (And.intro (dH (aD:V≠s)) (And.intro (dH (aD:b≠a)) (And.intro (dH (aD:b≠s)) (dH (aD:a≠s))))))
    try simp [go_sem,seval,hs,fG,Part.d,Part.c,Host.c,Graph.c,di1,fr2,di3,fr5,di6,fr8,di9,fr11,F6,di12]
    refine aP (λh22=>?_) (λh22=>?_)
    .try simp [go_sem] at h22
     have hsu:=oP r.into.edges i
     obtain ⟨y,hy⟩:=cF (r.right.graph.edges[i])
     have hye2:r.right.graph.edges[i]?.getD cC=y:=by rw [hy,aA h22];rfl
     have hyi:=(hgi.2 _ (aC h22)).2
     rw [<- hy] at hyi
     have hyf:y.from_.toNat<co.nodes.length:=aD
     have hyt:y.to_.toNat<co.nodes.length:=aD
     have hoE:=lG r.into.edges i
     have hcb:i<co.edges.length:=aD
     have hcc:=hce i h22
     rw [aA hcb,Option.getD_some] at hcc
     have hxl:x.graph.edges.length=d.edges.length+(bJ r.into.edges i).length:=by rw [hx];simp [Oj,EH,bdE]
     have hgb1:=hh.gb
     have hqb:=hh.rng b hh.b_in
     have hqa:=hh.rng a hh.a_in
     have hqV:=hh.rng V hh.V_in
     have fr13:=And.intro (cD (aD:s<H.next)) (And.intro (cD (aD:a<H.next)) (And.intro (cD (aD:b<H.next)) (cD (aD:V<H.next))))
     try simp [go_sem,seval,hs,fG,Part.d,Part.c,Host.c,Graph.c,di1,fr2,di3,fr5,di6,fr8,di9,fr11,F6,di12,h22,aA h22,<- hy,aA hyf,aA hyt,aA hcb,hgb1,Edge.c,fr13]
     repeat first|intro _|refine ⟨eQ,?_⟩
     refine aP (λh24=>?_) (λh24=>?_)
     .try simp [go_sem] at h24
      have hm:mem r.into.edges i=false:=hcc.1 (by simpa [hxl] using h24)
      rw [if_neg (by rw [hm];simp)] at hsu
      have hfr:freshE co y=⟨y.type,co.nodes[y.from_.toNat],co.nodes[y.to_.toNat]⟩:=by unfold freshE;rw [aA hyf,aA hyt];rfl
      obtain ⟨x2,hx2⟩:∃ z:Host,z=⟨⟨x.graph.nodes,x.graph.edges++[freshE co y]⟩,x.values⟩:=⟨_,rfl⟩
      have hx3:x2=Oj t r co (EH t r (bdE h d tr d.edges.length) r.right.graph.nodes.length) (i+1):=by rw [hx2,hx];unfold Oj;rw [hsu];simp [hye2]
      have hx2l:x2.graph.nodes.length=x.graph.nodes.length/\x2.graph.edges.length=x.graph.edges.length+1/\x2.values.length=x.values.length:=by rw [hx2];simp
      have hfrm:∀ j∈a :: V :: qs,j≠b/\j≠s/\j<H.next:=λj hj=>by
       have hj':j∈a :: b :: V :: qs:=by simp only [aU] at hj ⊢;rcases hj with h|h|h<;>simp [h]
       refine ⟨?_,hsq j hj',(hh.rng j hj').2⟩
       rintro rfl
       have:=hh.nd;simp only [gY,aU,not_or] at this
       simp only [aU] at hj
       rcases hj with h|h|h
       .exact this.1.1 h.symm
       .exact this.2.1.1 h
       .exact this.2.1.2 h
      try simp [go_sem,seval,hs,fG,Part.d,Part.c,Host.c,Graph.c,di1,fr2,di3,fr5,di6,fr8,di9,fr11,F6,di12,h22,aA h22,<- hy,aA hyf,aA hyt,aA hcb,hgb1,Edge.c,fr13,hx2l]
      repeat first|intro _|refine ⟨eQ,?_⟩
      refine eB (i+1) aD ((hI6 _ _ _).2 ⟨(x2),?_,?_,?_,?_,?_,?_,?_,?_,(by first|assumption|omega|(simp [go_sem,hs,fG,Part.d,Part.c,Host.c,Graph.c,di1,fr2,di3,fr5,di6,fr8,di9,fr11,F6,di12,h22,aA h22,<- hy,aA hyf,aA hyt,aA hcb,hgb1,Edge.c,fr13,hx2l,h3,h9,h15,h24];done)|(simp_all<;>omega)),(by first|exact hh2|exact hh2.same (by first|(simp [go_sem];done)|(simp [go_sem];omega)) (λ_ _=>rfl)|exact hh2.same (by first|(simp [go_sem];done)|(simp [go_sem];omega)) (λj hj=>by have:=(hh2.rng j hj).2;simp [go_sem,cD this])|(rw [hx2];exact hh.edges (by first|(simp [go_sem];done)|(simp [go_sem];omega)) (by simp [go_sem,hs,fG,Part.d,Part.c,Host.c,Graph.c,di1,fr2,di3,fr5,di6,fr8,di9,fr11,F6,di12,h22,aA h22,<- hy,aA hyf,aA hyt,aA hcb,hgb1,Edge.c,fr13,hx2l,hfr,Edge.c]) (λj hj=>by obtain ⟨k1,k2,k3⟩:=hfrm j hj;simp [go_sem,k1,k2,cD k3]))),(by exact hx3),(by first|exact hG2|(intro j hj hn;simp only [aU,fU,or_false,not_or] at hn;simp [go_sem,hn,cD (aD:j<H.next)];exact hG j hj (by simp [hn]))),(by first|(simp [go_sem];done)|(simp [go_sem];omega))⟩)<;>first|omega|(simp [go_sem,seval,hs,fG,Part.d,Part.c,Host.c,Graph.c,di1,fr2,di3,fr5,di6,fr8,di9,fr11,F6,di12,h22,aA h22,<- hy,aA hyf,aA hyt,aA hcb,hgb1,Edge.c,fr13,hx2l]<;>omega)
     .try simp [go_sem] at h24
      have hm:mem r.into.edges i=true:=by
       cases hmm:mem r.into.edges i with
       | true=>rfl
       | false=>exact absurd (by simpa [hxl] using hcc.2 hmm) h24
      rw [if_pos hm,dG] at hsu
      obtain ⟨x2,hx2⟩:∃ z,z=x:=⟨_,rfl⟩
      have hx3:x2=Oj t r co (EH t r (bdE h d tr d.edges.length) r.right.graph.nodes.length) (i+1):=by rw [hx2,hx];unfold Oj;rw [hsu]
      have hh2:HH H 0 a b V qs x2:=by rw [hx2];exact hh
      have hG2:=hG
      try simp [go_sem,seval,hs,fG,Part.d,Part.c,Host.c,Graph.c,di1,fr2,di3,fr5,di6,fr8,di9,fr11,F6,di12,h22,aA h22,<- hy,aA hyf,aA hyt,aA hcb,hgb1,Edge.c,fr13,hx2]
      repeat first|intro _|refine ⟨eQ,?_⟩
      refine eB (i+1) aD ((hI6 _ _ _).2 ⟨(x2),?_,?_,?_,?_,?_,?_,?_,?_,(by first|assumption|omega|(simp [go_sem,hs,fG,Part.d,Part.c,Host.c,Graph.c,di1,fr2,di3,fr5,di6,fr8,di9,fr11,F6,di12,h22,aA h22,<- hy,aA hyf,aA hyt,aA hcb,hgb1,Edge.c,fr13,hx2,h3,h9,h15,h24];done)|(simp_all<;>omega)),(by first|exact hh2|exact hh2.same (by first|(simp [go_sem];done)|(simp [go_sem];omega)) (λ_ _=>rfl)|exact hh2.same (by first|(simp [go_sem];done)|(simp [go_sem];omega)) (λj hj=>by have:=(hh2.rng j hj).2;simp [go_sem,cD this])|(rw [hx2];exact hh.edges (by first|(simp [go_sem];done)|(simp [go_sem];omega)) (by simp [go_sem,hs,fG,Part.d,Part.c,Host.c,Graph.c,di1,fr2,di3,fr5,di6,fr8,di9,fr11,F6,di12,h22,aA h22,<- hy,aA hyf,aA hyt,aA hcb,hgb1,Edge.c,fr13,hx2,hfr,Edge.c]) (λj hj=>by obtain ⟨k1,k2,k3⟩:=hfrm j hj;simp [go_sem,k1,k2,cD k3]))),(by exact hx3),(by first|exact hG2|(intro j hj hn;simp only [aU,fU,or_false,not_or] at hn;simp [go_sem,hn,cD (aD:j<H.next)];exact hG j hj (by simp [hn]))),(by first|(simp [go_sem];done)|(simp [go_sem];omega))⟩)<;>first|omega|(simp [go_sem,seval,hs,fG,Part.d,Part.c,Host.c,Graph.c,di1,fr2,di3,fr5,di6,fr8,di9,fr11,F6,di12,h22,aA h22,<- hy,aA hyf,aA hyt,aA hcb,hgb1,Edge.c,fr13,hx2]<;>omega)
    .try simp [go_sem] at h22
     have hX:x=jO t r co (bdE h d tr d.edges.length):=by rw [hx,(aD:i=r.right.graph.edges.length)];rfl
     rw [hX] at hh
     try simp [go_sem,seval,hs,fG,Part.d,Part.c,Host.c,Graph.c,di1,fr2,di3,fr5,di6,fr8,di9,fr11,F6,di12,hX]
     exact hQ qs _ hh (by simp [go_sem,hs,fG,Part.d,Part.c,Host.c,Graph.c,di1,fr2,di3,fr5,di6,fr8,di9,fr11,F6,di12,hX]) hsq hq0 hG hnx
def kU (c:Part)(s:Slot):Int:=c.nodes[s.node.toNat]?.getD 0
def Q0 (c:Part)(vs:List Int)(F:FM)(s:Slot):FM:=Jz F (kU c s) s.attr (c8 s.term vs)
def FA (c:Part)(vs:List Int)(l:List Slot):FM:=l.foldl (Q0 c vs) λ_ _=>none
theorem PM (c:Part)(vs:List Int)(l:List Slot)(s:Slot):FA c vs (l++[s])=Jz (FA c vs l) (kU c s) s.attr (c8 s.term vs):=by unfold FA;rw [EM];rfl
theorem Ss (c:Part)(vs:List Int)(u v x:Int):∀ (l:List Slot) (F:FM),l.foldl (Q0 c vs) F u v=some x->(∃ s∈l,kU c s=u/\s.attr=v/\c8 s.term vs=x)\/F u v=some x
 | [],F,h=>.inr h
 | s :: l,F,h=>by
  rcases Ss c vs u v x l _ h with ⟨s',hs',e⟩|h'
  .exact .inl ⟨s',dD _ hs',e⟩
  .unfold Q0 Jz at h'
   split at h'
   .rename_i he;exact .inl ⟨s,fO ..,he.1.symm,he.2.symm,by simpa using h'⟩
   .exact .inr h'
theorem zJ {c:Part}{vs:List Int}{l:List Slot}{u v x:Int}(h:FA c vs l u v=some x):∃ s∈l,kU c s=u/\s.attr=v/\c8 s.term vs=x:=by
 rcases Ss c vs u v x l _ h with h|h
 .exact h
 .cases h
theorem T1 (c:Part)(vs:List Int)(u v:Int):∀ (l:List Slot) (F:FM),((∃ s∈l,kU c s=u/\s.attr=v)\/(F u v).isSome=true)->(l.foldl (Q0 c vs) F u v).isSome=true
 | [],F,h=>h.elim (λ⟨s,hs,_⟩=>by cases hs) id
 | s :: l,F,h=>T1 c vs u v l _ (by
   by_cases he:kU c s=u/\s.attr=v
   .right;unfold Q0 Jz;rw [if_pos ⟨he.1.symm,he.2.symm⟩];rfl
   .rcases h with ⟨s',hs',e⟩|h
    .rcases aU.1 hs' with rfl|h2
     .exact absurd e he
     .exact .inl ⟨s',h2,e⟩
    .right;unfold Q0 Jz;split
     .rfl
     .exact h)
def Vi (c:Part)(vs:List Int)(l:List Slot):Prop:=∀ s∈l,∀ s'∈l,kU c s=kU c s'->s.attr=s'.attr->c8 s.term vs=c8 s'.term vs
theorem OT {c:Part}{vs:List Int}{l:List Slot}(h:Vi c vs l){s:Slot}(hs:s∈l):FA c vs l (kU c s) s.attr=some (c8 s.term vs):=by
 have h1:=T1 c vs (kU c s) s.attr l (λ_ _=>none) (.inl ⟨s,hs,rfl,rfl⟩)
 obtain ⟨x,hx⟩:=kK.1 h1
 have hx':FA c vs l (kU c s) s.attr=some x:=hx
 obtain ⟨s',hs',e1,e2,e3⟩:=zJ hx'
 rw [hx',<- e3,h s' hs' s hs e1 e2]
theorem Sv {c:Part}{vs:List Int}{l:List Slot}(h:Vi c vs l){s:Slot}(h1:∀ x,FA c vs l (kU c s) s.attr=some x->x=c8 s.term vs):Vi c vs (l++[s]):=by
 have key:∀ s'∈l,kU c s'=kU c s->s'.attr=s.attr->c8 s'.term vs=c8 s.term vs:=λs' hs' e1 e2=>by
  have:=OT h hs'
  rw [e1,e2] at this
  exact h1 _ this
 intro a ha b hb e1 e2
 rw [aV,bK] at ha hb
 rcases ha with ha|rfl<;>rcases hb with hb|rfl
 .exact h a ha b hb e1 e2
 .exact key a ha e1 e2
 .exact (key b hb e1.symm e2.symm).symm
 .rfl
theorem oJ {c:Part}{s:Slot}:fJ c s=(kU c s).toNat:=rfl
theorem Sb {c:Part}{vs:List Int}{l:List Slot}{i:Nat}(hi:i<l.length){x:Int}(h:FA c vs (l.take i) (kU c l[i]) l[i].attr=some x)(hn:x≠c8 l[i].term vs):vZ c vs l=true:=by
 obtain ⟨s',hs',e1,e2,e3⟩:=zJ h
 obtain ⟨k,hk,rfl⟩:=aO hs'
 rw [List.getElem_take] at e1 e2 e3
 have hki:k<i:=by simp at hk;omega
 have hkl:k<l.length:=aD
 rw [u3,aX]
 refine ⟨i,by simpa using hi,?_⟩
 rw [aX]
 refine ⟨k,by simpa using hki,?_⟩
 unfold tT C1
 simp only [aA hkl,aA hi,oJ,e1,e2,e3]
 simp [hn]
theorem OG {c:Part}{vs:List Int}{l:List Slot}(hp:∀ s∈l,0<=kU c s)(h:Vi c vs l):vZ c vs l=false:=by
 rw [u3,bH]
 intro hT
 rw [aX] at hT
 obtain ⟨i,hi,hT⟩:=hT
 rw [aX] at hT
 obtain ⟨k,hk,hT⟩:=hT
 rw [bP] at hi hk
 have hkl:k<l.length:=aD
 unfold tT C1 at hT
 simp only [aA hkl,aA hi,oJ,aR,decide_eq_true_eq] at hT
 obtain ⟨h1,h2,h3⟩:=hT
 have a1:=hp _ (aC hkl)
 have a2:=hp _ (aC hi)
 have h1':(kU c l[k]).toNat=(kU c l[i]).toNat:=of_decide_eq_true h1
 have h2':l[k].attr=l[i].attr:=by simpa using h2
 have h3':c8 l[k].term vs≠c8 l[i].term vs:=by simpa using h3
 exact h3' (h _ (aC hkl) _ (aC hi) aD h2')
/-! ### the values that are set -/
def xU (F:FM)(dn:Int->Int->Bool)(vals:List (List Int)):List (List Int) :=
 (List.range vals.length).map λ(n:Nat)=>(List.range (vals[n]?.getD []).length).map λ(a:Nat)=>if dn n a=true then (F n a).getD 0 else (vals[n]?.getD [])[a]?.getD 0
theorem rR (F:FM)(dn:Int->Int->Bool)(vals:List (List Int)):(xU F dn vals).length=vals.length:=by simp [xU]
theorem qC (F:FM)(dn:Int->Int->Bool)(vals:List (List Int))(n:Nat):((xU F dn vals)[n]?.getD []).length=(vals[n]?.getD []).length:=by
 unfold xU
 by_cases hn:n<vals.length
 .simp [aN,n9 hn]
 .rw [b5 (by simp;omega),b5 aD]
theorem xT (F:FM)(dn:Int->Int->Bool)(vals:List (List Int)){n a:Nat}(hn:n<vals.length)(ha:a<(vals[n]?.getD []).length):((xU F dn vals)[n]?.getD [])[a]?=some (if dn n a=true then (F n a).getD 0 else (vals[n]?.getD [])[a]?.getD 0):=by
 unfold xU
 rw [aN,n9 hn,dQ,Option.getD_some,aN,n9 ha,dQ]
theorem Fo {x y:List (List Int)}(h1:x.length=y.length)(h2:∀ n:Nat,(x[n]?.getD []).length=(y[n]?.getD []).length)(h3:∀ n a:Nat,n<y.length->a<(y[n]?.getD []).length->(x[n]?.getD [])[a]?=(y[n]?.getD [])[a]?):x=y:=by
 apply fV h1
 intro n g1 g2
 have e1:x[n]?.getD []=x[n]:=by rw [aA g1];rfl
 have e2:y[n]?.getD []=y[n]:=by rw [aA g2];rfl
 have l1:=h2 n
 rw [e1,e2] at l1
 apply gL
 intro a
 by_cases ha:a<y[n].length
 .have:=h3 n a g2 (by rw [e2];exact ha)
  rwa [e1,e2] at this
 .rw [b5 aD,b5 aD]
theorem Ql (F:FM)(vals:List (List Int)){dn:Int->Int->Bool}(h:∀ n a:Nat,n<vals.length->a<(vals[n]?.getD []).length->dn n a=false):xU F dn vals=vals:=by
 refine Fo (rR _ _ _) (qC _ _ _) λn a hn ha=>?_
 rw [xT _ _ _ hn ha,if_neg (by rw [h n a hn ha];simp),aA ha];rfl
theorem Gm {vals:List (List Int)}{u:Nat}(hu:u<vals.length)(r:List Int)(n:Nat):(vals.set u r)[n]?.getD []=if n=u then r else vals[n]?.getD []:=by
 rw [dX]
 split
 .rename_i h;subst h;simp [hu]
 .rename_i h;rw [if_neg (λe=>h e.symm)]
theorem Qj (F:FM)(vals:List (List Int)){dn dn':Int->Int->Bool}{u a:Nat}{x:Int}(hu:u<vals.length)(ha:a<(vals[u]?.getD []).length)(hx:F u a=some x)(hd:∀ n b:Nat,n<vals.length->b<(vals[n]?.getD []).length->dn' n b=(dn n b||(decide (n=u)&&decide (b=a)))) :
  (xU F dn vals).set u (((xU F dn vals)[u]?.getD []).set a x)=xU F dn' vals:=by
 have hu':u<(xU F dn vals).length:=by rw [rR];exact hu
 refine Fo (by rw [iZ,rR,rR]) (λn=>?_) λn b hn hb=>?_
 .rw [Gm hu',qC]
  split
  .rename_i h;subst h;rw [iZ,qC]
  .rw [qC]
 .rw [rR] at hn
  rw [qC] at hb
  rw [Gm hu',xT _ _ _ hn hb,hd n b hn hb]
  split
  .rename_i h;subst h
   rw [dX]
   by_cases hba:a=b
   .subst hba
    rw [if_pos rfl,if_pos (by rw [qC];exact ha),if_pos bV,hx];rfl
   .rw [if_neg hba,xT _ _ _ hn hb]
    congr 1
    rw [show decide (b=a)=false by simp;omega,Bool.and_false,qJ]
  .rename_i h
   rw [xT _ _ _ hn hb]
   congr 1
   rw [show decide (n=u)=false by simp;omega,D1,qJ]
theorem FN {c:Part}{vs:List Int}(vals:List (List Int)):∀ (i:Nat) (l:List Slot),l.length=i->(∀ s∈l,0<=kU c s/\fJ c s<vals.length/\0<=s.attr/\s.attr<(vals[fJ c s]?.getD []).length) ->
  ∀ n a:Nat,n<vals.length->a<(vals[n]?.getD []).length->((tJ c vs l vals)[n]?.getD [])[a]?=some ((FA c vs l n a).getD ((vals[n]?.getD [])[a]?.getD 0))
 | 0,l,hl,hp,n,a,hn,ha=>by
  have:l=[]:=bM hl
  subst this
  show (vals[n]?.getD [])[a]?=_
  rw [aA ha];rfl
 | i+1,l,hl,hp,n,a,hn,ha=>by
  obtain ⟨l',s,rfl⟩:∃ l' s,l=l'++[s]:=⟨l.dropLast,l.getLast (by intro e;rw [e] at hl;cases hl),(List.dropLast_concat_getLast _).symm⟩
  have ih:=FN (c:=c) (vs:=vs) vals i l' (by simp at hl;exact hl) (λs' hs'=>hp s' (List.mem_append_left _ hs'))
  obtain ⟨p1,p2,p3,p4⟩:=hp s bV
  obtain ⟨q1,q2⟩:=oN c vs l' vals
  rw [In,PM,Gm aD]
  unfold Jz
  split
  .rename_i h
   rw [dX]
   by_cases hsa:s.attr.toNat=a
   .rw [if_pos hsa,if_pos (by rw [q2];omega),if_pos ⟨by rw [h,oJ];omega,aD⟩];rfl
   .rw [if_neg hsa,if_neg aD,<- h]
    exact ih n a hn ha
  .rename_i h
   rw [if_neg (by rw [oJ] at h;omega)]
   exact ih n a hn ha
theorem Qk {c:Part}{vs:List Int}{vals:List (List Int)}{l:List Slot}(hp:∀ s∈l,0<=kU c s/\fJ c s<vals.length/\0<=s.attr/\s.attr<(vals[fJ c s]?.getD []).length)
  {dn:Int->Int->Bool} (hd:∀ n a:Nat,n<vals.length->a<(vals[n]?.getD []).length->dn n a=(FA c vs l n a).isSome):xU (FA c vs l) dn vals=tJ c vs l vals:=by
 obtain ⟨q1,q2⟩:=oN c vs l vals
 refine Fo (by rw [rR,q1]) (λn=>by rw [qC,q2]) λn a hn ha=>?_
 rw [q1] at hn
 rw [q2] at ha
 rw [xT _ _ _ hn ha,FN vals _ l rfl hp n a hn ha,hd n a hn ha]
 cases FA c vs l n a<;>simp
@[go_sem] theorem U4:pO (Value.map none)=.junk:=rfl
@[go_sem] theorem W7:jB (.const (Value.map none))=false:=rfl
theorem RE:MapT Tryz.prog 288 292 3 :=
 S4 Tryz.underlying288 Tryz.underlying3 Tryz.underlying292 ⟨rfl,rfl,rfl⟩ ⟨rfl,rfl,rfl⟩ (by kernel_rfl) (by kernel_rfl) (by kernel_rfl) ⟨Tryz.prog.types.size - 1,by have:0<Tryz.prog.types.size:=of_decide_eq_true (by kernel_rfl);omega⟩
  (Maps.Keyed.of_law (deep_law_laid (m:=2) (by kernel_rfl) aD (of_decide_eq_true (by kernel_rfl)) (by kernel_rfl) (by kernel_rfl))) (λw=>by kernel_rfl)
def aaG (co:Part)(vs:List Int)(l:List Slot)(G:AHeap)(d:D)(H':AHeap)(g:MS):Prop :=
 (∀ j,j<G.next->H'.get j=G.get j)/\G.next<=H'.next /\
  ((vZ co vs l=true/\∃ q,d=.tup [q,dI 11])\/(vZ co vs l=false/\∃ b k,d=.tup [.cst (.map (some b)),dI 0]/\g=.mp b k (FA co vs l)))
theorem Hd (t:Types)(r:Rule)(hR:RuleV t r)(m:Mat)(h:Host)(x0:Host)(tr co:Part)(hP:PutOk t r x0 co)(hvl:m.vars.length=r.left.vars.toNat)(hvs:Sm m.vars)(a b0 V na nb nV:Nat)(G:AHeap) :
  GCalls Tryz.prog 292 3 244 [.agg (fG r m h (.own a na) (.own b0 nb) (.own V nV) tr co)] G (aaG co m.vars r.right.slots G):=by
 obtain ⟨l,hl⟩:=cF (r.right.slots)
 have hsl:=hR.slots
 have hfew:=hR.few
 have hspot:=hP.spot
 have hattr:=hP.attr
 have hcl:=hP.cl
 have hPf:=hP.few
 rw [<- hl] at hsl hfew hspot hattr ⊢
 refine yH Tryz.func244 rfl rfl (by exact aF rfl) ?_
 refine dO λK0 k0=>?_
 refine gF (c:=⟨λt=>t==6||t==9,λr=>match r with|8=>[(0,10),(1,10),(2,10),(3,10),(4,10),(5,10),(6,10),(7,10),(8,10)]|_=>[]⟩) Tz.mixed (by kernel_rfl) ?_
 simp [go_sem,seval,fG]
 repeat first|intro _|refine ⟨eQ,?_⟩
 refine k0 _ _ _ ?_
 clear k0 K0
 refine dO λK1 k1=>?_
 refine WpG.region (OpsG.make RE rfl rfl rfl λb=>?_)
 refine OpsG.all (md:=λ_=>false) rfl λR kR=>?_
 simp [go_sem,seval]
 refine kR _ _ (k1 _ _ _ ?_)
 clear kR R k1 K1
 refine dO λK3 k3=>?_
 refine dO λK2 k2=>?_
 refine gF (c:=⟨λt=>t==6||t==9,λr=>match r with|8=>[(0,10),(1,10),(2,10),(3,10),(4,10),(5,10),(6,10),(7,10),(8,10)]|_=>[]⟩) Tz.mixed (by kernel_rfl) ?_
 simp [go_sem,seval]
 repeat first|intro _|refine ⟨eQ,?_⟩
 refine k2 _ _ _ ?_
 clear k2 K2
 refine WpG.block ?_
 obtain ⟨I,hI⟩:∃ I:Nat->MS->dM->AHeap->Prop,∀ i g e H,I i g e H↔(e 1=.adr (fG r m h (.own a na) (.own b0 nb) (.own V nV) tr co)/\e 4=.cst (.map (some b))/\e 16=.list (l.map Slot.c)/\e 17=dI l.length/\e 18=dI i/\i<=l.length/\(∃ k,k<=i/\g=.mp b k (FA co m.vars (l.take i)))/\Vi co m.vars (l.take i)/\(∀ j,j<G.next->H.get j=G.get j)/\G.next<=H.next):=⟨_,λ_ _ _ _=>Iff.rfl⟩
 refine WpG.loop I (λi=>l.length - i) 0 ((hI _ _ _ _).2 ⟨by simp [go_sem,fG,dLI],by simp [go_sem],by simp [go_sem,hl],by simp [go_sem,hl],by simp [go_sem],aD,⟨0,aD,by simp [FA]⟩,by intro s hs;simp at hs,by intro j hj;simp [go_sem],by simp [go_sem]⟩) λi g e H hi0=>?_
 obtain ⟨q1,q4,q16,q17,q18,hi,⟨k,hk,rfl⟩,hE,hG,hnx⟩:=(hI _ _ _ _).1 hi0
 refine dO λK1 k1=>?_
 refine gF (c:=⟨λt=>t==6||t==9,λr=>match r with|8=>[(0,10),(1,10),(2,10),(3,10),(4,10),(5,10),(6,10),(7,10),(8,10)]|_=>[]⟩) Tz.mixed (by kernel_rfl) ?_
 simp [go_sem,seval,q17,q18]
 repeat first|intro _|refine ⟨eQ,?_⟩
 refine k1 _ _ _ ?_
 clear k1 K1
 refine dO λK1 k1=>?_
 refine WpG.cond (t:=decide (i<l.length)) (by simp [go_sem]) (λh3=>?_) (λh3=>?_)
 .refine WpG.skip ?_
  simp only [go_sem]
  refine k1 _ _ _ ?_
  clear k1 K1
  have h3':i<l.length:=of_decide_eq_true h3
  obtain ⟨x,hx⟩:=cF (l[i])
  have hxm:x∈l:=hx ▸ aC h3'
  obtain ⟨⟨n1,n2⟩,⟨a1,a2⟩,hT⟩:=hsl x hxm
  obtain ⟨s1,s2,s3⟩:=hspot x hxm
  obtain ⟨t1,t2⟩:=hattr x hxm
  have hnc:x.node.toNat<co.nodes.length:=aD
  have hkey:kU co x=co.nodes[x.node.toNat]:=by unfold kU;rw [aA hnc];rfl
  have hTs:=EX (vs:=m.vars) (by rw [hvl];exact hT) hvs
  have hR1:Cn (kU co x):=by rw [oJ] at s2;exact ⟨by unfold kU;omega,by unfold kU at *;omega⟩
  have hR2:Cn x.attr:=⟨aD,by have:=pS hR.vf (x0.graph.nodes[fJ co x]?.getD 0);omega⟩
  have hR3:Cn (c8 x.term m.vars):=⟨aD,aD⟩
  obtain ⟨v,hv⟩:=cF (c8 x.term m.vars)
  refine dO λK1 k1=>?_
  refine WpG.block ?_
  refine dO λK2 k2=>?_
  refine gF (c:=⟨λt=>t==6||t==9,λr=>match r with|8=>[(0,10),(1,10),(2,10),(3,10),(4,10),(5,10),(6,10),(7,10),(8,10)]|_=>[]⟩) Tz.mixed (by kernel_rfl) ?_
  simp [go_sem,seval,q16,q18,aA h3',<- hx,Slot.c]
  repeat first|intro _|refine ⟨eQ,?_⟩
  refine k2 _ _ _ ?_
  clear k2 K2
  refine dO λK2 k2=>?_
  refine gF (c:=⟨λt=>t==6||t==9,λr=>match r with|8=>[(0,10),(1,10),(2,10),(3,10),(4,10),(5,10),(6,10),(7,10),(8,10)]|_=>[]⟩) Tz.mixed (by kernel_rfl) ?_
  simp [go_sem,seval,q1,fG,Slot.c]
  repeat first|intro _|refine ⟨eQ,?_⟩
  refine aB (by have hq:=mH x.term m.vars (by rw [hvl];exact hT) hvs;rw [<- hv] at hq;unfold Term.c dLI at hq;exact hq) (by first|rfl|(simp [go_sem];done)) ?_
  simp [go_sem,seval]
  repeat first|intro _|refine ⟨eQ,?_⟩
  refine k2 _ _ _ ?_
  clear k2 K2
  refine dO λK2 k2=>?_
  refine dO λK4 k4=>?_
  refine gF (c:=⟨λt=>t==6||t==9,λr=>match r with|8=>[(0,10),(1,10),(2,10),(3,10),(4,10),(5,10),(6,10),(7,10),(8,10)]|_=>[]⟩) Tz.mixed (by kernel_rfl) ?_
  simp [go_sem,seval]
  refine k4 _ _ _ ?_
  clear k4 K4
  refine WpG.cond (t:=false) (by simp [go_sem]) (λh=>by cases h) (λ_=>WpG.skip ?_)
  simp only [go_sem]
  refine k2 _ _ _ ?_
  clear k2 K2
  refine dO λK2 k2=>?_
  refine gF (c:=⟨λt=>t==6||t==9,λr=>match r with|8=>[(0,10),(1,10),(2,10),(3,10),(4,10),(5,10),(6,10),(7,10),(8,10)]|_=>[]⟩) Tz.mixed (by kernel_rfl) ?_
  simp [go_sem,seval,q1,fG,Slot.c,aA hnc,<- hkey]
  repeat first|intro _|refine ⟨eQ,?_⟩
  refine k2 _ _ _ ?_
  clear k2 K2
  refine dO λK2 k2=>?_
  refine dO λK4 k4=>?_
  refine WpG.region ?_
  refine OpsG.take (md:=λt=>t==6||t==9) 2 rfl λR kR=>?_
  simp [go_sem,seval,q4]
  repeat first|intro _|refine ⟨eQ,?_⟩
  refine kR _ _ ?_
  clear kR R
  refine Q4 (T:=288) RE rfl rfl rfl rfl (by simp [go_sem]) (by simp [go_sem]) hR1 hR2 ?_
  refine OpsG.all (md:=λt=>t==6||t==9) rfl λR kR=>?_
  simp [go_sem,seval]
  repeat first|intro _|refine ⟨eQ,?_⟩
  refine kR _ _ (k4 _ _ _ ?_)
  clear kR R k4 K4
  obtain ⟨o,ho⟩:=cF (FA co m.vars (l.take i) (kU co x) x.attr)
  refine dO λK4 k4=>?_
  refine gF (c:=⟨λt=>t==6||t==9,λr=>match r with|8=>[(0,10),(1,10),(2,10),(3,10),(4,10),(5,10),(6,10),(7,10),(8,10)]|_=>[]⟩) Tz.mixed (by kernel_rfl) ?_
  simp [go_sem,seval,<- ho]
  repeat first|intro _|refine ⟨eQ,?_⟩
  refine k4 _ _ _ ?_
  clear k4 K4
  refine WpG.cond (t:=o.isSome&&o.getD 0 != v) (by simp [go_sem]) (λhc=>?_) (λhc=>?_)
  .refine dO λK5 k5=>?_
   refine gF (c:=⟨λt=>t==6||t==9,λr=>match r with|8=>[(0,10),(1,10),(2,10),(3,10),(4,10),(5,10),(6,10),(7,10),(8,10)]|_=>[]⟩) Tz.mixed (by kernel_rfl) ?_
   simp [go_sem,seval]
   refine k5 _ _ _ ?_
   clear k5 K5
   refine WpG.ret ?_
   simp [go_sem,P5]
   refine ⟨λj hj=>?_,?_,.inl ⟨?_,_,rfl⟩⟩
   .have fr1:=cD (aD:j<H.next)
    simp [go_sem,fr1]
    exact hG j hj
   .simp [go_sem];omega
   .rw [aR] at hc
    obtain ⟨y,hy⟩:=kK.1 hc.1
    refine Sb h3' (x:=y) (by rw [<- hx,<- ho,hy]) (λe=>?_)
    have h2:=hc.2
    rw [hy,<- hx,<- hv] at *
    simp [e] at h2
  .refine WpG.skip ?_
   simp only [go_sem]
   refine k2 _ _ _ ?_
   clear k2 K2
   refine WpG.region ?_
   refine OpsG.take (md:=λt=>t==6||t==9) 3 rfl λR kR=>?_
   simp [go_sem,seval,q4]
   repeat first|intro _|refine ⟨eQ,?_⟩
   refine kR _ _ ?_
   clear kR R
   refine OpsG.store (T:=288) (c:=v) RE rfl rfl rfl rfl (by simp [go_sem]) (by simp [go_sem]) (by simp [go_sem]) hR1 hR2 (hv ▸ hR3) aD ?_
   refine OpsG.all (md:=λt=>t==6||t==9) rfl λR kR=>?_
   simp [go_sem,seval]
   refine kR _ _ ?_
   clear kR R
   simp only [go_sem]
   refine k1 _ _ _ ?_
   clear k1 K1
   refine gF (c:=⟨λt=>t==6||t==9,λr=>match r with|8=>[(0,10),(1,10),(2,10),(3,10),(4,10),(5,10),(6,10),(7,10),(8,10)]|_=>[]⟩) Tz.mixed (by kernel_rfl) ?_
   simp [go_sem,seval,q18]
   repeat first|intro _|refine ⟨eQ,?_⟩
   refine ⟨i+1,aD,(hI _ _ _ _).2 ⟨by simp [go_sem,q1],by simp [go_sem,q4],by simp [go_sem,q16],by simp [go_sem,q17],by simp [go_sem],aD,⟨k+1,aD,by rw [aE h3',PM,<- hx,hv]⟩,?_,λj hj=>?_,by simp [go_sem];omega⟩⟩
   .rw [aE h3',<- hx]
    refine Sv hE λy hy=>?_
    rw [<- ho] at hy
    rw [hy] at hc
    simp at hc
    rw [hc,hv]
   .have fr1:=cD (aD:j<H.next)
    simp [go_sem,fr1]
    exact hG j hj
 .refine WpG.exit ?_
  simp [go_sem]
  refine k3 _ _ _ ?_
  have hie:i=l.length:=by have:=of_decide_eq_false h3;omega
  rw [aH aD] at hE ⊢
  refine dO λK5 k5=>?_
  refine gF (c:=⟨λt=>t==6||t==9,λr=>match r with|8=>[(0,10),(1,10),(2,10),(3,10),(4,10),(5,10),(6,10),(7,10),(8,10)]|_=>[]⟩) Tz.mixed (by kernel_rfl) ?_
  simp [go_sem,seval,q4]
  refine k5 _ _ _ ?_
  clear k5 K5
  refine WpG.ret ?_
  simp [go_sem,P5]
  refine ⟨hG,hnx,.inr ⟨OG (λs hs=>(hspot s hs).1) hE,b,k,by simp [go_sem],rfl⟩⟩
end Go.Abs
end
