/- The step of the program: build. · The step of the program: w -/
import Derived.Test.YthalajhajpjjeaaGreatZgAF
import Derived.Test.YthalajhajpjjeaaGreatZgAA
import Derived.Test.YthalajhajpjjeaaGreatZgAS
set_option linter.unusedVariables false
set_option linter.unusedSimpArgs false
section
set_option maxRecDepth 100000
set_option maxHeartbeats 4000000
open Go Go.Proofs
namespace Go.Abs
theorem Fq (t:Types)(ht:t.ok)(k:Int):Own Tryz.prog 243 [t.d,dI k] 3 1 ((l9 t k).map cI):=by
 have hal:=qA ht k
 refine Tz.oK ⟨λt=>t==9||t==16,λ_=>[]⟩ Tryz.func243 rfl (λQ hQ=>?_)
 have Y:=trivial
 refine wv (h:=aB (n7 t ht k) wl ?_)
 refine wo (h:=bD (λi e H=>∃ xs:List Int,(e 2=.adr t.c/\e 17=.list ((bM t k).map Attr.c)/\e 18=dI (bM t k).length/\e 19=dI i/\e 7=.own 0 xs.length)/\(H.get 0=some ⟨3,1,xs.map cI,false⟩)/\(0<H.next)/\(i<=(bM t k).length)/\(xs=((bM t k).take i).map (λa=>a.low))) (λi=>(bM t k).length - i) 0 ⟨([]),wg,wn,wn,wi,(by rfl)⟩ λI0 hI0 i e H hi0=>?_)
 obtain ⟨xs,E0,g0_0,n0_0,hi,hx⟩:=hi0
 have Y:=wa Y (wa E0 (wa g0_0 (b8 n0_0)))
 refine dP (λh4=>?_) λh4=>?_
 .have hxl:xs.length=i:=by rw [hx];simp;omega
  have Y:=wa Y (wa h4 (wa (aA h4) @Attr.c.eq_1))
  exact wo (h:=wx hI0 (i+1) ⟨(xs++[(bM t k)[i].low]),wg,wn,wn,wj,(by rw [kW _ h4,<- hx])⟩)
 .have hX:xs=l9 t k:=by rw [hx,lW _ aD];rfl
  refine wv (h:=?_)
  exact hQ _ _ _ (by simp [go_sem,Y,hX,dLI]) (by simp [go_sem,Y,hX,dLI])
theorem HH.nodeRow {H H':AHeap}{lo a b V:Nat}{qs:List Nat}{x:Host}(h:HH H lo a b V qs x)(hn:H.next<=H'.next){q:Nat}{nd:Int}{v:List Int}(hlo:lo<=q)(hq:∀ j∈a :: b :: V :: qs,j≠q)(hq2:q<H'.next)
  (ga:H'.get a=some ⟨3,1,(x.graph.nodes++[nd]).map cI,false⟩) (gq:H'.get q=some ⟨3,1,v.map cI,false⟩) (gV:H'.get V=some ⟨26,1,k9 qs x.values++[[.own q v.length]],false⟩) (hf:∀ j∈b :: qs,H'.get j=H.get j) :
  HH H' lo a b V (qs++[q]) ⟨⟨x.graph.nodes++[nd],x.graph.edges⟩,x.values++[v]⟩ where
 ga:=ga
 gb:=(hf b bW).trans h.gb
 gV:=by rw [wF h.len];exact gV
 len:=by simp [h.len]
 gq i q' v' h1 h2:=by
  by_cases hi:i<qs.length
  .rw [aS hi] at h1
   rw [aS (by rw [<- h.len];exact hi)] at h2
   exact (hf q' (by simp [aK h1])).trans (h.gq i q' v' h1 h2)
  .have h1':=(aM.1 h1).1
   have:i=qs.length:=by simp at h1';omega
   subst this
   simp at h1
   rw [h.len] at h2;simp at h2
   subst h1 h2;exact gq
 nd:=by
  have:=h.nd
  have e:a :: b :: V :: (qs++[q])=(a :: b :: V :: qs)++[q]:=rfl
  rw [e,nM]
  exact ⟨this,by simp,λy hy z hz=>by rw [bL] at hz;subst hz;exact hq y hy⟩
 rng j hj:=by
  have e:a :: b :: V :: (qs++[q])=(a :: b :: V :: qs)++[q]:=rfl
  rw [e,aW,bL] at hj
  rcases hj with hj|rfl
  .exact ⟨(h.rng j hj).1,cC (h.rng j hj).2 hn⟩
  .exact ⟨hlo,hq2⟩
def fF (r:Rule)(m:Mat)(h:Host)(A B C:D)(tr co:Part):List D:=[.str r.name,dLI r.left.graph.nodes,.list (r.left.graph.edges.map Edge.c),.list (r.left.slots.map Slot.c),dI r.left.vars,.list (r.left.tests.map Test.c),
 dLI r.right.graph.nodes,.list (r.right.graph.edges.map Edge.c),.list (r.right.slots.map Slot.c),dI r.right.vars,.list (r.right.tests.map Test.c),
 dLI r.keep.nodes,dLI r.keep.edges,dLI r.into.nodes,dLI r.into.edges,.bool r.inj,
 dI r.cond.kind,.list (r.cond.kids.map Cond.c),dLI r.cond.map.nodes,dLI r.cond.map.edges,dLI r.cond.pattern.graph.nodes,.list (r.cond.pattern.graph.edges.map Edge.c),.list (r.cond.pattern.slots.map Slot.c),dI r.cond.pattern.vars,.list (r.cond.pattern.tests.map Test.c),
 dLI m.m.nodes,dLI m.m.edges,dLI m.vars,dLI h.graph.nodes,.list (h.graph.edges.map Edge.c),.list (h.values.map cL),A,B,C,dLI tr.nodes,dLI tr.edges,dLI co.nodes,dLI co.edges]
def trE (h:Host)(tr:Part)(k:Int):Edge:=⟨(eA h.graph k).type,iA tr.nodes (eA h.graph k).from_,iA tr.nodes (eA h.graph k).to_⟩
def WG (h:Host)(d:Part)(i:Nat):Host:=⟨⟨(d.nodes.take i).map (gN h.graph),[]⟩,(d.nodes.take i).map λk=>h.values[k.toNat]?.getD []⟩
def bdE (h:Host)(d tr:Part)(i:Nat):Host:=⟨⟨d.nodes.map (gN h.graph),(d.edges.take i).map (trE h tr)⟩,d.nodes.map λk=>h.values[k.toNat]?.getD []⟩
theorem SS (h:Host)(d tr:Part){i:Nat}(hi:d.nodes.length<=i):bdE h d tr 0=WG h d i:=by unfold bdE WG;rw [aG hi];rfl
theorem N2 (t:Types)(ht:t.ok)(r:Rule)(hR:RuleV t r)(m:Mat)(h:Host)(ho:HostOk t h)(d tr co:Part)(hdn:∀ x∈d.nodes,0<=x/\x<h.graph.nodes.length)(hde:∀ x∈d.edges,0<=x/\x<h.graph.edges.length)
  (hdl:d.nodes.length<=40/\d.edges.length<=80) (htl:tr.nodes.length=h.graph.nodes.length) (hcl:co.nodes.length=r.right.graph.nodes.length/\co.edges.length=r.right.graph.edges.length)
  (hcn:∀ i,i<r.right.graph.nodes.length->(co.nodes[i]?.getD 0=((d.nodes.length+(bJ r.into.nodes i).length:Nat):Int)↔mem r.into.nodes i=false))
  (hce:∀ i,i<r.right.graph.edges.length->(co.edges[i]?.getD 0=((d.edges.length+(bJ r.into.edges i).length:Nat):Int)↔mem r.into.edges i=false))
  (s a b V:Nat) (G:AHeap) (hs:G.get s=some ⟨53,38,[fF r m h (.own a 0) (.own b 0) (.own V 0) tr co],false⟩) (hh0:HH G 0 a b V [] ⟨⟨[],[]⟩,[]⟩) (hsn:s<G.next) (hsd:s≠a/\s≠b/\s≠V) (hal0:∀ j,G.next<=j->¬ G.al j) (Q:D->AHeap->Prop)
  (hQ:∀ qs H',HH H' 0 a b V qs (jQ t r co (bdE h d tr d.edges.length))->H'.get s=some ⟨53,38,[fF r m h (.own a (jQ t r co (bdE h d tr d.edges.length)).graph.nodes.length) (.own b (jQ t r co (bdE h d tr d.edges.length)).graph.edges.length) (.own V (jQ t r co (bdE h d tr d.edges.length)).values.length) tr co],false⟩ ->
   (∀ j∈a :: b :: V :: qs,j≠s)->(∀ j∈qs,G.next<=j)->(∀ j,j<G.next->j∉[s,a,b,V]->H'.get j=G.get j)->G.next<=H'.next->Q (.tup []) H') :
  ACalls Tryz.prog 146 [t.d,.ptr s 1 0 0,d.d] G Q:=by
 have hga:=bS hR.gr
 have hgi:=eK hR.gr
 have hhg:=bS ho.gg
 have hhi:=eK ho.gg
 have hvl:=ho.vl
 have ha0:=hh0.rng a hh0.a_in
 have hb0:=hh0.rng b hh0.b_in
 have hV0:=hh0.rng V hh0.V_in
 have hab:=hh0.ab
 obtain ⟨hs1,hs2,hs3⟩:=hsd
 refine (aJ (cfg:=⟨λt=>t==6||t==7||t==12||t==16||t==59||t==166||t==1000001,λr=>match r with|1=>[(1,10),(2,10),(3,10),(5,10),(6,10),(7,10),(8,10),(9,10),(1,11),(2,11),(3,11),(5,11),(6,11),(7,11),(8,11),(9,11),(10,11),(5,12),(6,12),(7,12),(8,12),(9,12)]|5=>[(2,13),(3,13),(4,13),(5,13),(6,13)]|6=>[(2,6),(3,6),(4,6),(5,6),(6,7),(6,8),(6,10),(6,11),(2,12),(3,12),(4,12),(5,12),(2,13),(3,13),(4,13),(5,13)]|12=>[(2,28),(3,28),(4,28),(5,28),(6,28)]|19=>[(2,8),(3,8),(4,8),(5,8),(2,9),(3,9),(4,9),(5,9)]|25=>[(2,28),(3,28),(4,28),(5,28),(6,28)]|_=>[]⟩) Tz.mixed Tryz.func146 rfl rfl (aF rfl) (by kernel_rfl) ?_)
 have di1:=And.intro (dF (aD:V≠b)) (And.intro (dF (aD:V≠a)) (And.intro (dF (aD:V≠s)) (And.intro (dF (aD:b≠a)) (And.intro (dF (aD:b≠s)) (dF (aD:a≠s))))))
 have fr2:=And.intro (b8 (aD:s<G.next)) (And.intro (b8 (aD:a<G.next)) (And.intro (b8 (aD:b<G.next)) (b8 (aD:V<G.next))))
 try simp [go_sem,seval,hs,fF,Part.d,Part.c,Host.c,Graph.c,di1,fr2]
 repeat first|intro _|refine ⟨eL,?_⟩
 obtain ⟨I0,hI0⟩:∃ I0:Nat->dJ->AHeap->Prop,∀ (i:Nat) (e:dJ) (H:AHeap),I0 i e H↔(∃ X:Nat,∃ Y:Nat,∃ x:Host,∃ qs:List Nat,(e 1=.ptr s 1 0 0)/\(e 3=.adr t.c)/\(e 5=.adr d.c)/\(e 6=.ptr X 1 0 0)/\(e 7=.ptr Y 1 0 0)/\(e 28=dLI d.nodes)/\(e 29=dI d.nodes.length)/\(e 30=dI i)/\(H.get X=some ⟨44,3,[h.c],false⟩)/\(X<H.next)/\(H.get Y=some ⟨29,2,[r.right.graph.c],false⟩)/\(Y<H.next)/\(H.get s=some ⟨53,38,[fF r m h (.own a x.graph.nodes.length) (.own b x.graph.edges.length) (.own V x.values.length) tr co],false⟩)/\(s<H.next)/\(i<=d.nodes.length)/\(HH H 0 a b V qs x)/\(x=WG h d i)/\(∀ j∈a :: b :: V :: qs,j≠s)/\(∀ j∈qs,G.next<=j)/\(∀ j,H.next<=j->¬ H.al j)/\(∀ j,j<G.next->j∉[s,a,b,V]->H.get j=G.get j)/\(G.next<=H.next)/\(G.next<=X/\X<Y)):=⟨λi e H=>_,λ_ _ _=>Iff.rfl⟩
 refine oD I0 (λi=>d.nodes.length - i) (0) ((hI0 _ _ _).2 ⟨(G.next+10),(G.next+11),(⟨⟨[],[]⟩,[]⟩),([]),?_,?_,?_,?_,?_,?_,?_,?_,?_,?_,?_,?_,?_,?_,(by first|assumption|omega|(simp [go_sem,hs,fF,Part.d,Part.c,Host.c,Graph.c,di1,fr2];done)|(simp_all;done)),(by exact hh0.same (by first|(simp [go_sem];done)|(simp [go_sem];omega)) (λj hj=>by have:=(hh0.rng j hj).2;simp [go_sem,b8 this])),(by rfl),(by intro j hj;simp at hj;omega),(by intro j hj;cases hj),(by intro j hj;simp [go_sem,pH,sX,JF] at hj ⊢;exact ⟨aD,aD,hal0 j aD⟩),(by intro j hj hn;simp [go_sem,b8 hj]),(by first|(simp [go_sem];done)|(simp [go_sem];omega)),aD⟩) ?_
 iterate 14 (first|omega|(simp [go_sem,seval,hs,fF,Part.d,Part.c,Host.c,Graph.c,di1,fr2]<;>omega))
 intro i e H hi0
 obtain ⟨X,Y,x,qs,q1_0,q3_0,q5_0,q6_0,q7_0,q28_0,q29_0,q30_0,gX_0,nX_0,gY_0,nY_0,gs_0,ns_0,hi,hh,hx,hsq,hq0,hal,hG,hnx,hXY⟩:=(hI0 _ _ _).1 hi0
 have xX:=b8 nX_0
 have xY:=b8 nY_0
 have xs:=b8 ns_0
 have F0:=And.intro q1_0 (And.intro q3_0 (And.intro q5_0 (And.intro q6_0 (And.intro q7_0 (And.intro q28_0 (And.intro q29_0 (And.intro q30_0 (And.intro gX_0 (And.intro gY_0 (And.intro gs_0 (And.intro xX (And.intro xY xs))))))))))))
 have di3:=And.intro (dF (aD:Y≠X)) (And.intro (dF (aD:Y≠V)) (And.intro (dF (aD:Y≠b)) (And.intro (dF (aD:Y≠a)) (And.intro (dF (aD:Y≠s)) (And.intro (dF (aD:X≠V)) (And.intro (dF (aD:X≠b)) (And.intro (dF (aD:X≠a)) (And.intro (dF (aD:X≠s)) (And.intro (dF (aD:V≠b)) (And.intro (dF (aD:V≠a)) (And.intro (dF (aD:V≠s)) (And.intro (dF (aD:b≠a)) (And.intro (dF (aD:b≠s)) (dF (aD:a≠s)))))))))))))))
 try simp [go_sem,seval,hs,fF,Part.d,Part.c,Host.c,Graph.c,di1,fr2,F0,di3]
 refine aP (λh3=>?_) (λh3=>?_)
 .try simp [go_sem] at h3
  obtain ⟨k,hk⟩:∃ y,y=d.nodes[i]:=⟨_,rfl⟩
  have hkb:=hdn _ (aC h3)
  rw [<- hk] at hkb
  have hkn:k.toNat<h.graph.nodes.length:=aD
  have hkv:k.toNat<h.values.length:=aD
  obtain ⟨x2,hx2⟩:∃ y:Host,y=⟨⟨x.graph.nodes++[h.graph.nodes[k.toNat]],x.graph.edges⟩,x.values++[h.values[k.toNat]]⟩:=⟨_,rfl⟩
  have hx3:x2=WG h d (i+1):=by rw [hx2,hx];unfold WG;rw [aE h3,<- hk];simp [gN,aA hkn,aA hkv]
  have hrow:(h.values[k.toNat]).length<=1000:=by
   have:=(ho.row _ (aC hkv)).1
   omega
  have hxl:x.graph.nodes.length=i/\x.graph.edges.length=0/\x.values.length=i:=by rw [hx];simp [WG];omega
  have hx2l:x2.graph.nodes.length=x.graph.nodes.length+1/\x2.graph.edges.length=x.graph.edges.length/\x2.values.length=x.values.length+1:=by rw [hx2];simp
  have hga1:=hh.ga
  have hgV1:=hh.gV
  have hrl:=jF hh.len
  have hqa:=hh.rng a hh.a_in
  have hqV:=hh.rng V hh.V_in
  have hqb:=hh.rng b hh.b_in
  have hWq:∀ j∈a :: b :: V :: qs,j≠H.next+20+6:=λj hj=>by have:=(hh.rng j hj).2;omega
  have hfrm:∀ j∈b :: qs,j≠a/\j≠s/\j≠V/\j<H.next:=λj hj=>by
   rcases aU.1 hj with rfl|hj
   .exact ⟨aD,aD,aD,hqb.2⟩
   .exact ⟨(hh.qn hj).1,hsq j (hh.q_in hj),(hh.qn hj).2.2,(hh.rng j (hh.q_in hj)).2⟩
  have hsq2:∀ j∈a :: b :: V :: (qs++[H.next+20+6]),j≠s:=λj hj=>by
   have e:a :: b :: V :: (qs++[H.next+20+6])=(a :: b :: V :: qs)++[H.next+20+6]:=rfl
   rw [e,aW,bL] at hj
   rcases hj with hj|rfl
   .exact hsq j hj
   .omega
  have hq02:∀ j∈qs++[H.next+20+6],G.next<=j:=λj hj=>by
   rw [aW,bL] at hj
   rcases hj with hj|rfl
   .exact hq0 j hj
   .omega
  have fr4:=And.intro (b8 (aD:s<H.next)) (And.intro (b8 (aD:a<H.next)) (And.intro (b8 (aD:b<H.next)) (b8 (aD:V<H.next))))
  try simp [go_sem,seval,hs,fF,Part.d,Part.c,Host.c,Graph.c,di1,fr2,F0,di3,h3,aA h3,<- hk,aA hkn,aA hkv,hga1,hgV1,hrl,hx2l,cL,fr4]
  repeat first|intro _|refine ⟨eL,?_⟩
  refine d7 (i+1) aD ((hI0 _ _ _).2 ⟨(X),(Y),(x2),(qs++[H.next+20+6]),?_,?_,?_,?_,?_,?_,?_,?_,?_,?_,?_,?_,?_,?_,(by first|assumption|omega|(simp [go_sem,hs,fF,Part.d,Part.c,Host.c,Graph.c,di1,fr2,F0,di3,h3,aA h3,<- hk,aA hkn,aA hkv,hga1,hgV1,hrl,hx2l,cL,fr4];done)|(simp_all<;>omega)),(by rw [hx2];exact hh.nodeRow (by first|(simp [go_sem];done)|(simp [go_sem];omega)) (dY _) hWq (by first|(simp [go_sem];done)|(simp [go_sem];omega)) (by simp [go_sem,hs,fF,Part.d,Part.c,Host.c,Graph.c,di1,fr2,F0,di3,h3,aA h3,<- hk,aA hkn,aA hkv,hga1,hgV1,hrl,hx2l,cL,fr4,cI]) (by simp [go_sem,hs,fF,Part.d,Part.c,Host.c,Graph.c,di1,fr2,F0,di3,h3,aA h3,<- hk,aA hkn,aA hkv,hga1,hgV1,hrl,hx2l,cL,fr4]) (by simp [go_sem,hs,fF,Part.d,Part.c,Host.c,Graph.c,di1,fr2,F0,di3,h3,aA h3,<- hk,aA hkn,aA hkv,hga1,hgV1,hrl,hx2l,cL,fr4]) (λj hj=>by obtain ⟨k1,k2,k3,k4⟩:=hfrm j hj;simp [go_sem,k1,k2,k3,b8 k4])),(by exact hx3),(by exact hsq2),(by exact hq02),(by intro j hj;simp [go_sem,pH,sX] at hj ⊢;exact ⟨aD,hal j aD⟩),(by intro j hj hn;simp only [aU,fS,or_false,not_or] at hn;simp [go_sem,hn,b8 (aD:j<H.next)];exact hG j hj (by simp [hn])),(by first|(simp [go_sem];done)|(simp [go_sem];omega)),(by exact hXY)⟩)<;>first|omega|(simp [go_sem,seval,hs,fF,Part.d,Part.c,Host.c,Graph.c,di1,fr2,F0,di3,h3,aA h3,<- hk,aA hkn,aA hkv,hga1,hgV1,hrl,hx2l,cL,fr4]<;>omega)
 .try simp [go_sem] at h3
  have hx4:x=bdE h d tr 0:=by rw [hx,SS _ _ _ aD]
  have fr5:=And.intro (b8 (aD:s<H.next)) (And.intro (b8 (aD:a<H.next)) (And.intro (b8 (aD:b<H.next)) (b8 (aD:V<H.next))))
  try simp [go_sem,seval,hs,fF,Part.d,Part.c,Host.c,Graph.c,di1,fr2,F0,di3,fr5]
  repeat first|intro _|refine ⟨eL,?_⟩
  obtain ⟨I2,hI2⟩:∃ I2:Nat->dJ->AHeap->Prop,∀ (i:Nat) (e:dJ) (H:AHeap),I2 i e H↔(∃ x:Host,(e 1=.ptr s 1 0 0)/\(e 3=.adr t.c)/\(e 5=.adr d.c)/\(e 6=.ptr X 1 0 0)/\(e 7=.ptr Y 1 0 0)/\(e 73=dLI d.edges)/\(e 74=dI d.edges.length)/\(e 75=dI i)/\(H.get X=some ⟨44,3,[h.c],false⟩)/\(X<H.next)/\(H.get Y=some ⟨29,2,[r.right.graph.c],false⟩)/\(Y<H.next)/\(H.get s=some ⟨53,38,[fF r m h (.own a x.graph.nodes.length) (.own b x.graph.edges.length) (.own V x.values.length) tr co],false⟩)/\(s<H.next)/\(i<=d.edges.length)/\(HH H 0 a b V qs x)/\(x=bdE h d tr i)/\(∀ j,H.next<=j->¬ H.al j)/\(∀ j,j<G.next->j∉[s,a,b,V]->H.get j=G.get j)/\(G.next<=H.next)):=⟨λi e H=>_,λ_ _ _=>Iff.rfl⟩
  refine oD I2 (λi=>d.edges.length - i) (0) ((hI2 _ _ _).2 ⟨(x),?_,?_,?_,?_,?_,?_,?_,?_,?_,?_,?_,?_,?_,?_,(by first|assumption|omega|(simp [go_sem,hs,fF,Part.d,Part.c,Host.c,Graph.c,di1,fr2,F0,di3,fr5];done)|(simp_all;done)),(by exact hh),(by exact hx4),(by exact hal),(by exact hG),(by exact hnx)⟩) ?_
  iterate 14 (first|omega|(simp [go_sem,seval,hs,fF,Part.d,Part.c,Host.c,Graph.c,di1,fr2,F0,di3,fr5]<;>omega))
  intro i e H hi2
  obtain ⟨x,q1_2,q3_2,q5_2,q6_2,q7_2,q73_2,q74_2,q75_2,gX_2,nX_2,gY_2,nY_2,gs_2,ns_2,hi,hh,hx,hal,hG,hnx⟩:=(hI2 _ _ _).1 hi2
  have xX:=b8 nX_2
  have xY:=b8 nY_2
  have xs:=b8 ns_2
  have F2:=And.intro q1_2 (And.intro q3_2 (And.intro q5_2 (And.intro q6_2 (And.intro q7_2 (And.intro q73_2 (And.intro q74_2 (And.intro q75_2 (And.intro gX_2 (And.intro gY_2 (And.intro gs_2 (And.intro xX (And.intro xY xs))))))))))))
  have di6:=And.intro (dF (aD:Y≠X)) (And.intro (dF (aD:Y≠V)) (And.intro (dF (aD:Y≠b)) (And.intro (dF (aD:Y≠a)) (And.intro (dF (aD:Y≠s)) (And.intro (dF (aD:X≠V)) (And.intro (dF (aD:X≠b)) (And.intro (dF (aD:X≠a)) (And.intro (dF (aD:X≠s)) (And.intro (dF (aD:V≠b)) (And.intro (dF (aD:V≠a)) (And.intro (dF (aD:V≠s)) (And.intro (dF (aD:b≠a)) (And.intro (dF (aD:b≠s)) (dF (aD:a≠s)))))))))))))))
  try simp [go_sem,seval,hs,fF,Part.d,Part.c,Host.c,Graph.c,di1,fr2,di3,fr5,F2,di6]
  refine aP (λh9=>?_) (λh9=>?_)
  .try simp [go_sem] at h9
   obtain ⟨k,hk⟩:∃ y,y=d.edges[i]:=⟨_,rfl⟩
   have hkb:=hde _ (aC h9)
   rw [<- hk] at hkb
   have hkn:k.toNat<h.graph.edges.length:=aD
   obtain ⟨y,hy⟩:=cW (h.graph.edges[k.toNat])
   have hyi:=(hhi.2 _ (aC hkn)).2
   rw [<- hy] at hyi
   have hyf:y.from_.toNat<tr.nodes.length:=aD
   have hyt:y.to_.toNat<tr.nodes.length:=aD
   have hyA:eA h.graph k=y:=by rw [hy];simp [eA,aA hkn]
   have htE:trE h tr k=⟨y.type,tr.nodes[y.from_.toNat],tr.nodes[y.to_.toNat]⟩:=by unfold trE;rw [hyA];simp [iA,aA hyf,aA hyt]
   obtain ⟨x2,hx2⟩:∃ z:Host,z=⟨⟨x.graph.nodes,x.graph.edges++[trE h tr k]⟩,x.values⟩:=⟨_,rfl⟩
   have hx3:x2=bdE h d tr (i+1):=by rw [hx2,hx];unfold bdE;rw [aE h9,<- hk];simp
   have hxl:x.graph.edges.length=i:=by rw [hx];simp [bdE];omega
   have hx2l:x2.graph.nodes.length=x.graph.nodes.length/\x2.graph.edges.length=x.graph.edges.length+1/\x2.values.length=x.values.length:=by rw [hx2];simp
   have hgb1:=hh.gb
   have hqa:=hh.rng a hh.a_in
   have hqV:=hh.rng V hh.V_in
   have hqb:=hh.rng b hh.b_in
   have hfrm:∀ j∈a :: V :: qs,j≠b/\j≠s/\j<H.next:=λj hj=>by
    have hj':j∈a :: b :: V :: qs:=by simp only [aU] at hj ⊢;rcases hj with h|h|h<;>simp [h]
    refine ⟨?_,hsq j hj',(hh.rng j hj').2⟩
    rintro rfl
    have:=hh.nd;simp only [g5,aU,not_or] at this
    simp only [aU] at hj
    rcases hj with h|h|h
    .exact this.1.1 h.symm
    .exact this.2.1.1 h
    .exact this.2.1.2 h
   have fr7:=And.intro (b8 (aD:s<H.next)) (And.intro (b8 (aD:a<H.next)) (And.intro (b8 (aD:b<H.next)) (b8 (aD:V<H.next))))
   try simp [go_sem,seval,hs,fF,Part.d,Part.c,Host.c,Graph.c,di1,fr2,di3,fr5,F2,di6,h9,aA h9,<- hk,aA hkn,<- hy,aA hyf,aA hyt,hgb1,hx2l,Edge.c,fr7]
   repeat first|intro _|refine ⟨eL,?_⟩
   refine d7 (i+1) aD ((hI2 _ _ _).2 ⟨(x2),?_,?_,?_,?_,?_,?_,?_,?_,?_,?_,?_,?_,?_,?_,(by first|assumption|omega|(simp [go_sem,hs,fF,Part.d,Part.c,Host.c,Graph.c,di1,fr2,di3,fr5,F2,di6,h9,aA h9,<- hk,aA hkn,<- hy,aA hyf,aA hyt,hgb1,hx2l,Edge.c,fr7,h3];done)|(simp_all<;>omega)),(by rw [hx2];exact hh.edges (by first|(simp [go_sem];done)|(simp [go_sem];omega)) (by simp [go_sem,hs,fF,Part.d,Part.c,Host.c,Graph.c,di1,fr2,di3,fr5,F2,di6,h9,aA h9,<- hk,aA hkn,<- hy,aA hyf,aA hyt,hgb1,hx2l,Edge.c,fr7,htE,Edge.c]) (λj hj=>by obtain ⟨k1,k2,k3⟩:=hfrm j hj;simp [go_sem,k1,k2,b8 k3])),(by exact hx3),(by intro j hj;simp [go_sem,pH,sX] at hj ⊢;first|exact ⟨aD,hal j aD⟩|exact hal j aD|exact ⟨aD,aD,hal j aD⟩),(by intro j hj hn;simp only [aU,fS,or_false,not_or] at hn;simp [go_sem,hn,b8 (aD:j<H.next)];exact hG j hj (by simp [hn])),(by first|(simp [go_sem];done)|(simp [go_sem];omega))⟩)<;>first|omega|(simp [go_sem,seval,hs,fF,Part.d,Part.c,Host.c,Graph.c,di1,fr2,di3,fr5,F2,di6,h9,aA h9,<- hk,aA hkn,<- hy,aA hyf,aA hyt,hgb1,hx2l,Edge.c,fr7]<;>omega)
  .try simp [go_sem] at h9
   have hx5:x=Fa t r (bdE h d tr d.edges.length) 0:=by rw [hx,(aD:i=d.edges.length)];simp [Fa,bJ]
   have fr8:=And.intro (b8 (aD:s<H.next)) (And.intro (b8 (aD:a<H.next)) (And.intro (b8 (aD:b<H.next)) (b8 (aD:V<H.next))))
   try simp [go_sem,seval,hs,fF,Part.d,Part.c,Host.c,Graph.c,di1,fr2,di3,fr5,F2,di6,fr8]
   repeat first|intro _|refine ⟨eL,?_⟩
   obtain ⟨I4,hI4⟩:∃ I4:Nat->dJ->AHeap->Prop,∀ (i:Nat) (e:dJ) (H:AHeap),I4 i e H↔(∃ x:Host,∃ qs:List Nat,(e 1=.ptr s 1 0 0)/\(e 3=.adr t.c)/\(e 5=.adr d.c)/\(e 7=.ptr Y 1 0 0)/\(e 121=dLI r.right.graph.nodes)/\(e 122=dI r.right.graph.nodes.length)/\(e 123=dI i)/\(H.get Y=some ⟨29,2,[r.right.graph.c],false⟩)/\(Y<H.next)/\(H.get s=some ⟨53,38,[fF r m h (.own a x.graph.nodes.length) (.own b x.graph.edges.length) (.own V x.values.length) tr co],false⟩)/\(s<H.next)/\(i<=r.right.graph.nodes.length)/\(HH H 0 a b V qs x)/\(x=Fa t r (bdE h d tr d.edges.length) i)/\(∀ j∈a :: b :: V :: qs,j≠s)/\(∀ j∈qs,G.next<=j)/\(∀ j,H.next<=j->¬ H.al j)/\(∀ j,j<G.next->j∉[s,a,b,V]->H.get j=G.get j)/\(G.next<=H.next)):=⟨λi e H=>_,λ_ _ _=>Iff.rfl⟩
   refine oD I4 (λi=>r.right.graph.nodes.length - i) (0) ((hI4 _ _ _).2 ⟨(x),(qs),?_,?_,?_,?_,?_,?_,?_,?_,?_,?_,?_,(by first|assumption|omega|(simp [go_sem,hs,fF,Part.d,Part.c,Host.c,Graph.c,di1,fr2,di3,fr5,F2,di6,fr8];done)|(simp_all;done)),(by exact hh),(by exact hx5),(by exact hsq),(by exact hq0),(by exact hal),(by exact hG),(by exact hnx)⟩) ?_
   iterate 11 (first|omega|(simp [go_sem,seval,hs,fF,Part.d,Part.c,Host.c,Graph.c,di1,fr2,di3,fr5,F2,di6,fr8]<;>omega))
   intro i e H hi4
   obtain ⟨x,qs,q1_4,q3_4,q5_4,q7_4,q121_4,q122_4,q123_4,gY_4,nY_4,gs_4,ns_4,hi,hh,hx,hsq,hq0,hal,hG,hnx⟩:=(hI4 _ _ _).1 hi4
   have xY:=b8 nY_4
   have xs:=b8 ns_4
   have F4:=And.intro q1_4 (And.intro q3_4 (And.intro q5_4 (And.intro q7_4 (And.intro q121_4 (And.intro q122_4 (And.intro q123_4 (And.intro gY_4 (And.intro gs_4 (And.intro xY xs)))))))))
   have di9:=And.intro (dF (aD:Y≠V)) (And.intro (dF (aD:Y≠b)) (And.intro (dF (aD:Y≠a)) (And.intro (dF (aD:Y≠s)) (And.intro (dF (aD:V≠b)) (And.intro (dF (aD:V≠a)) (And.intro (dF (aD:V≠s)) (And.intro (dF (aD:b≠a)) (And.intro (dF (aD:b≠s)) (dF (aD:a≠s))))))))))
   try simp [go_sem,seval,hs,fF,Part.d,Part.c,Host.c,Graph.c,di1,fr2,di3,fr5,di6,fr8,F4,di9]
   refine aP (λh15=>?_) (λh15=>?_)
   .try simp [go_sem] at h15
    have hsu:=o7 r.into.nodes i
    obtain ⟨nd,hnd⟩:∃ y,y=r.right.graph.nodes[i]:=⟨_,rfl⟩
    have hgn:gN r.right.graph (i:Int)=nd:=by rw [hnd];simp [gN,aA h15]
    have hoL:=lS r.into.nodes i
    have hcb:i<co.nodes.length:=aD
    have hcc:=hcn i h15
    rw [aA hcb,Option.getD_some] at hcc
    have hxl:x.graph.nodes.length=d.nodes.length+(bJ r.into.nodes i).length/\x.values.length=x.graph.nodes.length/\x.graph.edges.length<=100:=by rw [hx];simp [Fa,bdE];omega
    have hga1:=hh.ga
    have hgV1:=hh.gV
    have hrl:=jF hh.len
    have hqa:=hh.rng a hh.a_in
    have hqV:=hh.rng V hh.V_in
    have hqb:=hh.rng b hh.b_in
    have fr10:=And.intro (b8 (aD:s<H.next)) (And.intro (b8 (aD:a<H.next)) (And.intro (b8 (aD:b<H.next)) (b8 (aD:V<H.next))))
    try simp [go_sem,seval,hs,fF,Part.d,Part.c,Host.c,Graph.c,di1,fr2,di3,fr5,di6,fr8,F4,di9,h15,aA h15,<- hnd,aA hcb,hga1,hgV1,hrl,fr10]
    repeat first|intro _|refine ⟨eL,?_⟩
    refine aP (λh17=>?_) (λh17=>?_)
    .try simp [go_sem] at h17
     have hm:mem r.into.nodes i=false:=hcc.1 (by simpa [hxl.1] using h17)
     rw [if_neg (by rw [hm];simp)] at hsu
     have hlv:(l9 t nd).length<=8:=by unfold l9;rw [aV];exact qB hR.vf nd
     obtain ⟨x2,hx2⟩:∃ y:Host,y=⟨⟨x.graph.nodes++[nd],x.graph.edges⟩,x.values++[l9 t nd]⟩:=⟨_,rfl⟩
     obtain ⟨qs2,hqs2⟩:∃ y,y=qs++[H.next]:=⟨_,rfl⟩
     have hx3:x2=Fa t r (bdE h d tr d.edges.length) (i+1):=by rw [hx2,hx];unfold Fa;rw [hsu];simp [hgn]
     have hx2l:x2.graph.nodes.length=x.graph.nodes.length+1/\x2.graph.edges.length=x.graph.edges.length/\x2.values.length=x.values.length+1:=by rw [hx2];simp
     have hWq:∀ j∈a :: b :: V :: qs,j≠H.next:=λj hj=>by have:=(hh.rng j hj).2;omega
     have hfrm:∀ j∈b :: qs,j≠a/\j≠s/\j≠V/\j<H.next:=λj hj=>by
      rcases aU.1 hj with rfl|hj
      .exact ⟨aD,aD,aD,hqb.2⟩
      .exact ⟨(hh.qn hj).1,hsq j (hh.q_in hj),(hh.qn hj).2.2,(hh.rng j (hh.q_in hj)).2⟩
     have hsq2:∀ j∈a :: b :: V :: qs2,j≠s:=λj hj=>by
      have e:a :: b :: V :: qs2=(a :: b :: V :: qs)++[H.next]:=by rw [hqs2];rfl
      rw [e,aW,bL] at hj
      rcases hj with hj|rfl
      .exact hsq j hj
      .omega
     have hq02:∀ j∈qs2,G.next<=j:=λj hj=>by
      rw [hqs2,aW,bL] at hj
      rcases hj with hj|rfl
      .exact hq0 j hj
      .omega
     try simp [go_sem,seval,hs,fF,Part.d,Part.c,Host.c,Graph.c,di1,fr2,di3,fr5,di6,fr8,F4,di9,h15,aA h15,<- hnd,aA hcb,hga1,hgV1,hrl,fr10,hx2l]
     repeat first|intro _|refine ⟨eL,?_⟩
     refine Ed H.next (Fq t ht nd) (by first|rfl|(simp [go_sem];done)) rfl (by first|omega|(simp [go_sem];done)|(first|(simp [go_sem];done)|(simp [go_sem];omega))) (by simp [pH,sX];exact hal _ aD) (by first|trivial|(simp [go_sem];done)|(simp [go_sem,chk];done)|(simp [go_sem,chk];omega)) ?_
     try simp [go_sem,seval,hs,fF,Part.d,Part.c,Host.c,Graph.c,di1,fr2,di3,fr5,di6,fr8,F4,di9,h15,aA h15,<- hnd,aA hcb,hga1,hgV1,hrl,fr10,hx2l]
     repeat first|intro _|refine ⟨eL,?_⟩
     refine d7 (i+1) aD ((hI4 _ _ _).2 ⟨(x2),(qs2),?_,?_,?_,?_,?_,?_,?_,?_,?_,?_,?_,(by first|assumption|omega|(simp [go_sem,hs,fF,Part.d,Part.c,Host.c,Graph.c,di1,fr2,di3,fr5,di6,fr8,F4,di9,h15,aA h15,<- hnd,aA hcb,hga1,hgV1,hrl,fr10,hx2l,h3,h9,h17];done)|(simp_all<;>omega)),(by first|exact hh2|exact hh2.same (by first|(simp [go_sem];done)|(simp [go_sem];omega)) (λ_ _=>rfl)|exact hh2.same (by first|(simp [go_sem];done)|(simp [go_sem];omega)) (λj hj=>by have:=(hh2.rng j hj).2;simp [go_sem,b8 this])|(rw [hx2,hqs2];exact hh.nodeRow (by first|(simp [go_sem];done)|(simp [go_sem];omega)) (dY _) hWq (by first|(simp [go_sem];done)|(simp [go_sem];omega)) (by simp [go_sem,hs,fF,Part.d,Part.c,Host.c,Graph.c,di1,fr2,di3,fr5,di6,fr8,F4,di9,h15,aA h15,<- hnd,aA hcb,hga1,hgV1,hrl,fr10,hx2l,cI]) (by simp [go_sem,hs,fF,Part.d,Part.c,Host.c,Graph.c,di1,fr2,di3,fr5,di6,fr8,F4,di9,h15,aA h15,<- hnd,aA hcb,hga1,hgV1,hrl,fr10,hx2l]) (by simp [go_sem,hs,fF,Part.d,Part.c,Host.c,Graph.c,di1,fr2,di3,fr5,di6,fr8,F4,di9,h15,aA h15,<- hnd,aA hcb,hga1,hgV1,hrl,fr10,hx2l]) (λj hj=>by obtain ⟨k1,k2,k3,k4⟩:=hfrm j hj;simp [go_sem,k1,k2,k3,b8 k4]))),(by exact hx3),(by exact hsq2),(by exact hq02),(by intro j hj;simp [go_sem,pH,sX] at hj ⊢;first|exact ⟨aD,hal j aD⟩|exact hal j aD),(by first|exact hG2|(intro j hj hn;simp only [aU,fS,or_false,not_or] at hn;simp [go_sem,hn,b8 (aD:j<H.next)];exact hG j hj (by simp [hn]))),(by first|(simp [go_sem];done)|(simp [go_sem];omega))⟩)<;>first|omega|(simp [go_sem,seval,hs,fF,Part.d,Part.c,Host.c,Graph.c,di1,fr2,di3,fr5,di6,fr8,F4,di9,h15,aA h15,<- hnd,aA hcb,hga1,hgV1,hrl,fr10,hx2l]<;>omega)
    .try simp [go_sem] at h17
     have hm:mem r.into.nodes i=true:=by
      cases hmm:mem r.into.nodes i with
      | true=>rfl
      | false=>exact absurd (by simpa [hxl.1] using hcc.2 hmm) h17
     rw [if_pos hm,dE] at hsu
     obtain ⟨x2,hx2⟩:∃ y,y=x:=⟨_,rfl⟩
     obtain ⟨qs2,hqs2⟩:∃ y,y=qs:=⟨_,rfl⟩
     have hx3:x2=Fa t r (bdE h d tr d.edges.length) (i+1):=by rw [hx2,hx];unfold Fa;rw [hsu]
     have hh2:HH H 0 a b V qs2 x2:=by rw [hx2,hqs2];exact hh
     have hsq2:∀ j∈a :: b :: V :: qs2,j≠s:=by rw [hqs2];exact hsq
     have hq02:∀ j∈qs2,G.next<=j:=by rw [hqs2];exact hq0
     have hG2:=hG
     try simp [go_sem,seval,hs,fF,Part.d,Part.c,Host.c,Graph.c,di1,fr2,di3,fr5,di6,fr8,F4,di9,h15,aA h15,<- hnd,aA hcb,hga1,hgV1,hrl,fr10,hx2]
     repeat first|intro _|refine ⟨eL,?_⟩
     refine d7 (i+1) aD ((hI4 _ _ _).2 ⟨(x2),(qs2),?_,?_,?_,?_,?_,?_,?_,?_,?_,?_,?_,(by first|assumption|omega|(simp [go_sem,hs,fF,Part.d,Part.c,Host.c,Graph.c,di1,fr2,di3,fr5,di6,fr8,F4,di9,h15,aA h15,<- hnd,aA hcb,hga1,hgV1,hrl,fr10,hx2,h3,h9,h17];done)|(simp_all<;>omega)),(by first|exact hh2|exact hh2.same (by first|(simp [go_sem];done)|(simp [go_sem];omega)) (λ_ _=>rfl)|exact hh2.same (by first|(simp [go_sem];done)|(simp [go_sem];omega)) (λj hj=>by have:=(hh2.rng j hj).2;simp [go_sem,b8 this])|(rw [hx2,hqs2];exact hh.nodeRow (by first|(simp [go_sem];done)|(simp [go_sem];omega)) (dY _) hWq (by first|(simp [go_sem];done)|(simp [go_sem];omega)) (by simp [go_sem,hs,fF,Part.d,Part.c,Host.c,Graph.c,di1,fr2,di3,fr5,di6,fr8,F4,di9,h15,aA h15,<- hnd,aA hcb,hga1,hgV1,hrl,fr10,hx2,cI]) (by simp [go_sem,hs,fF,Part.d,Part.c,Host.c,Graph.c,di1,fr2,di3,fr5,di6,fr8,F4,di9,h15,aA h15,<- hnd,aA hcb,hga1,hgV1,hrl,fr10,hx2]) (by simp [go_sem,hs,fF,Part.d,Part.c,Host.c,Graph.c,di1,fr2,di3,fr5,di6,fr8,F4,di9,h15,aA h15,<- hnd,aA hcb,hga1,hgV1,hrl,fr10,hx2]) (λj hj=>by obtain ⟨k1,k2,k3,k4⟩:=hfrm j hj;simp [go_sem,k1,k2,k3,b8 k4]))),(by exact hx3),(by exact hsq2),(by exact hq02),(by intro j hj;simp [go_sem,pH,sX] at hj ⊢;first|exact ⟨aD,hal j aD⟩|exact hal j aD),(by first|exact hG2|(intro j hj hn;simp only [aU,fS,or_false,not_or] at hn;simp [go_sem,hn,b8 (aD:j<H.next)];exact hG j hj (by simp [hn]))),(by first|(simp [go_sem];done)|(simp [go_sem];omega))⟩)<;>first|omega|(simp [go_sem,seval,hs,fF,Part.d,Part.c,Host.c,Graph.c,di1,fr2,di3,fr5,di6,fr8,F4,di9,h15,aA h15,<- hnd,aA hcb,hga1,hgV1,hrl,fr10,hx2]<;>omega)
   .try simp [go_sem] at h15
    have hie:i=r.right.graph.nodes.length:=aD
    have hx6:x=OT t r co (Fa t r (bdE h d tr d.edges.length) r.right.graph.nodes.length) 0:=by rw [hx,hie];simp [OT,bJ]
    have fr11:=And.intro (b8 (aD:s<H.next)) (And.intro (b8 (aD:a<H.next)) (And.intro (b8 (aD:b<H.next)) (b8 (aD:V<H.next))))
    try simp [go_sem,seval,hs,fF,Part.d,Part.c,Host.c,Graph.c,di1,fr2,di3,fr5,di6,fr8,F4,di9,fr11]
    repeat first|intro _|refine ⟨eL,?_⟩
    obtain ⟨I6,hI6⟩:∃ I6:Nat->dJ->AHeap->Prop,∀ (i:Nat) (e:dJ) (H:AHeap),I6 i e H↔(∃ x:Host,(e 1=.ptr s 1 0 0)/\(e 3=.adr t.c)/\(e 5=.adr d.c)/\(e 174=.list (r.right.graph.edges.map Edge.c))/\(e 175=dI r.right.graph.edges.length)/\(e 176=dI i)/\(H.get s=some ⟨53,38,[fF r m h (.own a x.graph.nodes.length) (.own b x.graph.edges.length) (.own V x.values.length) tr co],false⟩)/\(s<H.next)/\(i<=r.right.graph.edges.length)/\(HH H 0 a b V qs x)/\(x=OT t r co (Fa t r (bdE h d tr d.edges.length) r.right.graph.nodes.length) i)/\(∀ j,j<G.next->j∉[s,a,b,V]->H.get j=G.get j)/\(G.next<=H.next)):=⟨λi e H=>_,λ_ _ _=>Iff.rfl⟩
    refine oD I6 (λi=>r.right.graph.edges.length - i) (0) ((hI6 _ _ _).2 ⟨(x),?_,?_,?_,?_,?_,?_,?_,?_,(by first|assumption|omega|(simp [go_sem,hs,fF,Part.d,Part.c,Host.c,Graph.c,di1,fr2,di3,fr5,di6,fr8,F4,di9,fr11];done)|(simp_all;done)),(by exact hh),(by exact hx6),(by exact hG),(by exact hnx)⟩) ?_
    iterate 8 (first|omega|(simp [go_sem,seval,hs,fF,Part.d,Part.c,Host.c,Graph.c,di1,fr2,di3,fr5,di6,fr8,F4,di9,fr11]<;>omega))
    intro i e H hi6
    obtain ⟨x,q1_6,q3_6,q5_6,q174_6,q175_6,q176_6,gs_6,ns_6,hi,hh,hx,hG,hnx⟩:=(hI6 _ _ _).1 hi6
    have xs:=b8 ns_6
    have F6:=And.intro q1_6 (And.intro q3_6 (And.intro q5_6 (And.intro q174_6 (And.intro q175_6 (And.intro q176_6 (And.intro gs_6 xs))))))
    have di12:=And.intro (dF (aD:V≠b)) (And.intro (dF (aD:V≠a)) (And.intro (dF (aD:V≠s)) (And.intro (dF (aD:b≠a)) (And.intro (dF (aD:b≠s)) (dF (aD:a≠s))))))
    try simp [go_sem,seval,hs,fF,Part.d,Part.c,Host.c,Graph.c,di1,fr2,di3,fr5,di6,fr8,di9,fr11,F6,di12]
    refine aP (λh22=>?_) (λh22=>?_)
    .try simp [go_sem] at h22
     have hsu:=o7 r.into.edges i
     obtain ⟨y,hy⟩:=cW (r.right.graph.edges[i])
     have hye2:r.right.graph.edges[i]?.getD cF=y:=by rw [hy,aA h22];rfl
     have hyi:=(hgi.2 _ (aC h22)).2
     rw [<- hy] at hyi
     have hyf:y.from_.toNat<co.nodes.length:=aD
     have hyt:y.to_.toNat<co.nodes.length:=aD
     have hoE:=lS r.into.edges i
     have hcb:i<co.edges.length:=aD
     have hcc:=hce i h22
     rw [aA hcb,Option.getD_some] at hcc
     have hxl:x.graph.edges.length=d.edges.length+(bJ r.into.edges i).length:=by rw [hx];simp [OT,Fa,bdE]
     have hgb1:=hh.gb
     have hqb:=hh.rng b hh.b_in
     have hqa:=hh.rng a hh.a_in
     have hqV:=hh.rng V hh.V_in
     have fr13:=And.intro (b8 (aD:s<H.next)) (And.intro (b8 (aD:a<H.next)) (And.intro (b8 (aD:b<H.next)) (b8 (aD:V<H.next))))
     try simp [go_sem,seval,hs,fF,Part.d,Part.c,Host.c,Graph.c,di1,fr2,di3,fr5,di6,fr8,di9,fr11,F6,di12,h22,aA h22,<- hy,aA hyf,aA hyt,aA hcb,hgb1,Edge.c,fr13]
     repeat first|intro _|refine ⟨eL,?_⟩
     refine aP (λh24=>?_) (λh24=>?_)
     .try simp [go_sem] at h24
      have hm:mem r.into.edges i=false:=hcc.1 (by simpa [hxl] using h24)
      rw [if_neg (by rw [hm];simp)] at hsu
      have hfr:freshE co y=⟨y.type,co.nodes[y.from_.toNat],co.nodes[y.to_.toNat]⟩:=by unfold freshE;rw [aA hyf,aA hyt];rfl
      obtain ⟨x2,hx2⟩:∃ z:Host,z=⟨⟨x.graph.nodes,x.graph.edges++[freshE co y]⟩,x.values⟩:=⟨_,rfl⟩
      have hx3:x2=OT t r co (Fa t r (bdE h d tr d.edges.length) r.right.graph.nodes.length) (i+1):=by rw [hx2,hx];unfold OT;rw [hsu];simp [hye2]
      have hx2l:x2.graph.nodes.length=x.graph.nodes.length/\x2.graph.edges.length=x.graph.edges.length+1/\x2.values.length=x.values.length:=by rw [hx2];simp
      have hfrm:∀ j∈a :: V :: qs,j≠b/\j≠s/\j<H.next:=λj hj=>by
       have hj':j∈a :: b :: V :: qs:=by simp only [aU] at hj ⊢;rcases hj with h|h|h<;>simp [h]
       refine ⟨?_,hsq j hj',(hh.rng j hj').2⟩
       rintro rfl
       have:=hh.nd;simp only [g5,aU,not_or] at this
       simp only [aU] at hj
       rcases hj with h|h|h
       .exact this.1.1 h.symm
       .exact this.2.1.1 h
       .exact this.2.1.2 h
      try simp [go_sem,seval,hs,fF,Part.d,Part.c,Host.c,Graph.c,di1,fr2,di3,fr5,di6,fr8,di9,fr11,F6,di12,h22,aA h22,<- hy,aA hyf,aA hyt,aA hcb,hgb1,Edge.c,fr13,hx2l]
      repeat first|intro _|refine ⟨eL,?_⟩
      refine d7 (i+1) aD ((hI6 _ _ _).2 ⟨(x2),?_,?_,?_,?_,?_,?_,?_,?_,(by first|assumption|omega|(simp [go_sem,hs,fF,Part.d,Part.c,Host.c,Graph.c,di1,fr2,di3,fr5,di6,fr8,di9,fr11,F6,di12,h22,aA h22,<- hy,aA hyf,aA hyt,aA hcb,hgb1,Edge.c,fr13,hx2l,h3,h9,h15,h24];done)|(simp_all<;>omega)),(by first|exact hh2|exact hh2.same (by first|(simp [go_sem];done)|(simp [go_sem];omega)) (λ_ _=>rfl)|exact hh2.same (by first|(simp [go_sem];done)|(simp [go_sem];omega)) (λj hj=>by have:=(hh2.rng j hj).2;simp [go_sem,b8 this])|(rw [hx2];exact hh.edges (by first|(simp [go_sem];done)|(simp [go_sem];omega)) (by simp [go_sem,hs,fF,Part.d,Part.c,Host.c,Graph.c,di1,fr2,di3,fr5,di6,fr8,di9,fr11,F6,di12,h22,aA h22,<- hy,aA hyf,aA hyt,aA hcb,hgb1,Edge.c,fr13,hx2l,hfr,Edge.c]) (λj hj=>by obtain ⟨k1,k2,k3⟩:=hfrm j hj;simp [go_sem,k1,k2,b8 k3]))),(by exact hx3),(by first|exact hG2|(intro j hj hn;simp only [aU,fS,or_false,not_or] at hn;simp [go_sem,hn,b8 (aD:j<H.next)];exact hG j hj (by simp [hn]))),(by first|(simp [go_sem];done)|(simp [go_sem];omega))⟩)<;>first|omega|(simp [go_sem,seval,hs,fF,Part.d,Part.c,Host.c,Graph.c,di1,fr2,di3,fr5,di6,fr8,di9,fr11,F6,di12,h22,aA h22,<- hy,aA hyf,aA hyt,aA hcb,hgb1,Edge.c,fr13,hx2l]<;>omega)
     .try simp [go_sem] at h24
      have hm:mem r.into.edges i=true:=by
       cases hmm:mem r.into.edges i with
       | true=>rfl
       | false=>exact absurd (by simpa [hxl] using hcc.2 hmm) h24
      rw [if_pos hm,dE] at hsu
      obtain ⟨x2,hx2⟩:∃ z,z=x:=⟨_,rfl⟩
      have hx3:x2=OT t r co (Fa t r (bdE h d tr d.edges.length) r.right.graph.nodes.length) (i+1):=by rw [hx2,hx];unfold OT;rw [hsu]
      have hh2:HH H 0 a b V qs x2:=by rw [hx2];exact hh
      have hG2:=hG
      try simp [go_sem,seval,hs,fF,Part.d,Part.c,Host.c,Graph.c,di1,fr2,di3,fr5,di6,fr8,di9,fr11,F6,di12,h22,aA h22,<- hy,aA hyf,aA hyt,aA hcb,hgb1,Edge.c,fr13,hx2]
      repeat first|intro _|refine ⟨eL,?_⟩
      refine d7 (i+1) aD ((hI6 _ _ _).2 ⟨(x2),?_,?_,?_,?_,?_,?_,?_,?_,(by first|assumption|omega|(simp [go_sem,hs,fF,Part.d,Part.c,Host.c,Graph.c,di1,fr2,di3,fr5,di6,fr8,di9,fr11,F6,di12,h22,aA h22,<- hy,aA hyf,aA hyt,aA hcb,hgb1,Edge.c,fr13,hx2,h3,h9,h15,h24];done)|(simp_all<;>omega)),(by first|exact hh2|exact hh2.same (by first|(simp [go_sem];done)|(simp [go_sem];omega)) (λ_ _=>rfl)|exact hh2.same (by first|(simp [go_sem];done)|(simp [go_sem];omega)) (λj hj=>by have:=(hh2.rng j hj).2;simp [go_sem,b8 this])|(rw [hx2];exact hh.edges (by first|(simp [go_sem];done)|(simp [go_sem];omega)) (by simp [go_sem,hs,fF,Part.d,Part.c,Host.c,Graph.c,di1,fr2,di3,fr5,di6,fr8,di9,fr11,F6,di12,h22,aA h22,<- hy,aA hyf,aA hyt,aA hcb,hgb1,Edge.c,fr13,hx2,hfr,Edge.c]) (λj hj=>by obtain ⟨k1,k2,k3⟩:=hfrm j hj;simp [go_sem,k1,k2,b8 k3]))),(by exact hx3),(by first|exact hG2|(intro j hj hn;simp only [aU,fS,or_false,not_or] at hn;simp [go_sem,hn,b8 (aD:j<H.next)];exact hG j hj (by simp [hn]))),(by first|(simp [go_sem];done)|(simp [go_sem];omega))⟩)<;>first|omega|(simp [go_sem,seval,hs,fF,Part.d,Part.c,Host.c,Graph.c,di1,fr2,di3,fr5,di6,fr8,di9,fr11,F6,di12,h22,aA h22,<- hy,aA hyf,aA hyt,aA hcb,hgb1,Edge.c,fr13,hx2]<;>omega)
    .try simp [go_sem] at h22
     have hX:x=jQ t r co (bdE h d tr d.edges.length):=by rw [hx,(aD:i=r.right.graph.edges.length)];rfl
     rw [hX] at hh
     try simp [go_sem,seval,hs,fF,Part.d,Part.c,Host.c,Graph.c,di1,fr2,di3,fr5,di6,fr8,di9,fr11,F6,di12,hX]
     exact hQ qs _ hh (by simp [go_sem,hs,fF,Part.d,Part.c,Host.c,Graph.c,di1,fr2,di3,fr5,di6,fr8,di9,fr11,F6,di12,hX]) hsq hq0 hG hnx
def lB (c:Part)(s:Slot):Int:=c.nodes[s.node.toNat]?.getD 0
def RA (c:Part)(vs:List Int)(F:FM)(s:Slot):FM:=JW F (lB c s) s.attr (c8 s.term vs)
def FA (c:Part)(vs:List Int)(l:List Slot):FM:=l.foldl (RA c vs) λ_ _=>none
theorem Qk (c:Part)(vs:List Int)(l:List Slot)(s:Slot):FA c vs (l++[s])=JW (FA c vs l) (lB c s) s.attr (c8 s.term vs):=by unfold FA;rw [Fe];rfl
theorem S5 (c:Part)(vs:List Int)(u v x:Int):∀ (l:List Slot) (F:FM),l.foldl (RA c vs) F u v=some x->(∃ s∈l,lB c s=u/\s.attr=v/\c8 s.term vs=x)\/F u v=some x
 | [],F,h=>.inr h
 | s :: l,F,h=>by
  rcases S5 c vs u v x l _ h with ⟨s',hs',e⟩|h'
  .exact .inl ⟨s',dC _ hs',e⟩
  .unfold RA JW at h'
   split at h'
   .rename_i he;exact .inl ⟨s,fN ..,he.1.symm,he.2.symm,by simpa using h'⟩
   .exact .inr h'
theorem Ai {c:Part}{vs:List Int}{l:List Slot}{u v x:Int}(h:FA c vs l u v=some x):∃ s∈l,lB c s=u/\s.attr=v/\c8 s.term vs=x:=by
 rcases S5 c vs u v x l _ h with h|h
 .exact h
 .cases h
theorem UG (c:Part)(vs:List Int)(u v:Int):∀ (l:List Slot) (F:FM),((∃ s∈l,lB c s=u/\s.attr=v)\/(F u v).isSome=true)->(l.foldl (RA c vs) F u v).isSome=true
 | [],F,h=>h.elim (λ⟨s,hs,_⟩=>by cases hs) id
 | s :: l,F,h=>UG c vs u v l _ (by
   by_cases he:lB c s=u/\s.attr=v
   .right;unfold RA JW;rw [if_pos ⟨he.1.symm,he.2.symm⟩];rfl
   .rcases h with ⟨s',hs',e⟩|h
    .rcases aU.1 hs' with rfl|h2
     .exact absurd e he
     .exact .inl ⟨s',h2,e⟩
    .right;unfold RA JW;split
     .rfl
     .exact h)
def VV (c:Part)(vs:List Int)(l:List Slot):Prop:=∀ s∈l,∀ s'∈l,lB c s=lB c s'->s.attr=s'.attr->c8 s.term vs=c8 s'.term vs
theorem Pr {c:Part}{vs:List Int}{l:List Slot}(h:VV c vs l){s:Slot}(hs:s∈l):FA c vs l (lB c s) s.attr=some (c8 s.term vs):=by
 have h1:=UG c vs (lB c s) s.attr l (λ_ _=>none) (.inl ⟨s,hs,rfl,rfl⟩)
 obtain ⟨x,hx⟩:=kZ.1 h1
 have hx':FA c vs l (lB c s) s.attr=some x:=hx
 obtain ⟨s',hs',e1,e2,e3⟩:=Ai hx'
 rw [hx',<- e3,h s' hs' s hs e1 e2]
theorem S7 {c:Part}{vs:List Int}{l:List Slot}(h:VV c vs l){s:Slot}(h1:∀ x,FA c vs l (lB c s) s.attr=some x->x=c8 s.term vs):VV c vs (l++[s]):=by
 have key:∀ s'∈l,lB c s'=lB c s->s'.attr=s.attr->c8 s'.term vs=c8 s.term vs:=λs' hs' e1 e2=>by
  have:=Pr h hs'
  rw [e1,e2] at this
  exact h1 _ this
 intro a ha b hb e1 e2
 rw [aW,bL] at ha hb
 rcases ha with ha|rfl<;>rcases hb with hb|rfl
 .exact h a ha b hb e1 e2
 .exact key a ha e1 e2
 .exact (key b hb e1.symm e2.symm).symm
 .rfl
theorem oW {c:Part}{s:Slot}:fI c s=(lB c s).toNat:=rfl
theorem SP {c:Part}{vs:List Int}{l:List Slot}{i:Nat}(hi:i<l.length){x:Int}(h:FA c vs (l.take i) (lB c l[i]) l[i].attr=some x)(hn:x≠c8 l[i].term vs):wR c vs l=true:=by
 obtain ⟨s',hs',e1,e2,e3⟩:=Ai h
 obtain ⟨k,hk,rfl⟩:=aO hs'
 rw [List.getElem_take] at e1 e2 e3
 have hki:k<i:=by simp at hk;omega
 have hkl:k<l.length:=aD
 rw [vS,aX]
 refine ⟨i,by simpa using hi,?_⟩
 rw [aX]
 refine ⟨k,by simpa using hki,?_⟩
 unfold uO Dr
 simp only [aA hkl,aA hi,oW,e1,e2,e3]
 simp [hn]
theorem Pd {c:Part}{vs:List Int}{l:List Slot}(hp:∀ s∈l,0<=lB c s)(h:VV c vs l):wR c vs l=false:=by
 rw [vS,bH]
 intro hT
 rw [aX] at hT
 obtain ⟨i,hi,hT⟩:=hT
 rw [aX] at hT
 obtain ⟨k,hk,hT⟩:=hT
 rw [bK] at hi hk
 have hkl:k<l.length:=aD
 unfold uO Dr at hT
 simp only [aA hkl,aA hi,oW,aQ,decide_eq_true_eq] at hT
 obtain ⟨h1,h2,h3⟩:=hT
 have a1:=hp _ (aC hkl)
 have a2:=hp _ (aC hi)
 have h1':(lB c l[k]).toNat=(lB c l[i]).toNat:=of_decide_eq_true h1
 have h2':l[k].attr=l[i].attr:=by simpa using h2
 have h3':c8 l[k].term vs≠c8 l[i].term vs:=by simpa using h3
 exact h3' (h _ (aC hkl) _ (aC hi) aD h2')
/-! ### the values that are set -/
def yP (F:FM)(dn:Int->Int->Bool)(vals:List (List Int)):List (List Int) :=
 (List.range vals.length).map λ(n:Nat)=>(List.range (vals[n]?.getD []).length).map λ(a:Nat)=>if dn n a=true then (F n a).getD 0 else (vals[n]?.getD [])[a]?.getD 0
theorem sE (F:FM)(dn:Int->Int->Bool)(vals:List (List Int)):(yP F dn vals).length=vals.length:=by simp [yP]
theorem qR (F:FM)(dn:Int->Int->Bool)(vals:List (List Int))(n:Nat):((yP F dn vals)[n]?.getD []).length=(vals[n]?.getD []).length:=by
 unfold yP
 by_cases hn:n<vals.length
 .simp [aN,oM hn]
 .rw [b7 (by simp;omega),b7 aD]
theorem yO (F:FM)(dn:Int->Int->Bool)(vals:List (List Int)){n a:Nat}(hn:n<vals.length)(ha:a<(vals[n]?.getD []).length):((yP F dn vals)[n]?.getD [])[a]?=some (if dn n a=true then (F n a).getD 0 else (vals[n]?.getD [])[a]?.getD 0):=by
 unfold yP
 rw [aN,oM hn,dQ,Option.getD_some,aN,oM ha,dQ]
theorem FK {x y:List (List Int)}(h1:x.length=y.length)(h2:∀ n:Nat,(x[n]?.getD []).length=(y[n]?.getD []).length)(h3:∀ n a:Nat,n<y.length->a<(y[n]?.getD []).length->(x[n]?.getD [])[a]?=(y[n]?.getD [])[a]?):x=y:=by
 apply fT h1
 intro n g1 g2
 have e1:x[n]?.getD []=x[n]:=by rw [aA g1];rfl
 have e2:y[n]?.getD []=y[n]:=by rw [aA g2];rfl
 have l1:=h2 n
 rw [e1,e2] at l1
 apply gL
 intro a
 by_cases ha:a<y[n].length
 .have:=h3 n a g2 (by rw [e2];exact ha)
  rwa [e1,e2] at this
 .rw [b7 aD,b7 aD]
theorem QU (F:FM)(vals:List (List Int)){dn:Int->Int->Bool}(h:∀ n a:Nat,n<vals.length->a<(vals[n]?.getD []).length->dn n a=false):yP F dn vals=vals:=by
 refine FK (sE _ _ _) (qR _ _ _) λn a hn ha=>?_
 rw [yO _ _ _ hn ha,if_neg (by rw [h n a hn ha];simp),aA ha];rfl
theorem GI {vals:List (List Int)}{u:Nat}(hu:u<vals.length)(r:List Int)(n:Nat):(vals.set u r)[n]?.getD []=if n=u then r else vals[n]?.getD []:=by
 rw [dZ]
 split
 .rename_i h;subst h;simp [hu]
 .rename_i h;rw [if_neg (λe=>h e.symm)]
theorem QS (F:FM)(vals:List (List Int)){dn dn':Int->Int->Bool}{u a:Nat}{x:Int}(hu:u<vals.length)(ha:a<(vals[u]?.getD []).length)(hx:F u a=some x)(hd:∀ n b:Nat,n<vals.length->b<(vals[n]?.getD []).length->dn' n b=(dn n b||(decide (n=u)&&decide (b=a)))) :
  (yP F dn vals).set u (((yP F dn vals)[u]?.getD []).set a x)=yP F dn' vals:=by
 have hu':u<(yP F dn vals).length:=by rw [sE];exact hu
 refine FK (by rw [g7,sE,sE]) (λn=>?_) λn b hn hb=>?_
 .rw [GI hu',qR]
  split
  .rename_i h;subst h;rw [g7,qR]
  .rw [qR]
 .rw [sE] at hn
  rw [qR] at hb
  rw [GI hu',yO _ _ _ hn hb,hd n b hn hb]
  split
  .rename_i h;subst h
   rw [dZ]
   by_cases hba:a=b
   .subst hba
    rw [if_pos rfl,if_pos (by rw [qR];exact ha),if_pos bW,hx];rfl
   .rw [if_neg hba,yO _ _ _ hn hb]
    congr 1
    rw [show decide (b=a)=false by simp;omega,Bool.and_false,qY]
  .rename_i h
   rw [yO _ _ _ hn hb]
   congr 1
   rw [show decide (n=u)=false by simp;omega,Eo,qY]
theorem Gd {c:Part}{vs:List Int}(vals:List (List Int)):∀ (i:Nat) (l:List Slot),l.length=i->(∀ s∈l,0<=lB c s/\fI c s<vals.length/\0<=s.attr/\s.attr<(vals[fI c s]?.getD []).length) ->
  ∀ n a:Nat,n<vals.length->a<(vals[n]?.getD []).length->((uE c vs l vals)[n]?.getD [])[a]?=some ((FA c vs l n a).getD ((vals[n]?.getD [])[a]?.getD 0))
 | 0,l,hl,hp,n,a,hn,ha=>by
  have:l=[]:=bP hl
  subst this
  show (vals[n]?.getD [])[a]?=_
  rw [aA ha];rfl
 | i+1,l,hl,hp,n,a,hn,ha=>by
  obtain ⟨l',s,rfl⟩:∃ l' s,l=l'++[s]:=⟨l.dropLast,l.getLast (by intro e;rw [e] at hl;cases hl),(List.dropLast_concat_getLast _).symm⟩
  have ih:=Gd (c:=c) (vs:=vs) vals i l' (by simp at hl;exact hl) (λs' hs'=>hp s' (List.mem_append_left _ hs'))
  obtain ⟨p1,p2,p3,p4⟩:=hp s bW
  obtain ⟨q1,q2⟩:=oZ c vs l' vals
  rw [IK,Qk,GI aD]
  unfold JW
  split
  .rename_i h
   rw [dZ]
   by_cases hsa:s.attr.toNat=a
   .rw [if_pos hsa,if_pos (by rw [q2];omega),if_pos ⟨by rw [h,oW];omega,aD⟩];rfl
   .rw [if_neg hsa,if_neg aD,<- h]
    exact ih n a hn ha
  .rename_i h
   rw [if_neg (by rw [oW] at h;omega)]
   exact ih n a hn ha
theorem QT {c:Part}{vs:List Int}{vals:List (List Int)}{l:List Slot}(hp:∀ s∈l,0<=lB c s/\fI c s<vals.length/\0<=s.attr/\s.attr<(vals[fI c s]?.getD []).length)
  {dn:Int->Int->Bool} (hd:∀ n a:Nat,n<vals.length->a<(vals[n]?.getD []).length->dn n a=(FA c vs l n a).isSome):yP (FA c vs l) dn vals=uE c vs l vals:=by
 obtain ⟨q1,q2⟩:=oZ c vs l vals
 refine FK (by rw [sE,q1]) (λn=>by rw [qR,q2]) λn a hn ha=>?_
 rw [q1] at hn
 rw [q2] at ha
 rw [yO _ _ _ hn ha,Gd vals _ l rfl hp n a hn ha,hd n a hn ha]
 cases FA c vs l n a<;>simp
@[go_sem] theorem VH:p7 (Value.map none)=.junk:=rfl
@[go_sem] theorem XK:jB (.const (Value.map none))=false:=rfl
theorem Sg:MapT Tryz.prog 288 292 3 :=
 TI Tryz.underlying288 Tryz.underlying3 Tryz.underlying292 ⟨rfl,rfl,rfl⟩ ⟨rfl,rfl,rfl⟩ (by kernel_rfl) (by kernel_rfl) (by kernel_rfl) ⟨Tryz.prog.types.size - 1,by have:0<Tryz.prog.types.size:=of_decide_eq_true (by kernel_rfl);omega⟩
  (Maps.Keyed.of_law (deep_law_laid (m:=2) (by kernel_rfl) aD (of_decide_eq_true (by kernel_rfl)) (by kernel_rfl) (by kernel_rfl))) (λw=>by kernel_rfl)
def abK (co:Part)(vs:List Int)(l:List Slot)(G:AHeap)(d:D)(H':AHeap)(g:MS):Prop :=
 (∀ j,j<G.next->H'.get j=G.get j)/\G.next<=H'.next /\
  ((wR co vs l=true/\∃ q,d=.tup [q,dI 11])\/(wR co vs l=false/\∃ b k,d=.tup [.cst (.map (some b)),dI 0]/\g=.mp b k (FA co vs l)))
theorem Hy (t:Types)(r:Rule)(hR:RuleV t r)(m:Mat)(h:Host)(x0:Host)(tr co:Part)(hP:PutOk t r x0 co)(hvl:m.vars.length=r.left.vars.toNat)(hvs:Sm m.vars)(a b0 V na nb nV:Nat)(G:AHeap) :
  GCalls Tryz.prog 292 3 244 [.agg (fF r m h (.own a na) (.own b0 nb) (.own V nV) tr co)] G (abK co m.vars r.right.slots G):=by
 obtain ⟨l,hl⟩:=cW (r.right.slots)
 have hsl:=hR.slots
 have hfew:=hR.few
 have hspot:=hP.spot
 have hattr:=hP.attr
 have hcl:=hP.cl
 have hPf:=hP.few
 rw [<- hl] at hsl hfew hspot hattr ⊢
 refine y8 Tryz.func244 rfl rfl (by exact aF rfl) ?_
 refine dO λK0 k0=>?_
 refine gF (c:=⟨λt=>t==6||t==9,λr=>match r with|8=>[(0,10),(1,10),(2,10),(3,10),(4,10),(5,10),(6,10),(7,10),(8,10)]|_=>[]⟩) Tz.mixed (by kernel_rfl) ?_
 simp [go_sem,seval,fF]
 repeat first|intro _|refine ⟨eL,?_⟩
 refine k0 _ _ _ ?_
 clear k0 K0
 refine dO λK1 k1=>?_
 refine WpG.region (OpsG.make Sg rfl rfl rfl λb=>?_)
 refine OpsG.all (md:=λ_=>false) rfl λR kR=>?_
 simp [go_sem,seval]
 refine kR _ _ (k1 _ _ _ ?_)
 clear kR R k1 K1
 refine dO λK3 k3=>?_
 refine dO λK2 k2=>?_
 refine gF (c:=⟨λt=>t==6||t==9,λr=>match r with|8=>[(0,10),(1,10),(2,10),(3,10),(4,10),(5,10),(6,10),(7,10),(8,10)]|_=>[]⟩) Tz.mixed (by kernel_rfl) ?_
 simp [go_sem,seval]
 repeat first|intro _|refine ⟨eL,?_⟩
 refine k2 _ _ _ ?_
 clear k2 K2
 refine WpG.block ?_
 obtain ⟨I,hI⟩:∃ I:Nat->MS->dJ->AHeap->Prop,∀ i g e H,I i g e H↔(e 1=.adr (fF r m h (.own a na) (.own b0 nb) (.own V nV) tr co)/\e 4=.cst (.map (some b))/\e 16=.list (l.map Slot.c)/\e 17=dI l.length/\e 18=dI i/\i<=l.length/\(∃ k,k<=i/\g=.mp b k (FA co m.vars (l.take i)))/\VV co m.vars (l.take i)/\(∀ j,j<G.next->H.get j=G.get j)/\G.next<=H.next):=⟨_,λ_ _ _ _=>Iff.rfl⟩
 refine WpG.loop I (λi=>l.length - i) 0 ((hI _ _ _ _).2 ⟨by simp [go_sem,fF,dLI],by simp [go_sem],by simp [go_sem,hl],by simp [go_sem,hl],by simp [go_sem],aD,⟨0,aD,by simp [FA]⟩,by intro s hs;simp at hs,by intro j hj;simp [go_sem],by simp [go_sem]⟩) λi g e H hi0=>?_
 obtain ⟨q1,q4,q16,q17,q18,hi,⟨k,hk,rfl⟩,hE,hG,hnx⟩:=(hI _ _ _ _).1 hi0
 refine dO λK1 k1=>?_
 refine gF (c:=⟨λt=>t==6||t==9,λr=>match r with|8=>[(0,10),(1,10),(2,10),(3,10),(4,10),(5,10),(6,10),(7,10),(8,10)]|_=>[]⟩) Tz.mixed (by kernel_rfl) ?_
 simp [go_sem,seval,q17,q18]
 repeat first|intro _|refine ⟨eL,?_⟩
 refine k1 _ _ _ ?_
 clear k1 K1
 refine dO λK1 k1=>?_
 refine WpG.cond (t:=decide (i<l.length)) (by simp [go_sem]) (λh3=>?_) (λh3=>?_)
 .refine WpG.skip ?_
  simp only [go_sem]
  refine k1 _ _ _ ?_
  clear k1 K1
  have h3':i<l.length:=of_decide_eq_true h3
  obtain ⟨x,hx⟩:=cW (l[i])
  have hxm:x∈l:=hx ▸ aC h3'
  obtain ⟨⟨n1,n2⟩,⟨a1,a2⟩,hT⟩:=hsl x hxm
  obtain ⟨s1,s2,s3⟩:=hspot x hxm
  obtain ⟨t1,t2⟩:=hattr x hxm
  have hnc:x.node.toNat<co.nodes.length:=aD
  have hkey:lB co x=co.nodes[x.node.toNat]:=by unfold lB;rw [aA hnc];rfl
  have hTs:=Fo (vs:=m.vars) (by rw [hvl];exact hT) hvs
  have hR1:CP (lB co x):=by rw [oW] at s2;exact ⟨by unfold lB;omega,by unfold lB at *;omega⟩
  have hR2:CP x.attr:=⟨aD,by have:=qB hR.vf (x0.graph.nodes[fI co x]?.getD 0);omega⟩
  have hR3:CP (c8 x.term m.vars):=⟨aD,aD⟩
  obtain ⟨v,hv⟩:=cW (c8 x.term m.vars)
  refine dO λK1 k1=>?_
  refine WpG.block ?_
  refine dO λK2 k2=>?_
  refine gF (c:=⟨λt=>t==6||t==9,λr=>match r with|8=>[(0,10),(1,10),(2,10),(3,10),(4,10),(5,10),(6,10),(7,10),(8,10)]|_=>[]⟩) Tz.mixed (by kernel_rfl) ?_
  simp [go_sem,seval,q16,q18,aA h3',<- hx,Slot.c]
  repeat first|intro _|refine ⟨eL,?_⟩
  refine k2 _ _ _ ?_
  clear k2 K2
  refine dO λK2 k2=>?_
  refine gF (c:=⟨λt=>t==6||t==9,λr=>match r with|8=>[(0,10),(1,10),(2,10),(3,10),(4,10),(5,10),(6,10),(7,10),(8,10)]|_=>[]⟩) Tz.mixed (by kernel_rfl) ?_
  simp [go_sem,seval,q1,fF,Slot.c]
  repeat first|intro _|refine ⟨eL,?_⟩
  refine aB (by have hq:=mT x.term m.vars (by rw [hvl];exact hT) hvs;rw [<- hv] at hq;unfold Term.c dLI at hq;exact hq) (by first|rfl|(simp [go_sem];done)) ?_
  simp [go_sem,seval]
  repeat first|intro _|refine ⟨eL,?_⟩
  refine k2 _ _ _ ?_
  clear k2 K2
  refine dO λK2 k2=>?_
  refine dO λK4 k4=>?_
  refine gF (c:=⟨λt=>t==6||t==9,λr=>match r with|8=>[(0,10),(1,10),(2,10),(3,10),(4,10),(5,10),(6,10),(7,10),(8,10)]|_=>[]⟩) Tz.mixed (by kernel_rfl) ?_
  simp [go_sem,seval]
  refine k4 _ _ _ ?_
  clear k4 K4
  refine WpG.cond (t:=false) (by simp [go_sem]) (λh=>by cases h) (λ_=>WpG.skip ?_)
  simp only [go_sem]
  refine k2 _ _ _ ?_
  clear k2 K2
  refine dO λK2 k2=>?_
  refine gF (c:=⟨λt=>t==6||t==9,λr=>match r with|8=>[(0,10),(1,10),(2,10),(3,10),(4,10),(5,10),(6,10),(7,10),(8,10)]|_=>[]⟩) Tz.mixed (by kernel_rfl) ?_
  simp [go_sem,seval,q1,fF,Slot.c,aA hnc,<- hkey]
  repeat first|intro _|refine ⟨eL,?_⟩
  refine k2 _ _ _ ?_
  clear k2 K2
  refine dO λK2 k2=>?_
  refine dO λK4 k4=>?_
  refine WpG.region ?_
  refine OpsG.take (md:=λt=>t==6||t==9) 2 rfl λR kR=>?_
  simp [go_sem,seval,q4]
  repeat first|intro _|refine ⟨eL,?_⟩
  refine kR _ _ ?_
  clear kR R
  refine RE (T:=288) Sg rfl rfl rfl rfl (by simp [go_sem]) (by simp [go_sem]) hR1 hR2 ?_
  refine OpsG.all (md:=λt=>t==6||t==9) rfl λR kR=>?_
  simp [go_sem,seval]
  repeat first|intro _|refine ⟨eL,?_⟩
  refine kR _ _ (k4 _ _ _ ?_)
  clear kR R k4 K4
  obtain ⟨o,ho⟩:=cW (FA co m.vars (l.take i) (lB co x) x.attr)
  refine dO λK4 k4=>?_
  refine gF (c:=⟨λt=>t==6||t==9,λr=>match r with|8=>[(0,10),(1,10),(2,10),(3,10),(4,10),(5,10),(6,10),(7,10),(8,10)]|_=>[]⟩) Tz.mixed (by kernel_rfl) ?_
  simp [go_sem,seval,<- ho]
  repeat first|intro _|refine ⟨eL,?_⟩
  refine k4 _ _ _ ?_
  clear k4 K4
  refine WpG.cond (t:=o.isSome&&o.getD 0 != v) (by simp [go_sem]) (λhc=>?_) (λhc=>?_)
  .refine dO λK5 k5=>?_
   refine gF (c:=⟨λt=>t==6||t==9,λr=>match r with|8=>[(0,10),(1,10),(2,10),(3,10),(4,10),(5,10),(6,10),(7,10),(8,10)]|_=>[]⟩) Tz.mixed (by kernel_rfl) ?_
   simp [go_sem,seval]
   refine k5 _ _ _ ?_
   clear k5 K5
   refine WpG.ret ?_
   simp [go_sem,QD]
   refine ⟨λj hj=>?_,?_,.inl ⟨?_,_,rfl⟩⟩
   .have fr1:=b8 (aD:j<H.next)
    simp [go_sem,fr1]
    exact hG j hj
   .simp [go_sem];omega
   .rw [aQ] at hc
    obtain ⟨y,hy⟩:=kZ.1 hc.1
    refine SP h3' (x:=y) (by rw [<- hx,<- ho,hy]) (λe=>?_)
    have h2:=hc.2
    rw [hy,<- hx,<- hv] at *
    simp [e] at h2
  .refine WpG.skip ?_
   simp only [go_sem]
   refine k2 _ _ _ ?_
   clear k2 K2
   refine WpG.region ?_
   refine OpsG.take (md:=λt=>t==6||t==9) 3 rfl λR kR=>?_
   simp [go_sem,seval,q4]
   repeat first|intro _|refine ⟨eL,?_⟩
   refine kR _ _ ?_
   clear kR R
   refine OpsG.store (T:=288) (c:=v) Sg rfl rfl rfl rfl (by simp [go_sem]) (by simp [go_sem]) (by simp [go_sem]) hR1 hR2 (hv ▸ hR3) aD ?_
   refine OpsG.all (md:=λt=>t==6||t==9) rfl λR kR=>?_
   simp [go_sem,seval]
   refine kR _ _ ?_
   clear kR R
   simp only [go_sem]
   refine k1 _ _ _ ?_
   clear k1 K1
   refine gF (c:=⟨λt=>t==6||t==9,λr=>match r with|8=>[(0,10),(1,10),(2,10),(3,10),(4,10),(5,10),(6,10),(7,10),(8,10)]|_=>[]⟩) Tz.mixed (by kernel_rfl) ?_
   simp [go_sem,seval,q18]
   repeat first|intro _|refine ⟨eL,?_⟩
   refine ⟨i+1,aD,(hI _ _ _ _).2 ⟨by simp [go_sem,q1],by simp [go_sem,q4],by simp [go_sem,q16],by simp [go_sem,q17],by simp [go_sem],aD,⟨k+1,aD,by rw [aE h3',Qk,<- hx,hv]⟩,?_,λj hj=>?_,by simp [go_sem];omega⟩⟩
   .rw [aE h3',<- hx]
    refine S7 hE λy hy=>?_
    rw [<- ho] at hy
    rw [hy] at hc
    simp at hc
    rw [hc,hv]
   .have fr1:=b8 (aD:j<H.next)
    simp [go_sem,fr1]
    exact hG j hj
 .refine WpG.exit ?_
  simp [go_sem]
  refine k3 _ _ _ ?_
  have hie:i=l.length:=by have:=of_decide_eq_false h3;omega
  rw [aG aD] at hE ⊢
  refine dO λK5 k5=>?_
  refine gF (c:=⟨λt=>t==6||t==9,λr=>match r with|8=>[(0,10),(1,10),(2,10),(3,10),(4,10),(5,10),(6,10),(7,10),(8,10)]|_=>[]⟩) Tz.mixed (by kernel_rfl) ?_
  simp [go_sem,seval,q4]
  refine k5 _ _ _ ?_
  clear k5 K5
  refine WpG.ret ?_
  simp [go_sem,QD]
  refine ⟨hG,hnx,.inr ⟨Pd (λs hs=>(hspot s hs).1) hE,b,k,by simp [go_sem],rfl⟩⟩
end Go.Abs
end
