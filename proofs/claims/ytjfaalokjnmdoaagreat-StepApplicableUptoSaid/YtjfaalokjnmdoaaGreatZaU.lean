/- The step of the program: build. · The step of the program: w -/
import Derived.Test.YtjfaalokjnmdoaaGreatZaF
import Derived.Test.YtjfaalokjnmdoaaGreatZaA
import Derived.Test.YtjfaalokjnmdoaaGreatZaT
set_option linter.unusedVariables false
set_option linter.unusedSimpArgs false
section
set_option maxRecDepth 100000
set_option maxHeartbeats 4000000
open Go Go.Proofs
namespace Go.Abs
theorem CQ (t:Types)(ht:t.ok)(k:Int):Own Tryz.prog 235 [t.d,dI k] 3 1 ((lS t k).map cI):=by
 have hal:=nO ht k
 refine Tz.oK ⟨fun t=>t==9||t==16,fun _=>[]⟩ Tryz.func235 rfl (fun Q hQ=>?_)
 have Y:=trivial
 refine wv (h:=aB (n4 t ht k) wl ?_)
 refine wo (h:=bB (fun i e H=>∃ xs:List Int,(e 2=.adr t.c∧e 17=.list ((bK t k).map Attr.c)∧e 18=dI (bK t k).length∧e 19=dI i∧e 7=.own 0 xs.length)∧(H.get 0=some ⟨3,1,xs.map cI,false⟩)∧(0<H.next)∧(i≤(bK t k).length)∧(xs=((bK t k).take i).map (fun a=>a.low))) (fun i=>(bK t k).length - i) 0 ⟨([]),wg,wn,wn,wi,(by rfl)⟩ fun I0 hI0 i e H hi0=>?_)
 obtain ⟨xs,E0,g0_0,n0_0,hi,hx⟩:=hi0
 have Y:=wa Y (wa E0 (wa g0_0 (bY n0_0)))
 refine cT (fun h4=>?_) fun h4=>?_
 ·have hxl:xs.length=i:=by rw [hx];simp;omega
  have Y:=wa Y (wa h4 (wa (aA h4) @Attr.c.eq_1))
  exact wo (h:=wx hI0 (i+1) ⟨(xs++[(bK t k)[i].low]),wg,wn,wn,wj,(by (rw [i5 _ h4,← hx]))⟩)
 ·have hX:xs=lS t k:=by rw [hx,jP _ (by omega)];rfl
  refine wv (h:=?_)
  exact hQ _ _ _ (by simp [go_sem,Y,hX,dLI]) (by simp [go_sem,Y,hX,dLI])
theorem HH.nodeRow {H H':AHeap}{lo a b V:Nat}{qs:List Nat}{x:Host}(h:HH H lo a b V qs x)(hn:H.next≤H'.next){q:Nat}{nd:Int}{v:List Int}(hlo:lo≤q)(hq:∀ j∈a :: b :: V :: qs,j≠q)(hq2:q<H'.next)
  (ga:H'.get a=some ⟨3,1,(x.graph.nodes++[nd]).map cI,false⟩) (gq:H'.get q=some ⟨3,1,v.map cI,false⟩) (gV:H'.get V=some ⟨34,1,jA qs x.values++[[.own q v.length]],false⟩) (hf:∀ j∈b :: qs,H'.get j=H.get j) :
  HH H' lo a b V (qs++[q]) ⟨⟨x.graph.nodes++[nd],x.graph.edges⟩,x.values++[v]⟩ where
 ga:=ga
 gb:=(hf b (by simp)).trans h.gb
 gV:=by rw [tF h.len];exact gV
 len:=by simp [h.len]
 gq i q' v' h1 h2:=by
  by_cases hi:i<qs.length
  ·rw [aR hi] at h1
   rw [aR (by rw [← h.len];exact hi)] at h2
   exact (hf q' (by simp [aH h1])).trans (h.gq i q' v' h1 h2)
  ·have h1':=(aL.1 h1).1
   have:i=qs.length:=by simp at h1';omega
   subst this
   simp at h1
   rw [h.len] at h2;simp at h2
   subst h1 h2;exact gq
 nd:=by
  have:=h.nd
  have e:a :: b :: V :: (qs++[q])=(a :: b :: V :: qs)++[q]:=rfl
  rw [e,oJ]
  exact ⟨this,by simp,fun y hy z hz=>by rw [bL] at hz;subst hz;exact hq y hy⟩
 rng j hj:=by
  have e:a :: b :: V :: (qs++[q])=(a :: b :: V :: qs)++[q]:=rfl
  rw [e,aW,bL] at hj
  rcases hj with hj|rfl
  ·exact ⟨(h.rng j hj).1,bP (h.rng j hj).2 hn⟩
  ·exact ⟨hlo,hq2⟩
def d9 (r:Rule)(m:Mat)(h:Host)(A B C:D)(tr co:Part):List D:=[.str r.name,dLI r.left.graph.nodes,.list (r.left.graph.edges.map Edge.c),.list (r.left.slots.map Slot.c),dI r.left.vars,.list (r.left.tests.map Test.c),
 dLI r.right.graph.nodes,.list (r.right.graph.edges.map Edge.c),.list (r.right.slots.map Slot.c),dI r.right.vars,.list (r.right.tests.map Test.c),
 dLI r.keep.nodes,dLI r.keep.edges,dLI r.into.nodes,dLI r.into.edges,.bool r.inj,
 dI r.cond.kind,.list (r.cond.kids.map Cond.c),dLI r.cond.map.nodes,dLI r.cond.map.edges,dLI r.cond.pattern.graph.nodes,.list (r.cond.pattern.graph.edges.map Edge.c),.list (r.cond.pattern.slots.map Slot.c),dI r.cond.pattern.vars,.list (r.cond.pattern.tests.map Test.c),
 dLI m.m.nodes,dLI m.m.edges,dLI m.vars,dLI h.graph.nodes,.list (h.graph.edges.map Edge.c),.list (h.values.map cL),A,B,C,dLI tr.nodes,dLI tr.edges,dLI co.nodes,dLI co.edges]
def RW (h:Host)(tr:Part)(k:Int):Edge:=⟨(eA h.graph k).type,iA tr.nodes (eA h.graph k).from_,iA tr.nodes (eA h.graph k).to_⟩
def RL (h:Host)(d:Part)(i:Nat):Host:=⟨⟨(d.nodes.take i).map (gN h.graph),[]⟩,(d.nodes.take i).map fun k=>h.values[k.toNat]?.getD []⟩
def bdE (h:Host)(d tr:Part)(i:Nat):Host:=⟨⟨d.nodes.map (gN h.graph),(d.edges.take i).map (RW h tr)⟩,d.nodes.map fun k=>h.values[k.toNat]?.getD []⟩
theorem On (h:Host)(d tr:Part){i:Nat}(hi:d.nodes.length≤i):bdE h d tr 0=RL h d i:=by unfold bdE RL;rw [aJ hi];rfl
theorem J5 (t:Types)(ht:t.ok)(r:Rule)(hR:RuleV t r)(m:Mat)(h:Host)(ho:HostOk t h)(d tr co:Part)(hdn:∀ x∈d.nodes,0≤x∧x<h.graph.nodes.length)(hde:∀ x∈d.edges,0≤x∧x<h.graph.edges.length)
  (hdl:d.nodes.length≤40∧d.edges.length≤80) (htl:tr.nodes.length=h.graph.nodes.length) (hcl:co.nodes.length=r.right.graph.nodes.length∧co.edges.length=r.right.graph.edges.length)
  (hcn:∀ i,i<r.right.graph.nodes.length→(co.nodes[i]?.getD 0=((d.nodes.length+(b5 r.into.nodes i).length:Nat):Int)↔mem r.into.nodes i=false))
  (hce:∀ i,i<r.right.graph.edges.length→(co.edges[i]?.getD 0=((d.edges.length+(b5 r.into.edges i).length:Nat):Int)↔mem r.into.edges i=false))
  (s a b V:Nat) (G:AHeap) (hs:G.get s=some ⟨67,38,[d9 r m h (.own a 0) (.own b 0) (.own V 0) tr co],false⟩) (hh0:HH G 0 a b V [] ⟨⟨[],[]⟩,[]⟩) (hsn:s<G.next) (hsd:s≠a∧s≠b∧s≠V) (hal0:∀ j,G.next≤j→¬ G.al j) (Q:D→AHeap→Prop)
  (hQ:∀ qs H',HH H' 0 a b V qs (iH t r co (bdE h d tr d.edges.length))→H'.get s=some ⟨67,38,[d9 r m h (.own a (iH t r co (bdE h d tr d.edges.length)).graph.nodes.length) (.own b (iH t r co (bdE h d tr d.edges.length)).graph.edges.length) (.own V (iH t r co (bdE h d tr d.edges.length)).values.length) tr co],false⟩ →
   (∀ j∈a :: b :: V :: qs,j≠s)→(∀ j∈qs,G.next≤j)→(∀ j,j<G.next→j∉[s,a,b,V]→H'.get j=G.get j)→G.next≤H'.next→Q (.tup []) H') :
  ACalls Tryz.prog 142 [t.d,.ptr s 1 0 0,d.d] G Q:=by
 have hga:=bJ hR.gr
 have hgi:=dF hR.gr
 have hhg:=bJ ho.gg
 have hhi:=dF ho.gg
 have hvl:=ho.vl
 have ha0:=hh0.rng a hh0.a_in
 have hb0:=hh0.rng b hh0.b_in
 have hV0:=hh0.rng V hh0.V_in
 have hab:=hh0.ab
 obtain ⟨hs1,hs2,hs3⟩:=hsd
 refine (aG (cfg:=⟨fun t=>t==6||t==7||t==12||t==16||t==59||t==166||t==1000001,fun r=>match r with|1=>[(1,10),(2,10),(3,10),(5,10),(6,10),(7,10),(8,10),(9,10),(1,11),(2,11),(3,11),(5,11),(6,11),(7,11),(8,11),(9,11),(10,11),(5,12),(6,12),(7,12),(8,12),(9,12)]|5=>[(2,13),(3,13),(4,13),(5,13),(6,13)]|6=>[(2,6),(3,6),(4,6),(5,6),(6,7),(6,8),(6,10),(6,11),(2,12),(3,12),(4,12),(5,12),(2,13),(3,13),(4,13),(5,13)]|12=>[(2,28),(3,28),(4,28),(5,28),(6,28)]|19=>[(2,8),(3,8),(4,8),(5,8),(2,9),(3,9),(4,9),(5,9)]|25=>[(2,28),(3,28),(4,28),(5,28),(6,28)]|_=>[]⟩) Tz.mixed Tryz.func142 rfl rfl (aE rfl) (by kernel_rfl) ?_)
 have di1:=And.intro (cO (show V≠b by omega)) (And.intro (cO (show V≠a by omega)) (And.intro (cO (show V≠s by omega)) (And.intro (cO (show b≠a by omega)) (And.intro (cO (show b≠s by omega)) (cO (show a≠s by omega))))))
 have fr2:=And.intro (bY (show s<G.next by omega)) (And.intro (bY (show a<G.next by omega)) (And.intro (bY (show b<G.next by omega)) (bY (show V<G.next by omega))))
 try simp [go_sem,seval,hs,d9,Part.d,Part.c,Host.c,Graph.c,di1,fr2]
 repeat first|intro _|refine ⟨eM,?_⟩
 obtain ⟨I0,hI0⟩:∃ I0:Nat→cZ→AHeap→Prop,∀ (i:Nat) (e:cZ) (H:AHeap),I0 i e H↔(∃ X:Nat,∃ Y:Nat,∃ x:Host,∃ qs:List Nat,(e 1=.ptr s 1 0 0)∧(e 3=.adr t.c)∧(e 5=.adr d.c)∧(e 6=.ptr X 1 0 0)∧(e 7=.ptr Y 1 0 0)∧(e 28=dLI d.nodes)∧(e 29=dI d.nodes.length)∧(e 30=dI i)∧(H.get X=some ⟨40,3,[h.c],false⟩)∧(X<H.next)∧(H.get Y=some ⟨37,2,[r.right.graph.c],false⟩)∧(Y<H.next)∧(H.get s=some ⟨67,38,[d9 r m h (.own a x.graph.nodes.length) (.own b x.graph.edges.length) (.own V x.values.length) tr co],false⟩)∧(s<H.next)∧(i≤d.nodes.length)∧(HH H 0 a b V qs x)∧(x=RL h d i)∧(∀ j∈a :: b :: V :: qs,j≠s)∧(∀ j∈qs,G.next≤j)∧(∀ j,H.next≤j→¬ H.al j)∧(∀ j,j<G.next→j∉[s,a,b,V]→H.get j=G.get j)∧(G.next≤H.next)∧(G.next≤X∧X<Y)):=⟨fun i e H=>_,fun _ _ _=>Iff.rfl⟩
 refine q9 I0 (fun i=>d.nodes.length - i) (0) ((hI0 _ _ _).2 ⟨(G.next+10),(G.next+11),(⟨⟨[],[]⟩,[]⟩),([]),?_,?_,?_,?_,?_,?_,?_,?_,?_,?_,?_,?_,?_,?_,(by first|assumption|omega|(simp [go_sem,hs,d9,Part.d,Part.c,Host.c,Graph.c,di1,fr2];done)|(simp_all;done)),(by (exact hh0.same (by first|(simp [go_sem];done)|(simp [go_sem];omega)) (fun j hj=>by have:=(hh0.rng j hj).2;simp [go_sem,bY this]))),(by rfl),(by (intro j hj;simp at hj;omega)),(by (intro j hj;cases hj)),(by (intro j hj;simp [go_sem,mS,qC,Gs] at hj ⊢;exact ⟨by omega,by omega,hal0 j (by omega)⟩)),(by (intro j hj hn;simp [go_sem,bY hj])),(by (first|(simp [go_sem];done)|(simp [go_sem];omega))),(by omega)⟩) ?_
 iterate 14 (first|omega|(simp [go_sem,seval,hs,d9,Part.d,Part.c,Host.c,Graph.c,di1,fr2]<;>omega))
 intro i e H hi0
 obtain ⟨X,Y,x,qs,q1_0,q3_0,q5_0,q6_0,q7_0,q28_0,q29_0,q30_0,gX_0,nX_0,gY_0,nY_0,gs_0,ns_0,hi,hh,hx,hsq,hq0,hal,hG,hnx,hXY⟩:=(hI0 _ _ _).1 hi0
 have xX:=bY nX_0
 have xY:=bY nY_0
 have xs:=bY ns_0
 have F0:=And.intro q1_0 (And.intro q3_0 (And.intro q5_0 (And.intro q6_0 (And.intro q7_0 (And.intro q28_0 (And.intro q29_0 (And.intro q30_0 (And.intro gX_0 (And.intro gY_0 (And.intro gs_0 (And.intro xX (And.intro xY xs))))))))))))
 have di3:=And.intro (cO (show Y≠X by omega)) (And.intro (cO (show Y≠V by omega)) (And.intro (cO (show Y≠b by omega)) (And.intro (cO (show Y≠a by omega)) (And.intro (cO (show Y≠s by omega)) (And.intro (cO (show X≠V by omega)) (And.intro (cO (show X≠b by omega)) (And.intro (cO (show X≠a by omega)) (And.intro (cO (show X≠s by omega)) (And.intro (cO (show V≠b by omega)) (And.intro (cO (show V≠a by omega)) (And.intro (cO (show V≠s by omega)) (And.intro (cO (show b≠a by omega)) (And.intro (cO (show b≠s by omega)) (cO (show a≠s by omega)))))))))))))))
 try simp [go_sem,seval,hs,d9,Part.d,Part.c,Host.c,Graph.c,di1,fr2,F0,di3]
 refine aO (fun h3=>?_) (fun h3=>?_)
 ·try simp [go_sem] at h3
  obtain ⟨k,hk⟩:∃ y,y=d.nodes[i]:=⟨_,rfl⟩
  have hkb:=hdn _ (aC h3)
  rw [← hk] at hkb
  have hkn:k.toNat<h.graph.nodes.length:=by omega
  have hkv:k.toNat<h.values.length:=by omega
  obtain ⟨x2,hx2⟩:∃ y:Host,y=⟨⟨x.graph.nodes++[h.graph.nodes[k.toNat]],x.graph.edges⟩,x.values++[h.values[k.toNat]]⟩:=⟨_,rfl⟩
  have hx3:x2=RL h d (i+1):=by rw [hx2,hx];unfold RL;rw [aF h3,← hk];simp [gN,aA hkn,aA hkv]
  have hrow:(h.values[k.toNat]).length≤1000:=by
   have:=(ho.row _ (aC hkv)).1
   omega
  have hxl:x.graph.nodes.length=i∧x.graph.edges.length=0∧x.values.length=i:=by rw [hx];simp [RL];omega
  have hx2l:x2.graph.nodes.length=x.graph.nodes.length+1∧x2.graph.edges.length=x.graph.edges.length∧x2.values.length=x.values.length+1:=by rw [hx2];simp
  have hga1:=hh.ga
  have hgV1:=hh.gV
  have hrl:=g8 hh.len
  have hqa:=hh.rng a hh.a_in
  have hqV:=hh.rng V hh.V_in
  have hqb:=hh.rng b hh.b_in
  have hWq:∀ j∈a :: b :: V :: qs,j≠H.next+20+6:=fun j hj=>by have:=(hh.rng j hj).2;omega
  have hfrm:∀ j∈b :: qs,j≠a∧j≠s∧j≠V∧j<H.next:=fun j hj=>by
   rcases aS.1 hj with rfl|hj
   ·exact ⟨by omega,by omega,by omega,hqb.2⟩
   ·exact ⟨(hh.qn hj).1,hsq j (hh.q_in hj),(hh.qn hj).2.2,(hh.rng j (hh.q_in hj)).2⟩
  have hsq2:∀ j∈a :: b :: V :: (qs++[H.next+20+6]),j≠s:=fun j hj=>by
   have e:a :: b :: V :: (qs++[H.next+20+6])=(a :: b :: V :: qs)++[H.next+20+6]:=rfl
   rw [e,aW,bL] at hj
   rcases hj with hj|rfl
   ·exact hsq j hj
   ·omega
  have hq02:∀ j∈qs++[H.next+20+6],G.next≤j:=fun j hj=>by
   rw [aW,bL] at hj
   rcases hj with hj|rfl
   ·exact hq0 j hj
   ·omega
  have fr4:=And.intro (bY (show s<H.next by omega)) (And.intro (bY (show a<H.next by omega)) (And.intro (bY (show b<H.next by omega)) (bY (show V<H.next by omega))))
  try simp [go_sem,seval,hs,d9,Part.d,Part.c,Host.c,Graph.c,di1,fr2,F0,di3,h3,aA h3,← hk,aA hkn,aA hkv,hga1,hgV1,hrl,hx2l,cL,fr4]
  repeat first|intro _|refine ⟨eM,?_⟩
  refine eV (i+1) (by omega) ((hI0 _ _ _).2 ⟨(X),(Y),(x2),(qs++[H.next+20+6]),?_,?_,?_,?_,?_,?_,?_,?_,?_,?_,?_,?_,?_,?_,(by first|assumption|omega|(simp [go_sem,hs,d9,Part.d,Part.c,Host.c,Graph.c,di1,fr2,F0,di3,h3,aA h3,← hk,aA hkn,aA hkv,hga1,hgV1,hrl,hx2l,cL,fr4];done)|(simp_all<;>omega)),(by (rw [hx2];exact hh.nodeRow (by first|(simp [go_sem];done)|(simp [go_sem];omega)) (c8 _) hWq (by first|(simp [go_sem];done)|(simp [go_sem];omega)) (by simp [go_sem,hs,d9,Part.d,Part.c,Host.c,Graph.c,di1,fr2,F0,di3,h3,aA h3,← hk,aA hkn,aA hkv,hga1,hgV1,hrl,hx2l,cL,fr4,cI]) (by simp [go_sem,hs,d9,Part.d,Part.c,Host.c,Graph.c,di1,fr2,F0,di3,h3,aA h3,← hk,aA hkn,aA hkv,hga1,hgV1,hrl,hx2l,cL,fr4]) (by simp [go_sem,hs,d9,Part.d,Part.c,Host.c,Graph.c,di1,fr2,F0,di3,h3,aA h3,← hk,aA hkn,aA hkv,hga1,hgV1,hrl,hx2l,cL,fr4]) (fun j hj=>by obtain ⟨k1,k2,k3,k4⟩:=hfrm j hj;simp [go_sem,k1,k2,k3,bY k4]))),(by exact hx3),(by exact hsq2),(by exact hq02),(by (intro j hj;simp [go_sem,mS,qC] at hj ⊢;exact ⟨by omega,hal j (by omega)⟩)),(by (intro j hj hn;simp only [aS,eO,or_false,not_or] at hn;simp [go_sem,hn,bY (show j<H.next by omega)];exact hG j hj (by simp [hn]))),(by (first|(simp [go_sem];done)|(simp [go_sem];omega))),(by exact hXY)⟩)<;>first|omega|(simp [go_sem,seval,hs,d9,Part.d,Part.c,Host.c,Graph.c,di1,fr2,F0,di3,h3,aA h3,← hk,aA hkn,aA hkv,hga1,hgV1,hrl,hx2l,cL,fr4]<;>omega)
 ·try simp [go_sem] at h3
  have hx4:x=bdE h d tr 0:=by rw [hx,On _ _ _ (by omega)]
  have fr5:=And.intro (bY (show s<H.next by omega)) (And.intro (bY (show a<H.next by omega)) (And.intro (bY (show b<H.next by omega)) (bY (show V<H.next by omega))))
  try simp [go_sem,seval,hs,d9,Part.d,Part.c,Host.c,Graph.c,di1,fr2,F0,di3,fr5]
  repeat first|intro _|refine ⟨eM,?_⟩
  obtain ⟨I2,hI2⟩:∃ I2:Nat→cZ→AHeap→Prop,∀ (i:Nat) (e:cZ) (H:AHeap),I2 i e H↔(∃ x:Host,(e 1=.ptr s 1 0 0)∧(e 3=.adr t.c)∧(e 5=.adr d.c)∧(e 6=.ptr X 1 0 0)∧(e 7=.ptr Y 1 0 0)∧(e 73=dLI d.edges)∧(e 74=dI d.edges.length)∧(e 75=dI i)∧(H.get X=some ⟨40,3,[h.c],false⟩)∧(X<H.next)∧(H.get Y=some ⟨37,2,[r.right.graph.c],false⟩)∧(Y<H.next)∧(H.get s=some ⟨67,38,[d9 r m h (.own a x.graph.nodes.length) (.own b x.graph.edges.length) (.own V x.values.length) tr co],false⟩)∧(s<H.next)∧(i≤d.edges.length)∧(HH H 0 a b V qs x)∧(x=bdE h d tr i)∧(∀ j,H.next≤j→¬ H.al j)∧(∀ j,j<G.next→j∉[s,a,b,V]→H.get j=G.get j)∧(G.next≤H.next)):=⟨fun i e H=>_,fun _ _ _=>Iff.rfl⟩
  refine q9 I2 (fun i=>d.edges.length - i) (0) ((hI2 _ _ _).2 ⟨(x),?_,?_,?_,?_,?_,?_,?_,?_,?_,?_,?_,?_,?_,?_,(by first|assumption|omega|(simp [go_sem,hs,d9,Part.d,Part.c,Host.c,Graph.c,di1,fr2,F0,di3,fr5];done)|(simp_all;done)),(by (exact hh)),(by (exact hx4)),(by (exact hal)),(by (exact hG)),(by (exact hnx))⟩) ?_
  iterate 14 (first|omega|(simp [go_sem,seval,hs,d9,Part.d,Part.c,Host.c,Graph.c,di1,fr2,F0,di3,fr5]<;>omega))
  intro i e H hi2
  obtain ⟨x,q1_2,q3_2,q5_2,q6_2,q7_2,q73_2,q74_2,q75_2,gX_2,nX_2,gY_2,nY_2,gs_2,ns_2,hi,hh,hx,hal,hG,hnx⟩:=(hI2 _ _ _).1 hi2
  have xX:=bY nX_2
  have xY:=bY nY_2
  have xs:=bY ns_2
  have F2:=And.intro q1_2 (And.intro q3_2 (And.intro q5_2 (And.intro q6_2 (And.intro q7_2 (And.intro q73_2 (And.intro q74_2 (And.intro q75_2 (And.intro gX_2 (And.intro gY_2 (And.intro gs_2 (And.intro xX (And.intro xY xs))))))))))))
  have di6:=And.intro (cO (show Y≠X by omega)) (And.intro (cO (show Y≠V by omega)) (And.intro (cO (show Y≠b by omega)) (And.intro (cO (show Y≠a by omega)) (And.intro (cO (show Y≠s by omega)) (And.intro (cO (show X≠V by omega)) (And.intro (cO (show X≠b by omega)) (And.intro (cO (show X≠a by omega)) (And.intro (cO (show X≠s by omega)) (And.intro (cO (show V≠b by omega)) (And.intro (cO (show V≠a by omega)) (And.intro (cO (show V≠s by omega)) (And.intro (cO (show b≠a by omega)) (And.intro (cO (show b≠s by omega)) (cO (show a≠s by omega)))))))))))))))
  try simp [go_sem,seval,hs,d9,Part.d,Part.c,Host.c,Graph.c,di1,fr2,di3,fr5,F2,di6]
  refine aO (fun h9=>?_) (fun h9=>?_)
  ·try simp [go_sem] at h9
   obtain ⟨k,hk⟩:∃ y,y=d.edges[i]:=⟨_,rfl⟩
   have hkb:=hde _ (aC h9)
   rw [← hk] at hkb
   have hkn:k.toNat<h.graph.edges.length:=by omega
   obtain ⟨y,hy⟩:∃ y,y=h.graph.edges[k.toNat]:=⟨_,rfl⟩
   have hyi:=(hhi.2 _ (aC hkn)).2
   rw [← hy] at hyi
   have hyf:y.from_.toNat<tr.nodes.length:=by omega
   have hyt:y.to_.toNat<tr.nodes.length:=by omega
   have hyA:eA h.graph k=y:=by rw [hy];simp [eA,aA hkn]
   have htE:RW h tr k=⟨y.type,tr.nodes[y.from_.toNat],tr.nodes[y.to_.toNat]⟩:=by unfold RW;rw [hyA];simp [iA,aA hyf,aA hyt]
   obtain ⟨x2,hx2⟩:∃ z:Host,z=⟨⟨x.graph.nodes,x.graph.edges++[RW h tr k]⟩,x.values⟩:=⟨_,rfl⟩
   have hx3:x2=bdE h d tr (i+1):=by rw [hx2,hx];unfold bdE;rw [aF h9,← hk];simp
   have hxl:x.graph.edges.length=i:=by rw [hx];simp [bdE];omega
   have hx2l:x2.graph.nodes.length=x.graph.nodes.length∧x2.graph.edges.length=x.graph.edges.length+1∧x2.values.length=x.values.length:=by rw [hx2];simp
   have hgb1:=hh.gb
   have hqa:=hh.rng a hh.a_in
   have hqV:=hh.rng V hh.V_in
   have hqb:=hh.rng b hh.b_in
   have hfrm:∀ j∈a :: V :: qs,j≠b∧j≠s∧j<H.next:=fun j hj=>by
    have hj':j∈a :: b :: V :: qs:=by simp only [aS] at hj ⊢;rcases hj with h|h|h<;>simp [h]
    refine ⟨?_,hsq j hj',(hh.rng j hj').2⟩
    rintro rfl
    have:=hh.nd;simp only [fO,aS,not_or] at this
    simp only [aS] at hj
    rcases hj with h|h|h
    ·exact this.1.1 h.symm
    ·exact this.2.1.1 h
    ·exact this.2.1.2 h
   have fr7:=And.intro (bY (show s<H.next by omega)) (And.intro (bY (show a<H.next by omega)) (And.intro (bY (show b<H.next by omega)) (bY (show V<H.next by omega))))
   try simp [go_sem,seval,hs,d9,Part.d,Part.c,Host.c,Graph.c,di1,fr2,di3,fr5,F2,di6,h9,aA h9,← hk,aA hkn,← hy,aA hyf,aA hyt,hgb1,hx2l,Edge.c,fr7]
   repeat first|intro _|refine ⟨eM,?_⟩
   refine eV (i+1) (by omega) ((hI2 _ _ _).2 ⟨(x2),?_,?_,?_,?_,?_,?_,?_,?_,?_,?_,?_,?_,?_,?_,(by first|assumption|omega|(simp [go_sem,hs,d9,Part.d,Part.c,Host.c,Graph.c,di1,fr2,di3,fr5,F2,di6,h9,aA h9,← hk,aA hkn,← hy,aA hyf,aA hyt,hgb1,hx2l,Edge.c,fr7,h3];done)|(simp_all<;>omega)),(by (rw [hx2];exact hh.edges (by first|(simp [go_sem];done)|(simp [go_sem];omega)) (by simp [go_sem,hs,d9,Part.d,Part.c,Host.c,Graph.c,di1,fr2,di3,fr5,F2,di6,h9,aA h9,← hk,aA hkn,← hy,aA hyf,aA hyt,hgb1,hx2l,Edge.c,fr7,htE,Edge.c]) (fun j hj=>by obtain ⟨k1,k2,k3⟩:=hfrm j hj;simp [go_sem,k1,k2,bY k3]))),(by exact hx3),(by (intro j hj;simp [go_sem,mS,qC] at hj ⊢;first|exact ⟨by omega,hal j (by omega)⟩|exact hal j (by omega)|exact ⟨by omega,by omega,hal j (by omega)⟩)),(by (intro j hj hn;simp only [aS,eO,or_false,not_or] at hn;simp [go_sem,hn,bY (show j<H.next by omega)];exact hG j hj (by simp [hn]))),(by (first|(simp [go_sem];done)|(simp [go_sem];omega)))⟩)<;>first|omega|(simp [go_sem,seval,hs,d9,Part.d,Part.c,Host.c,Graph.c,di1,fr2,di3,fr5,F2,di6,h9,aA h9,← hk,aA hkn,← hy,aA hyf,aA hyt,hgb1,hx2l,Edge.c,fr7]<;>omega)
  ·try simp [go_sem] at h9
   have hx5:x=CA t r (bdE h d tr d.edges.length) 0:=by rw [hx,show i=d.edges.length by omega];simp [CA,b5]
   have fr8:=And.intro (bY (show s<H.next by omega)) (And.intro (bY (show a<H.next by omega)) (And.intro (bY (show b<H.next by omega)) (bY (show V<H.next by omega))))
   try simp [go_sem,seval,hs,d9,Part.d,Part.c,Host.c,Graph.c,di1,fr2,di3,fr5,F2,di6,fr8]
   repeat first|intro _|refine ⟨eM,?_⟩
   obtain ⟨I4,hI4⟩:∃ I4:Nat→cZ→AHeap→Prop,∀ (i:Nat) (e:cZ) (H:AHeap),I4 i e H↔(∃ x:Host,∃ qs:List Nat,(e 1=.ptr s 1 0 0)∧(e 3=.adr t.c)∧(e 5=.adr d.c)∧(e 7=.ptr Y 1 0 0)∧(e 121=dLI r.right.graph.nodes)∧(e 122=dI r.right.graph.nodes.length)∧(e 123=dI i)∧(H.get Y=some ⟨37,2,[r.right.graph.c],false⟩)∧(Y<H.next)∧(H.get s=some ⟨67,38,[d9 r m h (.own a x.graph.nodes.length) (.own b x.graph.edges.length) (.own V x.values.length) tr co],false⟩)∧(s<H.next)∧(i≤r.right.graph.nodes.length)∧(HH H 0 a b V qs x)∧(x=CA t r (bdE h d tr d.edges.length) i)∧(∀ j∈a :: b :: V :: qs,j≠s)∧(∀ j∈qs,G.next≤j)∧(∀ j,H.next≤j→¬ H.al j)∧(∀ j,j<G.next→j∉[s,a,b,V]→H.get j=G.get j)∧(G.next≤H.next)):=⟨fun i e H=>_,fun _ _ _=>Iff.rfl⟩
   refine q9 I4 (fun i=>r.right.graph.nodes.length - i) (0) ((hI4 _ _ _).2 ⟨(x),(qs),?_,?_,?_,?_,?_,?_,?_,?_,?_,?_,?_,(by first|assumption|omega|(simp [go_sem,hs,d9,Part.d,Part.c,Host.c,Graph.c,di1,fr2,di3,fr5,F2,di6,fr8];done)|(simp_all;done)),(by (exact hh)),(by (exact hx5)),(by (exact hsq)),(by (exact hq0)),(by (exact hal)),(by (exact hG)),(by (exact hnx))⟩) ?_
   iterate 11 (first|omega|(simp [go_sem,seval,hs,d9,Part.d,Part.c,Host.c,Graph.c,di1,fr2,di3,fr5,F2,di6,fr8]<;>omega))
   intro i e H hi4
   obtain ⟨x,qs,q1_4,q3_4,q5_4,q7_4,q121_4,q122_4,q123_4,gY_4,nY_4,gs_4,ns_4,hi,hh,hx,hsq,hq0,hal,hG,hnx⟩:=(hI4 _ _ _).1 hi4
   have xY:=bY nY_4
   have xs:=bY ns_4
   have F4:=And.intro q1_4 (And.intro q3_4 (And.intro q5_4 (And.intro q7_4 (And.intro q121_4 (And.intro q122_4 (And.intro q123_4 (And.intro gY_4 (And.intro gs_4 (And.intro xY xs)))))))))
   have di9:=And.intro (cO (show Y≠V by omega)) (And.intro (cO (show Y≠b by omega)) (And.intro (cO (show Y≠a by omega)) (And.intro (cO (show Y≠s by omega)) (And.intro (cO (show V≠b by omega)) (And.intro (cO (show V≠a by omega)) (And.intro (cO (show V≠s by omega)) (And.intro (cO (show b≠a by omega)) (And.intro (cO (show b≠s by omega)) (cO (show a≠s by omega))))))))))
   try simp [go_sem,seval,hs,d9,Part.d,Part.c,Host.c,Graph.c,di1,fr2,di3,fr5,di6,fr8,F4,di9]
   refine aO (fun h15=>?_) (fun h15=>?_)
   ·try simp [go_sem] at h15
    have hsu:=mJ r.into.nodes i
    obtain ⟨nd,hnd⟩:∃ y,y=r.right.graph.nodes[i]:=⟨_,rfl⟩
    have hgn:gN r.right.graph (i:Int)=nd:=by rw [hnd];simp [gN,aA h15]
    have hoL:=jL r.into.nodes i
    have hcb:i<co.nodes.length:=by omega
    have hcc:=hcn i h15
    rw [aA hcb,aD] at hcc
    have hxl:x.graph.nodes.length=d.nodes.length+(b5 r.into.nodes i).length∧x.values.length=x.graph.nodes.length∧x.graph.edges.length≤100:=by rw [hx];simp [CA,bdE];omega
    have hga1:=hh.ga
    have hgV1:=hh.gV
    have hrl:=g8 hh.len
    have hqa:=hh.rng a hh.a_in
    have hqV:=hh.rng V hh.V_in
    have hqb:=hh.rng b hh.b_in
    have fr10:=And.intro (bY (show s<H.next by omega)) (And.intro (bY (show a<H.next by omega)) (And.intro (bY (show b<H.next by omega)) (bY (show V<H.next by omega))))
    try simp [go_sem,seval,hs,d9,Part.d,Part.c,Host.c,Graph.c,di1,fr2,di3,fr5,di6,fr8,F4,di9,h15,aA h15,← hnd,aA hcb,hga1,hgV1,hrl,fr10]
    repeat first|intro _|refine ⟨eM,?_⟩
    refine aO (fun h17=>?_) (fun h17=>?_)
    ·try simp [go_sem] at h17
     have hm:mem r.into.nodes i=false:=hcc.1 (by simpa [hxl.1] using h17)
     rw [if_neg (by rw [hm];simp)] at hsu
     have hlv:(lS t nd).length≤8:=by unfold lS;rw [bW];exact p8 hR.vf nd
     obtain ⟨x2,hx2⟩:∃ y:Host,y=⟨⟨x.graph.nodes++[nd],x.graph.edges⟩,x.values++[lS t nd]⟩:=⟨_,rfl⟩
     obtain ⟨qs2,hqs2⟩:∃ y,y=qs++[H.next]:=⟨_,rfl⟩
     have hx3:x2=CA t r (bdE h d tr d.edges.length) (i+1):=by rw [hx2,hx];unfold CA;rw [hsu];simp [hgn]
     have hx2l:x2.graph.nodes.length=x.graph.nodes.length+1∧x2.graph.edges.length=x.graph.edges.length∧x2.values.length=x.values.length+1:=by rw [hx2];simp
     have hWq:∀ j∈a :: b :: V :: qs,j≠H.next:=fun j hj=>by have:=(hh.rng j hj).2;omega
     have hfrm:∀ j∈b :: qs,j≠a∧j≠s∧j≠V∧j<H.next:=fun j hj=>by
      rcases aS.1 hj with rfl|hj
      ·exact ⟨by omega,by omega,by omega,hqb.2⟩
      ·exact ⟨(hh.qn hj).1,hsq j (hh.q_in hj),(hh.qn hj).2.2,(hh.rng j (hh.q_in hj)).2⟩
     have hsq2:∀ j∈a :: b :: V :: qs2,j≠s:=fun j hj=>by
      have e:a :: b :: V :: qs2=(a :: b :: V :: qs)++[H.next]:=by rw [hqs2];rfl
      rw [e,aW,bL] at hj
      rcases hj with hj|rfl
      ·exact hsq j hj
      ·omega
     have hq02:∀ j∈qs2,G.next≤j:=fun j hj=>by
      rw [hqs2,aW,bL] at hj
      rcases hj with hj|rfl
      ·exact hq0 j hj
      ·omega
     try simp [go_sem,seval,hs,d9,Part.d,Part.c,Host.c,Graph.c,di1,fr2,di3,fr5,di6,fr8,F4,di9,h15,aA h15,← hnd,aA hcb,hga1,hgV1,hrl,fr10,hx2l]
     repeat first|intro _|refine ⟨eM,?_⟩
     refine BP H.next (CQ t ht nd) (by first|rfl|(simp [go_sem];done)) rfl (by first|omega|(simp [go_sem];done)|(first|(simp [go_sem];done)|(simp [go_sem];omega))) (by simp [mS,qC];exact hal _ (by omega)) (by first|trivial|(simp [go_sem];done)|(simp [go_sem,En];done)|(simp [go_sem,En];omega)) ?_
     try simp [go_sem,seval,hs,d9,Part.d,Part.c,Host.c,Graph.c,di1,fr2,di3,fr5,di6,fr8,F4,di9,h15,aA h15,← hnd,aA hcb,hga1,hgV1,hrl,fr10,hx2l]
     repeat first|intro _|refine ⟨eM,?_⟩
     refine eV (i+1) (by omega) ((hI4 _ _ _).2 ⟨(x2),(qs2),?_,?_,?_,?_,?_,?_,?_,?_,?_,?_,?_,(by first|assumption|omega|(simp [go_sem,hs,d9,Part.d,Part.c,Host.c,Graph.c,di1,fr2,di3,fr5,di6,fr8,F4,di9,h15,aA h15,← hnd,aA hcb,hga1,hgV1,hrl,fr10,hx2l,h3,h9,h17];done)|(simp_all<;>omega)),(by (first|exact hh2|exact hh2.same (by first|(simp [go_sem];done)|(simp [go_sem];omega)) (fun _ _=>rfl)|exact hh2.same (by first|(simp [go_sem];done)|(simp [go_sem];omega)) (fun j hj=>by have:=(hh2.rng j hj).2;simp [go_sem,bY this])|(rw [hx2,hqs2];exact hh.nodeRow (by first|(simp [go_sem];done)|(simp [go_sem];omega)) (c8 _) hWq (by first|(simp [go_sem];done)|(simp [go_sem];omega)) (by simp [go_sem,hs,d9,Part.d,Part.c,Host.c,Graph.c,di1,fr2,di3,fr5,di6,fr8,F4,di9,h15,aA h15,← hnd,aA hcb,hga1,hgV1,hrl,fr10,hx2l,cI]) (by simp [go_sem,hs,d9,Part.d,Part.c,Host.c,Graph.c,di1,fr2,di3,fr5,di6,fr8,F4,di9,h15,aA h15,← hnd,aA hcb,hga1,hgV1,hrl,fr10,hx2l]) (by simp [go_sem,hs,d9,Part.d,Part.c,Host.c,Graph.c,di1,fr2,di3,fr5,di6,fr8,F4,di9,h15,aA h15,← hnd,aA hcb,hga1,hgV1,hrl,fr10,hx2l]) (fun j hj=>by obtain ⟨k1,k2,k3,k4⟩:=hfrm j hj;simp [go_sem,k1,k2,k3,bY k4])))),(by exact hx3),(by exact hsq2),(by exact hq02),(by (intro j hj;simp [go_sem,mS,qC] at hj ⊢;first|exact ⟨by omega,hal j (by omega)⟩|exact hal j (by omega))),(by (first|exact hG2|(intro j hj hn;simp only [aS,eO,or_false,not_or] at hn;simp [go_sem,hn,bY (show j<H.next by omega)];exact hG j hj (by simp [hn])))),(by (first|(simp [go_sem];done)|(simp [go_sem];omega)))⟩)<;>first|omega|(simp [go_sem,seval,hs,d9,Part.d,Part.c,Host.c,Graph.c,di1,fr2,di3,fr5,di6,fr8,F4,di9,h15,aA h15,← hnd,aA hcb,hga1,hgV1,hrl,fr10,hx2l]<;>omega)
    ·try simp [go_sem] at h17
     have hm:mem r.into.nodes i=true:=by
      cases hmm:mem r.into.nodes i with
      | true=>rfl
      | false=>exact absurd (by simpa [hxl.1] using hcc.2 hmm) h17
     rw [if_pos hm,c5] at hsu
     obtain ⟨x2,hx2⟩:∃ y,y=x:=⟨_,rfl⟩
     obtain ⟨qs2,hqs2⟩:∃ y,y=qs:=⟨_,rfl⟩
     have hx3:x2=CA t r (bdE h d tr d.edges.length) (i+1):=by rw [hx2,hx];unfold CA;rw [hsu]
     have hh2:HH H 0 a b V qs2 x2:=by rw [hx2,hqs2];exact hh
     have hsq2:∀ j∈a :: b :: V :: qs2,j≠s:=by rw [hqs2];exact hsq
     have hq02:∀ j∈qs2,G.next≤j:=by rw [hqs2];exact hq0
     have hG2:=hG
     try simp [go_sem,seval,hs,d9,Part.d,Part.c,Host.c,Graph.c,di1,fr2,di3,fr5,di6,fr8,F4,di9,h15,aA h15,← hnd,aA hcb,hga1,hgV1,hrl,fr10,hx2]
     repeat first|intro _|refine ⟨eM,?_⟩
     refine eV (i+1) (by omega) ((hI4 _ _ _).2 ⟨(x2),(qs2),?_,?_,?_,?_,?_,?_,?_,?_,?_,?_,?_,(by first|assumption|omega|(simp [go_sem,hs,d9,Part.d,Part.c,Host.c,Graph.c,di1,fr2,di3,fr5,di6,fr8,F4,di9,h15,aA h15,← hnd,aA hcb,hga1,hgV1,hrl,fr10,hx2,h3,h9,h17];done)|(simp_all<;>omega)),(by (first|exact hh2|exact hh2.same (by first|(simp [go_sem];done)|(simp [go_sem];omega)) (fun _ _=>rfl)|exact hh2.same (by first|(simp [go_sem];done)|(simp [go_sem];omega)) (fun j hj=>by have:=(hh2.rng j hj).2;simp [go_sem,bY this])|(rw [hx2,hqs2];exact hh.nodeRow (by first|(simp [go_sem];done)|(simp [go_sem];omega)) (c8 _) hWq (by first|(simp [go_sem];done)|(simp [go_sem];omega)) (by simp [go_sem,hs,d9,Part.d,Part.c,Host.c,Graph.c,di1,fr2,di3,fr5,di6,fr8,F4,di9,h15,aA h15,← hnd,aA hcb,hga1,hgV1,hrl,fr10,hx2,cI]) (by simp [go_sem,hs,d9,Part.d,Part.c,Host.c,Graph.c,di1,fr2,di3,fr5,di6,fr8,F4,di9,h15,aA h15,← hnd,aA hcb,hga1,hgV1,hrl,fr10,hx2]) (by simp [go_sem,hs,d9,Part.d,Part.c,Host.c,Graph.c,di1,fr2,di3,fr5,di6,fr8,F4,di9,h15,aA h15,← hnd,aA hcb,hga1,hgV1,hrl,fr10,hx2]) (fun j hj=>by obtain ⟨k1,k2,k3,k4⟩:=hfrm j hj;simp [go_sem,k1,k2,k3,bY k4])))),(by exact hx3),(by exact hsq2),(by exact hq02),(by (intro j hj;simp [go_sem,mS,qC] at hj ⊢;first|exact ⟨by omega,hal j (by omega)⟩|exact hal j (by omega))),(by (first|exact hG2|(intro j hj hn;simp only [aS,eO,or_false,not_or] at hn;simp [go_sem,hn,bY (show j<H.next by omega)];exact hG j hj (by simp [hn])))),(by (first|(simp [go_sem];done)|(simp [go_sem];omega)))⟩)<;>first|omega|(simp [go_sem,seval,hs,d9,Part.d,Part.c,Host.c,Graph.c,di1,fr2,di3,fr5,di6,fr8,F4,di9,h15,aA h15,← hnd,aA hcb,hga1,hgV1,hrl,fr10,hx2]<;>omega)
   ·try simp [go_sem] at h15
    have hie:i=r.right.graph.nodes.length:=by omega
    have hx6:x=KO t r co (CA t r (bdE h d tr d.edges.length) r.right.graph.nodes.length) 0:=by rw [hx,hie];simp [KO,b5]
    have fr11:=And.intro (bY (show s<H.next by omega)) (And.intro (bY (show a<H.next by omega)) (And.intro (bY (show b<H.next by omega)) (bY (show V<H.next by omega))))
    try simp [go_sem,seval,hs,d9,Part.d,Part.c,Host.c,Graph.c,di1,fr2,di3,fr5,di6,fr8,F4,di9,fr11]
    repeat first|intro _|refine ⟨eM,?_⟩
    obtain ⟨I6,hI6⟩:∃ I6:Nat→cZ→AHeap→Prop,∀ (i:Nat) (e:cZ) (H:AHeap),I6 i e H↔(∃ x:Host,(e 1=.ptr s 1 0 0)∧(e 3=.adr t.c)∧(e 5=.adr d.c)∧(e 174=.list (r.right.graph.edges.map Edge.c))∧(e 175=dI r.right.graph.edges.length)∧(e 176=dI i)∧(H.get s=some ⟨67,38,[d9 r m h (.own a x.graph.nodes.length) (.own b x.graph.edges.length) (.own V x.values.length) tr co],false⟩)∧(s<H.next)∧(i≤r.right.graph.edges.length)∧(HH H 0 a b V qs x)∧(x=KO t r co (CA t r (bdE h d tr d.edges.length) r.right.graph.nodes.length) i)∧(∀ j,j<G.next→j∉[s,a,b,V]→H.get j=G.get j)∧(G.next≤H.next)):=⟨fun i e H=>_,fun _ _ _=>Iff.rfl⟩
    refine q9 I6 (fun i=>r.right.graph.edges.length - i) (0) ((hI6 _ _ _).2 ⟨(x),?_,?_,?_,?_,?_,?_,?_,?_,(by first|assumption|omega|(simp [go_sem,hs,d9,Part.d,Part.c,Host.c,Graph.c,di1,fr2,di3,fr5,di6,fr8,F4,di9,fr11];done)|(simp_all;done)),(by (exact hh)),(by (exact hx6)),(by (exact hG)),(by (exact hnx))⟩) ?_
    iterate 8 (first|omega|(simp [go_sem,seval,hs,d9,Part.d,Part.c,Host.c,Graph.c,di1,fr2,di3,fr5,di6,fr8,F4,di9,fr11]<;>omega))
    intro i e H hi6
    obtain ⟨x,q1_6,q3_6,q5_6,q174_6,q175_6,q176_6,gs_6,ns_6,hi,hh,hx,hG,hnx⟩:=(hI6 _ _ _).1 hi6
    have xs:=bY ns_6
    have F6:=And.intro q1_6 (And.intro q3_6 (And.intro q5_6 (And.intro q174_6 (And.intro q175_6 (And.intro q176_6 (And.intro gs_6 xs))))))
    have di12:=And.intro (cO (show V≠b by omega)) (And.intro (cO (show V≠a by omega)) (And.intro (cO (show V≠s by omega)) (And.intro (cO (show b≠a by omega)) (And.intro (cO (show b≠s by omega)) (cO (show a≠s by omega))))))
    try simp [go_sem,seval,hs,d9,Part.d,Part.c,Host.c,Graph.c,di1,fr2,di3,fr5,di6,fr8,di9,fr11,F6,di12]
    refine aO (fun h22=>?_) (fun h22=>?_)
    ·try simp [go_sem] at h22
     have hsu:=mJ r.into.edges i
     obtain ⟨y,hy⟩:∃ y,y=r.right.graph.edges[i]:=⟨_,rfl⟩
     have hye2:r.right.graph.edges[i]?.getD bQ=y:=by rw [hy,aA h22];rfl
     have hyi:=(hgi.2 _ (aC h22)).2
     rw [← hy] at hyi
     have hyf:y.from_.toNat<co.nodes.length:=by omega
     have hyt:y.to_.toNat<co.nodes.length:=by omega
     have hoE:=jL r.into.edges i
     have hcb:i<co.edges.length:=by omega
     have hcc:=hce i h22
     rw [aA hcb,aD] at hcc
     have hxl:x.graph.edges.length=d.edges.length+(b5 r.into.edges i).length:=by rw [hx];simp [KO,CA,bdE]
     have hgb1:=hh.gb
     have hqb:=hh.rng b hh.b_in
     have hqa:=hh.rng a hh.a_in
     have hqV:=hh.rng V hh.V_in
     have fr13:=And.intro (bY (show s<H.next by omega)) (And.intro (bY (show a<H.next by omega)) (And.intro (bY (show b<H.next by omega)) (bY (show V<H.next by omega))))
     try simp [go_sem,seval,hs,d9,Part.d,Part.c,Host.c,Graph.c,di1,fr2,di3,fr5,di6,fr8,di9,fr11,F6,di12,h22,aA h22,← hy,aA hyf,aA hyt,aA hcb,hgb1,Edge.c,fr13]
     repeat first|intro _|refine ⟨eM,?_⟩
     refine aO (fun h24=>?_) (fun h24=>?_)
     ·try simp [go_sem] at h24
      have hm:mem r.into.edges i=false:=hcc.1 (by simpa [hxl] using h24)
      rw [if_neg (by rw [hm];simp)] at hsu
      have hfr:freshE co y=⟨y.type,co.nodes[y.from_.toNat],co.nodes[y.to_.toNat]⟩:=by unfold freshE;rw [aA hyf,aA hyt];rfl
      obtain ⟨x2,hx2⟩:∃ z:Host,z=⟨⟨x.graph.nodes,x.graph.edges++[freshE co y]⟩,x.values⟩:=⟨_,rfl⟩
      have hx3:x2=KO t r co (CA t r (bdE h d tr d.edges.length) r.right.graph.nodes.length) (i+1):=by rw [hx2,hx];unfold KO;rw [hsu];simp [hye2]
      have hx2l:x2.graph.nodes.length=x.graph.nodes.length∧x2.graph.edges.length=x.graph.edges.length+1∧x2.values.length=x.values.length:=by rw [hx2];simp
      have hfrm:∀ j∈a :: V :: qs,j≠b∧j≠s∧j<H.next:=fun j hj=>by
       have hj':j∈a :: b :: V :: qs:=by simp only [aS] at hj ⊢;rcases hj with h|h|h<;>simp [h]
       refine ⟨?_,hsq j hj',(hh.rng j hj').2⟩
       rintro rfl
       have:=hh.nd;simp only [fO,aS,not_or] at this
       simp only [aS] at hj
       rcases hj with h|h|h
       ·exact this.1.1 h.symm
       ·exact this.2.1.1 h
       ·exact this.2.1.2 h
      try simp [go_sem,seval,hs,d9,Part.d,Part.c,Host.c,Graph.c,di1,fr2,di3,fr5,di6,fr8,di9,fr11,F6,di12,h22,aA h22,← hy,aA hyf,aA hyt,aA hcb,hgb1,Edge.c,fr13,hx2l]
      repeat first|intro _|refine ⟨eM,?_⟩
      refine eV (i+1) (by omega) ((hI6 _ _ _).2 ⟨(x2),?_,?_,?_,?_,?_,?_,?_,?_,(by first|assumption|omega|(simp [go_sem,hs,d9,Part.d,Part.c,Host.c,Graph.c,di1,fr2,di3,fr5,di6,fr8,di9,fr11,F6,di12,h22,aA h22,← hy,aA hyf,aA hyt,aA hcb,hgb1,Edge.c,fr13,hx2l,h3,h9,h15,h24];done)|(simp_all<;>omega)),(by (first|exact hh2|exact hh2.same (by first|(simp [go_sem];done)|(simp [go_sem];omega)) (fun _ _=>rfl)|exact hh2.same (by first|(simp [go_sem];done)|(simp [go_sem];omega)) (fun j hj=>by have:=(hh2.rng j hj).2;simp [go_sem,bY this])|(rw [hx2];exact hh.edges (by first|(simp [go_sem];done)|(simp [go_sem];omega)) (by simp [go_sem,hs,d9,Part.d,Part.c,Host.c,Graph.c,di1,fr2,di3,fr5,di6,fr8,di9,fr11,F6,di12,h22,aA h22,← hy,aA hyf,aA hyt,aA hcb,hgb1,Edge.c,fr13,hx2l,hfr,Edge.c]) (fun j hj=>by obtain ⟨k1,k2,k3⟩:=hfrm j hj;simp [go_sem,k1,k2,bY k3])))),(by exact hx3),(by (first|exact hG2|(intro j hj hn;simp only [aS,eO,or_false,not_or] at hn;simp [go_sem,hn,bY (show j<H.next by omega)];exact hG j hj (by simp [hn])))),(by (first|(simp [go_sem];done)|(simp [go_sem];omega)))⟩)<;>first|omega|(simp [go_sem,seval,hs,d9,Part.d,Part.c,Host.c,Graph.c,di1,fr2,di3,fr5,di6,fr8,di9,fr11,F6,di12,h22,aA h22,← hy,aA hyf,aA hyt,aA hcb,hgb1,Edge.c,fr13,hx2l]<;>omega)
     ·try simp [go_sem] at h24
      have hm:mem r.into.edges i=true:=by
       cases hmm:mem r.into.edges i with
       | true=>rfl
       | false=>exact absurd (by simpa [hxl] using hcc.2 hmm) h24
      rw [if_pos hm,c5] at hsu
      obtain ⟨x2,hx2⟩:∃ z,z=x:=⟨_,rfl⟩
      have hx3:x2=KO t r co (CA t r (bdE h d tr d.edges.length) r.right.graph.nodes.length) (i+1):=by rw [hx2,hx];unfold KO;rw [hsu]
      have hh2:HH H 0 a b V qs x2:=by rw [hx2];exact hh
      have hG2:=hG
      try simp [go_sem,seval,hs,d9,Part.d,Part.c,Host.c,Graph.c,di1,fr2,di3,fr5,di6,fr8,di9,fr11,F6,di12,h22,aA h22,← hy,aA hyf,aA hyt,aA hcb,hgb1,Edge.c,fr13,hx2]
      repeat first|intro _|refine ⟨eM,?_⟩
      refine eV (i+1) (by omega) ((hI6 _ _ _).2 ⟨(x2),?_,?_,?_,?_,?_,?_,?_,?_,(by first|assumption|omega|(simp [go_sem,hs,d9,Part.d,Part.c,Host.c,Graph.c,di1,fr2,di3,fr5,di6,fr8,di9,fr11,F6,di12,h22,aA h22,← hy,aA hyf,aA hyt,aA hcb,hgb1,Edge.c,fr13,hx2,h3,h9,h15,h24];done)|(simp_all<;>omega)),(by (first|exact hh2|exact hh2.same (by first|(simp [go_sem];done)|(simp [go_sem];omega)) (fun _ _=>rfl)|exact hh2.same (by first|(simp [go_sem];done)|(simp [go_sem];omega)) (fun j hj=>by have:=(hh2.rng j hj).2;simp [go_sem,bY this])|(rw [hx2];exact hh.edges (by first|(simp [go_sem];done)|(simp [go_sem];omega)) (by simp [go_sem,hs,d9,Part.d,Part.c,Host.c,Graph.c,di1,fr2,di3,fr5,di6,fr8,di9,fr11,F6,di12,h22,aA h22,← hy,aA hyf,aA hyt,aA hcb,hgb1,Edge.c,fr13,hx2,hfr,Edge.c]) (fun j hj=>by obtain ⟨k1,k2,k3⟩:=hfrm j hj;simp [go_sem,k1,k2,bY k3])))),(by exact hx3),(by (first|exact hG2|(intro j hj hn;simp only [aS,eO,or_false,not_or] at hn;simp [go_sem,hn,bY (show j<H.next by omega)];exact hG j hj (by simp [hn])))),(by (first|(simp [go_sem];done)|(simp [go_sem];omega)))⟩)<;>first|omega|(simp [go_sem,seval,hs,d9,Part.d,Part.c,Host.c,Graph.c,di1,fr2,di3,fr5,di6,fr8,di9,fr11,F6,di12,h22,aA h22,← hy,aA hyf,aA hyt,aA hcb,hgb1,Edge.c,fr13,hx2]<;>omega)
    ·try simp [go_sem] at h22
     have hX:x=iH t r co (bdE h d tr d.edges.length):=by rw [hx,show i=r.right.graph.edges.length by omega];rfl
     rw [hX] at hh
     try simp [go_sem,seval,hs,d9,Part.d,Part.c,Host.c,Graph.c,di1,fr2,di3,fr5,di6,fr8,di9,fr11,F6,di12,hX]
     exact hQ qs _ hh (by simp [go_sem,hs,d9,Part.d,Part.c,Host.c,Graph.c,di1,fr2,di3,fr5,di6,fr8,di9,fr11,F6,di12,hX]) hsq hq0 hG hnx
def j8 (c:Part)(s:Slot):Int:=c.nodes[s.node.toNat]?.getD 0
def Ni (c:Part)(vs:List Int)(F:FM)(s:Slot):FM:=GG F (j8 c s) s.attr (cC s.term vs)
def FA (c:Part)(vs:List Int)(l:List Slot):FM:=l.foldl (Ni c vs) fun _ _=>none
theorem L8 (c:Part)(vs:List Int)(l:List Slot)(s:Slot):FA c vs (l++[s])=GG (FA c vs l) (j8 c s) s.attr (cC s.term vs):=by unfold FA;rw [CD];rfl
theorem OD (c:Part)(vs:List Int)(u v x:Int):∀ (l:List Slot) (F:FM),l.foldl (Ni c vs) F u v=some x→(∃ s∈l,j8 c s=u∧s.attr=v∧cC s.term vs=x)∨F u v=some x
 | [],F,h=>.inr h
 | s :: l,F,h=>by
  rcases OD c vs u v x l _ h with ⟨s',hs',e⟩|h'
  ·exact .inl ⟨s',d8 _ hs',e⟩
  ·unfold Ni GG at h'
   split at h'
   ·rename_i he;exact .inl ⟨s,kC ..,he.1.symm,he.2.symm,by simpa using h'⟩
   ·exact .inr h'
theorem CF {c:Part}{vs:List Int}{l:List Slot}{u v x:Int}(h:FA c vs l u v=some x):∃ s∈l,j8 c s=u∧s.attr=v∧cC s.term vs=x:=by
 rcases OD c vs u v x l _ h with h|h
 ·exact h
 ·cases h
theorem P1 (c:Part)(vs:List Int)(u v:Int):∀ (l:List Slot) (F:FM),((∃ s∈l,j8 c s=u∧s.attr=v)∨(F u v).isSome=true)→(l.foldl (Ni c vs) F u v).isSome=true
 | [],F,h=>h.elim (fun ⟨s,hs,_⟩=>by cases hs) id
 | s :: l,F,h=>P1 c vs u v l _ (by
   by_cases he:j8 c s=u∧s.attr=v
   ·right;unfold Ni GG;rw [if_pos ⟨he.1.symm,he.2.symm⟩];rfl
   ·rcases h with ⟨s',hs',e⟩|h
    ·rcases aS.1 hs' with rfl|h2
     ·exact absurd e he
     ·exact .inl ⟨s',h2,e⟩
    ·right;unfold Ni GG;split
     ·rfl
     ·exact h)
def RO (c:Part)(vs:List Int)(l:List Slot):Prop:=∀ s∈l,∀ s'∈l,j8 c s=j8 c s'→s.attr=s'.attr→cC s.term vs=cC s'.term vs
theorem OC {c:Part}{vs:List Int}{l:List Slot}(h:RO c vs l){s:Slot}(hs:s∈l):FA c vs l (j8 c s) s.attr=some (cC s.term vs):=by
 have h1:=P1 c vs (j8 c s) s.attr l (fun _ _=>none) (.inl ⟨s,hs,rfl,rfl⟩)
 obtain ⟨x,hx⟩:=lE.1 h1
 have hx':FA c vs l (j8 c s) s.attr=some x:=hx
 obtain ⟨s',hs',e1,e2,e3⟩:=CF hx'
 rw [hx',← e3,h s' hs' s hs e1 e2]
theorem OE {c:Part}{vs:List Int}{l:List Slot}(h:RO c vs l){s:Slot}(h1:∀ x,FA c vs l (j8 c s) s.attr=some x→x=cC s.term vs):RO c vs (l++[s]):=by
 have key:∀ s'∈l,j8 c s'=j8 c s→s'.attr=s.attr→cC s'.term vs=cC s.term vs:=fun s' hs' e1 e2=>by
  have:=OC h hs'
  rw [e1,e2] at this
  exact h1 _ this
 intro a ha b hb e1 e2
 rw [aW,bL] at ha hb
 rcases ha with ha|rfl<;>rcases hb with hb|rfl
 ·exact h a ha b hb e1 e2
 ·exact key a ha e1 e2
 ·exact (key b hb e1.symm e2.symm).symm
 ·rfl
theorem mE {c:Part}{s:Slot}:eI c s=(j8 c s).toNat:=rfl
theorem Ol {c:Part}{vs:List Int}{l:List Slot}{i:Nat}(hi:i<l.length){x:Int}(h:FA c vs (l.take i) (j8 c l[i]) l[i].attr=some x)(hn:x≠cC l[i].term vs):tR c vs l=true:=by
 obtain ⟨s',hs',e1,e2,e3⟩:=CF h
 obtain ⟨k,hk,rfl⟩:=aN hs'
 rw [List.getElem_take] at e1 e2 e3
 have hki:k<i:=by simp at hk;omega
 have hkl:k<l.length:=by omega
 rw [sX,aU]
 refine ⟨i,by simpa using hi,?_⟩
 rw [aU]
 refine ⟨k,by simpa using hki,?_⟩
 unfold rT A3
 simp only [aA hkl,aA hi,mE,e1,e2,e3]
 simp [hn]
theorem Lc {c:Part}{vs:List Int}{l:List Slot}(hp:∀ s∈l,0≤j8 c s)(h:RO c vs l):tR c vs l=false:=by
 rw [sX,bH]
 intro hT
 rw [aU] at hT
 obtain ⟨i,hi,hT⟩:=hT
 rw [aU] at hT
 obtain ⟨k,hk,hT⟩:=hT
 rw [bZ] at hi hk
 have hkl:k<l.length:=by omega
 unfold rT A3 at hT
 simp only [aA hkl,aA hi,mE,aP,decide_eq_true_eq] at hT
 obtain ⟨h1,h2,h3⟩:=hT
 have a1:=hp _ (aC hkl)
 have a2:=hp _ (aC hi)
 have h1':(j8 c l[k]).toNat=(j8 c l[i]).toNat:=of_decide_eq_true h1
 have h2':l[k].attr=l[i].attr:=by simpa using h2
 have h3':cC l[k].term vs≠cC l[i].term vs:=by simpa using h3
 exact h3' (h _ (aC hkl) _ (aC hi) (by omega) h2')
/-! ### the values that are set -/
def vE (F:FM)(dn:Int→Int→Bool)(vals:List (List Int)):List (List Int) :=
 (List.range vals.length).map fun (n:Nat)=>(List.range (vals[n]?.getD []).length).map fun (a:Nat)=>if dn n a=true then (F n a).getD 0 else (vals[n]?.getD [])[a]?.getD 0
theorem pR (F:FM)(dn:Int→Int→Bool)(vals:List (List Int)):(vE F dn vals).length=vals.length:=by simp [vE]
theorem oA (F:FM)(dn:Int→Int→Bool)(vals:List (List Int))(n:Nat):((vE F dn vals)[n]?.getD []).length=(vals[n]?.getD []).length:=by
 unfold vE
 by_cases hn:n<vals.length
 ·simp [aQ,qI hn]
 ·rw [bM (by simp;omega),bM (by omega)]
theorem vD (F:FM)(dn:Int→Int→Bool)(vals:List (List Int)){n a:Nat}(hn:n<vals.length)(ha:a<(vals[n]?.getD []).length):((vE F dn vals)[n]?.getD [])[a]?=some (if dn n a=true then (F n a).getD 0 else (vals[n]?.getD [])[a]?.getD 0):=by
 unfold vE
 rw [aQ,qI hn,eD,aD,aQ,qI ha,eD]
theorem C6 {x y:List (List Int)}(h1:x.length=y.length)(h2:∀ n:Nat,(x[n]?.getD []).length=(y[n]?.getD []).length)(h3:∀ n a:Nat,n<y.length→a<(y[n]?.getD []).length→(x[n]?.getD [])[a]?=(y[n]?.getD [])[a]?):x=y:=by
 apply fU h1
 intro n g1 g2
 have e1:x[n]?.getD []=x[n]:=by rw [aA g1];rfl
 have e2:y[n]?.getD []=y[n]:=by rw [aA g2];rfl
 have l1:=h2 n
 rw [e1,e2] at l1
 apply fH
 intro a
 by_cases ha:a<y[n].length
 ·have:=h3 n a g2 (by rw [e2];exact ha)
  rwa [e1,e2] at this
 ·rw [bM (by omega),bM (by omega)]
theorem MF (F:FM)(vals:List (List Int)){dn:Int→Int→Bool}(h:∀ n a:Nat,n<vals.length→a<(vals[n]?.getD []).length→dn n a=false):vE F dn vals=vals:=by
 refine C6 (pR _ _ _) (oA _ _ _) fun n a hn ha=>?_
 rw [vD _ _ _ hn ha,if_neg (by rw [h n a hn ha];simp),aA ha];rfl
theorem DP {vals:List (List Int)}{u:Nat}(hu:u<vals.length)(r:List Int)(n:Nat):(vals.set u r)[n]?.getD []=if n=u then r else vals[n]?.getD []:=by
 rw [dE]
 split
 ·rename_i h;subst h;simp [hu]
 ·rename_i h;rw [if_neg (fun e=>h e.symm)]
theorem MD (F:FM)(vals:List (List Int)){dn dn':Int→Int→Bool}{u a:Nat}{x:Int}(hu:u<vals.length)(ha:a<(vals[u]?.getD []).length)(hx:F u a=some x)(hd:∀ n b:Nat,n<vals.length→b<(vals[n]?.getD []).length→dn' n b=(dn n b||(decide (n=u)&&decide (b=a)))) :
  (vE F dn vals).set u (((vE F dn vals)[u]?.getD []).set a x)=vE F dn' vals:=by
 have hu':u<(vE F dn vals).length:=by rw [pR];exact hu
 refine C6 (by rw [iS,pR,pR]) (fun n=>?_) fun n b hn hb=>?_
 ·rw [DP hu',oA]
  split
  ·rename_i h;subst h;rw [iS,oA]
  ·rw [oA]
 ·rw [pR] at hn
  rw [oA] at hb
  rw [DP hu',vD _ _ _ hn hb,hd n b hn hb]
  split
  ·rename_i h;subst h
   rw [dE]
   by_cases hba:a=b
   ·subst hba
    rw [if_pos rfl,if_pos (by rw [oA];exact ha),if_pos (by simp),hx];rfl
   ·rw [if_neg hba,vD _ _ _ hn hb]
    congr 1
    rw [show decide (b=a)=false by simp;omega,Bool.and_false,r3]
  ·rename_i h
   rw [vD _ _ _ hn hb]
   congr 1
   rw [show decide (n=u)=false by simp;omega,B1,r3]
theorem II {c:Part}{vs:List Int}(vals:List (List Int)):∀ (i:Nat) (l:List Slot),l.length=i→(∀ s∈l,0≤j8 c s∧eI c s<vals.length∧0≤s.attr∧s.attr<(vals[eI c s]?.getD []).length) →
  ∀ n a:Nat,n<vals.length→a<(vals[n]?.getD []).length→((rO c vs l vals)[n]?.getD [])[a]?=some ((FA c vs l n a).getD ((vals[n]?.getD [])[a]?.getD 0))
 | 0,l,hl,hp,n,a,hn,ha=>by
  have:l=[]:=bF hl
  subst this
  show (vals[n]?.getD [])[a]?=_
  rw [aA ha];rfl
 | i+1,l,hl,hp,n,a,hn,ha=>by
  obtain ⟨l',s,rfl⟩:∃ l' s,l=l'++[s]:=⟨l.dropLast,l.getLast (by intro e;rw [e] at hl;cases hl),(List.dropLast_concat_getLast _).symm⟩
  have ih:=II (c:=c) (vs:=vs) vals i l' (by simp at hl;exact hl) (fun s' hs'=>hp s' (List.mem_append_left _ hs'))
  obtain ⟨p1,p2,p3,p4⟩:=hp s (by simp)
  obtain ⟨q1,q2⟩:=pQ c vs l' vals
  rw [Fz,L8,DP (by omega)]
  unfold GG
  split
  ·rename_i h
   rw [dE]
   by_cases hsa:s.attr.toNat=a
   ·rw [if_pos hsa,if_pos (by rw [q2];omega),if_pos ⟨by rw [h,mE];omega,by omega⟩];rfl
   ·rw [if_neg hsa,if_neg (by omega),← h]
    exact ih n a hn ha
  ·rename_i h
   rw [if_neg (by rw [mE] at h;omega)]
   exact ih n a hn ha
theorem ME {c:Part}{vs:List Int}{vals:List (List Int)}{l:List Slot}(hp:∀ s∈l,0≤j8 c s∧eI c s<vals.length∧0≤s.attr∧s.attr<(vals[eI c s]?.getD []).length)
  {dn:Int→Int→Bool} (hd:∀ n a:Nat,n<vals.length→a<(vals[n]?.getD []).length→dn n a=(FA c vs l n a).isSome):vE (FA c vs l) dn vals=rO c vs l vals:=by
 obtain ⟨q1,q2⟩:=pQ c vs l vals
 refine C6 (by rw [pR,q1]) (fun n=>by rw [oA,q2]) fun n a hn ha=>?_
 rw [q1] at hn
 rw [q2] at ha
 rw [vD _ _ _ hn ha,II vals _ l rfl hp n a hn ha,hd n a hn ha]
 cases FA c vs l n a<;>simp
@[go_sem] theorem QS:nL (Value.map none)=.junk:=rfl
@[go_sem] theorem SM:gY (.const (Value.map none))=false:=rfl
theorem NR:MapT Tryz.prog 311 315 3 :=
 O6 Tryz.underlying311 Tryz.underlying3 Tryz.underlying315 ⟨rfl,rfl,rfl⟩ ⟨rfl,rfl,rfl⟩ (by kernel_rfl) (by kernel_rfl) (by kernel_rfl) ⟨Tryz.prog.types.size - 1,by have:0<Tryz.prog.types.size:=of_decide_eq_true (by kernel_rfl);omega⟩
  (Maps.Keyed.of_law (deep_law_laid (m:=2) (by kernel_rfl) (by omega) (of_decide_eq_true (by kernel_rfl)) (by kernel_rfl) (by kernel_rfl))) (fun w=>by kernel_rfl)
def VJ (co:Part)(vs:List Int)(l:List Slot)(G:AHeap)(d:D)(H':AHeap)(g:MS):Prop :=
 (∀ j,j<G.next→H'.get j=G.get j)∧G.next≤H'.next ∧
  ((tR co vs l=true∧∃ q,d=.tup [q,dI 11])∨(tR co vs l=false∧∃ b k,d=.tup [.cst (.map (some b)),dI 0]∧g=.mp b k (FA co vs l)))
theorem Ey (t:Types)(r:Rule)(hR:RuleV t r)(m:Mat)(h:Host)(x0:Host)(tr co:Part)(hP:PutOk t r x0 co)(hvl:m.vars.length=r.left.vars.toNat)(hvs:Sm m.vars)(a b0 V na nb nV:Nat)(G:AHeap) :
  GCalls Tryz.prog 315 3 236 [.agg (d9 r m h (.own a na) (.own b0 nb) (.own V nV) tr co)] G (VJ co m.vars r.right.slots G):=by
 obtain ⟨l,hl⟩:∃ l,l=r.right.slots:=⟨_,rfl⟩
 have hsl:=hR.slots
 have hfew:=hR.few
 have hspot:=hP.spot
 have hattr:=hP.attr
 have hcl:=hP.cl
 have hPf:=hP.few
 rw [← hl] at hsl hfew hspot hattr ⊢
 refine vQ Tryz.func236 rfl rfl (by exact aE rfl) ?_
 refine cR fun K0 k0=>?_
 refine fC (c:=⟨fun t=>t==6||t==9,fun r=>match r with|8=>[(0,10),(1,10),(2,10),(3,10),(4,10),(5,10),(6,10),(7,10),(8,10)]|_=>[]⟩) Tz.mixed (by kernel_rfl) ?_
 simp [go_sem,seval,d9]
 repeat first|intro _|refine ⟨eM,?_⟩
 refine k0 _ _ _ ?_
 clear k0 K0
 refine cR fun K1 k1=>?_
 refine WpG.region (OpsG.make NR rfl rfl rfl fun b=>?_)
 refine OpsG.all (md:=fun _=>false) rfl fun R kR=>?_
 simp [go_sem,seval]
 refine kR _ _ (k1 _ _ _ ?_)
 clear kR R k1 K1
 refine cR fun K3 k3=>?_
 refine cR fun K2 k2=>?_
 refine fC (c:=⟨fun t=>t==6||t==9,fun r=>match r with|8=>[(0,10),(1,10),(2,10),(3,10),(4,10),(5,10),(6,10),(7,10),(8,10)]|_=>[]⟩) Tz.mixed (by kernel_rfl) ?_
 simp [go_sem,seval]
 repeat first|intro _|refine ⟨eM,?_⟩
 refine k2 _ _ _ ?_
 clear k2 K2
 refine WpG.block ?_
 obtain ⟨I,hI⟩:∃ I:Nat→MS→cZ→AHeap→Prop,∀ i g e H,I i g e H↔(e 1=.adr (d9 r m h (.own a na) (.own b0 nb) (.own V nV) tr co)∧e 4=.cst (.map (some b))∧e 16=.list (l.map Slot.c)∧e 17=dI l.length∧e 18=dI i∧i≤l.length∧(∃ k,k≤i∧g=.mp b k (FA co m.vars (l.take i)))∧RO co m.vars (l.take i)∧(∀ j,j<G.next→H.get j=G.get j)∧G.next≤H.next):=⟨_,fun _ _ _ _=>Iff.rfl⟩
 refine WpG.loop I (fun i=>l.length - i) 0 ((hI _ _ _ _).2 ⟨by simp [go_sem,d9,dLI],by simp [go_sem],by simp [go_sem,hl],by simp [go_sem,hl],by simp [go_sem],by omega,⟨0,by omega,by simp [FA]⟩,by intro s hs;simp at hs,by intro j hj;simp [go_sem],by simp [go_sem]⟩) fun i g e H hi0=>?_
 obtain ⟨q1,q4,q16,q17,q18,hi,⟨k,hk,rfl⟩,hE,hG,hnx⟩:=(hI _ _ _ _).1 hi0
 refine cR fun K1 k1=>?_
 refine fC (c:=⟨fun t=>t==6||t==9,fun r=>match r with|8=>[(0,10),(1,10),(2,10),(3,10),(4,10),(5,10),(6,10),(7,10),(8,10)]|_=>[]⟩) Tz.mixed (by kernel_rfl) ?_
 simp [go_sem,seval,q17,q18]
 repeat first|intro _|refine ⟨eM,?_⟩
 refine k1 _ _ _ ?_
 clear k1 K1
 refine cR fun K1 k1=>?_
 refine WpG.cond (t:=decide (i<l.length)) (by simp [go_sem]) (fun h3=>?_) (fun h3=>?_)
 ·refine WpG.skip ?_
  simp only [go_sem]
  refine k1 _ _ _ ?_
  clear k1 K1
  have h3':i<l.length:=of_decide_eq_true h3
  obtain ⟨x,hx⟩:∃ x,x=l[i]:=⟨_,rfl⟩
  have hxm:x∈l:=hx ▸ aC h3'
  obtain ⟨⟨n1,n2⟩,⟨a1,a2⟩,hT⟩:=hsl x hxm
  obtain ⟨s1,s2,s3⟩:=hspot x hxm
  obtain ⟨t1,t2⟩:=hattr x hxm
  have hnc:x.node.toNat<co.nodes.length:=by omega
  have hkey:j8 co x=co.nodes[x.node.toNat]:=by unfold j8;rw [aA hnc];rfl
  have hTs:=CO (vs:=m.vars) (by rw [hvl];exact hT) hvs
  have hR1:Aw (j8 co x):=by rw [mE] at s2;exact ⟨by unfold j8;omega,by unfold j8 at *;omega⟩
  have hR2:Aw x.attr:=⟨by omega,by have:=p8 hR.vf (x0.graph.nodes[eI co x]?.getD 0);omega⟩
  have hR3:Aw (cC x.term m.vars):=⟨by omega,by omega⟩
  obtain ⟨v,hv⟩:∃ v,v=cC x.term m.vars:=⟨_,rfl⟩
  refine cR fun K1 k1=>?_
  refine WpG.block ?_
  refine cR fun K2 k2=>?_
  refine fC (c:=⟨fun t=>t==6||t==9,fun r=>match r with|8=>[(0,10),(1,10),(2,10),(3,10),(4,10),(5,10),(6,10),(7,10),(8,10)]|_=>[]⟩) Tz.mixed (by kernel_rfl) ?_
  simp [go_sem,seval,q16,q18,aA h3',← hx,Slot.c]
  repeat first|intro _|refine ⟨eM,?_⟩
  refine k2 _ _ _ ?_
  clear k2 K2
  refine cR fun K2 k2=>?_
  refine fC (c:=⟨fun t=>t==6||t==9,fun r=>match r with|8=>[(0,10),(1,10),(2,10),(3,10),(4,10),(5,10),(6,10),(7,10),(8,10)]|_=>[]⟩) Tz.mixed (by kernel_rfl) ?_
  simp [go_sem,seval,q1,d9,Slot.c]
  repeat first|intro _|refine ⟨eM,?_⟩
  refine aB (by have hq:=kU x.term m.vars (by rw [hvl];exact hT) hvs;rw [← hv] at hq;unfold Term.c dLI at hq;exact hq) (by first|rfl|(simp [go_sem];done)) ?_
  simp [go_sem,seval]
  repeat first|intro _|refine ⟨eM,?_⟩
  refine k2 _ _ _ ?_
  clear k2 K2
  refine cR fun K2 k2=>?_
  refine cR fun K4 k4=>?_
  refine fC (c:=⟨fun t=>t==6||t==9,fun r=>match r with|8=>[(0,10),(1,10),(2,10),(3,10),(4,10),(5,10),(6,10),(7,10),(8,10)]|_=>[]⟩) Tz.mixed (by kernel_rfl) ?_
  simp [go_sem,seval]
  refine k4 _ _ _ ?_
  clear k4 K4
  refine WpG.cond (t:=false) (by simp [go_sem]) (fun h=>by cases h) (fun _=>WpG.skip ?_)
  simp only [go_sem]
  refine k2 _ _ _ ?_
  clear k2 K2
  refine cR fun K2 k2=>?_
  refine fC (c:=⟨fun t=>t==6||t==9,fun r=>match r with|8=>[(0,10),(1,10),(2,10),(3,10),(4,10),(5,10),(6,10),(7,10),(8,10)]|_=>[]⟩) Tz.mixed (by kernel_rfl) ?_
  simp [go_sem,seval,q1,d9,Slot.c,aA hnc,← hkey]
  repeat first|intro _|refine ⟨eM,?_⟩
  refine k2 _ _ _ ?_
  clear k2 K2
  refine cR fun K2 k2=>?_
  refine cR fun K4 k4=>?_
  refine WpG.region ?_
  refine OpsG.take (md:=fun t=>t==6||t==9) 2 rfl fun R kR=>?_
  simp [go_sem,seval,q4]
  repeat first|intro _|refine ⟨eM,?_⟩
  refine kR _ _ ?_
  clear kR R
  refine Nm (T:=311) NR rfl rfl rfl rfl (by simp [go_sem]) (by simp [go_sem]) hR1 hR2 ?_
  refine OpsG.all (md:=fun t=>t==6||t==9) rfl fun R kR=>?_
  simp [go_sem,seval]
  repeat first|intro _|refine ⟨eM,?_⟩
  refine kR _ _ (k4 _ _ _ ?_)
  clear kR R k4 K4
  obtain ⟨o,ho⟩:∃ o,o=FA co m.vars (l.take i) (j8 co x) x.attr:=⟨_,rfl⟩
  refine cR fun K4 k4=>?_
  refine fC (c:=⟨fun t=>t==6||t==9,fun r=>match r with|8=>[(0,10),(1,10),(2,10),(3,10),(4,10),(5,10),(6,10),(7,10),(8,10)]|_=>[]⟩) Tz.mixed (by kernel_rfl) ?_
  simp [go_sem,seval,← ho]
  repeat first|intro _|refine ⟨eM,?_⟩
  refine k4 _ _ _ ?_
  clear k4 K4
  refine WpG.cond (t:=o.isSome&&o.getD 0 != v) (by simp [go_sem]) (fun hc=>?_) (fun hc=>?_)
  ·refine cR fun K5 k5=>?_
   refine fC (c:=⟨fun t=>t==6||t==9,fun r=>match r with|8=>[(0,10),(1,10),(2,10),(3,10),(4,10),(5,10),(6,10),(7,10),(8,10)]|_=>[]⟩) Tz.mixed (by kernel_rfl) ?_
   simp [go_sem,seval]
   refine k5 _ _ _ ?_
   clear k5 K5
   refine WpG.ret ?_
   simp [go_sem,Mp]
   refine ⟨fun j hj=>?_,?_,.inl ⟨?_,_,rfl⟩⟩
   ·have fr1:=bY (show j<H.next by omega)
    simp [go_sem,fr1]
    exact hG j hj
   ·simp [go_sem];omega
   ·rw [aP] at hc
    obtain ⟨y,hy⟩:=lE.1 hc.1
    refine Ol h3' (x:=y) (by rw [← hx,← ho,hy]) (fun e=>?_)
    have h2:=hc.2
    rw [hy,← hx,← hv] at *
    simp [e] at h2
  ·refine WpG.skip ?_
   simp only [go_sem]
   refine k2 _ _ _ ?_
   clear k2 K2
   refine WpG.region ?_
   refine OpsG.take (md:=fun t=>t==6||t==9) 3 rfl fun R kR=>?_
   simp [go_sem,seval,q4]
   repeat first|intro _|refine ⟨eM,?_⟩
   refine kR _ _ ?_
   clear kR R
   refine OpsG.store (T:=311) (c:=v) NR rfl rfl rfl rfl (by simp [go_sem]) (by simp [go_sem]) (by simp [go_sem]) hR1 hR2 (hv ▸ hR3) (by omega) ?_
   refine OpsG.all (md:=fun t=>t==6||t==9) rfl fun R kR=>?_
   simp [go_sem,seval]
   refine kR _ _ ?_
   clear kR R
   simp only [go_sem]
   refine k1 _ _ _ ?_
   clear k1 K1
   refine fC (c:=⟨fun t=>t==6||t==9,fun r=>match r with|8=>[(0,10),(1,10),(2,10),(3,10),(4,10),(5,10),(6,10),(7,10),(8,10)]|_=>[]⟩) Tz.mixed (by kernel_rfl) ?_
   simp [go_sem,seval,q18]
   repeat first|intro _|refine ⟨eM,?_⟩
   refine ⟨i+1,by omega,(hI _ _ _ _).2 ⟨by simp [go_sem,q1],by simp [go_sem,q4],by simp [go_sem,q16],by simp [go_sem,q17],by simp [go_sem],by omega,⟨k+1,by omega,by rw [aF h3',L8,← hx,hv]⟩,?_,fun j hj=>?_,by simp [go_sem];omega⟩⟩
   ·rw [aF h3',← hx]
    refine OE hE fun y hy=>?_
    rw [← ho] at hy
    rw [hy] at hc
    simp at hc
    rw [hc,hv]
   ·have fr1:=bY (show j<H.next by omega)
    simp [go_sem,fr1]
    exact hG j hj
 ·refine WpG.exit ?_
  simp [go_sem]
  refine k3 _ _ _ ?_
  have hie:i=l.length:=by have:=of_decide_eq_false h3;omega
  rw [aJ (by omega)] at hE ⊢
  refine cR fun K5 k5=>?_
  refine fC (c:=⟨fun t=>t==6||t==9,fun r=>match r with|8=>[(0,10),(1,10),(2,10),(3,10),(4,10),(5,10),(6,10),(7,10),(8,10)]|_=>[]⟩) Tz.mixed (by kernel_rfl) ?_
  simp [go_sem,seval,q4]
  refine k5 _ _ _ ?_
  clear k5 K5
  refine WpG.ret ?_
  simp [go_sem,Mp]
  refine ⟨hG,hnx,.inr ⟨Lc (fun s hs=>(hspot s hs).1) hE,b,k,by simp [go_sem],rfl⟩⟩
end Go.Abs
end
