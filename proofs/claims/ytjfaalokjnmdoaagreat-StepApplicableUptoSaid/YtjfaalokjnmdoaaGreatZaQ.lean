/- Layer 26 of the reference: put. · Layer 26, the plain law: w -/
import Derived.Test.YtjfaalokjnmdoaaGreatZaF
import Derived.Test.YtjfaalokjnmdoaaGreatZaA
import Derived.Test.YtjfaalokjnmdoaaGreatZaP
import Derived.Test.YtjfaalokjnmdoaaGreatZaN
set_option linter.unusedVariables false
set_option linter.unusedSimpArgs false
section
set_option maxRecDepth 100000
set_option maxHeartbeats 4000000
open Go Go.Proofs
namespace Go.Abs
theorem Fz (c:Part)(vs:List Int)(l:List Slot)(s:Slot)(vals:List (List Int)):rO c vs (l++[s]) vals=(rO c vs l vals).set (eI c s) (((rO c vs l vals)[eI c s]?.getD []).set s.attr.toNat (cC s.term vs)):=by unfold rO;rw [CD];rfl
theorem pQ (c:Part)(vs:List Int):∀ (l:List Slot) (vals:List (List Int)),(rO c vs l vals).length=vals.length∧∀ n:Nat,((rO c vs l vals)[n]?.getD []).length=(vals[n]?.getD []).length
 | [],vals=>⟨rfl,fun _=>rfl⟩
 | s :: l,vals=>by
  obtain ⟨h1,h2⟩:=pQ c vs l (vals.set (eI c s) ((vals[eI c s]?.getD []).set s.attr.toNat (cC s.term vs)))
  have e:rO c vs (s :: l) vals=rO c vs l (vals.set (eI c s) ((vals[eI c s]?.getD []).set s.attr.toNat (cC s.term vs))):=rfl
  rw [e]
  refine ⟨by rw [h1,iS],fun n=>?_⟩
  rw [h2 n,dE]
  split
  ·rename_i hn
   subst hn
   split
   ·simp
   ·rename_i hn;rw [bM (by omega)]
  ·rfl
def rT (c:Part)(vs:List Int)(l:List Slot)(i k:Nat):Bool:=match l[k]?,l[i]? with|some a,some b=>A3 c vs a b|_,_=>false
theorem sX (c:Part)(vs:List Int)(l:List Slot):tR c vs l=(List.range l.length).any fun i=>(List.range i).any fun k=>rT c vs l i k:=rfl
structure PutOk (t:Types) (r:Rule) (x:Host) (c:Part):Prop where
 cl:c.nodes.length=r.right.graph.nodes.length
 few:x.graph.nodes.length≤2000∧x.graph.edges.length≤2000∧x.values.length≤2000
 spot:∀ s∈r.right.slots,0≤c.nodes[s.node.toNat]?.getD 0∧eI c s<x.values.length∧eI c s<x.graph.nodes.length
 attr:∀ s∈r.right.slots,s.attr<(x.values[eI c s]?.getD []).length∧s.attr<(bK t (x.graph.nodes[eI c s]?.getD 0)).length
theorem Kl (t:Types)(ht:t.ok)(r:Rule)(hR:RuleV t r)(x0:Host)(c:Part)(hP:PutOk t r x0 c)(vs:List Int)(hvl:vs.length=r.left.vars.toNat)(hvs:Sm vs)
  (G:AHeap) (lo a b V:Nat) (qs:List Nat) (hh0:HH G lo a b V qs x0) (Q:D→AHeap→Prop)
  (hQe:∀ H',sB t x0.graph c vs r.right.slots≠0→(∀ j,j<G.next→j∉a :: b :: V :: qs→H'.get j=G.get j)→G.next≤H'.next→Q (.tup [.agg [.nil,.nil,.nil],dI (sB t x0.graph c vs r.right.slots)]) H')
  (hQ:∀ H',sB t x0.graph c vs r.right.slots=0→(∀ j,j<G.next→j∉a :: b :: V :: qs→H'.get j=G.get j)→G.next≤H'.next→Q (.tup [Host.d ⟨x0.graph,rO c vs r.right.slots x0.values⟩,dI 0]) H') :
  ACalls Tryz.prog 88 [t.d,r.d,.agg [.own a x0.graph.nodes.length,.own b x0.graph.edges.length,.own V x0.values.length],c.d,dLI vs] G Q:=by
 have hgi:=dF hR.gr
 have ha0:=hh0.rng a hh0.a_in
 have hb0:=hh0.rng b hh0.b_in
 have hV0:=hh0.rng V hh0.V_in
 have hab:=hh0.ab
 have hsl:=hR.slots
 have hfew:=hR.few
 obtain ⟨l,hl⟩:∃ l,l=r.right.slots:=⟨_,rfl⟩
 rw [← hl] at hQe hQ hsl hfew
 have hspot:=hP.spot
 have hattr:=hP.attr
 rw [← hl] at hspot hattr
 have hcl:=hP.cl
 obtain ⟨Q',hQ'⟩:∃ Q':D→AHeap→Prop,∀ d H',Q' d H'↔Q (gF H' d) (eJ (xN H' d) H'):=⟨_,fun _ _=>Iff.rfl⟩
 refine ACalls.deep ?_
 rw [show (fun d H'=>Q (gF H' d) (eJ (xN H' d) H'))=Q' from funext fun d=>funext fun H'=>propext (hQ' d H').symm]
 refine (aG (cfg:=⟨fun t=>t==7||t==10,fun _=>[]⟩) Tz.mixed Tryz.func88 rfl rfl (aE rfl) (by kernel_rfl) ?_)
 have Y:=wa @Part.d.eq_1 (wa @Part.c.eq_1 (wa (Eq.symm hl) @Term.c.eq_1))
 refine wv (h:=bB (fun i e H=>∃ X:Nat,∃ R:Nat,(e 5=.adr t.c∧e 6=.adr r.c∧e 8=.adr c.c∧e 4=dLI vs∧e 12=.list (l.map Slot.c)∧e 7=.ptr X 1 0 0∧e 10=.ptr R 1 0 0∧e 13=dI i)∧(H.get X=some ⟨40,3,[[.own a x0.graph.nodes.length,.own b x0.graph.edges.length,.own V x0.values.length]],false⟩)∧(X<H.next)∧(H.get R=some ⟨40,3,[[.nil,.nil,.nil]],false⟩)∧(R<H.next)∧(i≤l.length)∧(HH H lo a b V qs x0)∧(∀ j∈a :: b :: V :: qs,j≠X∧j≠R)∧(G.next≤X∧X<R)∧(∀ p q,p<i→q<p→rT c vs l p q=false)∧(∀ j,j<G.next→j∉a :: b :: V :: qs→H.get j=G.get j)∧(G.next≤H.next)) (fun i=>l.length - i) 0 ⟨G.next,(G.next+1),wg,wn,wn,wn,wn,wi,(by (exact hh0.same (by simp [go_sem];omega) (fun j hj=>by have:=(hh0.rng j hj).2;simp [go_sem,bY this]))),(by (intro j hj;have:=(hh0.rng j hj).2;omega)),(by omega),(by (intro p q hp;omega)),(by (intro j hj _;simp [go_sem,bY hj])),(by (simp [go_sem];omega))⟩ fun I0 hI0 i e H hi0=>?_)
 obtain ⟨X,R,E0,gX_0,nX_0,gR_0,nR_0,hi,hh,hXq,hXR,hC,hG,hnx⟩:=hi0
 have di1:=And.intro (cO (show R≠X by omega)) (And.intro (cO (show R≠V by omega)) (And.intro (cO (show R≠b by omega)) (And.intro (cO (show R≠a by omega)) (And.intro (cO (show X≠V by omega)) (And.intro (cO (show X≠b by omega)) (And.intro (cO (show X≠a by omega)) (And.intro (cO (show V≠b by omega)) (And.intro (cO (show V≠a by omega)) (cO (show b≠a by omega))))))))))
 have Y:=wa Y (wa E0 (wa gX_0 (wa (bY nX_0) (wa gR_0 (wa (bY nR_0) di1)))))
 refine qP (fun h3=>?_) fun h3=>?_
 ·have hlm:=aC h3
  have hTi:=(hsl _ hlm).2.2
  have hni:=(hsl _ hlm).1
  have hnc:l[i].node.toNat<c.nodes.length:=by omega
  have Y:=wa Y (wa h3 (wa (aA h3) (wa @Slot.c.eq_1 (aA hnc))))
  refine wp (h:=aB (iF l[i].term vs (by rw [hvl];exact hTi) hvs) wl ?_)
  refine wp (h:=bB (fun k e H=>(e 5=.adr t.c∧e 6=.adr r.c∧e 8=.adr c.c∧e 4=dLI vs∧e 12=.list (l.map Slot.c)∧e 7=.ptr X 1 0 0∧e 10=.ptr R 1 0 0∧e 13=dI i∧e 14=dI (cC l[i].term vs)∧e 16=dI k)∧(H.get X=some ⟨40,3,[[.own a x0.graph.nodes.length,.own b x0.graph.edges.length,.own V x0.values.length]],false⟩)∧(X<H.next)∧(H.get R=some ⟨40,3,[[.nil,.nil,.nil]],false⟩)∧(R<H.next)∧(k≤i)∧(HH H lo a b V qs x0)∧(∀ q,q<k→rT c vs l i q=false)∧(∀ j,j<G.next→j∉a :: b :: V :: qs→H.get j=G.get j)∧(G.next≤H.next)) (fun k=>i - k) 0 ⟨wg,wn,wn,wn,wn,wi,(by exact hh.same (by first|(simp [go_sem];done)|(simp [go_sem];omega)) (fun _ _=>rfl)),(by (intro q hq;omega)),(by exact hG),(by (first|exact hnx|(simp [go_sem];omega)))⟩ fun I2 hI2 k e H hi2=>?_)
  obtain ⟨E2,gX_2,nX_2,gR_2,nR_2,hk,hh2,hC2,hG2,hn2⟩:=hi2
  have di2:=And.intro (cO (show R≠X by omega)) (And.intro (cO (show R≠V by omega)) (And.intro (cO (show R≠b by omega)) (And.intro (cO (show R≠a by omega)) (And.intro (cO (show X≠V by omega)) (And.intro (cO (show X≠b by omega)) (And.intro (cO (show X≠a by omega)) (And.intro (cO (show V≠b by omega)) (And.intro (cO (show V≠a by omega)) (cO (show b≠a by omega))))))))))
  have Y:=wa Y (wa E2 (wa gX_2 (wa (bY nX_2) (wa gR_2 (wa (bY nR_2) di2)))))
  refine cT (fun h7=>?_) fun h7=>?_
  ·have hkl:k<l.length:=by omega
   have hlk:=aC hkl
   have hTk:=(hsl _ hlk).2.2
   have hnk:=(hsl _ hlk).1
   have hnck:l[k].node.toNat<c.nodes.length:=by omega
   have hs1:=(hspot _ hlm).1
   have hs2:=(hspot _ hlk).1
   rw [aA hnc,aD] at hs1
   rw [aA hnck,aD] at hs2
   have hCI:rT c vs l i k=(decide (c.nodes[l[k].node.toNat]=c.nodes[l[i].node.toNat])&&(decide (l[k].attr=l[i].attr)&&decide (cC l[k].term vs≠cC l[i].term vs))):=by
    unfold rT A3 eI
    simp only [aA hkl,aA h3,aA hnc,aA hnck,aD]
    rw [show (decide ((c.nodes[l[k].node.toNat]).toNat=(c.nodes[l[i].node.toNat]).toNat))=decide (c.nodes[l[k].node.toNat]=c.nodes[l[i].node.toNat]) from by rw [decide_eq_decide];omega]
   have Y:=wa Y (wa h7 (wa (aA hkl) (aA hnck)))
   refine wp (h:=aB (iF l[k].term vs (by rw [hvl];exact hTk) hvs) wl ?_)
   refine qP (fun h10=>?_) fun h10=>?_
   ·have hB:tR c vs l=true:=by
     rw [sX,aU]
     refine ⟨i,by simpa using h3,?_⟩
     rw [aU]
     refine ⟨k,by simpa using h7,?_⟩
     rw [hCI];simp at h10 ⊢;exact ⟨h10.1.1,h10.1.2,fun e=>h10.2 e.symm⟩
    have hE:sB t x0.graph c vs l=11:=by unfold sB;rw [if_pos hB]
    refine wv (h:=?_)
    rw [hE] at hQe;refine (hQ' _ _).2 ?_;simp only [gF,iM,mW,eB,xN,DL,He,jB,fT,g5,uL,Fg,c5,eJ];exact hQe _ (by decide) (fun j hj hjn=>by simp [go_sem,show j≠R by omega];exact hG2 j hj hjn) (by first|(simp [go_sem];omega)|exact hn2)
   ·have hCk:rT c vs l i k=false:=by
     rw [hCI,bH];intro hT;simp at hT
     exact hT.2.2 (h10 hT.1 hT.2.1).symm
    exact wp (h:=wx hI2 (k+1) ⟨wg,wn,wn,wn,wn,wj,(by exact hh2.same (by first|(simp [go_sem];done)|(simp [go_sem];omega)) (fun _ _=>rfl)),(by (intro q hq;rcases bN q k with hqk|hqk;exact hC2 q hqk;(obtain rfl:q=k:=(by omega);exact hCk))),(by exact hG2),(by (first|exact hn2|(simp [go_sem];omega)))⟩)
  ·exact wp (h:=wx hI0 (i+1) ⟨X,R,wg,wn,wn,wn,wn,wj,(by (exact hh2)),(by exact hXq),(by exact hXR),(by (intro p q hp hq;rcases bN p i with hpi|hpi;exact hC p q hpi hq;(obtain rfl:p=i:=(by omega);exact hC2 q (by omega)))),(by exact hG2),(by exact hn2)⟩)
 ·have hB:tR c vs l=false:=by
   rw [sX,bH];intro hT
   rw [aU] at hT
   obtain ⟨p,hp,hT⟩:=hT
   rw [aU] at hT
   obtain ⟨q,hq,hT⟩:=hT
   rw [bZ] at hp hq
   rw [hC p q (by omega) hq] at hT;cases hT
  have hE0:sB t x0.graph c vs l=if l.any (vH t x0.graph c vs)=true then 6 else 0:=by unfold sB;rw [if_neg (by rw [hB];simp)]
  refine wv (h:=bB (fun i e H=>∃ x:Host,(e 5=.adr t.c∧e 6=.adr r.c∧e 8=.adr c.c∧e 4=dLI vs∧e 12=.list (l.map Slot.c)∧e 7=.ptr X 1 0 0∧e 10=.ptr R 1 0 0∧e 19=dI i)∧(H.get X=some ⟨40,3,[[.own a x0.graph.nodes.length,.own b x0.graph.edges.length,.own V x0.values.length]],false⟩)∧(X<H.next)∧(H.get R=some ⟨40,3,[[.nil,.nil,.nil]],false⟩)∧(R<H.next)∧(i≤l.length)∧(x=⟨x0.graph,rO c vs (l.take i) x0.values⟩)∧(HH H lo a b V qs x)∧((l.take i).any (vH t x0.graph c vs)=false)∧(∀ j,j<G.next→j∉a :: b :: V :: qs→H.get j=G.get j)∧(G.next≤H.next)) (fun i=>l.length - i) 0 ⟨x0,wg,wn,wn,wn,wn,wi,(by rfl),(by exact hh),(by rfl),(by exact hG),(by exact hnx)⟩ fun I4 hI4 i e H hi4=>?_)
  obtain ⟨x,E4,gX_4,nX_4,gR_4,nR_4,hi4,hx,hh4,hO,hG4,hn4⟩:=hi4
  have di3:=And.intro (cO (show R≠X by omega)) (And.intro (cO (show R≠V by omega)) (And.intro (cO (show R≠b by omega)) (And.intro (cO (show R≠a by omega)) (And.intro (cO (show X≠V by omega)) (And.intro (cO (show X≠b by omega)) (And.intro (cO (show X≠a by omega)) (And.intro (cO (show V≠b by omega)) (And.intro (cO (show V≠a by omega)) (cO (show b≠a by omega))))))))))
  have Y:=wa Y (wa E4 (wa gX_4 (wa (bY nX_4) (wa gR_4 (wa (bY nR_4) di3)))))
  refine qP (fun h13=>?_) fun h13=>?_
  ·have hlm:=aC h13
   have hTi:=(hsl _ hlm).2.2
   have hni:=(hsl _ hlm).1
   have hat:=(hsl _ hlm).2.1
   have hnc:l[i].node.toNat<c.nodes.length:=by omega
   obtain ⟨s1,s2,s3⟩:=hspot _ hlm
   obtain ⟨a1,a2⟩:=hattr _ hlm
   have hsp:eI c l[i]=(c.nodes[l[i].node.toNat]).toNat:=by unfold eI;rw [aA hnc];rfl
   rw [aA hnc,aD] at s1
   have hpl:=pQ c vs (l.take i) x0.values
   have hxg:x.graph=x0.graph:=by rw [hx]
   have hxv:x.values=rO c vs (l.take i) x0.values:=by rw [hx]
   have hxl:x.values.length=x0.values.length:=by rw [hxv];exact hpl.1
   have hnV:eI c l[i]<x.values.length:=by omega
   have hnN:eI c l[i]<x.graph.nodes.length:=by rw [hxg];exact s3
   have hnQ:eI c l[i]<qs.length:=by rw [hh4.len];exact hnV
   obtain ⟨q,hq⟩:∃ q,q=qs[eI c l[i]]:=⟨_,rfl⟩
   obtain ⟨v,hv⟩:∃ v,v=x.values[eI c l[i]]:=⟨_,rfl⟩
   have e1:qs[eI c l[i]]?=some q:=by rw [aA hnQ,hq]
   have e2:x.values[eI c l[i]]?=some v:=by rw [aA hnV,hv]
   have hrow:=pC e1 e2
   have hgq:=hh4.gq _ _ _ e1 e2
   have hvl2:v.length=(x0.values[eI c l[i]]?.getD []).length:=by rw [← hpl.2,← hxv,e2];rfl
   have hav:l[i].attr.toNat<v.length:=by omega
   obtain ⟨nd,hnd⟩:∃ y,y=x.graph.nodes[eI c l[i]]:=⟨_,rfl⟩
   have hnd0:x0.graph.nodes[eI c l[i]]?.getD 0=nd:=by rw [hnd,← hxg,aA hnN];rfl
   rw [hnd0] at a2
   have haA:l[i].attr.toNat<(bK t nd).length:=by omega
   have hqin:q∈qs:=aH e1
   have hqr:=hh4.rng q (hh4.q_in hqin)
   have hqX:=hXq q (hh4.q_in hqin)
   have hqn:=hh4.qn hqin
   have hOB:vH t x0.graph c vs l[i]=(decide (cC l[i].term vs<(bK t nd)[l[i].attr.toNat].low)||decide ((bK t nd)[l[i].attr.toNat].high<cC l[i].term vs)):=by unfold vH;rw [hnd0,aA haA];rfl
   have gga:=hh4.ga
   have ggb:=hh4.gb
   have ggV:=hh4.gV
   have hgl:x0.graph.nodes.length=x.graph.nodes.length:=by rw [hxg]
   have hrl:=g8 hh4.len
   have di4:=And.intro (cO (show R≠X by omega)) (And.intro (cO (show R≠V by omega)) (And.intro (cO (show R≠b by omega)) (And.intro (cO (show R≠a by omega)) (And.intro (cO (show R≠q by omega)) (And.intro (cO (show X≠V by omega)) (And.intro (cO (show X≠b by omega)) (And.intro (cO (show X≠a by omega)) (And.intro (cO (show X≠q by omega)) (And.intro (cO (show V≠b by omega)) (And.intro (cO (show V≠a by omega)) (And.intro (cO (show V≠q by omega)) (And.intro (cO (show b≠a by omega)) (And.intro (cO (show b≠q by omega)) (cO (show a≠q by omega)))))))))))))))
   have Y:=wa Y (wa h13 (wa (aA h13) (wa @Slot.c.eq_1 (wa (aA hnc) (wa (Eq.symm hsp) (wa gga (wa ggb (wa ggV (wa hrow (wa hgq (wa hrl (wa (aA hnN) (wa (Eq.symm hnd) (wa (aA haA) (wa (aA hav) (wa @Attr.c.eq_1 (wa hxl.symm (wa hgl di4))))))))))))))))))
   refine wp (h:=aB (iF l[i].term vs (by rw [hvl];exact hTi) hvs) wl ?_)
   refine wp (h:=aI (n9 t ht nd) wl ?_)
   refine qP (fun h18=>?_) fun h18=>?_
   ·have hT:l.any (vH t x0.graph c vs)=true:=aU.2 ⟨_,hlm,by rw [hOB];simpa using h18⟩
    rw [if_pos hT] at hE0
    refine wv (h:=?_)
    rw [hE0] at hQe;refine (hQ' _ _).2 ?_;simp only [gF,iM,mW,eB,xN,DL,He,jB,fT,g5,uL,Fg,c5,eJ];exact hQe _ (by decide) (fun j hj hjn=>by simp [go_sem,show j≠R by omega];exact hG4 j hj hjn) (by first|(simp [go_sem];omega)|exact hn4)
   ·have hOi:vH t x0.graph c vs l[i]=false:=by rw [hOB];simpa using h18
    obtain ⟨x2,hx2⟩:∃ y:Host,y=⟨x.graph,x.values.set (eI c l[i]) (v.set l[i].attr.toNat (cC l[i].term vs))⟩:=⟨_,rfl⟩
    have hx3:x2=⟨x0.graph,rO c vs (l.take (i+1)) x0.values⟩:=by
     rw [hx2,aF h13,Fz,← hxv,e2,hxg];rfl
    exact wp (h:=wx hI4 (i+1) ⟨x2,wg,wn,wn,wn,wn,wj,(by exact hx3),(by (rw [hx2];exact hh4.rowSet (by first|(simp [go_sem];done)|(simp [go_sem];omega)) e1 e2 (by simp) (by simp [go_sem,Y,cG,cI]) (fun j hj hjq=>by simp [go_sem,hjq]))),(by (rw [aF h13,yU,hO];simp [hOi])),(by (intro j hj hjn;simp [go_sem,show j≠q from fun e=>hjn (e ▸ hh4.q_in hqin)];exact hG4 j hj hjn)),(by (simp [go_sem];omega))⟩)
  ·rw [aJ (by omega)] at hO hx
   rw [if_neg (by rw [hO];simp)] at hE0
   have hxg:x.graph=x0.graph:=by rw [hx]
   have hxl:x.values.length=x0.values.length:=by rw [hx];exact (pQ c vs l x0.values).1
   refine wv (h:=?_)
   refine (hQ' _ _).2 ?_
   obtain ⟨E,hEq⟩:∃ E,E=H.put R ⟨40,3,[[.own a x0.graph.nodes.length,.own b x0.graph.edges.length,.own V x0.values.length]],false⟩:=⟨_,rfl⟩
   have hh5:HH E lo a b V qs x:=hh4.same (by rw [hEq];simp [go_sem]) (fun j hj=>by rw [hEq];simp [go_sem,(hXq j hj).2])
   rw [← hEq]
   have hd:=hh5.deep
   rw [hxg,hxl] at hd
   have hids:=hh5.ids x0.graph.nodes.length x0.graph.edges.length x0.values.length 0
   simp only [dI] at hids
   have hdi:iM E (D.int .i64 0)=.int .i64 0:=rfl
   simp only [gF,fT,g5,hd,hdi]
   rw [hx]
   refine hQ _ hE0 (fun j hj hjn=>?_) ?_
   ·rw [yI _ _ j (fun hm=>hjn (hids _ hm)),hEq];simp [go_sem,show j≠R by omega];exact hG4 j hj hjn
   ·rw [(tO _ E).2,hEq];simp [go_sem];exact hn4
theorem Gm {l:List Int}(hn:l.Nodup){p:Nat}(hp:p<l.length):∀ n,n≤l.length→f6 l n l[p]=if p<n then (p:Int) else -1
 | 0,_=>rfl
 | n+1,h=>by
  rw [nM,Gm hn hp n (by omega),aA (by omega),aD]
  by_cases he:n=p
  ·subst he;rw [if_pos rfl,if_pos (by omega)]
  ·rw [if_neg (fun e=>he ((qG hn).1 e))]
   by_cases h2:p<n
   ·rw [if_pos h2,if_pos (by omega)]
   ·rw [if_neg h2,if_neg (by omega)]
theorem vZ {l:List Int}(hn:l.Nodup){p:Nat}(hp:p<l.length):f6 l l.length l[p]=p:=by rw [Gm hn hp _ (bC _),if_pos hp]
theorem wV {l:List Int}{v:Int}(h:v∉l):∀ n,n≤l.length→f6 l n v = -1
 | 0,_=>rfl
 | n+1,hl=>by
  rw [nM,wV h n (by omega),aA (by omega),aD,if_neg]
  exact fun e=>h (e ▸ aC _)
theorem Gn {l:List Int}(hn:l.Nodup)(v:Int):decide (f6 l l.length v<0) = !mem l v:=by
 by_cases h:v∈l
 ·obtain ⟨p,hp,rfl⟩:=aN h
  rw [vZ hn hp,(cW _ _).2 h];simp
 ·rw [wV h _ (bC _),bH.2 fun hm=>h ((cW _ _).1 hm)];rfl
theorem LM {l:List Int}(hn:l.Nodup)(i:Nat):yA l i=(b5 l i).length:=by
 unfold yA b5
 rw [bW]
 congr 1
 exact List.filter_congr fun j _=>Gn hn j
theorem FE {l:List Int}:∀ (n j:Nat),j<n→mem l j=false→(b5 l n)[(b5 l j).length]?=some (j:Int)
 | n+1,j,hj,hm=>by
  rw [mJ]
  by_cases h:j=n
  ·subst h
   rw [if_neg (by rw [hm];simp),aY (bC _)];simp
  ·have:=FE n j (by omega) hm
   rw [aR (aL.1 this).1];exact this
theorem Ba {l:List Int}(h:l.Pairwise (· < ·)):l.Nodup:=h.imp fun h=>by omega
structure StepIn (t:Types) (r:Rule) (h:Host) (m:Mat):Prop where
 hR:RuleV t r
 ho:HostOk t h
 hm:MOk t r.left.graph h.graph m.m
 hc:oU (oB r.left.graph h.graph m.m) h.graph r.keep m.m=0
section
variable {t:Types} {r:Rule} {h:Host} {m:Mat}
theorem NB (hR:RuleV t r)(ho:HostOk t h)(hp:qJ t r h m=0):StepIn t r h m:=by
 unfold qJ at hp
 split at hp
 ·cases hp
 ·rename_i h1
  split at hp
  ·exact absurd hp (by assumption)
  ·split at hp
   ·cases hp
   ·exact ⟨hR,ho,pV (pH (by simpa using h1)).2,hp⟩
theorem StepIn.rest (S:StepIn t r h m):b4 r h m=⟨b5 (iW m.m.nodes r.keep.nodes) h.graph.nodes.length,b5 (iW m.m.edges r.keep.edges) h.graph.edges.length⟩:=by unfold b4 p5;rw [if_pos S.hc]
theorem StepIn.sub (S:StepIn t r h m):subF h.graph (b4 r h m)=0:=Pl S.hc
theorem StepIn.nasc (S:StepIn t r h m):(b4 r h m).nodes.Pairwise (· < ·):=by rw [S.rest];exact q7 _ _
theorem StepIn.easc (S:StepIn t r h m):(b4 r h m).edges.Pairwise (· < ·):=by rw [S.rest];exact q7 _ _
theorem StepIn.nin (S:StepIn t r h m):∀ x∈(b4 r h m).nodes,0≤x∧x<h.graph.nodes.length:=(wD S.sub).2.2.1
theorem StepIn.ein (S:StepIn t r h m):∀ x∈(b4 r h m).edges,0≤x∧x<h.graph.edges.length:=(wD S.sub).2.2.2
theorem StepIn.len (S:StepIn t r h m):(b4 r h m).nodes.length≤40∧(b4 r h m).edges.length≤80:=by
 have hg:=bJ S.ho.gg
 have h1:=Ou S.nasc S.nin
 have h2:=Ou S.easc S.ein
 omega
theorem StepIn.dup (S:StepIn t r h m):pY m.m.nodes r.keep.nodes=[]∧pY m.m.edges r.keep.edges=[]:=⟨(Hm S.hc).2.2.1,(Hm S.hc).2.2.2.1⟩
theorem StepIn.keptN (S:StepIn t r h m){k:Int}(hk:k∈r.keep.nodes):iA m.m.nodes k∈(b4 r h m).nodes:=by
 have hK:=S.hR.keep
 have hl:=S.hm.len
 have hr:=hK.2.1 k hk
 have h1:=wL S.dup.1 hr.1 (by omega) hk
 rw [S.rest]
 have h2:=(S.hm.img k.toNat (by omega) (by omega)).1
 have e:iA m.m.nodes k=m.m.nodes[k.toNat]'(by omega):=by unfold iA;rw [aA (by omega)];rfl
 exact kL.2 ⟨by rw [e];exact h2,h1⟩
theorem StepIn.bareN (S:StepIn t r h m):(cK t r h m).graph.nodes=(b4 r h m).nodes.map (gN h.graph)++r.freshN.map (gN r.right.graph):=by
 unfold cK iH b7;rw [if_pos S.sub]
theorem StepIn.bareE (S:StepIn t r h m):(cK t r h m).graph.edges=(b4 r h m).edges.map (gEd h.graph (b4 r h m))++r.freshE.map (fun k=>freshE (oH r h m) (r.right.graph.edges[k.toNat]?.getD bQ)):=by
 unfold cK iH b7;rw [if_pos S.sub]
theorem PX:(cK t r h m).values=(b4 r h m).nodes.map (fun k=>h.values[k.toNat]?.getD [])++r.freshN.map (fun k=>lS t (gN r.right.graph k)):=rfl
theorem StepIn.intoN (S:StepIn t r h m):r.into.nodes.Nodup∧r.into.edges.Nodup:=by
 have:=S.hR.inj
 unfold ET at this
 simp only [aP,decide_eq_true_eq] at this
 exact this.2
theorem StepIn.kept_type (S:StepIn t r h m){p:Nat}(hp:p<r.into.nodes.length)(hq:p<r.keep.nodes.length):gN r.right.graph r.into.nodes[p]=gN r.left.graph r.keep.nodes[p]:=by
 have e1:(b7 r.left.graph r.keep).nodes.length=r.keep.nodes.length:=by unfold b7;rw [if_pos S.hR.sub];simp
 have hmn:=(KB S.hR.mo (i:=(p:Int)) (by omega) (by omega)).2
 rw [Hl S.hR.sub (by omega) (by omega)] at hmn
 simpa [iA,aA hp,aA hq] using hmn
theorem StepIn.com (S:StepIn t r h m){i:Nat}(hi:i<r.right.graph.nodes.length):∃ n:Nat,(oH r h m).nodes[i]?=some (n:Int)∧∃ hn:n<(cK t r h m).graph.nodes.length,tT t r.right.graph.nodes[i] ((cK t r h m).graph.nodes[n])=true:=by
 obtain ⟨hK1,hK2,hK3,hK4,hK5⟩:=S.hR.keep
 have hml:=S.hm.len
 have hin:=S.intoN.1
 have hcm:(oH r h m).nodes[i]?=some (Gg r.keep.nodes r.into.nodes (mX m.m.nodes (lN r h m).nodes) (b4 r h m).nodes.length i):=by
  unfold oH Cl;simp [hi]
 rw [hcm]
 have hb:=S.bareN
 have hvt:=lG S.hR.vf
 have hri:=(lW S.hR.gr S.hR.tr).1 _ (aC hi)
 by_cases hm:(i:Int)∈r.into.nodes
 ·obtain ⟨p,hp,he⟩:=aN hm
  have hq:p<r.keep.nodes.length:=by omega
  have hkr:=hK2 _ (aC hq)
  have hkm:r.keep.nodes[p].toNat<m.m.nodes.length:=by omega
  have hD:=S.keptN (aC hq)
  obtain ⟨n,hn,hne⟩:=aN hD
  have hv:=S.nin _ (aC hn)
  have hiA:iA m.m.nodes r.keep.nodes[p]=m.m.nodes[r.keep.nodes[p].toNat]:=by unfold iA;rw [aA hkm];rfl
  have hco:Gg r.keep.nodes r.into.nodes (mX m.m.nodes (lN r h m).nodes) (b4 r h m).nodes.length i=n:=by
   unfold Gg
   rw [← he,vZ hin hp,if_pos (by omega)]
   rw [show (p:Int).toNat=p by omega,aA hq,aD]
   unfold mX lN pN
   rw [aQ,aA hkm,eD,aD]
   rw [← hiA,← hne]
   simp only
   rw [wU _ (by omega),aD,show (((b4 r h m).nodes[n].toNat:Nat):Int)=(b4 r h m).nodes[n] by omega,vZ (Ba S.nasc) hn]
  refine ⟨n,by rw [hco],by rw [hb];simp;omega,?_⟩
  have hty:=S.kept_type hp hq
  rw [he] at hty
  have hgr:gN r.right.graph (i:Int)=r.right.graph.nodes[i]:=by simp [gN,aA hi]
  have hkl:r.keep.nodes[p].toNat<r.left.graph.nodes.length:=by omega
  have hgl:gN r.left.graph r.keep.nodes[p]=r.left.graph.nodes[r.keep.nodes[p].toNat]:=by simp [gN,aA hkl]
  rw [hgr,hgl] at hty
  rw [hty]
  have hbel:=(S.hm.img _ hkm hkl).2
  have hx:(cK t r h m).graph.nodes[n]?=some (h.graph.nodes[(m.m.nodes[r.keep.nodes[p].toNat]).toNat]?.getD 0):=by
   rw [hb,aR (by simpa using hn),aQ,aA hn,eD,hne,hiA];rfl
  obtain ⟨_,hx2⟩:=aL.1 hx
  rw [hx2];exact hbel
 ·have hmf:mem r.into.nodes i=false:=bH.2 fun h=>hm ((cW _ _).1 h)
  have hco:Gg r.keep.nodes r.into.nodes (mX m.m.nodes (lN r h m).nodes) (b4 r h m).nodes.length i=(((b4 r h m).nodes.length+(b5 r.into.nodes i).length:Nat):Int):=by
   unfold Gg
   rw [if_neg (by rw [wV hm _ (bC _)];omega),LM hin]
  have hoa:=FE r.right.graph.nodes.length i hi hmf
  have hlt:(b5 r.into.nodes i).length<r.freshN.length:=(aL.1 hoa).1
  refine ⟨(b4 r h m).nodes.length+(b5 r.into.nodes i).length,by rw [hco],by rw [hb];simp;omega,?_⟩
  have hx:(cK t r h m).graph.nodes[(b4 r h m).nodes.length+(b5 r.into.nodes i).length]?=some r.right.graph.nodes[i]:=by
   rw [hb,aY (by simp),bW,Nat.add_sub_cancel_left,aQ]
   have:r.freshN[(b5 r.into.nodes i).length]?=some (i:Int):=hoa
   rw [this];simp [gN,aA hi]
  obtain ⟨_,hx2⟩:=aL.1 hx
  rw [hx2]
  unfold tT
  have:=MU hvt (a:=(r.right.graph.nodes[i]).toNat) (by omega)
  rw [show (((r.right.graph.nodes[i]).toNat:Nat):Int)=r.right.graph.nodes[i] by omega] at this
  exact this
theorem StepIn.vlen (S:StepIn t r h m):(cK t r h m).values.length=(cK t r h m).graph.nodes.length:=by rw [S.bareN,PX];simp
theorem NT {k:Int}(hv:(cA t).2=0)(h0:0≤k)(h1:k<t.nodes.length)(ha:uI t k.toNat=false):fW t k (lS t k)=0:=by
 unfold fW
 rw [if_neg (by omega),if_neg (by rw [ha];simp),if_neg (by simp [lS])]
 refine nJ _ _ fun j _ hj=>?_
 have hj':j<(bK t k).length:=by omega
 unfold zU lS
 rw [aQ,aA hj',eD,aD,aD,if_neg]
 have:=(Al hv k _ (aC hj')).le
 omega
theorem StepIn.fresh_node (S:StepIn t r h m):∀ k∈r.freshN,(0≤gN r.right.graph k∧gN r.right.graph k<t.nodes.length)∧uI t (gN r.right.graph k).toNat=false:=fun k hk=>by
 have hr:=jK hk
 have hin:=(lW S.hR.gr S.hR.tr).1 _ (N5 hr.1 hr.2)
 refine ⟨hin,?_⟩
 have:=S.hR.mkb
 unfold xL at this
 rw [aP,cD,uM] at this
 have h1:=this.1 k hk
 unfold absB at h1
 unfold uI
 rw [aA (show (gN r.right.graph k).toNat<t.nodes.length by omega)] at h1 ⊢
 simpa using h1
theorem StepIn.node (S:StepIn t r h m):∀ (n:Nat) (h1:n<(cK t r h m).graph.nodes.length) (h2:n<(cK t r h m).values.length),fW t (cK t r h m).graph.nodes[n] (cK t r h m).values[n]=0:=fun n h1 h2=>by
 have e1:=S.bareN
 have e2:(cK t r h m).values=_:=PX
 have g1:(cK t r h m).graph.nodes[n]?=some (cK t r h m).graph.nodes[n]:=aA h1
 have g2:(cK t r h m).values[n]?=some (cK t r h m).values[n]:=aA h2
 generalize (cK t r h m).graph.nodes[n]=x at *
 generalize (cK t r h m).values[n]=y at *
 rw [e1] at g1;rw [e2] at g2
 by_cases hn:n<(b4 r h m).nodes.length
 ·rw [aR (by simpa using hn),aQ,aA hn] at g1 g2
  simp only [eD,bA] at g1 g2
  have hv:=S.nin _ (aC hn)
  have hl:=S.ho.vl
  have a1:(b4 r h m).nodes[n].toNat<h.graph.nodes.length:=by omega
  have a2:(b4 r h m).nodes[n].toNat<h.values.length:=by omega
  rw [aA a2] at g2
  unfold gN at g1
  rw [aA a1] at g1
  have:=S.ho.nd _ a1 a2
  rw [← g1,← g2];exact this
 ·have l1:((b4 r h m).nodes.map (gN h.graph)).length=(b4 r h m).nodes.length:=by simp
  have l2:((b4 r h m).nodes.map fun k=>h.values[k.toNat]?.getD []).length=(b4 r h m).nodes.length:=by simp
  rw [aY (by omega),l1,aQ,bE] at g1
  rw [aY (by omega),l2,aQ,bE] at g2
  obtain ⟨k,hk,rfl⟩:=g1
  obtain ⟨k',hk',rfl⟩:=g2
  rw [hk] at hk';cases hk'
  obtain ⟨⟨b1,b2⟩,b3⟩:=S.fresh_node k (aH hk)
  exact NT S.hR.vf b1 b2 b3
theorem StepIn.bin (S:StepIn t r h m):∀ a∈(cK t r h m).graph.nodes,0≤a∧a<t.nodes.length:=fun a ha=>by
 rw [S.bareN,aW,bG,bG] at ha
 rcases ha with ⟨k,hk,rfl⟩|⟨k,hk,rfl⟩
 ·exact BL S.ho _ (N5 (S.nin k hk).1 (S.nin k hk).2)
 ·exact (S.fresh_node k hk).1
theorem StepIn.put (S:StepIn t r h m):PutOk t r (cK t r h m) (oH r h m):=by
 have hl:=S.len
 have hg:=bJ S.hR.gr
 have hf1:r.freshN.length≤r.right.graph.nodes.length:=jL _ _
 have hf2:r.freshE.length≤r.right.graph.edges.length:=jL _ _
 have hN:(cK t r h m).graph.nodes.length≤80:=by rw [S.bareN];simp;omega
 have hE:(cK t r h m).graph.edges.length≤160:=by rw [S.bareE];simp;omega
 have hV:=S.vlen
 have key:∀ s∈r.right.slots,∃ n:Nat,(oH r h m).nodes[s.node.toNat]?=some (n:Int)∧∃ hn:n<(cK t r h m).graph.nodes.length,s.attr<(bK t (cK t r h m).graph.nodes[n]).length:=fun s hs=>by
  obtain ⟨⟨a1,a2⟩,a3,a4⟩:=S.hR.slots s hs
  have hi:s.node.toNat<r.right.graph.nodes.length:=by omega
  obtain ⟨n,e1,hn,e2⟩:=S.com hi
  refine ⟨n,e1,hn,?_⟩
  rw [aA hi,aD] at a3
  have hri:=(lW S.hR.gr S.hR.tr).1 _ (aC hi)
  have hno:=(sM (S.node n hn (by omega))).1
  have hn0:=(S.bin _ (aC hn)).1
  rw [pI S.hR.vf hri.1 hri.2] at a3
  rw [pI S.hR.vf hn0 hno]
  unfold tT at e2
  obtain ⟨u,hu⟩:=Gp (lG S.hR.vf) ((cK t r h m).graph.nodes[n]).toNat (by omega) (r.right.graph.nodes[s.node.toNat]).toNat (by rw [Int.toNat_of_nonneg hri.1];exact e2)
  rw [hu,aT];omega
 refine ⟨by simp [oH,Cl],⟨by omega,by omega,by omega⟩,fun s hs=>?_,fun s hs=>?_⟩
 ·obtain ⟨n,e1,hn,e2⟩:=key s hs
  have:eI (oH r h m) s=n:=by unfold eI;rw [e1];simp
  rw [this,e1]
  exact ⟨by simp,by omega,hn⟩
 ·obtain ⟨n,e1,hn,e2⟩:=key s hs
  have:eI (oH r h m) s=n:=by unfold eI;rw [e1];simp
  have hnv:n<(cK t r h m).values.length:=by omega
  rw [this,aA hnv,aA hn,aD,aD]
  have:=(sM (S.node n hn hnv)).2.2.1
  exact ⟨by omega,e2⟩
end
theorem DA {t:Types}(hv:t.valid):∀ c:Nat,c<t.nodes.length→∀ (b:Nat) (a:Int),mem (t.line c) (b:Int)=true→mem (t.line b) a=true→mem (t.line c) a=true:=by
 intro c
 induction c using Nat.strongRecOn with
 | _ c ih =>
 intro hc b a hb ha
 have hpar:=hv.parent c _ (aA hc)
 have hr:=vL t c hc (hv.parentsOK c)
 rw [hr,sJ,b6] at hb
 rcases hb with hb|hb
 ·by_cases h0:0≤t.nodes[c].parent
  ·rw [if_pos h0] at hb
   rw [hr,sJ,b6,if_pos h0]
   exact .inl (ih _ (by omega) (by omega) b a hb ha)
  ·rw [if_neg h0,zT] at hb;cases hb
 ·have:b=c:=by simp at hb;omega
  subst this;exact ha
theorem M6 {t:Types}(hv:(cA t).2=0){ty a b a' b':Int}(h:mN t ty a b=true)(ha:tT t a a'=true)(hb:tT t b b'=true)(ra:0≤a'∧a'<t.nodes.length)(rb:0≤b'∧b'<t.nodes.length):mN t ty a' b'=true:=by
 have hval:=lG hv
 unfold mN at h ⊢
 simp only [aP,decide_eq_true_eq] at h ⊢
 obtain ⟨⟨h1,h2⟩,h3,h4⟩:=h
 obtain ⟨_,a0,b0⟩:=oF h1
 unfold tT at ha hb
 rw [show a=((a.toNat:Nat):Int) by omega] at ha
 rw [show b=((b.toNat:Nat):Int) by omega] at hb
 refine ⟨⟨?_,h2⟩,DA hval _ (by omega) a.toNat _ ha h3,DA hval _ (by omega) b.toNat _ hb h4⟩
 simp [given2F,hv,insideF,ra,rb]
section
variable {t:Types} {r:Rule} {h:Host} {m:Mat}
theorem Pf {l l':List Int}{es:List Edge}{g:Graph}{n:Int}(h0:0≤n)(hn:n<l.length)(hg:g.nodes=l++l'):gN g n=l[n.toNat]?.getD 0:=by
 unfold gN;rw [hg,aR (by omega)]
theorem StepIn.edge (S:StepIn t r h m):∀ x∈(cK t r h m).graph.edges,((0≤x.type∧x.type<t.edges.length)∧(0≤x.from_∧x.from_<(cK t r h m).graph.nodes.length)∧(0≤x.to_∧x.to_<(cK t r h m).graph.nodes.length)) ∧
  mN t x.type (gN (cK t r h m).graph x.from_) (gN (cK t r h m).graph x.to_)=true:=fun x hx=>by
 have hbN:=S.bareN
 have hbin:=S.bin
 rw [S.bareE,aW,bG,bG] at hx
 rcases hx with ⟨k,hk,rfl⟩|⟨k,hk,rfl⟩
 ·have hr:=S.ein k hk
  have hy:=QO hr.1 hr.2
  obtain ⟨e1,e2⟩:=S.ho.ed _ hy
  have hgi:=(dF S.ho.gg).2 _ hy
  obtain ⟨s1,s2⟩:=HY S.sub hk
  obtain ⟨p1,p2,_⟩:=NK S.nasc s1
  obtain ⟨q1,q2,_⟩:=NK S.nasc s2
  have key:∀ v:Int,v∈(b4 r h m).nodes→sE (b4 r h m).nodes v<(b4 r h m).nodes.length→iA (b4 r h m).nodes (sE (b4 r h m).nodes v)=v→gN (cK t r h m).graph (sE (b4 r h m).nodes v)=gN h.graph v:=fun v hv hp hi=>by
   rw [Pf (es:=[]) (by omega) (by simpa using hp) hbN,show ((sE (b4 r h m).nodes v:Nat):Int).toNat=sE (b4 r h m).nodes v by omega,aQ]
   unfold iA at hi
   rw [show ((sE (b4 r h m).nodes v:Nat):Int).toNat=sE (b4 r h m).nodes v by omega,aA hp,aD] at hi
   rw [aA hp,eD,aD,hi]
  have hl:(cK t r h m).graph.nodes.length=(b4 r h m).nodes.length+r.freshN.length:=by rw [hbN];simp
  rw [QI]
  refine ⟨⟨⟨hgi.1.1,e1⟩,⟨by simp only;omega,by simp only;omega⟩,by simp only;omega,by simp only;omega⟩,?_⟩
  simp only
  rw [key _ s1 p1 p2,key _ s2 q1 q2];exact e2
 ·have hr:=jK hk
  have hk2:k.toNat<r.right.graph.edges.length:=by omega
  have hy:=(lW S.hR.gr S.hR.tr).2 _ (aC hk2)
  rw [aA hk2,aD]
  obtain ⟨y,hye⟩:∃ y,y=r.right.graph.edges[k.toNat]:=⟨_,rfl⟩
  rw [← hye] at hy ⊢
  have hf:y.from_.toNat<r.right.graph.nodes.length:=by omega
  have ht:y.to_.toNat<r.right.graph.nodes.length:=by omega
  obtain ⟨n1,c1,l1,b1⟩:=S.com hf
  obtain ⟨n2,c2,l2,b2⟩:=S.com ht
  unfold freshE
  rw [c1,c2]
  simp only [aD]
  have hfit:mN t y.type r.right.graph.nodes[y.from_.toNat] r.right.graph.nodes[y.to_.toNat]=true:=by
   have:=S.hR.mkb
   unfold xL at this
   rw [aP,cD,cD,uM,uM] at this
   have h1:=this.2 k hk
   unfold unfitB at h1
   rw [aA hk2,aD,← hye] at h1
   unfold gN at h1
   rw [aA hf,aA ht] at h1
   simpa using h1
  have e1:gN (cK t r h m).graph (n1:Int)=(cK t r h m).graph.nodes[n1]:=by simp [gN,aA l1]
  have e2:gN (cK t r h m).graph (n2:Int)=(cK t r h m).graph.nodes[n2]:=by simp [gN,aA l2]
  refine ⟨⟨⟨hy.1.1,hy.1.2⟩,⟨by omega,by omega⟩,by omega,by omega⟩,?_⟩
  rw [e1,e2]
  exact M6 S.hR.vf hfit b1 b2 (hbin _ (aC l1)) (hbin _ (aC l2))
theorem N2 {x:Host}(hv:(cA t).2=0)(hn:x.graph.nodes.length≤40)(he:x.graph.edges.length≤80)(hl:x.values.length=x.graph.nodes.length)(hb:∀ a∈x.graph.nodes,0≤a∧a<t.nodes.length)
  (hnd:∀ (n:Nat) (h1:n<x.graph.nodes.length) (h2:n<x.values.length),fW t x.graph.nodes[n] x.values[n]=0)
  (hed:∀ y∈x.graph.edges,((0≤y.type∧y.type<t.edges.length)∧(0≤y.from_∧y.from_<x.graph.nodes.length)∧(0≤y.to_∧y.to_<x.graph.nodes.length))∧mN t y.type (gN x.graph y.from_) (gN x.graph y.to_)=true):fM t x=0:=by
 have hf:=(lG hv).fewN
 have hf2:=(lG hv).fewE
 have hg:graphF x.graph=0:=M4 hn he (fun a ha=>by have:=hb a ha;omega) fun y hy=>by
  obtain ⟨⟨a1,a2,a3⟩,_⟩:=hed y hy
  exact ⟨by omega,a2,a3⟩
 have h1:(fJ (DN t x) 0 x.graph.nodes.length).2=0:=by
  rw [rD]
  refine nJ _ _ fun j _ hj=>?_
  have hj1:j<x.graph.nodes.length:=by omega
  unfold DN
  rw [aA hj1,aA (show j<x.values.length by omega),aD,aD]
  exact hnd j hj1 (by omega)
 unfold fM lY
 rw [if_neg (by omega),if_neg (by omega),if_neg (by omega),if_neg (by omega),rD]
 refine nJ _ _ fun j _ hj=>?_
 have hj1:j<x.graph.edges.length:=by omega
 obtain ⟨a1,a2⟩:=hed _ (aC hj1)
 unfold M3
 rw [aA hj1,aD,if_neg (by omega),if_pos a2]
theorem Lz {g:Graph}{c:Part}{vs:List Int}:∀ (l:List Slot) (vals:List (List Int)),vals.length=g.nodes.length→(∀ (n:Nat) (h1:n<g.nodes.length) (h2:n<vals.length),fW t g.nodes[n] vals[n]=0) →
  (∀ s∈l,vH t g c vs s=false)→(∀ s∈l,0≤s.attr)→∀ (n:Nat) (h1:n<g.nodes.length) (h2:n<(rO c vs l vals).length),fW t g.nodes[n] (rO c vs l vals)[n]=0
 | [],vals,_,hx,_,_=>fun n h1 h2=>hx n h1 h2
 | s :: l,vals,hl,hx,ho,ha=>by
  refine Lz l (vals.set (eI c s) ((vals[eI c s]?.getD []).set s.attr.toNat (cC s.term vs))) (by rw [iS];exact hl) (fun n h1 h2=>?_) (fun s hs=>ho s (by simp [hs])) (fun s hs=>ha s (by simp [hs]))
  rw [iS] at h2
  have hI:=hx n h1 h2
  rw [wX]
  split
  ·rename_i hs'
   subst hs'
   rw [aA h2,aD]
   obtain ⟨a1,a2,a3,a4⟩:=sM hI
   unfold fW
   rw [if_neg (by omega),if_neg (by rw [a2];simp),if_neg (by rw [iS];omega)]
   refine nJ _ _ fun j _ hj=>?_
   have hja:j<(bK t g.nodes[eI c s]).length:=by omega
   unfold zU
   rw [aA hja,aD]
   by_cases hj2:s.attr.toNat=j
   ·have e:((vals[eI c s]).set s.attr.toNat (cC s.term vs))[j]?=some (cC s.term vs):=by rw [← hj2];exact List.getElem?_set_self (by omega)
    rw [e,aD,if_neg]
    have hO:=ho s (by simp)
    unfold vH at hO
    rw [aA h1,aD,hj2,aA hja,aD,Bool.or_eq_false_iff,decide_eq_false_iff_not,decide_eq_false_iff_not] at hO
    omega
   ·rw [List.getElem?_set_ne hj2,aA (show j<(vals[eI c s]).length by omega),aD,if_neg]
    have:=a4 j (by omega) hja
    omega
  ·exact hI
theorem StepIn.after (S:StepIn t r h m)(hp:sB t (cK t r h m).graph (oH r h m) m.vars r.right.slots=0)(hn:(cK t r h m).graph.nodes.length≤40)(he:(cK t r h m).graph.edges.length≤80):fM t (v8 t r h m)=0:=by
 have ho:∀ s∈r.right.slots,vH t (cK t r h m).graph (oH r h m) m.vars s=false:=by
  unfold sB at hp
  split at hp
  ·cases hp
  ·split at hp
   ·cases hp
   ·rename_i h2
    rw [Bool.not_eq_true,uM] at h2
    exact fun s hs=>by simpa using h2 s hs
 exact N2 S.hR.vf hn he (by show (rO _ _ _ _).length=_;rw [(pQ _ _ _ _).1];exact S.vlen) S.bin (fun n h1 h2=>Lz _ _ S.vlen S.node ho (fun s hs=>(S.hR.slots s hs).2.1.1) n h1 h2) S.edge
end
def KN (t:Types)(r:Rule)(c:Part)(x0:Host)(a b V:Nat)(qs ns:List Nat):List (Nat × Blk) :=
 [(a,⟨3,1,(iH t r c x0).graph.nodes.map cI,false⟩),(b,⟨101,3,(iH t r c x0).graph.edges.map Edge.c,false⟩),(V,⟨34,1,jA (qs++ns) (iH t r c x0).values,false⟩)]
def N3 (t:Types)(r:Rule)(ns:List Nat):List (Nat × Blk):=Mn ns (r.freshN.map fun k=>lS t (gN r.right.graph k))
theorem LR {H H':AHeap}{t:Types}{r:Rule}{c:Part}{x0:Host}{lo a b V:Nat}{qs ns:List Nat}(hh:HH H lo a b V qs x0)(hag:∀ j∈a :: b :: V :: qs,H'.get j=H.get j)(hl:ns.length=r.freshN.length)(hnd:(a :: b :: V :: (qs++ns)).Nodup)
  (hlt:∀ j∈a :: b :: V :: (qs++ns),j<H'.next):HH ((H'.puts (KN t r c x0 a b V qs ns)).pushs (N3 t r ns)) 0 a b V (qs++ns) (iH t r c x0)∧((H'.puts (KN t r c x0 a b V qs ns)).pushs (N3 t r ns)).next=H'.next ∧
   (∀ j,j∉a :: b :: V :: (qs++ns)→((H'.puts (KN t r c x0 a b V qs ns)).pushs (N3 t r ns)).get j=H'.get j)∧(∀ j,((H'.puts (KN t r c x0 a b V qs ns)).pushs (N3 t r ns)).al j↔H'.al j∨j∈ns):=by
 have hids:(N3 t r ns).map (·.1)=ns:=C7 (by simpa using hl)
 have hab:=hh.ab
 have hnn:∀ j∈ns,j≠a∧j≠b∧j≠V∧j∉qs:=fun j hj=>by
  have h:=hnd
  simp only [fO,aS,aW,not_or,oJ] at h
  exact ⟨fun e=>h.1.2.2.2 (e ▸ hj),fun e=>h.2.1.2.2 (e ▸ hj),fun e=>h.2.2.1.2 (e ▸ hj),fun hq=>h.2.2.2.2.2 j hq j hj rfl⟩
 have hn:((N3 t r ns).map (·.1)).Nodup:=by
  rw [hids];have h:=hnd
  simp only [fO,oJ] at h
  exact h.2.2.2.2.1
 have hout:∀ j,j∉ns→((H'.puts (KN t r c x0 a b V qs ns)).pushs (N3 t r ns)).get j=(H'.puts (KN t r c x0 a b V qs ns)).get j:=fun j hj=>lX _ _ _ (by rw [hids];exact hj)
 have hnx:((H'.puts (KN t r c x0 a b V qs ns)).pushs (N3 t r ns)).next=H'.next:=by
  rw [nE _ _ fun p hp=>?_,sA]
  rw [sA]
  refine hlt p.1 ?_
  have:p.1∈ns:=by rw [← hids];exact l6 hp
  simp [this]
 have hvl:(iH t r c x0).values=x0.values++r.freshN.map (fun k=>lS t (gN r.right.graph k)):=rfl
 refine ⟨⟨?_,?_,?_,?_,fun i q v h1 h2=>?_,hnd,fun j hj=>⟨c8 _,by rw [hnx];exact hlt j hj⟩⟩,hnx,fun j hj=>?_,fun j=>?_⟩
 ·rw [hout a fun hm=>(hnn a hm).1 rfl]
  simp [AHeap.puts,AHeap.put,KN,hab.1,hab.2.1]
 ·rw [hout b fun hm=>(hnn b hm).2.1 rfl]
  simp [AHeap.puts,AHeap.put,KN,hab.2.2]
 ·rw [hout V fun hm=>(hnn V hm).2.2.1 rfl]
  simp [AHeap.puts,AHeap.put,KN]
 ·rw [hvl,aT,aT,bW,hh.len,hl]
 ·by_cases hi:i<qs.length
  ·rw [aR hi] at h1
   rw [hvl,aR (by rw [← hh.len];exact hi)] at h2
   have hq:=aH h1
   have hqn:=hh.qn hq
   rw [hout q fun hm=>(hnn q hm).2.2.2 hq,tI _ _ _ (fun p hp=>?_),hag q (hh.q_in hq)]
   ·exact hh.gq i q v h1 h2
   ·simp only [KN,aS,eO,or_false] at hp
    rcases hp with rfl|rfl|rfl
    ·exact Ne.symm hqn.1
    ·exact Ne.symm hqn.2.1
    ·exact Ne.symm hqn.2.2
  ·rw [aY (by omega)] at h1
   rw [hvl,aY (by rw [← hh.len];omega),← hh.len] at h2
   exact sC _ _ hn (Id h1 h2)
 ·simp only [aS,aW,not_or] at hj
  rw [hout j hj.2.2.2.2,tI _ _ _ fun p hp=>?_]
  simp only [KN,aS,eO,or_false] at hp
  rcases hp with rfl|rfl|rfl
  ·exact Ne.symm hj.1
  ·exact Ne.symm hj.2.1
  ·exact Ne.symm hj.2.2.1
 ·rw [pS,hids,G4]
theorem ACalls.wf {P:Program}{f:FuncId}{args:List D}{H:AHeap}{Q:D→AHeap→Prop}(he:P2 P f)(h:(∀ j,H.al j→j<H.next)→(∀ j,¬ H.al j→H.get j=none)→ACalls P f args H Q):ACalls P f args H Q :=
 ⟨he,fun M0 σ w vals hR ha=>(h hR.nxt fun j hj=>(hR.top j hj).2).2 M0 σ w vals hR ha⟩
theorem Jr {md:Nat→Bool}{ops:Array Oper}{sp:List (Nat × Nat)}{n0 i:Nat}{rest:List Oper}{acc:List (Nat × List Nat)}{e:cZ}{dst:Option Tmp}{K:cZ→AHeap→Prop}{H:AHeap}
  (t:Types) (ht:t.ok) (r:Rule) (hR:RuleV t r) (x0:Host) (c:Part) (hc:c.nodes.length=r.right.graph.nodes.length) (hs:x0.graph.nodes.length≤1000∧x0.graph.edges.length≤1000∧x0.values.length≤1000)
  (lo a b V:Nat) (qs ns:List Nat) (hh:HH H lo a b V qs x0) (hl:ns.length=r.freshN.length) (hnd:(a :: b :: V :: (qs++ns)).Nodup) (hn0:n0≤H.next) (hfr:∀ j∈ns,j<n0∧¬ H.al j)
  (hmd:AS md dst=true) (hck:En sp i (a :: b :: V :: (qs++ns)) acc)
  (hK:∀ E,HH E 0 a b V (qs++ns) (iH t r c x0)→(∀ j,j∉a :: b :: V :: (qs++ns)→E.get j=H.get j)→(∀ j,E.al j↔H.al j∨j∈ns)→E.next=H.next →
   iO Tryz.prog md ops sp n0 (i+1) rest ((i,a :: b :: V :: (qs++ns)) :: acc) (mC e dst (.agg [.own a (iH t r c x0).graph.nodes.length,.own b (iH t r c x0).graph.edges.length,.own V (iH t r c x0).values.length])) E K) :
  nK Tryz.prog md ops sp n0 i rest acc e dst K 86 [t.d,r.d,.agg [.own a x0.graph.nodes.length,.own b x0.graph.edges.length,.own V x0.values.length],c.d] H:=by
 have hids:(N3 t r ns).map (·.1)=ns:=C7 (by simpa using hl)
 have hEnt:=(Bq t ht r hR x0 c hc hs H lo a b V qs hh (fun _ _=>True) (fun _ _ _ _ _ _=>trivial)).1
 unfold nK
 refine Or.inr ⟨hmd,.agg [.own a (iH t r c x0).graph.nodes.length,.own b (iH t r c x0).graph.edges.length,.own V (iH t r c x0).values.length],a :: b :: V :: qs,KN t r c x0 a b V qs ns,N3 t r ns,fun p hp=>?_,fun p hp=>hfr p.1 (by rw [← hids];exact l6 hp),fun H' hag hfresh=>?_,?_,?_⟩
 ·simp only [KN,aS,eO,or_false] at hp
  rcases hp with rfl|rfl|rfl<;>simp
 ·refine ACalls.wf hEnt fun hnx hnon=>?_
  have hf':∀ j∈ns,j<H'.next∧¬ H'.al j:=fun j hj=>by
   rw [← hids,bG] at hj
   obtain ⟨p,hp,rfl⟩:=hj
   exact hfresh p hp
  have hgs:∀ j∈a :: b :: V :: qs,∃ k,H.get j=some k:=fun j hj=>by
   simp only [aS] at hj
   rcases hj with rfl|rfl|rfl|hq
   ·exact ⟨_,hh.ga⟩
   ·exact ⟨_,hh.gb⟩
   ·exact ⟨_,hh.gV⟩
   ·obtain ⟨p,hp,rfl⟩:=aN hq
    exact ⟨_,hh.gq p _ _ (aA hp) (aA (by rw [← hh.len];exact hp))⟩
  have hA:∀ j∈a :: b :: V :: qs,H'.al j:=fun j hj=>bD fun hn=>by
   obtain ⟨k,hk⟩:=hgs j hj
   have:=hag j hj
   rw [hk,hnon j hn] at this;cases this
  have hh':HH H' 0 a b V qs x0:=⟨(hag a hh.a_in).trans hh.ga,(hag b hh.b_in).trans hh.gb,(hag V hh.V_in).trans hh.gV,hh.len,fun i q v h1 h2=>(hag q (hh.q_in (aH h1))).trans (hh.gq i q v h1 h2),hh.nd,fun j hj=>⟨c8 _,hnx j (hA j hj)⟩⟩
  have hlt:∀ j∈a :: b :: V :: (qs++ns),j<H'.next:=fun j hj=>by
   simp only [aS,aW] at hj
   rcases hj with h|h|h|h|h
   ·exact hnx j (hA j (by simp [h]))
   ·exact hnx j (hA j (by simp [h]))
   ·exact hnx j (hA j (by simp [h]))
   ·exact hnx j (hA j (by simp [h]))
   ·exact (hf' j h).1
  obtain ⟨g1,g2,g3,g4⟩:=LR (t:=t) (r:=r) (c:=c) hh hag hl hnd hlt
  refine ACalls.exact (E:=(H'.puts (KN t r c x0 a b V qs ns)).pushs (N3 t r ns)) (Bq t ht r hR x0 c hc hs H' 0 a b V qs hh' (fun d H1=>∃ ns1,(∀ j∈ns1,H'.next≤j)∧HH H1 0 a b V (qs++ns1) (iH t r c x0)∧(∀ j,j<H'.next→j∉a :: b :: V :: qs→H1.get j=H'.get j)∧d=.agg [.own a (iH t r c x0).graph.nodes.length,.own b (iH t r c x0).graph.edges.length,.own V (iH t r c x0).values.length]) (fun ns1 H1 k1 k2 k3 _=>⟨ns1,k1,k2,k3,rfl⟩)) ?_
  rintro _ _ d H1 ⟨ns1,k1,k2,k3,rfl⟩
  refine HH.exact g1 k2 hnx hnon (by rw [g2];exact bC _) (fun j=>?_) (fun j hj hjn=>k3 j (hnx j hj) fun hm=>hjn (by simp only [aS,aW] at hm ⊢;rcases hm with h|h|h|h<;>simp [h])) g3 (fun p j j1 e1 e2=>?_)
  ·rw [g4]
   constructor
   ·rintro (h|h)
    ·exact .inl h
    ·exact .inr (by simp [h])
   ·rintro (h|h)
    ·exact .inl h
    ·simp only [aS,aW] at h
     rcases h with h|h|h|h|h
     ·exact .inl (hA j (by simp [h]))
     ·exact .inl (hA j (by simp [h]))
     ·exact .inl (hA j (by simp [h]))
     ·exact .inl (hA j (by simp [h]))
     ·exact .inr h
  ·have ea:∀ l:List Nat,a :: b :: V :: (qs++l)=(a :: b :: V :: qs)++l:=fun l=>rfl
   rw [ea] at e1 e2
   by_cases hp:p<(a :: b :: V :: qs).length
   ·rw [aR hp] at e1 e2
    rw [e1] at e2;cases e2
    exact ⟨fun _=>rfl,fun h=>h⟩
   ·rw [aY (by omega)] at e1 e2
    have m1:=hf' j (aH e1)
    have m2:=k1 j1 (aH e2)
    exact ⟨fun h=>absurd h m1.2,fun _ h=>by have:=hnx j1 h;omega⟩
 ·rw [hids];exact hck
 ·rw [hids]
  have hlt:∀ j∈a :: b :: V :: (qs++ns),j<H.next:=fun j hj=>by
   simp only [aS,aW] at hj
   rcases hj with h|h|h|h|h
   ·exact (hh.rng j (by simp [h])).2
   ·exact (hh.rng j (by simp [h])).2
   ·exact (hh.rng j (by simp [h])).2
   ·exact (hh.rng j (by simp [h])).2
   ·exact bP (hfr j h).1 hn0
  obtain ⟨g1,g2,g3,g4⟩:=LR (t:=t) (r:=r) (c:=c) hh (fun _ _=>rfl) hl hnd hlt
  exact hK _ g1 g3 g4 g2
def oM:Pattern:=⟨⟨[],[]⟩,[],0,[]⟩
def mF:Rule:=⟨⟨#[]⟩,oM,oM,⟨[],[]⟩,⟨[],[]⟩,false,.mk 0 [] ⟨[],[]⟩ oM⟩
def lO:Stp26:=⟨mF,gX,⟨⟨[],[]⟩,[]⟩,⟨⟨[],[]⟩,[]⟩,⟨[],[]⟩,⟨[],[]⟩⟩
def kH (t:Types)(r:Rule)(h:Host)(m:Mat):Stp26:=if sZ t r h m=0 then AE t r h m else lO
@[go_sem] theorem Stp26.cl (s:Stp26):D.clL s.c=true:=by
 simp [Stp26.c,D9,Rule.cl,Mat.cl,JQ,D.clL,mP]
def qK (a k:Nat):List Nat:=(List.range k).map (· + a)
theorem sL {a k j:Nat}:j∈qK a k↔a≤j∧j<a+k:=by
 simp only [qK,bG,bZ]
 constructor
 ·rintro ⟨i,h1,rfl⟩;omega
 ·rintro ⟨h1,h2⟩;exact ⟨j - a,by omega,by omega⟩
theorem Jg (a k:Nat):(qK a k).length=k:=by simp [qK]
theorem yF (a k:Nat):(qK a k).Nodup:=by
 unfold qK
 exact List.Pairwise.map (· + a) (fun x y h=>by simp only [ne_eq] at h ⊢;omega) List.nodup_range
theorem NZ (k f:Nat):(0 :: 1 :: 2 :: (qK 3 k++qK (3+k) f)).Nodup:=by
 simp only [fO,aS,aW,sL,oJ]
 exact ⟨by omega,by omega,by omega,yF _ _,yF _ _,fun x hx y hy=>by omega⟩
theorem LP {k f j:Nat}(h:j∈0 :: 1 :: 2 :: (qK 3 k++qK (3+k) f)):j<3+k+f:=by
 simp only [aS,aW,sL] at h;omega
theorem NY (k:Nat):(0 :: 1 :: 2 :: qK 3 k).Nodup:=by
 simp only [fO,aS,sL]
 exact ⟨by omega,by omega,by omega,yF _ _⟩
theorem DM {k j:Nat}(h:j∈0 :: 1 :: 2 :: qK 3 k):j<3+k:=by
 simp only [aS,sL] at h;omega
theorem KQ {t:Types}{r:Rule}{h:Host}(hr:r.ok)(h0:eW t r h=0):RuleV t r∧HostOk t h:=by
 unfold eW at h0
 split at h0
 ·exact absurd h0 (by assumption)
 ·rename_i h1;exact ⟨PB hr (by simpa using h1),vO h0⟩
theorem MH {t:Types}{r:Rule}{h:Host}{m:Mat}(h0:j6 t r h m=0):qJ t r h m=0:=by
 unfold j6 at h0
 split at h0
 ·exact absurd h0 (by assumption)
 ·rename_i h1;simpa using h1
section
variable {t:Types} {r:Rule} {h:Host} {m:Mat}
theorem StepIn.ex (S:StepIn t r h m)(hh:fM t h=0):OI t h (b4 r h m)=⟨b7 h.graph (b4 r h m),(b4 r h m).nodes.map fun k=>h.values[k.toNat]?.getD []⟩:=by
 unfold OI;rw [if_pos]
 unfold QL;rw [if_neg (by omega)];exact S.sub
theorem StepIn.eimg (S:StepIn t r h m):(∀ x∈m.m.nodes,0≤x∧x<h.graph.nodes.length)∧∀ x∈m.m.edges,0≤x∧x<h.graph.edges.length:=by
 refine ⟨fun x hx=>?_,fun x hx=>?_⟩
 ·obtain ⟨i,hi,rfl⟩:=aN hx
  exact (S.hm.img i hi (by have:=S.hm.len;omega)).1
 ·obtain ⟨i,hi,rfl⟩:=aN hx
  exact S.hm.eimg i hi
end
theorem FR {t:Types}{r:Rule}{h:Host}{m:Mat}(S:StepIn t r h m)(hp:qJ t r h m=0):MatOk t r.left h m:=by
 unfold qJ at hp
 split at hp
 ·cases hp
 ·split at hp
  ·exact absurd hp (by assumption)
  ·rename_i h2
   split at hp
   ·cases hp
   ·rename_i h3
    rw [iL] at h2 h3
    obtain ⟨_,_,_,h4⟩:=Fo h2
    rw [h4] at h2 h3
    obtain ⟨a1,a2⟩:=xT (OU S.hR.pl S.ho S.hm) (vs:=[]) (by simp) (by simp) h2
    rw [h3] at a1 a2
    exact ⟨S.hm,a1,a2⟩
theorem Ij (t:Types)(ht:t.ok)(r:Rule)(hr:r.ok)(h:Host)(m:Mat):Pure Tryz.prog 33 [t.d,r.d,h.d,m.d] (.tup [.agg (kH t r h m).c,dI (sZ t r h m)]):=by
 refine LA (by first|rfl|(simp [go_sem];done)) (fun Q hQ=>ACalls.bump 100 (aG (cfg:=⟨fun t=>t==8||t==11||t==13||t==14||t==15||t==16||t==95||t==97,fun r=>match r with|8=>[(5,6),(5,7),(5,8),(5,9),(5,10),(0,13),(1,13),(2,13),(3,13),(4,13),(5,13),(6,13),(7,13),(8,13),(9,13),(10,13),(11,13)]|9=>[(16,17),(16,18),(16,19),(16,20),(16,21),(16,22),(16,23),(16,24),(16,25),(16,26),(16,27),(16,28),(16,29),(16,30),(16,31),(16,32),(0,35),(1,35),(2,35),(3,35),(4,35),(5,35),(6,35),(7,35),(8,35),(9,35),(10,35),(11,35),(12,35),(13,35),(14,35),(15,35),(16,35),(17,35),(18,35),(19,35),(20,35),(21,35),(22,35),(23,35),(24,35),(25,35),(26,35),(27,35),(28,35),(29,35),(30,35),(31,35),(32,35),(33,35)]|10=>[(0,3),(1,3),(3,4)]|_=>[]⟩) Tz.mixed Tryz.func33 rfl rfl (aE rfl) (by kernel_rfl) ?_))
 have Y:=wa @Host.d.eq_1 (wa @Host.c.eq_1 (wa @Mat.d.eq_1 (wa @Mat.c.eq_1 (wa @mS (wa @qC (wa @Gs @Eg))))))
 refine wv (h:=aB (Br t ht r hr h) wl ?_)
 refine cT (fun h2=>?_) fun h2=>?_
 ·have hA:sZ t r h m=eW t r h:=by unfold sZ;rw [if_pos h2]
  have hV:kH t r h m=lO:=by unfold kH;rw [if_neg (by omega)]
  exact wv (h:=hQ _ _ (by simp [go_sem,hA,hV,lO,mF,oM,gX,Stp26.c,Rule.c,Mat.c,Host.c,Cond.kind,Cond.kids,Cond.map,Cond.pattern,dLI,dI]))
 ·obtain ⟨hR,ho⟩:=KQ hr h2
  have hh0:fM t h=0:=by unfold eW at h2;split at h2;exact absurd h2 (by assumption);exact h2
  have hA0:sZ t r h m=f5 t r h m:=by unfold sZ;rw [if_neg (by omega)]
  refine wv (h:=aB (Db t ht r hR h ho m) wl ?_)
  refine cT (fun h5=>?_) fun h5=>?_
  ·have hA:sZ t r h m=j6 t r h m:=by rw [hA0];unfold f5;rw [if_pos h5]
   have hV:kH t r h m=lO:=by unfold kH;rw [if_neg (by omega)]
   exact wv (h:=hQ _ _ (by simp [go_sem,hA,hV,lO,mF,oM,gX,Stp26.c,Rule.c,Mat.c,Host.c,Cond.kind,Cond.kids,Cond.map,Cond.pattern,dLI,dI]))
  ·have hpre:=MH (show j6 t r h m=0 by omega)
   have S:=NB hR ho hpre
   have hP:sD t r h m=b4 r h m:=by unfold sD;rw [if_pos hpre]
   have hX:=S.ex hh0
   obtain ⟨x0,hx0⟩:∃ x0:Host,x0=⟨b7 h.graph (b4 r h m),(b4 r h m).nodes.map fun k=>h.values[k.toNat]?.getD []⟩:=⟨_,rfl⟩
   rw [← hx0] at hX
   obtain ⟨tr,htr⟩:∃ tr,tr=lN r h m:=⟨_,rfl⟩
   have hT1:jF (b4 r h m).nodes h.graph.nodes.length=tr.nodes:=by rw [htr];rfl
   have hT2:jF (b4 r h m).edges h.graph.edges.length=tr.edges:=by rw [htr];rfl
   have htl1:tr.nodes.length=h.graph.nodes.length:=by rw [← hT1,jX]
   have htl2:tr.edges.length=h.graph.edges.length:=by rw [← hT2,jX]
   obtain ⟨hin1,hin2⟩:=S.eimg
   have hK:=hR.keep
   have hml:=S.hm.len
   have hmel:=S.hm.elen
   have hal1:(mX m.m.nodes tr.nodes).length=m.m.nodes.length:=by simp [mX]
   have hal2:(mX m.m.edges tr.edges).length=m.m.edges.length:=by simp [mX]
   obtain ⟨cm,hcm⟩:∃ cm,cm=oH r h m:=⟨_,rfl⟩
   have hC1:Cl r.keep.nodes r.into.nodes (mX m.m.nodes tr.nodes) r.right.graph.nodes.length (b4 r h m).nodes.length=cm.nodes:=by rw [hcm,htr];rfl
   have hC2:Cl r.keep.edges r.into.edges (mX m.m.edges tr.edges) r.right.graph.edges.length (b4 r h m).edges.length=cm.edges:=by rw [hcm,htr];rfl
   have hgl:=bJ hR.pl.gg
   have hgr:=bJ hR.gr
   have hgh:=bJ ho.gg
   have hdl:=S.len
   have hxv:x0.values.length=(b4 r h m).nodes.length:=by rw [hx0];simp
   have hxn:x0.graph.nodes.length=(b4 r h m).nodes.length:=by rw [hx0];unfold b7;rw [if_pos S.sub];simp
   have hxe:x0.graph.edges.length=(b4 r h m).edges.length:=by rw [hx0];unfold b7;rw [if_pos S.sub];simp
   have hxr:∀ v∈x0.values,v.length≤8:=fun v hv=>by
    rw [hx0,bG] at hv
    obtain ⟨k,hk,rfl⟩:=hv
    have hkr:=S.nin k hk
    have hvl:=ho.vl
    rw [aA (show k.toNat<h.values.length by omega),aD]
    exact (ho.row _ (aC _)).1
   have hcl:cm.nodes.length=r.right.graph.nodes.length:=by rw [hcm];simp [oH,Cl]
   have hB:iH t r cm x0=cK t r h m:=by rw [hcm,hx0];rfl
   have hfl:r.freshN.length≤40:=dM (jL _ _) hgr.1
   have hMat:=FR S hpre
   have hvl:=hMat.vl
   have hvs:Sm m.vars:=fun v hv=>by have:=hMat.vs v hv;omega
   have Y:=wa Y (wa hP (wa @Part.d.eq_1 (wa @Part.c.eq_1 (wa hX (wa hT1 (wa hT2 (wa hC1 hC2)))))))
   refine wv (h:=aB (EI t ht h (b4 r h m) (by omega) (by omega) (by omega) (by omega)) wl ?_)
   refine wv (h:=aI (u7 m.m.nodes tr.nodes (by omega) (fun x hx=>by have:=hin1 x hx;omega)) wl ?_)
   refine wv (h:=aI (u7 m.m.edges tr.edges (by omega) (fun x hx=>by have:=hin2 x hx;omega)) wl ?_)
   refine wp (h:=aI (xF r.keep.nodes r.into.nodes (mX m.m.nodes tr.nodes) r.right.graph.nodes.length (b4 r h m).nodes.length (by omega) (fun x hx=>by have:=hK.2.1 x hx;rw [hal1];omega) (by omega) (by omega)) wl ?_)
   refine wp (h:=aI (xF r.keep.edges r.into.edges (mX m.m.edges tr.edges) r.right.graph.edges.length (b4 r h m).edges.length (by omega) (fun x hx=>by have:=hK.2.2.1 x hx;rw [hal2];omega) (by omega) (by omega)) wl ?_)
   refine wp (h:=?_)
   refine EY x0 (by omega) (by omega) (by omega) (fun v hv=>by have:=hxr v hv;omega) 0 1 2 (qK 3 x0.values.length) (Jg _ _) (NY _) (by simp [go_sem]) (fun j hj=>?_) rfl ?_ (fun E hE1 hE2 hE3 hE4=>?_)
   ·have hj2:=DM hj
    refine ⟨by omega,?_⟩
    simp [go_sem,mS,qC,Gs,Eg];omega
   ·intro q hq hs x hx
    simp at hq
    rcases hq with rfl|rfl|rfl<;>simp at hs hx
   have hno:∀ j,100≤j→j∉0 :: 1 :: 2 :: qK 3 x0.values.length:=fun j hj hm=>by have:=DM hm;omega
   have hno2:∀ j,100≤j→j∉0 :: 1 :: 2 :: (qK 3 x0.values.length++qK (3+x0.values.length) r.freshN.length):=fun j hj hm=>by have:=LP hm;omega
   have g100:=hE2 100 (hno _ (by omega))
   have g102:=hE2 102 (hno _ (by omega))
   have g103:=hE2 103 (hno _ (by omega))
   have g154:=hE2 154 (hno _ (by omega))
   simp [go_sem] at g100 g102 g103 g154 hE4
   have hal:∀ j,j<100→E.al j→j∈0 :: 1 :: 2 :: qK 3 x0.values.length:=fun j hj hA=>by
    rcases (hE3 j).1 hA with h|h
    ·simp [go_sem,mS,qC,Gs,Eg] at h;omega
    ·exact h
   have n154:∀ (a:Nat),a∈qK 3 x0.values.length→¬ a=154:=fun a hm=>by rw [sL] at hm;omega
   have Y:=wa Y (wa g100 (wa g102 (wa g103 g154)))
   refine wp (h:=?_)
   refine Jr t ht r hR x0 cm hcl (by omega) 0 0 1 2 (qK 3 x0.values.length) (qK (3+x0.values.length) r.freshN.length) hE1 (by rw [Jg]) (NZ _ _) (by rw [hE4];omega) (fun j hj=>?_) rfl ?_ (fun F hF1 hF2 hF3 hF4=>?_)
   ·rw [sL] at hj
    refine ⟨by omega,fun hA=>?_⟩
    have:=DM (hal j (by omega) hA)
    omega
   ·intro q hq hs x hx
    simp at hs
   rw [hB] at hF1 ⊢
   rw [hE4] at hF4
   have f100:=hF2 100 (hno2 _ (by omega))
   have f102:=hF2 102 (hno2 _ (by omega))
   have f103:=hF2 103 (hno2 _ (by omega))
   have f154:=hF2 154 (hno2 _ (by omega))
   rw [g100] at f100
   rw [g102] at f102
   rw [g103] at f103
   rw [g154] at f154
   have Y:=wa Y (wa f100 (wa f102 (wa f103 f154)))
   refine wp (h:=?_)
   unfold eY
   refine Kl t ht r hR (cK t r h m) cm (hcm ▸ S.put) m.vars hvl hvs _ 0 0 1 2 (qK 3 x0.values.length++qK (3+x0.values.length) r.freshN.length) (hF1.same (by simp [go_sem]) (fun j hj=>by have:=LP hj;simp [go_sem,show j≠102 by omega])) _ (fun H4 e1 e2 e3=>?_) (fun H4 e1 e2 e3=>?_)
   ·have k100:=e2 100 (by simp [go_sem];omega) (hno2 _ (by omega))
    have k102:=e2 102 (by simp [go_sem];omega) (hno2 _ (by omega))
    simp [go_sem,f100] at k100 k102
    have hA:sZ t r h m=sB t (cK t r h m).graph cm m.vars r.right.slots:=by rw [hA0];unfold f5;rw [if_neg (by omega),← hcm,if_pos e1]
    have hV:kH t r h m=lO:=by unfold kH;rw [if_neg (by omega)]
    simp [go_sem,seval,k100,k102]
    refine aO (fun hc=>?_) (fun hc=>absurd (by simpa using hc) e1)
    simp [go_sem,seval,k100,k102]
    exact hQ _ _ (by first|(left;(simp [go_sem,hA,hV,lO,mF,oM,gX,Stp26.c,Rule.c,Mat.c,Host.c,Cond.kind,Cond.kids,Cond.map,Cond.pattern,dLI,dI]);done)|(right;(simp [go_sem,hA,hV,lO,mF,oM,gX,Stp26.c,Rule.c,Mat.c,Host.c,Cond.kind,Cond.kids,Cond.map,Cond.pattern,dLI,dI]);done))
   have k100:=e2 100 (by simp [go_sem];omega) (hno2 _ (by omega))
   have k102:=e2 102 (by simp [go_sem];omega) (hno2 _ (by omega))
   have k103:=e2 103 (by simp [go_sem];omega) (hno2 _ (by omega))
   have k154:=e2 154 (by simp [go_sem];omega) (hno2 _ (by omega))
   simp [go_sem,f100,f102,f103,f154] at k100 k102 k103 k154
   have Y:=wa Y (wa k100 (wa k102 (wa k103 k154)))
   refine qP (fun h14=>?_) fun h14=>?_
   ·have hA:sZ t r h m=3:=by
     rw [hA0];unfold f5;rw [if_neg (by omega),← hcm,if_neg (by omega),if_pos (by omega)]
    have hV:kH t r h m=lO:=by unfold kH;rw [if_neg (by omega)]
    exact wv (h:=hQ _ _ (by simp [go_sem,hA,hV,lO,mF,oM,gX,Stp26.c,Rule.c,Mat.c,Host.c,Cond.kind,Cond.kids,Cond.map,Cond.pattern,dLI,dI]))
   ·have hA:sZ t r h m=0:=by
     rw [hA0];unfold f5;rw [if_neg (by omega),← hcm,if_neg (by omega),if_neg (by omega)]
    have hV:kH t r h m=AE t r h m:=by unfold kH;rw [if_pos hA]
    have hW:v8 t r h m=⟨(cK t r h m).graph,rO cm m.vars r.right.slots (cK t r h m).values⟩:=by rw [hcm];rfl
    exact wv (h:=hQ _ _ (by simp [go_sem,hA,hV,AE,Stp26.c,Mat.c,Host.c,hW,← htr,← hcm]))
end Go.Abs
end
