/- Layer 26 of the reference: put. · Layer 26, the plain law: w -/
import Derived.Test.YthalajhajpjjeaaGreatZfAF
import Derived.Test.YthalajhajpjjeaaGreatZfAA
import Derived.Test.YthalajhajpjjeaaGreatZfAP
import Derived.Test.YthalajhajpjjeaaGreatZfAE
import Derived.Carry
import Derived.ChangeArms
import Derived.WideShapes
import Derived.DataElems
import Derived.OpenShut
import Derived.Laws.Externs
set_option linter.unusedVariables false
set_option linter.unusedSimpArgs false
section
set_option maxRecDepth 100000
set_option maxHeartbeats 4000000
open Go Go.Proofs
namespace Go.Abs
theorem In (c:Part)(vs:List Int)(l:List Slot)(s:Slot)(vals:List (List Int)):tJ c vs (l++[s]) vals=(tJ c vs l vals).set (fJ c s) (((tJ c vs l vals)[fJ c s]?.getD []).set s.attr.toNat (c8 s.term vs)):=by unfold tJ;rw [EM];rfl
theorem oN (c:Part)(vs:List Int):∀ (l:List Slot) (vals:List (List Int)),(tJ c vs l vals).length=vals.length/\∀ n:Nat,((tJ c vs l vals)[n]?.getD []).length=(vals[n]?.getD []).length
 | [],vals=>⟨rfl,λ_=>rfl⟩
 | s :: l,vals=>by
  obtain ⟨h1,h2⟩:=oN c vs l (vals.set (fJ c s) ((vals[fJ c s]?.getD []).set s.attr.toNat (c8 s.term vs)))
  have e:tJ c vs (s :: l) vals=tJ c vs l (vals.set (fJ c s) ((vals[fJ c s]?.getD []).set s.attr.toNat (c8 s.term vs))):=rfl
  rw [e]
  refine ⟨by rw [h1,iZ],λn=>?_⟩
  rw [h2 n,dX]
  split
  .rename_i hn
   subst hn
   split
   .simp
   .rename_i hn;rw [b5 aD]
  .rfl
def tT (c:Part)(vs:List Int)(l:List Slot)(i k:Nat):Bool:=match l[k]?,l[i]? with|some a,some b=>C1 c vs a b|_,_=>false
theorem u3 (c:Part)(vs:List Int)(l:List Slot):vZ c vs l=(List.range l.length).any λi=>(List.range i).any λk=>tT c vs l i k:=rfl
structure PutOk (t:Types) (r:Rule) (x:Host) (c:Part):Prop where
 cl:c.nodes.length=r.right.graph.nodes.length
 few:x.graph.nodes.length<=2000/\x.graph.edges.length<=2000/\x.values.length<=2000
 spot:∀ s∈r.right.slots,0<=c.nodes[s.node.toNat]?.getD 0/\fJ c s<x.values.length/\fJ c s<x.graph.nodes.length
 attr:∀ s∈r.right.slots,s.attr<(x.values[fJ c s]?.getD []).length/\s.attr<(bL t (x.graph.nodes[fJ c s]?.getD 0)).length
theorem NP (t:Types)(ht:t.ok)(r:Rule)(hR:RuleV t r)(x0:Host)(c:Part)(hP:PutOk t r x0 c)(vs:List Int)(hvl:vs.length=r.left.vars.toNat)(hvs:Sm vs)
  (G:AHeap) (lo a b V:Nat) (qs:List Nat) (hh0:HH G lo a b V qs x0) (Q:D->AHeap->Prop)
  (hQe:∀ H',sJ t x0.graph c vs r.right.slots≠0->(∀ j,j<G.next->j∉a :: b :: V :: qs->H'.get j=G.get j)->G.next<=H'.next->Q (.tup [.agg [.nil,.nil,.nil],dI (sJ t x0.graph c vs r.right.slots)]) H')
  (hQ:∀ H',sJ t x0.graph c vs r.right.slots=0->(∀ j,j<G.next->j∉a :: b :: V :: qs->H'.get j=G.get j)->G.next<=H'.next->Q (.tup [Host.d ⟨x0.graph,tJ c vs r.right.slots x0.values⟩,dI 0]) H') :
  ACalls Tryz.prog 66 [t.d,r.d,.agg [.own a x0.graph.nodes.length,.own b x0.graph.edges.length,.own V x0.values.length],c.d,dLI vs] G Q:=by
 have hgi:=eL hR.gr
 have ha0:=hh0.rng a hh0.a_in
 have hb0:=hh0.rng b hh0.b_in
 have hV0:=hh0.rng V hh0.V_in
 have hab:=hh0.ab
 have hsl:=hR.slots
 have hfew:=hR.few
 obtain ⟨l,hl⟩:=cF (r.right.slots)
 rw [<- hl] at hQe hQ hsl hfew
 have hspot:=hP.spot
 have hattr:=hP.attr
 rw [<- hl] at hspot hattr
 have hcl:=hP.cl
 obtain ⟨Q',hQ'⟩:∃ Q':D->AHeap->Prop,∀ d H',Q' d H'↔Q (iR H' d) (fK (Ah H' d) H'):=⟨_,λ_ _=>Iff.rfl⟩
 refine ACalls.deep ?_
 rw [show (λd H'=>Q (iR H' d) (fK (Ah H' d) H'))=Q' from funext λd=>funext λH'=>propext (hQ' d H').symm]
 refine (aI (cfg:=⟨λt=>t==7||t==10,λ_=>[]⟩) Tz.mixed Tryz.func66 rfl rfl (aF rfl) (by kernel_rfl) ?_)
 have Y:=wa @Part.d.eq_1 (wa @Part.c.eq_1 (wa (Eq.symm hl) @Term.c.eq_1))
 refine wv (h:=bF (λi e H=>∃ X:Nat,∃ R:Nat,(e 5=.adr t.c/\e 6=.adr r.c/\e 8=.adr c.c/\e 4=dLI vs/\e 12=.list (l.map Slot.c)/\e 7=.ptr X 1 0 0/\e 10=.ptr R 1 0 0/\e 13=dI i)/\(H.get X=some ⟨44,3,[[.own a x0.graph.nodes.length,.own b x0.graph.edges.length,.own V x0.values.length]],false⟩)/\(X<H.next)/\(H.get R=some ⟨44,3,[[.nil,.nil,.nil]],false⟩)/\(R<H.next)/\(i<=l.length)/\(HH H lo a b V qs x0)/\(∀ j∈a :: b :: V :: qs,j≠X/\j≠R)/\(G.next<=X/\X<R)/\(∀ p q,p<i->q<p->tT c vs l p q=false)/\(∀ j,j<G.next->j∉a :: b :: V :: qs->H.get j=G.get j)/\(G.next<=H.next)) (λi=>l.length - i) 0 ⟨G.next,(G.next+1),wg,wn,wn,wn,wn,wi,(by exact hh0.same (by simp [go_sem];omega) (λj hj=>by have:=(hh0.rng j hj).2;simp [go_sem,cD this])),(by intro j hj;have:=(hh0.rng j hj).2;omega),aD,(by intro p q hp;omega),(by intro j hj _;simp [go_sem,cD hj]),(by simp [go_sem];omega)⟩ λI0 hI0 i e H hi0=>?_)
 obtain ⟨X,R,E0,gX_0,nX_0,gR_0,nR_0,hi,hh,hXq,hXR,hC,hG,hnx⟩:=hi0
 have di1:=And.intro (dH (aD:R≠X)) (And.intro (dH (aD:R≠V)) (And.intro (dH (aD:R≠b)) (And.intro (dH (aD:R≠a)) (And.intro (dH (aD:X≠V)) (And.intro (dH (aD:X≠b)) (And.intro (dH (aD:X≠a)) (And.intro (dH (aD:V≠b)) (And.intro (dH (aD:V≠a)) (dH (aD:b≠a))))))))))
 have Y:=wa Y (wa E0 (wa gX_0 (wa (cD nX_0) (wa gR_0 (wa (cD nR_0) di1)))))
 refine sG (λh3=>?_) λh3=>?_
 .have hlm:=aC h3
  have hTi:=(hsl _ hlm).2.2
  have hni:=(hsl _ hlm).1
  have hnc:l[i].node.toNat<c.nodes.length:=aD
  have Y:=wa Y (wa h3 (wa (aA h3) (wa @Slot.c.eq_1 (aA hnc))))
  refine wp (h:=aB (jM l[i].term vs (by rw [hvl];exact hTi) hvs) wl ?_)
  refine wp (h:=bF (λk e H=>(e 5=.adr t.c/\e 6=.adr r.c/\e 8=.adr c.c/\e 4=dLI vs/\e 12=.list (l.map Slot.c)/\e 7=.ptr X 1 0 0/\e 10=.ptr R 1 0 0/\e 13=dI i/\e 14=dI (c8 l[i].term vs)/\e 16=dI k)/\(H.get X=some ⟨44,3,[[.own a x0.graph.nodes.length,.own b x0.graph.edges.length,.own V x0.values.length]],false⟩)/\(X<H.next)/\(H.get R=some ⟨44,3,[[.nil,.nil,.nil]],false⟩)/\(R<H.next)/\(k<=i)/\(HH H lo a b V qs x0)/\(∀ q,q<k->tT c vs l i q=false)/\(∀ j,j<G.next->j∉a :: b :: V :: qs->H.get j=G.get j)/\(G.next<=H.next)) (λk=>i - k) 0 ⟨wg,wn,wn,wn,wn,wi,(by exact hh.same (by first|(simp [go_sem];done)|(simp [go_sem];omega)) (λ_ _=>rfl)),(by intro q hq;omega),(by exact hG),(by first|exact hnx|(simp [go_sem];omega))⟩ λI2 hI2 k e H hi2=>?_)
  obtain ⟨E2,gX_2,nX_2,gR_2,nR_2,hk,hh2,hC2,hG2,hn2⟩:=hi2
  have di2:=And.intro (dH (aD:R≠X)) (And.intro (dH (aD:R≠V)) (And.intro (dH (aD:R≠b)) (And.intro (dH (aD:R≠a)) (And.intro (dH (aD:X≠V)) (And.intro (dH (aD:X≠b)) (And.intro (dH (aD:X≠a)) (And.intro (dH (aD:V≠b)) (And.intro (dH (aD:V≠a)) (dH (aD:b≠a))))))))))
  have Y:=wa Y (wa E2 (wa gX_2 (wa (cD nX_2) (wa gR_2 (wa (cD nR_2) di2)))))
  refine dP (λh7=>?_) λh7=>?_
  .have hkl:k<l.length:=aD
   have hlk:=aC hkl
   have hTk:=(hsl _ hlk).2.2
   have hnk:=(hsl _ hlk).1
   have hnck:l[k].node.toNat<c.nodes.length:=aD
   have hs1:=(hspot _ hlm).1
   have hs2:=(hspot _ hlk).1
   rw [aA hnc,Option.getD_some] at hs1
   rw [aA hnck,Option.getD_some] at hs2
   have hCI:tT c vs l i k=(decide (c.nodes[l[k].node.toNat]=c.nodes[l[i].node.toNat])&&(decide (l[k].attr=l[i].attr)&&decide (c8 l[k].term vs≠c8 l[i].term vs))):=by
    unfold tT C1 fJ
    simp only [aA hkl,aA h3,aA hnc,aA hnck,Option.getD_some]
    rw [show (decide ((c.nodes[l[k].node.toNat]).toNat=(c.nodes[l[i].node.toNat]).toNat))=decide (c.nodes[l[k].node.toNat]=c.nodes[l[i].node.toNat]) from by rw [decide_eq_decide];omega]
   have Y:=wa Y (wa h7 (wa (aA hkl) (aA hnck)))
   refine wp (h:=aB (jM l[k].term vs (by rw [hvl];exact hTk) hvs) wl ?_)
   refine sG (λh10=>?_) λh10=>?_
   .have hB:vZ c vs l=true:=by
     rw [u3,aX]
     refine ⟨i,by simpa using h3,?_⟩
     rw [aX]
     refine ⟨k,by simpa using h7,?_⟩
     rw [hCI];simp at h10 ⊢;exact ⟨h10.1.1,h10.1.2,λe=>h10.2 e.symm⟩
    have hE:sJ t x0.graph c vs l=11:=by unfold sJ;rw [if_pos hB]
    refine wv (h:=?_)
    rw [hE] at hQe;refine (hQ' _ _).2 ?_;simp only [iR,jT,o9,fH,Ah,Gh,Ki,kV,g6,jD,wT,HV,dG,fK];exact hQe _ (by decide) (λj hj hjn=>by simp [go_sem,(aD:j≠R)];exact hG2 j hj hjn) (by first|(simp [go_sem];omega)|exact hn2)
   .have hCk:tT c vs l i k=false:=by
     rw [hCI,bH];intro hT;simp at hT
     exact hT.2.2 (h10 hT.1 hT.2.1).symm
    exact wp (h:=wx hI2 (k+1) ⟨wg,wn,wn,wn,wn,wj,(by exact hh2.same (by first|(simp [go_sem];done)|(simp [go_sem];omega)) (λ_ _=>rfl)),(by intro q hq;rcases bZ q k with hqk|hqk;exact hC2 q hqk;(obtain rfl:q=k:=aD;exact hCk)),(by exact hG2),(by first|exact hn2|(simp [go_sem];omega))⟩)
  .exact wp (h:=wx hI0 (i+1) ⟨X,R,wg,wn,wn,wn,wn,wj,(by exact hh2),(by exact hXq),(by exact hXR),(by intro p q hp hq;rcases bZ p i with hpi|hpi;exact hC p q hpi hq;(obtain rfl:p=i:=aD;exact hC2 q aD)),(by exact hG2),(by exact hn2)⟩)
 .have hB:vZ c vs l=false:=by
   rw [u3,bH];intro hT
   rw [aX] at hT
   obtain ⟨p,hp,hT⟩:=hT
   rw [aX] at hT
   obtain ⟨q,hq,hT⟩:=hT
   rw [bP] at hp hq
   rw [hC p q aD hq] at hT;cases hT
  have hE0:sJ t x0.graph c vs l=if l.any (xZ t x0.graph c vs)=true then 6 else 0:=by unfold sJ;rw [if_neg (by rw [hB];simp)]
  refine wv (h:=bF (λi e H=>∃ x:Host,(e 5=.adr t.c/\e 6=.adr r.c/\e 8=.adr c.c/\e 4=dLI vs/\e 12=.list (l.map Slot.c)/\e 7=.ptr X 1 0 0/\e 10=.ptr R 1 0 0/\e 19=dI i)/\(H.get X=some ⟨44,3,[[.own a x0.graph.nodes.length,.own b x0.graph.edges.length,.own V x0.values.length]],false⟩)/\(X<H.next)/\(H.get R=some ⟨44,3,[[.nil,.nil,.nil]],false⟩)/\(R<H.next)/\(i<=l.length)/\(x=⟨x0.graph,tJ c vs (l.take i) x0.values⟩)/\(HH H lo a b V qs x)/\((l.take i).any (xZ t x0.graph c vs)=false)/\(∀ j,j<G.next->j∉a :: b :: V :: qs->H.get j=G.get j)/\(G.next<=H.next)) (λi=>l.length - i) 0 ⟨x0,wg,wn,wn,wn,wn,wi,(by rfl),(by exact hh),(by rfl),(by exact hG),(by exact hnx)⟩ λI4 hI4 i e H hi4=>?_)
  obtain ⟨x,E4,gX_4,nX_4,gR_4,nR_4,hi4,hx,hh4,hO,hG4,hn4⟩:=hi4
  have di3:=And.intro (dH (aD:R≠X)) (And.intro (dH (aD:R≠V)) (And.intro (dH (aD:R≠b)) (And.intro (dH (aD:R≠a)) (And.intro (dH (aD:X≠V)) (And.intro (dH (aD:X≠b)) (And.intro (dH (aD:X≠a)) (And.intro (dH (aD:V≠b)) (And.intro (dH (aD:V≠a)) (dH (aD:b≠a))))))))))
  have Y:=wa Y (wa E4 (wa gX_4 (wa (cD nX_4) (wa gR_4 (wa (cD nR_4) di3)))))
  refine sG (λh13=>?_) λh13=>?_
  .have hlm:=aC h13
   have hTi:=(hsl _ hlm).2.2
   have hni:=(hsl _ hlm).1
   have hat:=(hsl _ hlm).2.1
   have hnc:l[i].node.toNat<c.nodes.length:=aD
   obtain ⟨s1,s2,s3⟩:=hspot _ hlm
   obtain ⟨a1,a2⟩:=hattr _ hlm
   have hsp:fJ c l[i]=(c.nodes[l[i].node.toNat]).toNat:=by unfold fJ;rw [aA hnc];rfl
   rw [aA hnc,Option.getD_some] at s1
   have hpl:=oN c vs (l.take i) x0.values
   have hxg:x.graph=x0.graph:=by rw [hx]
   have hxv:x.values=tJ c vs (l.take i) x0.values:=by rw [hx]
   have hxl:x.values.length=x0.values.length:=by rw [hxv];exact hpl.1
   have hnV:fJ c l[i]<x.values.length:=aD
   have hnN:fJ c l[i]<x.graph.nodes.length:=by rw [hxg];exact s3
   have hnQ:fJ c l[i]<qs.length:=by rw [hh4.len];exact hnV
   obtain ⟨q,hq⟩:=cF (qs[fJ c l[i]])
   obtain ⟨v,hv⟩:=cF (x.values[fJ c l[i]])
   have e1:qs[fJ c l[i]]?=some q:=by rw [aA hnQ,hq]
   have e2:x.values[fJ c l[i]]?=some v:=by rw [aA hnV,hv]
   have hrow:=rE e1 e2
   have hgq:=hh4.gq _ _ _ e1 e2
   have hvl2:v.length=(x0.values[fJ c l[i]]?.getD []).length:=by rw [<- hpl.2,<- hxv,e2];rfl
   have hav:l[i].attr.toNat<v.length:=aD
   obtain ⟨nd,hnd⟩:∃ y,y=x.graph.nodes[fJ c l[i]]:=⟨_,rfl⟩
   have hnd0:x0.graph.nodes[fJ c l[i]]?.getD 0=nd:=by rw [hnd,<- hxg,aA hnN];rfl
   rw [hnd0] at a2
   have haA:l[i].attr.toNat<(bL t nd).length:=aD
   have hqin:q∈qs:=aK e1
   have hqr:=hh4.rng q (hh4.q_in hqin)
   have hqX:=hXq q (hh4.q_in hqin)
   have hqn:=hh4.qn hqin
   have hOB:xZ t x0.graph c vs l[i]=(decide (c8 l[i].term vs<(bL t nd)[l[i].attr.toNat].low)||decide ((bL t nd)[l[i].attr.toNat].high<c8 l[i].term vs)):=by unfold xZ;rw [hnd0,aA haA];rfl
   have gga:=hh4.ga
   have ggb:=hh4.gb
   have ggV:=hh4.gV
   have hgl:x0.graph.nodes.length=x.graph.nodes.length:=by rw [hxg]
   have hrl:=jF hh4.len
   have di4:=And.intro (dH (aD:R≠X)) (And.intro (dH (aD:R≠V)) (And.intro (dH (aD:R≠b)) (And.intro (dH (aD:R≠a)) (And.intro (dH (aD:R≠q)) (And.intro (dH (aD:X≠V)) (And.intro (dH (aD:X≠b)) (And.intro (dH (aD:X≠a)) (And.intro (dH (aD:X≠q)) (And.intro (dH (aD:V≠b)) (And.intro (dH (aD:V≠a)) (And.intro (dH (aD:V≠q)) (And.intro (dH (aD:b≠a)) (And.intro (dH (aD:b≠q)) (dH (aD:a≠q)))))))))))))))
   have Y:=wa Y (wa h13 (wa (aA h13) (wa @Slot.c.eq_1 (wa (aA hnc) (wa (Eq.symm hsp) (wa gga (wa ggb (wa ggV (wa hrow (wa hgq (wa hrl (wa (aA hnN) (wa (Eq.symm hnd) (wa (aA haA) (wa (aA hav) (wa @Attr.c.eq_1 (wa hxl.symm (wa hgl di4))))))))))))))))))
   refine wp (h:=aB (jM l[i].term vs (by rw [hvl];exact hTi) hvs) wl ?_)
   refine wp (h:=aJ (nW t ht nd) wl ?_)
   refine sG (λh18=>?_) λh18=>?_
   .have hT:l.any (xZ t x0.graph c vs)=true:=aX.2 ⟨_,hlm,by rw [hOB];simpa using h18⟩
    rw [if_pos hT] at hE0
    refine wv (h:=?_)
    rw [hE0] at hQe;refine (hQ' _ _).2 ?_;simp only [iR,jT,o9,fH,Ah,Gh,Ki,kV,g6,jD,wT,HV,dG,fK];exact hQe _ (by decide) (λj hj hjn=>by simp [go_sem,(aD:j≠R)];exact hG4 j hj hjn) (by first|(simp [go_sem];omega)|exact hn4)
   .have hOi:xZ t x0.graph c vs l[i]=false:=by rw [hOB];simpa using h18
    obtain ⟨x2,hx2⟩:∃ y:Host,y=⟨x.graph,x.values.set (fJ c l[i]) (v.set l[i].attr.toNat (c8 l[i].term vs))⟩:=⟨_,rfl⟩
    have hx3:x2=⟨x0.graph,tJ c vs (l.take (i+1)) x0.values⟩:=by
     rw [hx2,aE h13,In,<- hxv,e2,hxg];rfl
    exact wp (h:=wx hI4 (i+1) ⟨x2,wg,wn,wn,wn,wn,wj,(by exact hx3),(by rw [hx2];exact hh4.rowSet (by first|(simp [go_sem];done)|(simp [go_sem];omega)) e1 e2 bV (by simp [go_sem,Y,bX,cI]) (λj hj hjq=>by simp [go_sem,hjq])),(by rw [aE h13,AZ,hO];simp [hOi]),(by intro j hj hjn;simp [go_sem,show j≠q from λe=>hjn (e ▸ hh4.q_in hqin)];exact hG4 j hj hjn),(by simp [go_sem];omega)⟩)
  .rw [aH aD] at hO hx
   rw [if_neg (by rw [hO];simp)] at hE0
   have hxg:x.graph=x0.graph:=by rw [hx]
   have hxl:x.values.length=x0.values.length:=by rw [hx];exact (oN c vs l x0.values).1
   refine wv (h:=?_)
   refine (hQ' _ _).2 ?_
   obtain ⟨E,hEq⟩:=cF (H.put R ⟨44,3,[[.own a x0.graph.nodes.length,.own b x0.graph.edges.length,.own V x0.values.length]],false⟩)
   have hh5:HH E lo a b V qs x:=hh4.same (by rw [hEq];simp [go_sem]) (λj hj=>by rw [hEq];simp [go_sem,(hXq j hj).2])
   rw [<- hEq]
   have hd:=hh5.deep
   rw [hxg,hxl] at hd
   have hids:=hh5.ids x0.graph.nodes.length x0.graph.edges.length x0.values.length 0
   simp only [dI] at hids
   have hdi:jT E (D.int .i64 0)=.int .i64 0:=rfl
   simp only [iR,g6,jD,hd,hdi]
   rw [hx]
   refine hQ _ hE0 (λj hj hjn=>?_) ?_
   .rw [AG _ _ j (λhm=>hjn (hids _ hm)),hEq];simp [go_sem,(aD:j≠R)];exact hG4 j hj hjn
   .rw [(vX _ E).2,hEq];simp [go_sem];exact hn4
theorem Jc {l:List Int}(hn:l.Nodup){p:Nat}(hp:p<l.length):∀ n,n<=l.length->gB l n l[p]=if p<n then (p:Int) else -1
 | 0,_=>rfl
 | n+1,h=>by
  rw [pP,Jc hn hp n aD,aA aD,Option.getD_some]
  by_cases he:n=p
  .subst he;rw [if_pos rfl,if_pos aD]
  .rw [if_neg (λe=>he ((l4 hn).1 e))]
   by_cases h2:p<n
   .rw [if_pos h2,if_pos aD]
   .rw [if_neg h2,if_neg aD]
theorem oY {l:List Int}(hn:l.Nodup){p:Nat}(hp:p<l.length):gB l l.length l[p]=p:=by rw [Jc hn hp _ (bC _),if_pos hp]
theorem pQ {l:List Int}{v:Int}(h:v∉l):∀ n,n<=l.length->gB l n v = -1
 | 0,_=>rfl
 | n+1,hl=>by
  rw [pP,pQ h n aD,aA aD,Option.getD_some,if_neg]
  exact λe=>h (e ▸ aC _)
theorem Jd {l:List Int}(hn:l.Nodup)(v:Int):decide (gB l l.length v<0) = !mem l v:=by
 by_cases h:v∈l
 .obtain ⟨p,hp,rfl⟩:=aO h
  rw [oY hn hp,(mem_iff _ _).2 h];simp
 .rw [pQ h _ (bC _),bH.2 λhm=>h ((mem_iff _ _).1 hm)];rfl
theorem J5 {l:List Int}(hn:l.Nodup)(i:Nat):Ay l i=(bJ l i).length:=by
 unfold Ay bJ
 rw [aW]
 congr 1
 exact List.filter_congr λj _=>Jd hn j
theorem CK {l:List Int}:∀ (n j:Nat),j<n->mem l j=false->(bJ l n)[(bJ l j).length]?=some (j:Int)
 | n+1,j,hj,hm=>by
  rw [oP]
  by_cases h:j=n
  .subst h
   rw [if_neg (by rw [hm];simp),aZ (bC _)];simp
  .have:=CK n j aD hm
   rw [aQ (aM.1 this).1];exact this
theorem pT {l:List Int}(h:l.Pairwise (· < ·)):l.Nodup:=h.imp λh=>by omega
structure StepIn (t:Types) (r:Rule) (h:Host) (m:Mat):Prop where
 hR:RuleV t r
 ho:HostOk t h
 hm:MOk t r.left.graph h.graph m.m
 hc:qV (lQ r.left.graph h.graph m.m) h.graph r.keep m.m=0
section
variable {t:Types} {r:Rule} {h:Host} {m:Mat}
theorem Nx (hR:RuleV t r)(ho:HostOk t h)(hp:qL t r h m=0):StepIn t r h m:=by
 unfold qL at hp
 split at hp
 .cases hp
 .rename_i h1
  split at hp
  .exact absurd hp (by assumption)
  .split at hp
   .cases hp
   .exact ⟨hR,ho,rX (rJ (bW h1)).2,hp⟩
theorem StepIn.rest (S:StepIn t r h m):bU r h m=⟨bJ (jU m.m.nodes r.keep.nodes) h.graph.nodes.length,bJ (jU m.m.edges r.keep.edges) h.graph.edges.length⟩:=by unfold bU r7;rw [if_pos S.hc]
theorem StepIn.sub (S:StepIn t r h m):subF h.graph (bU r h m)=0:=Tl S.hc
theorem StepIn.nasc (S:StepIn t r h m):(bU r h m).nodes.Pairwise (· < ·):=by rw [S.rest];exact nY _ _
theorem StepIn.easc (S:StepIn t r h m):(bU r h m).edges.Pairwise (· < ·):=by rw [S.rest];exact nY _ _
theorem StepIn.nin (S:StepIn t r h m):∀ x∈(bU r h m).nodes,0<=x/\x<h.graph.nodes.length:=(yW S.sub).2.2.1
theorem StepIn.ein (S:StepIn t r h m):∀ x∈(bU r h m).edges,0<=x/\x<h.graph.edges.length:=(yW S.sub).2.2.2
theorem StepIn.len (S:StepIn t r h m):(bU r h m).nodes.length<=40/\(bU r h m).edges.length<=80:=by
 have hg:=bR S.ho.gg
 have h1:=Sj S.nasc S.nin
 have h2:=Sj S.easc S.ein
 omega
theorem StepIn.dup (S:StepIn t r h m):q9 m.m.nodes r.keep.nodes=[]/\q9 m.m.edges r.keep.edges=[]:=⟨(EK S.hc).2.2.1,(EK S.hc).2.2.2.1⟩
theorem StepIn.keptN (S:StepIn t r h m){k:Int}(hk:k∈r.keep.nodes):iA m.m.nodes k∈(bU r h m).nodes:=by
 have hK:=S.hR.keep
 have hl:=S.hm.len
 have hr:=hK.2.1 k hk
 have h1:=uP S.dup.1 hr.1 aD hk
 rw [S.rest]
 have h2:=(S.hm.img k.toNat aD aD).1
 have e:iA m.m.nodes k=m.m.nodes[k.toNat]' aD:=by unfold iA;rw [aA aD];rfl
 exact gW.2 ⟨by rw [e];exact h2,h1⟩
theorem StepIn.bareN (S:StepIn t r h m):(b7 t r h m).graph.nodes=(bU r h m).nodes.map (gN h.graph)++r.freshN.map (gN r.right.graph):=by
 unfold b7 jO cY;rw [if_pos S.sub]
theorem StepIn.bareE (S:StepIn t r h m):(b7 t r h m).graph.edges=(bU r h m).edges.map (gEd h.graph (bU r h m))++r.freshE.map (λk=>freshE (fB r h m) (r.right.graph.edges[k.toNat]?.getD cC)):=by
 unfold b7 jO cY;rw [if_pos S.sub]
theorem M7:(b7 t r h m).values=(bU r h m).nodes.map (λk=>h.values[k.toNat]?.getD [])++r.freshN.map (λk=>lV t (gN r.right.graph k)):=rfl
theorem StepIn.intoN (S:StepIn t r h m):r.into.nodes.Nodup/\r.into.edges.Nodup:=by
 have:=S.hR.inj
 unfold CQ at this
 simp only [aR,decide_eq_true_eq] at this
 exact this.2
theorem StepIn.kept_type (S:StepIn t r h m){p:Nat}(hp:p<r.into.nodes.length)(hq:p<r.keep.nodes.length):gN r.right.graph r.into.nodes[p]=gN r.left.graph r.keep.nodes[p]:=by
 have e1:(cY r.left.graph r.keep).nodes.length=r.keep.nodes.length:=by unfold cY;rw [if_pos S.hR.sub];simp
 have hmn:=(N6 S.hR.mo (i:=(p:Int)) aD aD).2
 rw [Kp S.hR.sub aD aD] at hmn
 simpa [iA,aA hp,aA hq] using hmn
theorem StepIn.com (S:StepIn t r h m){i:Nat}(hi:i<r.right.graph.nodes.length):∃ n:Nat,(fB r h m).nodes[i]?=some (n:Int)/\∃ hn:n<(b7 t r h m).graph.nodes.length,v7 t r.right.graph.nodes[i] ((b7 t r h m).graph.nodes[n])=true:=by
 obtain ⟨hK1,hK2,hK3,hK4,hK5⟩:=S.hR.keep
 have hml:=S.hm.len
 have hin:=S.intoN.1
 have hcm:(fB r h m).nodes[i]?=some (GH r.keep.nodes r.into.nodes (oE m.m.nodes (cW r h m).nodes) (bU r h m).nodes.length i):=by
  unfold fB Co;simp [hi]
 rw [hcm]
 have hb:=S.bareN
 have hvt:=nC S.hR.vf
 have hri:=(nT S.hR.gr S.hR.tr).1 _ (aC hi)
 by_cases hm:(i:Int)∈r.into.nodes
 .obtain ⟨p,hp,he⟩:=aO hm
  have hq:p<r.keep.nodes.length:=aD
  have hkr:=hK2 _ (aC hq)
  have hkm:r.keep.nodes[p].toNat<m.m.nodes.length:=aD
  have hD:=S.keptN (aC hq)
  obtain ⟨n,hn,hne⟩:=aO hD
  have hv:=S.nin _ (aC hn)
  have hiA:iA m.m.nodes r.keep.nodes[p]=m.m.nodes[r.keep.nodes[p].toNat]:=by unfold iA;rw [aA hkm];rfl
  have hco:GH r.keep.nodes r.into.nodes (oE m.m.nodes (cW r h m).nodes) (bU r h m).nodes.length i=n:=by
   unfold GH
   rw [<- he,oY hin hp,if_pos aD]
   rw [(aD:(p:Int).toNat=p),aA hq,Option.getD_some]
   unfold oE cW mV
   rw [aN,aA hkm,dQ,Option.getD_some]
   rw [<- hiA,<- hne]
   simp only
   rw [n5 _ aD,Option.getD_some,show (((bU r h m).nodes[n].toNat:Nat):Int)=(bU r h m).nodes[n] by omega,oY (pT S.nasc) hn]
  refine ⟨n,by rw [hco],by rw [hb];simp;omega,?_⟩
  have hty:=S.kept_type hp hq
  rw [he] at hty
  have hgr:gN r.right.graph (i:Int)=r.right.graph.nodes[i]:=by simp [gN,aA hi]
  have hkl:r.keep.nodes[p].toNat<r.left.graph.nodes.length:=aD
  have hgl:gN r.left.graph r.keep.nodes[p]=r.left.graph.nodes[r.keep.nodes[p].toNat]:=by simp [gN,aA hkl]
  rw [hgr,hgl] at hty
  rw [hty]
  have hbel:=(S.hm.img _ hkm hkl).2
  have hx:(b7 t r h m).graph.nodes[n]?=some (h.graph.nodes[(m.m.nodes[r.keep.nodes[p].toNat]).toNat]?.getD 0):=by
   rw [hb,aQ (bW hn),aN,aA hn,dQ,hne,hiA];rfl
  obtain ⟨_,hx2⟩:=aM.1 hx
  rw [hx2];exact hbel
 .have hmf:mem r.into.nodes i=false:=bH.2 λh=>hm ((mem_iff _ _).1 h)
  have hco:GH r.keep.nodes r.into.nodes (oE m.m.nodes (cW r h m).nodes) (bU r h m).nodes.length i=(((bU r h m).nodes.length+(bJ r.into.nodes i).length:Nat):Int):=by
   unfold GH
   rw [if_neg (by rw [pQ hm _ (bC _)];omega),J5 hin]
  have hoa:=CK r.right.graph.nodes.length i hi hmf
  have hlt:(bJ r.into.nodes i).length<r.freshN.length:=(aM.1 hoa).1
  refine ⟨(bU r h m).nodes.length+(bJ r.into.nodes i).length,by rw [hco],by rw [hb];simp;omega,?_⟩
  have hx:(b7 t r h m).graph.nodes[(bU r h m).nodes.length+(bJ r.into.nodes i).length]?=some r.right.graph.nodes[i]:=by
   rw [hb,aZ bV,aW,tX,aN]
   have:r.freshN[(bJ r.into.nodes i).length]?=some (i:Int):=hoa
   rw [this];simp [gN,aA hi]
  obtain ⟨_,hx2⟩:=aM.1 hx
  rw [hx2]
  unfold v7
  have:=QB hvt (a:=(r.right.graph.nodes[i]).toNat) aD
  rw [show (((r.right.graph.nodes[i]).toNat:Nat):Int)=r.right.graph.nodes[i] by omega] at this
  exact this
theorem StepIn.vlen (S:StepIn t r h m):(b7 t r h m).values.length=(b7 t r h m).graph.nodes.length:=by rw [S.bareN,M7];simp
theorem RI {k:Int}(hv:(cZ t).2=0)(h0:0<=k)(h1:k<t.nodes.length)(ha:wP t k.toNat=false):g9 t k (lV t k)=0:=by
 unfold g9
 rw [if_neg aD,if_neg (by rw [ha];simp),if_neg (by simp [lV])]
 refine mQ _ _ λj _ hj=>?_
 have hj':j<(bL t k).length:=aD
 unfold BF lV
 rw [aN,aA hj',dQ,Option.getD_some,Option.getD_some,if_neg]
 have:=(Cc hv k _ (aC hj')).le
 omega
theorem StepIn.fresh_node (S:StepIn t r h m):∀ k∈r.freshN,(0<=gN r.right.graph k/\gN r.right.graph k<t.nodes.length)/\wP t (gN r.right.graph k).toNat=false:=λk hk=>by
 have hr:=lF hk
 have hin:=(nT S.hR.gr S.hR.tr).1 _ (RU hr.1 hr.2)
 refine ⟨hin,?_⟩
 have:=S.hR.mkb
 unfold x9 at this
 rw [aR,c9,wU] at this
 have h1:=this.1 k hk
 unfold absB at h1
 unfold wP
 rw [aA (aD:(gN r.right.graph k).toNat<t.nodes.length)] at h1 ⊢
 simpa using h1
theorem StepIn.node (S:StepIn t r h m):∀ (n:Nat) (h1:n<(b7 t r h m).graph.nodes.length) (h2:n<(b7 t r h m).values.length),g9 t (b7 t r h m).graph.nodes[n] (b7 t r h m).values[n]=0:=λn h1 h2=>by
 have e1:=S.bareN
 have e2:(b7 t r h m).values=_:=M7
 have g1:(b7 t r h m).graph.nodes[n]?=some (b7 t r h m).graph.nodes[n]:=aA h1
 have g2:(b7 t r h m).values[n]?=some (b7 t r h m).values[n]:=aA h2
 generalize (b7 t r h m).graph.nodes[n]=x at *
 generalize (b7 t r h m).values[n]=y at *
 rw [e1] at g1;rw [e2] at g2
 by_cases hn:n<(bU r h m).nodes.length
 .rw [aQ (bW hn),aN,aA hn] at g1 g2
  simp only [dQ,bD] at g1 g2
  have hv:=S.nin _ (aC hn)
  have hl:=S.ho.vl
  have a1:(bU r h m).nodes[n].toNat<h.graph.nodes.length:=aD
  have a2:(bU r h m).nodes[n].toNat<h.values.length:=aD
  rw [aA a2] at g2
  unfold gN at g1
  rw [aA a1] at g1
  have:=S.ho.nd _ a1 a2
  rw [<- g1,<- g2];exact this
 .have l1:((bU r h m).nodes.map (gN h.graph)).length=(bU r h m).nodes.length:=bV
  have l2:((bU r h m).nodes.map λk=>h.values[k.toNat]?.getD []).length=(bU r h m).nodes.length:=bV
  rw [aZ aD,l1,aN,bQ] at g1
  rw [aZ aD,l2,aN,bQ] at g2
  obtain ⟨k,hk,rfl⟩:=g1
  obtain ⟨k',hk',rfl⟩:=g2
  rw [hk] at hk';cases hk'
  obtain ⟨⟨b1,b2⟩,b3⟩:=S.fresh_node k (aK hk)
  exact RI S.hR.vf b1 b2 b3
theorem StepIn.bin (S:StepIn t r h m):∀ a∈(b7 t r h m).graph.nodes,0<=a/\a<t.nodes.length:=λa ha=>by
 rw [S.bareN,aV,bA,bA] at ha
 rcases ha with ⟨k,hk,rfl⟩|⟨k,hk,rfl⟩
 .exact DL S.ho _ (RU (S.nin k hk).1 (S.nin k hk).2)
 .exact (S.fresh_node k hk).1
theorem StepIn.put (S:StepIn t r h m):PutOk t r (b7 t r h m) (fB r h m):=by
 have hl:=S.len
 have hg:=bR S.hR.gr
 have hf1:r.freshN.length<=r.right.graph.nodes.length:=lG _ _
 have hf2:r.freshE.length<=r.right.graph.edges.length:=lG _ _
 have hN:(b7 t r h m).graph.nodes.length<=80:=by rw [S.bareN];simp;omega
 have hE:(b7 t r h m).graph.edges.length<=160:=by rw [S.bareE];simp;omega
 have hV:=S.vlen
 have key:∀ s∈r.right.slots,∃ n:Nat,(fB r h m).nodes[s.node.toNat]?=some (n:Int)/\∃ hn:n<(b7 t r h m).graph.nodes.length,s.attr<(bL t (b7 t r h m).graph.nodes[n]).length:=λs hs=>by
  obtain ⟨⟨a1,a2⟩,a3,a4⟩:=S.hR.slots s hs
  have hi:s.node.toNat<r.right.graph.nodes.length:=aD
  obtain ⟨n,e1,hn,e2⟩:=S.com hi
  refine ⟨n,e1,hn,?_⟩
  rw [aA hi,Option.getD_some] at a3
  have hri:=(nT S.hR.gr S.hR.tr).1 _ (aC hi)
  have hno:=(r5 (S.node n hn aD)).1
  have hn0:=(S.bin _ (aC hn)).1
  rw [rK S.hR.vf hri.1 hri.2] at a3
  rw [rK S.hR.vf hn0 hno]
  unfold v7 at e2
  obtain ⟨u,hu⟩:=Je (nC S.hR.vf) ((b7 t r h m).graph.nodes[n]).toNat aD (r.right.graph.nodes[s.node.toNat]).toNat (by rw [Int.toNat_of_nonneg hri.1];exact e2)
  rw [hu,aL];omega
 refine ⟨by simp [fB,Co],⟨aD,aD,aD⟩,λs hs=>?_,λs hs=>?_⟩
 .obtain ⟨n,e1,hn,e2⟩:=key s hs
  have:fJ (fB r h m) s=n:=by unfold fJ;rw [e1];simp
  rw [this,e1]
  exact ⟨by simp,aD,hn⟩
 .obtain ⟨n,e1,hn,e2⟩:=key s hs
  have:fJ (fB r h m) s=n:=by unfold fJ;rw [e1];simp
  have hnv:n<(b7 t r h m).values.length:=aD
  rw [this,aA hnv,aA hn,Option.getD_some,Option.getD_some]
  have:=(r5 (S.node n hn hnv)).2.2.1
  exact ⟨aD,e2⟩
end
def mN:Pattern:=⟨⟨[],[]⟩,[],0,[]⟩
def iM:Rule:=⟨⟨#[]⟩,mN,mN,⟨[],[]⟩,⟨[],[]⟩,false,.mk 0 [] ⟨[],[]⟩ mN⟩
def j7:Stp26:=⟨iM,g8,⟨⟨[],[]⟩,[]⟩,⟨⟨[],[]⟩,[]⟩,⟨[],[]⟩,⟨[],[]⟩⟩
def fP (t:Types)(r:Rule)(h:Host)(m:Mat):Stp26:=if nF t r h m=0 then bG t r h m else j7
@[go_sem] theorem Stp26.cl (s:Stp26):D.clL s.c=true:=by
 simp [Stp26.c,AR,Rule.cl,Mat.cl,Nf,D.clL,oV]
def sK (a k:Nat):List Nat:=(List.range k).map (· + a)
theorem uO {a k j:Nat}:j∈sK a k↔a<=j/\j<a+k:=by
 simp only [sK,bA,bP]
 constructor
 .rintro ⟨i,h1,rfl⟩;omega
 .rintro ⟨h1,h2⟩;exact ⟨j - a,aD,aD⟩
theorem Mu (a k:Nat):(sK a k).length=k:=by simp [sK]
theorem AD (a k:Nat):(sK a k).Nodup:=by
 unfold sK
 exact List.Pairwise.map (· + a) (λx y h=>by simp only [ne_eq] at h ⊢;omega) List.nodup_range
theorem RP (k f:Nat):(0 :: 1 :: 2 :: (sK 3 k++sK (3+k) f)).Nodup:=by
 simp only [gY,aU,aV,uO,nA]
 exact ⟨aD,aD,aD,AD _ _,AD _ _,λx hx y hy=>by omega⟩
theorem Pn {k f j:Nat}(h:j∈0 :: 1 :: 2 :: (sK 3 k++sK (3+k) f)):j<3+k+f:=by
 simp only [aU,aV,uO] at h;omega
theorem RO (k:Nat):(0 :: 1 :: 2 :: sK 3 k).Nodup:=by
 simp only [gY,aU,uO]
 exact ⟨aD,aD,aD,AD _ _⟩
theorem Gi {k j:Nat}(h:j∈0 :: 1 :: 2 :: sK 3 k):j<3+k:=by
 simp only [aU,uO] at h;omega
theorem Ol {t:Types}{r:Rule}{h:Host}(hr:r.ok)(h0:iI t r h=0):RuleV t r/\HostOk t h:=by
 unfold iI at h0
 split at h0
 .exact absurd h0 (by assumption)
 .rename_i h1;exact ⟨O2 hr (bW h1),r4 h0⟩
theorem Qn {t:Types}{r:Rule}{h:Host}{m:Mat}(h0:lE t r h m=0):qL t r h m=0:=by
 unfold lE at h0
 split at h0
 .exact absurd h0 (by assumption)
 .rename_i h1;simpa using h1
section
variable {t:Types} {r:Rule} {h:Host} {m:Mat}
theorem StepIn.ex (S:StepIn t r h m)(hh:iF t h=0):Sz t h (bU r h m)=⟨cY h.graph (bU r h m),(bU r h m).nodes.map λk=>h.values[k.toNat]?.getD []⟩:=by
 unfold Sz;rw [if_pos]
 unfold UW;rw [if_neg aD];exact S.sub
theorem StepIn.eimg (S:StepIn t r h m):(∀ x∈m.m.nodes,0<=x/\x<h.graph.nodes.length)/\∀ x∈m.m.edges,0<=x/\x<h.graph.edges.length:=by
 refine ⟨λx hx=>?_,λx hx=>?_⟩
 .obtain ⟨i,hi,rfl⟩:=aO hx
  exact (S.hm.img i hi (by have:=S.hm.len;omega)).1
 .obtain ⟨i,hi,rfl⟩:=aO hx
  exact S.hm.eimg i hi
end
theorem IF {t:Types}{r:Rule}{h:Host}{m:Mat}(S:StepIn t r h m)(hp:qL t r h m=0):MatOk t r.left h m:=by
 unfold qL at hp
 split at hp
 .cases hp
 .split at hp
  .exact absurd hp (by assumption)
  .rename_i h2
   split at hp
   .cases hp
   .rename_i h3
    rw [jS] at h2 h3
    obtain ⟨_,_,_,h4⟩:=Ib h2
    rw [h4] at h2 h3
    obtain ⟨a1,a2⟩:=Aq (Ue S.hR.pl S.ho S.hm) (vs:=[]) bV bV h2
    rw [h3] at a1 a2
    exact ⟨S.hm,a1,a2⟩
theorem Lw (t:Types)(ht:t.ok)(r:Rule)(hr:r.ok)(h:Host)(m:Mat):Pure Tryz.prog 16 [t.d,r.d,h.d,m.d] (.tup [.agg (fP t r h m).c,dI (nF t r h m)]):=by
 refine O9 (by first|rfl|(simp [go_sem];done)) (fun Q hQ=>ACalls.bump 100 (aI (cfg:=⟨fun t=>t==8||t==11||t==13||t==14||t==15||t==16||t==95||t==97,fun r=>match r with|8=>[(5,6),(5,7),(5,8),(5,9),(5,10),(0,13),(1,13),(2,13),(3,13),(4,13),(5,13),(6,13),(7,13),(8,13),(9,13),(10,13),(11,13)]|9=>[(16,17),(16,18),(16,19),(16,20),(16,21),(16,22),(16,23),(16,24),(16,25),(16,26),(16,27),(16,28),(16,29),(16,30),(16,31),(16,32),(0,35),(1,35),(2,35),(3,35),(4,35),(5,35),(6,35),(7,35),(8,35),(9,35),(10,35),(11,35),(12,35),(13,35),(14,35),(15,35),(16,35),(17,35),(18,35),(19,35),(20,35),(21,35),(22,35),(23,35),(24,35),(25,35),(26,35),(27,35),(28,35),(29,35),(30,35),(31,35),(32,35),(33,35)]|10=>[(0,3),(1,3),(3,4)]|_=>[]⟩) Tz.mixed Tryz.func16 rfl rfl (aF rfl) (by kernel_rfl) ?_))
 have Y:=wa @Host.d.eq_1 (wa @Host.c.eq_1 (wa @Mat.d.eq_1 (wa @Mat.c.eq_1 (wa @oZ (wa @sD (wa @Jg @GX))))))
 refine wv (h:=aB (Lv t ht r hr h) wl ?_)
 refine dP (fun h2=>?_) fun h2=>?_
 ·have hA:nF t r h m=iI t r h:=by unfold nF;rw [if_pos h2]
  have hV:fP t r h m=j7:=by unfold fP;rw [if_neg (by omega)]
  exact wv (h:=hQ _ _ (by simp [go_sem,hA,hV,j7,iM,mN,g8,Stp26.c,Rule.c,Mat.c,Host.c,Cond.kind,Cond.kids,Cond.map,Cond.pattern,dLI,dI]))
 ·obtain ⟨hR,ho⟩:=Ol hr h2
  have hh0:iF t h=0:=by unfold iI at h2;split at h2;exact absurd h2 (by assumption);exact h2
  have hA0:nF t r h m=kP t r h m:=by unfold nF;rw [if_neg (by omega)]
  refine wv (h:=aB (Fv t ht r hR h ho m) wl ?_)
  refine dP (fun h5=>?_) fun h5=>?_
  ·have hA:nF t r h m=lE t r h m:=by rw [hA0];unfold kP;rw [if_pos h5]
   have hV:fP t r h m=j7:=by unfold fP;rw [if_neg (by omega)]
   exact wv (h:=hQ _ _ (by simp [go_sem,hA,hV,j7,iM,mN,g8,Stp26.c,Rule.c,Mat.c,Host.c,Cond.kind,Cond.kids,Cond.map,Cond.pattern,dLI,dI]))
  ·have hpre:=Qn (show lE t r h m=0 by omega)
   have S:=Nx hR ho hpre
   have hP:uH t r h m=bU r h m:=by unfold uH;rw [if_pos hpre]
   have hX:=S.ex hh0
   obtain ⟨x0,hx0⟩:∃ x0:Host,x0=⟨cY h.graph (bU r h m),(bU r h m).nodes.map fun k=>h.values[k.toNat]?.getD []⟩:=⟨_,rfl⟩
   rw [← hx0] at hX
   obtain ⟨tr,htr⟩:∃ tr,tr=cW r h m:=⟨_,rfl⟩
   have hT1:k9 (bU r h m).nodes h.graph.nodes.length=tr.nodes:=by rw [htr];rfl
   have hT2:k9 (bU r h m).edges h.graph.edges.length=tr.edges:=by rw [htr];rfl
   have htl1:tr.nodes.length=h.graph.nodes.length:=by rw [← hT1,k8]
   have htl2:tr.edges.length=h.graph.edges.length:=by rw [← hT2,k8]
   obtain ⟨hin1,hin2⟩:=S.eimg
   have hK:=hR.keep
   have hml:=S.hm.len
   have hmel:=S.hm.elen
   have hal1:(oE m.m.nodes tr.nodes).length=m.m.nodes.length:=by simp [oE]
   have hal2:(oE m.m.edges tr.edges).length=m.m.edges.length:=by simp [oE]
   obtain ⟨cm,hcm⟩:∃ cm,cm=fB r h m:=⟨_,rfl⟩
   have hC1:Co r.keep.nodes r.into.nodes (oE m.m.nodes tr.nodes) r.right.graph.nodes.length (bU r h m).nodes.length=cm.nodes:=by rw [hcm,htr];rfl
   have hC2:Co r.keep.edges r.into.edges (oE m.m.edges tr.edges) r.right.graph.edges.length (bU r h m).edges.length=cm.edges:=by rw [hcm,htr];rfl
   have hgl:=bR hR.pl.gg
   have hgr:=bR hR.gr
   have hgh:=bR ho.gg
   have hdl:=S.len
   have hxv:x0.values.length=(bU r h m).nodes.length:=by rw [hx0];simp
   have hxn:x0.graph.nodes.length=(bU r h m).nodes.length:=by rw [hx0];unfold cY;rw [if_pos S.sub];simp
   have hxe:x0.graph.edges.length=(bU r h m).edges.length:=by rw [hx0];unfold cY;rw [if_pos S.sub];simp
   have hxr:∀ v∈x0.values,v.length≤8:=fun v hv=>by
    rw [hx0,bA] at hv
    obtain ⟨k,hk,rfl⟩:=hv
    have hkr:=S.nin k hk
    have hvl:=ho.vl
    rw [aA (show k.toNat<h.values.length by omega),Option.getD_some]
    exact (ho.row _ (aC _)).1
   have hcl:cm.nodes.length=r.right.graph.nodes.length:=by rw [hcm];simp [fB,Co]
   have hB:jO t r cm x0=b7 t r h m:=by rw [hcm,hx0];rfl
   have hfl:r.freshN.length≤40:=fD (lG _ _) hgr.1
   have hMat:=IF S hpre
   have hvl:=hMat.vl
   have hvs:Sm m.vars:=fun v hv=>by have:=hMat.vs v hv;omega
   have Y:=wa Y (wa hP (wa @Part.d.eq_1 (wa @Part.c.eq_1 (wa hX (wa hT1 (wa hT2 (wa hC1 hC2)))))))
   refine wv (h:=aB (Hq t ht h (bU r h m) (by omega) (by omega) (by omega) (by omega)) wl ?_)
   refine wv (h:=aJ (xJ m.m.nodes tr.nodes (by omega) (fun x hx=>by have:=hin1 x hx;omega)) wl ?_)
   refine wv (h:=aJ (xJ m.m.edges tr.edges (by omega) (fun x hx=>by have:=hin2 x hx;omega)) wl ?_)
   refine wp (h:=aJ (z8 r.keep.nodes r.into.nodes (oE m.m.nodes tr.nodes) r.right.graph.nodes.length (bU r h m).nodes.length (by omega) (fun x hx=>by have:=hK.2.1 x hx;rw [hal1];omega) (by omega) (by omega)) wl ?_)
   refine wp (h:=aJ (z8 r.keep.edges r.into.edges (oE m.m.edges tr.edges) r.right.graph.edges.length (bU r h m).edges.length (by omega) (fun x hx=>by have:=hK.2.2.1 x hx;rw [hal2];omega) (by omega) (by omega)) wl ?_)
   refine wp (h:=?_)
   refine HI x0 (by omega) (by omega) (by omega) (fun v hv=>by have:=hxr v hv;omega) 0 1 2 (sK 3 x0.values.length) (Mu _ _) (RO _) (by simp [go_sem]) (fun j hj=>?_) rfl ?_ (fun E hE1 hE2 hE3 hE4=>?_)
   ·have hj2:=Gi hj
    refine ⟨by omega,?_⟩
    simp [go_sem,oZ,sD,Jg,GX];omega
   ·intro q hq hs x hx
    simp at hq
    rcases hq with rfl|rfl|rfl<;>simp at hs hx
   have hno:∀ j,100≤j→j∉0 :: 1 :: 2 :: sK 3 x0.values.length:=fun j hj hm=>by have:=Gi hm;omega
   have hno2:∀ j,100≤j→j∉0 :: 1 :: 2 :: (sK 3 x0.values.length++sK (3+x0.values.length) r.freshN.length):=fun j hj hm=>by have:=Pn hm;omega
   have g100:=hE2 100 (hno _ (by omega))
   have g102:=hE2 102 (hno _ (by omega))
   have g103:=hE2 103 (hno _ (by omega))
   have g154:=hE2 154 (hno _ (by omega))
   simp [go_sem] at g100 g102 g103 g154 hE4
   have hal:∀ j,j<100→E.al j→j∈0 :: 1 :: 2 :: sK 3 x0.values.length:=fun j hj hA=>by
    rcases (hE3 j).1 hA with h|h
    ·simp [go_sem,oZ,sD,Jg,GX] at h;omega
    ·exact h
   have n154:∀ (a:Nat),a∈sK 3 x0.values.length→¬ a=154:=fun a hm=>by rw [uO] at hm;omega
   have Y:=wa Y (wa g100 (wa g102 (wa g103 g154)))
   refine wp (h:=?_)
   refine MI t ht r hR x0 cm hcl (by omega) 0 0 1 2 (sK 3 x0.values.length) (sK (3+x0.values.length) r.freshN.length) hE1 (by rw [Mu]) (RP _ _) (by rw [hE4];omega) (fun j hj=>?_) rfl ?_ (fun F hF1 hF2 hF3 hF4=>?_)
   ·rw [uO] at hj
    refine ⟨by omega,fun hA=>?_⟩
    have:=Gi (hal j (by omega) hA)
    omega
   ·intro q hq hs x hx
    simp at hs
   rw [hB] at hF1 ⊢
   rw [hE4] at hF4
   have f100:=hF2 100 (hno2 _ (by omega))
   have f102:=hF2 102 (hno2 _ (by omega))
   have f103:=hF2 103 (hno2 _ (by omega))
   have f154:=hF2 154 (hno2 _ (by omega))
   rw [g100] at f100
   rw [g102] at f102
   rw [g103] at f103
   rw [g154] at f154
   have Y:=wa Y (wa f100 (wa f102 (wa f103 f154)))
   refine wp (h:=?_)
   unfold fM
   refine NP t ht r hR (b7 t r h m) cm (hcm ▸ S.put) m.vars hvl hvs _ 0 0 1 2 (sK 3 x0.values.length++sK (3+x0.values.length) r.freshN.length) (hF1.same (by simp [go_sem]) (fun j hj=>by have:=Pn hj;simp [go_sem,show j≠102 by omega])) _ (fun H4 e1 e2 e3=>?_) (fun H4 e1 e2 e3=>?_)
   ·have k100:=e2 100 (by simp [go_sem];omega) (hno2 _ (by omega))
    have k102:=e2 102 (by simp [go_sem];omega) (hno2 _ (by omega))
    simp [go_sem,f100] at k100 k102
    have hA:nF t r h m=sJ t (b7 t r h m).graph cm m.vars r.right.slots:=by rw [hA0];unfold kP;rw [if_neg (by omega),← hcm,if_pos e1]
    have hV:fP t r h m=j7:=by unfold fP;rw [if_neg (by omega)]
    simp [go_sem,seval,k100,k102]
    refine aP (fun hc=>?_) (fun hc=>absurd (by simpa using hc) e1)
    simp [go_sem,seval,k100,k102]
    exact hQ _ _ (by first|(left;(simp [go_sem,hA,hV,j7,iM,mN,g8,Stp26.c,Rule.c,Mat.c,Host.c,Cond.kind,Cond.kids,Cond.map,Cond.pattern,dLI,dI]);done)|(right;(simp [go_sem,hA,hV,j7,iM,mN,g8,Stp26.c,Rule.c,Mat.c,Host.c,Cond.kind,Cond.kids,Cond.map,Cond.pattern,dLI,dI]);done))
   have k100:=e2 100 (by simp [go_sem];omega) (hno2 _ (by omega))
   have k102:=e2 102 (by simp [go_sem];omega) (hno2 _ (by omega))
   have k103:=e2 103 (by simp [go_sem];omega) (hno2 _ (by omega))
   have k154:=e2 154 (by simp [go_sem];omega) (hno2 _ (by omega))
   simp [go_sem,f100,f102,f103,f154] at k100 k102 k103 k154
   have Y:=wa Y (wa k100 (wa k102 (wa k103 k154)))
   refine sG (fun h14=>?_) fun h14=>?_
   ·have hA:nF t r h m=3:=by
     rw [hA0];unfold kP;rw [if_neg (by omega),← hcm,if_neg (by omega),if_pos (by omega)]
    have hV:fP t r h m=j7:=by unfold fP;rw [if_neg (by omega)]
    exact wv (h:=hQ _ _ (by simp [go_sem,hA,hV,j7,iM,mN,g8,Stp26.c,Rule.c,Mat.c,Host.c,Cond.kind,Cond.kids,Cond.map,Cond.pattern,dLI,dI]))
   ·have hA:nF t r h m=0:=by
     rw [hA0];unfold kP;rw [if_neg (by omega),← hcm,if_neg (by omega),if_neg (by omega)]
    have hV:fP t r h m=bG t r h m:=by unfold fP;rw [if_pos hA]
    have hW:cX t r h m=⟨(b7 t r h m).graph,tJ cm m.vars r.right.slots (b7 t r h m).values⟩:=by rw [hcm];rfl
    exact wv (h:=hQ _ _ (by simp [go_sem,hA,hV,bG,Stp26.c,Mat.c,Host.c,hW,← htr,← hcm]))
end Go.Abs
end
section
namespace Go.Abs
open Go.ChangeShapes Go.WideShapes Go.RowKit
structure Bulk {H:Type} (bulk:DataW H->Nat):Prop where
 len:∀ e s,e.length<=bulk (.slice e s)
 el:∀ e s,∀ d∈e,bulk d<=bulk (.slice e s)
 part:∀ l,∀ d∈l,bulk d<=bulk (.agg l)
 str:∀ s:List UInt8,s.length<=bulk (.lit (.string s))
abbrev Qu:Nat->Prop:=λ_=>False
section
variable {H:Type} {enc:TypeId × Value→H} {P:Program} {w:World} {base:Nat} {spare:Nat→Bool} {held:Bool} {bulk:DataW H→Nat} {B:Nat}
def Opens (enc:TypeId × Value->H)(P:Program)(w:World)(base:Nat)(spare:Nat->Bool)(held:Bool)(bulk:DataW H->Nat)(B:Nat)(n:Nat)(t:TypeId){α:Type}(C:α->List D)(G:α->Prop):Prop :=
 ∀ (fuel:Nat) (cs:List Value) (x:DataW H × List MemPlace),fuel<=n->DataW.trod enc P w base spare held fuel t cs=some x->bulk x.1<=B ->
  ∃ a,G a/\RepL Qu iS rU w cs (C a)/\∀ u∈cs,u.oneCell'=true
variable {n:Nat} {t:TypeId}
theorem Opens.mono {α:Type}{C:α->List D}{G:α->Prop}{m:Nat}(h:Opens enc P w base spare held bulk B n t C G)(hm:m<=n):Opens enc P w base spare held bulk B m t C G :=
 λfuel cs x hf hx hb=>h fuel cs x (fD hf hm) hx hb
theorem Opens.zero {α:Type}{C:α->List D}{G:α->Prop}:Opens enc P w base spare held bulk B 0 t C G:=λfuel cs x hf hx _=>by
 have:fuel=0:=aD
 subst this
 simp [DataW.trod] at hx
theorem Opens.map {α β:Type}{C:α->List D}{G:α->Prop}{C':β->List D}{G':β->Prop}(h:Opens enc P w base spare held bulk B n t C G)(f:α->β)(hC:∀ a,C a=C' (f a))(hG:∀ a,G a->G' (f a)):Opens enc P w base spare held bulk B n t C' G' :=
 λfuel cs x hf hx hb=>by
  obtain ⟨a,h1,h2,h3⟩:=h fuel cs x hf hx hb
  exact ⟨f a,hG a h1,by rw [<- hC];exact h2,h3⟩
theorem rP {v:Value}{d:D}(h:RepV Qu iS rU w v d):RepL Qu iS rU w [v] [d] :=
 ⟨rfl,λj u x hu hx=>by
  cases j with
  | zero=>simp at hu hx;subst hu;subst hx;exact h
  | succ j=>simp at hu⟩
theorem Fr {a b:List Value}{c d:List D}(h:RepL Qu iS rU w a c)(k:RepL Qu iS rU w b d):RepL Qu iS rU w (a++b) (c++d):=by
 refine ⟨by simp [h.len,k.len],λj u x hu hx=>?_⟩
 by_cases hj:j<a.length
 .rw [aQ hj] at hu
  rw [aQ (by rw [<- h.len];exact hj)] at hx
  exact h.rep j u x hu hx
 .rw [aZ aD] at hu
  rw [aZ (by rw [<- h.len];omega),<- h.len] at hx
  exact k.rep _ u x hu hx
theorem N5 (ht:P.underlying t=some .bool):Opens enc P w base spare held bulk B n t (λb:Bool=>[D.bool b]) (λ_=>True):=λfuel cs x _ hx _=>by
 obtain ⟨b,rfl,_⟩:=DataW.trod_bool ht hx
 exact ⟨b,trivial,rP (.bool b),by simp [Value.oneCell']⟩
theorem Ir {k:IntKind}(ht:P.underlying t=some (.int k)):Opens enc P w base spare held bulk B n t (λz:Int=>[D.int k z]) (λz=>(Lit.int k z).wf=true):=λfuel cs x _ hx _=>by
 obtain ⟨z,rfl,_,hw⟩:=DataW.trod_int ht hx
 exact ⟨z,hw,rP (.int k z),by simp [Value.oneCell']⟩
theorem J2 (hB:Bulk bulk)(ht:P.underlying t=some .string):Opens enc P w base spare held bulk B n t (λs:ByteArray=>[D.str s]) (λs=>s.size<=B):=λfuel cs x _ hx hb=>by
 obtain ⟨s,rfl,rfl,hs⟩:=DataW.trod_string ht hx
 refine ⟨s,?_,rP (.str s),by simp [Value.oneCell']⟩
 have:=hB.str s.data.toList
 have hl:s.data.toList.length=s.size:=by rw [fR];rfl
 simp only at hb
 omega
theorem rows {α:Type}{C:α->List D}{G:α->Prop}{ad:Addr}{sz:Nat}:∀ (len:Nat),
  (∀ i,i<len->∃ c a,w.cells? base (ad.add (i * sz)) sz=some c/\G a/\RepL Qu iS rU w c (C a)/\∀ u∈c,u.oneCell'=true) ->
  ∃ (l:List α) (xs:List Value),l.length=len/\(∀ a∈l,G a)/\RepL Qu iS rU w xs (l.map C).flatten/\(∀ u∈xs,u.oneCell'=true)/\xs.length=len * sz /\
   (∀ (j:Nat) (u:Value),xs[j]?=some u->w.cell? (ad.add j)=some u)/\∀ c∈l.map C,c.length=sz
 | 0,_=>⟨[],[],rfl,by simp,⟨rfl,λj u d hu=>by simp at hu⟩,by simp,by simp,by simp,by simp⟩
 | len+1,h=>by
  obtain ⟨l,xs,h1,h2,h3,h4,h5,h6,h7⟩:=rows len λi hi=>h i aD
  obtain ⟨c,a,hc,hg,hr,h1c⟩:=h len aD
  obtain ⟨_,hcl,hcell⟩:=World.cells?_some hc
  refine ⟨l++[a],xs++c,by simp [h1],λb hb=>?_,?_,λu hu=>?_,by rw [aL,h5,hcl,Nat.succ_mul],λj u hu=>?_,λb hb=>?_⟩
  .rcases aV.1 hb with h|h
   .exact h2 b h
   .simp at h;subst h;exact hg
  .rw [List.map_append,lO]
   refine Fr h3 ?_
   simpa using hr
  .rcases aV.1 hu with h|h
   .exact h4 u h
   .exact h1c u h
  .by_cases hj:j<xs.length
   .rw [aQ hj] at hu;exact h6 j u hu
   .rw [aZ aD] at hu
    have hlt:j - xs.length<sz:=by rw [<- hcl];exact (aM.1 hu).1
    have:=hcell (j - xs.length) hlt
    rw [Addr.add_add,hu] at this
    rwa [(aD:len * sz+(j - xs.length)=j)] at this
  .rw [List.map_append] at hb
   rcases aV.1 hb with h|h
   .exact h7 b h
   .simp at h;subst h;rw [<- hr.len,hcl]
theorem iO (hB:Bulk bulk){e:TypeId}(ht:P.underlying t=some (.slice e)){α:Type}{C:α->List D}{G:α->Prop}(h:Opens enc P w base spare held bulk B n e C G) :
  Opens enc P w base spare held bulk B (n+1) t (λl:List α=>[.list (l.map C)]) (λl=>l.length<=B/\∀ a∈l,G a):=λfuel cs x hf hx hb=>by
 rcases DataW.trod_slice ht hx with ⟨rfl,rfl⟩|⟨ad,len,cap,elems,rest,m,rfl,rfl,rfl,hbase,hlc,hcap,hlen,hel,_,_⟩
 .exact ⟨[],⟨dY _,by simp⟩,rP .listN,by simp [Value.oneCell']⟩
 .simp only at hb
  have hb1:=hB.len (elems.map (·.1)) (rest.map (·.1))
  rw [aW] at hb1
  obtain ⟨l,xs,h1,h2,h3,h4,h5,h6,h7⟩:=rows (w:=w) (base:=base) (C:=C) (G:=G) (ad:=ad) (sz:=P.cellsOf e) len λi hi=>by
   have:=hel i hi
   rw [aA aD,Option.bind_eq_some_iff] at this
   obtain ⟨c,hc,hd⟩:=this
   obtain ⟨a,g1,g2,g3⟩:=h m c _ aD hd (fD (hB.el _ (rest.map (·.1)) _ (bA.2 ⟨_,aC aD,rfl⟩)) hb)
   exact ⟨c,a,hc,g1,g2,g3⟩
  refine ⟨l,⟨aD,h2⟩,rP ?_,by simp [Value.oneCell']⟩
  have key:=RepV.list (M:=Qu) (σ:=iS) (N:=rU) (w:=w) ad cap (P.cellsOf e) xs (l.map C) (by rw [aW];omega) hcap h7 h3.len h4 (λj u hu=>⟨λh=>h,h6 j u hu⟩) h3.rep
  rw [aW,h1] at key
  exact key
def Vg (enc:TypeId × Value->H)(P:Program)(w:World)(base:Nat)(spare:Nat->Bool)(held:Bool)(bulk:DataW H->Nat)(B n:Nat):List TypeId->List Value->Prop
 | [],cs=>cs=[]
 | t :: ts,cs=>(∃ y,DataW.trod enc P w base spare held n t (cs.take (P.cellsOf t))=some y/\bulk y.1<=B)/\Vg enc P w base spare held bulk B n ts (cs.drop (P.cellsOf t))
def KH (enc:TypeId × Value->H)(P:Program)(w:World)(base:Nat)(spare:Nat->Bool)(held:Bool)(bulk:DataW H->Nat)(B:Nat)(n:Nat)(ts:List TypeId){α:Type}(C:α->List D)(G:α->Prop):Prop :=
 ∀ (fuel:Nat) (cs:List Value),fuel<=n->Vg enc P w base spare held bulk B fuel ts cs->∃ a,G a/\RepL Qu iS rU w cs (C a)/\∀ u∈cs,u.oneCell'=true
theorem fQ:KH enc P w base spare held bulk B n [] (λ_:Unit=>[]) (λ_=>True):=λfuel cs _ h=>by
 have h:cs=[]:=h
 subst h
 exact ⟨(),trivial,⟨rfl,λj u d hu=>by simp at hu⟩,by simp⟩
theorem aY {ts:List TypeId}{α β:Type}{C:α->List D}{G:α->Prop}{C':β->List D}{G':β->Prop}(h:Opens enc P w base spare held bulk B n t C G)(k:KH enc P w base spare held bulk B n ts C' G') :
  KH enc P w base spare held bulk B n (t :: ts) (λp:α × β=>C p.1++C' p.2) (λp=>G p.1/\G' p.2):=λfuel cs hf hs=>by
 obtain ⟨⟨y,hy,hyb⟩,hs⟩:=hs
 obtain ⟨a,a1,a2,a3⟩:=h fuel _ y hf hy hyb
 obtain ⟨b,b1,b2,b3⟩:=k fuel _ hf hs
 refine ⟨(a,b),⟨a1,b1⟩,?_,λu hu=>?_⟩
 .have:=Fr a2 b2
  rwa [List.take_append_drop] at this
 .rw [<- List.take_append_drop (P.cellsOf t) cs] at hu
  rcases aV.1 hu with h|h
  .exact a3 u h
  .exact b3 u h
def Ry (P:Program):Nat->List Field->Option Nat
 | o,[]=>some o
 | o,f :: r=>if f.offset=o then Ry P (o+P.cellsOf f.type) r else none
theorem O0 {fuel:Nat}{cs:List Value}:∀ (fs:List Field) (o:Nat),Ry P o fs=some cs.length ->
  (∀ f∈fs,∃ y,DataW.trod enc P w base spare held fuel f.type ((cs.drop f.offset).take (P.cellsOf f.type))=some y/\bulk y.1<=B)->o<=cs.length/\Vg enc P w base spare held bulk B fuel (fs.map (·.type)) (cs.drop o)
 | [],o,ho,_=>by
  simp only [Ry,bD] at ho
  subst ho
  exact ⟨bC _,by show cs.drop cs.length=[];simp⟩
 | f :: fs,o,ho,h=>by
  unfold Ry at ho
  split at ho
  .rename_i hof
   subst hof
   obtain ⟨h1,h2⟩:=O0 fs _ ho λg hg=>h g (by simp [hg])
   refine ⟨aD,?_⟩
   refine ⟨h f bV,?_⟩
   rw [List.drop_drop]
   exact h2
  .cases ho
theorem eH (hB:Bulk bulk){fs:Array Field}(ht:P.underlying t=some (.struct fs))(ho:Ry P 0 fs.toList=some (P.cellsOf t)){α:Type}{C:α->List D}{G:α->Prop}(h:KH enc P w base spare held bulk B n (fs.toList.map (·.type)) C G) :
  Opens enc P w base spare held bulk B (n+1) t C G:=λfuel cs x hf hx hb=>by
 obtain ⟨xs,m,rfl,rfl,hcl,hxl,hfl⟩:=DataW.trod_struct ht hx
 simp only at hb
 have hs:=(O0 (enc:=enc) (P:=P) (w:=w) (base:=base) (spare:=spare) (held:=held) (bulk:=bulk) (B:=B) (fuel:=m) (cs:=cs) fs.toList 0 (by rw [hcl];exact ho) λf hfm=>by
  obtain ⟨i,hi,rfl⟩:=aO hfm
  have hi':i<fs.size:=by simpa using hi
  have hfi:=hfl i (fs.toList[i]) (by simp [hi'])
  rw [aA aD] at hfi
  exact ⟨_,hfi,fD (hB.part _ _ (bA.2 ⟨_,aC aD,rfl⟩)) hb⟩).2
 rw [List.drop_zero] at hs
 exact h m cs aD hs
theorem GW {r:Reach}{b0:Nat}{fs:Array Field}{v:Value}{d:DataW H}{ps:List MemPlace}{α:Type}{C:α->List D}{G:α->Prop}(ht:P.underlying t=some (.struct fs))(h:∀ n,Opens enc P w base spare held bulk B n t C G)
  (hval:Value.okWide P w r b0 t v) (hd:DataW.Trod enc P w base spare held t v d ps) (hb:bulk d<=B):∃ a,G a/\RepV Qu iS rU w v (.agg (C a)):=by
 obtain ⟨cs,rfl,_⟩:=okWide_struct ht hval
 obtain ⟨fuel,hf⟩:=hd
 obtain ⟨a,h1,h2,h3⟩:=h fuel fuel _ _ (bC _) hf hb
 have hc:(Value.agg cs).cells.toList=cs.toList:=rfl
 rw [hc] at h2 h3
 have:=RepV.agg (M:=Qu) (σ:=iS) (N:=rU) (w:=w) cs.toList (C a) h2.len h3 h2.rep
 exact ⟨a,h1,by simpa using this⟩
theorem zU (hl:laidOutB P=true){W W':World}{sp':Nat->Bool}(hb:Below W.heap.size W W'):∀ {ts:List TypeId} {vs:List Value} {ds:List (DataW H)} {ps:List MemPlace},(∀ t∈ts,P.readableRec t=true/\t<P.types.size) ->
  DataW.TrodAll enc P W 0 (λ_=>true) true ts vs ds ps->(∀ x∈ps,x.block<W.heap.size)->(∀ x∈ps,sp' x.block=true)->DataW.TrodAll enc P W' 0 sp' true ts vs ds ps
 | [],_,_,_,_,h,_,_=>by
  obtain ⟨rfl,rfl,rfl⟩:=trodAll_nil h
  rfl
 | t :: ts,_,_,_,hr,h,hlt,hs=>by
  obtain ⟨v,vs,d,ds,p,q,rfl,rfl,rfl,h1,h2⟩:=trodAll_cons h
  refine ⟨p,q,WideElems.Trod_stays hl (hr t bV).1 (hr t bV).2 h1 (λx hx=>hb.same (hlt x (by simp [hx]))) (λx hx=>hs x (by simp [hx])),zU hl hb (λu hu=>hr u (by simp [hu])) h2 (λx hx=>hlt x (by simp [hx])) (λx hx=>hs x (by simp [hx])),rfl⟩
theorem Hy (hl:laidOutB P=true){f:Func}{s:ChangeSpec}{apart fresh handsOn again:Bool}{W W':World}{args:Array Value}{v:Value}{ds gs:List (DataW H)}{before:List MemPlace}
  (hr:∀ t∈f.params.toList,P.readableRec t=true/\t<P.types.size) (hvars:s.vars=[]) (hW:DataW.Whole enc P f.params.toList s.vars apart W args.toList ds gs before)
  (hres:∀ (b:Nat) (sp:Nat->Bool) (hd:Bool),DataW.TrodAll enc P W' b sp hd f.resultTypes.toList (v.resultList f.resultTypes.size) (s.fn H (ds++gs)).results [])
  (hargs:(s.fn H (ds++gs)).args=ds) (hvs:(s.fn H (ds++gs)).vars=[]) (hb:Below W.heap.size W W')
  (hok:∀ (j:Nat) (t:TypeId) (r:Value),f.resultTypes[j]?=some t->(v.resultList f.resultTypes.size)[j]?=some r->Value.okWide P W' .any 0 t r) :
  s.post enc P f apart fresh handsOn again W args v W':=by
 have hW':=hW
 obtain ⟨p,q,hA,hV,rfl,hz,hn⟩:=hW
 rw [hvars] at hV
 obtain ⟨rfl,rfl⟩:=trodVars_none hV
 rw [dG] at hW' hz hn
 have hlt:∀ x∈p,x.block<W.heap.size:=λx hx=>by simpa using hW'.lt x hx
 have hTr:∀ sp:Nat->Bool,(∀ x∈p,sp x.block=true)->DataW.TrodAll enc P W' 0 sp true f.params.toList args.toList (s.fn H (ds++[])).args p:=λsp hs=>by
  rw [hargs];exact zU hl hb hr hA hlt hs
 have hVr:∀ sp:Nat->Bool,DataW.TrodVars enc P W' sp s.vars (s.fn H (ds++[])).vars []:=λsp=>by rw [hvars,hvs];rfl
 refine ⟨ds,[],p,[],p,[],hW',hres _ _ _,hTr _ (λx hx=>by simpa using hlt x hx),hVr _,World.keptBut_mono (λx hx=>⟨hx,.inr (bW hx)⟩) (hb.frame (·∈p)),λ_=>?_⟩
 refine ⟨hok,_,_,([]++p)++[],⟨[]++p,[],trodAll_append (hTr _ (λ_ _=>rfl)) (hres _ _ _),hVr _,rfl,?_,?_⟩,?_⟩
 .intro b off hp
  have hp':MemPlace.cell b off∈p:=by simpa using hp
  have:=hz b off hp'
  rw [<- this]
  exact hb.frozen (hlt _ hp')
 .intro ha
  simpa using hn ha
 .intro x hx _
  simpa using hx
end
end Go.Abs
end
section
set_option maxRecDepth 100000
set_option maxHeartbeats 4000000
open Go Go.Proofs
namespace Go.Abs
section
variable {H:Type} {enc:TypeId × Value→H} {P:Program} {w:World} {base:Nat} {spare:Nat→Bool} {held:Bool} {bulk:DataW H→Nat} {B:Nat} {n:Nat} {t:TypeId}
end
section
variable {H:Type} {enc:TypeId × Value→H} {w:World} {base:Nat} {spare:Nat→Bool} {held:Bool} {bulk:DataW H→Nat} {B:Nat}
theorem op4:∀ n,Opens enc Tryz.prog w base spare held bulk B n 4 (λb:Bool=>[D.bool b]) (λ_=>True):=λn=>N5 Tryz.underlying4
end
theorem QI (t:Types)(ht:t.ok)(kind:Int)(hk:0<=kind)(vs:List Int):Pure Tryz.prog 228 [t.d,dI kind,dLI vs] (dI (g9 t kind vs)):=by
 refine Tz.pK ⟨λt=>t==10,λ_=>[]⟩ Tryz.func228 rfl (λQ hQ=>?_)
 have Y:=trivial
 refine wv (h:=?_)
 repeat first|intro _|refine ⟨eO,?_⟩
 refine wq (λh1=>?_) λh1=>?_
 .have hE:g9 t kind vs=6:=by unfold g9;rw [if_pos aD]
  exact wv (h:=hQ _ _ (by simp [go_sem,hE]))
 .have hkn:kind.toNat<t.nodes.length:=aD
  have hA:wP t kind.toNat=t.nodes[kind.toNat].abs:=by simp [wP,aA hkn]
  have hE0:g9 t kind vs=if wP t kind.toNat=true then 13 else if vs.length≠(bL t kind).length then 20 else bT (BF (bL t kind) vs) 0 (bL t kind).length:=by unfold g9;rw [if_neg aD]
  rw [hA] at hE0
  have Y:=wa Y (wa (aA hkn) @NodeTy.c.eq_1)
  refine wv (h:=?_)
  repeat first|intro _|refine ⟨eO,?_⟩
  refine wq (λh3=>?_) λh3=>?_
  .rw [if_pos (bW h3)] at hE0
   exact wv (h:=hQ _ _ (by simp [go_sem,hE0]))
  .rw [if_neg (bW h3)] at hE0
   refine wv (h:=aB (nS t ht kind) wl ?_)
   refine wv (h:=?_)
   repeat first|intro _|refine ⟨eO,?_⟩
   refine wq (λh6=>?_) λh6=>?_
   .rw [if_pos aD] at hE0
    exact wv (h:=hQ _ _ (by simp [go_sem,hE0]))
   .rw [if_neg aD] at hE0
    have hln:vs.length=(bL t kind).length:=aD
    refine wo (h:=bF (λk e H=>(e 3=.adr t.c/\e 2=dLI vs/\e 33=.list ((bL t kind).map Attr.c)/\e 34=dI (bL t kind).length/\e 35=dI k)/\(k<=(bL t kind).length)/\(bT (BF (bL t kind) vs) k ((bL t kind).length - k)=g9 t kind vs)) (λk=>(bL t kind).length - k) 0 ⟨wg,wi,(by exact hE0.symm)⟩ λI0 hI0 k e H hi0=>?_)
    obtain ⟨E0,hkl,hF⟩:=hi0
    have Y:=wa Y E0
    refine dP (λh9=>?_) λh9=>?_
    .have hv:k<vs.length:=aD
     have hst:=eZ (BF (bL t kind) vs) h9
     rw [hF] at hst
     have hLE:BF (bL t kind) vs k=if vs[k]<(bL t kind)[k].low\/(bL t kind)[k].high<vs[k] then 6 else 0:=by simp only [BF,aA hv,aA h9,Option.getD_some]
     have Y:=wa Y (wa h9 (wa (aA hv) (wa (aA h9) @Attr.c.eq_1)))
     refine wv (h:=?_)
     repeat first|intro _|refine ⟨eO,?_⟩
     refine wq (λh11=>?_) λh11=>?_
     .rw [if_pos aD] at hLE
      rw [hLE,if_pos aD] at hst
      exact wv (h:=hQ _ _ (by simp [go_sem,hst]))
     .rw [if_neg aD] at hLE
      rw [hLE,if_neg aD] at hst
      exact wo (h:=wx hI0 (k+1) ⟨wg,wj,(by exact hst.symm)⟩)
    .have hZ:g9 t kind vs=0:=by rw [<- hF,(aD:(bL t kind).length - k=0)];rfl
     exact wv (h:=hQ _ _ (by simp [go_sem,hZ]))
theorem AE (t:Types)(ht:t.ok)(h:Host):Pure Tryz.prog 137 [t.d,h.d] (.tup [dI (nZ t h).1,dI (nZ t h).2]):=by
 refine Tz.pK ⟨λt=>t==13,λ_=>[]⟩ Tryz.func137 rfl (λQ hQ=>?_)
 have Y:=wa @Host.d.eq_1 @Host.c.eq_1
 refine wv (h:=aB (l7 t ht) wl ?_)
 refine dP (λh2=>?_) λh2=>?_
 .have hE:nZ t h=(-1,(cZ t).2):=by unfold nZ;rw [if_pos (bW h2)]
  exact wv (h:=hQ _ _ (by simp [go_sem,hE]))
 .have hE0:nZ t h=if graphF h.graph≠0 then (-1,graphF h.graph) else if h.values.length≠h.graph.nodes.length then (-1,20) else if (gP (Gk t h) 0 h.graph.nodes.length).2≠0 then gP (Gk t h) 0 h.graph.nodes.length else gP (QK t h) 0 h.graph.edges.length:=by unfold nZ;rw [if_neg (bW h2)]
  refine wv (h:=aB (mC h.graph) wl ?_)
  refine dP (λh5=>?_) λh5=>?_
  .rw [if_pos (bW h5)] at hE0
   exact wv (h:=hQ _ _ (by simp [go_sem,hE0]))
  .rw [if_neg (bW h5)] at hE0
   have hg0:graphF h.graph=0:=by simpa using h5
   have hgi:=eL hg0
   have hgl:=bR hg0
   refine fA (λh7=>?_) λh7=>?_
   .rw [if_pos aD] at hE0
    exact wv (h:=hQ _ _ (by simp [go_sem,hE0]))
   .rw [if_neg aD] at hE0
    refine wo (h:=bF (λi e H=>(e 2=.adr t.c/\e 3=.adr h.c/\e 38=dLI h.graph.nodes/\e 39=dI h.graph.nodes.length/\e 40=dI i)/\(i<=h.graph.nodes.length)/\(gP (Gk t h) i (h.graph.nodes.length - i)=gP (Gk t h) 0 h.graph.nodes.length)) (λi=>h.graph.nodes.length - i) 0 ⟨wg,wi,(by rfl)⟩ λI0 hI0 i e H hi0=>?_)
    obtain ⟨E0,hi,hF⟩:=hi0
    have Y:=wa Y E0
    refine dP (λh10=>?_) λh10=>?_
    .have hv:i<h.values.length:=aD
     have hn0:0<=h.graph.nodes[i]:=(hgi.1 _ (aC h10)).1
     have hst:=q7 (Gk t h) h10
     rw [hF] at hst
     have hNE:Gk t h i=g9 t h.graph.nodes[i] h.values[i]:=by simp only [Gk,aA hv,aA h10,Option.getD_some]
     have Y:=wa Y (wa h10 (wa (aA hv) (wa (aA h10) @cL.eq_1)))
     refine wo (h:=aJ (QI t ht h.graph.nodes[i] hn0 h.values[i]) wl ?_)
     refine fA (λh13=>?_) λh13=>?_
     .rw [hNE,if_pos (bW h13)] at hst
      rw [hst,if_pos (bW h13)] at hE0
      exact wv (h:=hQ _ _ (by simp [go_sem,hE0]))
     .rw [hNE,if_neg (bW h13)] at hst
      exact wo (h:=wx hI0 (i+1) ⟨wg,wj,(by exact hst.symm)⟩)
    .have hN0:gP (Gk t h) 0 h.graph.nodes.length=(-1,0):=by rw [<- hF,(aD:h.graph.nodes.length - i=0)];rfl
     rw [hN0,if_neg bV] at hE0
     refine wo (h:=bF (λj e H=>(e 2=.adr t.c/\e 3=.adr h.c/\e 60=.list (h.graph.edges.map Edge.c)/\e 61=dI h.graph.edges.length/\e 62=dI j)/\(j<=h.graph.edges.length)/\(gP (QK t h) j (h.graph.edges.length - j)=nZ t h)) (λj=>h.graph.edges.length - j) 0 ⟨wg,wi,(by exact hE0.symm)⟩ λI2 hI2 j e H hi2=>?_)
     obtain ⟨E2,hj,hG⟩:=hi2
     have Y:=wa Y E2
     refine dP (λh17=>?_) λh17=>?_
     .obtain ⟨x,hx⟩:=cF (h.graph.edges[j])
      have hxi:=(hgi.2 _ (aC h17)).2
      rw [<- hx] at hxi
      have hxf:x.from_.toNat<h.graph.nodes.length:=aD
      have hxt:x.to_.toNat<h.graph.nodes.length:=aD
      have hst:=q7 (QK t h) h17
      rw [hG] at hst
      have hEE:QK t h j=if (t.edges.length:Int)<=x.type then 6 else if n3 t x.type h.graph.nodes[x.from_.toNat] h.graph.nodes[x.to_.toNat]=true then 0 else 13:=by simp only [QK,gN,aA h17,Option.getD_some,<- hx,aA hxf,aA hxt]
      have Y:=wa Y (wa h17 (wa (aA h17) (wa (Eq.symm hx) (wa (aA hxf) (aA hxt)))))
      refine fA (λh19=>?_) λh19=>?_
      .rw [if_pos aD] at hEE
       rw [hEE,if_pos aD] at hst
       exact wv (h:=hQ _ _ (by simp [go_sem,hst]))
      .rw [if_neg aD] at hEE
       refine wo (h:=aJ (ES t ht x.type h.graph.nodes[x.from_.toNat] h.graph.nodes[x.to_.toNat]) wl ?_)
       refine fA (λh21=>?_) λh21=>?_
       .rw [if_neg (bW h21)] at hEE
        rw [hEE,if_pos aD] at hst
        exact wv (h:=hQ _ _ (by simp [go_sem,hst]))
       .rw [if_pos (bW h21)] at hEE
        rw [hEE,if_neg aD] at hst
        exact wo (h:=wx hI2 (j+1) ⟨wg,wj,(by exact hst.symm)⟩)
     .have hZ:nZ t h=(-1,0):=by rw [<- hG,(aD:h.graph.edges.length - j=0)];rfl
      exact wv (h:=hQ _ _ (by simp [go_sem,hZ]))
end Go.Abs
end
section
set_option maxRecDepth 60000
set_option maxHeartbeats 4000000
open Go Go.Proofs
namespace Go.Abs
def Pp (s:Int):Int:=if s<0 then -1 else 0
def Mj (s:Int):Int:=s % 18446744073709551616
theorem Q1 (x y:Int)(hx:0<=x)(hy:0<=y)(w:World):(callFunc 399 #[.int .u64 x,.int .u64 y,.int .u64 0]).run Tryz.prog w =
  .ok (.value (.tuple #[.int .u64 ((x+y+0) % 18446744073709551616),.int .u64 ((x+y+0) / 18446744073709551616)])) w:=by
 rw [run_callFunc_extern Tryz.func399 (by kernel_rfl) (by kernel_rfl) (by kernel_rfl) (e:=add64Entry) (by kernel_rfl),run_add64 x y 0 hx hy aD aD]
 rfl
open RowKit in
theorem Nj (a b:Int)(ha : -4000000<=a/\a<=4000000)(hb : -4000000<=b/\b<=4000000)(w:World) :
  Calls Tryz.prog 348 #[.int .i64 a,.int .i64 b] w λe w'=>e=.returned (.tuple #[.int .i64 (Pp (a+b)),.int .u64 (Mj (a+b))])/\w'=w:=by
 have h:=Q1 (IntKind.u64.wrap a) (IntKind.u64.wrap b) (by rw [IntKind.wrap_u64];omega) (by rw [IntKind.wrap_u64];omega) w
 simp only [Int.add_zero] at h
 go_enter Tryz.func348,Tryz.ntmps348
 go_wp2
 have wa:IntKind.u64.wrap a=if a<0 then a+18446744073709551616 else a:=by rw [IntKind.wrap_u64];split<;>omega
 have wb:IntKind.u64.wrap b=if b<0 then b+18446744073709551616 else b:=by rw [IntKind.wrap_u64];split<;>omega
 have e1:wrap64 (a / 9223372036854775808+b / 9223372036854775808+wrap64 ((IntKind.u64.wrap a+IntKind.u64.wrap b) / 18446744073709551616))=Pp (a+b):=by
  rw [wa,wb];unfold Pp wrap64
  repeat' split
  all_goals omega
 have e2:(IntKind.u64.wrap a+IntKind.u64.wrap b) % 18446744073709551616=Mj (a+b):=by
  rw [wa,wb];unfold Mj
  repeat' split
  all_goals omega
 rw [e1,e2]
 go_ret2
 exact ⟨rfl,rfl⟩
theorem wJ (a b:Int)(ha : -4000000<=a/\a<=4000000)(hb : -4000000<=b/\b<=4000000):Pure Tryz.prog 348 [dI a,dI b] (.tup [dI (Pp (a+b)),.int .u64 (Mj (a+b))]):=by
 refine ⟨⟨Tryz.f348,Tryz.func348,rfl,rfl⟩,λM w vals hM ha'=>?_⟩
 have hv:vals=[.int .i64 a,.int .i64 b]:=by
  obtain ⟨hl,hr⟩:=ha'
  match vals,hl with
  | [x,y],_ =>
   have h0:=hr 0 x _ rfl rfl
   have h1:=hr 1 y _ rfl rfl
   cases h0
   cases h1
   rfl
 subst hv
 exact (Nj a b ha hb w).mono λe w' ⟨h1,h2⟩=>⟨_,h1,.tup _ _ rfl (λj u d hu hd=>by
  match j with
  | 0=>simp at hu hd;subst hu;subst hd;exact .int _ _
  | 1=>simp at hu hd;subst hu;subst hd;exact .int _ _
  | j+2=>simp at hu),by subst h2;exact ⟨rfl,rfl,rfl,bC _,λ_ _=>rfl⟩⟩
theorem s9 (x:Term)(vs:List Int)(hx:o8 x vs.length)(hs:Sm vs):Pure Tryz.prog 347 [.agg x.c,.adr [dLI vs]] (.tup [dI (Pp (c8 x vs)),.int .u64 (Mj (c8 x vs)),.bool true]):=by
 have hx0:=hx
 obtain ⟨⟨a1,a2⟩,a3,a4⟩:=hx0
 refine Tz.pK ⟨λ_=>false,λ_=>[]⟩ Tryz.func347 rfl (λQ hQ=>?_)
 have Y:=@Term.c.eq_1
 refine dP (λh1=>?_) λh1=>?_
 .have hT:c8 x vs=0+x.add:=by unfold c8;rw [if_pos aD];omega
  refine wv (h:=aB (wJ 0 x.add aD aD) wl ?_)
  exact wv (h:=hQ _ _ (by simp [go_sem,hT]))
 .have hk:x.var.toNat<vs.length:=aD
  have hb:=hs.get hk
  have hT:c8 x vs=vs[x.var.toNat]+x.add:=by unfold c8;rw [if_neg aD,aA hk];rfl
  have w1:¬ x.var<0:=aD
  have w2:¬ (vs.length:Int)<=x.var:=aD
  have Y:=wa Y (wa (aA hk) (wa w1 w2))
  refine wo (h:=aJ (wJ vs[x.var.toNat] x.add hb aD) wl ?_)
  exact wo (h:=hQ _ _ (by simp [go_sem,hT]))
theorem GL (a:Int):Pure Tryz.prog 400 [.int .u64 a] (.bool false):=by
 refine Tz.pK ⟨λ_=>false,λ_=>[]⟩ Tryz.func400 rfl (λQ hQ=>?_)
 have Y:=trivial
 exact wv (h:=hQ _ _ wy)
theorem Kq (a b:Int):Pure Tryz.prog 351 [.int .u64 a,.int .u64 b] (dI (cmp1 a b)):=by
 refine Tz.pK ⟨λ_=>false,λ_=>[]⟩ Tryz.func351 rfl (λQ hQ=>?_)
 have Y:=trivial
 refine wv (h:=aB (GL a) wl ?_)
 refine wv (h:=aB (GL b) wl ?_)
 refine dP (λh9=>?_) λh9=>?_
 .have Y:=wa Y (wa h9 @cmp1.eq_1)
  exact wv (h:=hQ _ _ wy)
 .refine dP (λh11=>?_) λh11=>?_
  .have Y:=wa Y (wa h9 (wa h11 @cmp1.eq_1))
   exact wv (h:=hQ _ _ wy)
  .have Y:=wa Y (wa h9 (wa h11 @cmp1.eq_1))
   exact wv (h:=hQ _ _ wy)
def ST (a b:Int):Int:=Sx [cmp1 (Pp a) (Pp b),cmp1 (Mj a) (Mj b)]
theorem SS {a b:Int}(ha : -10000000<=a/\a<=10000000)(hb : -10000000<=b/\b<=10000000):ST a b=if a<b then -1 else if b<a then 1 else 0:=by
 have la:Mj a=if a<0 then a+18446744073709551616 else a:=by unfold Mj;split<;>omega
 have lb:Mj b=if b<0 then b+18446744073709551616 else b:=by unfold Mj;split<;>omega
 unfold ST
 simp only [Sx,cmp1,Pp,la,lb]
 repeat' split
 all_goals omega
theorem EX {x:Term}{vs:List Int}(hx:o8 x vs.length)(hs:Sm vs) : -10000000<=c8 x vs/\c8 x vs<=10000000:=by
 obtain ⟨⟨a1,a2⟩,a3,a4⟩:=hx
 unfold c8
 split
 .omega
 .have hk:x.var.toNat<vs.length:=aD
  have hb:=hs.get hk
  rw [aA hk,Option.getD_some]
  omega
theorem uX (x:Test)(vs:List Int)(hx:G2 x vs.length)(hs:Sm vs):Pure Tryz.prog 271 [.agg x.c,dLI vs] (.bool (zK x vs)):=by
 obtain ⟨hk,hl,hr⟩:=hx
 have hO:=SS (EX hl hs) (EX hr hs)
 have hOe:ST (c8 x.left vs) (c8 x.right vs)=Sx [cmp1 (Pp (c8 x.left vs)) (Pp (c8 x.right vs)),cmp1 (Mj (c8 x.left vs)) (Mj (c8 x.right vs))]:=rfl
 obtain ⟨o,ho⟩:=cF (ST (c8 x.left vs) (c8 x.right vs))
 rw [<- ho] at hO hOe
 have hT:zK x vs=(decide (x.kind=1)&&decide (o<=0)||decide (x.kind=2)&&decide (o=0)):=by
  unfold zK
  rw [hO,aT]
  simp
  constructor
  .rintro (⟨h1,h2⟩|⟨h1,h2⟩)
   .left;refine ⟨h1,?_⟩;split<;>(try split)<;>omega
   .right;refine ⟨h1,?_⟩;rw [h2];simp
  .rintro (⟨h1,h2⟩|⟨h1,h2⟩)
   .left;refine ⟨h1,?_⟩;split at h2<;>(try split at h2)<;>omega
   .right;refine ⟨h1,?_⟩;split at h2<;>(try split at h2)<;>omega
 refine Tz.pK ⟨λ_=>false,λ_=>[]⟩ Tryz.func271 rfl (λQ hQ=>?_)
 have Y:=@Test.c.eq_1
 refine wv (h:=?_)
 refine aB (s9 x.left vs hl hs) wl ?_
 refine wv (h:=?_)
 refine aB (s9 x.right vs hr hs) wl ?_
 refine wv (h:=?_)
 repeat first|intro _|refine ⟨eO,?_⟩
 refine aB (MQ (Pp (c8 x.left vs)) (Pp (c8 x.right vs))) wl ?_
 refine wv (h:=?_)
 repeat first|intro _|refine ⟨eO,?_⟩
 refine aB (Kq (Mj (c8 x.left vs)) (Mj (c8 x.right vs))) wl ?_
 refine wv (h:=?_)
 repeat first|intro _|refine ⟨eO,?_⟩
 refine aB ((by have hq:=U6 [cmp1 (Pp (c8 x.left vs)) (Pp (c8 x.right vs)),cmp1 (Mj (c8 x.left vs)) (Mj (c8 x.right vs))];rw [<- hOe] at hq;exact hq)) wl ?_
 refine wv (h:=?_)
 repeat first|intro _|refine ⟨eO,?_⟩
 exact hQ _ _ (by simp [go_sem,hT]<;>(first|rfl|(rw [aT];simp)))
theorem lR (x:Term)(vs:List Int)(hx:o8 x vs.length)(hs:Sm vs):Pure Tryz.prog 270 [.agg x.c,dLI vs] (dI (c8 x vs)):=by
 have hx0:=hx
 obtain ⟨⟨a1,a2⟩,a3,a4⟩:=hx0
 refine Tz.pK ⟨λ_=>false,λ_=>[]⟩ Tryz.func270 rfl (λQ hQ=>?_)
 have Y:=@Term.c.eq_1
 refine dP (λh1=>?_) λh1=>?_
 .exact wv (h:=hQ _ _ (by simp [go_sem,c8,h1]))
 .have hk:x.var.toNat<vs.length:=aD
  have hb:=hs.get hk
  have Y:=wa Y (aA hk)
  exact wo (h:=hQ _ _ (by simp [go_sem,c8,(aD:¬ x.var<0),aA hk]))
theorem mH (x:Term)(vs:List Int)(hx:o8 x vs.length)(hs:Sm vs):Pure Tryz.prog 336 [.agg x.c,dLI vs] (.tup [dI (c8 x vs),dI 0]):=by
 have hx0:=hx
 obtain ⟨⟨a1,a2⟩,a3,a4⟩:=hx0
 have hin:inF x.var (-1) ((vs.length:Int) - 1)=true:=by unfold inF;simp;omega
 refine Tz.pK ⟨λ_=>false,λ_=>[]⟩ Tryz.func336 rfl (λQ hQ=>?_)
 have Y:=wa @Term.c.eq_1 hin
 refine wo (h:=aB (jH x.var (-1) ((vs.length:Int) - 1)) wl ?_)
 refine wo (h:=aB (lR x vs hx hs) wl ?_)
 exact wo (h:=hQ _ _ wy)
end Go.Abs
end
