/- Layer 26 of the reference: put. · Layer 26, the plain law: w -/
import Derived.Test.YthalajhajpjjeaaGreatZgAF
import Derived.Test.YthalajhajpjjeaaGreatZgAA
import Derived.Test.YthalajhajpjjeaaGreatZgAP
import Derived.Test.YthalajhajpjjeaaGreatZgAE
import Derived.Carry
import Derived.ChangeArms
import Derived.WideShapes
import Derived.DataElems
import Derived.OpenShut
import Derived.Laws.Externs
set_option linter.unusedVariables false
set_option linter.unusedSimpArgs false
section
set_option maxRecDepth 100000
set_option maxHeartbeats 4000000
open Go Go.Proofs
namespace Go.Abs
theorem IK (c:Part)(vs:List Int)(l:List Slot)(s:Slot)(vals:List (List Int)):uE c vs (l++[s]) vals=(uE c vs l vals).set (fI c s) (((uE c vs l vals)[fI c s]?.getD []).set s.attr.toNat (c8 s.term vs)):=by unfold uE;rw [Fe];rfl
theorem oZ (c:Part)(vs:List Int):∀ (l:List Slot) (vals:List (List Int)),(uE c vs l vals).length=vals.length/\∀ n:Nat,((uE c vs l vals)[n]?.getD []).length=(vals[n]?.getD []).length
 | [],vals=>⟨rfl,λ_=>rfl⟩
 | s :: l,vals=>by
  obtain ⟨h1,h2⟩:=oZ c vs l (vals.set (fI c s) ((vals[fI c s]?.getD []).set s.attr.toNat (c8 s.term vs)))
  have e:uE c vs (s :: l) vals=uE c vs l (vals.set (fI c s) ((vals[fI c s]?.getD []).set s.attr.toNat (c8 s.term vs))):=rfl
  rw [e]
  refine ⟨by rw [h1,g7],λn=>?_⟩
  rw [h2 n,dZ]
  split
  .rename_i hn
   subst hn
   split
   .simp
   .rename_i hn;rw [b7 aD]
  .rfl
def uO (c:Part)(vs:List Int)(l:List Slot)(i k:Nat):Bool:=match l[k]?,l[i]? with|some a,some b=>Dr c vs a b|_,_=>false
theorem vS (c:Part)(vs:List Int)(l:List Slot):wR c vs l=(List.range l.length).any λi=>(List.range i).any λk=>uO c vs l i k:=rfl
structure PutOk (t:Types) (r:Rule) (x:Host) (c:Part):Prop where
 cl:c.nodes.length=r.right.graph.nodes.length
 few:x.graph.nodes.length<=2000/\x.graph.edges.length<=2000/\x.values.length<=2000
 spot:∀ s∈r.right.slots,0<=c.nodes[s.node.toNat]?.getD 0/\fI c s<x.values.length/\fI c s<x.graph.nodes.length
 attr:∀ s∈r.right.slots,s.attr<(x.values[fI c s]?.getD []).length/\s.attr<(bM t (x.graph.nodes[fI c s]?.getD 0)).length
theorem Ol (t:Types)(ht:t.ok)(r:Rule)(hR:RuleV t r)(f:Host)(c:Part)(hP:PutOk t r f c)(vs:List Int)(a0:vs.length=r.left.vars.toNat)(Z:Sm vs)
  (G:AHeap) (lo a b V:Nat) (w:List Nat) (m:HH G lo a b V w f) (Q:D->AHeap->Prop)
  (L:∀ H',s7 t f.graph c vs r.right.slots≠0->(∀ j,j<G.next->j∉a :: b :: V :: w->H'.get j=G.get j)->G.next<=H'.next->Q (.tup [.agg [.nil,.nil,.nil],dI (s7 t f.graph c vs r.right.slots)]) H')
  (hQ:∀ H',s7 t f.graph c vs r.right.slots=0->(∀ j,j<G.next->j∉a :: b :: V :: w->H'.get j=G.get j)->G.next<=H'.next->Q (.tup [Host.d ⟨f.graph,uE c vs r.right.slots f.values⟩,dI 0]) H') :
  ACalls Tryz.prog 66 [t.d,r.d,.agg [.own a f.graph.nodes.length,.own b f.graph.edges.length,.own V f.values.length],c.d,dLI vs] G Q:=by
 have h6:=eK hR.gr
 have i2:=m.rng a m.a_in
 have h9:=m.rng b m.b_in
 have i3:=m.rng V m.V_in
 have i1:=m.ab
 have s:=hR.slots
 have d0:=hR.few
 obtain ⟨l,hl⟩:=cW (r.right.slots)
 rw [<- hl] at L hQ s d0
 have n:=hP.spot
 have K:=hP.attr
 rw [<- hl] at n K
 have h8:=hP.cl
 obtain ⟨Q',N⟩:∃ Q':D->AHeap->Prop,∀ d H',Q' d H'↔Q (iS H' d) (fJ (AK H' d) H'):=⟨_,λ_ _=>Iff.rfl⟩
 refine ACalls.deep ?_
 rw [show (λd H'=>Q (iS H' d) (fJ (AK H' d) H'))=Q' from funext λd=>funext λH'=>propext (N d H').symm]
 refine (aJ (cfg:=⟨λt=>t==7||t==10,λ_=>[]⟩) Tz.mixed Tryz.func66 rfl rfl (aF rfl) (by kernel_rfl) ?_)
 have Y:=wa @Part.d.eq_1 (wa @Part.c.eq_1 (wa (Eq.symm hl) @Term.c.eq_1))
 refine wv (h:=bD (λi e H=>∃ X:Nat,∃ R:Nat,(e 5=.adr t.c/\e 6=.adr r.c/\e 8=.adr c.c/\e 4=dLI vs/\e 12=.list (l.map Slot.c)/\e 7=.ptr X 1 0 0/\e 10=.ptr R 1 0 0/\e 13=dI i)/\(H.get X=some ⟨44,3,[[.own a f.graph.nodes.length,.own b f.graph.edges.length,.own V f.values.length]],false⟩)/\(X<H.next)/\(H.get R=some ⟨44,3,[[.nil,.nil,.nil]],false⟩)/\(R<H.next)/\(i<=l.length)/\(HH H lo a b V w f)/\(∀ j∈a :: b :: V :: w,j≠X/\j≠R)/\(G.next<=X/\X<R)/\(∀ p q,p<i->q<p->uO c vs l p q=false)/\(∀ j,j<G.next->j∉a :: b :: V :: w->H.get j=G.get j)/\(G.next<=H.next)) (λi=>l.length - i) 0 ⟨G.next,(G.next+1),wg,wn,wn,wn,wn,wi,(by exact m.same (by simp [go_sem];omega) (λj u=>by have:=(m.rng j u).2;simp [go_sem,b8 this])),(by intro j u;have:=(m.rng j u).2;omega),aD,(by intro p q hp;omega),(by intro j u _;simp [go_sem,b8 u]),(by simp [go_sem];omega)⟩ λI0 g1 i e H f2=>?_)
 obtain ⟨X,R,E0,d7,b2,e0,b5,hi,hh,a5,f7,hC,hG,c1⟩:=f2
 have g8:=And.intro (dF (aD:R≠X)) (And.intro (dF (aD:R≠V)) (And.intro (dF (aD:R≠b)) (And.intro (dF (aD:R≠a)) (And.intro (dF (aD:X≠V)) (And.intro (dF (aD:X≠b)) (And.intro (dF (aD:X≠a)) (And.intro (dF (aD:V≠b)) (And.intro (dF (aD:V≠a)) (dF (aD:b≠a))))))))))
 have Y:=wa Y (wa E0 (wa d7 (wa (b8 b2) (wa e0 (wa (b8 b5) g8)))))
 refine rT (λh3=>?_) λh3=>?_
 .have hlm:=aC h3
  have a6:=(s _ hlm).2.2
  have e8:=(s _ hlm).1
  have z:l[i].node.toNat<c.nodes.length:=aD
  have Y:=wa Y (wa h3 (wa (aA h3) (wa @Slot.c.eq_1 (aA z))))
  refine wp (h:=aB (jO l[i].term vs (by rw [a0];exact a6) Z) wl ?_)
  refine wp (h:=bD (λk e H=>(e 5=.adr t.c/\e 6=.adr r.c/\e 8=.adr c.c/\e 4=dLI vs/\e 12=.list (l.map Slot.c)/\e 7=.ptr X 1 0 0/\e 10=.ptr R 1 0 0/\e 13=dI i/\e 14=dI (c8 l[i].term vs)/\e 16=dI k)/\(H.get X=some ⟨44,3,[[.own a f.graph.nodes.length,.own b f.graph.edges.length,.own V f.values.length]],false⟩)/\(X<H.next)/\(H.get R=some ⟨44,3,[[.nil,.nil,.nil]],false⟩)/\(R<H.next)/\(k<=i)/\(HH H lo a b V w f)/\(∀ q,q<k->uO c vs l i q=false)/\(∀ j,j<G.next->j∉a :: b :: V :: w->H.get j=G.get j)/\(G.next<=H.next)) (λk=>i - k) 0 ⟨wg,wn,wn,wn,wn,wi,(by exact hh.same (by first|(simp [go_sem];done)|(simp [go_sem];omega)) (λ_ _=>rfl)),(by intro q P;omega),(by exact hG),(by first|exact c1|(simp [go_sem];omega))⟩ λI2 g0 k e H f1=>?_)
  obtain ⟨E2,d6,b1,d9,b4,hk,c9,d4,a8,a3⟩:=f1
  have g7:=And.intro (dF (aD:R≠X)) (And.intro (dF (aD:R≠V)) (And.intro (dF (aD:R≠b)) (And.intro (dF (aD:R≠a)) (And.intro (dF (aD:X≠V)) (And.intro (dF (aD:X≠b)) (And.intro (dF (aD:X≠a)) (And.intro (dF (aD:V≠b)) (And.intro (dF (aD:V≠a)) (dF (aD:b≠a))))))))))
  have Y:=wa Y (wa E2 (wa d6 (wa (b8 b1) (wa d9 (wa (b8 b4) g7)))))
  refine dP (λh7=>?_) λh7=>?_
  .have hkl:k<l.length:=aD
   have a4:=aC hkl
   have f8:=(s _ a4).2.2
   have h5:=(s _ a4).1
   have J:l[k].node.toNat<c.nodes.length:=aD
   have e6:=(n _ hlm).1
   have e5:=(n _ a4).1
   rw [aA z,Option.getD_some] at e6
   rw [aA J,Option.getD_some] at e5
   have d3:uO c vs l i k=(decide (c.nodes[l[k].node.toNat]=c.nodes[l[i].node.toNat])&&(decide (l[k].attr=l[i].attr)&&decide (c8 l[k].term vs≠c8 l[i].term vs))):=by
    unfold uO Dr fI
    simp only [aA hkl,aA h3,aA z,aA J,Option.getD_some]
    rw [show (decide ((c.nodes[l[k].node.toNat]).toNat=(c.nodes[l[i].node.toNat]).toNat))=decide (c.nodes[l[k].node.toNat]=c.nodes[l[i].node.toNat]) from by rw [decide_eq_decide];omega]
   have Y:=wa Y (wa h7 (wa (aA hkl) (aA J)))
   refine wp (h:=aB (jO l[k].term vs (by rw [a0];exact f8) Z) wl ?_)
   refine rT (λI=>?_) λI=>?_
   .have hB:wR c vs l=true:=by
     rw [vS,aX]
     refine ⟨i,by simpa using h3,?_⟩
     rw [aX]
     refine ⟨k,by simpa using h7,?_⟩
     rw [d3];simp at I ⊢;exact ⟨I.1.1,I.1.2,λe=>I.2 e.symm⟩
    have hE:s7 t f.graph c vs l=11:=by unfold s7;rw [if_pos hB]
    refine wv (h:=?_)
    rw [hE] at L;refine (N _ _).2 ?_;simp only [iS,jW,pN,fG,AK,GE,KJ,lC,g9,jD,xH,Im,dE,fJ];exact L _ (by decide) (λj u o=>by simp [go_sem,(aD:j≠R)];exact a8 j u o) (by first|(simp [go_sem];omega)|exact a3)
   .have hCk:uO c vs l i k=false:=by
     rw [d3,bH];intro A;simp at A
     exact A.2.2 (I A.1 A.2.1).symm
    exact wp (h:=wx g0 (k+1) ⟨wg,wn,wn,wn,wn,wj,(by exact c9.same (by first|(simp [go_sem];done)|(simp [go_sem];omega)) (λ_ _=>rfl)),(by intro q P;rcases b6 q k with hqk|hqk;exact d4 q hqk;(obtain rfl:q=k:=aD;exact hCk)),(by exact a8),(by first|exact a3|(simp [go_sem];omega))⟩)
  .exact wp (h:=wx g1 (i+1) ⟨X,R,wg,wn,wn,wn,wn,wj,(by exact c9),(by exact a5),(by exact f7),(by intro p q hp P;rcases b6 p i with hpi|hpi;exact hC p q hpi P;(obtain rfl:p=i:=aD;exact d4 q aD)),(by exact a8),(by exact a3)⟩)
 .have hB:wR c vs l=false:=by
   rw [vS,bH];intro A
   rw [aX] at A
   obtain ⟨p,hp,A⟩:=A
   rw [aX] at A
   obtain ⟨q,P,A⟩:=A
   rw [bK] at hp P
   rw [hC p q aD P] at A;cases A
  have O:s7 t f.graph c vs l=if l.any (yR t f.graph c vs)=true then 6 else 0:=by unfold s7;rw [if_neg (by rw [hB];simp)]
  refine wv (h:=bD (λi e H=>∃ x:Host,(e 5=.adr t.c/\e 6=.adr r.c/\e 8=.adr c.c/\e 4=dLI vs/\e 12=.list (l.map Slot.c)/\e 7=.ptr X 1 0 0/\e 10=.ptr R 1 0 0/\e 19=dI i)/\(H.get X=some ⟨44,3,[[.own a f.graph.nodes.length,.own b f.graph.edges.length,.own V f.values.length]],false⟩)/\(X<H.next)/\(H.get R=some ⟨44,3,[[.nil,.nil,.nil]],false⟩)/\(R<H.next)/\(i<=l.length)/\(x=⟨f.graph,uE c vs (l.take i) f.values⟩)/\(HH H lo a b V w x)/\((l.take i).any (yR t f.graph c vs)=false)/\(∀ j,j<G.next->j∉a :: b :: V :: w->H.get j=G.get j)/\(G.next<=H.next)) (λi=>l.length - i) 0 ⟨f,wg,wn,wn,wn,wn,wi,(by rfl),(by exact hh),(by rfl),(by exact hG),(by exact c1)⟩ λI4 f9 i e H c6=>?_)
  obtain ⟨x,E4,d5,b0,d8,b3,c6,hx,g,hO,a7,c5⟩:=c6
  have g6:=And.intro (dF (aD:R≠X)) (And.intro (dF (aD:R≠V)) (And.intro (dF (aD:R≠b)) (And.intro (dF (aD:R≠a)) (And.intro (dF (aD:X≠V)) (And.intro (dF (aD:X≠b)) (And.intro (dF (aD:X≠a)) (And.intro (dF (aD:V≠b)) (And.intro (dF (aD:V≠a)) (dF (aD:b≠a))))))))))
  have Y:=wa Y (wa E4 (wa d5 (wa (b8 b0) (wa d8 (wa (b8 b3) g6)))))
  refine rT (λF=>?_) λF=>?_
  .have hlm:=aC F
   have a6:=(s _ hlm).2.2
   have e8:=(s _ hlm).1
   have i0:=(s _ hlm).2.1
   have z:l[i].node.toNat<c.nodes.length:=aD
   obtain ⟨s1,s2,s3⟩:=n _ hlm
   obtain ⟨a1,a2⟩:=K _ hlm
   have e4:fI c l[i]=(c.nodes[l[i].node.toNat]).toNat:=by unfold fI;rw [aA z];rfl
   rw [aA z,Option.getD_some] at s1
   have c0:=oZ c vs (l.take i) f.values
   have C:x.graph=f.graph:=by rw [hx]
   have U:x.values=uE c vs (l.take i) f.values:=by rw [hx]
   have W:x.values.length=f.values.length:=by rw [U];exact c0.1
   have c3:fI c l[i]<x.values.length:=aD
   have c4:fI c l[i]<x.graph.nodes.length:=by rw [C];exact s3
   have e9:fI c l[i]<w.length:=by rw [g.len];exact c3
   obtain ⟨q,P⟩:=cW (w[fI c l[i]])
   obtain ⟨v,hv⟩:=cW (x.values[fI c l[i]])
   have e1:w[fI c l[i]]?=some q:=by rw [aA e9,P]
   have e2:x.values[fI c l[i]]?=some v:=by rw [aA c3,hv]
   have b9:=rW e1 e2
   have f3:=g.gq _ _ _ e1 e2
   have h0:v.length=(f.values[fI c l[i]]?.getD []).length:=by rw [<- c0.2,<- U,e2];rfl
   have f6:l[i].attr.toNat<v.length:=aD
   obtain ⟨nd,c2⟩:∃ y,y=x.graph.nodes[fI c l[i]]:=⟨_,rfl⟩
   have S:f.graph.nodes[fI c l[i]]?.getD 0=nd:=by rw [c2,<- C,aA c4];rfl
   rw [S] at a2
   have d1:l[i].attr.toNat<(bM t nd).length:=aD
   have B:q∈w:=aK e1
   have h1:=g.rng q (g.q_in B)
   have h4:=a5 q (g.q_in B)
   have h2:=g.qn B
   have d2:yR t f.graph c vs l[i]=(decide (c8 l[i].term vs<(bM t nd)[l[i].attr.toNat].low)||decide ((bM t nd)[l[i].attr.toNat].high<c8 l[i].term vs)):=by unfold yR;rw [S,aA d1];rfl
   have g3:=g.ga
   have g2:=g.gb
   have g4:=g.gV
   have f4:f.graph.nodes.length=x.graph.nodes.length:=by rw [C]
   have e7:=jF g.len
   have g5:=And.intro (dF (aD:R≠X)) (And.intro (dF (aD:R≠V)) (And.intro (dF (aD:R≠b)) (And.intro (dF (aD:R≠a)) (And.intro (dF (aD:R≠q)) (And.intro (dF (aD:X≠V)) (And.intro (dF (aD:X≠b)) (And.intro (dF (aD:X≠a)) (And.intro (dF (aD:X≠q)) (And.intro (dF (aD:V≠b)) (And.intro (dF (aD:V≠a)) (And.intro (dF (aD:V≠q)) (And.intro (dF (aD:b≠a)) (And.intro (dF (aD:b≠q)) (dF (aD:a≠q)))))))))))))))
   have Y:=wa Y (wa F (wa (aA F) (wa @Slot.c.eq_1 (wa (aA z) (wa (Eq.symm e4) (wa g3 (wa g2 (wa g4 (wa b9 (wa f3 (wa e7 (wa (aA c4) (wa (Eq.symm c2) (wa (aA d1) (wa (aA f6) (wa @Attr.c.eq_1 (wa W.symm (wa f4 g5))))))))))))))))))
   refine wp (h:=aB (jO l[i].term vs (by rw [a0];exact a6) Z) wl ?_)
   refine wp (h:=aI (oA t ht nd) wl ?_)
   refine rT (λa9=>?_) λa9=>?_
   .have A:l.any (yR t f.graph c vs)=true:=aX.2 ⟨_,hlm,by rw [d2];simpa using a9⟩
    rw [if_pos A] at O
    refine wv (h:=?_)
    rw [O] at L;refine (N _ _).2 ?_;simp only [iS,jW,pN,fG,AK,GE,KJ,lC,g9,jD,xH,Im,dE,fJ];exact L _ (by decide) (λj u o=>by simp [go_sem,(aD:j≠R)];exact a7 j u o) (by first|(simp [go_sem];omega)|exact c5)
   .have hOi:yR t f.graph c vs l[i]=false:=by rw [d2];simpa using a9
    obtain ⟨x2,b7⟩:∃ y:Host,y=⟨x.graph,x.values.set (fI c l[i]) (v.set l[i].attr.toNat (c8 l[i].term vs))⟩:=⟨_,rfl⟩
    have e3:x2=⟨f.graph,uE c vs (l.take (i+1)) f.values⟩:=by
     rw [b7,aE F,IK,<- U,e2,C];rfl
    exact wp (h:=wx f9 (i+1) ⟨x2,wg,wn,wn,wn,wn,wj,(by exact e3),(by rw [b7];exact g.rowSet (by first|(simp [go_sem];done)|(simp [go_sem];omega)) e1 e2 bW (by simp [go_sem,Y,bY,cI]) (λj u f0=>by simp [go_sem,f0])),(by rw [aE F,Bs,hO];simp [hOi]),(by intro j u o;simp [go_sem,show j≠q from λe=>o (e ▸ g.q_in B)];exact a7 j u o),(by simp [go_sem];omega)⟩)
  .rw [aG aD] at hO hx
   rw [if_neg (by rw [hO];simp)] at O
   have C:x.graph=f.graph:=by rw [hx]
   have W:x.values.length=f.values.length:=by rw [hx];exact (oZ c vs l f.values).1
   refine wv (h:=?_)
   refine (N _ _).2 ?_
   obtain ⟨E,M⟩:=cW (H.put R ⟨44,3,[[.own a f.graph.nodes.length,.own b f.graph.edges.length,.own V f.values.length]],false⟩)
   have c7:HH E lo a b V w x:=g.same (by rw [M];simp [go_sem]) (λj u=>by rw [M];simp [go_sem,(a5 j u).2])
   rw [<- M]
   have hd:=c7.deep
   rw [C,W] at hd
   have T:=c7.ids f.graph.nodes.length f.graph.edges.length f.values.length 0
   simp only [dI] at T
   have f5:jW E (D.int .i64 0)=.int .i64 0:=rfl
   simp only [iS,g9,jD,hd,f5]
   rw [hx]
   refine hQ _ O (λj u o=>?_) ?_
   .rw [Ba _ _ j (λhm=>o (T _ hm)),M];simp [go_sem,(aD:j≠R)];exact a7 j u o
   .rw [(wP _ E).2,M];simp [go_sem];exact c5
theorem JB {l:List Int}(hn:l.Nodup){p:Nat}(hp:p<l.length):∀ n,n<=l.length->gA l n l[p]=if p<n then (p:Int) else -1
 | 0,_=>rfl
 | n+1,h=>by
  rw [p8,JB hn hp n aD,aA aD,Option.getD_some]
  by_cases he:n=p
  .subst he;rw [if_pos rfl,if_pos aD]
  .rw [if_neg (λe=>he ((mF hn).1 e))]
   by_cases h2:p<n
   .rw [if_pos h2,if_pos aD]
   .rw [if_neg h2,if_neg aD]
theorem pG {l:List Int}(b:l.Nodup){p:Nat}(a:p<l.length):gA l l.length l[p]=p:=by rw [JB b a _ (bC _),if_pos a]
theorem p9 {l:List Int}{v:Int}(h:v∉l):∀ n,n<=l.length->gA l n v = -1
 | 0,_=>rfl
 | n+1,hl=>by
  rw [p8,p9 h n aD,aA aD,Option.getD_some,if_neg]
  exact λe=>h (e ▸ aC _)
theorem JC {l:List Int}(b:l.Nodup)(v:Int):decide (gA l l.length v<0) = !mem l v:=by
 by_cases h:v∈l
 .obtain ⟨p,a,rfl⟩:=aO h
  rw [pG b a,(mem_iff _ _).2 h];simp
 .rw [p9 h _ (bC _),bH.2 λc=>h ((mem_iff _ _).1 c)];rfl
theorem Kw {l:List Int}(a:l.Nodup)(i:Nat):A1 l i=(bJ l i).length:=by
 unfold A1 bJ
 rw [aV]
 congr 1
 exact List.filter_congr λj _=>JC a j
theorem Da {l:List Int}:∀ (n j:Nat),j<n->mem l j=false->(bJ l n)[(bJ l j).length]?=some (j:Int)
 | n+1,j,hj,hm=>by
  rw [o7]
  by_cases h:j=n
  .subst h
   rw [if_neg (by rw [hm];simp),aZ (bC _)];simp
  .have:=Da n j aD hm
   rw [aS (aM.1 this).1];exact this
theorem qC {l:List Int}(h:l.Pairwise (· < ·)):l.Nodup:=h.imp λh=>by omega
structure StepIn (t:Types) (r:Rule) (h:Host) (m:Mat):Prop where
 hR:RuleV t r
 ho:HostOk t h
 hm:MOk t r.left.graph h.graph m.m
 hc:rG (l4 r.left.graph h.graph m.m) h.graph r.keep m.m=0
section
variable {t:Types} {r:Rule} {h:Host} {m:Mat}
theorem N5 (c:RuleV t r)(b:HostOk t h)(a:q6 t r h m=0):StepIn t r h m:=by
 unfold q6 at a
 split at a
 .cases a
 .rename_i h1
  split at a
  .exact absurd a (by assumption)
  .split at a
   .cases a
   .exact ⟨c,b,sI (r4 (bX h1)).2,a⟩
theorem StepIn.rest (S:StepIn t r h m):bV r h m=⟨bJ (jX m.m.nodes r.keep.nodes) h.graph.nodes.length,bJ (jX m.m.edges r.keep.edges) h.graph.edges.length⟩:=by unfold bV sP;rw [if_pos S.hc]
theorem StepIn.sub (S:StepIn t r h m):subF h.graph (bV r h m)=0:=TZ S.hc
theorem StepIn.nasc (S:StepIn t r h m):(bV r h m).nodes.Pairwise (· < ·):=by rw [S.rest];exact oC _ _
theorem StepIn.easc (S:StepIn t r h m):(bV r h m).edges.Pairwise (· < ·):=by rw [S.rest];exact oC _ _
theorem StepIn.nin (S:StepIn t r h m):∀ x∈(bV r h m).nodes,0<=x/\x<h.graph.nodes.length:=(zQ S.sub).2.2.1
theorem StepIn.ein (S:StepIn t r h m):∀ x∈(bV r h m).edges,0<=x/\x<h.graph.edges.length:=(zQ S.sub).2.2.2
theorem StepIn.len (S:StepIn t r h m):(bV r h m).nodes.length<=40/\(bV r h m).edges.length<=80:=by
 have a:=bS S.ho.gg
 have c:=SX S.nasc S.nin
 have b:=SX S.easc S.ein
 omega
theorem StepIn.dup (S:StepIn t r h m):rP m.m.nodes r.keep.nodes=[]/\rP m.m.edges r.keep.edges=[]:=⟨(Fc S.hc).2.2.1,(Fc S.hc).2.2.2.1⟩
theorem StepIn.keptN (S:StepIn t r h m){k:Int}(a:k∈r.keep.nodes):iA m.m.nodes k∈(bV r h m).nodes:=by
 have c:=S.hR.keep
 have g:=S.hm.len
 have b:=c.2.1 k a
 have f:=vH S.dup.1 b.1 aD a
 rw [S.rest]
 have d:=(S.hm.img k.toNat aD aD).1
 have e:iA m.m.nodes k=m.m.nodes[k.toNat]' aD:=by unfold iA;rw [aA aD];rfl
 exact gW.2 ⟨by rw [e];exact d,f⟩
theorem StepIn.bareN (S:StepIn t r h m):(bZ t r h m).graph.nodes=(bV r h m).nodes.map (gN h.graph)++r.freshN.map (gN r.right.graph):=by
 unfold bZ jQ cY;rw [if_pos S.sub]
theorem StepIn.bareE (S:StepIn t r h m):(bZ t r h m).graph.edges=(bV r h m).edges.map (gEd h.graph (bV r h m))++r.freshE.map (λk=>freshE (eY r h m) (r.right.graph.edges[k.toNat]?.getD cF)):=by
 unfold bZ jQ cY;rw [if_pos S.sub]
theorem NF:(bZ t r h m).values=(bV r h m).nodes.map (λk=>h.values[k.toNat]?.getD [])++r.freshN.map (λk=>l9 t (gN r.right.graph k)):=rfl
theorem StepIn.intoN (S:StepIn t r h m):r.into.nodes.Nodup/\r.into.edges.Nodup:=by
 have:=S.hR.inj
 unfold Gy at this
 simp only [aQ,decide_eq_true_eq] at this
 exact this.2
theorem StepIn.kept_type (S:StepIn t r h m){p:Nat}(c:p<r.into.nodes.length)(b:p<r.keep.nodes.length):gN r.right.graph r.into.nodes[p]=gN r.left.graph r.keep.nodes[p]:=by
 have d:(cY r.left.graph r.keep).nodes.length=r.keep.nodes.length:=by unfold cY;rw [if_pos S.hR.sub];simp
 have a:=(OF S.hR.mo (i:=(p:Int)) aD aD).2
 rw [KQ S.hR.sub aD aD] at a
 simpa [iA,aA c,aA b] using a
theorem StepIn.com (S:StepIn t r h m){i:Nat}(o:i<r.right.graph.nodes.length):∃ n:Nat,(eY r h m).nodes[i]?=some (n:Int)/\∃ hn:n<(bZ t r h m).graph.nodes.length,wT t r.right.graph.nodes[i] ((bZ t r h m).graph.nodes[n])=true:=by
 obtain ⟨K,A,J,I,H⟩:=S.hR.keep
 have E:=S.hm.len
 have k:=S.intoN.1
 have z:(eY r h m).nodes[i]?=some (G2 r.keep.nodes r.into.nodes (oQ m.m.nodes (cO r h m).nodes) (bV r h m).nodes.length i):=by
  unfold eY CQ;simp [o]
 rw [z]
 have u:=S.bareN
 have w:=nP S.hR.vf
 have D:=(n8 S.hR.gr S.hR.tr).1 _ (aC o)
 by_cases hm:(i:Int)∈r.into.nodes
 .obtain ⟨p,B,C⟩:=aO hm
  have s:p<r.keep.nodes.length:=aD
  have G:=A _ (aC s)
  have d:r.keep.nodes[p].toNat<m.m.nodes.length:=aD
  have L:=S.keptN (aC s)
  obtain ⟨n,hn,g⟩:=aO L
  have M:=S.nin _ (aC hn)
  have l:iA m.m.nodes r.keep.nodes[p]=m.m.nodes[r.keep.nodes[p].toNat]:=by unfold iA;rw [aA d];rfl
  have e:G2 r.keep.nodes r.into.nodes (oQ m.m.nodes (cO r h m).nodes) (bV r h m).nodes.length i=n:=by
   unfold G2
   rw [<- C,pG k B,if_pos aD]
   rw [(aD:(p:Int).toNat=p),aA s,Option.getD_some]
   unfold oQ cO nF
   rw [aN,aA d,dQ,Option.getD_some]
   rw [<- l,<- g]
   simp only
   rw [oH _ aD,Option.getD_some,show (((bV r h m).nodes[n].toNat:Nat):Int)=(bV r h m).nodes[n] by omega,pG (qC S.nasc) hn]
  refine ⟨n,by rw [e],by rw [u];simp;omega,?_⟩
  have c:=S.kept_type B s
  rw [C] at c
  have x:gN r.right.graph (i:Int)=r.right.graph.nodes[i]:=by simp [gN,aA o]
  have j:r.keep.nodes[p].toNat<r.left.graph.nodes.length:=aD
  have y:gN r.left.graph r.keep.nodes[p]=r.left.graph.nodes[r.keep.nodes[p].toNat]:=by simp [gN,aA j]
  rw [x,y] at c
  rw [c]
  have q:=(S.hm.img _ d j).2
  have v:(bZ t r h m).graph.nodes[n]?=some (h.graph.nodes[(m.m.nodes[r.keep.nodes[p].toNat]).toNat]?.getD 0):=by
   rw [u,aS (bX hn),aN,aA hn,dQ,g,l];rfl
  obtain ⟨_,b⟩:=aM.1 v
  rw [b];exact q
 .have hmf:mem r.into.nodes i=false:=bH.2 λh=>hm ((mem_iff _ _).1 h)
  have e:G2 r.keep.nodes r.into.nodes (oQ m.m.nodes (cO r h m).nodes) (bV r h m).nodes.length i=(((bV r h m).nodes.length+(bJ r.into.nodes i).length:Nat):Int):=by
   unfold G2
   rw [if_neg (by rw [p9 hm _ (bC _)];omega),Kw k]
  have f:=Da r.right.graph.nodes.length i o hmf
  have F:(bJ r.into.nodes i).length<r.freshN.length:=(aM.1 f).1
  refine ⟨(bV r h m).nodes.length+(bJ r.into.nodes i).length,by rw [e],by rw [u];simp;omega,?_⟩
  have v:(bZ t r h m).graph.nodes[(bV r h m).nodes.length+(bJ r.into.nodes i).length]?=some r.right.graph.nodes[i]:=by
   rw [u,aZ bW,aV,uT,aN]
   have:r.freshN[(bJ r.into.nodes i).length]?=some (i:Int):=f
   rw [this];simp [gN,aA o]
  obtain ⟨_,b⟩:=aM.1 v
  rw [b]
  unfold wT
  have:=Q9 w (a:=(r.right.graph.nodes[i]).toNat) aD
  rw [show (((r.right.graph.nodes[i]).toNat:Nat):Int)=r.right.graph.nodes[i] by omega] at this
  exact this
theorem StepIn.vlen (S:StepIn t r h m):(bZ t r h m).values.length=(bZ t r h m).graph.nodes.length:=by rw [S.bareN,NF];simp
theorem Sk {k:Int}(b:(b9 t).2=0)(f:0<=k)(e:k<t.nodes.length)(c:xD t k.toNat=false):iC t k (l9 t k)=0:=by
 unfold iC
 rw [if_neg aD,if_neg (by rw [c];simp),if_neg (by simp [l9])]
 refine p5 _ _ λj _ d=>?_
 have a:j<(bM t k).length:=aD
 unfold Cb l9
 rw [aN,aA a,dQ,Option.getD_some,Option.getD_some,if_neg]
 have:=(CE b k _ (aC a)).le
 omega
theorem StepIn.fresh_node (S:StepIn t r h m):∀ k∈r.freshN,(0<=gN r.right.graph k/\gN r.right.graph k<t.nodes.length)/\xD t (gN r.right.graph k).toNat=false:=λk hk=>by
 have hr:=lR hk
 have hin:=(n8 S.hR.gr S.hR.tr).1 _ (Sy hr.1 hr.2)
 refine ⟨hin,?_⟩
 have:=S.hR.mkb
 unfold yU at this
 rw [aQ,c9,xI] at this
 have h1:=this.1 k hk
 unfold absB at h1
 unfold xD
 rw [aA (aD:(gN r.right.graph k).toNat<t.nodes.length)] at h1 ⊢
 simpa using h1
theorem StepIn.node (S:StepIn t r h m):∀ (n:Nat) (h1:n<(bZ t r h m).graph.nodes.length) (h2:n<(bZ t r h m).values.length),iC t (bZ t r h m).graph.nodes[n] (bZ t r h m).values[n]=0:=λn h1 h2=>by
 have e1:=S.bareN
 have e2:(bZ t r h m).values=_:=NF
 have g1:(bZ t r h m).graph.nodes[n]?=some (bZ t r h m).graph.nodes[n]:=aA h1
 have g2:(bZ t r h m).values[n]?=some (bZ t r h m).values[n]:=aA h2
 generalize (bZ t r h m).graph.nodes[n]=x at *
 generalize (bZ t r h m).values[n]=y at *
 rw [e1] at g1;rw [e2] at g2
 by_cases hn:n<(bV r h m).nodes.length
 .rw [aS (bX hn),aN,aA hn] at g1 g2
  simp only [dQ,bF] at g1 g2
  have hv:=S.nin _ (aC hn)
  have hl:=S.ho.vl
  have a1:(bV r h m).nodes[n].toNat<h.graph.nodes.length:=aD
  have a2:(bV r h m).nodes[n].toNat<h.values.length:=aD
  rw [aA a2] at g2
  unfold gN at g1
  rw [aA a1] at g1
  have:=S.ho.nd _ a1 a2
  rw [<- g1,<- g2];exact this
 .have l1:((bV r h m).nodes.map (gN h.graph)).length=(bV r h m).nodes.length:=bW
  have l2:((bV r h m).nodes.map λk=>h.values[k.toNat]?.getD []).length=(bV r h m).nodes.length:=bW
  rw [aZ aD,l1,aN,bR] at g1
  rw [aZ aD,l2,aN,bR] at g2
  obtain ⟨k,hk,rfl⟩:=g1
  obtain ⟨k',hk',rfl⟩:=g2
  rw [hk] at hk';cases hk'
  obtain ⟨⟨b1,b2⟩,b3⟩:=S.fresh_node k (aK hk)
  exact Sk S.hR.vf b1 b2 b3
theorem StepIn.bin (S:StepIn t r h m):∀ a∈(bZ t r h m).graph.nodes,0<=a/\a<t.nodes.length:=λa ha=>by
 rw [S.bareN,aW,bB,bB] at ha
 rcases ha with ⟨k,hk,rfl⟩|⟨k,hk,rfl⟩
 .exact D9 S.ho _ (Sy (S.nin k hk).1 (S.nin k hk).2)
 .exact (S.fresh_node k hk).1
theorem StepIn.put (S:StepIn t r h m):PutOk t r (bZ t r h m) (eY r h m):=by
 have v:=S.len
 have w:=bS S.hR.gr
 have q:r.freshN.length<=r.right.graph.nodes.length:=lS _ _
 have p:r.freshE.length<=r.right.graph.edges.length:=lS _ _
 have y:(bZ t r h m).graph.nodes.length<=80:=by rw [S.bareN];simp;omega
 have z:(bZ t r h m).graph.edges.length<=160:=by rw [S.bareE];simp;omega
 have x:=S.vlen
 have d:∀ s∈r.right.slots,∃ n:Nat,(eY r h m).nodes[s.node.toNat]?=some (n:Int)/\∃ a:n<(bZ t r h m).graph.nodes.length,s.attr<(bM t (bZ t r h m).graph.nodes[n]).length:=λs e=>by
  obtain ⟨⟨C,B⟩,l,A⟩:=S.hR.slots s e
  have k:s.node.toNat<r.right.graph.nodes.length:=aD
  obtain ⟨n,c,a,g⟩:=S.com k
  refine ⟨n,c,a,?_⟩
  rw [aA k,Option.getD_some] at l
  have b:=(n8 S.hR.gr S.hR.tr).1 _ (aC k)
  have i:=(sN (S.node n a aD)).1
  have j:=(S.bin _ (aC a)).1
  rw [r5 S.hR.vf b.1 b.2] at l
  rw [r5 S.hR.vf j i]
  unfold wT at g
  obtain ⟨u,o⟩:=JD (nP S.hR.vf) ((bZ t r h m).graph.nodes[n]).toNat aD (r.right.graph.nodes[s.node.toNat]).toNat (by rw [Int.toNat_of_nonneg b.1];exact g)
  rw [o,aL];omega
 refine ⟨by simp [eY,CQ],⟨aD,aD,aD⟩,λs e=>?_,λs e=>?_⟩
 .obtain ⟨n,c,a,g⟩:=d s e
  have:fI (eY r h m) s=n:=by unfold fI;rw [c];simp
  rw [this,c]
  exact ⟨by simp,aD,a⟩
 .obtain ⟨n,c,a,g⟩:=d s e
  have:fI (eY r h m) s=n:=by unfold fI;rw [c];simp
  have f:n<(bZ t r h m).values.length:=aD
  rw [this,aA f,aA a,Option.getD_some,Option.getD_some]
  have:=(sN (S.node n a f)).2.2.1
  exact ⟨aD,g⟩
end
def nZ:Pattern:=⟨⟨[],[]⟩,[],0,[]⟩
def jN:Rule:=⟨⟨#[]⟩,nZ,nZ,⟨[],[]⟩,⟨[],[]⟩,false,.mk 0 [] ⟨[],[]⟩ nZ⟩
def kJ:Stp26:=⟨jN,iO,⟨⟨[],[]⟩,[]⟩,⟨⟨[],[]⟩,[]⟩,⟨[],[]⟩,⟨[],[]⟩⟩
def fU (t:Types)(r:Rule)(h:Host)(m:Mat):Stp26:=if nT t r h m=0 then bG t r h m else kJ
@[go_sem] theorem Stp26.cl (s:Stp26):D.clL s.c=true:=by
 simp [Stp26.c,Bl,Rule.cl,Mat.cl,NM,D.clL,pD]
def s8 (a k:Nat):List Nat:=(List.range k).map (· + a)
theorem vG {a k j:Nat}:j∈s8 a k↔a<=j/\j<a+k:=by
 simp only [s8,bB,bK]
 constructor
 .rintro ⟨i,b,rfl⟩;omega
 .rintro ⟨b,c⟩;exact ⟨j - a,aD,aD⟩
theorem MW (a k:Nat):(s8 a k).length=k:=by simp [s8]
theorem A6 (a k:Nat):(s8 a k).Nodup:=by
 unfold s8
 exact List.Pairwise.map (· + a) (λx y h=>by simp only [ne_eq] at h ⊢;omega) List.nodup_range
theorem Sr (k f:Nat):(0 :: 1 :: 2 :: (s8 3 k++s8 (3+k) f)).Nodup:=by
 simp only [g5,aU,aW,vG,nM]
 exact ⟨aD,aD,aD,A6 _ _,A6 _ _,λx b y a=>by omega⟩
theorem PW {k f j:Nat}(h:j∈0 :: 1 :: 2 :: (s8 3 k++s8 (3+k) f)):j<3+k+f:=by
 simp only [aU,aW,vG] at h;omega
theorem Sq (k:Nat):(0 :: 1 :: 2 :: s8 3 k).Nodup:=by
 simp only [g5,aU,vG]
 exact ⟨aD,aD,aD,A6 _ _⟩
theorem GF {k j:Nat}(h:j∈0 :: 1 :: 2 :: s8 3 k):j<3+k:=by
 simp only [aU,vG] at h;omega
theorem OV {t:Types}{r:Rule}{h:Host}(b:r.ok)(a:iJ t r h=0):RuleV t r/\HostOk t h:=by
 unfold iJ at a
 split at a
 .exact absurd a (by assumption)
 .rename_i h1;exact ⟨Pz b (bX h1),sM a⟩
theorem QW {t:Types}{r:Rule}{h:Host}{m:Mat}(a:lQ t r h m=0):q6 t r h m=0:=by
 unfold lQ at a
 split at a
 .exact absurd a (by assumption)
 .rename_i h1;simpa using h1
section
variable {t:Types} {r:Rule} {h:Host} {m:Mat}
theorem StepIn.ex (S:StepIn t r h m)(hh:iG t h=0):Tc t h (bV r h m)=⟨cY h.graph (bV r h m),(bV r h m).nodes.map λk=>h.values[k.toNat]?.getD []⟩:=by
 unfold Tc;rw [if_pos]
 unfold Vz;rw [if_neg aD];exact S.sub
theorem StepIn.eimg (S:StepIn t r h m):(∀ x∈m.m.nodes,0<=x/\x<h.graph.nodes.length)/\∀ x∈m.m.edges,0<=x/\x<h.graph.edges.length:=by
 refine ⟨λx a=>?_,λx a=>?_⟩
 .obtain ⟨i,b,rfl⟩:=aO a
  exact (S.hm.img i b (by have:=S.hm.len;omega)).1
 .obtain ⟨i,b,rfl⟩:=aO a
  exact S.hm.eimg i b
end
theorem I8 {t:Types}{r:Rule}{h:Host}{m:Mat}(S:StepIn t r h m)(a:q6 t r h m=0):MatOk t r.left h m:=by
 unfold q6 at a
 split at a
 .cases a
 .split at a
  .exact absurd a (by assumption)
  .rename_i h2
   split at a
   .cases a
   .rename_i h3
    rw [jU] at h2 h3
    obtain ⟨_,_,_,d⟩:=Iy h2
    rw [d] at h2 h3
    obtain ⟨c,b⟩:=AR (US S.hR.pl S.ho S.hm) (vs:=[]) bW bW h2
    rw [h3] at c b
    exact ⟨S.hm,c,b⟩
theorem LW (t:Types)(ht:t.ok)(r:Rule)(hr:r.ok)(h:Host)(m:Mat):Pure Tryz.prog 16 [t.d,r.d,h.d,m.d] (.tup [.agg (fU t r h m).c,dI (nT t r h m)]):=by
 refine PH (by first|rfl|(simp [go_sem];done)) (fun Q hQ=>ACalls.bump 100 (aJ (cfg:=⟨fun t=>t==8||t==11||t==13||t==14||t==15||t==16||t==95||t==97,fun r=>match r with|8=>[(5,6),(5,7),(5,8),(5,9),(5,10),(0,13),(1,13),(2,13),(3,13),(4,13),(5,13),(6,13),(7,13),(8,13),(9,13),(10,13),(11,13)]|9=>[(16,17),(16,18),(16,19),(16,20),(16,21),(16,22),(16,23),(16,24),(16,25),(16,26),(16,27),(16,28),(16,29),(16,30),(16,31),(16,32),(0,35),(1,35),(2,35),(3,35),(4,35),(5,35),(6,35),(7,35),(8,35),(9,35),(10,35),(11,35),(12,35),(13,35),(14,35),(15,35),(16,35),(17,35),(18,35),(19,35),(20,35),(21,35),(22,35),(23,35),(24,35),(25,35),(26,35),(27,35),(28,35),(29,35),(30,35),(31,35),(32,35),(33,35)]|10=>[(0,3),(1,3),(3,4)]|_=>[]⟩) Tz.mixed Tryz.func16 rfl rfl (aF rfl) (by kernel_rfl) ?_))
 have Y:=wa @Host.d.eq_1 (wa @Host.c.eq_1 (wa @Mat.d.eq_1 (wa @Mat.c.eq_1 (wa @pH (wa @sX (wa @JF @Hh))))))
 refine wv (h:=aB (LV t ht r hr h) wl ?_)
 refine dP (fun h2=>?_) fun h2=>?_
 ·have hA:nT t r h m=iJ t r h:=by unfold nT;rw [if_pos h2]
  have hV:fU t r h m=kJ:=by unfold fU;rw [if_neg (by omega)]
  exact wv (h:=hQ _ _ (by simp [go_sem,hA,hV,kJ,jN,nZ,iO,Stp26.c,Rule.c,Mat.c,Host.c,Cond.kind,Cond.kids,Cond.map,Cond.pattern,dLI,dI]))
 ·obtain ⟨hR,ho⟩:=OV hr h2
  have hh0:iG t h=0:=by unfold iJ at h2;split at h2;exact absurd h2 (by assumption);exact h2
  have hA0:nT t r h m=k8 t r h m:=by unfold nT;rw [if_neg (by omega)]
  refine wv (h:=aB (FS t ht r hR h ho m) wl ?_)
  refine dP (fun h5=>?_) fun h5=>?_
  ·have hA:nT t r h m=lQ t r h m:=by rw [hA0];unfold k8;rw [if_pos h5]
   have hV:fU t r h m=kJ:=by unfold fU;rw [if_neg (by omega)]
   exact wv (h:=hQ _ _ (by simp [go_sem,hA,hV,kJ,jN,nZ,iO,Stp26.c,Rule.c,Mat.c,Host.c,Cond.kind,Cond.kids,Cond.map,Cond.pattern,dLI,dI]))
  ·have hpre:=QW (show lQ t r h m=0 by omega)
   have S:=N5 hR ho hpre
   have hP:u9 t r h m=bV r h m:=by unfold u9;rw [if_pos hpre]
   have hX:=S.ex hh0
   obtain ⟨x0,hx0⟩:∃ x0:Host,x0=⟨cY h.graph (bV r h m),(bV r h m).nodes.map fun k=>h.values[k.toNat]?.getD []⟩:=⟨_,rfl⟩
   rw [← hx0] at hX
   obtain ⟨tr,htr⟩:∃ tr,tr=cO r h m:=⟨_,rfl⟩
   have hT1:lM (bV r h m).nodes h.graph.nodes.length=tr.nodes:=by rw [htr];rfl
   have hT2:lM (bV r h m).edges h.graph.edges.length=tr.edges:=by rw [htr];rfl
   have htl1:tr.nodes.length=h.graph.nodes.length:=by rw [← hT1,lL]
   have htl2:tr.edges.length=h.graph.edges.length:=by rw [← hT2,lL]
   obtain ⟨hin1,hin2⟩:=S.eimg
   have hK:=hR.keep
   have hml:=S.hm.len
   have hmel:=S.hm.elen
   have hal1:(oQ m.m.nodes tr.nodes).length=m.m.nodes.length:=by simp [oQ]
   have hal2:(oQ m.m.edges tr.edges).length=m.m.edges.length:=by simp [oQ]
   obtain ⟨cm,hcm⟩:∃ cm,cm=eY r h m:=⟨_,rfl⟩
   have hC1:CQ r.keep.nodes r.into.nodes (oQ m.m.nodes tr.nodes) r.right.graph.nodes.length (bV r h m).nodes.length=cm.nodes:=by rw [hcm,htr];rfl
   have hC2:CQ r.keep.edges r.into.edges (oQ m.m.edges tr.edges) r.right.graph.edges.length (bV r h m).edges.length=cm.edges:=by rw [hcm,htr];rfl
   have hgl:=bS hR.pl.gg
   have hgr:=bS hR.gr
   have hgh:=bS ho.gg
   have hdl:=S.len
   have hxv:x0.values.length=(bV r h m).nodes.length:=by rw [hx0];simp
   have hxn:x0.graph.nodes.length=(bV r h m).nodes.length:=by rw [hx0];unfold cY;rw [if_pos S.sub];simp
   have hxe:x0.graph.edges.length=(bV r h m).edges.length:=by rw [hx0];unfold cY;rw [if_pos S.sub];simp
   have hxr:∀ v∈x0.values,v.length≤8:=fun v hv=>by
    rw [hx0,bB] at hv
    obtain ⟨k,hk,rfl⟩:=hv
    have hkr:=S.nin k hk
    have hvl:=ho.vl
    rw [aA (show k.toNat<h.values.length by omega),Option.getD_some]
    exact (ho.row _ (aC _)).1
   have hcl:cm.nodes.length=r.right.graph.nodes.length:=by rw [hcm];simp [eY,CQ]
   have hB:jQ t r cm x0=bZ t r h m:=by rw [hcm,hx0];rfl
   have hfl:r.freshN.length≤40:=fC (lS _ _) hgr.1
   have hMat:=I8 S hpre
   have hvl:=hMat.vl
   have hvs:Sm m.vars:=fun v hv=>by have:=hMat.vs v hv;omega
   have Y:=wa Y (wa hP (wa @Part.d.eq_1 (wa @Part.c.eq_1 (wa hX (wa hT1 (wa hT2 (wa hC1 hC2)))))))
   refine wv (h:=aB (HM t ht h (bV r h m) (by omega) (by omega) (by omega) (by omega)) wl ?_)
   refine wv (h:=aI (yH m.m.nodes tr.nodes (by omega) (fun x hx=>by have:=hin1 x hx;omega)) wl ?_)
   refine wv (h:=aI (yH m.m.edges tr.edges (by omega) (fun x hx=>by have:=hin2 x hx;omega)) wl ?_)
   refine wp (h:=aI (AE r.keep.nodes r.into.nodes (oQ m.m.nodes tr.nodes) r.right.graph.nodes.length (bV r h m).nodes.length (by omega) (fun x hx=>by have:=hK.2.1 x hx;rw [hal1];omega) (by omega) (by omega)) wl ?_)
   refine wp (h:=aI (AE r.keep.edges r.into.edges (oQ m.m.edges tr.edges) r.right.graph.edges.length (bV r h m).edges.length (by omega) (fun x hx=>by have:=hK.2.2.1 x hx;rw [hal2];omega) (by omega) (by omega)) wl ?_)
   refine wp (h:=?_)
   refine Ia x0 (by omega) (by omega) (by omega) (fun v hv=>by have:=hxr v hv;omega) 0 1 2 (s8 3 x0.values.length) (MW _ _) (Sq _) (by simp [go_sem]) (fun j hj=>?_) rfl ?_ (fun E hE1 hE2 hE3 hE4=>?_)
   ·have hj2:=GF hj
    refine ⟨by omega,?_⟩
    simp [go_sem,pH,sX,JF,Hh];omega
   ·intro q hq hs x hx
    simp at hq
    rcases hq with rfl|rfl|rfl<;>simp at hs hx
   have hno:∀ j,100≤j→j∉0 :: 1 :: 2 :: s8 3 x0.values.length:=fun j hj hm=>by have:=GF hm;omega
   have hno2:∀ j,100≤j→j∉0 :: 1 :: 2 :: (s8 3 x0.values.length++s8 (3+x0.values.length) r.freshN.length):=fun j hj hm=>by have:=PW hm;omega
   have g100:=hE2 100 (hno _ (by omega))
   have g102:=hE2 102 (hno _ (by omega))
   have g103:=hE2 103 (hno _ (by omega))
   have g154:=hE2 154 (hno _ (by omega))
   simp [go_sem] at g100 g102 g103 g154 hE4
   have hal:∀ j,j<100→E.al j→j∈0 :: 1 :: 2 :: s8 3 x0.values.length:=fun j hj hA=>by
    rcases (hE3 j).1 hA with h|h
    ·simp [go_sem,pH,sX,JF,Hh] at h;omega
    ·exact h
   have n154:∀ (a:Nat),a∈s8 3 x0.values.length→¬ a=154:=fun a hm=>by rw [vG] at hm;omega
   have Y:=wa Y (wa g100 (wa g102 (wa g103 g154)))
   refine wp (h:=?_)
   refine Nf t ht r hR x0 cm hcl (by omega) 0 0 1 2 (s8 3 x0.values.length) (s8 (3+x0.values.length) r.freshN.length) hE1 (by rw [MW]) (Sr _ _) (by rw [hE4];omega) (fun j hj=>?_) rfl ?_ (fun F hF1 hF2 hF3 hF4=>?_)
   ·rw [vG] at hj
    refine ⟨by omega,fun hA=>?_⟩
    have:=GF (hal j (by omega) hA)
    omega
   ·intro q hq hs x hx
    simp at hs
   rw [hB] at hF1 ⊢
   rw [hE4] at hF4
   have f100:=hF2 100 (hno2 _ (by omega))
   have f102:=hF2 102 (hno2 _ (by omega))
   have f103:=hF2 103 (hno2 _ (by omega))
   have f154:=hF2 154 (hno2 _ (by omega))
   rw [g100] at f100
   rw [g102] at f102
   rw [g103] at f103
   rw [g154] at f154
   have Y:=wa Y (wa f100 (wa f102 (wa f103 f154)))
   refine wp (h:=?_)
   unfold fL
   refine Ol t ht r hR (bZ t r h m) cm (hcm ▸ S.put) m.vars hvl hvs _ 0 0 1 2 (s8 3 x0.values.length++s8 (3+x0.values.length) r.freshN.length) (hF1.same (by simp [go_sem]) (fun j hj=>by have:=PW hj;simp [go_sem,show j≠102 by omega])) _ (fun H4 e1 e2 e3=>?_) (fun H4 e1 e2 e3=>?_)
   ·have k100:=e2 100 (by simp [go_sem];omega) (hno2 _ (by omega))
    have k102:=e2 102 (by simp [go_sem];omega) (hno2 _ (by omega))
    simp [go_sem,f100] at k100 k102
    have hA:nT t r h m=s7 t (bZ t r h m).graph cm m.vars r.right.slots:=by rw [hA0];unfold k8;rw [if_neg (by omega),← hcm,if_pos e1]
    have hV:fU t r h m=kJ:=by unfold fU;rw [if_neg (by omega)]
    simp [go_sem,seval,k100,k102]
    refine aP (fun hc=>?_) (fun hc=>absurd (by simpa using hc) e1)
    simp [go_sem,seval,k100,k102]
    exact hQ _ _ (by first|(left;(simp [go_sem,hA,hV,kJ,jN,nZ,iO,Stp26.c,Rule.c,Mat.c,Host.c,Cond.kind,Cond.kids,Cond.map,Cond.pattern,dLI,dI]);done)|(right;(simp [go_sem,hA,hV,kJ,jN,nZ,iO,Stp26.c,Rule.c,Mat.c,Host.c,Cond.kind,Cond.kids,Cond.map,Cond.pattern,dLI,dI]);done))
   have k100:=e2 100 (by simp [go_sem];omega) (hno2 _ (by omega))
   have k102:=e2 102 (by simp [go_sem];omega) (hno2 _ (by omega))
   have k103:=e2 103 (by simp [go_sem];omega) (hno2 _ (by omega))
   have k154:=e2 154 (by simp [go_sem];omega) (hno2 _ (by omega))
   simp [go_sem,f100,f102,f103,f154] at k100 k102 k103 k154
   have Y:=wa Y (wa k100 (wa k102 (wa k103 k154)))
   refine rT (fun h14=>?_) fun h14=>?_
   ·have hA:nT t r h m=3:=by
     rw [hA0];unfold k8;rw [if_neg (by omega),← hcm,if_neg (by omega),if_pos (by omega)]
    have hV:fU t r h m=kJ:=by unfold fU;rw [if_neg (by omega)]
    exact wv (h:=hQ _ _ (by simp [go_sem,hA,hV,kJ,jN,nZ,iO,Stp26.c,Rule.c,Mat.c,Host.c,Cond.kind,Cond.kids,Cond.map,Cond.pattern,dLI,dI]))
   ·have hA:nT t r h m=0:=by
     rw [hA0];unfold k8;rw [if_neg (by omega),← hcm,if_neg (by omega),if_neg (by omega)]
    have hV:fU t r h m=bG t r h m:=by unfold fU;rw [if_pos hA]
    have hW:cT t r h m=⟨(bZ t r h m).graph,uE cm m.vars r.right.slots (bZ t r h m).values⟩:=by rw [hcm];rfl
    exact wv (h:=hQ _ _ (by simp [go_sem,hA,hV,bG,Stp26.c,Mat.c,Host.c,hW,← htr,← hcm]))
end Go.Abs
end
section
namespace Go.Abs
open Go.ChangeShapes Go.WideShapes Go.RowKit
structure Bulk {H:Type} (bulk:DataW H->Nat):Prop where
 len:∀ e s,e.length<=bulk (.slice e s)
 el:∀ e s,∀ d∈e,bulk d<=bulk (.slice e s)
 part:∀ l,∀ d∈l,bulk d<=bulk (.agg l)
 str:∀ s:List UInt8,s.length<=bulk (.lit (.string s))
abbrev PR:Nat->Prop:=λ_=>False
section
variable {H:Type} {enc:TypeId × Value→H} {P:Program} {w:World} {base:Nat} {spare:Nat→Bool} {held:Bool} {bulk:DataW H→Nat} {B:Nat}
def Opens (enc:TypeId × Value->H)(P:Program)(w:World)(base:Nat)(spare:Nat->Bool)(held:Bool)(bulk:DataW H->Nat)(B:Nat)(n:Nat)(t:TypeId){α:Type}(C:α->List D)(G:α->Prop):Prop :=
 ∀ (fuel:Nat) (cs:List Value) (x:DataW H × List MemPlace),fuel<=n->DataW.trod enc P w base spare held fuel t cs=some x->bulk x.1<=B ->
  ∃ a,G a/\RepL PR iN rJ w cs (C a)/\∀ u∈cs,u.oneCell'=true
variable {n:Nat} {t:TypeId}
theorem Opens.mono {α:Type}{C:α->List D}{G:α->Prop}{m:Nat}(h:Opens enc P w base spare held bulk B n t C G)(hm:m<=n):Opens enc P w base spare held bulk B m t C G :=
 λfuel cs x hf hx hb=>h fuel cs x (fC hf hm) hx hb
theorem Opens.zero {α:Type}{C:α->List D}{G:α->Prop}:Opens enc P w base spare held bulk B 0 t C G:=λfuel cs x hf hx _=>by
 have:fuel=0:=aD
 subst this
 simp [DataW.trod] at hx
theorem Opens.map {α β:Type}{C:α->List D}{G:α->Prop}{C':β->List D}{G':β->Prop}(h:Opens enc P w base spare held bulk B n t C G)(f:α->β)(hC:∀ a,C a=C' (f a))(hG:∀ a,G a->G' (f a)):Opens enc P w base spare held bulk B n t C' G' :=
 λfuel cs x hf hx hb=>by
  obtain ⟨a,h1,h2,h3⟩:=h fuel cs x hf hx hb
  exact ⟨f a,hG a h1,by rw [<- hC];exact h2,h3⟩
theorem sC {v:Value}{d:D}(h:RepV PR iN rJ w v d):RepL PR iN rJ w [v] [d] :=
 ⟨rfl,λj u x hu hx=>by
  cases j with
  | zero=>simp at hu hx;subst hu;subst hx;exact h
  | succ j=>simp at hu⟩
theorem FP {a b:List Value}{c d:List D}(h:RepL PR iN rJ w a c)(k:RepL PR iN rJ w b d):RepL PR iN rJ w (a++b) (c++d):=by
 refine ⟨by simp [h.len,k.len],λj u x f e=>?_⟩
 by_cases g:j<a.length
 .rw [aS g] at f
  rw [aS (by rw [<- h.len];exact g)] at e
  exact h.rep j u x f e
 .rw [aZ aD] at f
  rw [aZ (by rw [<- h.len];omega),<- h.len] at e
  exact k.rep _ u x f e
theorem OE (ht:P.underlying t=some .bool):Opens enc P w base spare held bulk B n t (λb:Bool=>[D.bool b]) (λ_=>True):=λfuel cs x _ hx _=>by
 obtain ⟨b,rfl,_⟩:=DataW.trod_bool ht hx
 exact ⟨b,trivial,sC (.bool b),by simp [Value.oneCell']⟩
theorem IO {k:IntKind}(ht:P.underlying t=some (.int k)):Opens enc P w base spare held bulk B n t (λz:Int=>[D.int k z]) (λz=>(Lit.int k z).wf=true):=λfuel cs x _ hx _=>by
 obtain ⟨z,rfl,_,hw⟩:=DataW.trod_int ht hx
 exact ⟨z,hw,sC (.int k z),by simp [Value.oneCell']⟩
theorem Kt (hB:Bulk bulk)(ht:P.underlying t=some .string):Opens enc P w base spare held bulk B n t (λs:ByteArray=>[D.str s]) (λs=>s.size<=B):=λfuel cs x _ hx hb=>by
 obtain ⟨s,rfl,rfl,hs⟩:=DataW.trod_string ht hx
 refine ⟨s,?_,sC (.str s),by simp [Value.oneCell']⟩
 have:=hB.str s.data.toList
 have hl:s.data.toList.length=s.size:=by rw [fP];rfl
 simp only at hb
 omega
theorem rows {α:Type}{C:α->List D}{G:α->Prop}{ad:Addr}{sz:Nat}:∀ (len:Nat),
  (∀ i,i<len->∃ c a,w.cells? base (ad.add (i * sz)) sz=some c/\G a/\RepL PR iN rJ w c (C a)/\∀ u∈c,u.oneCell'=true) ->
  ∃ (l:List α) (xs:List Value),l.length=len/\(∀ a∈l,G a)/\RepL PR iN rJ w xs (l.map C).flatten/\(∀ u∈xs,u.oneCell'=true)/\xs.length=len * sz /\
   (∀ (j:Nat) (u:Value),xs[j]?=some u->w.cell? (ad.add j)=some u)/\∀ c∈l.map C,c.length=sz
 | 0,_=>⟨[],[],rfl,by simp,⟨rfl,λj u d hu=>by simp at hu⟩,by simp,by simp,by simp,by simp⟩
 | len+1,h=>by
  obtain ⟨l,xs,h1,h2,h3,h4,h5,h6,h7⟩:=rows len λi hi=>h i aD
  obtain ⟨c,a,hc,hg,hr,h1c⟩:=h len aD
  obtain ⟨_,hcl,hcell⟩:=World.cells?_some hc
  refine ⟨l++[a],xs++c,by simp [h1],λb hb=>?_,?_,λu hu=>?_,by rw [aL,h5,hcl,Nat.succ_mul],λj u hu=>?_,λb hb=>?_⟩
  .rcases aW.1 hb with h|h
   .exact h2 b h
   .simp at h;subst h;exact hg
  .rw [List.map_append,lZ]
   refine FP h3 ?_
   simpa using hr
  .rcases aW.1 hu with h|h
   .exact h4 u h
   .exact h1c u h
  .by_cases hj:j<xs.length
   .rw [aS hj] at hu;exact h6 j u hu
   .rw [aZ aD] at hu
    have hlt:j - xs.length<sz:=by rw [<- hcl];exact (aM.1 hu).1
    have:=hcell (j - xs.length) hlt
    rw [Addr.add_add,hu] at this
    rwa [(aD:len * sz+(j - xs.length)=j)] at this
  .rw [List.map_append] at hb
   rcases aW.1 hb with h|h
   .exact h7 b h
   .simp at h;subst h;rw [<- hr.len,hcl]
theorem gX (hB:Bulk bulk){e:TypeId}(ht:P.underlying t=some (.slice e)){α:Type}{C:α->List D}{G:α->Prop}(h:Opens enc P w base spare held bulk B n e C G) :
  Opens enc P w base spare held bulk B (n+1) t (λl:List α=>[.list (l.map C)]) (λl=>l.length<=B/\∀ a∈l,G a):=λfuel cs x hf hx hb=>by
 rcases DataW.trod_slice ht hx with ⟨rfl,rfl⟩|⟨ad,len,cap,elems,rest,m,rfl,rfl,rfl,hbase,hlc,hcap,hlen,hel,_,_⟩
 .exact ⟨[],⟨dY _,by simp⟩,sC .listN,by simp [Value.oneCell']⟩
 .simp only at hb
  have hb1:=hB.len (elems.map (·.1)) (rest.map (·.1))
  rw [aV] at hb1
  obtain ⟨l,xs,h1,h2,h3,h4,h5,h6,h7⟩:=rows (w:=w) (base:=base) (C:=C) (G:=G) (ad:=ad) (sz:=P.cellsOf e) len λi hi=>by
   have:=hel i hi
   rw [aA aD,Option.bind_eq_some_iff] at this
   obtain ⟨c,hc,hd⟩:=this
   obtain ⟨a,g1,g2,g3⟩:=h m c _ aD hd (fC (hB.el _ (rest.map (·.1)) _ (bB.2 ⟨_,aC aD,rfl⟩)) hb)
   exact ⟨c,a,hc,g1,g2,g3⟩
  refine ⟨l,⟨aD,h2⟩,sC ?_,by simp [Value.oneCell']⟩
  have key:=RepV.list (M:=PR) (σ:=iN) (N:=rJ) (w:=w) ad cap (P.cellsOf e) xs (l.map C) (by rw [aV];omega) hcap h7 h3.len h4 (λj u hu=>⟨λh=>h,h6 j u hu⟩) h3.rep
  rw [aV,h1] at key
  exact key
def VT (enc:TypeId × Value->H)(P:Program)(w:World)(base:Nat)(spare:Nat->Bool)(held:Bool)(bulk:DataW H->Nat)(B n:Nat):List TypeId->List Value->Prop
 | [],cs=>cs=[]
 | t :: ts,cs=>(∃ y,DataW.trod enc P w base spare held n t (cs.take (P.cellsOf t))=some y/\bulk y.1<=B)/\VT enc P w base spare held bulk B n ts (cs.drop (P.cellsOf t))
def Le (enc:TypeId × Value->H)(P:Program)(w:World)(base:Nat)(spare:Nat->Bool)(held:Bool)(bulk:DataW H->Nat)(B:Nat)(n:Nat)(ts:List TypeId){α:Type}(C:α->List D)(G:α->Prop):Prop :=
 ∀ (fuel:Nat) (cs:List Value),fuel<=n->VT enc P w base spare held bulk B fuel ts cs->∃ a,G a/\RepL PR iN rJ w cs (C a)/\∀ u∈cs,u.oneCell'=true
theorem fO:Le enc P w base spare held bulk B n [] (λ_:Unit=>[]) (λ_=>True):=λfuel cs _ h=>by
 have h:cs=[]:=h
 subst h
 exact ⟨(),trivial,⟨rfl,λj u d hu=>by simp at hu⟩,by simp⟩
theorem aY {ts:List TypeId}{α β:Type}{C:α->List D}{G:α->Prop}{C':β->List D}{G':β->Prop}(h:Opens enc P w base spare held bulk B n t C G)(k:Le enc P w base spare held bulk B n ts C' G') :
  Le enc P w base spare held bulk B n (t :: ts) (λp:α × β=>C p.1++C' p.2) (λp=>G p.1/\G' p.2):=λfuel cs hf hs=>by
 obtain ⟨⟨y,hy,hyb⟩,hs⟩:=hs
 obtain ⟨a,a1,a2,a3⟩:=h fuel _ y hf hy hyb
 obtain ⟨b,b1,b2,b3⟩:=k fuel _ hf hs
 refine ⟨(a,b),⟨a1,b1⟩,?_,λu hu=>?_⟩
 .have:=FP a2 b2
  rwa [List.take_append_drop] at this
 .rw [<- List.take_append_drop (P.cellsOf t) cs] at hu
  rcases aW.1 hu with h|h
  .exact a3 u h
  .exact b3 u h
def Sa (P:Program):Nat->List Field->Option Nat
 | o,[]=>some o
 | o,f :: r=>if f.offset=o then Sa P (o+P.cellsOf f.type) r else none
theorem Px {fuel:Nat}{cs:List Value}:∀ (fs:List Field) (o:Nat),Sa P o fs=some cs.length ->
  (∀ f∈fs,∃ y,DataW.trod enc P w base spare held fuel f.type ((cs.drop f.offset).take (P.cellsOf f.type))=some y/\bulk y.1<=B)->o<=cs.length/\VT enc P w base spare held bulk B fuel (fs.map (·.type)) (cs.drop o)
 | [],o,ho,_=>by
  simp only [Sa,bF] at ho
  subst ho
  exact ⟨bC _,by show cs.drop cs.length=[];simp⟩
 | f :: fs,o,ho,h=>by
  unfold Sa at ho
  split at ho
  .rename_i hof
   subst hof
   obtain ⟨h1,h2⟩:=Px fs _ ho λg hg=>h g (by simp [hg])
   refine ⟨aD,?_⟩
   refine ⟨h f bW,?_⟩
   rw [List.drop_drop]
   exact h2
  .cases ho
theorem eG (hB:Bulk bulk){fs:Array Field}(ht:P.underlying t=some (.struct fs))(ho:Sa P 0 fs.toList=some (P.cellsOf t)){α:Type}{C:α->List D}{G:α->Prop}(h:Le enc P w base spare held bulk B n (fs.toList.map (·.type)) C G) :
  Opens enc P w base spare held bulk B (n+1) t C G:=λfuel cs x hf hx hb=>by
 obtain ⟨xs,m,rfl,rfl,hcl,hxl,hfl⟩:=DataW.trod_struct ht hx
 simp only at hb
 have hs:=(Px (enc:=enc) (P:=P) (w:=w) (base:=base) (spare:=spare) (held:=held) (bulk:=bulk) (B:=B) (fuel:=m) (cs:=cs) fs.toList 0 (by rw [hcl];exact ho) λf hfm=>by
  obtain ⟨i,hi,rfl⟩:=aO hfm
  have hi':i<fs.size:=by simpa using hi
  have hfi:=hfl i (fs.toList[i]) (by simp [hi'])
  rw [aA aD] at hfi
  exact ⟨_,hfi,fC (hB.part _ _ (bB.2 ⟨_,aC aD,rfl⟩)) hb⟩).2
 rw [List.drop_zero] at hs
 exact h m cs aD hs
theorem Po {r:Reach}{s:Nat}{q:Array Field}{v:Value}{d:DataW H}{i:List MemPlace}{α:Type}{C:α->List D}{G:α->Prop}(j:P.underlying t=some (.struct q))(h:∀ n,Opens enc P w base spare held bulk B n t C G)
  (c:Value.okWide P w r s t v) (l:DataW.Trod enc P w base spare held t v d i) (o:bulk d<=B):∃ a,G a/\RepV PR iN rJ w v (.agg (C a)):=by
 obtain ⟨f,rfl,_⟩:=okWide_struct j c
 obtain ⟨b,k⟩:=l
 obtain ⟨a,p,e,g⟩:=h b b _ _ (bC _) k o
 have m:(Value.agg f).cells.toList=f.toList:=rfl
 rw [m] at e g
 have:=RepV.agg (M:=PR) (σ:=iN) (N:=rJ) (w:=w) f.toList (C a) e.len g e.rep
 exact ⟨a,p,by simpa using this⟩
theorem Rx {r:Reach}{s:Nat}{e:TypeId}{v:Value}{d:DataW H}{g:List MemPlace}{α:Type}{c:α->D}{G:α->Prop}(j:P.underlying t=some (.slice e))(h:∀ n,Opens enc P w base spare held bulk B n t (λa=>[c a]) G)
  (f:Value.okWide P w r s t v) (l:DataW.Trod enc P w base spare held t v d g) (m:bulk d<=B):∃ a,G a/\RepV PR iN rJ w v (c a):=by
 obtain ⟨x,i,q,rfl⟩:=okWide_slice j f
 obtain ⟨b,k⟩:=l
 obtain ⟨a,p,o,u⟩:=h b b _ _ (bC _) k m
 exact ⟨a,p,o.rep 0 _ _ rfl rfl⟩
theorem Au (hl:laidOutB P=true){W W':World}{sp':Nat->Bool}(hb:Below W.heap.size W W'):∀ {ts:List TypeId} {vs:List Value} {ds:List (DataW H)} {ps:List MemPlace},(∀ t∈ts,P.readableRec t=true/\t<P.types.size) ->
  DataW.TrodAll enc P W 0 (λ_=>true) true ts vs ds ps->(∀ x∈ps,x.block<W.heap.size)->(∀ x∈ps,sp' x.block=true)->DataW.TrodAll enc P W' 0 sp' true ts vs ds ps
 | [],_,_,_,_,h,_,_=>by
  obtain ⟨rfl,rfl,rfl⟩:=trodAll_nil h
  rfl
 | t :: ts,_,_,_,hr,h,hlt,hs=>by
  obtain ⟨v,vs,d,ds,p,q,rfl,rfl,rfl,h1,h2⟩:=trodAll_cons h
  refine ⟨p,q,WideElems.Trod_stays hl (hr t bW).1 (hr t bW).2 h1 (λx hx=>hb.same (hlt x (by simp [hx]))) (λx hx=>hs x (by simp [hx])),Au hl hb (λu hu=>hr u (by simp [hu])) h2 (λx hx=>hlt x (by simp [hx])) (λx hx=>hs x (by simp [hx])),rfl⟩
theorem HU (L:laidOutB P=true){f:Func}{s:ChangeSpec}{d n c o:Bool}{W u:World}{args:Array Value}{v:Value}{ds A:List (DataW H)}{e:List MemPlace}
  (K:∀ t∈f.params.toList,P.readableRec t=true/\t<P.types.size) (a:s.vars=[]) (G:DataW.Whole enc P f.params.toList s.vars d W args.toList ds A e)
  (i:∀ (b:Nat) (g:Nat->Bool) (M:Bool),DataW.TrodAll enc P u b g M f.resultTypes.toList (v.resultList f.resultTypes.size) (s.fn H (ds++A)).results [])
  (l:(s.fn H (ds++A)).args=ds) (B:(s.fn H (ds++A)).vars=[]) (D:Below W.heap.size W u)
  (C:∀ (j:Nat) (t:TypeId) (r:Value),f.resultTypes[j]?=some t->(v.resultList f.resultTypes.size)[j]?=some r->Value.okWide P u .any 0 t r) :
  s.post enc P f d n c o W args v u:=by
 have m:=G
 obtain ⟨p,q,N,I,rfl,E,F⟩:=G
 rw [a] at I
 obtain ⟨rfl,rfl⟩:=trodVars_none I
 rw [dE] at m E F
 have k:∀ x∈p,x.block<W.heap.size:=λx h=>by simpa using m.lt x h
 have z:∀ g:Nat->Bool,(∀ x∈p,g x.block=true)->DataW.TrodAll enc P u 0 g true f.params.toList args.toList (s.fn H (ds++[])).args p:=λg J=>by
  rw [l];exact Au L D K N k J
 have y:∀ g:Nat->Bool,DataW.TrodVars enc P u g s.vars (s.fn H (ds++[])).vars []:=λg=>by rw [a,B];rfl
 refine ⟨ds,[],p,[],p,[],m,i _ _ _,z _ (λx h=>by simpa using k x h),y _,World.keptBut_mono (λx h=>⟨h,.inr (bX h)⟩) (D.frame (·∈p)),λ_=>?_⟩
 refine ⟨C,_,_,([]++p)++[],⟨[]++p,[],trodAll_append (z _ (λ_ _=>rfl)) (i _ _ _),y _,rfl,?_,?_⟩,?_⟩
 .intro b off hp
  have w:MemPlace.cell b off∈p:=by simpa using hp
  have:=E b off w
  rw [<- this]
  exact D.frozen (k _ w)
 .intro ha
  simpa using F ha
 .intro x h _
  simpa using h
end
end Go.Abs
end
section
set_option maxRecDepth 100000
set_option maxHeartbeats 4000000
open Go Go.Proofs
namespace Go.Abs
section
variable {H:Type} {enc:TypeId × Value→H} {P:Program} {w:World} {base:Nat} {spare:Nat→Bool} {held:Bool} {bulk:DataW H→Nat} {B:Nat} {n:Nat} {t:TypeId}
end
section
variable {H:Type} {enc:TypeId × Value→H} {w:World} {base:Nat} {spare:Nat→Bool} {held:Bool} {bulk:DataW H→Nat} {B:Nat}
theorem op4:∀ n,Opens enc Tryz.prog w base spare held bulk B n 4 (λb:Bool=>[D.bool b]) (λ_=>True):=λn=>OE Tryz.underlying4
end
theorem Rh (t:Types)(q:t.ok)(a:Int)(y:0<=a)(vs:List Int):Pure Tryz.prog 228 [t.d,dI a,dLI vs] (dI (iC t a vs)):=by
 refine Tz.pK ⟨λt=>t==10,λ_=>[]⟩ Tryz.func228 rfl (λQ i=>?_)
 have Y:=trivial
 refine wv (h:=?_)
 repeat first|intro _|refine ⟨eO,?_⟩
 refine wq (λw=>?_) λw=>?_
 .have hE:iC t a vs=6:=by unfold iC;rw [if_pos aD]
  exact wv (h:=i _ _ (by simp [go_sem,hE]))
 .have hkn:a.toNat<t.nodes.length:=aD
  have u:xD t a.toNat=t.nodes[a.toNat].abs:=by simp [xD,aA hkn]
  have b:iC t a vs=if xD t a.toNat=true then 13 else if vs.length≠(bM t a).length then 20 else bQ (Cb (bM t a) vs) 0 (bM t a).length:=by unfold iC;rw [if_neg aD]
  rw [u] at b
  have Y:=wa Y (wa (aA hkn) @NodeTy.c.eq_1)
  refine wv (h:=?_)
  repeat first|intro _|refine ⟨eO,?_⟩
  refine wq (λn=>?_) λn=>?_
  .rw [if_pos (bX n)] at b
   exact wv (h:=i _ _ (by simp [go_sem,b]))
  .rw [if_neg (bX n)] at b
   refine wv (h:=aB (n7 t q a) wl ?_)
   refine wv (h:=?_)
   repeat first|intro _|refine ⟨eO,?_⟩
   refine wq (λv=>?_) λv=>?_
   .rw [if_pos aD] at b
    exact wv (h:=i _ _ (by simp [go_sem,b]))
   .rw [if_neg aD] at b
    have r:vs.length=(bM t a).length:=aD
    refine wo (h:=bD (λk e H=>(e 3=.adr t.c/\e 2=dLI vs/\e 33=.list ((bM t a).map Attr.c)/\e 34=dI (bM t a).length/\e 35=dI k)/\(k<=(bM t a).length)/\(bQ (Cb (bM t a) vs) k ((bM t a).length - k)=iC t a vs)) (λk=>(bM t a).length - k) 0 ⟨wg,wi,(by exact b.symm)⟩ λz m k e H l=>?_)
    obtain ⟨x,s,p⟩:=l
    have Y:=wa Y x
    refine dP (λj=>?_) λj=>?_
    .have hv:k<vs.length:=aD
     have f:=eI (Cb (bM t a) vs) j
     rw [p] at f
     have g:Cb (bM t a) vs k=if vs[k]<(bM t a)[k].low\/(bM t a)[k].high<vs[k] then 6 else 0:=by simp only [Cb,aA hv,aA j,Option.getD_some]
     have Y:=wa Y (wa j (wa (aA hv) (wa (aA j) @Attr.c.eq_1)))
     refine wv (h:=?_)
     repeat first|intro _|refine ⟨eO,?_⟩
     refine wq (λo=>?_) λo=>?_
     .rw [if_pos aD] at g
      rw [g,if_pos aD] at f
      exact wv (h:=i _ _ (by simp [go_sem,f]))
     .rw [if_neg aD] at g
      rw [g,if_neg aD] at f
      exact wo (h:=wx m (k+1) ⟨wg,wj,(by exact f.symm)⟩)
    .have hZ:iC t a vs=0:=by rw [<- p,(aD:(bM t a).length - k=0)];rfl
     exact wv (h:=i _ _ (by simp [go_sem,hZ]))
theorem A7 (t:Types)(w:t.ok)(h:Host):Pure Tryz.prog 137 [t.d,h.d] (.tup [dI (oE t h).1,dI (oE t h).2]):=by
 refine Tz.pK ⟨λt=>t==13,λ_=>[]⟩ Tryz.func137 rfl (λQ l=>?_)
 have Y:=wa @Host.d.eq_1 @Host.c.eq_1
 refine wv (h:=aB (mI t w) wl ?_)
 refine dP (λD=>?_) λD=>?_
 .have hE:oE t h=(-1,(b9 t).2):=by unfold oE;rw [if_pos (bX D)]
  exact wv (h:=l _ _ (by simp [go_sem,hE]))
 .have hE0:oE t h=if graphF h.graph≠0 then (-1,graphF h.graph) else if h.values.length≠h.graph.nodes.length then (-1,20) else if (gP (GG t h) 0 h.graph.nodes.length).2≠0 then gP (GG t h) 0 h.graph.nodes.length else gP (Ri t h) 0 h.graph.edges.length:=by unfold oE;rw [if_neg (bX D)]
  refine wv (h:=aB (mO h.graph) wl ?_)
  refine dP (λs=>?_) λs=>?_
  .rw [if_pos (bX s)] at hE0
   exact wv (h:=l _ _ (by simp [go_sem,hE0]))
  .rw [if_neg (bX s)] at hE0
   have q:graphF h.graph=0:=by simpa using s
   have p:=eK q
   have I:=bS q
   refine fA (λJ=>?_) λJ=>?_
   .rw [if_pos aD] at hE0
    exact wv (h:=l _ _ (by simp [go_sem,hE0]))
   .rw [if_neg aD] at hE0
    refine wo (h:=bD (λi e H=>(e 2=.adr t.c/\e 3=.adr h.c/\e 38=dLI h.graph.nodes/\e 39=dI h.graph.nodes.length/\e 40=dI i)/\(i<=h.graph.nodes.length)/\(gP (GG t h) i (h.graph.nodes.length - i)=gP (GG t h) 0 h.graph.nodes.length)) (λi=>h.graph.nodes.length - i) 0 ⟨wg,wi,(by rfl)⟩ λP C i e H A=>?_)
    obtain ⟨L,N,G⟩:=A
    have Y:=wa Y L
    refine dP (λg=>?_) λg=>?_
    .have hv:i<h.values.length:=aD
     have y:0<=h.graph.nodes[i]:=(p.1 _ (aC g)).1
     have a:=rN (GG t h) g
     rw [G] at a
     have r:GG t h i=iC t h.graph.nodes[i] h.values[i]:=by simp only [GG,aA hv,aA g,Option.getD_some]
     have Y:=wa Y (wa g (wa (aA hv) (wa (aA g) @cL.eq_1)))
     refine wo (h:=aI (Rh t w h.graph.nodes[i] y h.values[i]) wl ?_)
     refine fA (λk=>?_) λk=>?_
     .rw [r,if_pos (bX k)] at a
      rw [a,if_pos (bX k)] at hE0
      exact wv (h:=l _ _ (by simp [go_sem,hE0]))
     .rw [r,if_neg (bX k)] at a
      exact wo (h:=wx C (i+1) ⟨wg,wj,(by exact a.symm)⟩)
    .have hN0:gP (GG t h) 0 h.graph.nodes.length=(-1,0):=by rw [<- G,(aD:h.graph.nodes.length - i=0)];rfl
     rw [hN0,if_neg bW] at hE0
     refine wo (h:=bD (λj e H=>(e 2=.adr t.c/\e 3=.adr h.c/\e 60=.list (h.graph.edges.map Edge.c)/\e 61=dI h.graph.edges.length/\e 62=dI j)/\(j<=h.graph.edges.length)/\(gP (Ri t h) j (h.graph.edges.length - j)=oE t h)) (λj=>h.graph.edges.length - j) 0 ⟨wg,wi,(by exact hE0.symm)⟩ λO B j e H z=>?_)
     obtain ⟨K,M,F⟩:=z
     have Y:=wa Y K
     refine dP (λf=>?_) λf=>?_
     .obtain ⟨x,v⟩:=cW (h.graph.edges[j])
      have u:=(p.2 _ (aC f)).2
      rw [<- v] at u
      have o:x.from_.toNat<h.graph.nodes.length:=aD
      have n:x.to_.toNat<h.graph.nodes.length:=aD
      have a:=rN (Ri t h) f
      rw [F] at a
      have b:Ri t h j=if (t.edges.length:Int)<=x.type then 6 else if oF t x.type h.graph.nodes[x.from_.toNat] h.graph.nodes[x.to_.toNat]=true then 0 else 13:=by simp only [Ri,gN,aA f,Option.getD_some,<- v,aA o,aA n]
      have Y:=wa Y (wa f (wa (aA f) (wa (Eq.symm v) (wa (aA o) (aA n)))))
      refine fA (λE=>?_) λE=>?_
      .rw [if_pos aD] at b
       rw [b,if_pos aD] at a
       exact wv (h:=l _ _ (by simp [go_sem,a]))
      .rw [if_neg aD] at b
       refine wo (h:=aI (Fj t w x.type h.graph.nodes[x.from_.toNat] h.graph.nodes[x.to_.toNat]) wl ?_)
       refine fA (λm=>?_) λm=>?_
       .rw [if_neg (bX m)] at b
        rw [b,if_pos aD] at a
        exact wv (h:=l _ _ (by simp [go_sem,a]))
       .rw [if_pos (bX m)] at b
        rw [b,if_neg aD] at a
        exact wo (h:=wx B (j+1) ⟨wg,wj,(by exact a.symm)⟩)
     .have hZ:oE t h=(-1,0):=by rw [<- F,(aD:h.graph.edges.length - j=0)];rfl
      exact wv (h:=l _ _ (by simp [go_sem,hZ]))
end Go.Abs
end
section
set_option maxRecDepth 60000
set_option maxHeartbeats 4000000
open Go Go.Proofs
namespace Go.Abs
def PY (s:Int):Int:=if s<0 then -1 else 0
def MJ (s:Int):Int:=s % 18446744073709551616
theorem RB (x y:Int)(b:0<=x)(a:0<=y)(w:World):(callFunc 399 #[.int .u64 x,.int .u64 y,.int .u64 0]).run Tryz.prog w =
  .ok (.value (.tuple #[.int .u64 ((x+y+0) % 18446744073709551616),.int .u64 ((x+y+0) / 18446744073709551616)])) w:=by
 rw [run_callFunc_extern Tryz.func399 (by kernel_rfl) (by kernel_rfl) (by kernel_rfl) (e:=add64Entry) (by kernel_rfl),run_add64 x y 0 b a aD aD]
 rfl
open RowKit in
theorem NR (a b:Int)(j : -4000000<=a/\a<=4000000)(i : -4000000<=b/\b<=4000000)(w:World) :
  Calls Tryz.prog 348 #[.int .i64 a,.int .i64 b] w λe w'=>e=.returned (.tuple #[.int .i64 (PY (a+b)),.int .u64 (MJ (a+b))])/\w'=w:=by
 have h:=RB (IntKind.u64.wrap a) (IntKind.u64.wrap b) (by rw [IntKind.wrap_u64];omega) (by rw [IntKind.wrap_u64];omega) w
 simp only [Int.add_zero] at h
 go_enter Tryz.func348,Tryz.ntmps348
 go_wp2
 have d:IntKind.u64.wrap a=if a<0 then a+18446744073709551616 else a:=by rw [IntKind.wrap_u64];split<;>omega
 have c:IntKind.u64.wrap b=if b<0 then b+18446744073709551616 else b:=by rw [IntKind.wrap_u64];split<;>omega
 have g:wrap64 (a / 9223372036854775808+b / 9223372036854775808+wrap64 ((IntKind.u64.wrap a+IntKind.u64.wrap b) / 18446744073709551616))=PY (a+b):=by
  rw [d,c];unfold PY wrap64
  repeat' split
  all_goals omega
 have f:(IntKind.u64.wrap a+IntKind.u64.wrap b) % 18446744073709551616=MJ (a+b):=by
  rw [d,c];unfold MJ
  repeat' split
  all_goals omega
 rw [g,f]
 go_ret2
 exact ⟨rfl,rfl⟩
theorem w6 (a b:Int)(o : -4000000<=a/\a<=4000000)(n : -4000000<=b/\b<=4000000):Pure Tryz.prog 348 [dI a,dI b] (.tup [dI (PY (a+b)),.int .u64 (MJ (a+b))]):=by
 refine ⟨⟨Tryz.f348,Tryz.func348,rfl,rfl⟩,λM w c s h=>?_⟩
 have l:c=[.int .i64 a,.int .i64 b]:=by
  obtain ⟨m,k⟩:=h
  match c,m with
  | [x,y],_ =>
   have q:=k 0 x _ rfl rfl
   have i:=k 1 y _ rfl rfl
   cases q
   cases i
   rfl
 subst l
 exact (NR a b o n w).mono λe r ⟨i,p⟩=>⟨_,i,.tup _ _ rfl (λj u d f g=>by
  match j with
  | 0=>simp at f g;subst f;subst g;exact .int _ _
  | 1=>simp at f g;subst f;subst g;exact .int _ _
  | j+2=>simp at f),by subst p;exact ⟨rfl,rfl,rfl,bC _,λ_ _=>rfl⟩⟩
theorem tX (x:Term)(vs:List Int)(g:pL x vs.length)(i:Sm vs):Pure Tryz.prog 347 [.agg x.c,.adr [dLI vs]] (.tup [dI (PY (c8 x vs)),.int .u64 (MJ (c8 x vs)),.bool true]):=by
 have a:=g
 obtain ⟨⟨o,n⟩,m,l⟩:=a
 refine Tz.pK ⟨λ_=>false,λ_=>[]⟩ Tryz.func347 rfl (λQ d=>?_)
 have Y:=@Term.c.eq_1
 refine dP (λk=>?_) λk=>?_
 .have b:c8 x vs=0+x.add:=by unfold c8;rw [if_pos aD];omega
  refine wv (h:=aB (w6 0 x.add aD aD) wl ?_)
  exact wv (h:=d _ _ (by simp [go_sem,b]))
 .have hk:x.var.toNat<vs.length:=aD
  have j:=i.get hk
  have b:c8 x vs=vs[x.var.toNat]+x.add:=by unfold c8;rw [if_neg aD,aA hk];rfl
  have f:¬ x.var<0:=aD
  have e:¬ (vs.length:Int)<=x.var:=aD
  have Y:=wa Y (wa (aA hk) (wa f e))
  refine wo (h:=aI (w6 vs[x.var.toNat] x.add j aD) wl ?_)
  exact wo (h:=d _ _ (by simp [go_sem,b]))
theorem G6 (a:Int):Pure Tryz.prog 400 [.int .u64 a] (.bool false):=by
 refine Tz.pK ⟨λ_=>false,λ_=>[]⟩ Tryz.func400 rfl (λQ b=>?_)
 have Y:=trivial
 exact wv (h:=b _ _ wy)
theorem KR (a b:Int):Pure Tryz.prog 351 [.int .u64 a,.int .u64 b] (dI (cmp1 a b)):=by
 refine Tz.pK ⟨λ_=>false,λ_=>[]⟩ Tryz.func351 rfl (λQ e=>?_)
 have Y:=trivial
 refine wv (h:=aB (G6 a) wl ?_)
 refine wv (h:=aB (G6 b) wl ?_)
 refine dP (λd=>?_) λd=>?_
 .have Y:=wa Y (wa d @cmp1.eq_1)
  exact wv (h:=e _ _ wy)
 .refine dP (λc=>?_) λc=>?_
  .have Y:=wa Y (wa d (wa c @cmp1.eq_1))
   exact wv (h:=e _ _ wy)
  .have Y:=wa Y (wa d (wa c @cmp1.eq_1))
   exact wv (h:=e _ _ wy)
def Tw (a b:Int):Int:=Ta [cmp1 (PY a) (PY b),cmp1 (MJ a) (MJ b)]
theorem Tv {a b:Int}(f : -10000000<=a/\a<=10000000)(e : -10000000<=b/\b<=10000000):Tw a b=if a<b then -1 else if b<a then 1 else 0:=by
 have d:MJ a=if a<0 then a+18446744073709551616 else a:=by unfold MJ;split<;>omega
 have c:MJ b=if b<0 then b+18446744073709551616 else b:=by unfold MJ;split<;>omega
 unfold Tw
 simp only [Ta,cmp1,PY,d,c]
 repeat' split
 all_goals omega
theorem Fo {x:Term}{vs:List Int}(a:pL x vs.length)(b:Sm vs) : -10000000<=c8 x vs/\c8 x vs<=10000000:=by
 obtain ⟨⟨g,f⟩,e,d⟩:=a
 unfold c8
 split
 .omega
 .have hk:x.var.toNat<vs.length:=aD
  have c:=b.get hk
  rw [aA hk,Option.getD_some]
  omega
theorem vO (x:Test)(vs:List Int)(i:Hm x vs.length)(b:Sm vs):Pure Tryz.prog 271 [.agg x.c,dLI vs] (.bool (Aj x vs)):=by
 obtain ⟨m,f,d⟩:=i
 have g:=Tv (Fo f b) (Fo d b)
 have a:Tw (c8 x.left vs) (c8 x.right vs)=Ta [cmp1 (PY (c8 x.left vs)) (PY (c8 x.right vs)),cmp1 (MJ (c8 x.left vs)) (MJ (c8 x.right vs))]:=rfl
 obtain ⟨o,j⟩:=cW (Tw (c8 x.left vs) (c8 x.right vs))
 rw [<- j] at g a
 have k:Aj x vs=(decide (x.kind=1)&&decide (o<=0)||decide (x.kind=2)&&decide (o=0)):=by
  unfold Aj
  rw [g,aR]
  simp
  constructor
  .rintro (⟨h1,h2⟩|⟨h1,h2⟩)
   .left;refine ⟨h1,?_⟩;split<;>(try split)<;>omega
   .right;refine ⟨h1,?_⟩;rw [h2];simp
  .rintro (⟨h1,h2⟩|⟨h1,h2⟩)
   .left;refine ⟨h1,?_⟩;split at h2<;>(try split at h2)<;>omega
   .right;refine ⟨h1,?_⟩;split at h2<;>(try split at h2)<;>omega
 refine Tz.pK ⟨λ_=>false,λ_=>[]⟩ Tryz.func271 rfl (λQ l=>?_)
 have Y:=@Test.c.eq_1
 refine wv (h:=?_)
 refine aB (tX x.left vs f b) wl ?_
 refine wv (h:=?_)
 refine aB (tX x.right vs d b) wl ?_
 refine wv (h:=?_)
 repeat first|intro _|refine ⟨eO,?_⟩
 refine aB (Nn (PY (c8 x.left vs)) (PY (c8 x.right vs))) wl ?_
 refine wv (h:=?_)
 repeat first|intro _|refine ⟨eO,?_⟩
 refine aB (KR (MJ (c8 x.left vs)) (MJ (c8 x.right vs))) wl ?_
 refine wv (h:=?_)
 repeat first|intro _|refine ⟨eO,?_⟩
 refine aB ((by have e:=VJ [cmp1 (PY (c8 x.left vs)) (PY (c8 x.right vs)),cmp1 (MJ (c8 x.left vs)) (MJ (c8 x.right vs))];rw [<- a] at e;exact e)) wl ?_
 refine wv (h:=?_)
 repeat first|intro _|refine ⟨eO,?_⟩
 exact l _ _ (by simp [go_sem,k]<;>(first|rfl|(rw [aR];simp)))
theorem l5 (x:Term)(vs:List Int)(e:pL x vs.length)(f:Sm vs):Pure Tryz.prog 270 [.agg x.c,dLI vs] (dI (c8 x vs)):=by
 have a:=e
 obtain ⟨⟨l,k⟩,j,i⟩:=a
 refine Tz.pK ⟨λ_=>false,λ_=>[]⟩ Tryz.func270 rfl (λQ b=>?_)
 have Y:=@Term.c.eq_1
 refine dP (λd=>?_) λd=>?_
 .exact wv (h:=b _ _ (by simp [go_sem,c8,d]))
 .have hk:x.var.toNat<vs.length:=aD
  have g:=f.get hk
  have Y:=wa Y (aA hk)
  exact wo (h:=b _ _ (by simp [go_sem,c8,(aD:¬ x.var<0),aA hk]))
theorem mT (x:Term)(vs:List Int)(d:pL x vs.length)(e:Sm vs):Pure Tryz.prog 336 [.agg x.c,dLI vs] (.tup [dI (c8 x vs),dI 0]):=by
 have a:=d
 obtain ⟨⟨k,j⟩,i,g⟩:=a
 have b:inF x.var (-1) ((vs.length:Int) - 1)=true:=by unfold inF;simp;omega
 refine Tz.pK ⟨λ_=>false,λ_=>[]⟩ Tryz.func336 rfl (λQ f=>?_)
 have Y:=wa @Term.c.eq_1 b
 refine wo (h:=aB (jH x.var (-1) ((vs.length:Int) - 1)) wl ?_)
 refine wo (h:=aB (l5 x vs d e) wl ?_)
 exact wo (h:=f _ _ wy)
end Go.Abs
end
