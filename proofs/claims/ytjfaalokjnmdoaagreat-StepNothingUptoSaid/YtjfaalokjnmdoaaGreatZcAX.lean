/- Plain law: a rule that keeps all and writes nothing changes  -/
import Derived.Test.YtjfaalokjnmdoaaGreatZcAV
import Derived.Test.YtjfaalokjnmdoaaGreatZcAF
import Derived.Test.YtjfaalokjnmdoaaGreatZcAA
set_option linter.unusedVariables false
set_option linter.unusedSimpArgs false
section
set_option maxRecDepth 100000
set_option maxHeartbeats 4000000
open Go Go.Proofs
namespace Go.Abs
theorem yM {n i:Nat}(h:i<(cF n).length):(cF n)[i]=(i:Int):=by
 have:=mV (n:=n) (a:=i) (by rw [d9] at h;exact h)
 rw [aA h] at this
 exact Option.some.inj this
theorem Bm {n:Nat}{v:Int}(h0:0≤v)(h1:v<n):v∈cF n:=by
 have:=mV (n:=n) (a:=v.toNat) (by omega)
 have h2:=aH this
 rwa [show ((v.toNat:Nat):Int)=v by omega] at h2
theorem FG (n:Nat):(cF n).Pairwise (· < ·):=by
 rw [dB]
 intro i j hi hj hij
 rw [yM hi,yM hj];omega
theorem Dw (n:Nat):b6 [] n=cF n:=by
 unfold b6 cF
 rw [List.filter_eq_self.2 fun i _=>by rw [pP];rfl]
theorem pO (n:Nat):b6 (cF n) n=[]:=by
 unfold b6
 rw [List.map_eq_nil_iff,vL]
 intro i hi
 rw [bK] at hi
 rw [(dA (cF n) (i:Int)).2 (Bm (by omega) (by omega))];simp
theorem Gc {im:List Int}{n:Nat}(h:im.length=n):eL im (cF n)=[]:=by
 unfold eL
 rw [List.map_eq_nil_iff,vL]
 intro i hi
 rw [bK] at hi
 rw [(dA (cF n) (i:Int)).2 (Bm (by omega) (by omega))];simp
theorem GM {n i:Nat}(h:i<n):iB (cF n) (cF n).length (i:Int)=i:=by
 have hl:i<(cF n).length:=by rw [d9];exact h
 have:=qU (qE n) hl
 rw [yM hl] at this
 exact this
theorem GK (n:Nat):v8 (cF n) n=cF n:=by
 refine dJ (by rw [lO,d9]) fun i h1 h2=>?_
 have hi:i<n:=by rw [lO] at h1;exact h1
 have:=n6 (cF n) hi
 rw [aA h1] at this
 rw [Option.some.inj this,yM h2,GM hi]
theorem Ib {n:Nat}{v:Int}(h0:0≤v)(h1:v<n):(oT (cF n) v:Int)=v:=by
 obtain ⟨a,b,_⟩:=Fx (FG n) (Bm h0 h1)
 rw [d9] at a
 rw [pQ (by omega) (by omega)] at b
 exact b
theorem LU {α:Type}(l:List α)(d:α):(cF l.length).map (fun k=>l[k.toNat]?.getD d)=l:=by
 refine dJ (by rw [bA,d9]) fun i h1 h2=>?_
 rw [jG,yM]
 simp [h2]
theorem Mj {g:Graph}(hg:graphF g=0):subF g ⟨cF g.nodes.length,cF g.edges.length⟩=0:=by
 have hin:=dL hg
 refine Jg hg (fun x hx=>Bl hx) (FG _) (fun x hx=>Bl hx) (FG _) fun x hx=>?_
 have hx':=Bl hx
 have h1:=hin.2 _ (CS hx'.1 hx'.2)
 exact ⟨Bm h1.2.1.1 h1.2.1.2,Bm h1.2.2.1 h1.2.2.2⟩
theorem BC {g:Graph}(hg:graphF g=0):bS g ⟨cF g.nodes.length,cF g.edges.length⟩=g:=by
 have hin:=dL hg
 unfold bS
 rw [if_pos (Mj hg)]
 have e1:(cF g.nodes.length).map (gN g)=g.nodes:=LU g.nodes 0
 have e2:(cF g.edges.length).map (gEd g ⟨cF g.nodes.length,cF g.edges.length⟩)=g.edges:=by
  refine dJ (by rw [bA,d9]) fun i h1 h2=>?_
  rw [jG,yM,JX]
  have he:eA g (i:Int)=g.edges[i]:=Pv h2
  have hx:=hin.2 _ (aC h2)
  rw [he,Ib hx.2.1.1 hx.2.1.2,Ib hx.2.2.1 hx.2.2.2]
 simp only [e1,e2]
section
variable {t:Types} {r:Rule} {h:Host} {m:Mat}
theorem Px {im:List Int}{n N:Nat}(hl:im.length=n)(hi:∀ x∈im,0≤x∧x<N)(rem:Nat):Kt (cF n) (cF n) (sU im (cF N)) n rem=im:=by
 refine dJ (by simp [Kt,hl]) fun i h1 h2=>?_
 have hin:i<n:=by omega
 have hx:=hi _ (aC h2)
 have e:(Kt (cF n) (cF n) (sU im (cF N)) n rem)[i]=MA (cF n) (cF n) (sU im (cF N)) rem i:=by simp [Kt]
 rw [e]
 unfold MA
 rw [GM hin,if_pos (by omega)]
 rw [show ((i:Int)).toNat=i by omega,mV hin,aD,show ((i:Int)).toNat=i by omega]
 unfold sU
 rw [aM,aA h2,cZ,aD,mV (show im[i].toNat<N by omega),aD]
 omega
theorem StepIn.nothing (S:StepIn t r h m)(hk:r.keep=⟨cF r.left.graph.nodes.length,cF r.left.graph.edges.length⟩)(hi:r.into=⟨cF r.left.graph.nodes.length,cF r.left.graph.edges.length⟩)(hr:r.right.graph=r.left.graph)(hs:r.right.slots=[]) :
  fO t r h m=h∧dC r h m=⟨cF h.graph.nodes.length,cF h.graph.edges.length⟩∧gM r h m=m.m:=by
 have hrest:cE r h m=⟨cF h.graph.nodes.length,cF h.graph.edges.length⟩:=by
  rw [S.rest,hk]
  simp only
  rw [Gc S.hm.len,Gc S.hm.elen,Dw,Dw]
 have htr:dC r h m=⟨cF h.graph.nodes.length,cF h.graph.edges.length⟩:=by
  unfold dC mA
  rw [hrest]
  simp only
  rw [GK,GK]
 have hcm:gM r h m=m.m:=by
  unfold gM
  rw [htr,hrest,hk,hi,hr]
  simp only
  rw [Px S.hm.len S.imN,Px S.hm.elen S.imE]
 have hfN:r.freshN=[]:=by unfold Rule.freshN;rw [hi,hr];exact pO _
 have hfE:r.freshE=[]:=by unfold Rule.freshE;rw [hi,hr];exact pO _
 have hb:cD t r h m=h:=by
  unfold cD z6
  rw [hfN,hfE,hrest,BC S.ho.gg]
  simp only [oH,iW]
  have e:=LU h.values []
  rw [S.ho.vl] at e
  rw [e]
 refine ⟨?_,htr,hcm⟩
 unfold fO
 rw [hb,hs]
 rfl
end
theorem IQ {off n:Nat}(h:off+n≤63):sS (9223372036854775807:UInt64) off n=List.replicate n true:=by
 unfold sS
 refine dJ (by simp) fun i h1 h2=>?_
 have hi:i<n:=by simpa using h1
 rw [jG,kQ,List.getElem_replicate]
 have key:∀ k:Nat,k<63→QU (9223372036854775807:UInt64) k=true:=by decide +kernel
 exact key _ (by omega)
theorem Is (g:Graph)(nb eb:List Bool)(hn:nb=List.replicate nb.length true):∀ k,sR g nb eb k=nb
 | 0=>rfl
 | k+1=>by
  rw [nY,Is g nb eb hn k]
  have hs:∀ i,nb.set i true=nb:=fun i=>by
   rw [hn]
   refine dJ (by simp) fun j h1 h2=>?_
   rw [rB]
   split<;>simp
  split
  ·rw [hs,hs]
  ·rfl
theorem FJ (n:Nat):vT (List.replicate n true)=cF n:=by
 unfold vT Rs cF
 rw [oJ,List.filter_eq_self.2]
 intro i hi
 rw [bK] at hi
 simp [hi]
theorem N4 {g:Graph}(h:g.nodes.length+g.edges.length≤63):oV g (9223372036854775807:UInt64)=⟨cF g.nodes.length,cF g.edges.length⟩:=by
 unfold oV
 rw [IQ (show 0+g.nodes.length≤63 by omega),IQ h,Is _ _ _ (by simp),FJ,FJ]
def keepAll (r:Rule):Rule:=⟨r.name,r.left,⟨r.left.graph,[],r.left.vars,[]⟩,⟨cF r.left.graph.nodes.length,cF r.left.graph.edges.length⟩,⟨cF r.left.graph.nodes.length,cF r.left.graph.edges.length⟩,r.inj,r.cond⟩
theorem N9 {t:Types}{r:Rule}(h:ruleF t r=0)(ho:r.ok):ruleF t (keepAll r)=0:=by
 have R:=HW ho h
 have hin:=dL R.pl.gg
 have hname:fT r.name=true:=by
  unfold ruleF at h
  split at h
  ·contradiction
  ·split at h
   ·exact absurd h (by decide)
   ·rename_i hh;simpa using hh
 have hS:=Mj R.pl.gg
 have hX:=BC R.pl.gg
 have hM:dE r.left.graph r.left.graph ⟨cF r.left.graph.nodes.length,cF r.left.graph.edges.length⟩=0:=by
  refine Cz R.pl.gg R.pl.gg (by simp [d9]) (by simp [d9]) (fun i h0 h1=>?_) (fun k h0 h1=>?_)
  ·show (0≤iA (cF r.left.graph.nodes.length) i∧iA (cF r.left.graph.nodes.length) i<_)∧gN _ (iA (cF r.left.graph.nodes.length) i)=_
   rw [pQ h0 h1]
   exact ⟨⟨h0,h1⟩,rfl⟩
  ·have hen:=yZ R.pl.gg h0 h1
   show (0≤iA (cF r.left.graph.edges.length) k∧iA (cF r.left.graph.edges.length) k<_)∧_=(eA _ (iA (cF r.left.graph.edges.length) k)).type∧iA (cF r.left.graph.nodes.length) _=(eA _ (iA (cF r.left.graph.edges.length) k)).from_∧iA (cF r.left.graph.nodes.length) _=(eA _ (iA (cF r.left.graph.edges.length) k)).to_
   rw [pQ h0 h1,pQ hen.1.1 hen.1.2,pQ hen.2.1.1 hen.2.1.2]
   exact ⟨⟨h0,h1⟩,rfl,rfl,rfl⟩
 have hI:u0 r.left.graph r.left.graph ⟨cF r.left.graph.nodes.length,cF r.left.graph.edges.length⟩=true:=by
  simp only [u0,aJ,decide_eq_true_eq]
  exact ⟨hM,qE _,qE _⟩
 refine E5 R.vf hname (show bN t r.left=0 from JM h) (Co R.pl.gg R.pl.ty rfl rfl (by simp [keepAll]) rfl) (F1 hS ?_ ?_) ?_ (show condF t r.left r.cond=0 from Mx h)
 ·show dE (bS r.left.graph ⟨cF r.left.graph.nodes.length,cF r.left.graph.edges.length⟩) r.left.graph _=0
  rw [hX];exact hM
 ·show u0 (bS r.left.graph ⟨cF r.left.graph.nodes.length,cF r.left.graph.edges.length⟩) r.left.graph _=true
  rw [hX];exact hI
 ·have e1:(keepAll r).freshN=[]:=pO _
  have e2:(keepAll r).freshE=[]:=pO _
  rw [e1,e2];rfl
def nixC (r:Rule):List D:=[.str r.name,dLI r.left.graph.nodes,.list (r.left.graph.edges.map Edge.c),.list (r.left.slots.map Slot.c),dI r.left.vars,.list (r.left.tests.map Test.c),
 dLI r.left.graph.nodes,.list (r.left.graph.edges.map Edge.c),.nil,dI r.left.vars,.nil,
 dLI (cF r.left.graph.nodes.length),dLI (cF r.left.graph.edges.length),dLI (cF r.left.graph.nodes.length),dLI (cF r.left.graph.edges.length),.bool r.inj,
 dI r.cond.kind,.list (r.cond.kids.map Cond.c),dLI r.cond.map.nodes,dLI r.cond.map.edges,dLI r.cond.pattern.graph.nodes,.list (r.cond.pattern.graph.edges.map Edge.c),.list (r.cond.pattern.slots.map Slot.c),dI r.cond.pattern.vars,.list (r.cond.pattern.tests.map Test.c)]
theorem RK (t:Types)(r:Rule)(h:Host):[t.d,.agg (nixC r),h.d].map mO=[t.d,(keepAll r).d,h.d]:=by
 simp [nixC,keepAll,Types.d,Types.c,Rule.d,Rule.c,Host.d,Host.c,mO,jH,dLI,dI,tM,uW,eZ,qD,Bi,Bh,FE,RH]
theorem SW (t:Types)(r:Rule)(h:Host)(m:Mat):[t.d,.agg (nixC r),h.d,m.d].map mO=[t.d,(keepAll r).d,h.d,m.d]:=by
 simp [nixC,keepAll,Types.d,Types.c,Rule.d,Rule.c,Host.d,Host.c,Mat.d,Mat.c,mO,jH,dLI,dI,tM,uW,eZ,qD,Bi,Bh,FE,RH]
def nixS (r:Rule)(h:Host)(m:Mat):Stp26:=⟨keepAll r,m,h,h,⟨cF h.graph.nodes.length,cF h.graph.edges.length⟩,m.m⟩
theorem FZ (d:Dr26)(t:Types)(r:Rule)(h:Host)(L:List Mat)(E:Int)(b:Bool)(hLl:L.length≤1000000)
  (cM:Pure Tryz.prog 22 [.agg d.c] (.tup [t.d,r.d,h.d]))
  (cK:Pure Tryz.prog 28 [r.left.graph.d,.int .u64 9223372036854775807] (.agg [dLI (cF r.left.graph.nodes.length),dLI (cF r.left.graph.edges.length)]))
  (cL:Pure Tryz.prog 18 [t.d,.agg (nixC r),h.d] (.bool b))
  (cP:b=true→Pure Tryz.prog 19 [t.d,.agg (nixC r),h.d] (.tup [.list (L.map Mat.c),dI E]))
  (hE:b=true→E=0∨E=3)
  (cA:b=true→E=0→∀ m∈L,Pure Tryz.prog 23 [t.d,.agg (nixC r),h.d,m.d] (.tup [.agg (nixS r h m).c,dI 0]))
  (hs:h.graph.nodes.length≤1000∧h.graph.edges.length≤1000∧r.left.graph.nodes.length≤1000∧r.left.graph.edges.length≤1000) :
  Pure Tryz.prog 7 [.agg d.c] (.bool true):=by
 obtain ⟨s1,s2,s3,s4⟩:=hs
 have hm1:(if (4:Int)<(L.length:Int) then (4:Int) else (L.length:Int))=((min L.length 4:Nat):Int):=by split<;>omega
 obtain ⟨k,hk⟩:∃ m,min L.length 4=m:=⟨_,rfl⟩
 rw [hk] at hm1
 have hk':k≤L.length:=by omega
 obtain ⟨M,hM⟩:∃ M,M=L.take k:=⟨_,rfl⟩
 have hMm:(L.map Mat.c).take k=M.map Mat.c:=by rw [hM,List.map_take]
 have hML:∀ m∈M,m∈L:=fun m hm=>bW (hM ▸ hm)
 have hMl:M.length=k:=by rw [hM,bH];omega
 refine Tz.pK ⟨fun t=>t==3||t==4||t==5||t==9||t==10,fun _=>[]⟩ Tryz.func7 rfl (fun Q hQ=>?_)
 have Y:=wa @Dr26.c.eq_1 (wa @Dr24.c.eq_1 (wa @Dr15.c.eq_1 (wa @Host.d.eq_1 (wa @Host.c.eq_1 (wa @Mat.d.eq_1 (wa @Mat.c.eq_1 (wa @Rule.d.eq_1 (wa @Rule.c.eq_1 (wa @Stp26.c.eq_1 (wa @nixC.eq_1 (wa hm1 hMm)))))))))))
 refine Ab (h:=aB (xL) wl ?_)
 refine Ab (h:=aB ((by have hz:=cM;simp only [Dr26.c,Dr24.c,Dr15.c,eQ,eJ] at hz;unfold Rule.d Host.d at hz;exact hz)) wl ?_)
 refine Ab (h:=aB (cK) wl ?_)
 refine Ab (h:=aB (w9 r.left.graph (by omega) (by omega)) wl ?_)
 refine Ab (h:=aB (cL) wl ?_)
 refine Ab (h:=wq (fun h7=>?_) fun h7=>?_)
 ·have Y:=wa Y h7
  exact G3 (h:=hQ _ _ wy)
 ·have hb:b=true:=by cases hbb:b<;>simp [hbb] at h7 ⊢
  refine G3 (h:=aB (cP hb) wl ?_)
  refine G3 (h:=wq (fun h10=>?_) fun h10=>?_)
  ·have hE3:E=3:=by rcases hE hb with h|h;exact absurd h (by simpa using h10);exact h
   have Y:=wa Y hE3
   have Y:=wa Y (wa h7 h10)
   exact G3 (h:=hQ _ _ wy)
  ·have hE0:E=0:=by simpa using h10
   refine Ab (h:=bP (fun i e H=>(e 1=.adr d.c∧e 3=.ptr 0 1 0 0∧e 4=.ptr 1 1 0 0∧e 5=.ptr 2 1 0 0∧e 58=.list (M.map Mat.c)∧e 59=dI M.length∧e 60=dI i)∧(H.get 0=some ⟨32,2,[t.c],false⟩)∧(0<H.next)∧(H.get 1=some ⟨61,25,[nixC r],false⟩)∧(1<H.next)∧(H.get 2=some ⟨40,3,[h.c],false⟩)∧(2<H.next)∧(i≤M.length)) (fun i=>M.length - i) 0 ⟨wg,wn,wn,wn,wn,wn,wn,wi⟩ fun I0 hI0 i e H hi0=>?_)
   obtain ⟨E0,g0_0,n0_0,g1_0,n1_0,g2_0,n2_0,hi⟩:=hi0
   have Y:=wa Y (wa E0 (wa g0_0 (wa (b5 n0_0) (wa g1_0 (wa (b5 n1_0) (wa g2_0 (b5 n2_0)))))))
   refine G3 (h:=wq (fun h13=>?_) fun h13=>?_)
   ·have Y:=wa Y (wa h13 (wa (aA h13) (wa @nixS.eq_1 @keepAll.eq_1)))
    refine Ab (h:=aB (cA hb hE0 M[i] (hML _ (aC h13))) wl ?_)
    refine Ab (h:=eC (fun hg=>(by have hz:=Ls h h (fun i _ _=>Ou _);rw [show decide (h=h)=true by simp] at hz;exact hz)) (fun hg=>wl) ?_)
    refine Ab (h:=eC (fun hg=>w9 h.graph (by omega) (by omega)) (fun hg=>wl) ?_)
    refine Ab (h:=eC (fun hg=>wZ ⟨cF h.graph.nodes.length,cF h.graph.edges.length⟩) (fun hg=>wl) ?_)
    refine Ab (h:=eC (fun hg=>wZ M[i].m) (fun hg=>wl) ?_)
    exact Ab (h:=wx hI0 (i+1) ⟨wg,wn,wn,wn,wn,wn,wn,wj⟩)
   ·have Y:=wa Y (wa h7 (wa h10 h13))
    exact G3 (h:=hQ _ _ wy)
theorem LX (t:Types)(d:Dr24):(lV t d).keep.nodes.length≤1000∧(lV t d).keep.edges.length≤1000∧(lV t d).into.nodes.length≤1000∧(lV t d).into.edges.length≤1000:=by
 have hL4:=tS t d.left
 have hKl:=CF (dF t d.left).graph d.keep
 have hGl:=vB (dF t d.left).graph (oV (dF t d.left).graph d.keep)
 have key:(p9 t d).keep.nodes.length≤1000∧(p9 t d).keep.edges.length≤1000∧(p9 t d).into.nodes.length≤1000∧(p9 t d).into.edges.length≤1000:=by
  refine ⟨?_,?_,?_,?_⟩
  ·show (oV (dF t d.left).graph d.keep).nodes.length≤_;omega
  ·show (oV (dF t d.left).graph d.keep).edges.length≤_;omega
  ·show (List.take _ _).length≤_;rw [bH];unfold lN mY;omega
  ·show (List.take _ _).length≤_;rw [bH];unfold lN mY;omega
 unfold lV
 split
 ·exact key
 ·exact key
theorem Bu (d:Dr26):Pure Tryz.prog 7 [.agg d.c] (.bool true):=by
 have hT:MadeTy (pG d):=JK _ _
 have hr0:ruleF (pG d) (pM d)=0:=xI hT _
 have hh0:fR (pG d) (o7 d)=0:=xJ hT _
 have hH:=qO hh0
 have hle:=cC hH.gg
 have hrl:(pM d).le:=CG _ _
 obtain ⟨g0,he,hl⟩:graphF (pM d).left.graph=0∧(pM d).left.graph.ends∧(pM d).left.graph.nodes.length≤8∧(pM d).left.graph.edges.length≤10:=by
  have C:=J1 hT (nS d.rule)
  have e:=rZ (pG d) (nS d.rule).left.graph
  have l:=qJ (pG d) (nS d.rule).left.graph
  unfold pM lV
  split
  ·exact ⟨C.g0,e,l⟩
  ·exact ⟨C.g0,e,l⟩
 have hkl:(keepAll (pM d)).le:=by
  obtain ⟨a,b,c⟩:=hrl
  refine ⟨⟨?_,?_⟩,⟨?_,?_⟩,c⟩
  all_goals (show (cF _).length≤_;rw [d9];omega)
 have hth:=LX (pG d) (nS d.rule)
 have e26:lV (pG d) (nS d.rule)=pM d:=rfl
 rw [e26] at hth
 obtain ⟨t,ht⟩:∃ t,t=pG d:=⟨_,rfl⟩
 obtain ⟨r,hr⟩:∃ r,r=pM d:=⟨_,rfl⟩
 obtain ⟨h,hh⟩:∃ h,h=o7 d:=⟨_,rfl⟩
 have cM:=Ag d
 rw [← ht,← hr,← hh] at cM
 rw [← ht] at hT
 rw [← ht,← hr] at hr0
 rw [← ht,← hh] at hh0
 rw [← hh] at hH hle
 rw [← hr] at g0 he hl hrl hkl hth
 obtain ⟨R,hR⟩:∃ R,R=keepAll r:=⟨_,rfl⟩
 rw [← hR] at hkl
 have hO:light26 t R h=true→t.ok∧R.ok:=Aq
 have hO2:light26 t R h=true→ruleF t R=0:=fun hb=>by
  have hro:r.ok:=by
   have hRo:=(hO hb).2
   rw [hR] at hRo
   exact ⟨hRo.name,by omega,by omega,by omega,by omega,hRo.cond,hRo.size⟩
  rw [hR];exact N9 hr0 hro
 have cL:=uS t (xH hT) R hkl h
 rw [hR] at cL
 refine FZ d t r h (n7 t R h).1 (n7 t R h).2 (light26 t R h) (by have:=Kf t R h;omega) cM ?_ (by have hz:=cL.nzk (RK t r h);rw [← hR] at hz;exact hz) (fun hb=>?_) (fun hb=>CC (hO hb).2 (hO2 hb) hh0) (fun hb _ m hm=>?_) (by omega)
 ·have hz:=Fk r.left.graph (by omega) (by omega) he (9223372036854775807:UInt64)
  rw [N4 (by omega)] at hz
  exact hz
 ·have hz:=l7 t hT.fine.ok R (hO hb).2 h
  rw [hR] at hz
  have hy:=hz.nzk (RK t r h)
  rw [← hR] at hy;exact hy
 ·have S:=No (HW (hO hb).2 (hO2 hb)) (qO hh0) (BU hm).2
  obtain ⟨e1,e2,e3⟩:=S.S.nothing (by rw [hR];rfl) (by rw [hR];rfl) (by rw [hR];rfl) (by rw [hR];rfl)
  have hz:=AL hT.fine.ok (hO hb).2 hm
  have e:sK t R h m=nixS r h m:=by
   unfold sK nixS
   rw [e1,e2,e3,hR]
  rw [e,hR] at hz
  exact hz.nzk (SW t r h m)
end Go.Abs
end
