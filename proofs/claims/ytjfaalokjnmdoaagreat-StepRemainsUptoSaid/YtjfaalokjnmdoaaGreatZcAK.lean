/- Layer 24: rules, continued. · Layer 12: complements; layer 1 -/
import Derived.Test.YtjfaalokjnmdoaaGreatZcAF
import Derived.Test.YtjfaalokjnmdoaaGreatZcAA
import Derived.Test.YtjfaalokjnmdoaaGreatZcAJ
import Derived.Test.YtjfaalokjnmdoaaGreatZcAI
set_option linter.unusedVariables false
set_option linter.unusedSimpArgs false
section
set_option maxRecDepth 100000
set_option maxHeartbeats 4000000
open Go Go.Proofs
namespace Go.Abs
def kC (t:Types)(r:Rule):Int :=
 if graphF r.right.graph≠0 then graphF r.right.graph
 else if dP t r.right.graph=false then 13
 else if r.right.vars≠r.left.vars∨0<r.right.tests.length then 1
 else if 10<r.right.slots.length then 3
 else bR (wU t r.right) 0 r.right.slots.length
theorem Ny (t:Types)(ht:t.ok)(r:Rule):Pure Tryz.prog 215 [t.d,r.d] (dI (kC t r)):=by
 refine Tz.pK ⟨fun _=>false,fun _=>[]⟩ Tryz.func215 rfl (fun Q hQ=>?_)
 have Y:=trivial
 refine wv (h:=aB (k8 r.right.graph) wl ?_)
 refine dO (fun h2=>?_) fun h2=>?_
 ·exact wv (h:=hQ _ _ (.inl (by simp [go_sem,kC,h2])))
 ·have hg:=cC h2
  refine wo (h:=aB (Nw t r.right.graph) wl ?_)
  refine fJ (fun h4=>?_) fun h4=>?_
  ·exact wv (h:=hQ _ _ (.inl (by simp [go_sem,kC,h2,h4])))
  ·refine fJ (fun h6=>?_) fun h6=>?_
   ·have hR:kC t r=1:=by unfold kC;rw [if_neg (by omega),if_neg (by simp [h4]),if_pos (by omega)]
    exact wv (h:=hQ _ _ (.inl (by simp [go_sem,hR])))
   ·have h6':¬ (r.right.vars≠r.left.vars∨0<r.right.tests.length):=by
     rintro (h|h)
     ·exact h h6.1
     ·have:=h6.2;simp [this] at h
    refine fJ (fun h8=>?_) fun h8=>?_
    ·have hR:kC t r=3:=by unfold kC;rw [if_neg (by omega),if_neg (by simp [h4]),if_neg h6',if_pos (by omega)]
     exact wv (h:=hQ _ _ (.inl (by simp [go_sem,hR])))
    ·have hR:kC t r=bR (wU t r.right) 0 r.right.slots.length:=by unfold kC;rw [if_neg (by omega),if_neg (by simp [h4]),if_neg h6',if_neg (by omega)]
     refine wo (h:=bP (fun i e H=>(e 2=.adr t.c∧e 3=.adr r.c∧e 46=dI r.right.slots.length∧e 47=dI i)∧(i≤r.right.slots.length)∧(bR (wU t r.right) i (r.right.slots.length - i)=kC t r)) (fun i=>r.right.slots.length - i) 0 ⟨wg,wi,(by (exact hR.symm))⟩ fun I1 hI1 i e H hi1=>?_)
     obtain ⟨E1,hi,hF⟩:=hi1
     have Y:=wa Y E1
     refine dO (fun h11=>?_) fun h11=>?_
     ·have hst:=hF
      rw [fS _ h11] at hst
      have Y:=wa Y h11
      refine wv (h:=aB (PX t ht r (by omega) i h11) wl ?_)
      refine dO (fun h14=>?_) fun h14=>?_
      ·rw [if_pos (by omega)] at hst
       exact wv (h:=hQ _ _ (.inl (by simp [go_sem,hst])))
      ·rw [if_neg (by omega)] at hst
       exact wo (h:=wx hI1 (i+1) ⟨wg,wj,(by exact hst)⟩)
     ·exact wv (h:=hQ _ _ (.inl (by rw [← hF,show r.right.slots.length - i=0 by omega];rfl)))
def b6 (l:List Int)(n:Nat):List Int:=((List.range n).filter fun (i:Nat)=>!mem l i).map fun (b:Nat)=>(b:Int)
theorem mF {l:List Int}{n:Nat}{x:Int}(h:x∈b6 l n):0≤x∧x<n:=by
 simp only [b6,aT,dN,bK] at h
 obtain ⟨a,⟨h1,_⟩,rfl⟩:=h
 omega
theorem rR (l:List Int)(n:Nat):(b6 l n).length≤n:=by
 unfold b6;rw [bA];exact c6 (e9 _ _) (by simp)
theorem Dk (l:List Int)(n:Nat)(hn:n≤1000000):Pure Tryz.prog 312 [dLI l,dI n] (dLI (b6 l n)):=by
 refine Tz.pK ⟨fun t=>t==5,fun _=>[]⟩ Tryz.func312 rfl (fun Q hQ=>?_)
 have Y:=trivial
 refine wv (h:=bP (fun i e H=>∃ xs:List Int,(e 0=dLI l∧e 7=dI n∧e 5=.own 0 xs.length∧e 8=dI i)∧(H.get 0=some ⟨3,1,xs.map cI,false⟩)∧(0<H.next)∧(i≤n)∧(xs.length≤i)∧(xs=((List.range i).filter fun (b:Nat)=>!mem l b).map (fun (b:Nat)=>(b:Int)))) (fun i=>n - i) 0 ⟨([]),wg,wn,wn,wi,(by simp),(by rfl)⟩ fun I0 hI0 i e H hi0=>?_)
 obtain ⟨xs,E0,g0_0,n0_0,hi,hl,hx⟩:=hi0
 have Y:=wa Y (wa E0 (wa g0_0 (b5 n0_0)))
 refine dO (fun h3=>?_) fun h3=>?_
 ·have Y:=wa Y h3
  refine wo (h:=aB (fL l i) wl ?_)
  refine fJ (fun h5=>?_) fun h5=>?_
  ·have Y:=wa Y h5
   exact wo (h:=wx hI0 (i+1) ⟨(xs++(if (!mem l i)=true then [(i:Int)] else [])),wg,wn,wn,wj,(by (rw [aI];split<;>simp<;>omega)),(by (rw [cJ,← hx]))⟩)
  ·have Y:=wa Y h5
   exact wo (h:=wx hI0 (i+1) ⟨(xs++(if (!mem l i)=true then [(i:Int)] else [])),wg,wn,wn,wj,(by (rw [aI];split<;>simp<;>omega)),(by (rw [cJ,← hx]))⟩)
 ·exact wv (h:=hQ _ _ (by simp [go_sem,Y,b6];rw [hx,show i=n by omega];simp))
def keptF (r:Rule):Int :=
 if subF r.left.graph r.keep≠0 then subF r.left.graph r.keep
 else if dE (bS r.left.graph r.keep) r.right.graph r.into≠0 then dE (bS r.left.graph r.keep) r.right.graph r.into
 else if u0 (bS r.left.graph r.keep) r.right.graph r.into=false then 11 else 0
structure Rule.ok (r:Rule):Prop where
 name:r.name.size≤100000
 k1:r.keep.nodes.length≤1000000
 k2:r.keep.edges.length≤1000000
 i1:r.into.nodes.length≤1000000
 i2:r.into.edges.length≤1000000
 cond:r.cond.ok
 size:r.cond.size≤1000000
theorem PY (r:Rule)(hr:r.ok):Pure Tryz.prog 216 [r.d] (dI (keptF r)):=by
 obtain ⟨_,hk1,hk2,hi1,hi2,_,_⟩:=hr
 refine Tz.pK ⟨fun t=>t==3||t==4,fun _=>[]⟩ Tryz.func216 rfl (fun Q hQ=>?_)
 have Y:=trivial
 refine wv (h:=aB (Cf r.left.graph r.keep hk1 hk2) wl ?_)
 refine dO (fun h2=>?_) fun h2=>?_
 ·have Y:=wa Y (wa h2 @keptF.eq_1)
  exact wv (h:=hQ _ _ wy)
 ·refine wv (h:=aB (mX (bS r.left.graph r.keep) r.right.graph r.into) wl ?_)
  refine dO (fun h5=>?_) fun h5=>?_
  ·have Y:=wa Y (wa h2 (wa h5 @keptF.eq_1))
   exact wv (h:=hQ _ _ wy)
  ·refine wo (h:=aB (qF (bS r.left.graph r.keep) r.right.graph r.into hi1 hi2) wl ?_)
   refine fJ (fun h7=>?_) fun h7=>?_
   ·have Y:=wa Y (wa h2 (wa h5 (wa h7 @keptF.eq_1)))
    exact wv (h:=hQ _ _ wy)
   ·have Y:=wa Y (wa h2 (wa h5 (wa h7 @keptF.eq_1)))
    exact wv (h:=hQ _ _ wy)
def absB (t:Types)(g:Graph)(i:Int):Bool:=((t.nodes[(gN g i).toNat]?).map (·.abs)).getD false
def unfitB (t:Types)(g:Graph)(k:Int):Bool:=!j4 t (g.edges[k.toNat]?.getD b7).type (gN g (g.edges[k.toNat]?.getD b7).from_) (gN g (g.edges[k.toNat]?.getD b7).to_)
def zX (t:Types)(g:Graph)(nodes edges:List Int):Bool:=(!(nodes.any (absB t g)))&&!(edges.any (unfitB t g))
theorem iV {t:Types}{g:Graph}(h0:graphF g=0)(h:dP t g=true):(∀ a∈g.nodes,0≤a∧a<t.nodes.length)∧∀ x∈g.edges,(0≤x.type∧x.type<t.edges.length)∧(0≤x.from_∧x.from_<g.nodes.length)∧(0≤x.to_∧x.to_<g.nodes.length):=by
 obtain ⟨h1,h2⟩:=dL h0
 simp [dP] at h
 exact ⟨fun a ha=>⟨(h1 a ha).1,h.1 a ha⟩,fun x hx=>⟨⟨(h2 x hx).1.1,h.2 x hx⟩,(h2 x hx).2⟩⟩
theorem Hi (t:Types)(g:Graph)(h0:graphF g=0)(hT:dP t g=true)(i:Int)(hi0:0≤i)(hi1:i<g.nodes.length):Pure Tryz.prog 313 [dI i,.adr t.c,.adr g.c] (.bool (absB t g i)):=by
 have hk:i.toNat<g.nodes.length:=by omega
 have hin:=(iV h0 hT).1 _ (aC hk)
 have hn:g.nodes[i.toNat].toNat<t.nodes.length:=by omega
 refine Tz.pK ⟨fun _=>false,fun _=>[]⟩ Tryz.func313 rfl (fun Q hQ=>?_)
 have Y:=wa (aA hk) (aA hn)
 have Y:=wa Y (wa @absB.eq_1 @gN.eq_1)
 exact wo (h:=hQ _ _ wy)
theorem Hh (t:Types)(ht:t.ok)(g:Graph)(h0:graphF g=0)(hT:dP t g=true)(k:Int)(hi0:0≤k)(hi1:k<g.edges.length):Pure Tryz.prog 314 [dI k,.adr g.c,.adr t.c] (.bool (unfitB t g k)):=by
 have hk:k.toNat<g.edges.length:=by omega
 have hin:=(iV h0 hT).2 _ (aC hk)
 have hf:g.edges[k.toNat].from_.toNat<g.nodes.length:=by omega
 have hto:g.edges[k.toNat].to_.toNat<g.nodes.length:=by omega
 refine Tz.pK ⟨fun t=>t==5,fun _=>[]⟩ Tryz.func314 rfl (fun Q hQ=>?_)
 have Y:=wa (aA hk) (wa (aA hf) (aA hto))
 refine wo (h:=aQ (EF t ht _ _ _) wl ?_)
 have Y:=wa Y (wa @unfitB.eq_1 @gN.eq_1)
 exact wo (h:=hQ _ _ wy)
theorem Js (t:Types)(ht:t.ok)(g:Graph)(h0:graphF g=0)(hT:dP t g=true)(nodes edges:List Int)(hn:∀ i∈nodes,0≤i∧i<g.nodes.length)(he:∀ k∈edges,0≤k∧k<g.edges.length):Pure Tryz.prog 218 [t.d,g.d,dLI nodes,dLI edges] (.bool (zX t g nodes edges)):=by
 have h1:=fB nodes 313 [.adr t.c,.adr g.c] (absB t g) (by simp [go_sem]) (by simp [go_sem]) (fun i hi=>Hi t g h0 hT i (hn i hi).1 (hn i hi).2)
 have h2:=fB edges 314 [.adr g.c,.adr t.c] (unfitB t g) (by simp [go_sem]) (by simp [go_sem]) (fun k hk=>Hh t ht g h0 hT k (he k hk).1 (he k hk).2)
 have hM:zX t g nodes edges=((!(nodes.any (absB t g)))&&!(edges.any (unfitB t g))):=rfl
 generalize nodes.any (absB t g)=u at *
 generalize edges.any (unfitB t g)=v at *
 rw [hM]
 refine Tz.pK ⟨fun _=>false,fun _=>[]⟩ Tryz.func218 rfl (fun Q hQ=>?_)
 have Y:=trivial
 refine wo (h:=aB (h1) wl ?_)
 refine wo (h:=aO (fun hg=>h2) (fun hg=>wl) ?_)
 exact wo (h:=hQ _ _ wy)
def Rule.freshN (r:Rule):List Int:=b6 r.into.nodes r.right.graph.nodes.length
def Rule.freshE (r:Rule):List Int:=b6 r.into.edges r.right.graph.edges.length
theorem Jt (r:Rule)(h1:r.right.graph.nodes.length≤1000000)(h2:r.right.graph.edges.length≤1000000):Pure Tryz.prog 217 [r.d] (.tup [dLI r.freshN,dLI r.freshE]):=by
 refine Tz.pK ⟨fun _=>false,fun _=>[]⟩ Tryz.func217 rfl (fun Q hQ=>?_)
 have Y:=trivial
 refine wo (h:=aQ (Dk r.into.nodes _ h1) wl ?_)
 refine wo (h:=aQ (Dk r.into.edges _ h2) wl ?_)
 have Y:=wa Y (wa @Rule.freshN.eq_1 @Rule.freshE.eq_1)
 exact wo (h:=hQ _ _ wy)
def ruleF (t:Types)(r:Rule):Int :=
 if (b9 t).2≠0 then (b9 t).2
 else if fT r.name=false then 2
 else if bN t r.left≠0 then bN t r.left
 else if kC t r≠0 then kC t r
 else if keptF r≠0 then keptF r
 else if zX t r.right.graph r.freshN r.freshE=false then 13
 else condF t r.left r.cond
theorem HZ {t:Types}{r:Rule}(h:kC t r=0):graphF r.right.graph=0∧dP t r.right.graph=true:=by
 unfold kC at h
 split at h
 ·rename_i h1;exact absurd h h1
 ·rename_i h1
  split at h
  ·cases h
  ·rename_i h2;exact ⟨by omega,by simpa using h2⟩
theorem Nz (t:Types)(ht:t.ok)(r:Rule)(hr:r.ok):Pure Tryz.prog 130 [t.d,r.d] (dI (ruleF t r)):=by
 have hcv:=vZ t ht r.left r.cond hr.cond hr.size
 rw [Cond.c_eq] at hcv
 refine Tz.pK ⟨fun _=>false,fun _=>[]⟩ Tryz.func130 rfl (fun Q hQ=>?_)
 have Y:=trivial
 refine wv (h:=aB (mE t ht) wl ?_)
 refine dO (fun h2=>?_) fun h2=>?_
 ·have Y:=wa Y (wa h2 @ruleF.eq_1)
  exact wv (h:=hQ _ _ wy)
 ·refine wo (h:=aB (mR r.name hr.name) wl ?_)
  refine fJ (fun h4=>?_) fun h4=>?_
  ·have Y:=wa Y (wa h2 (wa h4 @ruleF.eq_1))
   exact wv (h:=hQ _ _ wy)
  ·refine wv (h:=aB (l8 t ht r.left) wl ?_)
   refine dO (fun h7=>?_) fun h7=>?_
   ·have Y:=wa Y (wa h2 (wa h4 (wa h7 @ruleF.eq_1)))
    exact wv (h:=hQ _ _ wy)
   ·refine wv (h:=aB (Ny t ht r) wl ?_)
    refine dO (fun h10=>?_) fun h10=>?_
    ·have Y:=wa Y (wa h2 (wa h4 (wa h7 (wa h10 @ruleF.eq_1))))
     exact wv (h:=hQ _ _ wy)
    ·have hg:=HZ h10
     have hgl:=cC hg.1
     refine wv (h:=aB (PY r hr) wl ?_)
     refine dO (fun h13=>?_) fun h13=>?_
     ·have Y:=wa Y (wa h2 (wa h4 (wa h7 (wa h10 (wa h13 @ruleF.eq_1)))))
      exact wv (h:=hQ _ _ wy)
     ·refine wv (h:=aB (Jt r (by omega) (by omega)) wl ?_)
      refine wo (h:=aB (Js t ht r.right.graph hg.1 hg.2 r.freshN r.freshE (fun i hi=>mF hi) (fun i hi=>mF hi)) wl ?_)
      refine fJ (fun h16=>?_) fun h16=>?_
      ·have Y:=wa Y (wa h2 (wa h4 (wa h7 (wa h10 (wa h13 (wa h16 @ruleF.eq_1))))))
       exact wv (h:=hQ _ _ wy)
      ·refine wv (h:=aB (hcv) wl ?_)
       have Y:=wa Y (wa h2 (wa h4 (wa h7 (wa h10 (wa h13 (wa h16 @ruleF.eq_1))))))
       exact wv (h:=hQ _ _ wy)
def eL (im keep:List Int):List Int:=((List.range im.length).filter fun (i:Nat)=>!mem keep i).map fun i=>im[i]?.getD 0
def DQ (g:Graph)(me gone:List Int)(k:Nat):Bool:=!mem me k&&(mem gone (g.edges[k]?.getD b7).from_||mem gone (g.edges[k]?.getD b7).to_)
def Gu (g:Graph)(me gone:List Int):List Int:=((List.range g.edges.length).filter (DQ g me gone)).map fun (b:Nat)=>(b:Int)
def AA (im keep:List Int)(i k:Nat):Bool:=decide (im[i]?.getD 0=im[k]?.getD 0)&&(!mem keep i||!mem keep k)
def nB (im keep:List Int)(i j:Nat):List (Nat × Nat):=((List.range j).filter fun b=>AA im keep i (i+1+b)).map fun b=>(i,i+1+b)
def J0 (im keep:List Int)(n:Nat):List (Nat × Nat):=(List.range n).flatMap fun i=>nB im keep i (im.length - (i+1))
def vD (im keep:List Int):List (Nat × Nat):=J0 im keep im.length
def cPr (p:Nat × Nat):List D:=[dI p.1,dI p.2]
@[go_sem] theorem U4 (p:Nat × Nat):D.clL (cPr p)=true:=rfl
@[go_sem] theorem Y9 (l:List (Nat × Nat)):D.clLL (l.map cPr)=true:=c4 _ U4 l
theorem Mu (im keep:List Int)(i j:Nat):nB im keep i (j+1)=nB im keep i j++(if AA im keep i (i+1+j)=true then [(i,i+1+j)] else []):=by
 unfold nB
 rw [bJ,fP,List.map_append]
 congr 1
 by_cases h:AA im keep i (i+1+j)=true<;>simp [h]
theorem IK (im keep:List Int)(n:Nat):J0 im keep (n+1)=J0 im keep n++nB im keep n (im.length - (n+1)):=by
 unfold J0;rw [bJ,List.flatMap_append];simp
theorem Gp (im keep:List Int)(i j:Nat):(nB im keep i j).length≤j:=by
 unfold nB;rw [bA];exact c6 (e9 _ _) (by simp)
theorem BF (im keep:List Int):∀ n,(J0 im keep n).length≤n * im.length
 | 0=>by simp [J0]
 | n+1=>by
  have h1:=BF im keep n
  have h2:=Gp im keep n (im.length - (n+1))
  rw [IK,aI,Nat.add_mul]
  omega
theorem u6 (im keep:List Int){i:Nat}(h:i<im.length):((List.range (i+1)).filter fun (i:Nat)=>!mem keep i).map (fun i=>im[i]?.getD 0)=((List.range i).filter fun (i:Nat)=>!mem keep i).map (fun i=>im[i]?.getD 0)++(if (!mem keep i)=true then [im[i]] else []):=by
 rw [bJ,fP,List.map_append]
 congr 1
 by_cases hm:(!mem keep i)=true
 ·rw [if_pos hm];simp at hm;simp [hm,h]
 ·rw [if_neg hm];simp at hm;simp [hm]
theorem CN {im keep:List Int}{x:Int}:x∈eL im keep↔∃ i:Nat,i<im.length∧mem keep i=false∧im[i]?=some x:=by
 unfold eL
 simp only [aT,dN,bK,cQ]
 constructor
 ·rintro ⟨i,⟨h1,h2⟩,h3⟩
  rw [aA h1] at h3
  exact ⟨i,h1,h2,by rw [aA h1];exact congrArg some h3⟩
 ·rintro ⟨i,h1,h2,h3⟩
  exact ⟨i,⟨h1,h2⟩,by rw [h3];rfl⟩
def compG (l g:Graph)(keep m:Part):Int:=if dE l g m≠0 then dE l g m else subF l keep
def xZ (l g:Graph)(keep m:Part):Int :=
 if compG l g keep m≠0 then compG l g keep m
 else if 0<(vD m.nodes keep.nodes).length+(vD m.edges keep.edges).length then 15
 else if 0<(Gu g m.edges (eL m.nodes keep.nodes)).length then 14 else 0
def z8 (l g:Graph)(keep m:Part):Part:=if xZ l g keep m=0 then ⟨b6 (eL m.nodes keep.nodes) g.nodes.length,b6 (eL m.edges keep.edges) g.edges.length⟩ else ⟨[],[]⟩
theorem R2 {g:Graph}{me gone:List Int}{k:Nat}(h:k<g.edges.length):DQ g me gone k=(!mem me k&&(mem gone g.edges[k].from_||mem gone g.edges[k].to_)):=by
 unfold DQ;rw [aA h];rfl
theorem UW {im keep:List Int}{i k:Nat}(hi:i<im.length)(hk:k<im.length):AA im keep i k=(decide (im[i]=im[k])&&(!mem keep i||!mem keep k)):=by
 unfold AA;rw [aA hi,aA hk];rfl
theorem CT (im keep:List Int){i k:Nat}(h:i+1≤k):nB im keep i (k+1 - (i+1))=nB im keep i (k - (i+1))++(if AA im keep i k=true then [(i,k)] else []):=by
 rw [show k+1 - (i+1)=(k - (i+1))+1 by omega,Mu,show i+1+(k - (i+1))=k by omega]
theorem Mv {im keep:List Int}(h:im.length≤1000):(vD im keep).length≤1000000:=by
 have h1:=BF im keep im.length
 have h2:im.length * im.length≤1000 * 1000:=lG h h
 unfold vD;omega
theorem uB (im keep:List Int)(hn:im.length≤1000):Pure Tryz.prog 325 [dLI im,dLI keep] (.list ((vD im keep).map cPr)):=by
 refine Tz.pK ⟨fun t=>t==5,fun _=>[]⟩ Tryz.func325 rfl (fun Q hQ=>?_)
 have Y:=trivial
 refine wo (h:=bP (fun i e H=>∃ xs:List (Nat × Nat),(e 0=dLI im∧e 1=dLI keep∧e 9=dI im.length∧e 5=.own 0 xs.length∧e 10=dI i)∧(H.get 0=some ⟨395,2,xs.map cPr,false⟩)∧(0<H.next)∧(i≤im.length)∧(xs=J0 im keep i)) (fun i=>im.length - i) 0 ⟨([]),wg,wn,wn,wi,(by rfl)⟩ fun I0 hI0 i e H hi0=>?_)
 obtain ⟨xs,E0,g0_0,n0_0,hi,hx⟩:=hi0
 have Y:=wa Y (wa E0 (wa g0_0 (b5 n0_0)))
 refine dO (fun h3=>?_) fun h3=>?_
 ·have Y:=wa Y (wa h3 (aA h3))
  refine wo (h:=bP (fun k e H=>∃ ys:List (Nat × Nat),(e 0=dLI im∧e 1=dLI keep∧e 9=dI im.length∧e 5=.own 0 ys.length∧e 6=dI i∧e 10=dI i∧e 7=dI k)∧(H.get 0=some ⟨395,2,ys.map cPr,false⟩)∧(0<H.next)∧(i+1≤k)∧(k≤im.length)∧(ys=xs++nB im keep i (k - (i+1)))∧(ys.length≤1000000)) (fun k=>im.length - k) (i+1) ⟨xs,wg,wn,wn,wi,wi,(by (simp [nB])),(by (have:=BF im keep i;have:i * im.length≤1000 * 1000:=lG (by omega) hn;rw [hx];omega))⟩ fun I2 hI2 k e H hi2=>?_)
  obtain ⟨ys,E2,g0_2,n0_2,hk1,hk2,hy,hyl⟩:=hi2
  have Y:=wa Y (wa E2 (wa g0_2 (b5 n0_2)))
  refine fJ (fun h6=>?_) fun h6=>?_
  ·have hd:=UW (keep:=keep) h3 h6
   have hyl2:(ys++(if AA im keep i k=true then [(i,k)] else [])).length≤1000000:=by
    have e1:ys++(if AA im keep i k=true then [(i,k)] else [])=J0 im keep i++nB im keep i (k+1 - (i+1)):=by rw [CT _ _ (by omega),← List.append_assoc,hy,hx]
    rw [e1,aI]
    have h1:=BF im keep i
    have h2:=Gp im keep i (k+1 - (i+1))
    have h3:i * im.length+im.length≤1000 * 1000:=by
     have:=lG (show i+1≤1000 by omega) hn
     rw [Nat.add_mul] at this;omega
    omega
   have Y:=wa Y (wa h3 (wa (aA h3) (wa h6 (aA h6))))
   refine wo (h:=eC (fun hg=>fL keep i) (fun hg=>wl) ?_)
   refine wo (h:=eC (fun hg=>fL keep k) (fun hg=>wl) ?_)
   refine fJ (fun h8=>?_) fun h8=>?_
   ·have hdt:AA im keep i k=true:=by rw [hd];simpa using h8
    have Y:=wa Y (wa hdt @cPr.eq_1)
    exact wo (h:=wx hI2 (k+1) ⟨(ys++(if AA im keep i k=true then [(i,k)] else [])),wg,wn,wn,wj,wj,(by (rw [CT _ _ (by omega),← List.append_assoc,← hy])),(by (exact hyl2))⟩)
   ·have hdf:AA im keep i k=false:=by rw [hd,bX];intro hb;simp at hb;simp_all
    have Y:=wa Y hdf
    exact wo (h:=wx hI2 (k+1) ⟨(ys++(if AA im keep i k=true then [(i,k)] else [])),wg,wn,wn,wj,wj,(by (rw [CT _ _ (by omega),← List.append_assoc,← hy])),(by (exact hyl2))⟩)
  ·have hJ:k=im.length:=by omega
   subst hJ
   subst hy
   exact wo (h:=wx hI0 (i+1) ⟨(xs++nB im keep i (im.length - (i+1))),wg,wn,wn,wj,(by (rw [IK,← hx]))⟩)
 ·have hX:vD im keep=xs:=by rw [hx,show i=im.length by omega];rfl
  exact wv (h:=hQ _ _ (by simp [go_sem,Y,hX]))
def rW (n:Nat)(l:List Int):List Bool:=l.foldl (fun acc x=>acc.set x.toNat true) (List.replicate n false)
theorem FK (n:Nat)(l:List Int)(x:Int):rW n (l++[x])=(rW n l).set x.toNat true:=by unfold rW;rw [jU];rfl
theorem CB (n:Nat)(l:List Int):(rW n l).length=n:=by
 unfold rW
 have:∀ (l:List Int) (a:List Bool),a.length=n→(l.foldl (fun acc x=>acc.set x.toNat true) a).length=n:=by
  intro l
  induction l with
  | nil=>intro a h;exact h
  | cons x l ih=>intro a h;exact ih _ (by simpa using h)
 exact this l _ (by simp)
theorem Qt (n : Nat) : ∀ (l : List Int), (∀ x ∈ l, 0 ≤ x ∧ x < n) → ∀ i : Nat, i < n → (rW n l)[i]? = some (mem l i) := by
  have : ∀ (l : List Int) (a : List Bool), a.length = n → (∀ x ∈ l, 0 ≤ x ∧ x < n) → ∀ i : Nat, i < n → (l.foldl (fun acc x => acc.set x.toNat true) a)[i]? = some (a[i]?.getD false || mem l i) := by
    intro l
    induction l with
    | nil => intro a ha _ i hi; rw [List.foldl_nil, aA (by omega), pP]; simp
    | cons x l ih =>
      intro a ha hl i hi
      have hx := hl x (by simp)
      rw [AO, ih _ (by simpa using ha) (fun y hy => hl y (by simp [hy])) i hi]
      congr 1
      have hm : mem (x :: l) (i : Int) = (decide ((i : Int) = x) || mem l i) := by
        rw [aS, dA, cG, dA, decide_eq_true_eq, bM]
      rw [hm]
      by_cases he : x.toNat = i
      · subst he
        rw [nJ (by omega)]
        have : ((x.toNat : Nat) : Int) = x := by omega
        simp [this]
      · rw [zN he]
        have : ¬ ((i : Int) = x) := by omega
        simp [this]
  intro l hl i hi
  unfold rW
  rw [this l _ (by simp) hl i hi]
  simp [hi]
theorem v7 (n:Nat)(hn:n≤1000000)(im keep:List Int)(hi1:im.length≤1000000)(him:∀ x∈im,0≤x∧x<n):Pure Tryz.prog 231 [dI n,dLI im,dLI keep] (dLI (b6 (eL im keep) n)):=by
 refine Tz.pK ⟨fun t=>t==14||t==10,fun _=>[]⟩ Tryz.func231 rfl (fun Q hQ=>?_)
 have Y:=trivial
 refine wo (h:=bP (fun i e H=>∃ go:List Int,(e 0=dI n∧e 2=dLI keep∧e 15=dLI im∧e 16=dI im.length∧e 7=.own 0 n∧e 17=dI i)∧(H.get 0=some ⟨4,1,(rW n go).map cB,false⟩)∧(0<H.next)∧(i≤im.length)∧((rW n go).length=n)∧(go=((List.range i).filter fun (b:Nat)=>!mem keep b).map (fun i=>im[i]?.getD 0))) (fun i=>im.length - i) 0 ⟨([]),wg,(by (simp [go_sem,rW,cB])),wn,wi,(by (exact CB _ _)),(by rfl)⟩ fun I0 hI0 i e H hi0=>?_)
 obtain ⟨go,E0,g0_0,n0_0,hi,hgl,hx⟩:=hi0
 have Y:=wa Y (wa E0 (wa g0_0 (b5 n0_0)))
 refine dO (fun h3=>?_) fun h3=>?_
 ·have hb:=him _ (aC h3)
  have hbl:im[i].toNat<(rW n go).length:=by omega
  have Y:=wa Y (wa h3 (wa (aA h3) (aA hbl)))
  refine wo (h:=aB (fL keep i) wl ?_)
  refine fJ (fun h5=>?_) fun h5=>?_
  ·have Y:=wa Y h5
   exact wo (h:=wx hI0 (i+1) ⟨(go++(if (!mem keep i)=true then [im[i]] else [])),wg,(by (simp [go_sem,Y,FK,dR,cB])),wn,wj,(by (exact CB _ _)),(by (rw [u6 _ _ h3,← hx]))⟩)
  ·have Y:=wa Y h5
   exact wo (h:=wx hI0 (i+1) ⟨(go++(if (!mem keep i)=true then [im[i]] else [])),wg,(by (simp [go_sem,Y,FK,dR,cB])),wn,wj,(by (exact CB _ _)),(by (rw [u6 _ _ h3,← hx]))⟩)
 ·have hgo:eL im keep=go:=by rw [hx,show i=im.length by omega];rfl
  have hgi:∀ x∈go,0≤x∧x<n:=fun x hxm=>by
   rw [← hgo,CN] at hxm
   obtain ⟨j,_,_,h⟩:=hxm
   exact him x (aH h)
  refine wo (h:=bP (fun k e H=>∃ xs:List Int,∃ b10:Nat,(e 0=dI n∧e 2=dLI keep∧e 15=dLI im∧e 16=dI im.length∧e 30=.own 0 n∧e 31=dI n∧e 32=dI k∧e 10=.own b10 xs.length)∧(H.get 0=some ⟨4,1,(rW n go).map cB,false⟩)∧(0<H.next)∧(H.get b10=some ⟨3,1,xs.map cI,false⟩)∧(b10<H.next)∧(b10≠0)∧(k≤n)∧(xs.length≤k)∧(xs=((List.range k).filter fun (b:Nat)=>!mem go b).map (fun (b:Nat)=>(b:Int)))) (fun k=>n - k) 0 ⟨([]),H.next,wg,wn,wn,wn,wn,(by omega),wi,(by simp),(by rfl)⟩ fun I2 hI2 k e H hi2=>?_)
  obtain ⟨xs,b10,E2,g0_2,n0_2,gb10_2,nb10_2,hb0,hk,hl,hxx⟩:=hi2
  have di1:=cY (show 0≠b10 by omega)
  have Y:=wa Y (wa E2 (wa g0_2 (wa (b5 n0_2) (wa gb10_2 (wa (b5 nb10_2) (wa hgl di1))))))
  refine dO (fun h10=>?_) fun h10=>?_
  ·have hkm:k<(rW n go).length:=by omega
   have hg:(rW n go)[k]=mem go k:=by have:=Qt n go hgi k h10;rw [aA hkm] at this;exact Option.some.inj this
   have Y:=wa Y (wa h10 (wa (aA hkm) hg))
   refine fJ (fun h12=>?_) fun h12=>?_
   ·have Y:=wa Y h12
    exact wo (h:=wx hI2 (k+1) ⟨(xs++(if (!mem go k)=true then [(k:Int)] else [])),b10,wg,wn,wn,wn,wn,(by omega),wj,(by (rw [aI];split<;>simp<;>omega)),(by (rw [cJ,← hxx]))⟩)
   ·have Y:=wa Y h12
    exact wo (h:=wx hI2 (k+1) ⟨(xs++(if (!mem go k)=true then [(k:Int)] else [])),b10,wg,wn,wn,wn,wn,(by omega),wj,(by (rw [aI];split<;>simp<;>omega)),(by (rw [cJ,← hxx]))⟩)
  ·exact wv (h:=hQ _ _ (by simp [go_sem,Y,hgo,b6];rw [hxx,show k=n by omega];simp))
def gluC (l g:Graph)(keep m:Part):List D:=[dLI l.nodes,.list (l.edges.map Edge.c),dLI g.nodes,.list (g.edges.map Edge.c),dLI keep.nodes,dLI keep.edges,dLI m.nodes,dLI m.edges]
theorem CW (l g:Graph)(keep m:Part)(hk:keep.nodes.length≤1000000):Pure Tryz.prog 228 [.agg (gluC l g keep m)] (dI (compG l g keep m)):=by
 refine Tz.pK ⟨fun _=>false,fun _=>[]⟩ Tryz.func228 rfl (fun Q hQ=>?_)
 have Y:=@gluC.eq_1
 refine wv (h:=aB (mX l g m) wl ?_)
 refine dO (fun h2=>?_) fun h2=>?_
 ·have Y:=wa Y (wa h2 @compG.eq_1)
  exact wv (h:=hQ _ _ wy)
 ·refine wv (h:=aB (wS l keep hk) wl ?_)
  have Y:=wa Y (wa h2 @compG.eq_1)
  exact wv (h:=hQ _ _ wy)
theorem AD (l g:Graph)(keep m:Part)(hn:m.nodes.length≤1000000):Pure Tryz.prog 326 [.agg (gluC l g keep m)] (dLI (eL m.nodes keep.nodes)):=by
 refine Tz.pK ⟨fun t=>t==3,fun _=>[]⟩ Tryz.func326 rfl (fun Q hQ=>?_)
 have Y:=@gluC.eq_1
 refine wo (h:=bP (fun i e H=>∃ xs:List Int,(e 1=.adr (gluC l g keep m)∧e 8=dLI m.nodes∧e 9=dI m.nodes.length∧e 3=.own 0 xs.length∧e 10=dI i)∧(H.get 0=some ⟨3,1,xs.map cI,false⟩)∧(0<H.next)∧(i≤m.nodes.length)∧(xs.length≤i)∧(xs=((List.range i).filter fun (b:Nat)=>!mem keep.nodes b).map (fun i=>m.nodes[i]?.getD 0))) (fun i=>m.nodes.length - i) 0 ⟨([]),wg,wn,wn,wi,(by simp),(by rfl)⟩ fun I0 hI0 i e H hi0=>?_)
 obtain ⟨xs,E0,g0_0,n0_0,hi,hl,hx⟩:=hi0
 have Y:=wa Y (wa E0 (wa g0_0 (b5 n0_0)))
 refine dO (fun h3=>?_) fun h3=>?_
 ·have Y:=wa Y (wa h3 (aA h3))
  refine wo (h:=aB (fL keep.nodes i) wl ?_)
  refine fJ (fun h5=>?_) fun h5=>?_
  ·have Y:=wa Y h5
   exact wo (h:=wx hI0 (i+1) ⟨(xs++(if (!mem keep.nodes i)=true then [m.nodes[i]] else [])),wg,wn,wn,wj,(by (rw [aI];split<;>simp<;>omega)),(by (rw [u6 _ _ h3,← hx]))⟩)
  ·have Y:=wa Y h5
   exact wo (h:=wx hI0 (i+1) ⟨(xs++(if (!mem keep.nodes i)=true then [m.nodes[i]] else [])),wg,wn,wn,wj,(by (rw [aI];split<;>simp<;>omega)),(by (rw [u6 _ _ h3,← hx]))⟩)
 ·refine wv (h:=?_)
  have hX:eL m.nodes keep.nodes=xs:=by rw [hx,show i=m.nodes.length by omega];rfl
  exact hQ _ _ (by simp [go_sem,Y,hX])
theorem zI (l g:Graph)(keep m:Part)(hn:m.nodes.length≤1000000)(hg:g.edges.length≤1000000):Pure Tryz.prog 230 [.agg (gluC l g keep m)] (dLI (Gu g m.edges (eL m.nodes keep.nodes))):=by
 obtain ⟨go,hgo⟩:∃ go,eL m.nodes keep.nodes=go:=⟨_,rfl⟩
 refine Tz.pK ⟨fun t=>t==6||t==4,fun _=>[]⟩ Tryz.func230 rfl (fun Q hQ=>?_)
 have Y:=wa hgo @gluC.eq_1
 refine wv (h:=aB ((by have:=AD l g keep m hn;simp only [gluC] at this;exact this)) wl ?_)
 refine wo (h:=bP (fun k e H=>∃ xs:List Int,(e 1=.adr (gluC l g keep m)∧e 3=dLI go∧e 11=.list (g.edges.map Edge.c)∧e 12=dI g.edges.length∧e 4=.own 0 xs.length∧e 13=dI k)∧(H.get 0=some ⟨3,1,xs.map cI,false⟩)∧(0<H.next)∧(k≤g.edges.length)∧(xs.length≤k)∧(xs=((List.range k).filter (DQ g m.edges go)).map (fun (b:Nat)=>(b:Int)))) (fun k=>g.edges.length - k) 0 ⟨([]),wg,wn,wn,wi,(by simp),(by rfl)⟩ fun I0 hI0 k e H hi0=>?_)
 obtain ⟨xs,E0,g0_0,n0_0,hi,hl,hx⟩:=hi0
 have Y:=wa Y (wa E0 (wa g0_0 (b5 n0_0)))
 refine dO (fun h4=>?_) fun h4=>?_
 ·have hdb:=R2 (me:=m.edges) (gone:=go) h4
  have c1:=fL go g.edges[k].from_
  have c2:=fL go g.edges[k].to_
  have Y:=wa Y (wa h4 (wa (aA h4) (wa hdb @Edge.c.eq_1)))
  refine wo (h:=aB (fL m.edges k) wl ?_)
  refine wo (h:=aO (fun hg=>c1) (fun hg=>wl) ?_)
  refine wo (h:=aO (fun hg=>c2) (fun hg=>wl) ?_)
  refine fJ (fun h6=>?_) fun h6=>?_
  ·have Y:=wa Y h6
   exact wo (h:=wx hI0 (k+1) ⟨(xs++(if DQ g m.edges go k=true then [(k:Int)] else [])),wg,wn,wn,wj,(by (rw [aI];split<;>simp<;>omega)),(by (rw [cJ,← hx]))⟩)
  ·have Y:=wa Y h6
   exact wo (h:=wx hI0 (k+1) ⟨(xs++(if DQ g m.edges go k=true then [(k:Int)] else [])),wg,wn,wn,wj,(by (rw [aI];split<;>simp<;>omega)),(by (rw [cJ,← hx]))⟩)
 ·refine wv (h:=?_)
  have hX:Gu g m.edges go=xs:=by rw [hx,show k=g.edges.length by omega];rfl
  exact hQ _ _ (by simp [go_sem,Y,hX])
theorem wJ (l g:Graph)(keep m:Part)(h1:m.nodes.length≤1000)(h2:m.edges.length≤1000):Pure Tryz.prog 229 [.agg (gluC l g keep m)] (.tup [.list ((vD m.nodes keep.nodes).map cPr),.list ((vD m.edges keep.edges).map cPr)]):=by
 refine Tz.pK ⟨fun _=>false,fun _=>[]⟩ Tryz.func229 rfl (fun Q hQ=>?_)
 have Y:=@gluC.eq_1
 refine wv (h:=aQ (uB m.nodes keep.nodes h1) wl ?_)
 refine wv (h:=aQ (uB m.edges keep.edges h2) wl ?_)
 exact wv (h:=hQ _ _ wy)
theorem yN {a b:Graph}{m:Part}(h:dE a b m=0):(∀ x∈m.nodes,0≤x∧x<b.nodes.length)∧∀ x∈m.edges,0≤x∧x<b.edges.length:=by
 obtain ⟨_,_,h3,h4⟩:=mD h
 have hM:dE a b m=(if bR (i6 a b m) 0 a.nodes.length≠0 then bR (i6 a b m) 0 a.nodes.length else bR (jF a b m) 0 a.edges.length):=by
  obtain ⟨g1,g2,_,_⟩:=mD h
  unfold dE;rw [if_neg (by simp [g1]),if_neg (by simp [g2]),if_neg (by omega)]
 rw [hM] at h
 split at h
 ·rename_i h5;exact absurd h h5
 ·rename_i h5
  constructor
  ·intro x hx
   obtain ⟨i,hi,rfl⟩:=aN hx
   have:=dY _ _ (show bR (i6 a b m) 0 a.nodes.length=0 by omega) i (by omega) (by omega)
   unfold i6 at this
   rw [aA hi] at this
   simp only [aD] at this
   split at this<;>omega
  ·intro x hx
   obtain ⟨i,hi,rfl⟩:=aN hx
   have:=dY _ _ h i (by omega) (by omega)
   unfold jF at this
   rw [aA hi] at this
   simp only [aD] at this
   split at this<;>omega
theorem HA (l g:Graph)(keep m:Part)(hk:keep.nodes.length≤1000000)(hm1:m.nodes.length≤1000)(hm2:m.edges.length≤1000)(hg1:g.nodes.length≤1000000)(hg2:g.edges.length≤1000000):Pure Tryz.prog 136 [l.d,g.d,keep.d,m.d] (.tup [(z8 l g keep m).d,dI (xZ l g keep m)]):=by
 have hd1:=Mv (keep:=keep.nodes) hm1
 have hd2:=Mv (keep:=keep.edges) hm2
 refine Tz.pK ⟨fun t=>t==8||t==10,fun _=>[]⟩ Tryz.func136 rfl (fun Q hQ=>?_)
 have Y:=trivial
 refine wv (h:=aB ((by have:=CW l g keep m hk;simp only [gluC] at this;exact this)) wl ?_)
 refine dO (fun h3=>?_) fun h3=>?_
 ·have hC:xZ l g keep m=compG l g keep m:=if_pos h3
  have hZ:z8 l g keep m=⟨[],[]⟩:=if_neg (by rw [hC];exact h3)
  exact wv (h:=hQ _ _ (by simp [go_sem,hC,hZ]))
 ·have hC:xZ l g keep m=if 0<(vD m.nodes keep.nodes).length+(vD m.edges keep.edges).length then 15 else if 0<(Gu g m.edges (eL m.nodes keep.nodes)).length then 14 else 0:=if_neg (by rw [h3];simp)
  have hin:(∀ x∈m.nodes,0≤x∧x<g.nodes.length)∧∀ x∈m.edges,0≤x∧x<g.edges.length:=yN (a:=l) (by unfold compG at h3;by_cases hz:dE l g m=0;exact hz;rw [if_pos hz] at h3;exact h3)
  refine wv (h:=aB ((by have:=wJ l g keep m hm1 hm2;simp only [gluC] at this;exact this)) wl ?_)
  refine fJ (fun h6=>?_) fun h6=>?_
  ·rw [if_pos (by omega)] at hC
   have hZ:z8 l g keep m=⟨[],[]⟩:=if_neg (by rw [hC];simp)
   exact wv (h:=hQ _ _ (by simp [go_sem,hC,hZ]))
  ·rw [if_neg (by first|omega|simp [h6])] at hC
   refine wo (h:=aB ((by have:=zI l g keep m (by omega) hg2;simp only [gluC] at this;exact this)) wl ?_)
   refine fJ (fun h8=>?_) fun h8=>?_
   ·rw [if_pos (by omega)] at hC
    have hZ:z8 l g keep m=⟨[],[]⟩:=if_neg (by rw [hC];simp)
    exact wv (h:=hQ _ _ (by simp [go_sem,hC,hZ]))
   ·rw [if_neg (by first|omega|simp [h8])] at hC
    have hZ:z8 l g keep m=⟨b6 (eL m.nodes keep.nodes) g.nodes.length,b6 (eL m.edges keep.edges) g.edges.length⟩:=if_pos hC
    refine wo (h:=aQ (v7 g.nodes.length hg1 m.nodes keep.nodes (by omega) hin.1) wl ?_)
    refine wo (h:=aQ (v7 g.edges.length hg2 m.edges keep.edges (by omega) hin.2) wl ?_)
    exact wo (h:=hQ _ _ (by simp [go_sem,hC,hZ]))
def iP (s:ByteArray):Bool:=decide (40<(s.size:Int))
def sF (x:Attr):Bool:=iP x.name||decide (25<(x.names.length:Int))||x.names.any iP
def oF (n:NodeTy):Bool:=iP n.name||n.attrs.any sF
def y8 (x:EdgeTy):Bool:=iP x.name
def gW (l:List NodeTy):Nat:=(l.map fun n=>n.attrs.length).sum
def tY (t:Types):Bool:=decide ((t.nodes.length:Int)≤20)&&decide ((t.edges.length:Int)≤30)&&decide (gW t.nodes≤30)&&!(t.nodes.any oF)&&!(t.edges.any y8)
@[go_sem,simp] theorem TY:gW []=0:=rfl
theorem J9 (l:List NodeTy){i:Nat}(h:i<l.length):gW (l.take (i+1))=gW (l.take i)+l[i].attrs.length:=by
 unfold gW
 rw [aF h,List.map_append,List.sum_append];simp
theorem OO (l:List NodeTy)(i:Nat):gW (l.take i)≤gW l:=by
 have:gW l=gW (l.take i)+gW (l.drop i):=by
  unfold gW
  rw [← List.sum_append,← List.map_append,List.take_append_drop]
 omega
theorem QY {l:List NodeTy}{n:NodeTy}(h:n∈l):n.attrs.length≤gW l:=by
 induction l with
 | nil=>cases h
 | cons a l ih =>
  have e:gW (a :: l)=a.attrs.length+gW l:=by simp [gW]
  rcases bM.1 h with rfl|h
  ·omega
  ·have:=ih h;omega
theorem JY {t:Types}(h:tY t=true):t.ok:=by
 simp [tY] at h
 obtain ⟨⟨⟨⟨h1,h2⟩,h3⟩,h4⟩,h5⟩:=h
 refine ⟨fun n hn=>?_,fun x hx=>⟨?_⟩,by omega,by omega⟩
 ·have hl:=QY hn
  have:=h4 n hn
  simp [oF,iP] at this
  refine ⟨by omega,fun x hx=>?_,by omega⟩
  have hb:=this.2 x hx
  simp [sF,iP] at hb
  refine ⟨by omega,fun s hs=>?_,by omega⟩
  have:=hb.2 s hs
  omega
 ·have:=h5 x hx
  simp [y8,iP] at this
  omega
theorem H8 (t:Types)(ht:∀ n∈t.nodes,n.attrs.length≤1000000000000000):Pure Tryz.prog 59 [t.d] (.bool (tY t)):=by
 refine Tz.pK ⟨fun t=>t==6,fun _=>[]⟩ Tryz.func59 rfl (fun Q hQ=>?_)
 have Y:=trivial
 refine fJ (fun h1=>?_) fun h1=>?_
 ·refine wv (h:=?_)
  have hb:tY t=false:=by simp [tY];omega
  exact hQ _ _ (by simp [go_sem,hb])
 ·refine wv (h:=bP (fun i e H=>(e 1=.adr t.c∧e 3=dI (gW (t.nodes.take i))∧e 4=dI i)∧(i≤t.nodes.length)∧(gW (t.nodes.take i)≤30)∧((t.nodes.take i).any oF=false)) (fun i=>t.nodes.length - i) 0 ⟨wg,wi,(by (simp [gW])),(by rfl)⟩ fun I0 hI0 i e H hi0=>?_)
  obtain ⟨E0,hi,hs,ha⟩:=hi0
  have Y:=wa Y E0
  refine fJ (fun h5=>?_) fun h5=>?_
  ·have hst:=J9 t.nodes h5
   have hle:=OO t.nodes (i+1)
   have hn:=ht _ (aC h5)
   have Y:=wa Y (wa h5 hst)
   refine fJ (fun h8=>?_) fun h8=>?_
   ·refine wv (h:=?_)
    have hb:tY t=false:=by
     rcases h8 with h8|h8
     ·simp [tY];omega
     ·have:t.nodes.any oF=true:=aX.2 ⟨_,aC h5,by simp [oF,iP];omega⟩
      simp [tY,this]
    exact hQ _ _ (by simp [go_sem,hb])
   ·have hN:iP t.nodes[i].name=false:=by simp [iP];omega
    refine wv (h:=bP (fun k e H=>(e 1=.adr t.c∧e 3=dI (gW (t.nodes.take (i+1)))∧e 4=dI i∧e 5=dI k)∧(k≤t.nodes[i].attrs.length)∧((t.nodes[i].attrs.take k).any sF=false)) (fun k=>t.nodes[i].attrs.length - k) 0 ⟨wg,wi,(by rfl)⟩ fun I2 hI2 k e H hi2=>?_)
    obtain ⟨E2,hk,hb⟩:=hi2
    have Y:=wa Y E2
    refine fJ (fun h11=>?_) fun h11=>?_
    ·have Y:=wa Y h11
     refine fJ (fun h14=>?_) fun h14=>?_
     ·refine wv (h:=?_)
      have hbad:sF t.nodes[i].attrs[k]=true:=by simp [sF,iP];omega
      have hb2:t.nodes.any oF=true:=aX.2 ⟨_,aC h5,by unfold oF;rw [cG];right;exact aX.2 ⟨_,aC h11,hbad⟩⟩
      have hb3:tY t=false:=by simp [tY,hb2]
      exact hQ _ _ (by simp [go_sem,hb3])
     ·have hM:iP t.nodes[i].attrs[k].name=false:=by simp [iP];omega
      refine wv (h:=bP (fun m e H=>∃ j:Nat,(e 1=.adr t.c∧e 3=dI (gW (t.nodes.take (i+1)))∧e 4=dI i∧e 5=dI k∧e 6=.ptr j 1 0 0∧e 7=dI m)∧(H.get j=some ⟨186,4,[t.nodes[i].attrs[k].c],false⟩)∧(j<H.next)∧(m≤t.nodes[i].attrs[k].names.length)∧((t.nodes[i].attrs[k].names.take m).any iP=false)) (fun m=>t.nodes[i].attrs[k].names.length - m) 0 ⟨H.next,wg,wn,wn,wi,(by rfl)⟩ fun I4 hI4 m e H hi4=>?_)
      obtain ⟨j,E4,gj_4,nj_4,hm,hc⟩:=hi4
      have Y:=wa Y (wa E4 (wa gj_4 (b5 nj_4)))
      refine fJ (fun h17=>?_) fun h17=>?_
      ·have Y:=wa Y h17
       refine fJ (fun h19=>?_) fun h19=>?_
       ·refine wv (h:=?_)
        have hbad:sF t.nodes[i].attrs[k]=true:=by unfold sF;rw [cG];right;exact aX.2 ⟨_,aC h17,by simp [iP];omega⟩
        have hb2:t.nodes.any oF=true:=aX.2 ⟨_,aC h5,by unfold oF;rw [cG];right;exact aX.2 ⟨_,aC h11,hbad⟩⟩
        have hb3:tY t=false:=by simp [tY,hb2]
        exact hQ _ _ (by simp [go_sem,hb3])
       ·exact wo (h:=wx hI4 (m+1) ⟨j,wg,wn,wn,wj,(by (rw [dK _ _ _ h17,hc];simp [iP];omega))⟩)
      ·have hZ:=oG hc h17
       exact wo (h:=wx hI2 (k+1) ⟨wg,wj,(by (rw [dK _ _ _ h11,hb];simp [sF,hM,hZ];omega))⟩)
    ·have hA:=oG hb h11
     exact wo (h:=wx hI0 (i+1) ⟨wg,wj,(by omega),(by (rw [dK _ _ _ h5,ha];simp [oF,hN,hA]))⟩)
  ·have hNn:=oG ha h5
   rw [aP (by omega)] at hs
   refine wv (h:=bP (fun q e H=>(e 1=.adr t.c∧e 8=dI q)∧(q≤t.edges.length)∧((t.edges.take q).any y8=false)) (fun q=>t.edges.length - q) 0 ⟨wg,wi,(by rfl)⟩ fun I6 hI6 q e H hi6=>?_)
   obtain ⟨E6,hj,hd⟩:=hi6
   have Y:=wa Y E6
   refine fJ (fun h22=>?_) fun h22=>?_
   ·have Y:=wa Y h22
    refine fJ (fun h24=>?_) fun h24=>?_
    ·refine wv (h:=?_)
     have hb2:t.edges.any y8=true:=aX.2 ⟨_,aC h22,by simp [y8,iP];omega⟩
     have hb3:tY t=false:=by simp [tY,hb2]
     exact hQ _ _ (by simp [go_sem,hb3])
    ·exact wo (h:=wx hI6 (q+1) ⟨wg,wj,(by (rw [dK _ _ _ h22,hd];simp [y8,iP];omega))⟩)
   ·have hEe:=oG hd h22
    refine wv (h:=?_)
    have hb3:tY t=true:=by simp only [tY,hNn,hEe];simp;omega
    exact hQ _ _ (by simp [go_sem,hb3])
theorem D7 (a b:Graph)(m:Part):Pure Tryz.prog 300 [a.d,b.d,m.d] (.bool (u0 a b m)):=by
 refine Tz.pK ⟨fun _=>false,fun _=>[]⟩ Tryz.func300 rfl (fun Q hQ=>?_)
 have Y:=trivial
 refine wo (h:=aB (Dq a b m) wl ?_)
 refine wo (h:=aO (fun hg=>qA m.nodes) (fun hg=>wl) ?_)
 refine wo (h:=aO (fun hg=>qA m.edges) (fun hg=>wl) ?_)
 exact wo (h:=hQ _ _ (by simp [go_sem,u0,D0]))
theorem JA (c:Cond)(hc:c.short):Pure Tryz.prog 406 [.agg c.c] (.bool (bareB c)):=by
 obtain ⟨h1,h2,h3,h4,h5,h6⟩:=hc
 refine Tz.pK ⟨fun _=>false,fun _=>[]⟩ Tryz.func406 rfl (fun Q hQ=>?_)
 have Y:=@Cond.c_eq
 exact wo (h:=hQ _ _ (by simp [go_sem,bareB];rw [aS];simp;omega))
theorem Lj (c:Cond)(hc:c.short):Pure Tryz.prog 363 [.agg c.c] (.bool (pF c)):=by
 have hbare:∀ k':Int,k'=c.kind→Pure Tryz.prog 406 [.agg [dI k',.list (c.kids.map Cond.c),dLI c.map.nodes,dLI c.map.edges,dLI c.pattern.graph.nodes,.list (c.pattern.graph.edges.map Edge.c),.list (c.pattern.slots.map Slot.c),dI c.pattern.vars,.list (c.pattern.tests.map Test.c)]] (.bool (bareB c)):=by
  intro k' hk'
  have:=JA c hc
  rwa [Cond.c_eq,← hk'] at this
 refine Tz.pK ⟨fun _=>false,fun _=>[]⟩ Tryz.func363 rfl (fun Q hQ=>?_)
 have Y:=@Cond.c_eq
 refine dO (fun h2=>?_) fun h2=>?_
 ·have Y:=wa Y h2
  refine wo (h:=aO (fun hg=>(hbare _ (by omega))) (fun hg=>wl) ?_)
  exact wo (h:=hQ _ _ (by simp [go_sem,pF,Y]))
 ·have Y:=wa Y h2
  refine dO (fun h4=>?_) fun h4=>?_
  ·have Y:=wa Y h4
   refine wo (h:=aO (fun hg=>(hbare _ (by omega))) (fun hg=>wl) ?_)
   exact wo (h:=hQ _ _ (by simp [go_sem,pF,Y]))
  ·have Y:=wa Y h4
   refine dO (fun h6=>?_) fun h6=>?_
   ·have Y:=wa Y h6
    refine wo (h:=aO (fun hg=>(hbare _ (by omega))) (fun hg=>wl) ?_)
    exact wo (h:=hQ _ _ (by simp [go_sem,pF,Y];rw [aS];simp;omega))
   ·have Y:=wa Y h6
    refine dO (fun h7=>?_) fun h7=>?_
    ·have Y:=wa Y h7
     refine wo (h:=aO (fun hg=>(hbare _ (by omega))) (fun hg=>wl) ?_)
     exact wo (h:=hQ _ _ (by simp [go_sem,pF,Y];rw [aS];simp;omega))
    ·have Y:=wa Y h7
     refine dO (fun h9=>?_) fun h9=>?_
     ·have Y:=wa Y h9
      exact wo (h:=hQ _ _ (by simp [go_sem,pF,Y];rw [aS];simp))
     ·have Y:=wa Y h9
      exact wv (h:=hQ _ _ (by simp [go_sem,pF,Y]))
theorem Fh:∀ c:Cond,c.ok→Pure Tryz.prog 296 [.agg c.c] (.bool (Kv c)):=by
 refine j7 fun c ih hc=>?_
 obtain ⟨hs,hk⟩:=(sH c).1 hc
 have hW:=sI c
 refine Tz.pK ⟨fun _=>false,fun _=>[]⟩ Tryz.func296 rfl (fun Q hQ=>?_)
 have Y:=@Cond.c_eq
 refine wo (h:=aB ((by have:=Lj c hs;rwa [Cond.c_eq] at this)) wl ?_)
 refine wv (h:=?_)
 repeat first|intro _|refine ⟨fF,?_⟩
 refine wq (fun h1=>?_) fun h1=>?_
 ·exact wv (h:=hQ _ _ (.inl (by simp [go_sem,hW,h1])))
 ·refine wv (h:=bP (fun i e H=>(e 1=.adr c.c∧e 3=dI i)∧(i≤c.kids.length)∧(((c.kids.take i).any fun k=>!Kv k)=false)) (fun i=>c.kids.length - i) 0 ⟨wg,wi,(by rfl)⟩ fun I0 hI0 i e H hi0=>?_)
  obtain ⟨E0,hi,ha⟩:=hi0
  have Y:=wa Y E0
  refine wv (h:=?_)
  repeat first|intro _|refine ⟨fF,?_⟩
  refine wq (fun h4=>?_) fun h4=>?_
  ·have Y:=wa Y h4
   refine wo (h:=aB ((by have:=ih _ (aC h4) (hk _ (aC h4));rwa [Cond.c_eq] at this)) wl ?_)
   refine wv (h:=?_)
   repeat first|intro _|refine ⟨fF,?_⟩
   refine wq (fun h6=>?_) fun h6=>?_
   ·refine wv (h:=?_)
    have hb':c.kids.all Kv=false:=by rw [bX];intro h;rw [cH] at h;have:=h _ (aC h4);rw [h6] at this;cases this
    exact hQ _ _ (.inl (by simp only [go_sem,hW,h1,hb',Bool.and_false]))
   ·exact wo (h:=wx hI0 (i+1) ⟨wg,wj,(by (rw [dK _ _ _ h4,ha];simp [h6]))⟩)
  ·refine wv (h:=?_)
   have hb:=oG ha h4
   have hb':c.kids.all Kv=true:=by simp at hb ⊢;exact hb
   exact hQ _ _ (.inl (by simp only [go_sem,hW,h1,hb',Bool.and_true]))
theorem Hj:∀ c:Cond,c.size≤1000000→Pure Tryz.prog 297 [.agg c.c] (.tup [dI c.size,dI c.dep]):=by
 refine j7 fun c ih hc=>?_
 have hse:=yI c
 have hde:=R1 c
 have hle:=y3 c.kids
 refine Tz.pK ⟨fun _=>false,fun _=>[]⟩ Tryz.func297 rfl (fun Q hQ=>?_)
 try simp [go_sem,seval,Cond.c_eq]
 obtain ⟨I0,hI0⟩:∃ I0:Nat→cX→AHeap→Prop,∀ (i:Nat) (e:cX) (H:AHeap),I0 i e H↔((e 1=.adr c.c)∧(e 4=dI ((1+Cond.sizes (c.kids.take i):Nat):Int))∧(e 5=dI (Cond.deps (c.kids.take i):Nat))∧(e 6=dI i)∧(i≤c.kids.length)):=⟨fun i e H=>_,fun _ _ _=>Iff.rfl⟩
 refine k6 I0 (fun i=>c.kids.length - i) (0) ((hI0 _ _ _).2 ⟨?_,?_,?_,?_,(by first|assumption|omega|(simp [go_sem,Cond.c_eq];done)|(simp_all;done))⟩) ?_
 iterate 4 (first|omega|(simp [go_sem,seval,Cond.c_eq]<;>omega))
 intro i e H hi0
 obtain ⟨q1_0,q4_0,q5_0,q6_0,hi⟩:=(hI0 _ _ _).1 hi0
 have F0:=And.intro q1_0 q6_0
 try simp [go_sem,seval,Cond.c_eq,F0,q4_0,q5_0]
 repeat first|intro _|refine ⟨fF,?_⟩
 refine aK (fun h3=>?_) (fun h3=>?_)
 ·try simp [go_sem] at h3
  have hsm:=AY (aC h3)
  have hdm:=On c.kids[i]
  have hts:=aF h3
  have h1s:=EV (c.kids.take i) c.kids[i]
  have h1d:=IL (c.kids.take i) c.kids[i]
  have hst:=EU c.kids (i+1)
  have hS:Cond.sizes (c.kids.take (i+1))=Cond.sizes (c.kids.take i)+c.kids[i].size:=by rw [hts,h1s]
  have hD:Cond.deps (c.kids.take (i+1))=max (Cond.deps (c.kids.take i)) c.kids[i].dep:=by rw [hts,h1d]
  have hdt:=y3 (c.kids.take i)
  try simp [go_sem,seval,Cond.c_eq,F0,q4_0,q5_0,h3,hS,hD,Hp]
  repeat first|intro _|refine ⟨fF,?_⟩
  refine aB ((by have:=ih _ (aC h3) (by omega);rwa [Cond.c_eq] at this)) ((by first|rfl|(simp [go_sem,← List.map_take,← List.map_drop,Cond.c_eq,F0,q4_0,q5_0,h3,hS,hD,Hp];done))) ?_
  try simp [go_sem,seval,Cond.c_eq,F0,q4_0,q5_0,h3,hS,hD,Hp]
  repeat first|intro _|refine ⟨fF,?_⟩
  refine cT (i+1) (by omega) ((hI0 _ _ _).2 ⟨?_,?_,?_,?_,(by first|assumption|omega|(simp [go_sem,Cond.c_eq,F0,q4_0,q5_0,h3,hS,hD,Hp];done)|(simp_all<;>omega))⟩)<;>first|omega|(simp [go_sem,seval,Cond.c_eq,F0,q4_0,q5_0,h3,hS,hD,Hp]<;>omega)
 ·try simp [go_sem] at h3
  have hU:c.kids.take i=c.kids:=aP h3
  rw [hU] at q4_0 q5_0
  try simp [go_sem,seval,Cond.c_eq,F0,q4_0,q5_0]
  refine aK (fun h7=>?_) (fun h7=>?_)
  ·try simp [go_sem] at h7
   try simp [go_sem,seval,Cond.c_eq,F0,q4_0,q5_0]
   repeat first|intro _|refine ⟨fF,?_⟩
   exact hQ _ _ (by first|(left;(simp [go_sem,hse,hde,h7]);done)|(right;(simp [go_sem,hse,hde,h7]);done))
  ·try simp [go_sem] at h7
   try simp [go_sem,seval,Cond.c_eq,F0,q4_0,q5_0]
   exact hQ _ _ (by first|(left;(simp [go_sem,hse,hde,h7]);done)|(right;(simp [go_sem,hse,hde,h7]);done))
theorem Lm (c:Cond)(hc:c.ok)(hs:c.size≤1000000):Pure Tryz.prog 210 [.agg c.c] (dI (o4 c)):=by
 refine Tz.pK ⟨fun _=>false,fun _=>[]⟩ Tryz.func210 rfl (fun Q hQ=>?_)
 have Y:=@Cond.c_eq
 refine wo (h:=aB ((by have:=Fh c hc;rwa [Cond.c_eq] at this)) wl ?_)
 refine fJ (fun h1=>?_) fun h1=>?_
 ·exact wv (h:=hQ _ _ (by simp [go_sem,o4,h1]))
 ·refine wv (h:=aB ((by have:=Hj c hs;rwa [Cond.c_eq] at this)) wl ?_)
  refine fJ (fun h4=>?_) fun h4=>?_
  ·exact wv (h:=hQ _ _ (by simp [go_sem,o4,h1];omega))
  ·exact wv (h:=hQ _ _ (by simp [go_sem,o4,h1];omega))
theorem JB (p:Pattern)(v:Int):Pure Tryz.prog 364 [p.d,dI v] (.bool (gP p v)):=by
 refine Tz.pK ⟨fun _=>false,fun _=>[]⟩ Tryz.func364 rfl (fun Q hQ=>?_)
 have Y:=trivial
 refine wv (h:=bP (fun i e H=>(e 2=.adr p.c∧e 1=dI v∧e 5=dI i)∧(i≤p.slots.length)∧(((p.slots.take i).any fun s=>decide (s.term.var=v))=false)) (fun i=>p.slots.length - i) 0 ⟨wg,wi,(by rfl)⟩ fun I0 hI0 i e H hi0=>?_)
 obtain ⟨E0,hi,ha⟩:=hi0
 have Y:=wa Y E0
 refine wv (h:=?_)
 repeat first|intro _|refine ⟨fF,?_⟩
 refine wq (fun h2=>?_) fun h2=>?_
 ·have Y:=wa Y h2
  refine wv (h:=?_)
  repeat first|intro _|refine ⟨fF,?_⟩
  refine wq (fun h4=>?_) fun h4=>?_
  ·refine wv (h:=?_)
   have hb:gP p v=true:=aX.2 ⟨_,aC h2,by simpa using h4⟩
   exact hQ _ _ (.inl (by simp only [go_sem,hb]))
  ·exact wo (h:=wx hI0 (i+1) ⟨wg,wj,(by (rw [dK _ _ _ h2,ha];simpa using h4))⟩)
 ·refine wv (h:=?_)
  have hb:gP p v=false:=oG ha h2
  exact hQ _ _ (.inl (by simp only [go_sem,hb]))
def r8 (t:Types)(o:Int)(q:Pattern):Int:=if q.vars<o then 20 else k7 t q o
theorem Lk (t:Types)(ht:t.ok)(o:Int)(h0:0≤o)(q:Pattern):Pure Tryz.prog 298 [t.d,dI o,q.d] (dI (r8 t o q)):=by
 refine Tz.pK ⟨fun _=>false,fun _=>[]⟩ Tryz.func298 rfl (fun Q hQ=>?_)
 have Y:=trivial
 refine dO (fun h1=>?_) fun h1=>?_
 ·exact wv (h:=hQ _ _ (by simp [go_sem,r8,h1]))
 ·refine wv (h:=aB (Dn t ht q) wl ?_)
  refine dO (fun h4=>?_) fun h4=>?_
  ·exact wv (h:=hQ _ _ (by simp [go_sem,r8,k7,h4];omega))
  ·have hv:=jC (.inl h4)
   have hI:r8 t o q=k7 t q o:=by unfold r8;rw [if_neg (by omega)]
   refine wv (h:=bP (fun v e H=>(e 5=.adr q.c∧e 7=dI 9∧e 8=dI (o+v))∧(∀ u:Int,o≤u→u<o+v→gP q u=true)) (fun v=>(q.vars - o).toNat - v) 0 ⟨wg,(by (intro u hu hv;omega))⟩ fun I0 hI0 v e H hi0=>?_)
   obtain ⟨E0,ho⟩:=hi0
   have Y:=wa Y E0
   refine dO (fun h7=>?_) fun h7=>?_
   ·have Y:=wa Y h7
    refine wo (h:=aB (JB q _) wl ?_)
    refine fJ (fun h9=>?_) fun h9=>?_
    ·exact wv (h:=hQ _ _ (by rw [hI,DH h4 h0 (v:=o+v) (by omega) h7 (by simpa using h9)];simp [go_sem]))
    ·have ho':∀ u:Int,o≤u→u<o+((v+1:Nat):Int)→gP q u=true:=fun u hu hv=>by
      by_cases hc:u<o+v
      ·exact ho u hu hc
      ·rw [show u=o+v by omega];simpa using h9
     exact wo (h:=wx hI0 (v+1) ⟨wg,(by exact ho')⟩)
   ·exact wv (h:=hQ _ _ (by rw [hI,xO h4 h0 fun u hu hv=>ho u hu (by omega)];simp [go_sem]))
theorem NG (t:Types)(ht:t.ok):∀ (c:Cond) (p:Pattern),0≤p.vars→p.vars≤12→Pure Tryz.prog 211 [t.d,p.d,.agg c.c] (dI (mP t p c)):=by
 refine j7 fun c ih p hp0 hp1=>?_
 have hF:=Ex t p c
 refine Tz.pK ⟨fun t=>t==7,fun _=>[]⟩ Tryz.func211 rfl (fun Q hQ=>?_)
 have Y:=@Cond.c_eq
 refine dO (fun h2=>?_) fun h2=>?_
 ·rw [if_pos h2,if_pos h2] at hF
  refine wv (h:=aB (Lk t ht p.vars hp0 c.pattern) wl ?_)
  refine dO (fun h4=>?_) fun h4=>?_
  ·have hE:gS t p c.map c.pattern=r8 t p.vars c.pattern:=by
    unfold gS;unfold r8 at h4 ⊢
    split
    ·rfl
    ·rename_i h';rw [if_neg h'] at h4;rw [if_pos h4]
   exact wv (h:=hQ _ _ (by rw [hF,hE,if_pos (by omega)];simp [go_sem]))
  ·have hv0:¬ c.pattern.vars<p.vars∧k7 t c.pattern p.vars=0:=by
    unfold r8 at h4
    split at h4
    ·omega
    ·exact ⟨by assumption,h4⟩
   have hv1:=hv0.1
   have h6:=hv0.2
   refine wv (h:=aB (Dq p.graph c.pattern.graph c.map) wl ?_)
   refine dO (fun h7=>?_) fun h7=>?_
   ·exact wv (h:=hQ _ _ (by simp [go_sem,hF,gS,h6,h7];omega))
   ·refine wo (h:=aB (D7 p.graph c.pattern.graph c.map) wl ?_)
    refine wv (h:=?_)
    repeat first|intro _|refine ⟨fF,?_⟩
    refine wq (fun h9=>?_) fun h9=>?_
    ·exact wv (h:=hQ _ _ (by simp [go_sem,hF,gS,h6,h7,h9];omega))
    ·have hE0:gS t p c.map c.pattern=0:=by simp [gS,h6,h7,h9];omega
     rw [hE0,if_neg (by omega)] at hF
     obtain ⟨w,hw⟩:∃ w:Pattern,w=c.pattern:=⟨_,rfl⟩
     have hv:=DG h6
     have hw0:0≤w.vars:=by rw [hw];exact hv.1
     have hw1:w.vars≤12:=by rw [hw];exact hv.2
     have hF':mP t p c=eX (mP t w) c.kids:=by rw [hF,hw]
     refine wv (h:=bP (fun i e H=>(e 3=.adr t.c∧e 5=.adr c.c∧e 7=.ptr 0 1 0 0∧e 10=dI i)∧(H.get 0=some ⟨53,5,[w.c],false⟩)∧(0<H.next)∧(i≤c.kids.length)∧(eX (mP t w) (c.kids.drop i)=mP t p c)) (fun i=>c.kids.length - i) 0 ⟨wg,(by (simp [go_sem,hw])),wn,wi,(by (exact hF'.symm))⟩ fun I0 hI0 i e H hi0=>?_)
     obtain ⟨E0,g0_0,n0_0,hi,hL⟩:=hi0
     have Y:=wa Y (wa E0 (wa g0_0 (b5 n0_0)))
     refine wv (h:=?_)
     repeat first|intro _|refine ⟨fF,?_⟩
     refine wq (fun h13=>?_) fun h13=>?_
     ·have hst:=hL
      rw [jD _ h13] at hst
      have Y:=wa Y h13
      refine wo (h:=aQ ((by have:=ih _ (aC h13) w hw0 hw1;rwa [Cond.c_eq] at this)) wl ?_)
      refine wv (h:=?_)
      repeat first|intro _|refine ⟨fF,?_⟩
      refine wq (fun h16=>?_) fun h16=>?_
      ·rw [if_pos (by omega)] at hst
       exact wv (h:=hQ _ _ (by simp [go_sem,hst]))
      ·rw [if_neg (by omega)] at hst
       exact wo (h:=wx hI0 (i+1) ⟨wg,(by (simp [go_sem,Y])),wn,wj,(by exact hst)⟩)
     ·exact wv (h:=hQ _ _ (by rw [← hL,kA _ (by omega)];simp [go_sem]))
 ·rw [if_neg h2,if_neg (by omega),if_neg h2] at hF
  obtain ⟨w,hw⟩:∃ w:Pattern,w=p:=⟨_,rfl⟩
  have hw0:0≤w.vars:=by rw [hw];exact hp0
  have hw1:w.vars≤12:=by rw [hw];exact hp1
  have hF':mP t p c=eX (mP t w) c.kids:=by rw [hF,hw]
  refine wv (h:=bP (fun i e H=>(e 3=.adr t.c∧e 5=.adr c.c∧e 7=.ptr 0 1 0 0∧e 10=dI i)∧(H.get 0=some ⟨53,5,[w.c],false⟩)∧(0<H.next)∧(i≤c.kids.length)∧(eX (mP t w) (c.kids.drop i)=mP t p c)) (fun i=>c.kids.length - i) 0 ⟨wg,(by (simp [go_sem,hw])),wn,wi,(by (exact hF'.symm))⟩ fun I0 hI0 i e H hi0=>?_)
  obtain ⟨E0,g0_0,n0_0,hi,hL⟩:=hi0
  have Y:=wa Y (wa E0 (wa g0_0 (b5 n0_0)))
  refine wv (h:=?_)
  repeat first|intro _|refine ⟨fF,?_⟩
  refine wq (fun h13=>?_) fun h13=>?_
  ·have hst:=hL
   rw [jD _ h13] at hst
   have Y:=wa Y h13
   refine wo (h:=aQ ((by have:=ih _ (aC h13) w hw0 hw1;rwa [Cond.c_eq] at this)) wl ?_)
   refine wv (h:=?_)
   repeat first|intro _|refine ⟨fF,?_⟩
   refine wq (fun h16=>?_) fun h16=>?_
   ·rw [if_pos (by omega)] at hst
    exact wv (h:=hQ _ _ (by simp [go_sem,hst]))
   ·rw [if_neg (by omega)] at hst
    exact wo (h:=wx hI0 (i+1) ⟨wg,(by (simp [go_sem,Y])),wn,wj,(by exact hst)⟩)
  ·exact wv (h:=hQ _ _ (by rw [← hL,kA _ (by omega)];simp [go_sem]))
theorem Ll (t:Types)(ht:t.ok)(p:Pattern)(c:Cond)(hc:c.ok)(hs:c.size≤1000000):Pure Tryz.prog 126 [t.d,p.d,.agg c.c] (dI (condF t p c)):=by
 refine Tz.pK ⟨fun _=>false,fun _=>[]⟩ Tryz.func126 rfl (fun Q hQ=>?_)
 have Y:=@Cond.c_eq
 refine wv (h:=aB (Dn t ht p) wl ?_)
 refine dO (fun h2=>?_) fun h2=>?_
 ·have Y:=wa Y (wa h2 @condF.eq_1)
  exact wv (h:=hQ _ _ wy)
 ·have hv:=jC (.inr h2)
  refine wv (h:=aB ((by have:=Lm c hc hs;rwa [Cond.c_eq] at this)) wl ?_)
  refine dO (fun h5=>?_) fun h5=>?_
  ·have Y:=wa Y (wa h2 (wa h5 @condF.eq_1))
   exact wv (h:=hQ _ _ wy)
  ·refine wv (h:=aB ((by have:=NG t ht c p hv.1 hv.2;rwa [Cond.c_eq] at this)) wl ?_)
   have Y:=wa Y (wa h2 (wa h5 @condF.eq_1))
   exact wv (h:=hQ _ _ wy)
theorem Bw {l:List Int}{v:Int}(hs:l.Pairwise (· < ·))(hm:mem l v=true):Ks l v=oT l v:=by
 obtain ⟨i,hi,he⟩:=aN ((dA l v).1 hm)
 have hpw:=dB.1 hs
 rw [tU (i:=i) (fun j hj h=>by
   have hjl:j<l.length:=by omega
   rw [aA hjl] at h
   have:=hpw j i hjl hi hj
   simp at h;omega) (by rw [aA hi,he])]
 rw [Pa (n:=i) (fun j hj h=>by have:=hpw j i hj hi h;omega) (by omega) (fun _=>by omega)]
theorem nX {α:Type}{f:α→Int}:∀ {l:List α},eX f l=0→∀ x∈l,f x=0
 | [],_,x,hx=>by cases hx
 | a :: l,h,x,hx=>by
  unfold eX at h
  split at h
  ·rename_i h1;exact absurd h h1
  ·rename_i h1
   rcases bM.1 hx with h2|h2
   ·subst h2;omega
   ·exact nX h x h2
theorem Cg {g:Graph}{p:Part}(h:subF g p=0):∀ k∈p.edges,mem p.nodes (g.edges[k.toNat]?.getD b7).from_=true∧mem p.nodes (g.edges[k.toNat]?.getD b7).to_=true:=by
 unfold subF oU at h
 split at h
 ·rename_i h1;exact absurd h h1
 ·split at h
  ·rename_i h2;exact absurd h h2
  ·split at h
   ·rename_i h3;exact absurd h h3
   ·intro k hk
    have:=nX h k hk
    unfold xU at this
    split at this
    ·rename_i h4;simpa using h4
    ·cases this
theorem Hm (g:Graph)(p:Part)(hl:p.nodes.length≤1000000)(hle:p.edges.length≤1000000):Pure Tryz.prog 150 [g.d,p.d] (.tup [(bS g p).d,(Dv g p).d,dI (subF g p)]):=by
 refine Tz.pK ⟨fun t=>t==4||t==5||t==8||t==11||t==76||t==80,fun r=>match r with|8=>[(0,11),(1,11)]|12=>[(0,9),(1,9),(2,9),(3,9),(5,9),(6,9),(7,9),(8,9)]|13=>[(0,15),(1,15)]|14=>[(0,1),(1,2),(1,3),(0,4),(0,5),(1,5),(2,5),(3,5),(4,5),(1,6),(4,6),(5,6),(1,7),(4,7),(5,7),(0,8)]|_=>[]⟩ Tryz.func150 rfl (fun Q hQ=>?_)
 try simp [go_sem,seval]
 refine aB (Lt g p) ((by first|rfl|(simp [go_sem,← List.map_take,← List.map_drop];done))) ?_
 try simp [go_sem,seval]
 refine aK (fun h2=>?_) (fun h2=>?_)
 ·try simp [go_sem] at h2
  try simp [go_sem,seval]
  exact hQ _ _ (by first|(left;(simp [go_sem,bS,Dv,h2]);done)|(right;(simp [go_sem,bS,Dv,h2]);done))
 ·try simp [go_sem] at h2
  obtain ⟨hg,hs,hin,hie⟩:=rI h2
  have hends:=Cg h2
  try simp [go_sem,seval]
  obtain ⟨I0,hI0⟩:∃ I0:Nat→cX→AHeap→Prop,∀ (i:Nat) (e:cX) (H:AHeap),I0 i e H↔(∃ xs:List Int,(e 2=.adr g.c)∧(e 3=.adr p.c)∧(e 4=.ptr 0 1 0 0)∧(e 5=.ptr 1 1 0 0)∧(e 8=.ptr 2 1 0 0)∧(e 9=dI i)∧(H.get 0=some ⟨37,2,[[.nil,.nil]],false⟩)∧(0<H.next)∧(H.get 1=some ⟨56,2,[[.nil,.nil]],false⟩)∧(1<H.next)∧(H.get 2=some ⟨37,2,[[.own 3 xs.length,.nil]],false⟩)∧(2<H.next)∧(H.get 3=some ⟨3,1,xs.map cI,false⟩)∧(3<H.next)∧(i≤p.nodes.length)∧(xs=(p.nodes.take i).map (gN g))):=⟨fun i e H=>_,fun _ _ _=>Iff.rfl⟩
  refine Ap (Ghosts.step (Ghosts.refl _) 2 0 0 3 1 _ _ (rfl) rfl rfl rfl) I0 (fun i=>p.nodes.length - i) (0) ((hI0 _ _ _).2 ⟨([]),?_,?_,?_,?_,?_,?_,?_,?_,?_,?_,?_,?_,?_,?_,(by first|assumption|omega|(simp [go_sem];done)|(simp_all;done)),(by rfl)⟩) ?_
  iterate 14 (first|omega|(simp [go_sem,seval]<;>omega))
  intro i e H hi0
  obtain ⟨xs,q2_0,q3_0,q4_0,q5_0,q8_0,q9_0,g0_0,n0_0,g1_0,n1_0,g2_0,n2_0,g3_0,n3_0,hi,hx⟩:=(hI0 _ _ _).1 hi0
  have x0:=b5 n0_0
  have x1:=b5 n1_0
  have x2:=b5 n2_0
  have x3:=b5 n3_0
  have F0:=And.intro q2_0 (And.intro q3_0 (And.intro q4_0 (And.intro q5_0 (And.intro q8_0 (And.intro q9_0 (And.intro g0_0 (And.intro g1_0 (And.intro g2_0 (And.intro g3_0 (And.intro x0 (And.intro x1 (And.intro x2 x3))))))))))))
  try simp [go_sem,seval,F0]
  repeat first|intro _|refine ⟨dQ,?_⟩
  refine aK (fun h6=>?_) (fun h6=>?_)
  ·try simp [go_sem] at h6
   have hin':=hin _ (aC h6)
   have hk:p.nodes[i].toNat<g.nodes.length:=by omega
   have hxl:xs.length=i:=by rw [hx];simp;omega
   try simp [go_sem,seval,F0,h6,aA hk,gN]
   repeat first|intro _|refine ⟨dQ,?_⟩
   refine cT (i+1) (by omega) ((hI0 _ _ _).2 ⟨(xs++[gN g p.nodes[i]]),?_,?_,?_,?_,?_,?_,?_,?_,?_,?_,?_,?_,?_,?_,(by first|assumption|omega|(simp [go_sem,F0,h6,aA hk,gN,h2];done)|(simp_all<;>omega)),(by (rw [j9 _ h6,← hx]))⟩)<;>first|omega|(simp [go_sem,seval,F0,h6,aA hk,gN]<;>omega)
  ·try simp [go_sem] at h6
   have hX:xs=p.nodes.map (gN g):=by rw [hx,lM _ (by omega)]
   try simp [go_sem,seval,F0]
   obtain ⟨I2,hI2⟩:∃ I2:Nat→cX→AHeap→Prop,∀ (k:Nat) (e:cX) (H:AHeap),I2 k e H↔(∃ j:Nat,∃ ys:List Edge,(e 2=.adr g.c)∧(e 3=.adr p.c)∧(e 4=.ptr 0 1 0 0)∧(e 5=.ptr 1 1 0 0)∧(e 8=.ptr 2 1 0 0)∧(e 10=dI k)∧(H.get 0=some ⟨37,2,[[.nil,.nil]],false⟩)∧(0<H.next)∧(H.get 1=some ⟨56,2,[[.nil,.nil]],false⟩)∧(1<H.next)∧(H.get 2=some ⟨37,2,[[.own 3 xs.length,.own j ys.length]],false⟩)∧(2<H.next)∧(H.get 3=some ⟨3,1,xs.map cI,false⟩)∧(3<H.next)∧(H.get j=some ⟨101,3,ys.map Edge.c,false⟩)∧(j<H.next)∧(k≤p.edges.length)∧(ys=(p.edges.take k).map (gEd g p))∧(j≠0)∧(j≠1)∧(j≠2)∧(j≠3)):=⟨fun k e H=>_,fun _ _ _=>Iff.rfl⟩
   refine Ap (Ghosts.step (Ghosts.refl _) 2 0 1 101 3 _ _ (g2_0) rfl rfl rfl) I2 (fun k=>p.edges.length - k) (0) ((hI2 _ _ _).2 ⟨(H.next),([]),?_,?_,?_,?_,?_,?_,?_,?_,?_,?_,?_,?_,?_,?_,?_,?_,(by first|assumption|omega|(simp [go_sem,F0];done)|(simp_all;done)),(by rfl),(by omega),(by omega),(by omega),(by omega)⟩) ?_
   iterate 16 (first|omega|(simp [go_sem,seval,F0]<;>omega))
   intro k e H hi2
   obtain ⟨j,ys,q2_2,q3_2,q4_2,q5_2,q8_2,q10_2,g0_2,n0_2,g1_2,n1_2,g2_2,n2_2,g3_2,n3_2,gj_2,nj_2,hk,hy,j0,j1,j2,j3⟩:=(hI2 _ _ _).1 hi2
   have x0:=b5 n0_2
   have x1:=b5 n1_2
   have x2:=b5 n2_2
   have x3:=b5 n3_2
   have xj:=b5 nj_2
   have F2:=And.intro q2_2 (And.intro q3_2 (And.intro q4_2 (And.intro q5_2 (And.intro q8_2 (And.intro q10_2 (And.intro g0_2 (And.intro g1_2 (And.intro g2_2 (And.intro g3_2 (And.intro gj_2 (And.intro x0 (And.intro x1 (And.intro x2 (And.intro x3 xj))))))))))))))
   try simp [go_sem,seval,F2,j0,j1,j2,j3,j0.symm,j1.symm,j2.symm,j3.symm]
   repeat first|intro _|refine ⟨dQ,?_⟩
   refine aK (fun h10=>?_) (fun h10=>?_)
   ·try simp [go_sem] at h10
    have hie':=hie _ (aC h10)
    have hke:p.edges[k].toNat<g.edges.length:=by omega
    have hyl:ys.length=k:=by rw [hy];simp;omega
    have hen:=hends _ (aC h10)
    rw [aA hke,aD] at hen
    have hi1:=Bw hs hen.1
    have hi2:=Bw hs hen.2
    try simp [go_sem,seval,F2,j0,j1,j2,j3,j0.symm,j1.symm,j2.symm,j3.symm,h10,aA hke,gEd,hi1,hi2]
    repeat first|intro _|refine ⟨dQ,?_⟩
    refine aQ (Dp p.nodes _) ((by first|rfl|(simp [go_sem,← List.map_take,← List.map_drop,F2,j0,j1,j2,j3,j0.symm,j1.symm,j2.symm,j3.symm,h10,aA hke,gEd,hi1,hi2];done))) ?_
    try simp [go_sem,seval,F2,j0,j1,j2,j3,j0.symm,j1.symm,j2.symm,j3.symm,h10,aA hke,gEd,hi1,hi2]
    repeat first|intro _|refine ⟨dQ,?_⟩
    refine aQ (Dp p.nodes _) ((by first|rfl|(simp [go_sem,← List.map_take,← List.map_drop,F2,j0,j1,j2,j3,j0.symm,j1.symm,j2.symm,j3.symm,h10,aA hke,gEd,hi1,hi2];done))) ?_
    try simp [go_sem,seval,F2,j0,j1,j2,j3,j0.symm,j1.symm,j2.symm,j3.symm,h10,aA hke,gEd,hi1,hi2]
    repeat first|intro _|refine ⟨dQ,?_⟩
    refine cT (k+1) (by omega) ((hI2 _ _ _).2 ⟨(j),(ys++[gEd g p p.edges[k]]),?_,?_,?_,?_,?_,?_,?_,?_,?_,?_,?_,?_,?_,?_,?_,?_,(by first|assumption|omega|(simp [go_sem,F2,j0,j1,j2,j3,j0.symm,j1.symm,j2.symm,j3.symm,h10,aA hke,gEd,hi1,hi2,h2,h6];done)|(simp_all<;>omega)),(by (rw [j9 _ h10,← hy])),(by first|assumption|omega|(simp [go_sem,F2,j0,j1,j2,j3,j0.symm,j1.symm,j2.symm,j3.symm,h10,aA hke,gEd,hi1,hi2,h2,h6];done)|(simp_all<;>omega)),(by first|assumption|omega|(simp [go_sem,F2,j0,j1,j2,j3,j0.symm,j1.symm,j2.symm,j3.symm,h10,aA hke,gEd,hi1,hi2,h2,h6];done)|(simp_all<;>omega)),(by first|assumption|omega|(simp [go_sem,F2,j0,j1,j2,j3,j0.symm,j1.symm,j2.symm,j3.symm,h10,aA hke,gEd,hi1,hi2,h2,h6];done)|(simp_all<;>omega)),(by first|assumption|omega|(simp [go_sem,F2,j0,j1,j2,j3,j0.symm,j1.symm,j2.symm,j3.symm,h10,aA hke,gEd,hi1,hi2,h2,h6];done)|(simp_all<;>omega))⟩)<;>first|omega|(simp [go_sem,seval,F2,j0,j1,j2,j3,j0.symm,j1.symm,j2.symm,j3.symm,h10,aA hke,gEd,hi1,hi2]<;>omega)
   ·try simp [go_sem] at h10
    have hY:ys=p.edges.map (gEd g p):=by rw [hy,lM _ (by omega)]
    try simp [go_sem,seval,F2,j0,j1,j2,j3,j0.symm,j1.symm,j2.symm,j3.symm]
    repeat first|intro _|refine ⟨dQ,?_⟩
    exact hQ _ _ (by first|(left;(simp [go_sem,F2,j0,j1,j2,j3,j0.symm,j1.symm,j2.symm,j3.symm,bS,Dv,h2,hX,hY]);done)|(right;(simp [go_sem,F2,j0,j1,j2,j3,j0.symm,j1.symm,j2.symm,j3.symm,bS,Dv,h2,hX,hY]);done))
def fewG (g:Graph):Bool:=decide ((g.nodes.length:Int)≤45)&&decide ((g.edges.length:Int)≤90)
def fewP (p:Pattern):Bool:=fewG p.graph&&decide ((p.slots.length:Int)≤15)&&decide ((p.tests.length:Int)≤15)
def fewPart (p:Part)(n:Int):Bool:=decide ((p.nodes.length:Int)+p.edges.length≤n)
structure Part.le (p:Part):Prop where
 n:p.nodes.length≤1000000000000000
 e:p.edges.length≤1000000000000000
theorem yL (g:Graph):Pure Tryz.prog 179 [g.d] (.bool (fewG g)):=by
 refine Tz.pK ⟨fun _=>false,fun _=>[]⟩ Tryz.func179 rfl (fun Q hQ=>?_)
 have Y:=trivial
 have Y:=wa Y @fewG.eq_1
 exact wo (h:=hQ _ _ wy)
theorem tH (p:Pattern):Pure Tryz.prog 123 [p.d] (.bool (fewP p)):=by
 refine Tz.pK ⟨fun _=>false,fun _=>[]⟩ Tryz.func123 rfl (fun Q hQ=>?_)
 have Y:=trivial
 refine wo (h:=aB (yL p.graph) wl ?_)
 have Y:=wa Y @fewP.eq_1
 exact wo (h:=hQ _ _ wy)
theorem H7 (p:Part)(hp:p.le)(n:Int):Pure Tryz.prog 81 [p.d,dI n] (.bool (fewPart p n)):=by
 obtain ⟨h1,h2⟩:=hp
 refine Tz.pK ⟨fun _=>false,fun _=>[]⟩ Tryz.func81 rfl (fun Q hQ=>?_)
 have Y:=trivial
 have Y:=wa Y @fewPart.eq_1
 exact wo (h:=hQ _ _ wy)
theorem P8 (p:Part)(hp:p.le)(n:Int):Pure Tryz.prog 124 [p.d,dI n] (.bool (fewPart p n)):=by
 obtain ⟨h1,h2⟩:=hp
 refine Tz.pK ⟨fun _=>false,fun _=>[]⟩ Tryz.func124 rfl (fun Q hQ=>?_)
 have Y:=trivial
 have Y:=wa Y @fewPart.eq_1
 exact wo (h:=hQ _ _ wy)
mutual
def nP:Cond→Int→Int
 | .mk k l m p,b=>if (!fewP p||!fewPart m 140)=true then -1 else nO l (b - 1)
def nO:List Cond→Int→Int
 | [],b=>b
 | c :: l,b=>if 0≤b then nO l (nP c b) else b
end
theorem RQ (c:Cond)(b:Int):nP c b=if (!fewP c.pattern||!fewPart c.map 140)=true then -1 else nO c.kids (b - 1):=by cases c;rw [nP];rfl
mutual
theorem FX:∀ (c:Cond) (b:Int),0≤b→-1≤nP c b∧nP c b≤b - 1
 | .mk k l m p,b,h=>by
  rw [nP];split
  ·omega
  ·exact FV l (b - 1) (by omega)
theorem FV:∀ (l:List Cond) (b:Int),-1≤b→-1≤nO l b∧nO l b≤b
 | [],b,h=>by rw [nO];omega
 | c :: l,b,h=>by
  rw [nO];split
  ·rename_i h0
   have h1:=FX c b h0
   have h2:=FV l (nP c b) h1.1
   omega
  ·omega
end
mutual
def Cond.le:Cond→Prop
 | .mk k l m p=>m.le∧Cond.les l
def Cond.les:List Cond→Prop
 | []=>True
 | c :: l=>c.le∧Cond.les l
end
theorem Ko (l:List Cond):Cond.les l↔∀ c∈l,c.le:=by
 induction l with
 | nil=>simp [Cond.les]
 | cons a l ih=>simp [Cond.les,ih]
theorem M3 (c:Cond):c.le↔c.map.le∧∀ k∈c.kids,k.le:=by cases c;simp [Cond.le,Ko,Cond.kids,Cond.map]
mutual
theorem FW:∀ (c:Cond) (b:Int),0≤b→0≤nP c b→c.ok∧(c.size:Int)≤b - nP c b
 | .mk k l m p,b,h,h0=>by
  rw [nP] at h0 ⊢
  split at h0
  ·omega
  ·rename_i h1
   rw [if_neg h1]
   have h2:=L8 l (b - 1) (by omega) h0
   simp [fewP,fewG,fewPart] at h1
   refine ⟨⟨⟨?_,?_,?_,?_,?_,?_⟩,h2.1⟩,?_⟩<;>simp only [Cond.map,Cond.pattern,Cond.size]<;>omega
theorem L8:∀ (l:List Cond) (b:Int),-1≤b→0≤nO l b→Cond.oks l∧(Cond.sizes l:Int)≤b - nO l b
 | [],b,h,h0=>by simp [Cond.oks,Cond.sizes,nO]
 | c :: l,b,h,h0=>by
  rw [nO] at h0 ⊢
  split at h0
  ·rename_i hb
   rw [if_pos hb]
   have h1:=FX c b hb
   have h2:=FV l (nP c b) h1.1
   have h3:=FW c b hb (by omega)
   have h4:=L8 l (nP c b) h1.1 h0
   refine ⟨⟨h3.1,h4.1⟩,?_⟩
   simp only [Cond.sizes];omega
  ·omega
end
theorem N8 {l:List Cond}{i:Nat}(h:i<l.length){b:Int}(hb:0≤b):nO (l.drop i) b=nO (l.drop (i+1)) (nP l[i] b):=by
 rw [fY h,nO,if_pos hb]
theorem QD {l:List Cond}{i:Nat}{b:Int}(h:¬ (i<l.length∧0≤b)):nO (l.drop i) b=b:=by
 by_cases hi:i<l.length
 ·rw [fY hi,nO,if_neg (by omega)]
 ·rw [fV (by omega),nO]
theorem NH:∀ c:Cond,c.le→∀ b:Int,0≤b→b≤1000→Pure Tryz.prog 208 [.agg c.c,dI b] (dI (nP c b)):=by
 refine j7 fun c ih hc b0 hb0 hb1=>?_
 obtain ⟨hs,hk⟩:=(M3 c).1 hc
 have hL0:=RQ c b0
 refine Tz.pK ⟨fun _=>false,fun _=>[]⟩ Tryz.func208 rfl (fun Q hQ=>?_)
 have Y:=@Cond.c_eq
 refine wo (h:=aB (tH c.pattern) wl ?_)
 refine wo (h:=aO (fun hg=>H7 c.map hs 140) (fun hg=>wl) ?_)
 refine wv (h:=?_)
 repeat first|intro _|refine ⟨fF,?_⟩
 refine wq (fun h2=>?_) fun h2=>?_
 ·rw [if_pos (by simpa using h2)] at hL0
  exact wv (h:=hQ _ _ (by simp [go_sem,hL0]))
 ·rw [if_neg (by simpa using h2)] at hL0
  refine wv (h:=bP (fun i e H=>∃ b:Int,(e 2=.adr c.c∧e 1=dI b∧e 5=dI i)∧(i≤c.kids.length)∧(-1≤b∧b<b0)∧(nO (c.kids.drop i) b=nP c b0)) (fun i=>c.kids.length - i) 0 ⟨((b0 - 1)),wg,wi,(by omega),(by (exact hL0.symm))⟩ fun I0 hI0 i e H hi0=>?_)
  obtain ⟨b,E0,hi,hb,hL⟩:=hi0
  have Y:=wa Y E0
  refine wv (h:=?_)
  repeat first|intro _|refine ⟨fF,?_⟩
  refine wq (fun h5=>?_) fun h5=>?_
  ·have h5':i<c.kids.length∧0≤b:=by omega
   have Y:=wa Y (wa h5 h5'.1)
   refine wo (h:=aB ((by have:=ih _ (aC h5'.1) (hk _ (aC h5'.1)) b h5'.2 (by omega);rwa [Cond.c_eq] at this)) wl ?_)
   exact wo (h:=wx hI0 (i+1) ⟨(nP c.kids[i] b),wg,wj,(by (have:=FX c.kids[i] b h5'.2;omega)),(by (rw [← hL,N8 h5'.1 h5'.2]))⟩)
  ·have h5':¬ (i<c.kids.length∧0≤b):=by omega
   refine wv (h:=?_)
   have hE:nP c b0=b:=by rw [← hL,QD h5']
   exact hQ _ _ (by simp [go_sem,hE])
def fewC (c:Cond):Bool:=decide (0≤nP c 40)
theorem H4 (c:Cond)(hc:c.le):Pure Tryz.prog 125 [.agg c.c] (.bool (fewC c)):=by
 refine Tz.pK ⟨fun _=>false,fun _=>[]⟩ Tryz.func125 rfl (fun Q hQ=>?_)
 have Y:=@Cond.c_eq
 refine wv (h:=aB ((by have:=NH c hc 40 (by omega) (by omega);rwa [Cond.c_eq] at this)) wl ?_)
 have Y:=wa Y @fewC.eq_1
 exact wv (h:=hQ _ _ wy)
def fewR (r:Rule):Bool:=decide ((r.name.size:Int)≤60)&&fewP r.left&&fewP r.right&&fewPart r.keep 140&&fewPart r.into 140&&fewC r.cond
structure Rule.le (r:Rule):Prop where
 keep:r.keep.le
 into:r.into.le
 cond:r.cond.le
theorem P7 (r:Rule)(hr:r.le):Pure Tryz.prog 60 [r.d] (.bool (fewR r)):=by
 refine Tz.pK ⟨fun _=>false,fun _=>[]⟩ Tryz.func60 rfl (fun Q hQ=>?_)
 have Y:=trivial
 refine wo (h:=aO (fun hg=>tH r.left) (fun hg=>wl) ?_)
 refine wo (h:=aO (fun hg=>tH r.right) (fun hg=>wl) ?_)
 refine wo (h:=aO (fun hg=>P8 r.keep hr.keep 140) (fun hg=>wl) ?_)
 refine wo (h:=aO (fun hg=>H7 r.into hr.into 140) (fun hg=>wl) ?_)
 refine wo (h:=aO (fun hg=>(by have:=H4 r.cond hr.cond;rwa [Cond.c_eq] at this)) (fun hg=>wl) ?_)
 have Y:=wa Y @fewR.eq_1
 exact wo (h:=hQ _ _ wy)
structure Ovl where
 graph:Graph
 left:Part
 right:Part
def Ovl.c (o:Ovl):List D:=[dLI o.graph.nodes,.list (o.graph.edges.map Edge.c),dLI o.left.nodes,dLI o.left.edges,dLI o.right.nodes,dLI o.right.edges]
def Ovl.d (o:Ovl):D:=.agg o.c
@[go_sem] theorem Ovl.cl (o:Ovl):D.clL o.c=true:=by simp [Ovl.c,D.clL,D.cl,nC,t7]
@[go_sem] theorem Ys (o:Ovl):o.d.cl=true:=by simp only [Ovl.d,D.cl];exact Ovl.cl o
@[go_sem] theorem XQ (l:List Ovl):D.clLL (l.map Ovl.c)=true:=c4 _ Ovl.cl l
def cF (n:Nat):List Int:=(List.range n).map fun (k:Nat)=>(k:Int)
theorem Cw (i:Nat):cF (i+1)=cF i++[(i:Int)]:=by simp [cF,bJ]
theorem d9 (n:Nat):(cF n).length=n:=by simp [cF]
theorem A9 (n:Nat)(hn:n≤100000):Pure Tryz.prog 77 [dI n] (dLI (cF n)):=by
 refine Tz.pK ⟨fun t=>t==3,fun _=>[]⟩ Tryz.func77 rfl (fun Q hQ=>?_)
 have Y:=trivial
 refine wv (h:=bP (fun i e H=>(e 0=dI n∧e 3=.own 0 i∧e 4=dI i)∧(H.get 0=some ⟨3,1,(cF i).map cI,false⟩)∧(0<H.next)∧(i≤n)∧((cF i).length=i)) (fun i=>n - i) 0 ⟨wg,(by rfl),wn,wi,(by (exact d9 _))⟩ fun I0 hI0 i e H hi0=>?_)
 obtain ⟨E0,g0_0,n0_0,hi,hl⟩:=hi0
 have Y:=wa Y (wa E0 (wa g0_0 (wa (b5 n0_0) hl)))
 refine dO (fun h3=>?_) fun h3=>?_
 ·have Y:=wa Y h3
  exact wo (h:=wx hI0 (i+1) ⟨wg,(by (simp [go_sem,Y,Cw])),wn,wj,(by (exact d9 _))⟩)
 ·have hie:i=n:=by omega
  subst hie
  have Y:=wa Y h3
  exact wv (h:=hQ _ _ wy)
theorem w9 (g:Graph)(hn:g.nodes.length≤100000)(he:g.edges.length≤100000):Pure Tryz.prog 29 [g.d] (Part.d ⟨cF g.nodes.length,cF g.edges.length⟩):=by
 refine Tz.pK ⟨fun t=>t==2,fun _=>[]⟩ Tryz.func29 rfl (fun Q hQ=>?_)
 have Y:=trivial
 refine wo (h:=aQ (A9 g.nodes.length hn) wl ?_)
 refine wo (h:=aQ (A9 g.edges.length he) wl ?_)
 exact wo (h:=hQ _ _ wy)
theorem MF:Own Tryz.prog 227 [.nil] 101 3 []:=by
 refine Tz.oK ⟨fun t=>t==2||t==5,fun _=>[]⟩ Tryz.func227 rfl (fun Q hQ=>?_)
 have Y:=trivial
 refine wv (h:=?_)
 exact hQ _ _ _ (by simp [go_sem]<;>first|omega|(rw [aS];simp<;>omega)|(simp_all<;>omega)) (by simp [go_sem]<;>first|omega|(rw [aS];simp<;>omega)|(simp_all<;>omega))
theorem MD:Own Tryz.prog 227 [.ne] 101 3 []:=by
 refine Tz.oK ⟨fun t=>t==2||t==5,fun _=>[]⟩ Tryz.func227 rfl (fun Q hQ=>?_)
 have Y:=trivial
 refine wo (h:=?_)
 exact hQ _ _ _ (by simp [go_sem]<;>first|omega|(rw [aS];simp<;>omega)|(simp_all<;>omega)) (by simp [go_sem]<;>first|omega|(rw [aS];simp<;>omega)|(simp_all<;>omega))
theorem ME (l:List Edge)(hl:l.length≤1000000)(hne:l≠[]):Own Tryz.prog 227 [.list (l.map Edge.c)] 101 3 (l.map Edge.c):=by
 refine Tz.oK ⟨fun t=>t==2||t==5,fun _=>[]⟩ Tryz.func227 rfl (fun Q hQ=>?_)
 have Y:=hne
 refine wo (h:=?_)
 exact hQ _ _ _ (by simp [go_sem,hne]<;>first|omega|(rw [aS];simp<;>omega)|(simp_all<;>omega)) (by simp [go_sem,hne]<;>first|omega|(rw [aS];simp<;>omega)|(simp_all<;>omega))
theorem GE (l:List Edge)(hl:l.length≤1000000):Own Tryz.prog 227 [.list (l.map Edge.c)] 101 3 (l.map Edge.c):=by
 by_cases hne:l=[]
 ·subst hne;exact Cu MF MD
 ·exact ME l hl hne
end Go.Abs
end
