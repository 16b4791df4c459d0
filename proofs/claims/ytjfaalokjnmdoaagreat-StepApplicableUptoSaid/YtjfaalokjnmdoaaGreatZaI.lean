/- Layer 4, the reference: types.Valid. · Layer 4: lines of typ -/
import Derived.Test.YtjfaalokjnmdoaaGreatZaF
import Derived.Test.YtjfaalokjnmdoaaGreatZaA
import Derived.Test.YtjfaalokjnmdoaaGreatZaH
import Derived.Ground.NamesProg
import Derived.Ground.Names2Prog
import Derived.Shelf.Sort.Plain
import Derived.Shelf.Slices.CompactI
import Derived.Shelf.Slices.In.SortNone
import Derived.Test.YtjfaalokjnmdoaaGreatProg
set_option linter.unusedVariables false
set_option linter.unusedSimpArgs false
section
set_option maxRecDepth 100000
set_option maxHeartbeats 4000000
open Go Go.Proofs
namespace Go.Abs
theorem Jo (t:Types)(i:Nat)(hi:i<t.edges.length):iN t i =
  if jY t.edges[i].name=false then 2
  else if ((t.edges.take i).any fun y=>decide (y.name=t.edges[i].name))=true then 5
  else if (insideF t t.edges[i].from_&&insideF t t.edges[i].to_&&boundedF t.edges[i].outLow t.edges[i].outHigh&&boundedF t.edges[i].inLow t.edges[i].inHigh)=true then 0 else 6:=by
 unfold iN;rw [aA hi]
theorem tL (t:Types)(a:Int):inF a 0 ((t.nodes.length:Int) - 1)=insideF t a:=by
 simp only [inF,insideF];rw [aV];simp;omega
theorem Kv (t:Types)(ht:t.ok)(i:Nat)(hi:i<t.edges.length):Pure Tryz.prog 279 [t.d,dI i] (dI (iN t i)):=by
 have hno:=ht.edges _ (aC hi)
 have hfew:=ht.fewN
 have hfewE:=ht.fewE
 have hF:=Jo t i hi
 refine Tz.pK ⟨fun t=>t==5,fun _=>[]⟩ Tryz.func279 rfl (fun Q hQ=>?_)
 have Y:=wa (aA hi) hi
 refine wo (h:=aB (mH _ hno.name) wl ?_)
 refine dV (fun h2=>?_) fun h2=>?_
 ·exact wv (h:=hQ _ _ (by simp [go_sem,hF,h2]))
 ·refine wv (h:=bB (fun k e H=>(e 1=dI i∧e 2=.adr t.c∧e 5=.ptr 0 1 0 0∧e 6=dI k)∧(H.get 0=some ⟨188,7,[t.edges[i].c],false⟩)∧(0<H.next)∧(k≤i)∧(((t.edges.take k).any fun m=>decide (m.name=t.edges[i].name))=false)) (fun k=>i - k) 0 ⟨wg,wn,wn,wi,(by simp)⟩ fun I0 hI0 k e H hi0=>?_)
  obtain ⟨E0,g0_0,n0_0,hk,hne⟩:=hi0
  have Y:=wa Y (wa E0 (wa g0_0 (bY n0_0)))
  refine cT (fun h5=>?_) fun h5=>?_
  ·have hkl:k<t.edges.length:=by omega
   have Y:=wa Y (wa h5 hkl)
   refine dV (fun h7=>?_) fun h7=>?_
   ·exact wv (h:=hQ _ _ (by have hb:=rK (p:=fun m:EdgeTy=>decide (m.name=t.edges[i].name)) h5 hkl (by simpa using h7);rw [hF,if_neg (by simp [h2]),if_pos hb];simp [go_sem]))
   ·exact wo (h:=wx hI0 (k+1) ⟨wg,wn,wn,wj,(by rw [cX _ _ _ hkl,hne];simpa using h7)⟩)
  ·have hb:=o8 hne (show k=i by omega)
   refine wo (h:=aB (lH _ _ _) wl ?_)
   refine wo (h:=aK (fun hg=>lH _ _ _) (fun hg=>wl) ?_)
   refine wo (h:=aK (fun hg=>Bw _ _) (fun hg=>wl) ?_)
   refine wo (h:=aK (fun hg=>Bw _ _) (fun hg=>wl) ?_)
   refine wo (h:=aO (fun h10=>?_) (fun h10=>?_))
   ·skip
    simp only [tL] at h10
    exact wv (h:=hQ _ _ (by rw [hF,if_neg (by simp [h2]),if_neg (by simp [hb])];revert h10;cases insideF t t.edges[i].from_<;>cases insideF t t.edges[i].to_<;>cases boundedF t.edges[i].outLow t.edges[i].outHigh<;>cases boundedF t.edges[i].inLow t.edges[i].inHigh<;>simp [go_sem]))
   ·skip
    simp only [tL] at h10
    exact wv (h:=hQ _ _ (by rw [hF,if_neg (by simp [h2]),if_neg (by simp [hb])];revert h10;cases insideF t t.edges[i].from_<;>cases insideF t t.edges[i].to_<;>cases boundedF t.edges[i].outLow t.edges[i].outHigh<;>cases boundedF t.edges[i].inLow t.edges[i].inHigh<;>simp [go_sem]))
theorem z6 (f:Nat→Int)(nm:Nat→ByteArray)(last:ByteArray × Int){k n:Nat}(h:k<n):dJ f nm last k (n - k)=if f k≠0 then (nm k,f k) else dJ f nm last (k+1) (n - (k+1)):=by
 rw [show n - k=n - (k+1)+1 by omega,dJ]
theorem n8 (t:Types)(ht:t.ok):Pure Tryz.prog 193 [t.d] (.tup [.str (cA t).1,dI (cA t).2]):=by
 have hfew:=ht.fewN
 have hfewE:=ht.fewE
 refine Tz.pK ⟨fun _=>false,fun _=>[]⟩ Tryz.func193 rfl (fun Q hQ=>?_)
 have Y:=trivial
 refine dV (fun h1=>?_) fun h1=>?_
 ·exact wv (h:=hQ _ _ (by simp [go_sem,cA,h1]))
 ·refine dV (fun h3=>?_) fun h3=>?_
  ·exact wv (h:=hQ _ _ (by simp [go_sem,cA,h1,show 12<t.nodes.length∨20<t.edges.length by omega]))
  ·have e:cA t=dJ (fS t) t.nodeName (dJ (iN t) t.edgeName (⟨#[]⟩,0) 0 t.edges.length) 0 t.nodes.length:=by simp only [cA];rw [if_neg (by simpa using h1),if_neg (by omega)]
   refine wv (h:=bB (fun i e H=>(e 1=.adr t.c∧e 4=dI i)∧(i≤t.nodes.length)∧(∀ j,j<i→fS t j=0)∧(dJ (fS t) t.nodeName (dJ (iN t) t.edgeName (⟨#[]⟩,0) 0 t.edges.length) i (t.nodes.length - i)=cA t)) (fun i=>t.nodes.length - i) 0 ⟨wg,wi,(by intro j hj;omega),(by rw [e];rfl)⟩ fun I0 hI0 i e H hi0=>?_)
   obtain ⟨E0,hi,hz,hFk⟩:=hi0
   have Y:=wa Y E0
   refine dV (fun h6=>?_) fun h6=>?_
   ·have hst:=hFk
    rw [z6 _ _ _ h6] at hst
    have Y:=wa Y h6
    refine wv (h:=aB (Ku t ht i h6 (fun j n hj hn=>tJ t j n (hz j hj) hn)) wl ?_)
    refine cT (fun h9=>?_) fun h9=>?_
    ·exact wo (h:=hQ _ _ (by rw [if_pos (by simpa using h9)] at hst;simp [go_sem,← hst,Types.nodeName,aA h6]))
    ·exact wo (h:=wx hI0 (i+1) ⟨wg,wj,(by exact iX hz (by simpa using h9)),(by rw [if_neg (by simpa using h9)] at hst;exact hst)⟩)
   ·have hE:dJ (iN t) t.edgeName (⟨#[]⟩,0) 0 t.edges.length=cA t:=by rw [← hFk,show t.nodes.length - i=0 by omega];rfl
    refine wv (h:=bB (fun i e H=>(e 1=.adr t.c∧e 6=dI i)∧(i≤t.edges.length)∧(dJ (iN t) t.edgeName (⟨#[]⟩,0) i (t.edges.length - i)=cA t)) (fun i=>t.edges.length - i) 0 ⟨wg,wi,(by exact hE)⟩ fun I2 hI2 i e H hi2=>?_)
    obtain ⟨E2,hi,hFk⟩:=hi2
    have Y:=wa Y E2
    refine dV (fun h12=>?_) fun h12=>?_
    ·have hst:=hFk
     rw [z6 _ _ _ h12] at hst
     have Y:=wa Y h12
     refine wv (h:=aB (Kv t ht i h12) wl ?_)
     refine cT (fun h15=>?_) fun h15=>?_
     ·exact wo (h:=hQ _ _ (by rw [if_pos (by simpa using h15)] at hst;simp [go_sem,← hst,Types.edgeName,aA h12]))
     ·exact wo (h:=wx hI2 (i+1) ⟨wg,wj,(by rw [if_neg (by simpa using h15)] at hst;exact hst)⟩)
    ·exact wv (h:=hQ _ _ (by rw [← hFk,show t.edges.length - i=0 by omega];simp [go_sem,dJ]))
theorem o6 {f:Nat→Int}{nm:Nat→ByteArray}{last:ByteArray × Int}:∀ (n k:Nat),(dJ f nm last k n).2=0→(∀ j,k≤j→j<k+n→f j=0)∧last.2=0
 | 0,k,h=>⟨fun j h1 h2=>by omega,h⟩
 | n+1,k,h=>by
  unfold dJ at h
  split at h
  ·rename_i hne;exact absurd h hne
  ·rename_i hz
   obtain ⟨a,b⟩:=o6 n (k+1) h
   refine ⟨fun j h1 h2=>?_,b⟩
   rcases Nat.eq_or_lt_of_le h1 with h3|h3
   ·subst h3;exact bD fun hne=>hz hne
   ·exact a j h3 (by omega)
structure Types.valid (t:Types):Prop where
 ne:0<t.nodes.length
 fewN:t.nodes.length≤12
 fewE:t.edges.length≤20
 parent:∀ (j:Nat) (n:NodeTy),t.nodes[j]?=some n→n.parent<j
 low:∀ (j:Nat) (n:NodeTy),t.nodes[j]?=some n→-1≤n.parent
 attrs:∀ j,j<t.nodes.length→(t.attrs j).length≤8
 ends:∀ x∈t.edges,insideF t x.from_=true∧insideF t x.to_=true
theorem lG {t:Types}(h:(cA t).2=0):t.valid:=by
 unfold cA at h
 split at h
 ·simp at h
 ·rename_i h0
  split at h
  ·simp at h
  ·rename_i h1
   obtain ⟨hN,hE⟩:=o6 _ _ h
   obtain ⟨hE,_⟩:=o6 _ _ hE
   have hN':∀ j (hj:j<t.nodes.length),fS t j=0:=fun j hj=>hN j (by omega) (by omega)
   refine ⟨by omega,by omega,by omega,fun j n hn=>?_,fun j n hn=>?_,fun j hj=>?_,fun x hx=>?_⟩
   ·exact tJ t j n (hN' j (aL.1 hn).1) hn
   ·have hj:=(aL.1 hn).1
    have h2:=hN' j hj
    rw [zR t j hj] at h2
    have he:t.nodes[j]=n:=(aL.1 hn).2
    rw [he] at h2
    split at h2<;>try (cases h2;done)
    split at h2<;>try (cases h2;done)
    split at h2<;>try (cases h2;done)
    rename_i hr;simp at hr;omega
   ·have h2:=hN' j hj
    rw [zR t j hj] at h2
    split at h2<;>try (cases h2;done)
    split at h2<;>try (cases h2;done)
    split at h2<;>try (cases h2;done)
    split at h2<;>try (cases h2;done)
    split at h2<;>try (cases h2;done)
    omega
   ·obtain ⟨j,hj,rfl⟩:=aN hx
    have h2:=hE j (by omega) (by omega)
    rw [Jo t j hj] at h2
    split at h2<;>try (cases h2;done)
    split at h2<;>try (cases h2;done)
    split at h2<;>try (cases h2;done)
    rename_i hr;simp at hr;exact ⟨hr.1.1.1,hr.1.1.2⟩
theorem Types.valid.parentsOK {t:Types}(h:t.valid)(a:Nat):parentsOK t.nodes a:=fun j n _ hn=>h.parent j n hn
def given2F (t:Types)(a b:Int):Int:=if (cA t).2≠0 then (cA t).2 else if (insideF t a&&insideF t b)=true then 0 else 6
theorem Bv (t:Types)(ht:t.ok)(a b:Int):Pure Tryz.prog 189 [t.d,dI a,dI b] (dI (given2F t a b)):=by
 have hfew:=ht.fewN
 refine Tz.pK ⟨fun _=>false,fun _=>[]⟩ Tryz.func189 rfl (fun Q hQ=>?_)
 have Y:=trivial
 refine wv (h:=aB (n8 t ht) wl ?_)
 refine cT (fun h2=>?_) fun h2=>?_
 ·have Y:=wa Y (wa h2 @given2F.eq_1)
  exact wv (h:=hQ _ _ wy)
 ·refine wo (h:=aB (lH _ _ _) wl ?_)
  refine wo (h:=aK (fun hg=>lH _ _ _) (fun hg=>wl) ?_)
  refine wo (h:=aO (fun h4=>?_) (fun h4=>?_))
  ·skip
   simp only [tL] at h4
   exact wv (h:=hQ _ _ (by revert h4;cases ha:insideF t a<;>cases hb:insideF t b<;>simp [go_sem,given2F,h2,ha,hb]))
  ·skip
   simp only [tL] at h4
   exact wv (h:=hQ _ _ (by revert h4;cases ha:insideF t a<;>cases hb:insideF t b<;>simp [go_sem,given2F,h2,ha,hb]))
def givenF (t:Types)(l:List Int):Int:=if (cA t).2≠0 then (cA t).2 else if (l.any fun a=>!insideF t a)=true then 6 else 0
theorem GA (t:Types)(a:Int):Pure Tryz.prog 262 [dI a,.adr t.c] (.bool (!insideF t a)):=by
 refine Tz.pK ⟨fun _=>false,fun _=>[]⟩ Tryz.func262 rfl (fun Q hQ=>?_)
 have Y:=trivial
 have Y:=wa Y @insideF.eq_1
 exact wo (h:=hQ _ _ wy)
theorem uX (t:Types)(ht:t.ok)(l:List Int):Pure Tryz.prog 163 [t.d,dLI l] (dI (givenF t l)):=by
 refine Tz.pK ⟨fun _=>false,fun _=>[]⟩ Tryz.func163 rfl (fun Q hQ=>?_)
 have Y:=trivial
 refine wv (h:=aB (lV t ht) wl ?_)
 refine cT (fun h2=>?_) fun h2=>?_
 ·have Y:=wa Y (wa h2 @givenF.eq_1)
  exact wv (h:=hQ _ _ wy)
 ·refine wv (h:=aB (fB l 262 [.adr t.c] (fun a=>!insideF t a) (by simp [go_sem]) (by simp [go_sem]) (fun a _=>GA t a)) wl ?_)
  refine cT (fun h4=>?_) fun h4=>?_
  ·have Y:=wa Y (wa h2 (wa h4 @givenF.eq_1))
   exact wv (h:=hQ _ _ wy)
  ·have Y:=wa Y (wa h2 (wa h4 @givenF.eq_1))
   exact wv (h:=hQ _ _ wy)
theorem FY (t:Types)(a b:Int):givenF t [a,b]=given2F t a b:=by
 unfold givenF given2F;cases ha:insideF t a<;>cases hb:insideF t b<;>simp [ha,hb]
def DB (nodes:List NodeTy):Nat→Nat→List Int
 | 0,_=>[]
 | f+1,a=>match nodes[a]? with
  | none=>[]
  | some n=>(if 0≤n.parent then DB nodes f n.parent.toNat else [])++[(a:Int)]
def Types.line (t:Types)(a:Nat):List Int:=DB t.nodes (a+1) a
theorem KI (nodes:List NodeTy):∀ a f g,parentsOK nodes a→a<f→a<g→DB nodes f a=DB nodes g a:=by
 intro a
 induction a using Nat.strongRecOn with
 | _ a ih =>
  intro f g hp hf hg
  obtain ⟨f,rfl⟩:∃ f',f=f'+1:=⟨f - 1,by omega⟩
  obtain ⟨g,rfl⟩:∃ g',g=g'+1:=⟨g - 1,by omega⟩
  unfold DB
  split
  ·rfl
  ·rename_i n hn
   have:=hp a n (bC _) hn
   congr 1
   split
   ·exact ih n.parent.toNat (by omega) f g (fun j m hj hm=>hp j m (by omega) hm) (by omega) (by omega)
   ·rfl
theorem vL (t:Types)(a:Nat)(ha:a<t.nodes.length)(hp:parentsOK t.nodes a) :
  t.line a=(if 0≤t.nodes[a].parent then t.line t.nodes[a].parent.toNat else [])++[(a:Int)]:=by
 have hpa:=hp a _ (bC _) (aA ha)
 by_cases h':0≤t.nodes[a].parent
 ·have hlt:t.nodes[a].parent.toNat<a:=by omega
  have:=KI t.nodes t.nodes[a].parent.toNat a (t.nodes[a].parent.toNat+1) (fun j m hj hm=>hp j m (by omega) hm) hlt (by omega)
  simp [Types.line,DB,aA ha,h',this]
 ·simp [Types.line,DB,aA ha,h']
def FT (t:Types)(k:Nat):List Int:=if k=0 then [] else t.line (k - 1)
theorem Kk {xs ys:List Int}{i:Nat}(hy:ys.length=xs.length)(hi:xs.length≤2 * i+1)(hr:∀ j,j<xs.length→ys[j]?=if j<i∨xs.length - i≤j then xs[xs.length - 1 - j]? else xs[j]?):ys=xs.reverse:=by
 apply fH
 intro j
 by_cases hj:j<xs.length
 ·rw [hr j hj,List.getElem?_reverse hj]
  split
  ·rfl
  ·rename_i hc
   rw [show j=xs.length - 1 - j by omega]
   congr 1;omega
 ·rw [bM (by omega),bM (by simp;omega)]
theorem If (G:AHeap)(id:Nat)(xs:List Int)(hg:G.get id=some ⟨3,1,xs.map cI,false⟩)(hl:xs.length≤100000)(Q:D→AHeap→Prop)
  (hQ:∀ H',H'.get id=some ⟨3,1,xs.reverse.map cI,false⟩→(∀ j,j≠id→H'.get j=G.get j)→G.next≤H'.next→Q (.tup []) H'):ACalls Tryz.prog 346 [.own id xs.length] G Q:=by
 refine (aG (cfg:=⟨fun _=>false,fun _=>[]⟩) Tz.mixed Tryz.func346 rfl rfl (aE rfl) (by kernel_rfl) ?_)
 try simp [go_sem,seval,hg]
 repeat first|intro _|refine ⟨eP,?_⟩
 obtain ⟨I0,hI0⟩:∃ I0:Nat→cZ→AHeap→Prop,∀ (i:Nat) (e:cZ) (H:AHeap),I0 i e H↔(∃ ys:List Int,(e 0=.own id xs.length)∧(e 2=dI i)∧(e 3=dI ((xs.length:Int) - 1 - i))∧(H.get id=some ⟨3,1,ys.map cI,false⟩)∧(∀ j,j≠id→H.get j=G.get j)∧(G.next≤H.next)∧(ys.length=xs.length)∧(∀ j,j<xs.length→ys[j]?=if j<i∨xs.length - i≤j then xs[xs.length - 1 - j]? else xs[j]?)):=⟨fun i e H=>_,fun _ _ _=>Iff.rfl⟩
 refine q9 I0 (fun i=>xs.length - i) (0) ((hI0 _ _ _).2 ⟨(xs),?_,?_,?_,(by exact hg),(by exact fun _ _=>rfl),(by exact bC _),(by first|assumption|omega|(simp [go_sem,hg];done)|(simp_all;done)),(by intro j hj;simp;omega)⟩) ?_
 iterate 3 (first|omega|(simp [go_sem,seval,hg]<;>omega))
 intro i e H hi0
 obtain ⟨ys,q0_0,q2_0,q3_0,hH,hfr,hnx,hy,hr⟩:=(hI0 _ _ _).1 hi0
 have F0:=And.intro q0_0 (And.intro q2_0 q3_0)
 try simp [go_sem,seval,hg,F0,hH]
 refine aO (fun h1=>?_) (fun h1=>?_)
 ·try simp [go_sem] at h1
  have hj:xs.length - 1 - i<ys.length:=by omega
  have hi':i<ys.length:=by omega
  have htn:((xs.length:Int) - 1 - i).toNat=xs.length - 1 - i:=by omega
  have hstep:∀ j,j<xs.length→((ys.set i (ys[xs.length - 1 - i]?.getD 0)).set (xs.length - 1 - i) (ys[i]?.getD 0))[j]?=if j<i+1∨xs.length - (i+1)≤j then xs[xs.length - 1 - j]? else xs[j]?:=fun j hjl=>by
   have h1:=hr j hjl
   have h3:=hr i (by omega)
   have h4:=hr (xs.length - 1 - i) (by omega)
   rw [aA hi'] at h3
   rw [aA hj] at h4
   rw [dE,dE,aA hi',aA hj]
   by_cases ha:xs.length - 1 - i=j
   ·rw [if_pos ha,if_pos (by simp;omega),if_pos (by omega)]
    simp only [aD]
    rw [h3,if_neg (by omega)];congr 1;omega
   ·rw [if_neg ha]
    by_cases hb:i=j
    ·rw [if_pos hb,if_pos (by omega),if_pos (by omega)]
     simp only [aD]
     rw [h4,if_neg (by omega)];congr 1;omega
    ·rw [if_neg hb,h1]
     by_cases hc:j<i∨xs.length - i≤j
     ·rw [if_pos hc,if_pos (by omega)]
     ·rw [if_neg hc,if_neg (by omega)]
  try simp [go_sem,seval,hg,F0,hH,h1,htn,aA hj,aA hi',hy,dE,show i≠xs.length - 1 - i by omega]
  repeat first|intro _|refine ⟨eP,?_⟩
  refine eV (i+1) (by omega) ((hI0 _ _ _).2 ⟨((ys.set i (ys[xs.length - 1 - i]?.getD 0)).set (xs.length - 1 - i) (ys[i]?.getD 0)),?_,?_,?_,(by (simp [go_sem,hH,cG,aA hj,aA hi'])),(by (intro j hj';simp [go_sem,hj',hfr j hj'])),(by (simp [go_sem];omega)),(by first|assumption|omega|(simp [go_sem,hg,F0,hH,h1,htn,aA hj,aA hi',hy,dE,show i≠xs.length - 1 - i by omega];done)|(simp_all<;>omega)),(by (exact hstep))⟩)<;>first|omega|(simp [go_sem,seval,hg,F0,hH,h1,htn,aA hj,aA hi',hy,dE,show i≠xs.length - 1 - i by omega]<;>omega)
 ·try simp [go_sem] at h1
  have:=Kk hy (by omega) hr
  subst this
  try simp [go_sem,seval,hg,F0,hH]
  exact hQ _ hH hfr hnx
theorem J0 (t:Types)(ht:t.ok)(hv:t.valid)(a:Nat)(ha:a<t.nodes.length):Pure Tryz.prog 263 [t.d,dI a] (.list ((t.line a).map cI)):=by
 have hfew:=hv.fewN
 refine Tz.pK ⟨fun t=>t==5,fun _=>[]⟩ Tryz.func263 rfl (fun Q hQ=>?_)
 have Y:=trivial
 refine wv (h:=bB (fun k e H=>∃ xs:List Int,(e 2=.adr t.c∧e 1=dI ((k:Int) - 1)∧e 5=.own 0 xs.length)∧(H.get 0=some ⟨3,1,xs.map cI,false⟩)∧(0<H.next)∧(k≤t.nodes.length)∧(xs.length+k≤12)∧(FT t k++xs.reverse=t.line a)) (fun k=>k) (a+1) ⟨([]),wg,wn,wn,wi,(by simp;omega),(by simp [FT])⟩ fun I0 hI0 k e H hi0=>?_)
 obtain ⟨xs,E0,g0_0,n0_0,hk,hb,hx⟩:=hi0
 have Y:=wa Y (wa E0 (wa g0_0 (bY n0_0)))
 refine cT (fun h2=>?_) fun h2=>?_
 ·have hk0:0<k:=by omega
  have hkl:k - 1<t.nodes.length:=by omega
  have hpar:=hv.parent (k - 1) _ (aA hkl)
  have hlow:=hv.low (k - 1) _ (aA hkl)
  have htn:((k:Int) - 1).toNat=k - 1:=by omega
  have hlr:=vL t (k - 1) hkl (hv.parentsOK _)
  have hlk:FT t k=FT t (t.nodes[k - 1].parent+1).toNat++[(k:Int) - 1]:=by
   unfold FT
   rw [if_neg (show ¬ k=0 by omega),hlr]
   by_cases h0:0≤t.nodes[k - 1].parent
   ·rw [if_pos h0,if_neg (by omega),show (t.nodes[k - 1].parent+1).toNat - 1=t.nodes[k - 1].parent.toNat by omega]
    congr 2;omega
   ·rw [if_neg h0,if_pos (by omega)]
    simp;omega
  have Y:=wa Y (wa h2 (wa htn hkl))
  exact wo (h:=wx hI0 ((t.nodes[k - 1].parent+1).toNat) ⟨(xs++[(k:Int) - 1]),wg,wn,wn,wj,(by simp;omega),(by rw [hlk] at hx;rw [← hx];simp)⟩)
 ·have hk0:k=0:=by omega
  subst hk0
  have hln:(t.line a).length=xs.length:=by rw [← hx];simp [FT]
  have hx':(xs.map cI).reverse=(t.line a).map cI:=by rw [← List.map_reverse,← hx];rfl
  refine wv (h:=?_)
  unfold eY;refine If _ _ xs g0_0 (by omega) _ fun H1 gR _ _=>?_
  exact wv (h:=hQ _ _ (by simp [go_sem,gR,hx',hln]))
theorem CI (t:Types)(ht:t.ok)(hv:t.valid)(a b:Int)(h0:0≤a)(h1:a<t.nodes.length):Pure Tryz.prog 164 [t.d,dI a,dI b] (.bool (mem (t.line a.toNat) b)):=by
 have hl:=J0 t ht hv a.toNat (by omega)
 rw [Int.toNat_of_nonneg h0] at hl
 refine Tz.pK ⟨fun _=>false,fun _=>[]⟩ Tryz.func164 rfl (fun Q hQ=>?_)
 have Y:=trivial
 refine wv (h:=aB (hl) wl ?_)
 refine wv (h:=aB (fK _ _) wl ?_)
 exact wv (h:=hQ _ _ wy)
def mN (t:Types)(edge a b:Int):Bool:=decide (given2F t a b=0)&&(decide (0≤edge)&&decide (edge<t.edges.length)) &&
 (mem (t.line a.toNat) (match t.edges[edge.toNat]? with|some x=>x.from_|none=>0)&&mem (t.line b.toNat) (match t.edges[edge.toNat]? with|some x=>x.to_|none=>0))
theorem oF {t:Types}{a b:Int}(h:given2F t a b=0):t.valid∧(0≤a∧a<t.nodes.length)∧(0≤b∧b<t.nodes.length):=by
 unfold given2F at h
 split at h
 ·rename_i h1;exact absurd h h1
 ·rename_i h1
  split at h
  ·rename_i h2;simp [insideF] at h2;exact ⟨lG (by simpa using h1),h2.1,h2.2⟩
  ·cases h
theorem CJ (t:Types)(ht:t.ok)(edge a b:Int):Pure Tryz.prog 74 [t.d,dI edge,dI a,dI b] (.bool (mN t edge a b)):=by
 refine Tz.pK ⟨fun _=>false,fun _=>[]⟩ Tryz.func74 rfl (fun Q hQ=>?_)
 have Y:=trivial
 refine wo (h:=aB (uX t ht [a,b]) wl ?_)
 refine dV (fun h1=>?_) fun h1=>?_
 ·rw [FY] at h1
  exact wv (h:=hQ _ _ (by simp [go_sem,mN];intros;omega))
 ·rw [FY] at h1
  obtain ⟨hv,hA,hB⟩:=oF h1.1.1
  have hke:edge.toNat<t.edges.length:=by omega
  have Y:=wa Y (aA hke)
  refine wo (h:=aI (CI t ht hv _ _ hA.1 hA.2) wl ?_)
  refine wo (h:=eK (fun hg=>CI t ht hv _ _ hB.1 hB.2) (fun hg=>wl) ?_)
  exact wo (h:=hQ _ _ (by simp [go_sem,mN,h1,aA hke]))
theorem sJ (l:List Int)(x b:Int):mem (l++[x]) b=(mem l b||decide (b=x)):=by
 rw [aV,b6,cW,cW];simp
theorem zT (b:Int):mem ([]:List Int) b=false:=by rw [bH];intro h;rw [cW] at h;cases h
theorem Pt (t:Types)(a b:Int)(ha:a<0)(hb:0≤b):Pure Tryz.prog 192 [t.d,dI a,dI b] (.bool false):=by
 refine Tz.pK ⟨fun _=>false,fun _=>[]⟩ Tryz.func192 rfl (fun Q hQ=>?_)
 have Y:=wa (show ¬ 0≤a by omega) (show ¬ a=b by omega)
 refine wo (h:=?_)
 refine eK (r:=.bool false) (fun hg=>by simp at hg) (fun hg=>by simp at hg) ?_
 exact wo (h:=hQ _ _ wy)
theorem tG (t:Types)(hv:t.valid)(b:Int)(hb:0≤b):∀ a:Nat,a<t.nodes.length→Pure Tryz.prog 192 [t.d,dI a,dI b] (.bool (mem (t.line a) b)):=by
 intro a
 induction a using Nat.strongRecOn with
 | _ a ih =>
 intro ha
 have hpar:=hv.parent a _ (aA ha)
 have hlr:=vL t a ha (hv.parentsOK a)
 have hc:Pure Tryz.prog 192 [t.d,dI t.nodes[a].parent,dI b] (.bool (mem (if 0≤t.nodes[a].parent then t.line t.nodes[a].parent.toNat else []) b)):=by
  by_cases h':0≤t.nodes[a].parent
  ·rw [if_pos h']
   have:=ih t.nodes[a].parent.toNat (by omega) (by omega)
   rwa [Int.toNat_of_nonneg h'] at this
  ·rw [if_neg h',zT]
   exact Pt t _ _ (by omega) hb
 rw [hlr,sJ]
 refine Tz.pK ⟨fun _=>false,fun _=>[]⟩ Tryz.func192 rfl (fun Q hQ=>?_)
 have hab:decide ((a:Int)=b)=decide (b=(a:Int)):=by rw [aV];simp;omega
 have Y:=wa (aA ha) ha
 refine wo (h:=eK (fun hg=>hc) (fun hg=>wl) ?_)
 exact wo (h:=hQ _ _ (.inl (by simp only [go_sem,hab,Bool.or_comm])))
theorem Dk (t:Types)(ht:t.ok)(edge a b:Int):Pure Tryz.prog 103 [t.d,dI edge,dI a,dI b] (.bool (mN t edge a b)):=by
 have hfe:=ht.fewE
 refine Tz.pK ⟨fun _=>false,fun _=>[]⟩ Tryz.func103 rfl (fun Q hQ=>?_)
 have Y:=trivial
 refine wo (h:=aB (Bv t ht a b) wl ?_)
 refine wo (h:=aK (fun hg=>lH _ _ _) (fun hg=>wl) ?_)
 refine wo (h:=aO (fun h1=>?_) (fun h1=>?_))
 ·skip
  simp [inF] at h1
  exact wv (h:=hQ _ _ (by simp [go_sem,mN];intros;omega))
 ·skip
  simp [inF] at h1
  obtain ⟨hv,hA,hB⟩:=oF h1.1
  have hke:edge.toNat<t.edges.length:=by omega
  have hends:=hv.ends _ (aC hke)
  simp [insideF] at hends
  have hB1:=tG t hv t.edges[edge.toNat].from_ hends.1.1 a.toNat (by omega)
  have hB2:=tG t hv t.edges[edge.toNat].to_ hends.2.1 b.toNat (by omega)
  rw [Int.toNat_of_nonneg hA.1] at hB1
  rw [Int.toNat_of_nonneg hB.1] at hB2
  have Y:=wa Y (aA hke)
  refine wo (h:=aI (hB1) wl ?_)
  refine wo (h:=eK (fun hg=>hB2) (fun hg=>wl) ?_)
  exact wo (h:=hQ _ _ (by simp [go_sem,mN,h1,aA hke];omega))
attribute [go_sem] Slot.c Test.c Pattern.c Pattern.d Part.c Part.d Stage.c
theorem AP {P:Program}{f:FuncId}{ty:TypeId}{sz:Nat}(h0:Own P f [.nil] ty sz [])(h1:Own P f [.ne] ty sz []):Own P f [.list []] ty sz []:=by
 refine ⟨h0.1,fun M w vals hM ha=>?_⟩
 obtain ⟨hl,hr⟩:=ha
 match vals,hl with
 | [v],_ =>
  have hv:=hr 0 v _ rfl rfl
  cases hv with
  | listN=>exact h0.2 M w _ hM ⟨rfl,fun j u d hu hd=>by
    match j with
    | 0=>simp at hu hd;subst hu;subst hd;exact .nil
    | j+1=>simp at hu⟩
  | list ad cap sz xs es hc hm=>exact h1.2 M w _ hM ⟨rfl,fun j u d hu hd=>by
    match j with
    | 0=>simp at hu hd;subst hu;subst hd;exact .ne ad cap hm
    | j+1=>simp at hu⟩
theorem Lb:Own Tryz.prog 201 [.nil] 3 1 []:=by
 refine Tz.oK ⟨fun t=>t==2||t==5,fun _=>[]⟩ Tryz.func201 rfl (fun Q hQ=>?_)
 have Y:=trivial
 refine wv (h:=?_)
 exact hQ _ _ _ (by simp [go_sem]<;>first|omega|(rw [aV];simp<;>omega)|(simp_all<;>omega)) (by simp [go_sem]<;>first|omega|(rw [aV];simp<;>omega)|(simp_all<;>omega))
theorem K9:Own Tryz.prog 201 [.ne] 3 1 []:=by
 refine Tz.oK ⟨fun t=>t==2||t==5,fun _=>[]⟩ Tryz.func201 rfl (fun Q hQ=>?_)
 have Y:=trivial
 refine wo (h:=?_)
 exact hQ _ _ _ (by simp [go_sem]<;>first|omega|(rw [aV];simp<;>omega)|(simp_all<;>omega)) (by simp [go_sem]<;>first|omega|(rw [aV];simp<;>omega)|(simp_all<;>omega))
theorem La (l:List Int)(hl:l.length≤1000000)(hne:l≠[]):Own Tryz.prog 201 [.list (l.map cI)] 3 1 (l.map cI):=by
 refine Tz.oK ⟨fun t=>t==2||t==5,fun _=>[]⟩ Tryz.func201 rfl (fun Q hQ=>?_)
 have Y:=hne
 refine wo (h:=?_)
 exact hQ _ _ _ (by simp [go_sem,hne]<;>first|omega|(rw [aV];simp<;>omega)|(simp_all<;>omega)) (by simp [go_sem,hne]<;>first|omega|(rw [aV];simp<;>omega)|(simp_all<;>omega))
theorem jW (l:List Int)(hl:l.length≤1000000):Own Tryz.prog 201 [.list (l.map cI)] 3 1 (l.map cI):=by
 by_cases hne:l=[]
 ·subst hne;exact AP Lb K9
 ·exact La l hl hne
theorem K8:Own Tryz.prog 261 [.nil] 9 1 []:=by
 refine Tz.oK ⟨fun t=>t==2||t==5,fun _=>[]⟩ Tryz.func261 rfl (fun Q hQ=>?_)
 have Y:=trivial
 refine wv (h:=?_)
 exact hQ _ _ _ (by simp [go_sem]<;>first|omega|(rw [aV];simp<;>omega)|(simp_all<;>omega)) (by simp [go_sem]<;>first|omega|(rw [aV];simp<;>omega)|(simp_all<;>omega))
theorem K6:Own Tryz.prog 261 [.ne] 9 1 []:=by
 refine Tz.oK ⟨fun t=>t==2||t==5,fun _=>[]⟩ Tryz.func261 rfl (fun Q hQ=>?_)
 have Y:=trivial
 refine wo (h:=?_)
 exact hQ _ _ _ (by simp [go_sem]<;>first|omega|(rw [aV];simp<;>omega)|(simp_all<;>omega)) (by simp [go_sem]<;>first|omega|(rw [aV];simp<;>omega)|(simp_all<;>omega))
theorem K7 (l:List ByteArray)(hl:l.length≤1000000)(hne:l≠[]):Own Tryz.prog 261 [.list (l.map cS)] 9 1 (l.map cS):=by
 refine Tz.oK ⟨fun t=>t==2||t==5,fun _=>[]⟩ Tryz.func261 rfl (fun Q hQ=>?_)
 have Y:=hne
 refine wo (h:=?_)
 exact hQ _ _ _ (by simp [go_sem,hne]<;>first|omega|(rw [aV];simp<;>omega)|(simp_all<;>omega)) (by simp [go_sem,hne]<;>first|omega|(rw [aV];simp<;>omega)|(simp_all<;>omega))
theorem M9 (l:List ByteArray)(hl:l.length≤1000000):Own Tryz.prog 261 [.list (l.map cS)] 9 1 (l.map cS):=by
 by_cases hne:l=[]
 ·subst hne;exact AP K8 K6
 ·exact K7 l hl hne
def bK (t:Types)(a:Int):List Attr:=if given2F t a a=0 then t.attrs a.toNat else []
theorem pE (t:Types)(a:Int):givenF t [a]=given2F t a a:=by
 unfold givenF given2F;cases ha:insideF t a<;>simp [ha]
theorem tM {t:Types}{a:Int}(h:given2F t a a=0):t.valid∧0≤a∧a<t.nodes.length:=⟨(oF h).1,(oF h).2.1⟩
theorem n4 (t:Types)(ht:t.ok)(a:Int):Pure Tryz.prog 162 [t.d,dI a] (.tup [.list ((bK t a).map Attr.c),dI (given2F t a a)]):=by
 refine Tz.pK ⟨fun _=>false,fun _=>[]⟩ Tryz.func162 rfl (fun Q hQ=>?_)
 have Y:=trivial
 refine wv (h:=aB (uX t ht [a]) wl ?_)
 refine cT (fun h2=>?_) fun h2=>?_
 ·rw [pE] at h2
  exact wv (h:=hQ _ _ (by simp [go_sem,pE,bK,h2]))
 ·rw [pE] at h2
  obtain ⟨hv,h0,h1⟩:=tM h2
  have hat:=Bi t ht a.toNat (by omega) (hv.parentsOK _)
  rw [Int.toNat_of_nonneg h0] at hat
  have hok:∀ x∈t.attrs a.toNat,x.ok:=sY t.nodes ht.nodes _ _
  have hl8:=hv.attrs a.toNat (by omega)
  refine wv (h:=lU (hat) wl ?_)
  refine wo (h:=bB (fun i e H=>(e 2=.adr t.c∧e 1=dI a∧e 7=.own 0 (t.attrs a.toNat).length∧e 20=dI (t.attrs a.toNat).length∧e 21=dI i)∧(H.get 0=some ⟨186,4,(t.attrs a.toNat).map Attr.c,false⟩)∧(0<H.next)∧(i≤(t.attrs a.toNat).length)) (fun i=>(t.attrs a.toNat).length - i) 0 ⟨wg,(by (simp [go_sem])),wn,wi⟩ fun I0 hI0 i e H hi0=>?_)
  obtain ⟨E0,g0_0,n0_0,hi⟩:=hi0
  have Y:=wa Y (wa E0 (wa g0_0 (bY n0_0)))
  refine cT (fun h6=>?_) fun h6=>?_
  ·have hset:((t.attrs a.toNat).map Attr.c).set i (((t.attrs a.toNat).map Attr.c)[i]'(by simpa using h6))=(t.attrs a.toNat).map Attr.c:=List.set_getElem_self _
   simp [go_sem] at hset
   have Y:=wa Y h6
   refine wo (h:=aB ((M9 (t.attrs a.toNat)[i].names (by have:=(hok _ (aC h6)).few;omega)).pure) wl ?_)
   exact wo (h:=wx hI0 (i+1) ⟨wg,(by (simp [go_sem,g0_0,hset])),wn,wj⟩)
  ·exact wv (h:=hQ _ _ (by simp [go_sem,g0_0,bK,h2]))
theorem n9 (t:Types)(ht:t.ok)(a:Int):Pure Tryz.prog 102 [t.d,dI a] (.tup [.list ((bK t a).map Attr.c),dI (given2F t a a)]):=by
 refine Tz.pK ⟨fun t=>t==7||t==10||t==31||t==1000000,fun _=>[]⟩ Tryz.func102 rfl (fun Q hQ=>?_)
 have Y:=trivial
 refine wv (h:=aB (Bv t ht a a) wl ?_)
 refine cT (fun h2=>?_) fun h2=>?_
 ·exact wv (h:=hQ _ _ (by simp [go_sem,bK,h2]))
 ·obtain ⟨hv,h0,h1⟩:=tM h2
  have hat:=Bx t ht a.toNat (by omega) (hv.parentsOK _)
  rw [Int.toNat_of_nonneg h0] at hat
  have hok:∀ x∈t.attrs a.toNat,x.ok:=sY t.nodes ht.nodes _ _
  have hl8:=hv.attrs a.toNat (by omega)
  refine wv (h:=aB (hat) wl ?_)
  refine wv (h:=bB (fun i e H=>(e 2=.adr t.c∧e 1=dI a∧e 7=.own 0 ((t.attrs a.toNat).take i).length∧e 8=.list ((t.attrs a.toNat).map Attr.c)∧e 9=dI i)∧(H.get 0=some ⟨186,4,((t.attrs a.toNat).take i).map Attr.c,false⟩)∧(0<H.next)∧(i≤(t.attrs a.toNat).length)) (fun i=>(t.attrs a.toNat).length - i) 0 ⟨wg,(by (simp [go_sem])),wn,wi⟩ fun I0 hI0 i e H hi0=>?_)
  obtain ⟨E0,g0_0,n0_0,hi⟩:=hi0
  have Y:=wa Y (wa E0 (wa g0_0 (bY n0_0)))
  refine dV (fun h7=>?_) fun h7=>?_
  ·have hts:=aF (l:=(t.attrs a.toNat).map Attr.c) (i:=i) (by simpa using h7)
   simp [go_sem] at hts
   have hfw:=(hok _ (aC h7)).few
   have Y:=wa Y h7
   exact wo (h:=wx hI0 (i+1) ⟨wg,(by (simp [go_sem,g0_0,hts])),wn,wj⟩)
  ·exact wv (h:=hQ _ _ (by simp [go_sem,g0_0,bK,h2,show i=(t.attrs a.toNat).length by omega]))
def iQ (t:Types)(a:Int):List Int:=if given2F t a a=0 then ((List.range t.nodes.length).filter fun (b:Nat)=>mem (t.line b) a).map fun (b:Nat)=>(b:Int) else []
theorem cH (p:Nat→Bool)(i:Nat):((List.range (i+1)).filter p).map (fun (b:Nat)=>(b:Int))=((List.range i).filter p).map (fun (b:Nat)=>(b:Int))++(if p i=true then [(i:Int)] else []):=by
 rw [e9,gM,List.map_append]
 congr 1
 by_cases h:p i=true<;>simp [h]
theorem HT (t:Types)(ht:t.ok)(a:Int):Pure Tryz.prog 360 [t.d,dI a] (.tup [dLI (iQ t a),dI (given2F t a a)]):=by
 refine Tz.pK ⟨fun t=>t==7,fun _=>[]⟩ Tryz.func360 rfl (fun Q hQ=>?_)
 have Y:=trivial
 refine wv (h:=aB (uX t ht [a]) wl ?_)
 refine cT (fun h2=>?_) fun h2=>?_
 ·rw [pE] at h2
  exact wv (h:=hQ _ _ (by simp [go_sem,pE,iQ,h2]))
 ·rw [pE] at h2
  obtain ⟨hv,h0,h1⟩:=tM h2
  have hN:=hv.fewN
  refine wo (h:=bB (fun i e H=>∃ xs:List Int,(e 2=.adr t.c∧e 1=dI a∧e 7=.own 0 xs.length∧e 18=dI t.nodes.length∧e 19=dI i)∧(H.get 0=some ⟨3,1,xs.map cI,false⟩)∧(0<H.next)∧(i≤t.nodes.length)∧(xs.length≤i)∧(xs=((List.range i).filter fun (b:Nat)=>mem (t.line b) a).map (fun (b:Nat)=>(b:Int)))) (fun i=>t.nodes.length - i) 0 ⟨([]),wg,wn,wn,wi,(by simp),(by rfl)⟩ fun I0 hI0 i e H hi0=>?_)
  obtain ⟨xs,E0,g0_0,n0_0,hi,hl,hx⟩:=hi0
  have Y:=wa Y (wa E0 (wa g0_0 (bY n0_0)))
  refine cT (fun h6=>?_) fun h6=>?_
  ·have Y:=wa Y h6
   refine wv (h:=aB (CI t ht hv i a (by omega) (by omega)) wl ?_)
   refine cT (fun h8=>?_) fun h8=>?_
   ·have Y:=wa Y h8
    exact wo (h:=wx hI0 (i+1) ⟨(xs++(if mem (t.line i) a=true then [(i:Int)] else [])),wg,wn,wn,wj,(by (rw [aT];split<;>simp<;>omega)),(by (rw [cH,← hx]))⟩)
   ·have Y:=wa Y h8
    exact wo (h:=wx hI0 (i+1) ⟨(xs++(if mem (t.line i) a=true then [(i:Int)] else [])),wg,wn,wn,wj,(by (rw [aT];split<;>simp<;>omega)),(by (rw [cH,← hx]))⟩)
  ·exact wv (h:=hQ _ _ (by simp [go_sem,g0_0,iQ,h2];rw [hx,show i=t.nodes.length by omega];simp))
def fG {α:Type}(f:α→Int):List α→Int
 | []=>0
 | x :: l=>if f x≠0 then f x else fG f l
theorem i6 {α:Type}(f:α→Int){l:List α}{i:Nat}(h:i<l.length):fG f (l.drop i)=if f l[i]≠0 then f l[i] else fG f (l.drop (i+1)):=by
 rw [fR h];rfl
theorem jU {α:Type}(f:α→Int){l:List α}{i:Nat}(h:¬ i<l.length):fG f (l.drop i)=0:=by
 rw [fN (by omega)];rfl
def termB (n:Int)(x:Term):Bool:=decide (-1≤x.var)&&decide (x.var<n)&&decide (-1000000≤x.add)&&decide (x.add≤1000000)
theorem uB (n:Int)(x:Term):Pure Tryz.prog 414 [dI n,.agg [dI x.var,dI x.add]] (.bool (termB n x)):=by
 refine Tz.pK ⟨fun _=>false,fun _=>[]⟩ Tryz.func414 rfl (fun Q hQ=>?_)
 have Y:=trivial
 have Y:=wa Y @termB.eq_1
 exact wo (h:=hQ _ _ wy)
def qR (n:Int)(x:Test):Int:=if x.kind≠1∧x.kind≠2 then 1 else if (termB n x.left&&termB n x.right)=true then 0 else 6
theorem D0 (n:Int)(x:Test):Pure Tryz.prog 366 [dI n,.agg x.c] (dI (qR n x)):=by
 refine Tz.pK ⟨fun _=>false,fun _=>[]⟩ Tryz.func366 rfl (fun Q hQ=>?_)
 have Y:=trivial
 refine dV (fun h1=>?_) fun h1=>?_
 ·exact wv (h:=hQ _ _ (by simp [go_sem,qR];omega))
 ·refine wo (h:=aB (uB n x.left) wl ?_)
  refine wo (h:=aK (fun hg=>uB n x.right) (fun hg=>wl) ?_)
  refine dV (fun h3=>?_) fun h3=>?_
  ·exact wv (h:=hQ _ _ (by revert h3;cases ha:termB n x.left<;>cases hb:termB n x.right<;>simp [go_sem,qR,ha,hb]<;>omega))
  ·exact wv (h:=hQ _ _ (by revert h3;cases ha:termB n x.left<;>cases hb:termB n x.right<;>simp [go_sem,qR,ha,hb]<;>omega))
def jD (n:Int)(l:List Test):Int:=if n<0∨12<n then 6 else if 40<l.length then 3 else fG (qR n) l
theorem A0 (n:Int)(l:List Test):Pure Tryz.prog 306 [dI n,.list (l.map Test.c)] (dI (jD n l)):=by
 refine Tz.pK ⟨fun t=>t==6,fun _=>[]⟩ Tryz.func306 rfl (fun Q hQ=>?_)
 have Y:=trivial
 refine dV (fun h1=>?_) fun h1=>?_
 ·exact wv (h:=hQ _ _ (by simp [go_sem,jD];omega))
 ·refine dV (fun h3=>?_) fun h3=>?_
  ·exact wv (h:=hQ _ _ (by simp [go_sem,jD];omega))
  ·refine wo (h:=bB (fun i e H=>(e 0=dI n∧e 17=.list (l.map Test.c)∧e 18=dI l.length∧e 19=dI i)∧(i≤l.length)∧(fG (qR n) (l.drop i)=jD n l)) (fun i=>l.length - i) 0 ⟨wg,wi,(by (rw [jD,if_neg (by omega),if_neg (by omega)];rfl))⟩ fun I0 hI0 i e H hi0=>?_)
   obtain ⟨E0,hi,hF⟩:=hi0
   have Y:=wa Y E0
   refine cT (fun h6=>?_) fun h6=>?_
   ·have hst:=hF
    rw [i6 _ h6] at hst
    have Y:=wa Y h6
    refine wo (h:=aB (D0 n l[i]) wl ?_)
    refine dV (fun h9=>?_) fun h9=>?_
    ·exact wv (h:=hQ _ _ (by rw [if_pos (by simpa using h9)] at hst;simp [go_sem,hst]))
    ·exact wo (h:=wx hI0 (i+1) ⟨wg,wj,(by (rw [if_neg (by simp [h9])] at hst;exact hst))⟩)
   ·exact wv (h:=hQ _ _ (by rw [← hF,jU _ (by omega)];simp [go_sem]))
def uW (n:Int)(x:Term):Int:=if termB n x=true then 0 else 6
theorem zI (n:Int)(x:Term):Pure Tryz.prog 405 [dI n,.agg [dI x.var,dI x.add]] (dI (uW n x)):=by
 refine Tz.pK ⟨fun _=>false,fun _=>[]⟩ Tryz.func405 rfl (fun Q hQ=>?_)
 have Y:=trivial
 refine dV (fun h1=>?_) fun h1=>?_
 ·exact wv (h:=hQ _ _ (by simp [go_sem,uW,termB];omega))
 ·exact wv (h:=hQ _ _ (by simp [go_sem,uW,termB];omega))
theorem My (n:Int)(x:Test):Pure Tryz.prog 362 [dI n,.agg x.c] (dI (qR n x)):=by
 refine Tz.pK ⟨fun _=>false,fun _=>[]⟩ Tryz.func362 rfl (fun Q hQ=>?_)
 have Y:=trivial
 refine dV (fun h1=>?_) fun h1=>?_
 ·exact wv (h:=hQ _ _ (by simp [go_sem,qR];omega))
 ·refine wv (h:=aB (zI n x.left) wl ?_)
  refine cT (fun h4=>?_) fun h4=>?_
  ·exact wv (h:=hQ _ _ (by revert h4;cases ha:termB n x.left<;>simp [go_sem,qR,uW,ha]<;>omega))
  ·refine wv (h:=aB (zI n x.right) wl ?_)
   exact wv (h:=hQ _ _ (by revert h4;cases ha:termB n x.left<;>cases hb:termB n x.right<;>simp [go_sem,qR,uW,ha,hb]<;>omega))
theorem ID (n:Int)(l:List Test):Pure Tryz.prog 294 [dI n,.list (l.map Test.c)] (dI (jD n l)):=by
 refine Tz.pK ⟨fun _=>false,fun _=>[]⟩ Tryz.func294 rfl (fun Q hQ=>?_)
 have Y:=trivial
 refine dV (fun h1=>?_) fun h1=>?_
 ·exact wv (h:=hQ _ _ (by simp [go_sem,jD];omega))
 ·refine dV (fun h3=>?_) fun h3=>?_
  ·exact wv (h:=hQ _ _ (by simp [go_sem,jD];omega))
  ·refine wv (h:=bB (fun i e H=>(e 0=dI n∧e 1=.list (l.map Test.c)∧e 5=dI i)∧(i≤l.length)∧(fG (qR n) (l.drop i)=jD n l)) (fun i=>l.length - i) 0 ⟨wg,wi,(by (rw [jD,if_neg (by omega),if_neg (by omega)];rfl))⟩ fun I0 hI0 i e H hi0=>?_)
   obtain ⟨E0,hi,hF⟩:=hi0
   have Y:=wa Y E0
   refine dV (fun h6=>?_) fun h6=>?_
   ·have hst:=hF
    rw [i6 _ h6] at hst
    have Y:=wa Y h6
    refine wo (h:=aB (My n l[i]) wl ?_)
    refine dV (fun h9=>?_) fun h9=>?_
    ·exact wv (h:=hQ _ _ (by rw [if_pos (by simpa using h9)] at hst;simp [go_sem,hst]))
    ·exact wo (h:=wx hI0 (i+1) ⟨wg,wj,(by (rw [if_neg (by simp [h9])] at hst;exact hst))⟩)
   ·exact wv (h:=hQ _ _ (by rw [← hF,jU _ (by omega)];simp [go_sem]))
theorem g9 (n low high:Int):Pure Tryz.prog 304 [dI n,dI low,dI high] (.bool (inF n low high)):=by
 refine Tz.pK ⟨fun _=>false,fun _=>[]⟩ Tryz.func304 rfl (fun Q hQ=>?_)
 have Y:=trivial
 have Y:=wa Y @inF.eq_1
 exact wo (h:=hQ _ _ wy)
def mA:Attr:=⟨⟨#[]⟩,0,0,[]⟩
def Pattern.kind (p:Pattern)(node:Int):Int:=p.graph.nodes[node.toNat]?.getD 0
def jO (t:Types)(p:Pattern)(node attr:Int):Bool:=decide (0≤node)&&decide (node<p.graph.nodes.length)&&(decide (0≤attr)&&decide (attr<(bK t (p.kind node)).length))
def BU (t:Types)(p:Pattern)(node attr:Int):Attr:=if jO t p node attr=true then (bK t (p.kind node))[attr.toNat]?.getD mA else mA
theorem nO {t:Types}(ht:t.ok)(a:Int):(bK t a).length≤8:=by
 unfold bK
 split
 ·rename_i h
  obtain ⟨hv,h0,h1⟩:=tM h
  exact hv.attrs _ (by omega)
 ·simp
theorem Ed (t:Types)(ht:t.ok)(p:Pattern)(hp:p.graph.nodes.length≤1000)(s:Slot):Pure Tryz.prog 305 [t.d,p.d,.agg s.c] (.tup [.agg (BU t p s.node s.attr).c,.bool (jO t p s.node s.attr)]):=by
 have h8:=nO ht (p.kind s.node)
 refine Tz.pK ⟨fun t=>t==6,fun _=>[]⟩ Tryz.func305 rfl (fun Q hQ=>?_)
 have Y:=trivial
 refine wo (h:=aB (g9 _ _ _) wl ?_)
 refine dV (fun h1=>?_) fun h1=>?_
 ·simp [inF] at h1
  have hB:jO t p s.node s.attr=false:=by rw [bH];intro h;simp [jO] at h;omega
  exact wv (h:=hQ _ _ (by simp [go_sem,BU,hB,mA]))
 ·simp [inF] at h1
  have hn:s.node.toNat<p.graph.nodes.length:=by omega
  have hk:p.kind s.node=p.graph.nodes[s.node.toNat]:=by simp [Pattern.kind,hn]
  rw [hk] at h8
  have Y:=wa Y (wa (aA hn) hk)
  refine wo (h:=aI (n4 t ht p.graph.nodes[s.node.toNat]) wl ?_)
  refine wo (h:=aB (g9 _ _ _) wl ?_)
  refine dV (fun h4=>?_) fun h4=>?_
  ·simp [inF] at h4
   have hB:jO t p s.node s.attr=false:=by rw [bH];intro h;simp [jO,hk] at h;omega
   exact wv (h:=hQ _ _ (by simp [go_sem,BU,hB,mA]))
  ·simp [inF] at h4
   have ha:s.attr.toNat<(bK t p.graph.nodes[s.node.toNat]).length:=by omega
   have hB:jO t p s.node s.attr=true:=by simp [jO,hk];omega
   have Y:=wa Y (aA ha)
   exact wo (h:=hQ _ _ (by simp [go_sem,BU,hB,hk,aA ha]))
def cB (b:Bool):List D:=[.bool b]
@[go_sem] theorem Tg (l:List Bool):D.clLL (l.map cB)=true:=cJ cB (fun _=>rfl) l
attribute [go_sem] cB
theorem KM (xs:List Bool)(v:Bool):Pure Tryz.prog 199 [.list (xs.map cB),.bool v] (dI (HJ xs v)):=by
 refine Tz.pK ⟨fun _=>false,fun _=>[]⟩ Tryz.func199 rfl (fun Q hQ=>?_)
 have Y:=trivial
 refine wv (h:=?_)
 repeat first|intro _|refine ⟨eP,?_⟩
 refine bB (fun i e H=>(e 0=.list (xs.map cB)∧e 1=.bool v∧e 7=dI xs.length∧e 8=dI i)∧(i≤xs.length)∧(∀ j,j<i→xs[j]?≠some v)) (fun i=>xs.length - i) 0 ⟨wg,wi,(by intro j hj;omega)⟩ fun I0 hI0 i e H hi0=>?_
 obtain ⟨E0,hi,hne⟩:=hi0
 have Y:=wa Y E0
 refine cT (fun h2=>?_) fun h2=>?_
 ·have Y:=wa Y h2
  refine wv (h:=?_)
  repeat first|intro _|refine ⟨eP,?_⟩
  refine wq (fun h4=>?_) fun h4=>?_
  ·exact wv (h:=hQ _ _ (by rw [sK hne (by rw [aA h2,h4])];simp [go_sem]))
  ·refine wv (h:=?_)
   repeat first|intro _|refine ⟨eP,?_⟩
   exact wx hI0 (i+1) ⟨wg,wj,(by (exact iX hne (by rw [aA h2];simpa using fun h=>h4 h.symm)))⟩
 ·exact wv (h:=hQ _ _ (by rw [zZ fun j hj=>hne j (by omega)];simp [go_sem]))
theorem E8 (xs:List Bool)(v:Bool):Pure Tryz.prog 114 [.list (xs.map cB),.bool v] (.bool (mem xs v)):=by
 refine Tz.pK ⟨fun _=>false,fun _=>[]⟩ Tryz.func114 rfl (fun Q hQ=>?_)
 have Y:=trivial
 refine wv (h:=aB (KM xs v) wl ?_)
 have Y:=wa Y @mem.eq_1
 exact wv (h:=hQ _ _ wy)
def gU (t:Types)(g:Graph):Bool:=(!(g.nodes.any fun n=>decide ((t.nodes.length:Int)≤n)))&&!(g.edges.any fun x=>decide ((t.edges.length:Int)≤x.type))
theorem A8 (t:Types)(a:Int):Pure Tryz.prog 302 [dI a,.adr t.c] (.bool (decide ((t.nodes.length:Int)≤a))):=by
 refine Tz.pK ⟨fun _=>false,fun _=>[]⟩ Tryz.func302 rfl (fun Q hQ=>?_)
 have Y:=trivial
 exact wo (h:=hQ _ _ wy)
theorem A7 (t:Types)(x:Edge):Pure Tryz.prog 303 [.agg x.c,.adr t.c] (.bool (decide ((t.edges.length:Int)≤x.type))):=by
 refine Tz.pK ⟨fun _=>false,fun _=>[]⟩ Tryz.func303 rfl (fun Q hQ=>?_)
 have Y:=trivial
 exact wo (h:=hQ _ _ wy)
def iT (n:Nat)(l:List Slot):List Bool:=(List.range n).map fun (v:Nat)=>l.any fun s=>decide (s.term.var=v)
theorem cV (n:Nat)(l:List Slot):(iT n l).length=n:=by simp [iT]
theorem Mc (n:Nat):iT n []=List.replicate n false:=by
 apply fU (by simp [iT]);intro i h1 h2;simp [iT]
theorem Mb (n:Nat)(l:List Slot)(s:Slot)(h0:0≤s.term.var)(h1:s.term.var<n):iT n (l++[s])=(iT n l).set s.term.var.toNat true:=by
 apply fU (by simp [iT]);intro i h2 h3
 rw [wX]
 simp only [iT,qF,mY,yU,List.any_cons,List.any_nil,r3]
 split
 ·rename_i h;rw [b6];right;simp;omega
 ·rename_i h;rw [show decide (s.term.var=(i:Int))=false by simp;omega,r3]
theorem Md (n:Nat)(l:List Slot)(s:Slot)(h0:¬ 0≤s.term.var):iT n (l++[s])=iT n l:=by
 apply fU (by simp [iT]);intro i h2 h3
 simp only [iT,qF,mY,yU,List.any_cons,List.any_nil,r3]
 rw [show decide (s.term.var=(i:Int))=false by simp;omega,r3]
theorem JY (n:Nat)(l:List Slot)(s:Slot)(h1:s.term.var<n):iT n (l++[s])=if 0≤s.term.var then (iT n l).set s.term.var.toNat true else iT n l:=by
 split
 ·exact Mb n l s ‹_› h1
 ·exact Md n l s ‹_›
def fF (t:Types)(p:Pattern)(s:Slot):Int:=if (jO t p s.node s.attr&&inF s.term.var (-1) (p.vars - 1)&&inF s.term.add (-1000000) 1000000)=true then 0 else 6
def bT (t:Types)(p:Pattern):Int :=
 if (cA t).2≠0 then (cA t).2
 else if graphF p.graph≠0 then graphF p.graph
 else if gU t p.graph=false then 13
 else if inF p.vars 0 12=false then 6
 else if 10<p.slots.length∨10<p.tests.length then 3
 else if fG (fF t p) p.slots≠0 then 6
 else if jD p.vars p.tests≠0 then jD p.vars p.tests
 else if mem (iT p.vars.toNat p.slots) false=true then 9 else 0
theorem bJ {g:Graph}(h:graphF g=0):g.nodes.length≤40∧g.edges.length≤80:=by
 unfold graphF at h
 split at h
 ·cases h
 ·omega
theorem ND {t:Types}{p:Pattern}{s:Slot}(h:fF t p s=0):s.term.var<p.vars∧-1≤s.term.var:=by
 unfold fF at h
 split at h
 ·rename_i h1;simp [inF] at h1;omega
 ·cases h
theorem lL (t:Types)(ht:t.ok)(p:Pattern):Pure Tryz.prog 214 [t.d,p.d] (dI (bT t p)):=by
 refine Tz.pK ⟨fun t=>t==10||t==11,fun _=>[]⟩ Tryz.func214 rfl (fun Q hQ=>?_)
 try simp [go_sem,seval]
 refine aB (lV t ht) ((by first|rfl|(simp [go_sem,← List.map_take,← List.map_drop];done))) ?_
 try simp [go_sem,seval]
 refine aO (fun h2=>?_) (fun h2=>?_)
 ·try simp [go_sem] at h2
  try simp [go_sem,seval]
  exact hQ _ _ (by first|(left;(simp [go_sem,bT,h2]);done)|(right;(simp [go_sem,bT,h2]);done))
 ·try simp [go_sem] at h2
  try simp [go_sem,seval]
  refine aB (kM p.graph) ((by first|rfl|(simp [go_sem,← List.map_take,← List.map_drop];done))) ?_
  try simp [go_sem,seval]
  refine aO (fun h5=>?_) (fun h5=>?_)
  ·try simp [go_sem] at h5
   try simp [go_sem,seval]
   exact hQ _ _ (by first|(left;(simp [go_sem,bT,h2,h5]);done)|(right;(simp [go_sem,bT,h2,h5]);done))
  ·try simp [go_sem] at h5
   have hg:=bJ h5
   try simp [go_sem,seval]
   repeat first|intro _|refine ⟨eP,?_⟩
   refine aB (fB p.graph.nodes 302 [.adr t.c] (fun a=>decide ((t.nodes.length:Int)≤a)) (by simp [go_sem]) (by simp [go_sem]) (fun a _=>A8 t a)) ((by first|rfl|(simp [go_sem,← List.map_take,← List.map_drop];done))) ?_
   try simp [go_sem,seval]
   repeat first|intro _|refine ⟨eP,?_⟩
   refine aK (fun hg=>jQ p.graph.edges 303 [.adr t.c] (fun x=>decide ((t.edges.length:Int)≤x.type)) (by simp [go_sem]) (by simp [go_sem]) (fun x _=>A7 t x)) (fun hg=>(by first|rfl|(simp [go_sem,← List.map_take,← List.map_drop];done))) ?_
   try simp [go_sem,seval]
   repeat first|intro _|refine ⟨eP,?_⟩
   refine aO (fun h7=>?_) (fun h7=>?_)
   ·try simp [go_sem] at h7
    have hT:gU t p.graph=false:=by
     simp [gU]
     intro h'
     rcases h7 with ⟨x,hx,hl⟩|h
     ·exact absurd (h' x hx) (by omega)
     ·exact h
    try simp [go_sem,seval]
    exact hQ _ _ (by first|(left;(simp [go_sem,bT,h2,h5,hT]);done)|(right;(simp [go_sem,bT,h2,h5,hT]);done))
   ·try simp [go_sem] at h7
    have hT:gU t p.graph=true:=by simp [gU];exact h7
    try simp [go_sem,seval]
    repeat first|intro _|refine ⟨eP,?_⟩
    refine aB (g9 _ _ _) ((by first|rfl|(simp [go_sem,← List.map_take,← List.map_drop];done))) ?_
    try simp [go_sem,seval]
    repeat first|intro _|refine ⟨eP,?_⟩
    refine aO (fun h9=>?_) (fun h9=>?_)
    ·try simp [go_sem] at h9
     try simp [go_sem,seval]
     exact hQ _ _ (by first|(left;(simp [go_sem,bT,h2,h5,hT,h9]);done)|(right;(simp [go_sem,bT,h2,h5,hT,h9]);done))
    ·try simp [go_sem] at h9
     try simp [go_sem,seval]
     repeat first|intro _|refine ⟨eP,?_⟩
     refine aO (fun h11=>?_) (fun h11=>?_)
     ·try simp [go_sem] at h11
      try simp [go_sem,seval]
      exact hQ _ _ (by first|(left;(simp [go_sem,bT,h2,h5,hT,h9];omega);done)|(right;(simp [go_sem,bT,h2,h5,hT,h9];omega);done))
     ·try simp [go_sem] at h11
      have hin:=h9
      simp [inF] at hin
      have hF0:bT t p=if fG (fF t p) p.slots≠0 then 6 else if jD p.vars p.tests≠0 then jD p.vars p.tests else if mem (iT p.vars.toNat p.slots) false=true then 9 else 0:=by
       unfold bT
       rw [if_neg (by simp [h2]),if_neg (by simp [h5]),if_neg (by simp [hT]),if_neg (by simp [h9]),if_neg (by omega)]
      try simp [go_sem,seval]
      repeat first|intro _|refine ⟨eP,?_⟩
      obtain ⟨I0,hI0⟩:∃ I0:Nat→cZ→AHeap→Prop,∀ (i:Nat) (e:cZ) (H:AHeap),I0 i e H↔((e 2=.adr t.c)∧(e 3=.adr p.c)∧(e 8=.own 0 p.vars.toNat)∧(e 58=.list (p.slots.map Slot.c))∧(e 59=dI p.slots.length)∧(e 60=dI i)∧(H.get 0=some ⟨4,1,(iT p.vars.toNat (p.slots.take i)).map cB,false⟩)∧(0<H.next)∧(i≤p.slots.length)∧(fG (fF t p) (p.slots.drop i)=fG (fF t p) p.slots)):=⟨fun i e H=>_,fun _ _ _=>Iff.rfl⟩
      refine q9 I0 (fun i=>p.slots.length - i) (0) ((hI0 _ _ _).2 ⟨?_,?_,?_,?_,?_,?_,(by (simp [go_sem,Mc])),?_,(by first|assumption|omega|(simp [go_sem];done)|(simp_all;done)),(by rfl)⟩) ?_
      iterate 7 (first|omega|(simp [go_sem,seval]<;>omega))
      intro i e H hi0
      obtain ⟨q2_0,q3_0,q8_0,q58_0,q59_0,q60_0,g0_0,n0_0,hi,hL⟩:=(hI0 _ _ _).1 hi0
      have x0:=bY n0_0
      have F0:=And.intro q2_0 (And.intro q3_0 (And.intro q8_0 (And.intro q58_0 (And.intro q59_0 (And.intro q60_0 x0)))))
      try simp [go_sem,seval,F0,g0_0,cV]
      refine aO (fun h15=>?_) (fun h15=>?_)
      ·try simp [go_sem] at h15
       have hst:=i6 (fF t p) h15
       have hts:=aF h15
       try simp [go_sem,seval,F0,g0_0,cV,h15]
       repeat first|intro _|refine ⟨eP,?_⟩
       refine aB (Ed t ht p (by omega) p.slots[i]) ((by first|rfl|(simp [go_sem,← List.map_take,← List.map_drop,F0,g0_0,cV,h15];done))) ?_
       try simp [go_sem,seval,F0,g0_0,cV,h15]
       repeat first|intro _|refine ⟨eP,?_⟩
       refine aK (fun hg=>g9 _ _ _) (fun hg=>(by first|rfl|(simp [go_sem,← List.map_take,← List.map_drop,F0,g0_0,cV,h15];done))) ?_
       try simp [go_sem,seval,F0,g0_0,cV,h15]
       repeat first|intro _|refine ⟨eP,?_⟩
       refine aK (fun hg=>g9 _ _ _) (fun hg=>(by first|rfl|(simp [go_sem,← List.map_take,← List.map_drop,F0,g0_0,cV,h15];done))) ?_
       try simp [go_sem,seval,F0,g0_0,cV,h15]
       repeat first|intro _|refine ⟨eP,?_⟩
       refine aO (fun h18=>?_) (fun h18=>?_)
       ·skip
        have hs6:fF t p p.slots[i]=6:=by unfold fF;rw [if_neg];revert h18;cases jO t p p.slots[i].node p.slots[i].attr<;>cases inF p.slots[i].term.var (-1) (p.vars - 1)<;>cases inF p.slots[i].term.add (-1000000) 1000000<;>simp
        rw [hs6,if_pos (by simp),hL] at hst
        try simp [go_sem,seval,F0,g0_0,cV,h15]
        exact hQ _ _ (by first|(left;(simp [go_sem,hF0,hst]);done)|(right;(simp [go_sem,hF0,hst]);done))
       ·skip
        have hs0:fF t p p.slots[i]=0:=by unfold fF;rw [if_pos];revert h18;cases jO t p p.slots[i].node p.slots[i].attr<;>cases inF p.slots[i].term.var (-1) (p.vars - 1)<;>cases inF p.slots[i].term.add (-1000000) 1000000<;>simp
        rw [hs0,if_neg (by simp),hL] at hst
        have hlt:=ND hs0
        have hus:=JY p.vars.toNat (p.slots.take i) p.slots[i] (by omega)
        try simp [go_sem,seval,F0,g0_0,cV,h15]
        refine aO (fun h20=>?_) (fun h20=>?_)
        ·try simp [go_sem] at h20
         have hfin:iT p.vars.toNat (p.slots.take (i+1))=(iT p.vars.toNat (p.slots.take i)).set p.slots[i].term.var.toNat true:=by rw [hts,hus,if_pos (by omega)]
         have hvl:p.slots[i].term.var.toNat<(iT p.vars.toNat (p.slots.take i)).length:=by rw [cV];omega
         try simp [go_sem,seval,F0,g0_0,cV,h15,aA hvl]
         repeat first|intro _|refine ⟨eP,?_⟩
         refine eV (i+1) (by omega) ((hI0 _ _ _).2 ⟨?_,?_,?_,?_,?_,?_,(by (simp [go_sem,F0,g0_0,cV,h15,aA hvl,cG,hfin])),?_,(by first|assumption|omega|(simp [go_sem,F0,g0_0,cV,h15,aA hvl,h2,h5,h7,h9,h11,h18,h20];done)|(simp_all<;>omega)),(by (exact hst.symm))⟩)<;>first|omega|(simp [go_sem,seval,F0,g0_0,cV,h15,aA hvl]<;>omega)
        ·try simp [go_sem] at h20
         have hfin:iT p.vars.toNat (p.slots.take (i+1))=iT p.vars.toNat (p.slots.take i):=by rw [hts,hus,if_neg (by omega)]
         try simp [go_sem,seval,F0,g0_0,cV,h15]
         repeat first|intro _|refine ⟨eP,?_⟩
         refine eV (i+1) (by omega) ((hI0 _ _ _).2 ⟨?_,?_,?_,?_,?_,?_,(by (simp [go_sem,F0,g0_0,cV,h15,cG,hfin])),?_,(by first|assumption|omega|(simp [go_sem,F0,g0_0,cV,h15,h2,h5,h7,h9,h11,h18,h20];done)|(simp_all<;>omega)),(by (exact hst.symm))⟩)<;>first|omega|(simp [go_sem,seval,F0,g0_0,cV,h15]<;>omega)
      ·try simp [go_sem] at h15
       have hU:List.take i p.slots=p.slots:=aJ (by omega)
       have hz:fG (fF t p) p.slots=0:=by rw [← hL,jU _ (by omega)]
       rw [hU] at g0_0
       rw [if_neg (by simp [hz])] at hF0
       try simp [go_sem,seval,F0,g0_0,cV]
       refine aB (A0 p.vars p.tests) ((by first|rfl|(simp [go_sem,← List.map_take,← List.map_drop,F0,g0_0,cV];done))) ?_
       try simp [go_sem,seval,F0,g0_0,cV]
       refine aO (fun h24=>?_) (fun h24=>?_)
       ·try simp [go_sem] at h24
        try simp [go_sem,seval,F0,g0_0,cV]
        exact hQ _ _ (by first|(left;(rw [hF0,if_pos (by simpa using h24)];simp [go_sem]);done)|(right;(rw [hF0,if_pos (by simpa using h24)];simp [go_sem]);done))
       ·try simp [go_sem] at h24
        try simp [go_sem,seval,F0,g0_0,cV]
        refine cY (E8 (iT p.vars.toNat p.slots) false) (by simp [C4,AJ,eF,go_sem,← List.map_take,← List.map_drop,F0,g0_0,cV]) ((by first|rfl|(simp [go_sem,← List.map_take,← List.map_drop,F0,g0_0,cV];done))) ( rfl) ?_
        try simp [go_sem,seval,F0,g0_0,cV]
        refine aO (fun h26=>?_) (fun h26=>?_)
        ·try simp [go_sem] at h26
         try simp [go_sem,seval,F0,g0_0,cV]
         exact hQ _ _ (by first|(left;(rw [hF0,if_neg (by simpa using h24),if_pos h26];simp [go_sem]);done)|(right;(rw [hF0,if_neg (by simpa using h24),if_pos h26];simp [go_sem]);done))
        ·try simp [go_sem] at h26
         try simp [go_sem,seval,F0,g0_0,cV]
         exact hQ _ _ (by first|(left;(rw [hF0,if_neg (by simpa using h24),if_neg (by simp [h26])];simp [go_sem]);done)|(right;(rw [hF0,if_neg (by simpa using h24),if_neg (by simp [h26])];simp [go_sem]);done))
def lZ (t:Types)(x:Edge):Bool:=decide (0≤x.type)&&decide (x.type<t.edges.length)
def j5 (t:Types)(g:Graph):Bool:=(!(g.nodes.any fun a=>!insideF t a))&&!(g.edges.any fun x=>!lZ t x)
theorem lM {α:Type}{l:List α}{p:α→Bool}{i:Nat}(h:(l.take i).any p=false)(he:l.length≤i):l.any p=false:=by
 rw [aJ he] at h;exact h
theorem qW (t:Types)(g:Graph):Pure Tryz.prog 291 [t.d,g.d] (.bool (j5 t g)):=by
 refine Tz.pK ⟨fun _=>false,fun _=>[]⟩ Tryz.func291 rfl (fun Q hQ=>?_)
 have Y:=trivial
 refine wv (h:=bB (fun i e H=>(e 2=.adr t.c∧e 3=.adr g.c∧e 5=dI i)∧(i≤g.nodes.length)∧(((g.nodes.take i).any fun a=>!insideF t a)=false)) (fun i=>g.nodes.length - i) 0 ⟨wg,wi,(by rfl)⟩ fun I0 hI0 i e H hi0=>?_)
 obtain ⟨E0,hi,ha⟩:=hi0
 have Y:=wa Y E0
 refine wv (h:=?_)
 repeat first|intro _|refine ⟨eP,?_⟩
 refine wq (fun h2=>?_) fun h2=>?_
 ·have Y:=wa Y h2
  refine wv (h:=?_)
  repeat first|intro _|refine ⟨eP,?_⟩
  refine wq (fun h4=>?_) fun h4=>?_
  ·refine wv (h:=?_)
   have hb:(g.nodes.any fun a=>!insideF t a)=true:=aU.2 ⟨_,aC h2,by simp [insideF];omega⟩
   exact hQ _ _ (.inl (by simp only [go_sem,j5,hb,Es,B1]))
  ·exact wo (h:=wx hI0 (i+1) ⟨wg,wj,(by (rw [cX _ _ _ h2,ha];simp [insideF];omega))⟩)
 ·have hN:=lM ha h2
  refine wv (h:=bB (fun k e H=>(e 2=.adr t.c∧e 3=.adr g.c∧e 6=dI k)∧(k≤g.edges.length)∧(((g.edges.take k).any fun x=>!lZ t x)=false)) (fun k=>g.edges.length - k) 0 ⟨wg,wi,(by rfl)⟩ fun I2 hI2 k e H hi2=>?_)
  obtain ⟨E2,hk,hb⟩:=hi2
  have Y:=wa Y E2
  refine wv (h:=?_)
  repeat first|intro _|refine ⟨eP,?_⟩
  refine wq (fun h7=>?_) fun h7=>?_
  ·have Y:=wa Y h7
   refine wv (h:=?_)
   repeat first|intro _|refine ⟨eP,?_⟩
   refine wq (fun h9=>?_) fun h9=>?_
   ·refine wv (h:=?_)
    have hb':(g.edges.any fun x=>!lZ t x)=true:=aU.2 ⟨_,aC h7,by simp [lZ];omega⟩
    exact hQ _ _ (.inl (by simp only [go_sem,j5,hb',Es,Bool.and_false]))
   ·exact wo (h:=wx hI2 (k+1) ⟨wg,wj,(by (rw [cX _ _ _ h7,hb];simp [lZ];omega))⟩)
  ·refine wv (h:=?_)
   have hE:=lM hb h7
   exact hQ _ _ (.inl (by simp only [go_sem,j5,hN,hE,Bool.not_false,Bool.and_true]))
theorem Gq {α:Type}{l:List α}{p q:α→Bool}(h:∀ x∈l,p x=q x):l.any p=l.any q:=by
 induction l with
 | nil=>rfl
 | cons a l ih=>simp only [List.any_cons,h a (by simp),ih fun x hx=>h x (by simp [hx])]
theorem dF {g:Graph}(h:graphF g=0):(∀ a∈g.nodes,0≤a∧a≤99)∧∀ x∈g.edges,(0≤x.type∧x.type≤99)∧(0≤x.from_∧x.from_<g.nodes.length)∧(0≤x.to_∧x.to_<g.nodes.length):=by
 unfold graphF at h
 split at h
 ·cases h
 ·split at h
  ·cases h
  ·rename_i h1
   split at h
   ·cases h
   ·rename_i h2
    simp [f7,rC] at h1 h2
    refine ⟨h1,fun x hx=>?_⟩
    have:=h2 x hx
    omega
theorem s6 {t:Types}{g:Graph}(h:graphF g=0):j5 t g=gU t g:=by
 obtain ⟨h1,h2⟩:=dF h
 unfold j5 gU
 congr 2
 ·exact Gq fun x hx=>by have:=h1 x hx;rw [aV];simp [insideF];omega
 ·exact Gq fun x hx=>by have:=h2 x hx;rw [aV];simp [lZ];omega
theorem EM (n:Int):Pure Tryz.prog 293 [dI n] (.bool (inF n (-1000000) 1000000)):=by
 refine Tz.pK ⟨fun _=>false,fun _=>[]⟩ Tryz.func293 rfl (fun Q hQ=>?_)
 have Y:=trivial
 have Y:=wa Y @inF.eq_1
 exact wo (h:=hQ _ _ wy)
theorem Ll {t:Types}{a:Int}(h:¬ given2F t a a=0):bK t a=[]:=by unfold bK;rw [if_neg h]
theorem Kq (t:Types)(ht:t.ok)(p:Pattern)(node attr:Int):Pure Tryz.prog 292 [t.d,p.d,dI node,dI attr] (.tup [.agg (BU t p node attr).c,.bool (jO t p node attr)]):=by
 have h8:=nO ht (p.kind node)
 refine Tz.pK ⟨fun t=>t==8,fun _=>[]⟩ Tryz.func292 rfl (fun Q hQ=>?_)
 have Y:=trivial
 refine dV (fun h1=>?_) fun h1=>?_
 ·have hB:jO t p node attr=false:=by rw [bH];intro h;simp [jO] at h;omega
  exact wv (h:=hQ _ _ (by simp [go_sem,BU,hB,mA]))
 ·have hn:node.toNat<p.graph.nodes.length:=by omega
  have hk:p.kind node=p.graph.nodes[node.toNat]:=by simp [Pattern.kind,hn]
  rw [hk] at h8
  have Y:=wa Y (wa (aA hn) hk)
  refine wo (h:=aI (n9 t ht p.graph.nodes[node.toNat]) wl ?_)
  refine dV (fun h4=>?_) fun h4=>?_
  ·have hB:jO t p node attr=false:=by
    rw [bH];intro h;simp [jO,hk] at h
    by_cases hg:given2F t p.graph.nodes[node.toNat] p.graph.nodes[node.toNat]=0
    ·omega
    ·rw [Ll hg] at h;simp at h;omega
   exact wv (h:=hQ _ _ (by simp [go_sem,BU,hB,mA]))
  ·have ha:attr.toNat<(bK t p.graph.nodes[node.toNat]).length:=by omega
   have hB:jO t p node attr=true:=by simp [jO,hk];omega
   have Y:=wa Y (aA ha)
   exact wo (h:=hQ _ _ (by simp [go_sem,BU,hB,hk,aA ha]))
def iI (p:Pattern)(v:Int):Bool:=p.slots.any fun s=>decide (s.term.var=v)
theorem G0 (p:Pattern)(v:Int):Pure Tryz.prog 295 [p.d,dI v] (.bool (iI p v)):=by
 refine Tz.pK ⟨fun _=>false,fun _=>[]⟩ Tryz.func295 rfl (fun Q hQ=>?_)
 have Y:=trivial
 refine wv (h:=bB (fun i e H=>(e 2=.adr p.c∧e 1=dI v∧e 5=dI i)∧(i≤p.slots.length)∧(((p.slots.take i).any fun s=>decide (s.term.var=v))=false)) (fun i=>p.slots.length - i) 0 ⟨wg,wi,(by rfl)⟩ fun I0 hI0 i e H hi0=>?_)
 obtain ⟨E0,hi,ha⟩:=hi0
 have Y:=wa Y E0
 refine wv (h:=?_)
 repeat first|intro _|refine ⟨eP,?_⟩
 refine wq (fun h2=>?_) fun h2=>?_
 ·have Y:=wa Y h2
  refine wv (h:=?_)
  repeat first|intro _|refine ⟨eP,?_⟩
  refine wq (fun h4=>?_) fun h4=>?_
  ·refine wv (h:=?_)
   have hb:iI p v=true:=aU.2 ⟨_,aC h2,by simpa using h4⟩
   exact hQ _ _ (.inl (by simp only [go_sem,hb]))
  ·exact wo (h:=wx hI0 (i+1) ⟨wg,wj,(by (rw [cX _ _ _ h2,ha];simpa using h4))⟩)
 ·refine wv (h:=?_)
  have hb:iI p v=false:=lM ha h2
  exact hQ _ _ (.inl (by simp only [go_sem,hb]))
theorem Fl (p:Pattern)(n:Nat):mem (iT n p.slots) false=true↔∃ v:Nat,v<n∧iI p v=false:=by
 rw [cW]
 simp only [iT,bG,bZ,iI]
theorem qU (t:Types)(ht:t.ok)(p:Pattern):Pure Tryz.prog 209 [t.d,p.d] (dI (bT t p)):=by
 refine Tz.pK ⟨fun t=>t==9||t==10,fun _=>[]⟩ Tryz.func209 rfl (fun Q hQ=>?_)
 have Y:=trivial
 refine wv (h:=aB (n8 t ht) wl ?_)
 refine cT (fun h2=>?_) fun h2=>?_
 ·exact wv (h:=hQ _ _ (by simp [go_sem,bT,h2]))
 ·refine wv (h:=aB (jJ p.graph) wl ?_)
  refine cT (fun h5=>?_) fun h5=>?_
  ·exact wv (h:=hQ _ _ (by simp [go_sem,bT,h2,h5]))
  ·refine wo (h:=aB (qW t p.graph) wl ?_)
   refine dV (fun h7=>?_) fun h7=>?_
   ·rw [s6 h5] at h7
    exact wv (h:=hQ _ _ (by simp [go_sem,bT,h2,h5,h7]))
   ·rw [s6 h5] at h7
    refine dV (fun h9=>?_) fun h9=>?_
    ·exact wv (h:=hQ _ _ (by simp [go_sem,bT,h2,h5,h7,inF];omega))
    ·refine dV (fun h11=>?_) fun h11=>?_
     ·exact wv (h:=hQ _ _ (by simp [go_sem,bT,h2,h5,h7,inF];omega))
     ·have hF0:bT t p=if fG (fF t p) p.slots≠0 then 6 else if jD p.vars p.tests≠0 then jD p.vars p.tests else if mem (iT p.vars.toNat p.slots) false=true then 9 else 0:=by
       unfold bT
       rw [if_neg (by simp [h2]),if_neg (by simp [h5]),if_neg (by simp [h7]),if_neg (by simp [inF];omega),if_neg (by omega)]
      refine wv (h:=bB (fun i e H=>(e 2=.adr t.c∧e 3=.adr p.c∧e 8=dI i)∧(i≤p.slots.length)∧(fG (fF t p) (p.slots.drop i)=fG (fF t p) p.slots)) (fun i=>p.slots.length - i) 0 ⟨wg,wi,(by rfl)⟩ fun I0 hI0 i e H hi0=>?_)
      obtain ⟨E0,hi,hL⟩:=hi0
      have Y:=wa Y E0
      refine dV (fun h14=>?_) fun h14=>?_
      ·have hst:=i6 (fF t p) h14
       have Y:=wa Y h14
       refine wo (h:=aB (Kq t ht p p.slots[i].node p.slots[i].attr) wl ?_)
       refine wo (h:=aK (fun hg=>EM _) (fun hg=>wl) ?_)
       refine wo (h:=aO (fun h18=>?_) (fun h18=>?_))
       ·skip
        have hs6:fF t p p.slots[i]=6:=by
         unfold fF;rw [if_neg];intro h;simp [inF] at h;simp [h.1.1,inF] at h18;omega
        rw [hs6,if_pos (by simp),hL] at hst
        exact wv (h:=hQ _ _ (by simp [go_sem,hF0,hst]))
       ·skip
        have hs0:fF t p p.slots[i]=0:=by
         unfold fF;rw [if_pos];simp [inF] at h18 ⊢;refine ⟨⟨h18.1.1.1,?_⟩,?_⟩<;>omega
        rw [hs0,if_neg (by simp),hL] at hst
        exact wo (h:=wx hI0 (i+1) ⟨wg,wj,(by exact hst.symm)⟩)
      ·have hz:fG (fF t p) p.slots=0:=by rw [← hL,jU _ (by omega)]
       rw [if_neg (by simp [hz])] at hF0
       refine wv (h:=aB (ID p.vars p.tests) wl ?_)
       refine cT (fun h21=>?_) fun h21=>?_
       ·exact wv (h:=hQ _ _ (by rw [hF0,if_pos (by simpa using h21)];simp [go_sem]))
       ·rw [if_neg (by simpa using h21)] at hF0
        refine wv (h:=bB (fun v e H=>(e 2=.adr t.c∧e 3=.adr p.c∧e 13=dI v)∧(v≤p.vars.toNat)∧(∀ j:Nat,j<v→iI p j=true)) (fun v=>p.vars.toNat - v) 0 ⟨wg,wi,(by (intro j hj;omega))⟩ fun I2 hI2 v e H hi2=>?_)
        obtain ⟨E2,hv,ho⟩:=hi2
        have Y:=wa Y E2
        refine cT (fun h24=>?_) fun h24=>?_
        ·have Y:=wa Y h24
         refine wo (h:=aB (G0 p v) wl ?_)
         refine dV (fun h26=>?_) fun h26=>?_
         ·exact wv (h:=hQ _ _ (by rw [hF0,if_pos ((Fl p _).2 ⟨v,by omega,by simpa using h26⟩)];simp [go_sem]))
         ·exact wo (h:=wx hI2 (v+1) ⟨wg,wj,(by (exact iX (p:=fun j=>iI p j=true) ho (by simpa using h26)))⟩)
        ·refine wv (h:=?_)
         have hm:¬ mem (iT p.vars.toNat p.slots) false=true:=fun h=>by
          obtain ⟨w,hw,ho'⟩:=(Fl p _).1 h
          rw [ho w (by omega)] at ho';cases ho'
         exact hQ _ _ (by rw [hF0,if_neg hm];simp [go_sem])
end Go.Abs
end
section
namespace Go.Proofs
open Go.Shelf
def Tryz.laysSort_ren:Go.Shelf.Ren:=⟨fun|189=>350|125=>401|257=>400|128=>443|129=>444|294=>435|295=>436|296=>437|297=>438|298=>439|299=>440|216=>329|300=>441|301=>442|328=>452|329=>453|330=>454|331=>455|332=>456|215=>122|343=>459|n=>n,fun|28=>34|3=>3|46=>347|0=>0|51=>414|53=>81|4=>4|183=>445|182=>444|131=>275|5=>5|9=>9|218=>455|222=>459|228=>461|229=>356|n=>n,fun|n=>n⟩
theorem Tryz.laysSort:Go.Proofs.Lays.n189 Tryz.prog Tryz.laysSort_ren:={
 mixed:=by kernel_rfl
 f125:=Tryz.func401.trans (congrArg some (by kernel_rfl))
 f128:=Tryz.func443.trans (congrArg some (by kernel_rfl))
 f129:=Tryz.func444.trans (congrArg some (by kernel_rfl))
 f189:=Tryz.func350.trans (congrArg some (by kernel_rfl))
 f215:=Tryz.func122.trans (congrArg some (by kernel_rfl))
 f216:=Tryz.func329.trans (congrArg some (by kernel_rfl))
 f257:=Tryz.func400.trans (congrArg some (by kernel_rfl))
 f294:=Tryz.func435.trans (congrArg some (by kernel_rfl))
 f295:=Tryz.func436.trans (congrArg some (by kernel_rfl))
 f296:=Tryz.func437.trans (congrArg some (by kernel_rfl))
 f297:=Tryz.func438.trans (congrArg some (by kernel_rfl))
 f298:=Tryz.func439.trans (congrArg some (by kernel_rfl))
 f299:=Tryz.func440.trans (congrArg some (by kernel_rfl))
 f300:=Tryz.func441.trans (congrArg some (by kernel_rfl))
 f301:=Tryz.func442.trans (congrArg some (by kernel_rfl))
 f328:=Tryz.func452.trans (congrArg some (by kernel_rfl))
 f329:=Tryz.func453.trans (congrArg some (by kernel_rfl))
 f330:=Tryz.func454.trans (congrArg some (by kernel_rfl))
 f331:=Tryz.func455.trans (congrArg some (by kernel_rfl))
 f332:=Tryz.func456.trans (congrArg some (by kernel_rfl))
 f343:=Tryz.func459.trans (congrArg some (by kernel_rfl))
 t0:=Tryz.underlying0
 a0:=Tryz.isAgg0
 z0:=Tryz.sizeOf0
 v0:=Tryz.zeroValue0
 t3:=Tryz.underlying3
 a3:=Tryz.isAgg3
 z3:=Tryz.sizeOf3
 v3:=Tryz.zeroValue3
 t4:=Tryz.underlying4
 a4:=Tryz.isAgg4
 z4:=Tryz.sizeOf4
 v4:=Tryz.zeroValue4
 t5:=Tryz.underlying5
 a5:=Tryz.isAgg5
 z5:=Tryz.sizeOf5
 v5:=Tryz.zeroValue5
 t9:=Tryz.underlying9
 a9:=Tryz.isAgg9
 z9:=Tryz.sizeOf9
 v9:=Tryz.zeroValue9
 t28:=Tryz.underlying34
 a28:=Tryz.isAgg34
 z28:=Tryz.sizeOf34
 v28:=Tryz.zeroValue34
 t46:=Tryz.underlying347
 a46:=Tryz.isAgg347
 z46:=Tryz.sizeOf347
 v46:=Tryz.zeroValue347
 t51:=Tryz.underlying414
 a51:=Tryz.isAgg414
 z51:=Tryz.sizeOf414
 v51:=Tryz.zeroValue414
 t53:=Tryz.underlying81
 a53:=Tryz.isAgg81
 z53:=Tryz.sizeOf81
 v53:=Tryz.zeroValue81
 t131:=Tryz.underlying275
 a131:=Tryz.isAgg275
 z131:=Tryz.sizeOf275
 v131:=Tryz.zeroValue275
 t182:=Tryz.underlying444
 a182:=Tryz.isAgg444
 z182:=Tryz.sizeOf444
 v182:=Tryz.zeroValue444
 t183:=Tryz.underlying445
 a183:=Tryz.isAgg445
 z183:=Tryz.sizeOf445
 v183:=Tryz.zeroValue445
 t218:=Tryz.underlying455
 a218:=Tryz.isAgg455
 z218:=Tryz.sizeOf455
 v218:=Tryz.zeroValue455
 t222:=Tryz.underlying459
 a222:=Tryz.isAgg459
 z222:=Tryz.sizeOf459
 v222:=Tryz.zeroValue459
 t228:=Tryz.underlying461
 a228:=Tryz.isAgg461
 z228:=Tryz.sizeOf461
 v228:=Tryz.zeroValue461
 t229:=Tryz.underlying356
 a229:=Tryz.isAgg356
 z229:=Tryz.sizeOf356
 v229:=Tryz.zeroValue356 }
def Tryz.laysCompact_ren:Go.Shelf.Ren:=⟨fun|20=>380|n=>n,fun|22=>34|3=>3|4=>4|0=>0|n=>n,fun|n=>n⟩
theorem Tryz.laysCompact:Go.Proofs.Lays2.n20 Tryz.prog Tryz.laysCompact_ren:={
 mixed:=by kernel_rfl
 f20:=Tryz.func380.trans (congrArg some (by kernel_rfl))
 t0:=Tryz.underlying0
 a0:=Tryz.isAgg0
 z0:=Tryz.sizeOf0
 v0:=Tryz.zeroValue0
 t3:=Tryz.underlying3
 a3:=Tryz.isAgg3
 z3:=Tryz.sizeOf3
 v3:=Tryz.zeroValue3
 t4:=Tryz.underlying4
 a4:=Tryz.isAgg4
 z4:=Tryz.sizeOf4
 v4:=Tryz.zeroValue4
 t22:=Tryz.underlying34
 a22:=Tryz.isAgg34
 z22:=Tryz.sizeOf34
 v22:=Tryz.zeroValue34
 i3:=by kernel_rfl }
end Go.Proofs
end
section
set_option maxRecDepth 4000
open Go Go.Proofs Go.Shelf
namespace Go.Abs
def nB (xs:List Int):List Int:=xs.mergeSort fun x y=>decide (x≤y)
theorem kI (xs:List Int):(nB xs).length=xs.length:=List.length_mergeSort xs
theorem H6 {G:AHeap}{id:Nat}{ty:TypeId}{xs:List Int}{Q:D→AHeap→Prop}(hg:G.get id=some ⟨ty,1,xs.map cI,false⟩)(hl:xs.length≤1000000)
  (hQ:Q (.tup []) (G.put id ⟨ty,1,(nB xs).map cI,false⟩)):ACalls Tryz.prog 350 [.own id xs.length] G Q:=by
 refine JO ⟨Tryz.f350,Tryz.func350,rfl,rfl⟩ hg (kI xs) (fun w v hrow=>?_) hQ
 rcases hrow.2 with ⟨rfl,h0⟩|⟨g,cap,cur,rfl,hb,hblk,hnc,hcm,hcs,htk⟩
 ·have hx:xs=[]:=bF h0
  subst hx
  exact (Any.slices_Sort_int_none Tryz.laysSort none 0 w).mono fun e w' ⟨he,hw⟩=>by
   subst hw
   exact ⟨he,⟨rfl,rfl,rfl,bC _,fun _ _ _=>rfl⟩,by simpa [Cr,nB] using hrow⟩
 ·have hH:Sort.Holds (Value.int .i64) w g 0 xs.toArray:=holds_of_blockI hblk (by simpa using htk)
  refine (Any.slices_Sort_int Tryz.laysSort g 0 cap xs w hH (oO.1 hblk).1 (by omega)).mono fun e w' ⟨he,n,os,hw⟩=>?_
  subst hw
  refine ⟨he,grownBy_sortedI _,?_⟩
  have:=ownsRow_sortedI (n:=n) (os:=os) (ts:=nB xs) (kI xs) hb hblk hnc hcm (by simpa using hcs)
  unfold Cr
  rw [kI]
  exact this
theorem D3 (zs:List Int):(Lib.compact zs).length≤zs.length:=by
 unfold Lib.compact Lib.compactUpTo
 rw [bW]
 exact dM (kD _ _) (by simp)
theorem BQ {G:AHeap}{id:Nat}{ty:TypeId}{xs:List Int}{Q:D→AHeap→Prop}(hg:G.get id=some ⟨ty,1,xs.map cI,false⟩)(hl:xs.length≤1000000)
  (hQ:∀ k,Q (.list ((Lib.compact xs).map cI)) (G.put id k)):ACalls Tryz.prog 380 [.own id xs.length] G Q:=by
 have hcl:=D3 xs
 have hzl:(Lib.compact xs++List.replicate (xs.length - (Lib.compact xs).length) 0).length=xs.length:=by simp;omega
 refine Hy (zs:=Lib.compact xs++List.replicate (xs.length - (Lib.compact xs).length) 0) (m:=(Lib.compact xs).length) ⟨Tryz.f380,Tryz.func380,rfl,rfl⟩ hg hzl hcl (fun w v hrow=>?_) (by rw [List.take_left];exact hQ _)
 rcases hrow.2 with ⟨rfl,h0⟩|⟨g,cap,cur,rfl,hb,hblk,hnc,hcm,hcs,htk⟩
 ·have hx:xs=[]:=bF h0
  subst hx
  exact (Any.slices_Compact_int_empty Tryz.laysCompact none 0 w).mono fun e w' ⟨he,hw⟩=>by
   subst hw
   exact ⟨⟨_,he,.inl ⟨rfl,rfl⟩⟩,⟨rfl,rfl,rfl,bC _,fun _ _ _=>rfl⟩,by simpa [Cr,Lib.compact,Lib.compactUpTo] using hrow⟩
 ·have hH:Sort.Holds (Value.int .i64) w g 0 xs.toArray:=holds_of_blockI hblk (by simpa using htk)
  refine (Any.slices_Compact_int Tryz.laysCompact g 0 cap xs w hH (by omega) hnc).mono fun e w' ⟨he,q,hw⟩=>?_
  subst hw
  refine ⟨⟨_,he,.inr ⟨_,_,_,rfl,rfl⟩⟩,?_,?_⟩
  ·have:=grownBy_sortedI (w:=w) (g:=g) (n:=q) (os:=#[]) (Lib.compact xs++List.replicate (xs.length - (Lib.compact xs).length) 0).toArray
   rw [Sort.grow_empty] at this
   exact this
  ·have:=ownsRow_sortedI (n:=q) (os:=#[]) (ts:=Lib.compact xs++List.replicate (xs.length - (Lib.compact xs).length) 0) hzl hb hblk hnc hcm (by simpa using hcs)
   rw [Sort.grow_empty] at this
   unfold Cr
   rw [hzl]
   exact this
def imagesN (xs:List Int):Nat:=(Lib.compact (nB xs)).length
theorem t8 (xs:List Int)(hl:xs.length≤1000000):Pure Tryz.prog 371 [dLI xs] (dI (imagesN xs)):=by
 have hlen:=kI xs
 refine Tz.pK ⟨fun _=>false,fun _=>[]⟩ Tryz.func371 rfl (fun Q hQ=>?_)
 have Y:=trivial
 refine wv (h:=lU (jW xs hl) wl ?_)
 refine wv (h:=?_)
 unfold eY;refine H6 (ty:=3) (xs:=xs) (by simp [go_sem]) hl ?_
 refine wo (h:=?_)
 unfold eY;rw [show xs.length=(nB xs).length from hlen.symm];refine BQ (ty:=3) (xs:=nB xs) (by simp [go_sem]) (by omega) fun k=>?_
 have Y:=wa Y @imagesN.eq_1
 exact wo (h:=hQ _ _ wy)
end Go.Abs
end
