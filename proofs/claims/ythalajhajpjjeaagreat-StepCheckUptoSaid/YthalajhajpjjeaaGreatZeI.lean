/- Layer 4: lines of types, what fits. · Layer 4: attributes of -/
import Derived.Test.YthalajhajpjjeaaGreatZeF
import Derived.Test.YthalajhajpjjeaaGreatZeA
import Derived.Test.YthalajhajpjjeaaGreatZeH
import Derived.Ground.NamesProg
import Derived.Ground.Names2Prog
import Derived.Shelf.Sort.Plain
import Derived.Shelf.Slices.CompactI
import Derived.Shelf.Slices.In.SortNone
import Derived.Test.YthalajhajpjjeaaGreatProg
set_option linter.unusedVariables false
set_option linter.unusedSimpArgs false
section
set_option maxRecDepth 100000
set_option maxHeartbeats 4000000
open Go Go.Proofs
namespace Go.Abs
def GH (t:Types)(k:Nat):List Int:=if k=0 then [] else t.line (k - 1)
theorem Lp {xs ys:List Int}{i:Nat}(hy:ys.length=xs.length)(hi:xs.length≤2 * i+1)(hr:∀ j,j<xs.length→ys[j]?=if j<i∨xs.length - i≤j then xs[xs.length - 1 - j]? else xs[j]?):ys=xs.reverse:=by
 apply fP
 intro j
 by_cases hj:j<xs.length
 ·rw [hr j hj,List.getElem?_reverse hj]
  split
  ·rfl
  ·rename_i hc
   rw [show j=xs.length - 1 - j by omega]
   congr 1;omega
 ·rw [bP (by omega),bP (by simp;omega)]
theorem Jb (G:AHeap)(id:Nat)(xs:List Int)(hg:G.get id=some ⟨3,1,xs.map cI,false⟩)(hl:xs.length≤100000)(Q:D→AHeap→Prop)
  (hQ:∀ H',H'.get id=some ⟨3,1,xs.reverse.map cI,false⟩→(∀ j,j≠id→H'.get j=G.get j)→G.next≤H'.next→Q (.tup []) H'):ACalls Tryz.prog 434 [.own id xs.length] G Q:=by
 refine (aI (cfg:=⟨fun _=>false,fun _=>[]⟩) Tz.mixed Tryz.func434 rfl rfl (aF rfl) (by kernel_rfl) ?_)
 try simp [go_sem,seval,hg]
 repeat first|intro _|refine ⟨dR,?_⟩
 obtain ⟨I0,hI0⟩:∃ I0:Nat→dA→AHeap→Prop,∀ (i:Nat) (e:dA) (H:AHeap),I0 i e H↔(∃ ys:List Int,(e 0=.own id xs.length)∧(e 2=dI i)∧(e 3=dI ((xs.length:Int) - 1 - i))∧(H.get id=some ⟨3,1,ys.map cI,false⟩)∧(∀ j,j≠id→H.get j=G.get j)∧(G.next≤H.next)∧(ys.length=xs.length)∧(∀ j,j<xs.length→ys[j]?=if j<i∨xs.length - i≤j then xs[xs.length - 1 - j]? else xs[j]?)):=⟨fun i e H=>_,fun _ _ _=>Iff.rfl⟩
 refine uN I0 (fun i=>xs.length - i) (0) ((hI0 _ _ _).2 ⟨(xs),?_,?_,?_,(by exact hg),(by exact fun _ _=>rfl),(by exact bC _),(by first|assumption|omega|(simp [go_sem,hg];done)|(simp_all;done)),(by intro j hj;simp;omega)⟩) ?_
 iterate 3 (first|omega|(simp [go_sem,seval,hg]<;>omega))
 intro i e H hi0
 obtain ⟨ys,q0_0,q2_0,q3_0,hH,hfr,hnx,hy,hr⟩:=(hI0 _ _ _).1 hi0
 have F0:=And.intro q0_0 (And.intro q2_0 q3_0)
 try simp [go_sem,seval,hg,F0,hH]
 refine aP (fun h1=>?_) (fun h1=>?_)
 ·try simp [go_sem] at h1
  have hj:xs.length - 1 - i<ys.length:=by omega
  have hi':i<ys.length:=by omega
  have htn:((xs.length:Int) - 1 - i).toNat=xs.length - 1 - i:=by omega
  have hstep:∀ j,j<xs.length→((ys.set i (ys[xs.length - 1 - i]?.getD 0)).set (xs.length - 1 - i) (ys[i]?.getD 0))[j]?=if j<i+1∨xs.length - (i+1)≤j then xs[xs.length - 1 - j]? else xs[j]?:=fun j hjl=>by
   have h1:=hr j hjl
   have h3:=hr i (by omega)
   have h4:=hr (xs.length - 1 - i) (by omega)
   rw [aA hi'] at h3
   rw [aA hj] at h4
   rw [dN,dN,aA hi',aA hj]
   by_cases ha:xs.length - 1 - i=j
   ·rw [if_pos ha,if_pos (by simp;omega),if_pos (by omega)]
    simp only [aD]
    rw [h3,if_neg (by omega)];congr 1;omega
   ·rw [if_neg ha]
    by_cases hb:i=j
    ·rw [if_pos hb,if_pos (by omega),if_pos (by omega)]
     simp only [aD]
     rw [h4,if_neg (by omega)];congr 1;omega
    ·rw [if_neg hb,h1]
     by_cases hc:j<i∨xs.length - i≤j
     ·rw [if_pos hc,if_pos (by omega)]
     ·rw [if_neg hc,if_neg (by omega)]
  try simp [go_sem,seval,hg,F0,hH,h1,htn,aA hj,aA hi',hy,dN,show i≠xs.length - 1 - i by omega]
  repeat first|intro _|refine ⟨dR,?_⟩
  refine fR (i+1) (by omega) ((hI0 _ _ _).2 ⟨((ys.set i (ys[xs.length - 1 - i]?.getD 0)).set (xs.length - 1 - i) (ys[i]?.getD 0)),?_,?_,?_,(by (simp [go_sem,hH,c8,aA hj,aA hi'])),(by (intro j hj';simp [go_sem,hj',hfr j hj'])),(by (simp [go_sem];omega)),(by first|assumption|omega|(simp [go_sem,hg,F0,hH,h1,htn,aA hj,aA hi',hy,dN,show i≠xs.length - 1 - i by omega];done)|(simp_all<;>omega)),(by (exact hstep))⟩)<;>first|omega|(simp [go_sem,seval,hg,F0,hH,h1,htn,aA hj,aA hi',hy,dN,show i≠xs.length - 1 - i by omega]<;>omega)
 ·try simp [go_sem] at h1
  have:=Lp hy (by omega) hr
  subst this
  try simp [go_sem,seval,hg,F0,hH]
  exact hQ _ hH hfr hnx
theorem KY (t:Types)(ht:t.ok)(hv:t.valid)(a:Nat)(ha:a<t.nodes.length):Pure Tryz.prog 381 [t.d,dI a] (.list ((t.line a).map cI)):=by
 have hfew:=hv.fewN
 refine Tz.pK ⟨fun t=>t==5,fun _=>[]⟩ Tryz.func381 rfl (fun Q hQ=>?_)
 have Y:=trivial
 refine wv (h:=bA (fun k e H=>∃ xs:List Int,(e 2=.adr t.c∧e 1=dI ((k:Int) - 1)∧e 5=.own 0 xs.length)∧(H.get 0=some ⟨3,1,xs.map cI,false⟩)∧(0<H.next)∧(k≤t.nodes.length)∧(xs.length+k≤12)∧(GH t k++xs.reverse=t.line a)) (fun k=>k) (a+1) ⟨([]),wg,wn,wn,wi,(by simp;omega),(by simp [GH])⟩ fun I0 hI0 k e H hi0=>?_)
 obtain ⟨xs,E0,g0_0,n0_0,hk,hb,hx⟩:=hi0
 have Y:=wa Y (wa E0 (wa g0_0 (bZ n0_0)))
 refine c4 (fun h2=>?_) fun h2=>?_
 ·have hk0:0<k:=by omega
  have hkl:k - 1<t.nodes.length:=by omega
  have hpar:=hv.parent (k - 1) _ (aA hkl)
  have hlow:=hv.low (k - 1) _ (aA hkl)
  have htn:((k:Int) - 1).toNat=k - 1:=by omega
  have hlr:=wC t (k - 1) hkl (hv.parentsOK _)
  have hlk:GH t k=GH t (t.nodes[k - 1].parent+1).toNat++[(k:Int) - 1]:=by
   unfold GH
   rw [if_neg (show ¬ k=0 by omega),hlr]
   by_cases h0:0≤t.nodes[k - 1].parent
   ·rw [if_pos h0,if_neg (by omega),show (t.nodes[k - 1].parent+1).toNat - 1=t.nodes[k - 1].parent.toNat by omega]
    congr 2;omega
   ·rw [if_neg h0,if_pos (by omega)]
    simp;omega
  have Y:=wa Y (wa h2 (wa htn hkl))
  exact wo (h:=wx hI0 ((t.nodes[k - 1].parent+1).toNat) ⟨(xs++[(k:Int) - 1]),wg,wn,wn,wj,(by simp;omega),(by rw [hlk] at hx;rw [← hx];simp)⟩)
 ·have hk0:k=0:=by omega
  subst hk0
  have hln:(t.line a).length=xs.length:=by rw [← hx];simp [GH]
  have hx':(xs.map cI).reverse=(t.line a).map cI:=by rw [← List.map_reverse,← hx];rfl
  refine wv (h:=?_)
  unfold fE;refine Jb _ _ xs g0_0 (by omega) _ fun H1 gR _ _=>?_
  exact wv (h:=hQ _ _ (by simp [go_sem,gR,hx',hln]))
theorem Dd (t:Types)(ht:t.ok)(hv:t.valid)(a b:Int)(h0:0≤a)(h1:a<t.nodes.length):Pure Tryz.prog 324 [t.d,dI a,dI b] (.bool (mem (t.line a.toNat) b)):=by
 have hl:=KY t ht hv a.toNat (by omega)
 rw [Int.toNat_of_nonneg h0] at hl
 refine Tz.pK ⟨fun _=>false,fun _=>[]⟩ Tryz.func324 rfl (fun Q hQ=>?_)
 have Y:=trivial
 refine wv (h:=aB (hl) wl ?_)
 refine wv (h:=aB (fT _ _) wl ?_)
 exact wv (h:=hQ _ _ wy)
def l9 (t:Types)(edge a b:Int):Bool:=decide (given2F t a b=0)&&(decide (0≤edge)&&decide (edge<t.edges.length)) &&
 (mem (t.line a.toNat) (match t.edges[edge.toNat]? with|some x=>x.from_|none=>0)&&mem (t.line b.toNat) (match t.edges[edge.toNat]? with|some x=>x.to_|none=>0))
theorem oO {t:Types}{a b:Int}(h:given2F t a b=0):t.valid∧(0≤a∧a<t.nodes.length)∧(0≤b∧b<t.nodes.length):=by
 unfold given2F at h
 split at h
 ·rename_i h1;exact absurd h h1
 ·rename_i h1
  split at h
  ·rename_i h2;simp [insideF] at h2;exact ⟨lN (by simpa using h1),h2.1,h2.2⟩
  ·cases h
theorem De (t:Types)(ht:t.ok)(edge a b:Int):Pure Tryz.prog 229 [t.d,dI edge,dI a,dI b] (.bool (l9 t edge a b)):=by
 refine Tz.pK ⟨fun _=>false,fun _=>[]⟩ Tryz.func229 rfl (fun Q hQ=>?_)
 have Y:=trivial
 refine wo (h:=aB (vF t ht [a,b]) wl ?_)
 refine eF (fun h1=>?_) fun h1=>?_
 ·rw [GN] at h1
  exact wv (h:=hQ _ _ (by simp [go_sem,l9];intros;omega))
 ·rw [GN] at h1
  obtain ⟨hv,hA,hB⟩:=oO h1.1.1
  have hke:edge.toNat<t.edges.length:=by omega
  have Y:=wa Y (aA hke)
  refine wo (h:=aK (Dd t ht hv _ _ hA.1 hA.2) wl ?_)
  refine wo (h:=dO (fun hg=>Dd t ht hv _ _ hB.1 hB.2) (fun hg=>wl) ?_)
  exact wo (h:=hQ _ _ (by simp [go_sem,l9,h1,aA hke]))
theorem sW (l:List Int)(x b:Int):mem (l++[x]) b=(mem l b||decide (b=x)):=by
 rw [aQ,b7,c6,c6];simp
theorem Ak (b:Int):mem ([]:List Int) b=false:=by rw [bH];intro h;rw [c6] at h;cases h
theorem QH (t:Types)(a b:Int)(ha:a<0)(hb:0≤b):Pure Tryz.prog 266 [t.d,dI a,dI b] (.bool false):=by
 refine Tz.pK ⟨fun _=>false,fun _=>[]⟩ Tryz.func266 rfl (fun Q hQ=>?_)
 have Y:=wa (show ¬ 0≤a by omega) (show ¬ a=b by omega)
 refine wo (h:=?_)
 refine dO (r:=.bool false) (fun hg=>by simp at hg) (fun hg=>by simp at hg) ?_
 exact wo (h:=hQ _ _ wy)
theorem tT (t:Types)(hv:t.valid)(b:Int)(hb:0≤b):∀ a:Nat,a<t.nodes.length→Pure Tryz.prog 266 [t.d,dI a,dI b] (.bool (mem (t.line a) b)):=by
 intro a
 induction a using Nat.strongRecOn with
 | _ a ih =>
 intro ha
 have hpar:=hv.parent a _ (aA ha)
 have hlr:=wC t a ha (hv.parentsOK a)
 have hc:Pure Tryz.prog 266 [t.d,dI t.nodes[a].parent,dI b] (.bool (mem (if 0≤t.nodes[a].parent then t.line t.nodes[a].parent.toNat else []) b)):=by
  by_cases h':0≤t.nodes[a].parent
  ·rw [if_pos h']
   have:=ih t.nodes[a].parent.toNat (by omega) (by omega)
   rwa [Int.toNat_of_nonneg h'] at this
  ·rw [if_neg h',Ak]
   exact QH t _ _ (by omega) hb
 rw [hlr,sW]
 refine Tz.pK ⟨fun _=>false,fun _=>[]⟩ Tryz.func266 rfl (fun Q hQ=>?_)
 have hab:decide ((a:Int)=b)=decide (b=(a:Int)):=by rw [aQ];simp;omega
 have Y:=wa (aA ha) ha
 refine wo (h:=dO (fun hg=>hc) (fun hg=>wl) ?_)
 exact wo (h:=hQ _ _ (.inl (by simp only [go_sem,hab,Bool.or_comm])))
theorem DT (t:Types)(ht:t.ok)(edge a b:Int):Pure Tryz.prog 172 [t.d,dI edge,dI a,dI b] (.bool (l9 t edge a b)):=by
 have hfe:=ht.fewE
 refine Tz.pK ⟨fun _=>false,fun _=>[]⟩ Tryz.func172 rfl (fun Q hQ=>?_)
 have Y:=trivial
 refine wo (h:=aB (BY t ht a b) wl ?_)
 refine wo (h:=aG (fun hg=>lO _ _ _) (fun hg=>wl) ?_)
 refine wo (h:=aP (fun h1=>?_) (fun h1=>?_))
 ·skip
  simp [inF] at h1
  exact wv (h:=hQ _ _ (by simp [go_sem,l9];intros;omega))
 ·skip
  simp [inF] at h1
  obtain ⟨hv,hA,hB⟩:=oO h1.1
  have hke:edge.toNat<t.edges.length:=by omega
  have hends:=hv.ends _ (aC hke)
  simp [insideF] at hends
  have hB1:=tT t hv t.edges[edge.toNat].from_ hends.1.1 a.toNat (by omega)
  have hB2:=tT t hv t.edges[edge.toNat].to_ hends.2.1 b.toNat (by omega)
  rw [Int.toNat_of_nonneg hA.1] at hB1
  rw [Int.toNat_of_nonneg hB.1] at hB2
  have Y:=wa Y (aA hke)
  refine wo (h:=aK (hB1) wl ?_)
  refine wo (h:=dO (fun hg=>hB2) (fun hg=>wl) ?_)
  exact wo (h:=hQ _ _ (by simp [go_sem,l9,h1,aA hke];omega))
attribute [go_sem] Slot.c Test.c Pattern.c Pattern.d Part.c Part.d Stage.c
theorem Be {P:Program}{f:FuncId}{ty:TypeId}{sz:Nat}(h0:Own P f [.nil] ty sz [])(h1:Own P f [.ne] ty sz []):Own P f [.list []] ty sz []:=by
 refine ⟨h0.1,fun M w vals hM ha=>?_⟩
 obtain ⟨hl,hr⟩:=ha
 match vals,hl with
 | [v],_ =>
  have hv:=hr 0 v _ rfl rfl
  cases hv with
  | listN=>exact h0.2 M w _ hM ⟨rfl,fun j u d hu hd=>by
    match j with
    | 0=>simp at hu hd;subst hu;subst hd;exact .nil
    | j+1=>simp at hu⟩
  | list ad cap sz xs es hc hm=>exact h1.2 M w _ hM ⟨rfl,fun j u d hu hd=>by
    match j with
    | 0=>simp at hu hd;subst hu;subst hd;exact .ne ad cap hm
    | j+1=>simp at hu⟩
theorem Mb:Own Tryz.prog 240 [.nil] 3 1 []:=by
 refine Tz.oK ⟨fun t=>t==2||t==5,fun _=>[]⟩ Tryz.func240 rfl (fun Q hQ=>?_)
 have Y:=trivial
 refine wv (h:=?_)
 exact hQ _ _ _ (by simp [go_sem]<;>first|omega|(rw [aQ];simp<;>omega)|(simp_all<;>omega)) (by simp [go_sem]<;>first|omega|(rw [aQ];simp<;>omega)|(simp_all<;>omega))
theorem L9:Own Tryz.prog 240 [.ne] 3 1 []:=by
 refine Tz.oK ⟨fun t=>t==2||t==5,fun _=>[]⟩ Tryz.func240 rfl (fun Q hQ=>?_)
 have Y:=trivial
 refine wo (h:=?_)
 exact hQ _ _ _ (by simp [go_sem]<;>first|omega|(rw [aQ];simp<;>omega)|(simp_all<;>omega)) (by simp [go_sem]<;>first|omega|(rw [aQ];simp<;>omega)|(simp_all<;>omega))
theorem Ma (l:List Int)(hl:l.length≤1000000)(hne:l≠[]):Own Tryz.prog 240 [.list (l.map cI)] 3 1 (l.map cI):=by
 refine Tz.oK ⟨fun t=>t==2||t==5,fun _=>[]⟩ Tryz.func240 rfl (fun Q hQ=>?_)
 have Y:=hne
 refine wo (h:=?_)
 exact hQ _ _ _ (by simp [go_sem,hne]<;>first|omega|(rw [aQ];simp<;>omega)|(simp_all<;>omega)) (by simp [go_sem,hne]<;>first|omega|(rw [aQ];simp<;>omega)|(simp_all<;>omega))
theorem kC (l:List Int)(hl:l.length≤1000000):Own Tryz.prog 240 [.list (l.map cI)] 3 1 (l.map cI):=by
 by_cases hne:l=[]
 ·subst hne;exact Be Mb L9
 ·exact Ma l hl hne
theorem L8:Own Tryz.prog 337 [.nil] 9 1 []:=by
 refine Tz.oK ⟨fun t=>t==2||t==5,fun _=>[]⟩ Tryz.func337 rfl (fun Q hQ=>?_)
 have Y:=trivial
 refine wv (h:=?_)
 exact hQ _ _ _ (by simp [go_sem]<;>first|omega|(rw [aQ];simp<;>omega)|(simp_all<;>omega)) (by simp [go_sem]<;>first|omega|(rw [aQ];simp<;>omega)|(simp_all<;>omega))
theorem L6:Own Tryz.prog 337 [.ne] 9 1 []:=by
 refine Tz.oK ⟨fun t=>t==2||t==5,fun _=>[]⟩ Tryz.func337 rfl (fun Q hQ=>?_)
 have Y:=trivial
 refine wo (h:=?_)
 exact hQ _ _ _ (by simp [go_sem]<;>first|omega|(rw [aQ];simp<;>omega)|(simp_all<;>omega)) (by simp [go_sem]<;>first|omega|(rw [aQ];simp<;>omega)|(simp_all<;>omega))
theorem L7 (l:List ByteArray)(hl:l.length≤1000000)(hne:l≠[]):Own Tryz.prog 337 [.list (l.map cS)] 9 1 (l.map cS):=by
 refine Tz.oK ⟨fun t=>t==2||t==5,fun _=>[]⟩ Tryz.func337 rfl (fun Q hQ=>?_)
 have Y:=hne
 refine wo (h:=?_)
 exact hQ _ _ _ (by simp [go_sem,hne]<;>first|omega|(rw [aQ];simp<;>omega)|(simp_all<;>omega)) (by simp [go_sem,hne]<;>first|omega|(rw [aQ];simp<;>omega)|(simp_all<;>omega))
theorem Of (l:List ByteArray)(hl:l.length≤1000000):Own Tryz.prog 337 [.list (l.map cS)] 9 1 (l.map cS):=by
 by_cases hne:l=[]
 ·subst hne;exact Be L8 L6
 ·exact L7 l hl hne
def bI (t:Types)(a:Int):List Attr:=if given2F t a a=0 then t.attrs a.toNat else []
theorem pO (t:Types)(a:Int):givenF t [a]=given2F t a a:=by
 unfold givenF given2F;cases ha:insideF t a<;>simp [ha]
theorem t6 {t:Types}{a:Int}(h:given2F t a a=0):t.valid∧0≤a∧a<t.nodes.length:=⟨(oO h).1,(oO h).2.1⟩
theorem oE (t:Types)(ht:t.ok)(a:Int):Pure Tryz.prog 245 [t.d,dI a] (.tup [.list ((bI t a).map Attr.c),dI (given2F t a a)]):=by
 refine Tz.pK ⟨fun _=>false,fun _=>[]⟩ Tryz.func245 rfl (fun Q hQ=>?_)
 have Y:=trivial
 refine wv (h:=aB (vF t ht [a]) wl ?_)
 refine c4 (fun h2=>?_) fun h2=>?_
 ·rw [pO] at h2
  exact wv (h:=hQ _ _ (by simp [go_sem,pO,bI,h2]))
 ·rw [pO] at h2
  obtain ⟨hv,h0,h1⟩:=t6 h2
  have hat:=BJ t ht a.toNat (by omega) (hv.parentsOK _)
  rw [Int.toNat_of_nonneg h0] at hat
  have hok:∀ x∈t.attrs a.toNat,x.ok:=tE t.nodes ht.nodes _ _
  have hl8:=hv.attrs a.toNat (by omega)
  refine wv (h:=l4 (hat) wl ?_)
  refine wo (h:=bA (fun i e H=>(e 2=.adr t.c∧e 1=dI a∧e 7=.own 0 (t.attrs a.toNat).length∧e 20=dI (t.attrs a.toNat).length∧e 21=dI i)∧(H.get 0=some ⟨118,4,(t.attrs a.toNat).map Attr.c,false⟩)∧(0<H.next)∧(i≤(t.attrs a.toNat).length)) (fun i=>(t.attrs a.toNat).length - i) 0 ⟨wg,(by (simp [go_sem])),wn,wi⟩ fun I0 hI0 i e H hi0=>?_)
  obtain ⟨E0,g0_0,n0_0,hi⟩:=hi0
  have Y:=wa Y (wa E0 (wa g0_0 (bZ n0_0)))
  refine c4 (fun h6=>?_) fun h6=>?_
  ·have hset:((t.attrs a.toNat).map Attr.c).set i (((t.attrs a.toNat).map Attr.c)[i]'(by simpa using h6))=(t.attrs a.toNat).map Attr.c:=List.set_getElem_self _
   simp [go_sem] at hset
   have Y:=wa Y h6
   refine wo (h:=aB ((Of (t.attrs a.toNat)[i].names (by have:=(hok _ (aC h6)).few;omega)).pure) wl ?_)
   exact wo (h:=wx hI0 (i+1) ⟨wg,(by (simp [go_sem,g0_0,hset])),wn,wj⟩)
  ·exact wv (h:=hQ _ _ (by simp [go_sem,g0_0,bI,h2]))
theorem oI (t:Types)(ht:t.ok)(a:Int):Pure Tryz.prog 48 [t.d,dI a] (.tup [.list ((bI t a).map Attr.c),dI (given2F t a a)]):=by
 refine Tz.pK ⟨fun t=>t==7||t==10||t==31||t==1000000,fun _=>[]⟩ Tryz.func48 rfl (fun Q hQ=>?_)
 have Y:=trivial
 refine wv (h:=aB (BY t ht a a) wl ?_)
 refine c4 (fun h2=>?_) fun h2=>?_
 ·exact wv (h:=hQ _ _ (by simp [go_sem,bI,h2]))
 ·obtain ⟨hv,h0,h1⟩:=t6 h2
  have hat:=B0 t ht a.toNat (by omega) (hv.parentsOK _)
  rw [Int.toNat_of_nonneg h0] at hat
  have hok:∀ x∈t.attrs a.toNat,x.ok:=tE t.nodes ht.nodes _ _
  have hl8:=hv.attrs a.toNat (by omega)
  refine wv (h:=aB (hat) wl ?_)
  refine wv (h:=bA (fun i e H=>(e 2=.adr t.c∧e 1=dI a∧e 7=.own 0 ((t.attrs a.toNat).take i).length∧e 8=.list ((t.attrs a.toNat).map Attr.c)∧e 9=dI i)∧(H.get 0=some ⟨118,4,((t.attrs a.toNat).take i).map Attr.c,false⟩)∧(0<H.next)∧(i≤(t.attrs a.toNat).length)) (fun i=>(t.attrs a.toNat).length - i) 0 ⟨wg,(by (simp [go_sem])),wn,wi⟩ fun I0 hI0 i e H hi0=>?_)
  obtain ⟨E0,g0_0,n0_0,hi⟩:=hi0
  have Y:=wa Y (wa E0 (wa g0_0 (bZ n0_0)))
  refine eF (fun h7=>?_) fun h7=>?_
  ·have hts:=aE (l:=(t.attrs a.toNat).map Attr.c) (i:=i) (by simpa using h7)
   simp [go_sem] at hts
   have hfw:=(hok _ (aC h7)).few
   have Y:=wa Y h7
   exact wo (h:=wx hI0 (i+1) ⟨wg,(by (simp [go_sem,g0_0,hts])),wn,wj⟩)
  ·exact wv (h:=hQ _ _ (by simp [go_sem,g0_0,bI,h2,show i=(t.attrs a.toNat).length by omega]))
def iZ (t:Types)(a:Int):List Int:=if given2F t a a=0 then ((List.range t.nodes.length).filter fun (b:Nat)=>mem (t.line b) a).map fun (b:Nat)=>(b:Int) else []
theorem cO (p:Nat→Bool)(i:Nat):((List.range (i+1)).filter p).map (fun (b:Nat)=>(b:Int))=((List.range i).filter p).map (fun (b:Nat)=>(b:Int))++(if p i=true then [(i:Int)] else []):=by
 rw [fG,kM,List.map_append]
 congr 1
 by_cases h:p i=true<;>simp [h]
theorem IN (t:Types)(ht:t.ok)(a:Int):Pure Tryz.prog 386 [t.d,dI a] (.tup [dLI (iZ t a),dI (given2F t a a)]):=by
 refine Tz.pK ⟨fun t=>t==7,fun _=>[]⟩ Tryz.func386 rfl (fun Q hQ=>?_)
 have Y:=trivial
 refine wv (h:=aB (vF t ht [a]) wl ?_)
 refine c4 (fun h2=>?_) fun h2=>?_
 ·rw [pO] at h2
  exact wv (h:=hQ _ _ (by simp [go_sem,pO,iZ,h2]))
 ·rw [pO] at h2
  obtain ⟨hv,h0,h1⟩:=t6 h2
  have hN:=hv.fewN
  refine wo (h:=bA (fun i e H=>∃ xs:List Int,(e 2=.adr t.c∧e 1=dI a∧e 7=.own 0 xs.length∧e 18=dI t.nodes.length∧e 19=dI i)∧(H.get 0=some ⟨3,1,xs.map cI,false⟩)∧(0<H.next)∧(i≤t.nodes.length)∧(xs.length≤i)∧(xs=((List.range i).filter fun (b:Nat)=>mem (t.line b) a).map (fun (b:Nat)=>(b:Int)))) (fun i=>t.nodes.length - i) 0 ⟨([]),wg,wn,wn,wi,(by simp),(by rfl)⟩ fun I0 hI0 i e H hi0=>?_)
  obtain ⟨xs,E0,g0_0,n0_0,hi,hl,hx⟩:=hi0
  have Y:=wa Y (wa E0 (wa g0_0 (bZ n0_0)))
  refine c4 (fun h6=>?_) fun h6=>?_
  ·have Y:=wa Y h6
   refine wv (h:=aB (Dd t ht hv i a (by omega) (by omega)) wl ?_)
   refine c4 (fun h8=>?_) fun h8=>?_
   ·have Y:=wa Y h8
    exact wo (h:=wx hI0 (i+1) ⟨(xs++(if mem (t.line i) a=true then [(i:Int)] else [])),wg,wn,wn,wj,(by (rw [aV];split<;>simp<;>omega)),(by (rw [cO,← hx]))⟩)
   ·have Y:=wa Y h8
    exact wo (h:=wx hI0 (i+1) ⟨(xs++(if mem (t.line i) a=true then [(i:Int)] else [])),wg,wn,wn,wj,(by (rw [aV];split<;>simp<;>omega)),(by (rw [cO,← hx]))⟩)
  ·exact wv (h:=hQ _ _ (by simp [go_sem,g0_0,iZ,h2];rw [hx,show i=t.nodes.length by omega];simp))
def fO {α:Type}(f:α→Int):List α→Int
 | []=>0
 | x :: l=>if f x≠0 then f x else fO f l
theorem jG {α:Type}(f:α→Int){l:List α}{i:Nat}(h:i<l.length):fO f (l.drop i)=if f l[i]≠0 then f l[i] else fO f (l.drop (i+1)):=by
 rw [eE h];rfl
theorem kB {α:Type}(f:α→Int){l:List α}{i:Nat}(h:¬ i<l.length):fO f (l.drop i)=0:=by
 rw [fX (by omega)];rfl
def termB (n:Int)(x:Term):Bool:=decide (-1≤x.var)&&decide (x.var<n)&&decide (-1000000≤x.add)&&decide (x.add≤1000000)
theorem uP (n:Int)(x:Term):Pure Tryz.prog 428 [dI n,.agg [dI x.var,dI x.add]] (.bool (termB n x)):=by
 refine Tz.pK ⟨fun _=>false,fun _=>[]⟩ Tryz.func428 rfl (fun Q hQ=>?_)
 have Y:=trivial
 have Y:=wa Y @termB.eq_1
 exact wo (h:=hQ _ _ wy)
def qY (n:Int)(x:Test):Int:=if x.kind≠1∧x.kind≠2 then 1 else if (termB n x.left&&termB n x.right)=true then 0 else 6
theorem EH (n:Int)(x:Test):Pure Tryz.prog 370 [dI n,.agg x.c] (dI (qY n x)):=by
 refine Tz.pK ⟨fun _=>false,fun _=>[]⟩ Tryz.func370 rfl (fun Q hQ=>?_)
 have Y:=trivial
 refine eF (fun h1=>?_) fun h1=>?_
 ·exact wv (h:=hQ _ _ (by simp [go_sem,qY];omega))
 ·refine wo (h:=aB (uP n x.left) wl ?_)
  refine wo (h:=aG (fun hg=>uP n x.right) (fun hg=>wl) ?_)
  refine eF (fun h3=>?_) fun h3=>?_
  ·exact wv (h:=hQ _ _ (by revert h3;cases ha:termB n x.left<;>cases hb:termB n x.right<;>simp [go_sem,qY,ha,hb]<;>omega))
  ·exact wv (h:=hQ _ _ (by revert h3;cases ha:termB n x.left<;>cases hb:termB n x.right<;>simp [go_sem,qY,ha,hb]<;>omega))
def jN (n:Int)(l:List Test):Int:=if n<0∨12<n then 6 else if 40<l.length then 3 else fO (qY n) l
theorem Br (n:Int)(l:List Test):Pure Tryz.prog 310 [dI n,.list (l.map Test.c)] (dI (jN n l)):=by
 refine Tz.pK ⟨fun t=>t==6,fun _=>[]⟩ Tryz.func310 rfl (fun Q hQ=>?_)
 have Y:=trivial
 refine eF (fun h1=>?_) fun h1=>?_
 ·exact wv (h:=hQ _ _ (by simp [go_sem,jN];omega))
 ·refine eF (fun h3=>?_) fun h3=>?_
  ·exact wv (h:=hQ _ _ (by simp [go_sem,jN];omega))
  ·refine wo (h:=bA (fun i e H=>(e 0=dI n∧e 17=.list (l.map Test.c)∧e 18=dI l.length∧e 19=dI i)∧(i≤l.length)∧(fO (qY n) (l.drop i)=jN n l)) (fun i=>l.length - i) 0 ⟨wg,wi,(by (rw [jN,if_neg (by omega),if_neg (by omega)];rfl))⟩ fun I0 hI0 i e H hi0=>?_)
   obtain ⟨E0,hi,hF⟩:=hi0
   have Y:=wa Y E0
   refine c4 (fun h6=>?_) fun h6=>?_
   ·have hst:=hF
    rw [jG _ h6] at hst
    have Y:=wa Y h6
    refine wo (h:=aB (EH n l[i]) wl ?_)
    refine eF (fun h9=>?_) fun h9=>?_
    ·exact wv (h:=hQ _ _ (by rw [if_pos (by simpa using h9)] at hst;simp [go_sem,hst]))
    ·exact wo (h:=wx hI0 (i+1) ⟨wg,wj,(by (rw [if_neg (by simp [h9])] at hst;exact hst))⟩)
   ·exact wv (h:=hQ _ _ (by rw [← hF,kB _ (by omega)];simp [go_sem]))
def vE (n:Int)(x:Term):Int:=if termB n x=true then 0 else 6
theorem z7 (n:Int)(x:Term):Pure Tryz.prog 417 [dI n,.agg [dI x.var,dI x.add]] (dI (vE n x)):=by
 refine Tz.pK ⟨fun _=>false,fun _=>[]⟩ Tryz.func417 rfl (fun Q hQ=>?_)
 have Y:=trivial
 refine eF (fun h1=>?_) fun h1=>?_
 ·exact wv (h:=hQ _ _ (by simp [go_sem,vE,termB];omega))
 ·exact wv (h:=hQ _ _ (by simp [go_sem,vE,termB];omega))
theorem NI (n:Int)(x:Test):Pure Tryz.prog 360 [dI n,.agg x.c] (dI (qY n x)):=by
 refine Tz.pK ⟨fun _=>false,fun _=>[]⟩ Tryz.func360 rfl (fun Q hQ=>?_)
 have Y:=trivial
 refine eF (fun h1=>?_) fun h1=>?_
 ·exact wv (h:=hQ _ _ (by simp [go_sem,qY];omega))
 ·refine wv (h:=aB (z7 n x.left) wl ?_)
  refine c4 (fun h4=>?_) fun h4=>?_
  ·exact wv (h:=hQ _ _ (by revert h4;cases ha:termB n x.left<;>simp [go_sem,qY,vE,ha]<;>omega))
  ·refine wv (h:=aB (z7 n x.right) wl ?_)
   exact wv (h:=hQ _ _ (by revert h4;cases ha:termB n x.left<;>cases hb:termB n x.right<;>simp [go_sem,qY,vE,ha,hb]<;>omega))
theorem JF (n:Int)(l:List Test):Pure Tryz.prog 290 [dI n,.list (l.map Test.c)] (dI (jN n l)):=by
 refine Tz.pK ⟨fun _=>false,fun _=>[]⟩ Tryz.func290 rfl (fun Q hQ=>?_)
 have Y:=trivial
 refine eF (fun h1=>?_) fun h1=>?_
 ·exact wv (h:=hQ _ _ (by simp [go_sem,jN];omega))
 ·refine eF (fun h3=>?_) fun h3=>?_
  ·exact wv (h:=hQ _ _ (by simp [go_sem,jN];omega))
  ·refine wv (h:=bA (fun i e H=>(e 0=dI n∧e 1=.list (l.map Test.c)∧e 5=dI i)∧(i≤l.length)∧(fO (qY n) (l.drop i)=jN n l)) (fun i=>l.length - i) 0 ⟨wg,wi,(by (rw [jN,if_neg (by omega),if_neg (by omega)];rfl))⟩ fun I0 hI0 i e H hi0=>?_)
   obtain ⟨E0,hi,hF⟩:=hi0
   have Y:=wa Y E0
   refine eF (fun h6=>?_) fun h6=>?_
   ·have hst:=hF
    rw [jG _ h6] at hst
    have Y:=wa Y h6
    refine wo (h:=aB (NI n l[i]) wl ?_)
    refine eF (fun h9=>?_) fun h9=>?_
    ·exact wv (h:=hQ _ _ (by rw [if_pos (by simpa using h9)] at hst;simp [go_sem,hst]))
    ·exact wo (h:=wx hI0 (i+1) ⟨wg,wj,(by (rw [if_neg (by simp [h9])] at hst;exact hst))⟩)
   ·exact wv (h:=hQ _ _ (by rw [← hF,kB _ (by omega)];simp [go_sem]))
theorem iH (n low high:Int):Pure Tryz.prog 308 [dI n,dI low,dI high] (.bool (inF n low high)):=by
 refine Tz.pK ⟨fun _=>false,fun _=>[]⟩ Tryz.func308 rfl (fun Q hQ=>?_)
 have Y:=trivial
 have Y:=wa Y @inF.eq_1
 exact wo (h:=hQ _ _ wy)
def mH:Attr:=⟨⟨#[]⟩,0,0,[]⟩
def Pattern.kind (p:Pattern)(node:Int):Int:=p.graph.nodes[node.toNat]?.getD 0
def j5 (t:Types)(p:Pattern)(node attr:Int):Bool:=decide (0≤node)&&decide (node<p.graph.nodes.length)&&(decide (0≤attr)&&decide (attr<(bI t (p.kind node)).length))
def Co (t:Types)(p:Pattern)(node attr:Int):Attr:=if j5 t p node attr=true then (bI t (p.kind node))[attr.toNat]?.getD mH else mH
theorem nX {t:Types}(ht:t.ok)(a:Int):(bI t a).length≤8:=by
 unfold bI
 split
 ·rename_i h
  obtain ⟨hv,h0,h1⟩:=t6 h
  exact hv.attrs _ (by omega)
 ·simp
theorem EW (t:Types)(ht:t.ok)(p:Pattern)(hp:p.graph.nodes.length≤1000)(s:Slot):Pure Tryz.prog 309 [t.d,p.d,.agg s.c] (.tup [.agg (Co t p s.node s.attr).c,.bool (j5 t p s.node s.attr)]):=by
 have h8:=nX ht (p.kind s.node)
 refine Tz.pK ⟨fun t=>t==6,fun _=>[]⟩ Tryz.func309 rfl (fun Q hQ=>?_)
 have Y:=trivial
 refine wo (h:=aB (iH _ _ _) wl ?_)
 refine eF (fun h1=>?_) fun h1=>?_
 ·simp [inF] at h1
  have hB:j5 t p s.node s.attr=false:=by rw [bH];intro h;simp [j5] at h;omega
  exact wv (h:=hQ _ _ (by simp [go_sem,Co,hB,mH]))
 ·simp [inF] at h1
  have hn:s.node.toNat<p.graph.nodes.length:=by omega
  have hk:p.kind s.node=p.graph.nodes[s.node.toNat]:=by simp [Pattern.kind,hn]
  rw [hk] at h8
  have Y:=wa Y (wa (aA hn) hk)
  refine wo (h:=aK (oE t ht p.graph.nodes[s.node.toNat]) wl ?_)
  refine wo (h:=aB (iH _ _ _) wl ?_)
  refine eF (fun h4=>?_) fun h4=>?_
  ·simp [inF] at h4
   have hB:j5 t p s.node s.attr=false:=by rw [bH];intro h;simp [j5,hk] at h;omega
   exact wv (h:=hQ _ _ (by simp [go_sem,Co,hB,mH]))
  ·simp [inF] at h4
   have ha:s.attr.toNat<(bI t p.graph.nodes[s.node.toNat]).length:=by omega
   have hB:j5 t p s.node s.attr=true:=by simp [j5,hk];omega
   have Y:=wa Y (aA ha)
   exact wo (h:=hQ _ _ (by simp [go_sem,Co,hB,hk,aA ha]))
def cB (b:Bool):List D:=[.bool b]
@[go_sem] theorem UY (l:List Bool):D.clLL (l.map cB)=true:=cQ cB (fun _=>rfl) l
attribute [go_sem] cB
theorem LS (xs:List Bool)(v:Bool):Pure Tryz.prog 371 [.list (xs.map cB),.bool v] (dI (IE xs v)):=by
 refine Tz.pK ⟨fun _=>false,fun _=>[]⟩ Tryz.func371 rfl (fun Q hQ=>?_)
 have Y:=trivial
 refine wv (h:=?_)
 repeat first|intro _|refine ⟨dR,?_⟩
 refine bA (fun i e H=>(e 0=.list (xs.map cB)∧e 1=.bool v∧e 7=dI xs.length∧e 8=dI i)∧(i≤xs.length)∧(∀ j,j<i→xs[j]?≠some v)) (fun i=>xs.length - i) 0 ⟨wg,wi,(by intro j hj;omega)⟩ fun I0 hI0 i e H hi0=>?_
 obtain ⟨E0,hi,hne⟩:=hi0
 have Y:=wa Y E0
 refine c4 (fun h2=>?_) fun h2=>?_
 ·have Y:=wa Y h2
  refine wv (h:=?_)
  repeat first|intro _|refine ⟨dR,?_⟩
  refine wq (fun h4=>?_) fun h4=>?_
  ·exact wv (h:=hQ _ _ (by rw [sX hne (by rw [aA h2,h4])];simp [go_sem]))
  ·refine wv (h:=?_)
   repeat first|intro _|refine ⟨dR,?_⟩
   exact wx hI0 (i+1) ⟨wg,wj,(by (exact jB hne (by rw [aA h2];simpa using fun h=>h4 h.symm)))⟩
 ·exact wv (h:=hQ _ _ (by rw [Aq fun j hj=>hne j (by omega)];simp [go_sem]))
theorem FP (xs:List Bool)(v:Bool):Pure Tryz.prog 311 [.list (xs.map cB),.bool v] (.bool (mem xs v)):=by
 refine Tz.pK ⟨fun _=>false,fun _=>[]⟩ Tryz.func311 rfl (fun Q hQ=>?_)
 have Y:=trivial
 refine wv (h:=aB (LS xs v) wl ?_)
 have Y:=wa Y @mem.eq_1
 exact wv (h:=hQ _ _ wy)
def f8 (t:Types)(g:Graph):Bool:=(!(g.nodes.any fun n=>decide ((t.nodes.length:Int)≤n)))&&!(g.edges.any fun x=>decide ((t.edges.length:Int)≤x.type))
theorem Bz (t:Types)(a:Int):Pure Tryz.prog 305 [dI a,.adr t.c] (.bool (decide ((t.nodes.length:Int)≤a))):=by
 refine Tz.pK ⟨fun _=>false,fun _=>[]⟩ Tryz.func305 rfl (fun Q hQ=>?_)
 have Y:=trivial
 exact wo (h:=hQ _ _ wy)
theorem By (t:Types)(x:Edge):Pure Tryz.prog 307 [.agg x.c,.adr t.c] (.bool (decide ((t.edges.length:Int)≤x.type))):=by
 refine Tz.pK ⟨fun _=>false,fun _=>[]⟩ Tryz.func307 rfl (fun Q hQ=>?_)
 have Y:=trivial
 exact wo (h:=hQ _ _ wy)
def i6 (n:Nat)(l:List Slot):List Bool:=(List.range n).map fun (v:Nat)=>l.any fun s=>decide (s.term.var=v)
theorem c5 (n:Nat)(l:List Slot):(i6 n l).length=n:=by simp [i6]
theorem Nm (n:Nat):i6 n []=List.replicate n false:=by
 apply f7 (by simp [i6]);intro i h1 h2;simp [i6]
theorem Nl (n:Nat)(l:List Slot)(s:Slot)(h0:0≤s.term.var)(h1:s.term.var<n):i6 n (l++[s])=(i6 n l).set s.term.var.toNat true:=by
 apply f7 (by simp [i6]);intro i h2 h3
 rw [xJ]
 simp only [i6,qP,nE,zH,List.any_cons,List.any_nil,sD]
 split
 ·rename_i h;rw [b7];right;simp;omega
 ·rename_i h;rw [show decide (s.term.var=(i:Int))=false by simp;omega,sD]
theorem Nn (n:Nat)(l:List Slot)(s:Slot)(h0:¬ 0≤s.term.var):i6 n (l++[s])=i6 n l:=by
 apply f7 (by simp [i6]);intro i h2 h3
 simp only [i6,qP,nE,zH,List.any_cons,List.any_nil,sD]
 rw [show decide (s.term.var=(i:Int))=false by simp;omega,sD]
theorem KW (n:Nat)(l:List Slot)(s:Slot)(h1:s.term.var<n):i6 n (l++[s])=if 0≤s.term.var then (i6 n l).set s.term.var.toNat true else i6 n l:=by
 split
 ·exact Nl n l s ‹_› h1
 ·exact Nn n l s ‹_›
def fN (t:Types)(p:Pattern)(s:Slot):Int:=if (j5 t p s.node s.attr&&inF s.term.var (-1) (p.vars - 1)&&inF s.term.add (-1000000) 1000000)=true then 0 else 6
def bV (t:Types)(p:Pattern):Int :=
 if (b8 t).2≠0 then (b8 t).2
 else if graphF p.graph≠0 then graphF p.graph
 else if f8 t p.graph=false then 13
 else if inF p.vars 0 12=false then 6
 else if 10<p.slots.length∨10<p.tests.length then 3
 else if fO (fN t p) p.slots≠0 then 6
 else if jN p.vars p.tests≠0 then jN p.vars p.tests
 else if mem (i6 p.vars.toNat p.slots) false=true then 9 else 0
theorem bK {g:Graph}(h:graphF g=0):g.nodes.length≤40∧g.edges.length≤80:=by
 unfold graphF at h
 split at h
 ·cases h
 ·omega
theorem OM {t:Types}{p:Pattern}{s:Slot}(h:fN t p s=0):s.term.var<p.vars∧-1≤s.term.var:=by
 unfold fN at h
 split at h
 ·rename_i h1;simp [inF] at h1;omega
 ·cases h
theorem lS (t:Types)(ht:t.ok)(p:Pattern):Pure Tryz.prog 222 [t.d,p.d] (dI (bV t p)):=by
 refine Tz.pK ⟨fun t=>t==10||t==11,fun _=>[]⟩ Tryz.func222 rfl (fun Q hQ=>?_)
 try simp [go_sem,seval]
 refine aB (l5 t ht) ((by first|rfl|(simp [go_sem,← List.map_take,← List.map_drop];done))) ?_
 try simp [go_sem,seval]
 refine aP (fun h2=>?_) (fun h2=>?_)
 ·try simp [go_sem] at h2
  try simp [go_sem,seval]
  exact hQ _ _ (by first|(left;(simp [go_sem,bV,h2]);done)|(right;(simp [go_sem,bV,h2]);done))
 ·try simp [go_sem] at h2
  try simp [go_sem,seval]
  refine aB (kW p.graph) ((by first|rfl|(simp [go_sem,← List.map_take,← List.map_drop];done))) ?_
  try simp [go_sem,seval]
  refine aP (fun h5=>?_) (fun h5=>?_)
  ·try simp [go_sem] at h5
   try simp [go_sem,seval]
   exact hQ _ _ (by first|(left;(simp [go_sem,bV,h2,h5]);done)|(right;(simp [go_sem,bV,h2,h5]);done))
  ·try simp [go_sem] at h5
   have hg:=bK h5
   try simp [go_sem,seval]
   repeat first|intro _|refine ⟨dR,?_⟩
   refine aB (fI p.graph.nodes 305 [.adr t.c] (fun a=>decide ((t.nodes.length:Int)≤a)) (by simp [go_sem]) (by simp [go_sem]) (fun a _=>Bz t a)) ((by first|rfl|(simp [go_sem,← List.map_take,← List.map_drop];done))) ?_
   try simp [go_sem,seval]
   repeat first|intro _|refine ⟨dR,?_⟩
   refine aG (fun hg=>j7 p.graph.edges 307 [.adr t.c] (fun x=>decide ((t.edges.length:Int)≤x.type)) (by simp [go_sem]) (by simp [go_sem]) (fun x _=>By t x)) (fun hg=>(by first|rfl|(simp [go_sem,← List.map_take,← List.map_drop];done))) ?_
   try simp [go_sem,seval]
   repeat first|intro _|refine ⟨dR,?_⟩
   refine aP (fun h7=>?_) (fun h7=>?_)
   ·try simp [go_sem] at h7
    have hT:f8 t p.graph=false:=by
     simp [f8]
     intro h'
     rcases h7 with ⟨x,hx,hl⟩|h
     ·exact absurd (h' x hx) (by omega)
     ·exact h
    try simp [go_sem,seval]
    exact hQ _ _ (by first|(left;(simp [go_sem,bV,h2,h5,hT]);done)|(right;(simp [go_sem,bV,h2,h5,hT]);done))
   ·try simp [go_sem] at h7
    have hT:f8 t p.graph=true:=by simp [f8];exact h7
    try simp [go_sem,seval]
    repeat first|intro _|refine ⟨dR,?_⟩
    refine aB (iH _ _ _) ((by first|rfl|(simp [go_sem,← List.map_take,← List.map_drop];done))) ?_
    try simp [go_sem,seval]
    repeat first|intro _|refine ⟨dR,?_⟩
    refine aP (fun h9=>?_) (fun h9=>?_)
    ·try simp [go_sem] at h9
     try simp [go_sem,seval]
     exact hQ _ _ (by first|(left;(simp [go_sem,bV,h2,h5,hT,h9]);done)|(right;(simp [go_sem,bV,h2,h5,hT,h9]);done))
    ·try simp [go_sem] at h9
     try simp [go_sem,seval]
     repeat first|intro _|refine ⟨dR,?_⟩
     refine aP (fun h11=>?_) (fun h11=>?_)
     ·try simp [go_sem] at h11
      try simp [go_sem,seval]
      exact hQ _ _ (by first|(left;(simp [go_sem,bV,h2,h5,hT,h9];omega);done)|(right;(simp [go_sem,bV,h2,h5,hT,h9];omega);done))
     ·try simp [go_sem] at h11
      have hin:=h9
      simp [inF] at hin
      have hF0:bV t p=if fO (fN t p) p.slots≠0 then 6 else if jN p.vars p.tests≠0 then jN p.vars p.tests else if mem (i6 p.vars.toNat p.slots) false=true then 9 else 0:=by
       unfold bV
       rw [if_neg (by simp [h2]),if_neg (by simp [h5]),if_neg (by simp [hT]),if_neg (by simp [h9]),if_neg (by omega)]
      try simp [go_sem,seval]
      repeat first|intro _|refine ⟨dR,?_⟩
      obtain ⟨I0,hI0⟩:∃ I0:Nat→dA→AHeap→Prop,∀ (i:Nat) (e:dA) (H:AHeap),I0 i e H↔((e 2=.adr t.c)∧(e 3=.adr p.c)∧(e 8=.own 0 p.vars.toNat)∧(e 58=.list (p.slots.map Slot.c))∧(e 59=dI p.slots.length)∧(e 60=dI i)∧(H.get 0=some ⟨4,1,(i6 p.vars.toNat (p.slots.take i)).map cB,false⟩)∧(0<H.next)∧(i≤p.slots.length)∧(fO (fN t p) (p.slots.drop i)=fO (fN t p) p.slots)):=⟨fun i e H=>_,fun _ _ _=>Iff.rfl⟩
      refine uN I0 (fun i=>p.slots.length - i) (0) ((hI0 _ _ _).2 ⟨?_,?_,?_,?_,?_,?_,(by (simp [go_sem,Nm])),?_,(by first|assumption|omega|(simp [go_sem];done)|(simp_all;done)),(by rfl)⟩) ?_
      iterate 7 (first|omega|(simp [go_sem,seval]<;>omega))
      intro i e H hi0
      obtain ⟨q2_0,q3_0,q8_0,q58_0,q59_0,q60_0,g0_0,n0_0,hi,hL⟩:=(hI0 _ _ _).1 hi0
      have x0:=bZ n0_0
      have F0:=And.intro q2_0 (And.intro q3_0 (And.intro q8_0 (And.intro q58_0 (And.intro q59_0 (And.intro q60_0 x0)))))
      try simp [go_sem,seval,F0,g0_0,c5]
      refine aP (fun h15=>?_) (fun h15=>?_)
      ·try simp [go_sem] at h15
       have hst:=jG (fN t p) h15
       have hts:=aE h15
       try simp [go_sem,seval,F0,g0_0,c5,h15]
       repeat first|intro _|refine ⟨dR,?_⟩
       refine aB (EW t ht p (by omega) p.slots[i]) ((by first|rfl|(simp [go_sem,← List.map_take,← List.map_drop,F0,g0_0,c5,h15];done))) ?_
       try simp [go_sem,seval,F0,g0_0,c5,h15]
       repeat first|intro _|refine ⟨dR,?_⟩
       refine aG (fun hg=>iH _ _ _) (fun hg=>(by first|rfl|(simp [go_sem,← List.map_take,← List.map_drop,F0,g0_0,c5,h15];done))) ?_
       try simp [go_sem,seval,F0,g0_0,c5,h15]
       repeat first|intro _|refine ⟨dR,?_⟩
       refine aG (fun hg=>iH _ _ _) (fun hg=>(by first|rfl|(simp [go_sem,← List.map_take,← List.map_drop,F0,g0_0,c5,h15];done))) ?_
       try simp [go_sem,seval,F0,g0_0,c5,h15]
       repeat first|intro _|refine ⟨dR,?_⟩
       refine aP (fun h18=>?_) (fun h18=>?_)
       ·skip
        have hs6:fN t p p.slots[i]=6:=by unfold fN;rw [if_neg];revert h18;cases j5 t p p.slots[i].node p.slots[i].attr<;>cases inF p.slots[i].term.var (-1) (p.vars - 1)<;>cases inF p.slots[i].term.add (-1000000) 1000000<;>simp
        rw [hs6,if_pos (by simp),hL] at hst
        try simp [go_sem,seval,F0,g0_0,c5,h15]
        exact hQ _ _ (by first|(left;(simp [go_sem,hF0,hst]);done)|(right;(simp [go_sem,hF0,hst]);done))
       ·skip
        have hs0:fN t p p.slots[i]=0:=by unfold fN;rw [if_pos];revert h18;cases j5 t p p.slots[i].node p.slots[i].attr<;>cases inF p.slots[i].term.var (-1) (p.vars - 1)<;>cases inF p.slots[i].term.add (-1000000) 1000000<;>simp
        rw [hs0,if_neg (by simp),hL] at hst
        have hlt:=OM hs0
        have hus:=KW p.vars.toNat (p.slots.take i) p.slots[i] (by omega)
        try simp [go_sem,seval,F0,g0_0,c5,h15]
        refine aP (fun h20=>?_) (fun h20=>?_)
        ·try simp [go_sem] at h20
         have hfin:i6 p.vars.toNat (p.slots.take (i+1))=(i6 p.vars.toNat (p.slots.take i)).set p.slots[i].term.var.toNat true:=by rw [hts,hus,if_pos (by omega)]
         have hvl:p.slots[i].term.var.toNat<(i6 p.vars.toNat (p.slots.take i)).length:=by rw [c5];omega
         try simp [go_sem,seval,F0,g0_0,c5,h15,aA hvl]
         repeat first|intro _|refine ⟨dR,?_⟩
         refine fR (i+1) (by omega) ((hI0 _ _ _).2 ⟨?_,?_,?_,?_,?_,?_,(by (simp [go_sem,F0,g0_0,c5,h15,aA hvl,c8,hfin])),?_,(by first|assumption|omega|(simp [go_sem,F0,g0_0,c5,h15,aA hvl,h2,h5,h7,h9,h11,h18,h20];done)|(simp_all<;>omega)),(by (exact hst.symm))⟩)<;>first|omega|(simp [go_sem,seval,F0,g0_0,c5,h15,aA hvl]<;>omega)
        ·try simp [go_sem] at h20
         have hfin:i6 p.vars.toNat (p.slots.take (i+1))=i6 p.vars.toNat (p.slots.take i):=by rw [hts,hus,if_neg (by omega)]
         try simp [go_sem,seval,F0,g0_0,c5,h15]
         repeat first|intro _|refine ⟨dR,?_⟩
         refine fR (i+1) (by omega) ((hI0 _ _ _).2 ⟨?_,?_,?_,?_,?_,?_,(by (simp [go_sem,F0,g0_0,c5,h15,c8,hfin])),?_,(by first|assumption|omega|(simp [go_sem,F0,g0_0,c5,h15,h2,h5,h7,h9,h11,h18,h20];done)|(simp_all<;>omega)),(by (exact hst.symm))⟩)<;>first|omega|(simp [go_sem,seval,F0,g0_0,c5,h15]<;>omega)
      ·try simp [go_sem] at h15
       have hU:List.take i p.slots=p.slots:=aH (by omega)
       have hz:fO (fN t p) p.slots=0:=by rw [← hL,kB _ (by omega)]
       rw [hU] at g0_0
       rw [if_neg (by simp [hz])] at hF0
       try simp [go_sem,seval,F0,g0_0,c5]
       refine aB (Br p.vars p.tests) ((by first|rfl|(simp [go_sem,← List.map_take,← List.map_drop,F0,g0_0,c5];done))) ?_
       try simp [go_sem,seval,F0,g0_0,c5]
       refine aP (fun h24=>?_) (fun h24=>?_)
       ·try simp [go_sem] at h24
        try simp [go_sem,seval,F0,g0_0,c5]
        exact hQ _ _ (by first|(left;(rw [hF0,if_pos (by simpa using h24)];simp [go_sem]);done)|(right;(rw [hF0,if_pos (by simpa using h24)];simp [go_sem]);done))
       ·try simp [go_sem] at h24
        try simp [go_sem,seval,F0,g0_0,c5]
        refine c9 (FP (i6 p.vars.toNat p.slots) false) (by simp [DB,A8,eQ,go_sem,← List.map_take,← List.map_drop,F0,g0_0,c5]) ((by first|rfl|(simp [go_sem,← List.map_take,← List.map_drop,F0,g0_0,c5];done))) ( rfl) ?_
        try simp [go_sem,seval,F0,g0_0,c5]
        refine aP (fun GM=>?_) (fun GM=>?_)
        ·try simp [go_sem] at GM
         try simp [go_sem,seval,F0,g0_0,c5]
         exact hQ _ _ (by first|(left;(rw [hF0,if_neg (by simpa using h24),if_pos GM];simp [go_sem]);done)|(right;(rw [hF0,if_neg (by simpa using h24),if_pos GM];simp [go_sem]);done))
        ·try simp [go_sem] at GM
         try simp [go_sem,seval,F0,g0_0,c5]
         exact hQ _ _ (by first|(left;(rw [hF0,if_neg (by simpa using h24),if_neg (by simp [GM])];simp [go_sem]);done)|(right;(rw [hF0,if_neg (by simpa using h24),if_neg (by simp [GM])];simp [go_sem]);done))
def mA (t:Types)(x:Edge):Bool:=decide (0≤x.type)&&decide (x.type<t.edges.length)
def kI (t:Types)(g:Graph):Bool:=(!(g.nodes.any fun a=>!insideF t a))&&!(g.edges.any fun x=>!mA t x)
theorem lT {α:Type}{l:List α}{p:α→Bool}{i:Nat}(h:(l.take i).any p=false)(he:l.length≤i):l.any p=false:=by
 rw [aH he] at h;exact h
theorem q9 (t:Types)(g:Graph):Pure Tryz.prog 287 [t.d,g.d] (.bool (kI t g)):=by
 refine Tz.pK ⟨fun _=>false,fun _=>[]⟩ Tryz.func287 rfl (fun Q hQ=>?_)
 have Y:=trivial
 refine wv (h:=bA (fun i e H=>(e 2=.adr t.c∧e 3=.adr g.c∧e 5=dI i)∧(i≤g.nodes.length)∧(((g.nodes.take i).any fun a=>!insideF t a)=false)) (fun i=>g.nodes.length - i) 0 ⟨wg,wi,(by rfl)⟩ fun I0 hI0 i e H hi0=>?_)
 obtain ⟨E0,hi,ha⟩:=hi0
 have Y:=wa Y E0
 refine wv (h:=?_)
 repeat first|intro _|refine ⟨dR,?_⟩
 refine wq (fun h2=>?_) fun h2=>?_
 ·have Y:=wa Y h2
  refine wv (h:=?_)
  repeat first|intro _|refine ⟨dR,?_⟩
  refine wq (fun h4=>?_) fun h4=>?_
  ·refine wv (h:=?_)
   have hb:(g.nodes.any fun a=>!insideF t a)=true:=aW.2 ⟨_,aC h2,by simp [insideF];omega⟩
   exact hQ _ _ (.inl (by simp only [go_sem,kI,hb,Ff,Cv]))
  ·exact wo (h:=wx hI0 (i+1) ⟨wg,wj,(by (rw [c7 _ _ _ h2,ha];simp [insideF];omega))⟩)
 ·have hN:=lT ha h2
  refine wv (h:=bA (fun k e H=>(e 2=.adr t.c∧e 3=.adr g.c∧e 6=dI k)∧(k≤g.edges.length)∧(((g.edges.take k).any fun x=>!mA t x)=false)) (fun k=>g.edges.length - k) 0 ⟨wg,wi,(by rfl)⟩ fun I2 hI2 k e H hi2=>?_)
  obtain ⟨E2,hk,hb⟩:=hi2
  have Y:=wa Y E2
  refine wv (h:=?_)
  repeat first|intro _|refine ⟨dR,?_⟩
  refine wq (fun h7=>?_) fun h7=>?_
  ·have Y:=wa Y h7
   refine wv (h:=?_)
   repeat first|intro _|refine ⟨dR,?_⟩
   refine wq (fun h9=>?_) fun h9=>?_
   ·refine wv (h:=?_)
    have hb':(g.edges.any fun x=>!mA t x)=true:=aW.2 ⟨_,aC h7,by simp [mA];omega⟩
    exact hQ _ _ (.inl (by simp only [go_sem,kI,hb',Ff,Bool.and_false]))
   ·exact wo (h:=wx hI2 (k+1) ⟨wg,wj,(by (rw [c7 _ _ _ h7,hb];simp [mA];omega))⟩)
  ·refine wv (h:=?_)
   have hE:=lT hb h7
   exact hQ _ _ (.inl (by simp only [go_sem,kI,hN,hE,Bool.not_false,Bool.and_true]))
theorem Hb {α:Type}{l:List α}{p q:α→Bool}(h:∀ x∈l,p x=q x):l.any p=l.any q:=by
 induction l with
 | nil=>rfl
 | cons a l ih=>simp only [List.any_cons,h a (by simp),ih fun x hx=>h x (by simp [hx])]
theorem dP {g:Graph}(h:graphF g=0):(∀ a∈g.nodes,0≤a∧a≤99)∧∀ x∈g.edges,(0≤x.type∧x.type≤99)∧(0≤x.from_∧x.from_<g.nodes.length)∧(0≤x.to_∧x.to_<g.nodes.length):=by
 unfold graphF at h
 split at h
 ·cases h
 ·split at h
  ·cases h
  ·rename_i h1
   split at h
   ·cases h
   ·rename_i h2
    simp [gG,rK] at h1 h2
    refine ⟨h1,fun x hx=>?_⟩
    have:=h2 x hx
    omega
theorem tI {t:Types}{g:Graph}(h:graphF g=0):kI t g=f8 t g:=by
 obtain ⟨h1,h2⟩:=dP h
 unfold kI f8
 congr 2
 ·exact Hb fun x hx=>by have:=h1 x hx;rw [aQ];simp [insideF];omega
 ·exact Hb fun x hx=>by have:=h2 x hx;rw [aQ];simp [mA];omega
theorem FB (n:Int):Pure Tryz.prog 289 [dI n] (.bool (inF n (-1000000) 1000000)):=by
 refine Tz.pK ⟨fun _=>false,fun _=>[]⟩ Tryz.func289 rfl (fun Q hQ=>?_)
 have Y:=trivial
 have Y:=wa Y @inF.eq_1
 exact wo (h:=hQ _ _ wy)
theorem Ml {t:Types}{a:Int}(h:¬ given2F t a a=0):bI t a=[]:=by unfold bI;rw [if_neg h]
theorem Lv (t:Types)(ht:t.ok)(p:Pattern)(node attr:Int):Pure Tryz.prog 288 [t.d,p.d,dI node,dI attr] (.tup [.agg (Co t p node attr).c,.bool (j5 t p node attr)]):=by
 have h8:=nX ht (p.kind node)
 refine Tz.pK ⟨fun t=>t==8,fun _=>[]⟩ Tryz.func288 rfl (fun Q hQ=>?_)
 have Y:=trivial
 refine eF (fun h1=>?_) fun h1=>?_
 ·have hB:j5 t p node attr=false:=by rw [bH];intro h;simp [j5] at h;omega
  exact wv (h:=hQ _ _ (by simp [go_sem,Co,hB,mH]))
 ·have hn:node.toNat<p.graph.nodes.length:=by omega
  have hk:p.kind node=p.graph.nodes[node.toNat]:=by simp [Pattern.kind,hn]
  rw [hk] at h8
  have Y:=wa Y (wa (aA hn) hk)
  refine wo (h:=aK (oI t ht p.graph.nodes[node.toNat]) wl ?_)
  refine eF (fun h4=>?_) fun h4=>?_
  ·have hB:j5 t p node attr=false:=by
    rw [bH];intro h;simp [j5,hk] at h
    by_cases hg:given2F t p.graph.nodes[node.toNat] p.graph.nodes[node.toNat]=0
    ·omega
    ·rw [Ml hg] at h;simp at h;omega
   exact wv (h:=hQ _ _ (by simp [go_sem,Co,hB,mH]))
  ·have ha:attr.toNat<(bI t p.graph.nodes[node.toNat]).length:=by omega
   have hB:j5 t p node attr=true:=by simp [j5,hk];omega
   have Y:=wa Y (aA ha)
   exact wo (h:=hQ _ _ (by simp [go_sem,Co,hB,hk,aA ha]))
def iQ (p:Pattern)(v:Int):Bool:=p.slots.any fun s=>decide (s.term.var=v)
theorem HN (p:Pattern)(v:Int):Pure Tryz.prog 291 [p.d,dI v] (.bool (iQ p v)):=by
 refine Tz.pK ⟨fun _=>false,fun _=>[]⟩ Tryz.func291 rfl (fun Q hQ=>?_)
 have Y:=trivial
 refine wv (h:=bA (fun i e H=>(e 2=.adr p.c∧e 1=dI v∧e 5=dI i)∧(i≤p.slots.length)∧(((p.slots.take i).any fun s=>decide (s.term.var=v))=false)) (fun i=>p.slots.length - i) 0 ⟨wg,wi,(by rfl)⟩ fun I0 hI0 i e H hi0=>?_)
 obtain ⟨E0,hi,ha⟩:=hi0
 have Y:=wa Y E0
 refine wv (h:=?_)
 repeat first|intro _|refine ⟨dR,?_⟩
 refine wq (fun h2=>?_) fun h2=>?_
 ·have Y:=wa Y h2
  refine wv (h:=?_)
  repeat first|intro _|refine ⟨dR,?_⟩
  refine wq (fun h4=>?_) fun h4=>?_
  ·refine wv (h:=?_)
   have hb:iQ p v=true:=aW.2 ⟨_,aC h2,by simpa using h4⟩
   exact hQ _ _ (.inl (by simp only [go_sem,hb]))
  ·exact wo (h:=wx hI0 (i+1) ⟨wg,wj,(by (rw [c7 _ _ _ h2,ha];simpa using h4))⟩)
 ·refine wv (h:=?_)
  have hb:iQ p v=false:=lT ha h2
  exact hQ _ _ (.inl (by simp only [go_sem,hb]))
theorem F7 (p:Pattern)(n:Nat):mem (i6 n p.slots) false=true↔∃ v:Nat,v<n∧iQ p v=false:=by
 rw [c6]
 simp only [i6,bG,b6,iQ]
theorem q8 (t:Types)(ht:t.ok)(p:Pattern):Pure Tryz.prog 211 [t.d,p.d] (dI (bV t p)):=by
 refine Tz.pK ⟨fun t=>t==9||t==10,fun _=>[]⟩ Tryz.func211 rfl (fun Q hQ=>?_)
 have Y:=trivial
 refine wv (h:=aB (oH t ht) wl ?_)
 refine c4 (fun h2=>?_) fun h2=>?_
 ·exact wv (h:=hQ _ _ (by simp [go_sem,bV,h2]))
 ·refine wv (h:=aB (jU p.graph) wl ?_)
  refine c4 (fun h5=>?_) fun h5=>?_
  ·exact wv (h:=hQ _ _ (by simp [go_sem,bV,h2,h5]))
  ·refine wo (h:=aB (q9 t p.graph) wl ?_)
   refine eF (fun h7=>?_) fun h7=>?_
   ·rw [tI h5] at h7
    exact wv (h:=hQ _ _ (by simp [go_sem,bV,h2,h5,h7]))
   ·rw [tI h5] at h7
    refine eF (fun h9=>?_) fun h9=>?_
    ·exact wv (h:=hQ _ _ (by simp [go_sem,bV,h2,h5,h7,inF];omega))
    ·refine eF (fun h11=>?_) fun h11=>?_
     ·exact wv (h:=hQ _ _ (by simp [go_sem,bV,h2,h5,h7,inF];omega))
     ·have hF0:bV t p=if fO (fN t p) p.slots≠0 then 6 else if jN p.vars p.tests≠0 then jN p.vars p.tests else if mem (i6 p.vars.toNat p.slots) false=true then 9 else 0:=by
       unfold bV
       rw [if_neg (by simp [h2]),if_neg (by simp [h5]),if_neg (by simp [h7]),if_neg (by simp [inF];omega),if_neg (by omega)]
      refine wv (h:=bA (fun i e H=>(e 2=.adr t.c∧e 3=.adr p.c∧e 8=dI i)∧(i≤p.slots.length)∧(fO (fN t p) (p.slots.drop i)=fO (fN t p) p.slots)) (fun i=>p.slots.length - i) 0 ⟨wg,wi,(by rfl)⟩ fun I0 hI0 i e H hi0=>?_)
      obtain ⟨E0,hi,hL⟩:=hi0
      have Y:=wa Y E0
      refine eF (fun h14=>?_) fun h14=>?_
      ·have hst:=jG (fN t p) h14
       have Y:=wa Y h14
       refine wo (h:=aB (Lv t ht p p.slots[i].node p.slots[i].attr) wl ?_)
       refine wo (h:=aG (fun hg=>FB _) (fun hg=>wl) ?_)
       refine wo (h:=aP (fun h18=>?_) (fun h18=>?_))
       ·skip
        have hs6:fN t p p.slots[i]=6:=by
         unfold fN;rw [if_neg];intro h;simp [inF] at h;simp [h.1.1,inF] at h18;omega
        rw [hs6,if_pos (by simp),hL] at hst
        exact wv (h:=hQ _ _ (by simp [go_sem,hF0,hst]))
       ·skip
        have hs0:fN t p p.slots[i]=0:=by
         unfold fN;rw [if_pos];simp [inF] at h18 ⊢;refine ⟨⟨h18.1.1.1,?_⟩,?_⟩<;>omega
        rw [hs0,if_neg (by simp),hL] at hst
        exact wo (h:=wx hI0 (i+1) ⟨wg,wj,(by exact hst.symm)⟩)
      ·have hz:fO (fN t p) p.slots=0:=by rw [← hL,kB _ (by omega)]
       rw [if_neg (by simp [hz])] at hF0
       refine wv (h:=aB (JF p.vars p.tests) wl ?_)
       refine c4 (fun h21=>?_) fun h21=>?_
       ·exact wv (h:=hQ _ _ (by rw [hF0,if_pos (by simpa using h21)];simp [go_sem]))
       ·rw [if_neg (by simpa using h21)] at hF0
        refine wv (h:=bA (fun v e H=>(e 2=.adr t.c∧e 3=.adr p.c∧e 13=dI v)∧(v≤p.vars.toNat)∧(∀ j:Nat,j<v→iQ p j=true)) (fun v=>p.vars.toNat - v) 0 ⟨wg,wi,(by (intro j hj;omega))⟩ fun I2 hI2 v e H hi2=>?_)
        obtain ⟨E2,hv,ho⟩:=hi2
        have Y:=wa Y E2
        refine c4 (fun h24=>?_) fun h24=>?_
        ·have Y:=wa Y h24
         refine wo (h:=aB (HN p v) wl ?_)
         refine eF (fun GM=>?_) fun GM=>?_
         ·exact wv (h:=hQ _ _ (by rw [hF0,if_pos ((F7 p _).2 ⟨v,by omega,by simpa using GM⟩)];simp [go_sem]))
         ·exact wo (h:=wx hI2 (v+1) ⟨wg,wj,(by (exact jB (p:=fun j=>iQ p j=true) ho (by simpa using GM)))⟩)
        ·refine wv (h:=?_)
         have hm:¬ mem (i6 p.vars.toNat p.slots) false=true:=fun h=>by
          obtain ⟨w,hw,ho'⟩:=(F7 p _).1 h
          rw [ho w (by omega)] at ho';cases ho'
         exact hQ _ _ (by rw [hF0,if_neg hm];simp [go_sem])
end Go.Abs
end
section
namespace Go.Proofs
open Go.Shelf
def Tryz.laysSort_ren:Go.Shelf.Ren:=⟨fun|189=>275|125=>353|257=>352|128=>409|129=>410|294=>401|295=>402|296=>403|297=>404|298=>405|299=>406|216=>333|300=>407|301=>408|328=>444|329=>445|330=>446|331=>447|332=>448|215=>389|343=>460|n=>n,fun|28=>26|3=>3|46=>349|0=>0|51=>390|53=>69|4=>4|183=>405|182=>404|131=>285|5=>5|9=>9|218=>430|222=>434|228=>441|229=>326|n=>n,fun|n=>n⟩
theorem Tryz.laysSort:Go.Proofs.Lays.n189 Tryz.prog Tryz.laysSort_ren:={
 mixed:=by kernel_rfl
 f125:=Tryz.func353.trans (congrArg some (by kernel_rfl))
 f128:=Tryz.func409.trans (congrArg some (by kernel_rfl))
 f129:=Tryz.func410.trans (congrArg some (by kernel_rfl))
 f189:=Tryz.func275.trans (congrArg some (by kernel_rfl))
 f215:=Tryz.func389.trans (congrArg some (by kernel_rfl))
 f216:=Tryz.func333.trans (congrArg some (by kernel_rfl))
 f257:=Tryz.func352.trans (congrArg some (by kernel_rfl))
 f294:=Tryz.func401.trans (congrArg some (by kernel_rfl))
 f295:=Tryz.func402.trans (congrArg some (by kernel_rfl))
 f296:=Tryz.func403.trans (congrArg some (by kernel_rfl))
 f297:=Tryz.func404.trans (congrArg some (by kernel_rfl))
 f298:=Tryz.func405.trans (congrArg some (by kernel_rfl))
 f299:=Tryz.func406.trans (congrArg some (by kernel_rfl))
 f300:=Tryz.func407.trans (congrArg some (by kernel_rfl))
 f301:=Tryz.func408.trans (congrArg some (by kernel_rfl))
 f328:=Tryz.func444.trans (congrArg some (by kernel_rfl))
 f329:=Tryz.func445.trans (congrArg some (by kernel_rfl))
 f330:=Tryz.func446.trans (congrArg some (by kernel_rfl))
 f331:=Tryz.func447.trans (congrArg some (by kernel_rfl))
 f332:=Tryz.func448.trans (congrArg some (by kernel_rfl))
 f343:=Tryz.func460.trans (congrArg some (by kernel_rfl))
 t0:=Tryz.underlying0
 a0:=Tryz.isAgg0
 z0:=Tryz.sizeOf0
 v0:=Tryz.zeroValue0
 t3:=Tryz.underlying3
 a3:=Tryz.isAgg3
 z3:=Tryz.sizeOf3
 v3:=Tryz.zeroValue3
 t4:=Tryz.underlying4
 a4:=Tryz.isAgg4
 z4:=Tryz.sizeOf4
 v4:=Tryz.zeroValue4
 t5:=Tryz.underlying5
 a5:=Tryz.isAgg5
 z5:=Tryz.sizeOf5
 v5:=Tryz.zeroValue5
 t9:=Tryz.underlying9
 a9:=Tryz.isAgg9
 z9:=Tryz.sizeOf9
 v9:=Tryz.zeroValue9
 t28:=Tryz.underlying26
 a28:=Tryz.isAgg26
 z28:=Tryz.sizeOf26
 v28:=Tryz.zeroValue26
 t46:=Tryz.underlying349
 a46:=Tryz.isAgg349
 z46:=Tryz.sizeOf349
 v46:=Tryz.zeroValue349
 t51:=Tryz.underlying390
 a51:=Tryz.isAgg390
 z51:=Tryz.sizeOf390
 v51:=Tryz.zeroValue390
 t53:=Tryz.underlying69
 a53:=Tryz.isAgg69
 z53:=Tryz.sizeOf69
 v53:=Tryz.zeroValue69
 t131:=Tryz.underlying285
 a131:=Tryz.isAgg285
 z131:=Tryz.sizeOf285
 v131:=Tryz.zeroValue285
 t182:=Tryz.underlying404
 a182:=Tryz.isAgg404
 z182:=Tryz.sizeOf404
 v182:=Tryz.zeroValue404
 t183:=Tryz.underlying405
 a183:=Tryz.isAgg405
 z183:=Tryz.sizeOf405
 v183:=Tryz.zeroValue405
 t218:=Tryz.underlying430
 a218:=Tryz.isAgg430
 z218:=Tryz.sizeOf430
 v218:=Tryz.zeroValue430
 t222:=Tryz.underlying434
 a222:=Tryz.isAgg434
 z222:=Tryz.sizeOf434
 v222:=Tryz.zeroValue434
 t228:=Tryz.underlying441
 a228:=Tryz.isAgg441
 z228:=Tryz.sizeOf441
 v228:=Tryz.zeroValue441
 t229:=Tryz.underlying326
 a229:=Tryz.isAgg326
 z229:=Tryz.sizeOf326
 v229:=Tryz.zeroValue326 }
def Tryz.laysCompact_ren:Go.Shelf.Ren:=⟨fun|20=>276|n=>n,fun|22=>26|3=>3|4=>4|0=>0|n=>n,fun|n=>n⟩
theorem Tryz.laysCompact:Go.Proofs.Lays2.n20 Tryz.prog Tryz.laysCompact_ren:={
 mixed:=by kernel_rfl
 f20:=Tryz.func276.trans (congrArg some (by kernel_rfl))
 t0:=Tryz.underlying0
 a0:=Tryz.isAgg0
 z0:=Tryz.sizeOf0
 v0:=Tryz.zeroValue0
 t3:=Tryz.underlying3
 a3:=Tryz.isAgg3
 z3:=Tryz.sizeOf3
 v3:=Tryz.zeroValue3
 t4:=Tryz.underlying4
 a4:=Tryz.isAgg4
 z4:=Tryz.sizeOf4
 v4:=Tryz.zeroValue4
 t22:=Tryz.underlying26
 a22:=Tryz.isAgg26
 z22:=Tryz.sizeOf26
 v22:=Tryz.zeroValue26
 i3:=by kernel_rfl }
end Go.Proofs
end
section
set_option maxRecDepth 4000
open Go Go.Proofs Go.Shelf
namespace Go.Abs
def nI (xs:List Int):List Int:=xs.mergeSort fun x y=>decide (x≤y)
theorem kP (xs:List Int):(nI xs).length=xs.length:=List.length_mergeSort xs
theorem IV {G:AHeap}{id:Nat}{ty:TypeId}{xs:List Int}{Q:D→AHeap→Prop}(hg:G.get id=some ⟨ty,1,xs.map cI,false⟩)(hl:xs.length≤1000000)
  (hQ:Q (.tup []) (G.put id ⟨ty,1,(nI xs).map cI,false⟩)):ACalls Tryz.prog 275 [.own id xs.length] G Q:=by
 refine KM ⟨Tryz.f275,Tryz.func275,rfl,rfl⟩ hg (kP xs) (fun w v hrow=>?_) hQ
 rcases hrow.2 with ⟨rfl,h0⟩|⟨g,cap,cur,rfl,hb,hblk,hnc,hcm,hcs,htk⟩
 ·have hx:xs=[]:=bF h0
  subst hx
  exact (Any.slices_Sort_int_none Tryz.laysSort none 0 w).mono fun e w' ⟨he,hw⟩=>by
   subst hw
   exact ⟨he,⟨rfl,rfl,rfl,bC _,fun _ _ _=>rfl⟩,by simpa [CX,nI] using hrow⟩
 ·have hH:Sort.Holds (Value.int .i64) w g 0 xs.toArray:=holds_of_blockI hblk (by simpa using htk)
  refine (Any.slices_Sort_int Tryz.laysSort g 0 cap xs w hH (oW.1 hblk).1 (by omega)).mono fun e w' ⟨he,n,os,hw⟩=>?_
  subst hw
  refine ⟨he,grownBy_sortedI _,?_⟩
  have:=ownsRow_sortedI (n:=n) (os:=os) (ts:=nI xs) (kP xs) hb hblk hnc hcm (by simpa using hcs)
  unfold CX
  rw [kP]
  exact this
theorem EL (zs:List Int):(Lib.compact zs).length≤zs.length:=by
 unfold Lib.compact Lib.compactUpTo
 rw [bW]
 exact dW (oC _ _) (by simp)
theorem Ck {G:AHeap}{id:Nat}{ty:TypeId}{xs:List Int}{Q:D→AHeap→Prop}(hg:G.get id=some ⟨ty,1,xs.map cI,false⟩)(hl:xs.length≤1000000)
  (hQ:∀ k,Q (.list ((Lib.compact xs).map cI)) (G.put id k)):ACalls Tryz.prog 276 [.own id xs.length] G Q:=by
 have hcl:=EL xs
 have hzl:(Lib.compact xs++List.replicate (xs.length - (Lib.compact xs).length) 0).length=xs.length:=by simp;omega
 refine It (zs:=Lib.compact xs++List.replicate (xs.length - (Lib.compact xs).length) 0) (m:=(Lib.compact xs).length) ⟨Tryz.f276,Tryz.func276,rfl,rfl⟩ hg hzl hcl (fun w v hrow=>?_) (by rw [List.take_left];exact hQ _)
 rcases hrow.2 with ⟨rfl,h0⟩|⟨g,cap,cur,rfl,hb,hblk,hnc,hcm,hcs,htk⟩
 ·have hx:xs=[]:=bF h0
  subst hx
  exact (Any.slices_Compact_int_empty Tryz.laysCompact none 0 w).mono fun e w' ⟨he,hw⟩=>by
   subst hw
   exact ⟨⟨_,he,.inl ⟨rfl,rfl⟩⟩,⟨rfl,rfl,rfl,bC _,fun _ _ _=>rfl⟩,by simpa [CX,Lib.compact,Lib.compactUpTo] using hrow⟩
 ·have hH:Sort.Holds (Value.int .i64) w g 0 xs.toArray:=holds_of_blockI hblk (by simpa using htk)
  refine (Any.slices_Compact_int Tryz.laysCompact g 0 cap xs w hH (by omega) hnc).mono fun e w' ⟨he,q,hw⟩=>?_
  subst hw
  refine ⟨⟨_,he,.inr ⟨_,_,_,rfl,rfl⟩⟩,?_,?_⟩
  ·have:=grownBy_sortedI (w:=w) (g:=g) (n:=q) (os:=#[]) (Lib.compact xs++List.replicate (xs.length - (Lib.compact xs).length) 0).toArray
   rw [Sort.grow_empty] at this
   exact this
  ·have:=ownsRow_sortedI (n:=q) (os:=#[]) (ts:=Lib.compact xs++List.replicate (xs.length - (Lib.compact xs).length) 0) hzl hb hblk hnc hcm (by simpa using hcs)
   rw [Sort.grow_empty] at this
   unfold CX
   rw [hzl]
   exact this
def imagesN (xs:List Int):Nat:=(Lib.compact (nI xs)).length
theorem uM (xs:List Int)(hl:xs.length≤1000000):Pure Tryz.prog 376 [dLI xs] (dI (imagesN xs)):=by
 have hlen:=kP xs
 refine Tz.pK ⟨fun _=>false,fun _=>[]⟩ Tryz.func376 rfl (fun Q hQ=>?_)
 have Y:=trivial
 refine wv (h:=l4 (kC xs hl) wl ?_)
 refine wv (h:=?_)
 unfold fE;refine IV (ty:=3) (xs:=xs) (by simp [go_sem]) hl ?_
 refine wo (h:=?_)
 unfold fE;rw [show xs.length=(nI xs).length from hlen.symm];refine Ck (ty:=3) (xs:=nI xs) (by simp [go_sem]) (by omega) fun k=>?_
 have Y:=wa Y @imagesN.eq_1
 exact wo (h:=hQ _ _ wy)
end Go.Abs
end
section
set_option maxRecDepth 100000
set_option maxHeartbeats 4000000
open Go Go.Proofs
namespace Go.Abs
theorem Nt (xs:List Int):(nI xs).Pairwise (·≤·):=by
 have:=List.pairwise_mergeSort (le:=fun (x y:Int)=>decide (x≤y)) (fun a b c h1 h2=>by simp at *;omega) (fun a b=>by simp;omega) xs
 exact this.imp fun h=>by simpa using h
theorem Ce (xs:List Int):imagesN xs=xs.length↔xs.Nodup:=by
 have hp:(nI xs).Perm xs:=List.mergeSort_perm xs _
 rw [← hp.nodup_iff,← kP xs]
 unfold imagesN Lib.compact Lib.compactUpTo
 rw [bW]
 have hpw:=eD.1 (Nt xs)
 generalize nI xs=s at *
 have key:(List.filter (Lib.keeps s.toArray) (List.range s.length)).length=s.length↔∀ j,j<s.length→Lib.keeps s.toArray j=true:=by
  have:=List.length_filter_eq_length_iff (p:=Lib.keeps s.toArray) (l:=List.range s.length)
  rw [List.length_range] at this
  rw [this];simp
 rw [key]
 have hk:∀ j (hj:j<s.length),Lib.keeps s.toArray j=true↔(j=0∨s[j]≠s[j - 1]'(by omega)):=fun j hj=>by
  simp only [Lib.keeps,decide_eq_true_eq]
  rw [getElem!_pos _ j (by simpa using hj),getElem!_pos _ (j - 1) (by simp;omega)]
  simp
 constructor
 ·intro h
  rw [List.nodup_iff_pairwise_ne,eD]
  intro i j hi hj hij
  rcases (hk j hj).1 (h j hj) with h0|h0
  ·omega
  ·have h1:=hpw (j - 1) j (by omega) hj (by omega)
   by_cases hij':i=j - 1
   ·subst hij';omega
   ·have h2:=hpw i (j - 1) hi (by omega) (by omega)
    omega
 ·intro h j hj
  rw [hk j hj]
  by_cases h0:j=0
  ·exact .inl h0
  ·right
   intro he
   have:=(qQ h).1 he
   omega
def bS:Edge:=⟨0,0,0⟩
def jP (a b:Graph)(m:Part)(i:Nat):Int :=
 if m.nodes[i]?.getD 0<0∨(b.nodes.length:Int)≤m.nodes[i]?.getD 0 then 6
 else if b.nodes[(m.nodes[i]?.getD 0).toNat]?.getD 0≠a.nodes[i]?.getD 0 then 13 else 0
def gL (a b:Graph)(m:Part)(i:Nat):Int :=
 if m.edges[i]?.getD 0<0∨(b.edges.length:Int)≤m.edges[i]?.getD 0 then 6
 else if (a.edges[i]?.getD bS).type≠(b.edges[(m.edges[i]?.getD 0).toNat]?.getD bS).type then 13
 else if m.nodes[(a.edges[i]?.getD bS).from_.toNat]?.getD 0≠(b.edges[(m.edges[i]?.getD 0).toNat]?.getD bS).from_∨m.nodes[(a.edges[i]?.getD bS).to_.toNat]?.getD 0≠(b.edges[(m.edges[i]?.getD 0).toNat]?.getD bS).to_ then 11 else 0
def dV (a b:Graph)(m:Part):Int :=
 if graphF a≠0 then graphF a
 else if graphF b≠0 then graphF b
 else if m.nodes.length≠a.nodes.length∨m.edges.length≠a.edges.length then 20
 else if bJ (jP a b m) 0 a.nodes.length≠0 then bJ (jP a b m) 0 a.nodes.length
 else bJ (gL a b m) 0 a.edges.length
theorem mS (a b:Graph)(m:Part):Pure Tryz.prog 315 [a.d,b.d,m.d] (dI (dV a b m)):=by
 refine Tz.pK ⟨fun t=>t==13||t==14,fun r=>match r with|22=>[(0,10),(1,10),(3,10),(4,10),(5,10),(6,10),(8,10),(9,10),(0,11),(1,11),(3,11),(4,11),(5,11),(6,11),(8,11),(9,11),(10,11),(5,12),(6,12),(8,12),(9,12)]|_=>[]⟩ Tryz.func315 rfl (fun Q hQ=>?_)
 have Y:=trivial
 refine wv (h:=aB (kW a) wl ?_)
 refine c4 (fun h2=>?_) fun h2=>?_
 ·exact wv (h:=hQ _ _ (.inl (by simp [go_sem,dV,h2])))
 ·refine wv (h:=aB (kW b) wl ?_)
  refine c4 (fun h5=>?_) fun h5=>?_
  ·exact wv (h:=hQ _ _ (.inl (by simp [go_sem,dV,h2,h5])))
  ·refine eF (fun h7=>?_) fun h7=>?_
   ·exact wv (h:=hQ _ _ (.inl (by simp [go_sem,dV,h2,h5,show m.nodes.length≠a.nodes.length∨m.edges.length≠a.edges.length by omega])))
   ·have hM:dV a b m=(if bJ (jP a b m) 0 a.nodes.length≠0 then bJ (jP a b m) 0 a.nodes.length else bJ (gL a b m) 0 a.edges.length):=by
     unfold dV;rw [if_neg (by simp [h2]),if_neg (by simp [h5]),if_neg (by omega)]
    have hga:=bK h2
    have hgb:=bK h5
    have hia:=(dP h2).2
    refine wo (h:=bA (fun i e H=>(e 3=.adr a.c∧e 4=.adr b.c∧e 5=.adr m.c∧e 42=dLI m.nodes∧e 43=dI m.nodes.length∧e 44=dI i)∧(i≤m.nodes.length)∧(bJ (jP a b m) i (a.nodes.length - i)=bJ (jP a b m) 0 a.nodes.length)) (fun i=>m.nodes.length - i) 0 ⟨wg,wi,(by rfl)⟩ fun I0 hI0 i e H hi0=>?_)
    obtain ⟨E0,hi,hF⟩:=hi0
    have Y:=wa Y E0
    refine c4 (fun h10=>?_) fun h10=>?_
    ·have hn:i<a.nodes.length:=by omega
     have hst:=d7 (jP a b m) hn
     rw [hF] at hst
     have hNE:jP a b m i=(if m.nodes[i]<0∨(b.nodes.length:Int)≤m.nodes[i] then 6 else if b.nodes[m.nodes[i].toNat]?.getD 0≠a.nodes[i] then 13 else 0):=by simp only [jP,aA h10,aA hn,aD]
     have Y:=wa Y (wa h10 hn)
     refine eF (fun h12=>?_) fun h12=>?_
     ·rw [if_pos (by omega)] at hNE
      rw [hNE,if_pos (by omega)] at hst
      exact wv (h:=hQ _ _ (.inl (by simp [go_sem,hM,hst])))
     ·have hkb:m.nodes[i].toNat<b.nodes.length:=by omega
      rw [if_neg (by omega),aA hkb,aD] at hNE
      have Y:=wa Y (aA hkb)
      refine eF (fun h14=>?_) fun h14=>?_
      ·rw [if_pos h14] at hNE
       rw [hNE,if_pos (by omega)] at hst
       exact wv (h:=hQ _ _ (.inl (by simp [go_sem,hM,hst])))
      ·rw [if_neg (by simpa using h14)] at hNE
       rw [hNE,if_neg (by omega)] at hst
       exact wo (h:=wx hI0 (i+1) ⟨wg,wj,(by exact hst.symm)⟩)
    ·have hN0:bJ (jP a b m) 0 a.nodes.length=0:=by rw [← hF,show a.nodes.length - i=0 by omega];rfl
     rw [hN0,if_neg (by omega)] at hM
     refine wo (h:=bA (fun k e H=>(e 3=.adr a.c∧e 4=.adr b.c∧e 5=.adr m.c∧e 71=dLI m.edges∧e 72=dI m.edges.length∧e 73=dI k)∧(k≤m.edges.length)∧(bJ (gL a b m) k (a.edges.length - k)=dV a b m)) (fun k=>m.edges.length - k) 0 ⟨wg,wi,(by (exact hM.symm))⟩ fun I2 hI2 k e H hi2=>?_)
     obtain ⟨E2,hk,hE⟩:=hi2
     have Y:=wa Y E2
     refine c4 (fun h18=>?_) fun h18=>?_
     ·have hn:k<a.edges.length:=by omega
      have hst:=d7 (gL a b m) hn
      rw [hE] at hst
      have hx:=hia _ (aC hn)
      have hxf:a.edges[k].from_.toNat<m.nodes.length:=by omega
      have hxt:a.edges[k].to_.toNat<m.nodes.length:=by omega
      have hEE:gL a b m k=(if m.edges[k]<0∨(b.edges.length:Int)≤m.edges[k] then 6 else if a.edges[k].type≠(b.edges[m.edges[k].toNat]?.getD bS).type then 13 else if m.nodes[a.edges[k].from_.toNat]≠(b.edges[m.edges[k].toNat]?.getD bS).from_∨m.nodes[a.edges[k].to_.toNat]≠(b.edges[m.edges[k].toNat]?.getD bS).to_ then 11 else 0):=by
       simp only [gL,aA h18,aA hn,aD,aA hxf,aA hxt]
      have Y:=wa Y (wa h18 (wa hn (wa (aA hxf) (aA hxt))))
      refine eF (fun h20=>?_) fun h20=>?_
      ·rw [if_pos (by omega)] at hEE
       rw [hEE,if_pos (by omega)] at hst
       exact wv (h:=hQ _ _ (.inl (by simp [go_sem,← hst])))
      ·have hkb:m.edges[k].toNat<b.edges.length:=by omega
       rw [if_neg (by omega),aA hkb,aD] at hEE
       have Y:=wa Y (aA hkb)
       refine eF (fun h23=>?_) fun h23=>?_
       ·rw [if_pos h23] at hEE
        rw [hEE,if_pos (by omega)] at hst
        exact wv (h:=hQ _ _ (.inl (by simp [go_sem,← hst])))
       ·rw [if_neg (by simpa using h23)] at hEE
        refine eF (fun h25=>?_) fun h25=>?_
        ·rw [if_pos (by omega)] at hEE
         rw [hEE,if_pos (by omega)] at hst
         exact wv (h:=hQ _ _ (.inl (by simp [go_sem,← hst])))
        ·rw [if_neg (by omega)] at hEE
         rw [hEE,if_neg (by omega)] at hst
         exact wo (h:=wx hI2 (k+1) ⟨wg,wj,(by exact hst.symm)⟩)
     ·exact wv (h:=hQ _ _ (.inl (by rw [← hE,show a.edges.length - k=0 by omega];rfl)))
def Eg (a b:Graph)(m:Part):Bool:=decide (dV a b m=0)&&(decide m.nodes.Nodup&&decide m.edges.Nodup)
theorem lX {a b:Graph}{m:Part}(h:dV a b m=0):graphF a=0∧graphF b=0∧m.nodes.length=a.nodes.length∧m.edges.length=a.edges.length:=by
 unfold dV at h
 split at h
 ·rename_i h1;exact absurd h h1
 ·rename_i h1
  split at h
  ·rename_i h2;exact absurd h h2
  ·rename_i h2
   split at h
   ·cases h
   ·omega
theorem GL (xs:List Int):((imagesN xs:Int)==(xs.length:Int))=decide xs.Nodup:=by
 rw [aQ]
 simp only [beq_iff_eq,decide_eq_true_eq]
 rw [← Ce]
 omega
theorem p8 (a b:Graph)(m:Part)(h1:m.nodes.length≤1000000)(h2:m.edges.length≤1000000):Pure Tryz.prog 316 [a.d,b.d,m.d] (.bool (Eg a b m)):=by
 refine Tz.pK ⟨fun _=>false,fun _=>[]⟩ Tryz.func316 rfl (fun Q hQ=>?_)
 have Y:=@GL
 refine wo (h:=aK (mS a b m) wl ?_)
 refine wo (h:=dO (fun hg=>uM m.nodes h1) (fun hg=>wl) ?_)
 refine wo (h:=dO (fun hg=>uM m.edges h2) (fun hg=>wl) ?_)
 exact wo (h:=hQ _ _ (by simp [go_sem,Eg,GL,jT]))
end Go.Abs
end
