/- Layer 4: lines of types, what fits. · Layer 4: attributes of -/
import Derived.Test.YtjfaalokjnmdoaaGreatZcAF
import Derived.Test.YtjfaalokjnmdoaaGreatZcAA
import Derived.Test.YtjfaalokjnmdoaaGreatZcAH
import Derived.Ground.NamesProg
import Derived.Ground.Names2Prog
import Derived.Shelf.Sort.Plain
import Derived.Shelf.Slices.CompactI
import Derived.Shelf.Slices.In.SortNone
import Derived.Test.YtjfaalokjnmdoaaGreatProg
set_option linter.unusedVariables false
set_option linter.unusedSimpArgs false
section
set_option maxRecDepth 100000
set_option maxHeartbeats 4000000
open Go Go.Proofs
namespace Go.Abs
def Ir (t:Types)(k:Nat):List Int:=if k=0 then [] else t.line (k - 1)
theorem ND {xs ys:List Int}{i:Nat}(hy:ys.length=xs.length)(hi:xs.length≤2 * i+1)(hr:∀ j,j<xs.length→ys[j]?=if j<i∨xs.length - i≤j then xs[xs.length - 1 - j]? else xs[j]?):ys=xs.reverse:=by
 apply eR
 intro j
 by_cases hj:j<xs.length
 ·rw [hr j hj,List.getElem?_reverse hj]
  split
  ·rfl
  ·rename_i hc
   rw [show j=xs.length - 1 - j by omega]
   congr 1;omega
 ·rw [bL (by omega),bL (by simp;omega)]
theorem K9 (G:AHeap)(id:Nat)(xs:List Int)(hg:G.get id=some ⟨3,1,xs.map cI,false⟩)(hl:xs.length≤100000)(Q:D→AHeap→Prop)
  (hQ:∀ H',H'.get id=some ⟨3,1,xs.reverse.map cI,false⟩→(∀ j,j≠id→H'.get j=G.get j)→G.next≤H'.next→Q (.tup []) H'):ACalls Tryz.prog 346 [.own id xs.length] G Q:=by
 refine (aG (cfg:=⟨fun _=>false,fun _=>[]⟩) Tz.mixed Tryz.func346 rfl rfl (aE rfl) (by kernel_rfl) ?_)
 try simp [go_sem,seval,hg]
 repeat first|intro _|refine ⟨fF,?_⟩
 obtain ⟨I0,hI0⟩:∃ I0:Nat→cX→AHeap→Prop,∀ (i:Nat) (e:cX) (H:AHeap),I0 i e H↔(∃ ys:List Int,(e 0=.own id xs.length)∧(e 2=dI i)∧(e 3=dI ((xs.length:Int) - 1 - i))∧(H.get id=some ⟨3,1,ys.map cI,false⟩)∧(∀ j,j≠id→H.get j=G.get j)∧(G.next≤H.next)∧(ys.length=xs.length)∧(∀ j,j<xs.length→ys[j]?=if j<i∨xs.length - i≤j then xs[xs.length - 1 - j]? else xs[j]?)):=⟨fun i e H=>_,fun _ _ _=>Iff.rfl⟩
 refine k6 I0 (fun i=>xs.length - i) (0) ((hI0 _ _ _).2 ⟨(xs),?_,?_,?_,(by exact hg),(by exact fun _ _=>rfl),(by exact aY _),(by first|assumption|omega|(simp [go_sem,hg];done)|(simp_all;done)),(by intro j hj;simp;omega)⟩) ?_
 iterate 3 (first|omega|(simp [go_sem,seval,hg]<;>omega))
 intro i e H hi0
 obtain ⟨ys,q0_0,q2_0,q3_0,hH,hfr,hnx,hy,hr⟩:=(hI0 _ _ _).1 hi0
 have F0:=And.intro q0_0 (And.intro q2_0 q3_0)
 try simp [go_sem,seval,hg,F0,hH]
 refine aK (fun h1=>?_) (fun h1=>?_)
 ·try simp [go_sem] at h1
  have hj:xs.length - 1 - i<ys.length:=by omega
  have hi':i<ys.length:=by omega
  have htn:((xs.length:Int) - 1 - i).toNat=xs.length - 1 - i:=by omega
  have hstep:∀ j,j<xs.length→((ys.set i (ys[xs.length - 1 - i]?.getD 0)).set (xs.length - 1 - i) (ys[i]?.getD 0))[j]?=if j<i+1∨xs.length - (i+1)≤j then xs[xs.length - 1 - j]? else xs[j]?:=fun j hjl=>by
   have h1:=hr j hjl
   have h3:=hr i (by omega)
   have h4:=hr (xs.length - 1 - i) (by omega)
   rw [aA hi'] at h3
   rw [aA hj] at h4
   rw [cO,cO,aA hi',aA hj]
   by_cases ha:xs.length - 1 - i=j
   ·rw [if_pos ha,if_pos (by simp;omega),if_pos (by omega)]
    simp only [aD]
    rw [h3,if_neg (by omega)];congr 1;omega
   ·rw [if_neg ha]
    by_cases hb:i=j
    ·rw [if_pos hb,if_pos (by omega),if_pos (by omega)]
     simp only [aD]
     rw [h4,if_neg (by omega)];congr 1;omega
    ·rw [if_neg hb,h1]
     by_cases hc:j<i∨xs.length - i≤j
     ·rw [if_pos hc,if_pos (by omega)]
     ·rw [if_neg hc,if_neg (by omega)]
  try simp [go_sem,seval,hg,F0,hH,h1,htn,aA hj,aA hi',hy,cO,show i≠xs.length - 1 - i by omega]
  repeat first|intro _|refine ⟨fF,?_⟩
  refine cT (i+1) (by omega) ((hI0 _ _ _).2 ⟨((ys.set i (ys[xs.length - 1 - i]?.getD 0)).set (xs.length - 1 - i) (ys[i]?.getD 0)),?_,?_,?_,(by (simp [go_sem,hH,dR,aA hj,aA hi'])),(by (intro j hj';simp [go_sem,hj',hfr j hj'])),(by (simp [go_sem];omega)),(by first|assumption|omega|(simp [go_sem,hg,F0,hH,h1,htn,aA hj,aA hi',hy,cO,show i≠xs.length - 1 - i by omega];done)|(simp_all<;>omega)),(by (exact hstep))⟩)<;>first|omega|(simp [go_sem,seval,hg,F0,hH,h1,htn,aA hj,aA hi',hy,cO,show i≠xs.length - 1 - i by omega]<;>omega)
 ·try simp [go_sem] at h1
  have:=ND hy (by omega) hr
  subst this
  try simp [go_sem,seval,hg,F0,hH]
  exact hQ _ hH hfr hnx
theorem Nc (t:Types)(ht:t.ok)(hv:t.valid)(a:Nat)(ha:a<t.nodes.length):Pure Tryz.prog 263 [t.d,dI a] (.list ((t.line a).map cI)):=by
 have hfew:=hv.fewN
 refine Tz.pK ⟨fun t=>t==5,fun _=>[]⟩ Tryz.func263 rfl (fun Q hQ=>?_)
 have Y:=trivial
 refine wv (h:=bP (fun k e H=>∃ xs:List Int,(e 2=.adr t.c∧e 1=dI ((k:Int) - 1)∧e 5=.own 0 xs.length)∧(H.get 0=some ⟨3,1,xs.map cI,false⟩)∧(0<H.next)∧(k≤t.nodes.length)∧(xs.length+k≤12)∧(Ir t k++xs.reverse=t.line a)) (fun k=>k) (a+1) ⟨([]),wg,wn,wn,wi,(by simp;omega),(by simp [Ir])⟩ fun I0 hI0 k e H hi0=>?_)
 obtain ⟨xs,E0,g0_0,n0_0,hk,hb,hx⟩:=hi0
 have Y:=wa Y (wa E0 (wa g0_0 (b5 n0_0)))
 refine dO (fun h2=>?_) fun h2=>?_
 ·have hk0:0<k:=by omega
  have hkl:k - 1<t.nodes.length:=by omega
  have hpar:=hv.parent (k - 1) _ (aA hkl)
  have hlow:=hv.low (k - 1) _ (aA hkl)
  have htn:((k:Int) - 1).toNat=k - 1:=by omega
  have hlr:=xK t (k - 1) hkl (hv.parentsOK _)
  have hlk:Ir t k=Ir t (t.nodes[k - 1].parent+1).toNat++[(k:Int) - 1]:=by
   unfold Ir
   rw [if_neg (show ¬ k=0 by omega),hlr]
   by_cases h0:0≤t.nodes[k - 1].parent
   ·rw [if_pos h0,if_neg (by omega),show (t.nodes[k - 1].parent+1).toNat - 1=t.nodes[k - 1].parent.toNat by omega]
    congr 2;omega
   ·rw [if_neg h0,if_pos (by omega)]
    simp;omega
  have Y:=wa Y (wa h2 (wa htn hkl))
  exact wo (h:=wx hI0 ((t.nodes[k - 1].parent+1).toNat) ⟨(xs++[(k:Int) - 1]),wg,wn,wn,wj,(by simp;omega),(by rw [hlk] at hx;rw [← hx];simp)⟩)
 ·have hk0:k=0:=by omega
  subst hk0
  have hln:(t.line a).length=xs.length:=by rw [← hx];simp [Ir]
  have hx':(xs.map cI).reverse=(t.line a).map cI:=by rw [← List.map_reverse,← hx];rfl
  refine wv (h:=?_)
  unfold gU;refine K9 _ _ xs g0_0 (by omega) _ fun H1 gR _ _=>?_
  exact wv (h:=hQ _ _ (by simp [go_sem,gR,hx',hln]))
theorem EE (t:Types)(ht:t.ok)(hv:t.valid)(a b:Int)(h0:0≤a)(h1:a<t.nodes.length):Pure Tryz.prog 164 [t.d,dI a,dI b] (.bool (mem (t.line a.toNat) b)):=by
 have hl:=Nc t ht hv a.toNat (by omega)
 rw [Int.toNat_of_nonneg h0] at hl
 refine Tz.pK ⟨fun _=>false,fun _=>[]⟩ Tryz.func164 rfl (fun Q hQ=>?_)
 have Y:=trivial
 refine wv (h:=aB (hl) wl ?_)
 refine wv (h:=aB (fL _ _) wl ?_)
 exact wv (h:=hQ _ _ wy)
def j4 (t:Types)(edge a b:Int):Bool:=decide (given2F t a b=0)&&(decide (0≤edge)&&decide (edge<t.edges.length)) &&
 (mem (t.line a.toNat) (match t.edges[edge.toNat]? with|some x=>x.from_|none=>0)&&mem (t.line b.toNat) (match t.edges[edge.toNat]? with|some x=>x.to_|none=>0))
theorem oX {t:Types}{a b:Int}(h:given2F t a b=0):t.valid∧(0≤a∧a<t.nodes.length)∧(0≤b∧b<t.nodes.length):=by
 unfold given2F at h
 split at h
 ·rename_i h1;exact absurd h h1
 ·rename_i h1
  split at h
  ·rename_i h2;simp [insideF] at h2;exact ⟨lY (by simpa using h1),h2.1,h2.2⟩
  ·cases h
theorem EF (t:Types)(ht:t.ok)(edge a b:Int):Pure Tryz.prog 74 [t.d,dI edge,dI a,dI b] (.bool (j4 t edge a b)):=by
 refine Tz.pK ⟨fun _=>false,fun _=>[]⟩ Tryz.func74 rfl (fun Q hQ=>?_)
 have Y:=trivial
 refine wo (h:=aB (wQ t ht [a,b]) wl ?_)
 refine fJ (fun h1=>?_) fun h1=>?_
 ·rw [IA] at h1
  exact wv (h:=hQ _ _ (by simp [go_sem,j4];intros;omega))
 ·rw [IA] at h1
  obtain ⟨hv,hA,hB⟩:=oX h1.1.1
  have hke:edge.toNat<t.edges.length:=by omega
  have Y:=wa Y (aA hke)
  refine wo (h:=aQ (EE t ht hv _ _ hA.1 hA.2) wl ?_)
  refine wo (h:=eC (fun hg=>EE t ht hv _ _ hB.1 hB.2) (fun hg=>wl) ?_)
  exact wo (h:=hQ _ _ (by simp [go_sem,j4,h1,aA hke]))
theorem tP (l:List Int)(x b:Int):mem (l++[x]) b=(mem l b||decide (b=x)):=by
 rw [aS,cG,dA,dA];simp
theorem pP (b:Int):mem ([]:List Int) b=false:=by rw [bX];intro h;rw [dA] at h;cases h
theorem Ts (t:Types)(a b:Int)(ha:a<0)(hb:0≤b):Pure Tryz.prog 192 [t.d,dI a,dI b] (.bool false):=by
 refine Tz.pK ⟨fun _=>false,fun _=>[]⟩ Tryz.func192 rfl (fun Q hQ=>?_)
 have Y:=wa (show ¬ 0≤a by omega) (show ¬ a=b by omega)
 refine wo (h:=?_)
 refine eC (r:=.bool false) (fun hg=>by simp at hg) (fun hg=>by simp at hg) ?_
 exact wo (h:=hQ _ _ wy)
theorem uT (t:Types)(hv:t.valid)(b:Int)(hb:0≤b):∀ a:Nat,a<t.nodes.length→Pure Tryz.prog 192 [t.d,dI a,dI b] (.bool (mem (t.line a) b)):=by
 intro a
 induction a using Nat.strongRecOn with
 | _ a ih =>
 intro ha
 have hpar:=hv.parent a _ (aA ha)
 have hlr:=xK t a ha (hv.parentsOK a)
 have hc:Pure Tryz.prog 192 [t.d,dI t.nodes[a].parent,dI b] (.bool (mem (if 0≤t.nodes[a].parent then t.line t.nodes[a].parent.toNat else []) b)):=by
  by_cases h':0≤t.nodes[a].parent
  ·rw [if_pos h']
   have:=ih t.nodes[a].parent.toNat (by omega) (by omega)
   rwa [Int.toNat_of_nonneg h'] at this
  ·rw [if_neg h',pP]
   exact Ts t _ _ (by omega) hb
 rw [hlr,tP]
 refine Tz.pK ⟨fun _=>false,fun _=>[]⟩ Tryz.func192 rfl (fun Q hQ=>?_)
 have hab:decide ((a:Int)=b)=decide (b=(a:Int)):=by rw [aS];simp;omega
 have Y:=wa (aA ha) ha
 refine wo (h:=eC (fun hg=>hc) (fun hg=>wl) ?_)
 exact wo (h:=hQ _ _ (.inl (by simp only [go_sem,hab,Bool.or_comm])))
theorem Fn (t:Types)(ht:t.ok)(edge a b:Int):Pure Tryz.prog 103 [t.d,dI edge,dI a,dI b] (.bool (j4 t edge a b)):=by
 have hfe:=ht.fewE
 refine Tz.pK ⟨fun _=>false,fun _=>[]⟩ Tryz.func103 rfl (fun Q hQ=>?_)
 have Y:=trivial
 refine wo (h:=aB (Dr t ht a b) wl ?_)
 refine wo (h:=aO (fun hg=>l5 _ _ _) (fun hg=>wl) ?_)
 refine wo (h:=aK (fun h1=>?_) (fun h1=>?_))
 ·skip
  simp [inF] at h1
  exact wv (h:=hQ _ _ (by simp [go_sem,j4];intros;omega))
 ·skip
  simp [inF] at h1
  obtain ⟨hv,hA,hB⟩:=oX h1.1
  have hke:edge.toNat<t.edges.length:=by omega
  have hends:=hv.ends _ (aC hke)
  simp [insideF] at hends
  have hB1:=uT t hv t.edges[edge.toNat].from_ hends.1.1 a.toNat (by omega)
  have hB2:=uT t hv t.edges[edge.toNat].to_ hends.2.1 b.toNat (by omega)
  rw [Int.toNat_of_nonneg hA.1] at hB1
  rw [Int.toNat_of_nonneg hB.1] at hB2
  have Y:=wa Y (aA hke)
  refine wo (h:=aQ (hB1) wl ?_)
  refine wo (h:=eC (fun hg=>hB2) (fun hg=>wl) ?_)
  exact wo (h:=hQ _ _ (by simp [go_sem,j4,h1,aA hke];omega))
attribute [go_sem] Slot.c Test.c Pattern.c Pattern.d Part.c Part.d Stage.c
theorem Cu {P:Program}{f:FuncId}{ty:TypeId}{sz:Nat}(h0:Own P f [.nil] ty sz [])(h1:Own P f [.ne] ty sz []):Own P f [.list []] ty sz []:=by
 refine ⟨h0.1,fun M w vals hM ha=>?_⟩
 obtain ⟨hl,hr⟩:=ha
 match vals,hl with
 | [v],_ =>
  have hv:=hr 0 v _ rfl rfl
  cases hv with
  | listN=>exact h0.2 M w _ hM ⟨rfl,fun j u d hu hd=>by
    match j with
    | 0=>simp at hu hd;subst hu;subst hd;exact .nil
    | j+1=>simp at hu⟩
  | list ad cap sz xs es hc hm=>exact h1.2 M w _ hM ⟨rfl,fun j u d hu hd=>by
    match j with
    | 0=>simp at hu hd;subst hu;subst hd;exact .ne ad cap hm
    | j+1=>simp at hu⟩
theorem OC:Own Tryz.prog 201 [.nil] 3 1 []:=by
 refine Tz.oK ⟨fun t=>t==2||t==5,fun _=>[]⟩ Tryz.func201 rfl (fun Q hQ=>?_)
 have Y:=trivial
 refine wv (h:=?_)
 exact hQ _ _ _ (by simp [go_sem]<;>first|omega|(rw [aS];simp<;>omega)|(simp_all<;>omega)) (by simp [go_sem]<;>first|omega|(rw [aS];simp<;>omega)|(simp_all<;>omega))
theorem OA:Own Tryz.prog 201 [.ne] 3 1 []:=by
 refine Tz.oK ⟨fun t=>t==2||t==5,fun _=>[]⟩ Tryz.func201 rfl (fun Q hQ=>?_)
 have Y:=trivial
 refine wo (h:=?_)
 exact hQ _ _ _ (by simp [go_sem]<;>first|omega|(rw [aS];simp<;>omega)|(simp_all<;>omega)) (by simp [go_sem]<;>first|omega|(rw [aS];simp<;>omega)|(simp_all<;>omega))
theorem OB (l:List Int)(hl:l.length≤1000000)(hne:l≠[]):Own Tryz.prog 201 [.list (l.map cI)] 3 1 (l.map cI):=by
 refine Tz.oK ⟨fun t=>t==2||t==5,fun _=>[]⟩ Tryz.func201 rfl (fun Q hQ=>?_)
 have Y:=hne
 refine wo (h:=?_)
 exact hQ _ _ _ (by simp [go_sem,hne]<;>first|omega|(rw [aS];simp<;>omega)|(simp_all<;>omega)) (by simp [go_sem,hne]<;>first|omega|(rw [aS];simp<;>omega)|(simp_all<;>omega))
theorem kB (l:List Int)(hl:l.length≤1000000):Own Tryz.prog 201 [.list (l.map cI)] 3 1 (l.map cI):=by
 by_cases hne:l=[]
 ·subst hne;exact Cu OC OA
 ·exact OB l hl hne
theorem Oz:Own Tryz.prog 261 [.nil] 9 1 []:=by
 refine Tz.oK ⟨fun t=>t==2||t==5,fun _=>[]⟩ Tryz.func261 rfl (fun Q hQ=>?_)
 have Y:=trivial
 refine wv (h:=?_)
 exact hQ _ _ _ (by simp [go_sem]<;>first|omega|(rw [aS];simp<;>omega)|(simp_all<;>omega)) (by simp [go_sem]<;>first|omega|(rw [aS];simp<;>omega)|(simp_all<;>omega))
theorem Ox:Own Tryz.prog 261 [.ne] 9 1 []:=by
 refine Tz.oK ⟨fun t=>t==2||t==5,fun _=>[]⟩ Tryz.func261 rfl (fun Q hQ=>?_)
 have Y:=trivial
 refine wo (h:=?_)
 exact hQ _ _ _ (by simp [go_sem]<;>first|omega|(rw [aS];simp<;>omega)|(simp_all<;>omega)) (by simp [go_sem]<;>first|omega|(rw [aS];simp<;>omega)|(simp_all<;>omega))
theorem Oy (l:List ByteArray)(hl:l.length≤1000000)(hne:l≠[]):Own Tryz.prog 261 [.list (l.map cS)] 9 1 (l.map cS):=by
 refine Tz.oK ⟨fun t=>t==2||t==5,fun _=>[]⟩ Tryz.func261 rfl (fun Q hQ=>?_)
 have Y:=hne
 refine wo (h:=?_)
 exact hQ _ _ _ (by simp [go_sem,hne]<;>first|omega|(rw [aS];simp<;>omega)|(simp_all<;>omega)) (by simp [go_sem,hne]<;>first|omega|(rw [aS];simp<;>omega)|(simp_all<;>omega))
theorem QR (l:List ByteArray)(hl:l.length≤1000000):Own Tryz.prog 261 [.list (l.map cS)] 9 1 (l.map cS):=by
 by_cases hne:l=[]
 ·subst hne;exact Cu Oz Ox
 ·exact Oy l hl hne
def bI (t:Types)(a:Int):List Attr:=if given2F t a a=0 then t.attrs a.toNat else []
theorem pY (t:Types)(a:Int):givenF t [a]=given2F t a a:=by
 unfold givenF given2F;cases ha:insideF t a<;>simp [ha]
theorem qP {t:Types}{a:Int}(h:given2F t a a=0):t.valid∧0≤a∧a<t.nodes.length:=⟨(oX h).1,(oX h).2.1⟩
theorem oO (t:Types)(ht:t.ok)(a:Int):Pure Tryz.prog 162 [t.d,dI a] (.tup [.list ((bI t a).map Attr.c),dI (given2F t a a)]):=by
 refine Tz.pK ⟨fun _=>false,fun _=>[]⟩ Tryz.func162 rfl (fun Q hQ=>?_)
 have Y:=trivial
 refine wv (h:=aB (wQ t ht [a]) wl ?_)
 refine dO (fun h2=>?_) fun h2=>?_
 ·rw [pY] at h2
  exact wv (h:=hQ _ _ (by simp [go_sem,pY,bI,h2]))
 ·rw [pY] at h2
  obtain ⟨hv,h0,h1⟩:=qP h2
  have hat:=De t ht a.toNat (by omega) (hv.parentsOK _)
  rw [Int.toNat_of_nonneg h0] at hat
  have hok:∀ x∈t.attrs a.toNat,x.ok:=uE t.nodes ht.nodes _ _
  have hl8:=hv.attrs a.toNat (by omega)
  refine wv (h:=lA (hat) wl ?_)
  refine wo (h:=bP (fun i e H=>(e 2=.adr t.c∧e 1=dI a∧e 7=.own 0 (t.attrs a.toNat).length∧e 20=dI (t.attrs a.toNat).length∧e 21=dI i)∧(H.get 0=some ⟨186,4,(t.attrs a.toNat).map Attr.c,false⟩)∧(0<H.next)∧(i≤(t.attrs a.toNat).length)) (fun i=>(t.attrs a.toNat).length - i) 0 ⟨wg,(by (simp [go_sem])),wn,wi⟩ fun I0 hI0 i e H hi0=>?_)
  obtain ⟨E0,g0_0,n0_0,hi⟩:=hi0
  have Y:=wa Y (wa E0 (wa g0_0 (b5 n0_0)))
  refine dO (fun h6=>?_) fun h6=>?_
  ·have hset:((t.attrs a.toNat).map Attr.c).set i (((t.attrs a.toNat).map Attr.c)[i]'(by simpa using h6))=(t.attrs a.toNat).map Attr.c:=List.set_getElem_self _
   simp [go_sem] at hset
   have Y:=wa Y h6
   refine wo (h:=aB ((QR (t.attrs a.toNat)[i].names (by have:=(hok _ (aC h6)).few;omega)).pure) wl ?_)
   exact wo (h:=wx hI0 (i+1) ⟨wg,(by (simp [go_sem,g0_0,hset])),wn,wj⟩)
  ·exact wv (h:=hQ _ _ (by simp [go_sem,g0_0,bI,h2]))
theorem rM (t:Types)(ht:t.ok)(a:Int):Pure Tryz.prog 102 [t.d,dI a] (.tup [.list ((bI t a).map Attr.c),dI (given2F t a a)]):=by
 refine Tz.pK ⟨fun t=>t==7||t==10||t==31||t==1000000,fun _=>[]⟩ Tryz.func102 rfl (fun Q hQ=>?_)
 have Y:=trivial
 refine wv (h:=aB (Dr t ht a a) wl ?_)
 refine dO (fun h2=>?_) fun h2=>?_
 ·exact wv (h:=hQ _ _ (by simp [go_sem,bI,h2]))
 ·obtain ⟨hv,h0,h1⟩:=qP h2
  have hat:=Dt t ht a.toNat (by omega) (hv.parentsOK _)
  rw [Int.toNat_of_nonneg h0] at hat
  have hok:∀ x∈t.attrs a.toNat,x.ok:=uE t.nodes ht.nodes _ _
  have hl8:=hv.attrs a.toNat (by omega)
  refine wv (h:=aB (hat) wl ?_)
  refine wv (h:=bP (fun i e H=>(e 2=.adr t.c∧e 1=dI a∧e 7=.own 0 ((t.attrs a.toNat).take i).length∧e 8=.list ((t.attrs a.toNat).map Attr.c)∧e 9=dI i)∧(H.get 0=some ⟨186,4,((t.attrs a.toNat).take i).map Attr.c,false⟩)∧(0<H.next)∧(i≤(t.attrs a.toNat).length)) (fun i=>(t.attrs a.toNat).length - i) 0 ⟨wg,(by (simp [go_sem])),wn,wi⟩ fun I0 hI0 i e H hi0=>?_)
  obtain ⟨E0,g0_0,n0_0,hi⟩:=hi0
  have Y:=wa Y (wa E0 (wa g0_0 (b5 n0_0)))
  refine fJ (fun h7=>?_) fun h7=>?_
  ·have hts:=aF (l:=(t.attrs a.toNat).map Attr.c) (i:=i) (by simpa using h7)
   simp [go_sem] at hts
   have hfw:=(hok _ (aC h7)).few
   have Y:=wa Y h7
   exact wo (h:=wx hI0 (i+1) ⟨wg,(by (simp [go_sem,g0_0,hts])),wn,wj⟩)
  ·exact wv (h:=hQ _ _ (by simp [go_sem,g0_0,bI,h2,show i=(t.attrs a.toNat).length by omega]))
def iU (t:Types)(a:Int):List Int:=if given2F t a a=0 then ((List.range t.nodes.length).filter fun (b:Nat)=>mem (t.line b) a).map fun (b:Nat)=>(b:Int) else []
theorem cJ (p:Nat→Bool)(i:Nat):((List.range (i+1)).filter p).map (fun (b:Nat)=>(b:Int))=((List.range i).filter p).map (fun (b:Nat)=>(b:Int))++(if p i=true then [(i:Int)] else []):=by
 rw [bJ,fP,List.map_append]
 congr 1
 by_cases h:p i=true<;>simp [h]
theorem KE (t:Types)(ht:t.ok)(a:Int):Pure Tryz.prog 360 [t.d,dI a] (.tup [dLI (iU t a),dI (given2F t a a)]):=by
 refine Tz.pK ⟨fun t=>t==7,fun _=>[]⟩ Tryz.func360 rfl (fun Q hQ=>?_)
 have Y:=trivial
 refine wv (h:=aB (wQ t ht [a]) wl ?_)
 refine dO (fun h2=>?_) fun h2=>?_
 ·rw [pY] at h2
  exact wv (h:=hQ _ _ (by simp [go_sem,pY,iU,h2]))
 ·rw [pY] at h2
  obtain ⟨hv,h0,h1⟩:=qP h2
  have hN:=hv.fewN
  refine wo (h:=bP (fun i e H=>∃ xs:List Int,(e 2=.adr t.c∧e 1=dI a∧e 7=.own 0 xs.length∧e 18=dI t.nodes.length∧e 19=dI i)∧(H.get 0=some ⟨3,1,xs.map cI,false⟩)∧(0<H.next)∧(i≤t.nodes.length)∧(xs.length≤i)∧(xs=((List.range i).filter fun (b:Nat)=>mem (t.line b) a).map (fun (b:Nat)=>(b:Int)))) (fun i=>t.nodes.length - i) 0 ⟨([]),wg,wn,wn,wi,(by simp),(by rfl)⟩ fun I0 hI0 i e H hi0=>?_)
  obtain ⟨xs,E0,g0_0,n0_0,hi,hl,hx⟩:=hi0
  have Y:=wa Y (wa E0 (wa g0_0 (b5 n0_0)))
  refine dO (fun h6=>?_) fun h6=>?_
  ·have Y:=wa Y h6
   refine wv (h:=aB (EE t ht hv i a (by omega) (by omega)) wl ?_)
   refine dO (fun h8=>?_) fun h8=>?_
   ·have Y:=wa Y h8
    exact wo (h:=wx hI0 (i+1) ⟨(xs++(if mem (t.line i) a=true then [(i:Int)] else [])),wg,wn,wn,wj,(by (rw [aI];split<;>simp<;>omega)),(by (rw [cJ,← hx]))⟩)
   ·have Y:=wa Y h8
    exact wo (h:=wx hI0 (i+1) ⟨(xs++(if mem (t.line i) a=true then [(i:Int)] else [])),wg,wn,wn,wj,(by (rw [aI];split<;>simp<;>omega)),(by (rw [cJ,← hx]))⟩)
  ·exact wv (h:=hQ _ _ (by simp [go_sem,g0_0,iU,h2];rw [hx,show i=t.nodes.length by omega];simp))
def eX {α:Type}(f:α→Int):List α→Int
 | []=>0
 | x :: l=>if f x≠0 then f x else eX f l
theorem jD {α:Type}(f:α→Int){l:List α}{i:Nat}(h:i<l.length):eX f (l.drop i)=if f l[i]≠0 then f l[i] else eX f (l.drop (i+1)):=by
 rw [fY h];rfl
theorem kA {α:Type}(f:α→Int){l:List α}{i:Nat}(h:¬ i<l.length):eX f (l.drop i)=0:=by
 rw [fV (by omega)];rfl
def termB (n:Int)(x:Term):Bool:=decide (-1≤x.var)&&decide (x.var<n)&&decide (-1000000≤x.add)&&decide (x.add≤1000000)
theorem vY (n:Int)(x:Term):Pure Tryz.prog 414 [dI n,.agg [dI x.var,dI x.add]] (.bool (termB n x)):=by
 refine Tz.pK ⟨fun _=>false,fun _=>[]⟩ Tryz.func414 rfl (fun Q hQ=>?_)
 have Y:=trivial
 have Y:=wa Y @termB.eq_1
 exact wo (h:=hQ _ _ wy)
def pA (n:Int)(x:Test):Int:=if x.kind≠1∧x.kind≠2 then 1 else if (termB n x.left&&termB n x.right)=true then 0 else 6
theorem Gr (n:Int)(x:Test):Pure Tryz.prog 366 [dI n,.agg x.c] (dI (pA n x)):=by
 refine Tz.pK ⟨fun _=>false,fun _=>[]⟩ Tryz.func366 rfl (fun Q hQ=>?_)
 have Y:=trivial
 refine fJ (fun h1=>?_) fun h1=>?_
 ·exact wv (h:=hQ _ _ (by simp [go_sem,pA];omega))
 ·refine wo (h:=aB (vY n x.left) wl ?_)
  refine wo (h:=aO (fun hg=>vY n x.right) (fun hg=>wl) ?_)
  refine fJ (fun h3=>?_) fun h3=>?_
  ·exact wv (h:=hQ _ _ (by revert h3;cases ha:termB n x.left<;>cases hb:termB n x.right<;>simp [go_sem,pA,ha,hb]<;>omega))
  ·exact wv (h:=hQ _ _ (by revert h3;cases ha:termB n x.left<;>cases hb:termB n x.right<;>simp [go_sem,pA,ha,hb]<;>omega))
def gJ (n:Int)(l:List Test):Int:=if n<0∨12<n then 6 else if 40<l.length then 3 else eX (pA n) l
theorem CU (n:Int)(l:List Test):Pure Tryz.prog 306 [dI n,.list (l.map Test.c)] (dI (gJ n l)):=by
 refine Tz.pK ⟨fun t=>t==6,fun _=>[]⟩ Tryz.func306 rfl (fun Q hQ=>?_)
 have Y:=trivial
 refine fJ (fun h1=>?_) fun h1=>?_
 ·exact wv (h:=hQ _ _ (by simp [go_sem,gJ];omega))
 ·refine fJ (fun h3=>?_) fun h3=>?_
  ·exact wv (h:=hQ _ _ (by simp [go_sem,gJ];omega))
  ·refine wo (h:=bP (fun i e H=>(e 0=dI n∧e 17=.list (l.map Test.c)∧e 18=dI l.length∧e 19=dI i)∧(i≤l.length)∧(eX (pA n) (l.drop i)=gJ n l)) (fun i=>l.length - i) 0 ⟨wg,wi,(by (rw [gJ,if_neg (by omega),if_neg (by omega)];rfl))⟩ fun I0 hI0 i e H hi0=>?_)
   obtain ⟨E0,hi,hF⟩:=hi0
   have Y:=wa Y E0
   refine dO (fun h6=>?_) fun h6=>?_
   ·have hst:=hF
    rw [jD _ h6] at hst
    have Y:=wa Y h6
    refine wo (h:=aB (Gr n l[i]) wl ?_)
    refine fJ (fun h9=>?_) fun h9=>?_
    ·exact wv (h:=hQ _ _ (by rw [if_pos (by simpa using h9)] at hst;simp [go_sem,hst]))
    ·exact wo (h:=wx hI0 (i+1) ⟨wg,wj,(by (rw [if_neg (by simp [h9])] at hst;exact hst))⟩)
   ·exact wv (h:=hQ _ _ (by rw [← hF,kA _ (by omega)];simp [go_sem]))
def wO (n:Int)(x:Term):Int:=if termB n x=true then 0 else 6
theorem A8 (n:Int)(x:Term):Pure Tryz.prog 405 [dI n,.agg [dI x.var,dI x.add]] (dI (wO n x)):=by
 refine Tz.pK ⟨fun _=>false,fun _=>[]⟩ Tryz.func405 rfl (fun Q hQ=>?_)
 have Y:=trivial
 refine fJ (fun h1=>?_) fun h1=>?_
 ·exact wv (h:=hQ _ _ (by simp [go_sem,wO,termB];omega))
 ·exact wv (h:=hQ _ _ (by simp [go_sem,wO,termB];omega))
theorem P9 (n:Int)(x:Test):Pure Tryz.prog 362 [dI n,.agg x.c] (dI (pA n x)):=by
 refine Tz.pK ⟨fun _=>false,fun _=>[]⟩ Tryz.func362 rfl (fun Q hQ=>?_)
 have Y:=trivial
 refine fJ (fun h1=>?_) fun h1=>?_
 ·exact wv (h:=hQ _ _ (by simp [go_sem,pA];omega))
 ·refine wv (h:=aB (A8 n x.left) wl ?_)
  refine dO (fun h4=>?_) fun h4=>?_
  ·exact wv (h:=hQ _ _ (by revert h4;cases ha:termB n x.left<;>simp [go_sem,pA,wO,ha]<;>omega))
  ·refine wv (h:=aB (A8 n x.right) wl ?_)
   exact wv (h:=hQ _ _ (by revert h4;cases ha:termB n x.left<;>cases hb:termB n x.right<;>simp [go_sem,pA,wO,ha,hb]<;>omega))
theorem Lz (n:Int)(l:List Test):Pure Tryz.prog 294 [dI n,.list (l.map Test.c)] (dI (gJ n l)):=by
 refine Tz.pK ⟨fun _=>false,fun _=>[]⟩ Tryz.func294 rfl (fun Q hQ=>?_)
 have Y:=trivial
 refine fJ (fun h1=>?_) fun h1=>?_
 ·exact wv (h:=hQ _ _ (by simp [go_sem,gJ];omega))
 ·refine fJ (fun h3=>?_) fun h3=>?_
  ·exact wv (h:=hQ _ _ (by simp [go_sem,gJ];omega))
  ·refine wv (h:=bP (fun i e H=>(e 0=dI n∧e 1=.list (l.map Test.c)∧e 5=dI i)∧(i≤l.length)∧(eX (pA n) (l.drop i)=gJ n l)) (fun i=>l.length - i) 0 ⟨wg,wi,(by (rw [gJ,if_neg (by omega),if_neg (by omega)];rfl))⟩ fun I0 hI0 i e H hi0=>?_)
   obtain ⟨E0,hi,hF⟩:=hi0
   have Y:=wa Y E0
   refine fJ (fun h6=>?_) fun h6=>?_
   ·have hst:=hF
    rw [jD _ h6] at hst
    have Y:=wa Y h6
    refine wo (h:=aB (P9 n l[i]) wl ?_)
    refine fJ (fun h9=>?_) fun h9=>?_
    ·exact wv (h:=hQ _ _ (by rw [if_pos (by simpa using h9)] at hst;simp [go_sem,hst]))
    ·exact wo (h:=wx hI0 (i+1) ⟨wg,wj,(by (rw [if_neg (by simp [h9])] at hst;exact hst))⟩)
   ·exact wv (h:=hQ _ _ (by rw [← hF,kA _ (by omega)];simp [go_sem]))
theorem iK (n low high:Int):Pure Tryz.prog 304 [dI n,dI low,dI high] (.bool (inF n low high)):=by
 refine Tz.pK ⟨fun _=>false,fun _=>[]⟩ Tryz.func304 rfl (fun Q hQ=>?_)
 have Y:=trivial
 have Y:=wa Y @inF.eq_1
 exact wo (h:=hQ _ _ wy)
def mQ:Attr:=⟨⟨#[]⟩,0,0,[]⟩
def Pattern.kind (p:Pattern)(node:Int):Int:=p.graph.nodes[node.toNat]?.getD 0
def kJ (t:Types)(p:Pattern)(node attr:Int):Bool:=decide (0≤node)&&decide (node<p.graph.nodes.length)&&(decide (0≤attr)&&decide (attr<(bI t (p.kind node)).length))
def DW (t:Types)(p:Pattern)(node attr:Int):Attr:=if kJ t p node attr=true then (bI t (p.kind node))[attr.toNat]?.getD mQ else mQ
theorem qW {t:Types}(ht:t.ok)(a:Int):(bI t a).length≤8:=by
 unfold bI
 split
 ·rename_i h
  obtain ⟨hv,h0,h1⟩:=qP h
  exact hv.attrs _ (by omega)
 ·simp
theorem GQ (t:Types)(ht:t.ok)(p:Pattern)(hp:p.graph.nodes.length≤1000)(s:Slot):Pure Tryz.prog 305 [t.d,p.d,.agg s.c] (.tup [.agg (DW t p s.node s.attr).c,.bool (kJ t p s.node s.attr)]):=by
 have h8:=qW ht (p.kind s.node)
 refine Tz.pK ⟨fun t=>t==6,fun _=>[]⟩ Tryz.func305 rfl (fun Q hQ=>?_)
 have Y:=trivial
 refine wo (h:=aB (iK _ _ _) wl ?_)
 refine fJ (fun h1=>?_) fun h1=>?_
 ·simp [inF] at h1
  have hB:kJ t p s.node s.attr=false:=by rw [bX];intro h;simp [kJ] at h;omega
  exact wv (h:=hQ _ _ (by simp [go_sem,DW,hB,mQ]))
 ·simp [inF] at h1
  have hn:s.node.toNat<p.graph.nodes.length:=by omega
  have hk:p.kind s.node=p.graph.nodes[s.node.toNat]:=by simp [Pattern.kind,hn]
  rw [hk] at h8
  have Y:=wa Y (wa (aA hn) hk)
  refine wo (h:=aQ (oO t ht p.graph.nodes[s.node.toNat]) wl ?_)
  refine wo (h:=aB (iK _ _ _) wl ?_)
  refine fJ (fun h4=>?_) fun h4=>?_
  ·simp [inF] at h4
   have hB:kJ t p s.node s.attr=false:=by rw [bX];intro h;simp [kJ,hk] at h;omega
   exact wv (h:=hQ _ _ (by simp [go_sem,DW,hB,mQ]))
  ·simp [inF] at h4
   have ha:s.attr.toNat<(bI t p.graph.nodes[s.node.toNat]).length:=by omega
   have hB:kJ t p s.node s.attr=true:=by simp [kJ,hk];omega
   have Y:=wa Y (aA ha)
   exact wo (h:=hQ _ _ (by simp [go_sem,DW,hB,hk,aA ha]))
def cB (b:Bool):List D:=[.bool b]
@[go_sem] theorem Xi (l:List Bool):D.clLL (l.map cB)=true:=c4 cB (fun _=>rfl) l
attribute [go_sem] cB
theorem Oa (xs:List Bool)(v:Bool):Pure Tryz.prog 199 [.list (xs.map cB),.bool v] (dI (Ks xs v)):=by
 refine Tz.pK ⟨fun _=>false,fun _=>[]⟩ Tryz.func199 rfl (fun Q hQ=>?_)
 have Y:=trivial
 refine wv (h:=?_)
 repeat first|intro _|refine ⟨fF,?_⟩
 refine bP (fun i e H=>(e 0=.list (xs.map cB)∧e 1=.bool v∧e 7=dI xs.length∧e 8=dI i)∧(i≤xs.length)∧(∀ j,j<i→xs[j]?≠some v)) (fun i=>xs.length - i) 0 ⟨wg,wi,(by intro j hj;omega)⟩ fun I0 hI0 i e H hi0=>?_
 obtain ⟨E0,hi,hne⟩:=hi0
 have Y:=wa Y E0
 refine dO (fun h2=>?_) fun h2=>?_
 ·have Y:=wa Y h2
  refine wv (h:=?_)
  repeat first|intro _|refine ⟨fF,?_⟩
  refine wq (fun h4=>?_) fun h4=>?_
  ·exact wv (h:=hQ _ _ (by rw [tU hne (by rw [aA h2,h4])];simp [go_sem]))
  ·refine wv (h:=?_)
   repeat first|intro _|refine ⟨fF,?_⟩
   exact wx hI0 (i+1) ⟨wg,wj,(by (exact lD hne (by rw [aA h2];simpa using fun h=>h4 h.symm)))⟩
 ·exact wv (h:=hQ _ _ (by rw [Bx fun j hj=>hne j (by omega)];simp [go_sem]))
theorem Hz (xs:List Bool)(v:Bool):Pure Tryz.prog 114 [.list (xs.map cB),.bool v] (.bool (mem xs v)):=by
 refine Tz.pK ⟨fun _=>false,fun _=>[]⟩ Tryz.func114 rfl (fun Q hQ=>?_)
 have Y:=trivial
 refine wv (h:=aB (Oa xs v) wl ?_)
 have Y:=wa Y @mem.eq_1
 exact wv (h:=hQ _ _ wy)
def dP (t:Types)(g:Graph):Bool:=(!(g.nodes.any fun n=>decide ((t.nodes.length:Int)≤n)))&&!(g.edges.any fun x=>decide ((t.edges.length:Int)≤x.type))
theorem C4 (t:Types)(a:Int):Pure Tryz.prog 302 [dI a,.adr t.c] (.bool (decide ((t.nodes.length:Int)≤a))):=by
 refine Tz.pK ⟨fun _=>false,fun _=>[]⟩ Tryz.func302 rfl (fun Q hQ=>?_)
 have Y:=trivial
 exact wo (h:=hQ _ _ wy)
theorem C3 (t:Types)(x:Edge):Pure Tryz.prog 303 [.agg x.c,.adr t.c] (.bool (decide ((t.edges.length:Int)≤x.type))):=by
 refine Tz.pK ⟨fun _=>false,fun _=>[]⟩ Tryz.func303 rfl (fun Q hQ=>?_)
 have Y:=trivial
 exact wo (h:=hQ _ _ wy)
def iR (n:Nat)(l:List Slot):List Bool:=(List.range n).map fun (v:Nat)=>l.any fun s=>decide (s.term.var=v)
theorem c9 (n:Nat)(l:List Slot):(iR n l).length=n:=by simp [iR]
theorem PN (n:Nat):iR n []=List.replicate n false:=by
 apply dJ (by simp [iR]);intro i h1 h2;simp [iR]
theorem PM (n:Nat)(l:List Slot)(s:Slot)(h0:0≤s.term.var)(h1:s.term.var<n):iR n (l++[s])=(iR n l).set s.term.var.toNat true:=by
 apply dJ (by simp [iR]);intro i h2 h3
 rw [rB]
 simp only [iR,jG,kQ,s7,List.any_cons,List.any_nil,mM]
 split
 ·rename_i h;rw [cG];right;simp;omega
 ·rename_i h;rw [show decide (s.term.var=(i:Int))=false by simp;omega,mM]
theorem PO (n:Nat)(l:List Slot)(s:Slot)(h0:¬ 0≤s.term.var):iR n (l++[s])=iR n l:=by
 apply dJ (by simp [iR]);intro i h2 h3
 simp only [iR,jG,kQ,s7,List.any_cons,List.any_nil,mM]
 rw [show decide (s.term.var=(i:Int))=false by simp;omega,mM]
theorem Na (n:Nat)(l:List Slot)(s:Slot)(h1:s.term.var<n):iR n (l++[s])=if 0≤s.term.var then (iR n l).set s.term.var.toNat true else iR n l:=by
 split
 ·exact PM n l s ‹_› h1
 ·exact PO n l s ‹_›
def fZ (t:Types)(p:Pattern)(s:Slot):Int:=if (kJ t p s.node s.attr&&inF s.term.var (-1) (p.vars - 1)&&inF s.term.add (-1000000) 1000000)=true then 0 else 6
def bN (t:Types)(p:Pattern):Int :=
 if (b9 t).2≠0 then (b9 t).2
 else if graphF p.graph≠0 then graphF p.graph
 else if dP t p.graph=false then 13
 else if inF p.vars 0 12=false then 6
 else if 10<p.slots.length∨10<p.tests.length then 3
 else if eX (fZ t p) p.slots≠0 then 6
 else if gJ p.vars p.tests≠0 then gJ p.vars p.tests
 else if mem (iR p.vars.toNat p.slots) false=true then 9 else 0
theorem cC {g:Graph}(h:graphF g=0):g.nodes.length≤40∧g.edges.length≤80:=by
 unfold graphF at h
 split at h
 ·cases h
 ·omega
theorem Ro {t:Types}{p:Pattern}{s:Slot}(h:fZ t p s=0):s.term.var<p.vars∧-1≤s.term.var:=by
 unfold fZ at h
 split at h
 ·rename_i h1;simp [inF] at h1;omega
 ·cases h
theorem l8 (t:Types)(ht:t.ok)(p:Pattern):Pure Tryz.prog 214 [t.d,p.d] (dI (bN t p)):=by
 refine Tz.pK ⟨fun t=>t==10||t==11,fun _=>[]⟩ Tryz.func214 rfl (fun Q hQ=>?_)
 try simp [go_sem,seval]
 refine aB (mE t ht) ((by first|rfl|(simp [go_sem,← List.map_take,← List.map_drop];done))) ?_
 try simp [go_sem,seval]
 refine aK (fun h2=>?_) (fun h2=>?_)
 ·try simp [go_sem] at h2
  try simp [go_sem,seval]
  exact hQ _ _ (by first|(left;(simp [go_sem,bN,h2]);done)|(right;(simp [go_sem,bN,h2]);done))
 ·try simp [go_sem] at h2
  try simp [go_sem,seval]
  refine aB (k8 p.graph) ((by first|rfl|(simp [go_sem,← List.map_take,← List.map_drop];done))) ?_
  try simp [go_sem,seval]
  refine aK (fun h5=>?_) (fun h5=>?_)
  ·try simp [go_sem] at h5
   try simp [go_sem,seval]
   exact hQ _ _ (by first|(left;(simp [go_sem,bN,h2,h5]);done)|(right;(simp [go_sem,bN,h2,h5]);done))
  ·try simp [go_sem] at h5
   have hg:=cC h5
   try simp [go_sem,seval]
   repeat first|intro _|refine ⟨fF,?_⟩
   refine aB (fB p.graph.nodes 302 [.adr t.c] (fun a=>decide ((t.nodes.length:Int)≤a)) (by simp [go_sem]) (by simp [go_sem]) (fun a _=>C4 t a)) ((by first|rfl|(simp [go_sem,← List.map_take,← List.map_drop];done))) ?_
   try simp [go_sem,seval]
   repeat first|intro _|refine ⟨fF,?_⟩
   refine aO (fun hg=>jY p.graph.edges 303 [.adr t.c] (fun x=>decide ((t.edges.length:Int)≤x.type)) (by simp [go_sem]) (by simp [go_sem]) (fun x _=>C3 t x)) (fun hg=>(by first|rfl|(simp [go_sem,← List.map_take,← List.map_drop];done))) ?_
   try simp [go_sem,seval]
   repeat first|intro _|refine ⟨fF,?_⟩
   refine aK (fun h7=>?_) (fun h7=>?_)
   ·try simp [go_sem] at h7
    have hT:dP t p.graph=false:=by
     simp [dP]
     intro h'
     rcases h7 with ⟨x,hx,hl⟩|h
     ·exact absurd (h' x hx) (by omega)
     ·exact h
    try simp [go_sem,seval]
    exact hQ _ _ (by first|(left;(simp [go_sem,bN,h2,h5,hT]);done)|(right;(simp [go_sem,bN,h2,h5,hT]);done))
   ·try simp [go_sem] at h7
    have hT:dP t p.graph=true:=by simp [dP];exact h7
    try simp [go_sem,seval]
    repeat first|intro _|refine ⟨fF,?_⟩
    refine aB (iK _ _ _) ((by first|rfl|(simp [go_sem,← List.map_take,← List.map_drop];done))) ?_
    try simp [go_sem,seval]
    repeat first|intro _|refine ⟨fF,?_⟩
    refine aK (fun h9=>?_) (fun h9=>?_)
    ·try simp [go_sem] at h9
     try simp [go_sem,seval]
     exact hQ _ _ (by first|(left;(simp [go_sem,bN,h2,h5,hT,h9]);done)|(right;(simp [go_sem,bN,h2,h5,hT,h9]);done))
    ·try simp [go_sem] at h9
     try simp [go_sem,seval]
     repeat first|intro _|refine ⟨fF,?_⟩
     refine aK (fun h11=>?_) (fun h11=>?_)
     ·try simp [go_sem] at h11
      try simp [go_sem,seval]
      exact hQ _ _ (by first|(left;(simp [go_sem,bN,h2,h5,hT,h9];omega);done)|(right;(simp [go_sem,bN,h2,h5,hT,h9];omega);done))
     ·try simp [go_sem] at h11
      have hin:=h9
      simp [inF] at hin
      have hF0:bN t p=if eX (fZ t p) p.slots≠0 then 6 else if gJ p.vars p.tests≠0 then gJ p.vars p.tests else if mem (iR p.vars.toNat p.slots) false=true then 9 else 0:=by
       unfold bN
       rw [if_neg (by simp [h2]),if_neg (by simp [h5]),if_neg (by simp [hT]),if_neg (by simp [h9]),if_neg (by omega)]
      try simp [go_sem,seval]
      repeat first|intro _|refine ⟨fF,?_⟩
      obtain ⟨I0,hI0⟩:∃ I0:Nat→cX→AHeap→Prop,∀ (i:Nat) (e:cX) (H:AHeap),I0 i e H↔((e 2=.adr t.c)∧(e 3=.adr p.c)∧(e 8=.own 0 p.vars.toNat)∧(e 58=.list (p.slots.map Slot.c))∧(e 59=dI p.slots.length)∧(e 60=dI i)∧(H.get 0=some ⟨4,1,(iR p.vars.toNat (p.slots.take i)).map cB,false⟩)∧(0<H.next)∧(i≤p.slots.length)∧(eX (fZ t p) (p.slots.drop i)=eX (fZ t p) p.slots)):=⟨fun i e H=>_,fun _ _ _=>Iff.rfl⟩
      refine k6 I0 (fun i=>p.slots.length - i) (0) ((hI0 _ _ _).2 ⟨?_,?_,?_,?_,?_,?_,(by (simp [go_sem,PN])),?_,(by first|assumption|omega|(simp [go_sem];done)|(simp_all;done)),(by rfl)⟩) ?_
      iterate 7 (first|omega|(simp [go_sem,seval]<;>omega))
      intro i e H hi0
      obtain ⟨q2_0,q3_0,q8_0,q58_0,q59_0,q60_0,g0_0,n0_0,hi,hL⟩:=(hI0 _ _ _).1 hi0
      have x0:=b5 n0_0
      have F0:=And.intro q2_0 (And.intro q3_0 (And.intro q8_0 (And.intro q58_0 (And.intro q59_0 (And.intro q60_0 x0)))))
      try simp [go_sem,seval,F0,g0_0,c9]
      refine aK (fun h15=>?_) (fun h15=>?_)
      ·try simp [go_sem] at h15
       have hst:=jD (fZ t p) h15
       have hts:=aF h15
       try simp [go_sem,seval,F0,g0_0,c9,h15]
       repeat first|intro _|refine ⟨fF,?_⟩
       refine aB (GQ t ht p (by omega) p.slots[i]) ((by first|rfl|(simp [go_sem,← List.map_take,← List.map_drop,F0,g0_0,c9,h15];done))) ?_
       try simp [go_sem,seval,F0,g0_0,c9,h15]
       repeat first|intro _|refine ⟨fF,?_⟩
       refine aO (fun hg=>iK _ _ _) (fun hg=>(by first|rfl|(simp [go_sem,← List.map_take,← List.map_drop,F0,g0_0,c9,h15];done))) ?_
       try simp [go_sem,seval,F0,g0_0,c9,h15]
       repeat first|intro _|refine ⟨fF,?_⟩
       refine aO (fun hg=>iK _ _ _) (fun hg=>(by first|rfl|(simp [go_sem,← List.map_take,← List.map_drop,F0,g0_0,c9,h15];done))) ?_
       try simp [go_sem,seval,F0,g0_0,c9,h15]
       repeat first|intro _|refine ⟨fF,?_⟩
       refine aK (fun h18=>?_) (fun h18=>?_)
       ·skip
        have hs6:fZ t p p.slots[i]=6:=by unfold fZ;rw [if_neg];revert h18;cases kJ t p p.slots[i].node p.slots[i].attr<;>cases inF p.slots[i].term.var (-1) (p.vars - 1)<;>cases inF p.slots[i].term.add (-1000000) 1000000<;>simp
        rw [hs6,if_pos (by simp),hL] at hst
        try simp [go_sem,seval,F0,g0_0,c9,h15]
        exact hQ _ _ (by first|(left;(simp [go_sem,hF0,hst]);done)|(right;(simp [go_sem,hF0,hst]);done))
       ·skip
        have hs0:fZ t p p.slots[i]=0:=by unfold fZ;rw [if_pos];revert h18;cases kJ t p p.slots[i].node p.slots[i].attr<;>cases inF p.slots[i].term.var (-1) (p.vars - 1)<;>cases inF p.slots[i].term.add (-1000000) 1000000<;>simp
        rw [hs0,if_neg (by simp),hL] at hst
        have hlt:=Ro hs0
        have hus:=Na p.vars.toNat (p.slots.take i) p.slots[i] (by omega)
        try simp [go_sem,seval,F0,g0_0,c9,h15]
        refine aK (fun h20=>?_) (fun h20=>?_)
        ·try simp [go_sem] at h20
         have hfin:iR p.vars.toNat (p.slots.take (i+1))=(iR p.vars.toNat (p.slots.take i)).set p.slots[i].term.var.toNat true:=by rw [hts,hus,if_pos (by omega)]
         have hvl:p.slots[i].term.var.toNat<(iR p.vars.toNat (p.slots.take i)).length:=by rw [c9];omega
         try simp [go_sem,seval,F0,g0_0,c9,h15,aA hvl]
         repeat first|intro _|refine ⟨fF,?_⟩
         refine cT (i+1) (by omega) ((hI0 _ _ _).2 ⟨?_,?_,?_,?_,?_,?_,(by (simp [go_sem,F0,g0_0,c9,h15,aA hvl,dR,hfin])),?_,(by first|assumption|omega|(simp [go_sem,F0,g0_0,c9,h15,aA hvl,h2,h5,h7,h9,h11,h18,h20];done)|(simp_all<;>omega)),(by (exact hst.symm))⟩)<;>first|omega|(simp [go_sem,seval,F0,g0_0,c9,h15,aA hvl]<;>omega)
        ·try simp [go_sem] at h20
         have hfin:iR p.vars.toNat (p.slots.take (i+1))=iR p.vars.toNat (p.slots.take i):=by rw [hts,hus,if_neg (by omega)]
         try simp [go_sem,seval,F0,g0_0,c9,h15]
         repeat first|intro _|refine ⟨fF,?_⟩
         refine cT (i+1) (by omega) ((hI0 _ _ _).2 ⟨?_,?_,?_,?_,?_,?_,(by (simp [go_sem,F0,g0_0,c9,h15,dR,hfin])),?_,(by first|assumption|omega|(simp [go_sem,F0,g0_0,c9,h15,h2,h5,h7,h9,h11,h18,h20];done)|(simp_all<;>omega)),(by (exact hst.symm))⟩)<;>first|omega|(simp [go_sem,seval,F0,g0_0,c9,h15]<;>omega)
      ·try simp [go_sem] at h15
       have hU:List.take i p.slots=p.slots:=aP (by omega)
       have hz:eX (fZ t p) p.slots=0:=by rw [← hL,kA _ (by omega)]
       rw [hU] at g0_0
       rw [if_neg (by simp [hz])] at hF0
       try simp [go_sem,seval,F0,g0_0,c9]
       refine aB (CU p.vars p.tests) ((by first|rfl|(simp [go_sem,← List.map_take,← List.map_drop,F0,g0_0,c9];done))) ?_
       try simp [go_sem,seval,F0,g0_0,c9]
       refine aK (fun h24=>?_) (fun h24=>?_)
       ·try simp [go_sem] at h24
        try simp [go_sem,seval,F0,g0_0,c9]
        exact hQ _ _ (by first|(left;(rw [hF0,if_pos (by simpa using h24)];simp [go_sem]);done)|(right;(rw [hF0,if_pos (by simpa using h24)];simp [go_sem]);done))
       ·try simp [go_sem] at h24
        try simp [go_sem,seval,F0,g0_0,c9]
        refine gK (Hz (iR p.vars.toNat p.slots) false) (by simp [E8,Cn,fD,go_sem,← List.map_take,← List.map_drop,F0,g0_0,c9]) ((by first|rfl|(simp [go_sem,← List.map_take,← List.map_drop,F0,g0_0,c9];done))) ( rfl) ?_
        try simp [go_sem,seval,F0,g0_0,c9]
        refine aK (fun o7=>?_) (fun o7=>?_)
        ·try simp [go_sem] at o7
         try simp [go_sem,seval,F0,g0_0,c9]
         exact hQ _ _ (by first|(left;(rw [hF0,if_neg (by simpa using h24),if_pos o7];simp [go_sem]);done)|(right;(rw [hF0,if_neg (by simpa using h24),if_pos o7];simp [go_sem]);done))
        ·try simp [go_sem] at o7
         try simp [go_sem,seval,F0,g0_0,c9]
         exact hQ _ _ (by first|(left;(rw [hF0,if_neg (by simpa using h24),if_neg (by simp [o7])];simp [go_sem]);done)|(right;(rw [hF0,if_neg (by simpa using h24),if_neg (by simp [o7])];simp [go_sem]);done))
def mG (t:Types)(x:Edge):Bool:=decide (0≤x.type)&&decide (x.type<t.edges.length)
def kF (t:Types)(g:Graph):Bool:=(!(g.nodes.any fun a=>!insideF t a))&&!(g.edges.any fun x=>!mG t x)
theorem oG {α:Type}{l:List α}{p:α→Bool}{i:Nat}(h:(l.take i).any p=false)(he:l.length≤i):l.any p=false:=by
 rw [aP he] at h;exact h
theorem wY (t:Types)(g:Graph):Pure Tryz.prog 291 [t.d,g.d] (.bool (kF t g)):=by
 refine Tz.pK ⟨fun _=>false,fun _=>[]⟩ Tryz.func291 rfl (fun Q hQ=>?_)
 have Y:=trivial
 refine wv (h:=bP (fun i e H=>(e 2=.adr t.c∧e 3=.adr g.c∧e 5=dI i)∧(i≤g.nodes.length)∧(((g.nodes.take i).any fun a=>!insideF t a)=false)) (fun i=>g.nodes.length - i) 0 ⟨wg,wi,(by rfl)⟩ fun I0 hI0 i e H hi0=>?_)
 obtain ⟨E0,hi,ha⟩:=hi0
 have Y:=wa Y E0
 refine wv (h:=?_)
 repeat first|intro _|refine ⟨fF,?_⟩
 refine wq (fun h2=>?_) fun h2=>?_
 ·have Y:=wa Y h2
  refine wv (h:=?_)
  repeat first|intro _|refine ⟨fF,?_⟩
  refine wq (fun h4=>?_) fun h4=>?_
  ·refine wv (h:=?_)
   have hb:(g.nodes.any fun a=>!insideF t a)=true:=aX.2 ⟨_,aC h2,by simp [insideF];omega⟩
   exact hQ _ _ (.inl (by simp only [go_sem,kF,hb,Bool.not_true,Bool.false_and]))
  ·exact wo (h:=wx hI0 (i+1) ⟨wg,wj,(by (rw [dK _ _ _ h2,ha];simp [insideF];omega))⟩)
 ·have hN:=oG ha h2
  refine wv (h:=bP (fun k e H=>(e 2=.adr t.c∧e 3=.adr g.c∧e 6=dI k)∧(k≤g.edges.length)∧(((g.edges.take k).any fun x=>!mG t x)=false)) (fun k=>g.edges.length - k) 0 ⟨wg,wi,(by rfl)⟩ fun I2 hI2 k e H hi2=>?_)
  obtain ⟨E2,hk,hb⟩:=hi2
  have Y:=wa Y E2
  refine wv (h:=?_)
  repeat first|intro _|refine ⟨fF,?_⟩
  refine wq (fun h7=>?_) fun h7=>?_
  ·have Y:=wa Y h7
   refine wv (h:=?_)
   repeat first|intro _|refine ⟨fF,?_⟩
   refine wq (fun h9=>?_) fun h9=>?_
   ·refine wv (h:=?_)
    have hb':(g.edges.any fun x=>!mG t x)=true:=aX.2 ⟨_,aC h7,by simp [mG];omega⟩
    exact hQ _ _ (.inl (by simp only [go_sem,kF,hb',Bool.not_true,Bool.and_false]))
   ·exact wo (h:=wx hI2 (k+1) ⟨wg,wj,(by (rw [dK _ _ _ h7,hb];simp [mG];omega))⟩)
  ·refine wv (h:=?_)
   have hE:=oG hb h7
   exact hQ _ _ (.inl (by simp only [go_sem,kF,hN,hE,Bool.not_false,Bool.and_true]))
theorem IW {α:Type}{l:List α}{p q:α→Bool}(h:∀ x∈l,p x=q x):l.any p=l.any q:=by
 induction l with
 | nil=>rfl
 | cons a l ih=>simp only [List.any_cons,h a (by simp),ih fun x hx=>h x (by simp [hx])]
theorem dL {g:Graph}(h:graphF g=0):(∀ a∈g.nodes,0≤a∧a≤99)∧∀ x∈g.edges,(0≤x.type∧x.type≤99)∧(0≤x.from_∧x.from_<g.nodes.length)∧(0≤x.to_∧x.to_<g.nodes.length):=by
 unfold graphF at h
 split at h
 ·cases h
 ·split at h
  ·cases h
  ·rename_i h1
   split at h
   ·cases h
   ·rename_i h2
    simp [gF,r9] at h1 h2
    refine ⟨h1,fun x hx=>?_⟩
    have:=h2 x hx
    omega
theorem uL {t:Types}{g:Graph}(h:graphF g=0):kF t g=dP t g:=by
 obtain ⟨h1,h2⟩:=dL h
 unfold kF dP
 congr 2
 ·exact IW fun x hx=>by have:=h1 x hx;rw [aS];simp [insideF];omega
 ·exact IW fun x hx=>by have:=h2 x hx;rw [aS];simp [mG];omega
theorem Hl (n:Int):Pure Tryz.prog 293 [dI n] (.bool (inF n (-1000000) 1000000)):=by
 refine Tz.pK ⟨fun _=>false,fun _=>[]⟩ Tryz.func293 rfl (fun Q hQ=>?_)
 have Y:=trivial
 have Y:=wa Y @inF.eq_1
 exact wo (h:=hQ _ _ wy)
theorem ON {t:Types}{a:Int}(h:¬ given2F t a a=0):bI t a=[]:=by unfold bI;rw [if_neg h]
theorem NI (t:Types)(ht:t.ok)(p:Pattern)(node attr:Int):Pure Tryz.prog 292 [t.d,p.d,dI node,dI attr] (.tup [.agg (DW t p node attr).c,.bool (kJ t p node attr)]):=by
 have h8:=qW ht (p.kind node)
 refine Tz.pK ⟨fun t=>t==8,fun _=>[]⟩ Tryz.func292 rfl (fun Q hQ=>?_)
 have Y:=trivial
 refine fJ (fun h1=>?_) fun h1=>?_
 ·have hB:kJ t p node attr=false:=by rw [bX];intro h;simp [kJ] at h;omega
  exact wv (h:=hQ _ _ (by simp [go_sem,DW,hB,mQ]))
 ·have hn:node.toNat<p.graph.nodes.length:=by omega
  have hk:p.kind node=p.graph.nodes[node.toNat]:=by simp [Pattern.kind,hn]
  rw [hk] at h8
  have Y:=wa Y (wa (aA hn) hk)
  refine wo (h:=aQ (rM t ht p.graph.nodes[node.toNat]) wl ?_)
  refine fJ (fun h4=>?_) fun h4=>?_
  ·have hB:kJ t p node attr=false:=by
    rw [bX];intro h;simp [kJ,hk] at h
    by_cases hg:given2F t p.graph.nodes[node.toNat] p.graph.nodes[node.toNat]=0
    ·omega
    ·rw [ON hg] at h;simp at h;omega
   exact wv (h:=hQ _ _ (by simp [go_sem,DW,hB,mQ]))
  ·have ha:attr.toNat<(bI t p.graph.nodes[node.toNat]).length:=by omega
   have hB:kJ t p node attr=true:=by simp [kJ,hk];omega
   have Y:=wa Y (aA ha)
   exact wo (h:=hQ _ _ (by simp [go_sem,DW,hB,hk,aA ha]))
def gP (p:Pattern)(v:Int):Bool:=p.slots.any fun s=>decide (s.term.var=v)
theorem JD (p:Pattern)(v:Int):Pure Tryz.prog 295 [p.d,dI v] (.bool (gP p v)):=by
 refine Tz.pK ⟨fun _=>false,fun _=>[]⟩ Tryz.func295 rfl (fun Q hQ=>?_)
 have Y:=trivial
 refine wv (h:=bP (fun i e H=>(e 2=.adr p.c∧e 1=dI v∧e 5=dI i)∧(i≤p.slots.length)∧(((p.slots.take i).any fun s=>decide (s.term.var=v))=false)) (fun i=>p.slots.length - i) 0 ⟨wg,wi,(by rfl)⟩ fun I0 hI0 i e H hi0=>?_)
 obtain ⟨E0,hi,ha⟩:=hi0
 have Y:=wa Y E0
 refine wv (h:=?_)
 repeat first|intro _|refine ⟨fF,?_⟩
 refine wq (fun h2=>?_) fun h2=>?_
 ·have Y:=wa Y h2
  refine wv (h:=?_)
  repeat first|intro _|refine ⟨fF,?_⟩
  refine wq (fun h4=>?_) fun h4=>?_
  ·refine wv (h:=?_)
   have hb:gP p v=true:=aX.2 ⟨_,aC h2,by simpa using h4⟩
   exact hQ _ _ (.inl (by simp only [go_sem,hb]))
  ·exact wo (h:=wx hI0 (i+1) ⟨wg,wj,(by (rw [dK _ _ _ h2,ha];simpa using h4))⟩)
 ·refine wv (h:=?_)
  have hb:gP p v=false:=oG ha h2
  exact hQ _ _ (.inl (by simp only [go_sem,hb]))
theorem Ca (p:Pattern)(n:Nat):mem (iR n p.slots) false=true↔∃ v:Nat,v<n∧gP p v=false:=by
 rw [dA]
 simp only [iR,aT,bK,gP]
theorem Dn (t:Types)(ht:t.ok)(p:Pattern):Pure Tryz.prog 209 [t.d,p.d] (dI (bN t p)):=by
 refine Tz.pK ⟨fun t=>t==9||t==10,fun _=>[]⟩ Tryz.func209 rfl (fun Q hQ=>?_)
 have Y:=trivial
 refine wv (h:=aB (xA t ht) wl ?_)
 refine dO (fun h2=>?_) fun h2=>?_
 ·exact wv (h:=hQ _ _ (by simp [go_sem,bN,h2]))
 ·refine wv (h:=aB (kX p.graph) wl ?_)
  refine dO (fun h5=>?_) fun h5=>?_
  ·exact wv (h:=hQ _ _ (by simp [go_sem,bN,h2,h5]))
  ·refine wo (h:=aB (wY t p.graph) wl ?_)
   refine fJ (fun h7=>?_) fun h7=>?_
   ·rw [uL h5] at h7
    exact wv (h:=hQ _ _ (by simp [go_sem,bN,h2,h5,h7]))
   ·rw [uL h5] at h7
    refine fJ (fun h9=>?_) fun h9=>?_
    ·exact wv (h:=hQ _ _ (by simp [go_sem,bN,h2,h5,h7,inF];omega))
    ·refine fJ (fun h11=>?_) fun h11=>?_
     ·exact wv (h:=hQ _ _ (by simp [go_sem,bN,h2,h5,h7,inF];omega))
     ·have hF0:bN t p=if eX (fZ t p) p.slots≠0 then 6 else if gJ p.vars p.tests≠0 then gJ p.vars p.tests else if mem (iR p.vars.toNat p.slots) false=true then 9 else 0:=by
       unfold bN
       rw [if_neg (by simp [h2]),if_neg (by simp [h5]),if_neg (by simp [h7]),if_neg (by simp [inF];omega),if_neg (by omega)]
      refine wv (h:=bP (fun i e H=>(e 2=.adr t.c∧e 3=.adr p.c∧e 8=dI i)∧(i≤p.slots.length)∧(eX (fZ t p) (p.slots.drop i)=eX (fZ t p) p.slots)) (fun i=>p.slots.length - i) 0 ⟨wg,wi,(by rfl)⟩ fun I0 hI0 i e H hi0=>?_)
      obtain ⟨E0,hi,hL⟩:=hi0
      have Y:=wa Y E0
      refine fJ (fun h14=>?_) fun h14=>?_
      ·have hst:=jD (fZ t p) h14
       have Y:=wa Y h14
       refine wo (h:=aB (NI t ht p p.slots[i].node p.slots[i].attr) wl ?_)
       refine wo (h:=aO (fun hg=>Hl _) (fun hg=>wl) ?_)
       refine wo (h:=aK (fun h18=>?_) (fun h18=>?_))
       ·skip
        have hs6:fZ t p p.slots[i]=6:=by
         unfold fZ;rw [if_neg];intro h;simp [inF] at h;simp [h.1.1,inF] at h18;omega
        rw [hs6,if_pos (by simp),hL] at hst
        exact wv (h:=hQ _ _ (by simp [go_sem,hF0,hst]))
       ·skip
        have hs0:fZ t p p.slots[i]=0:=by
         unfold fZ;rw [if_pos];simp [inF] at h18 ⊢;refine ⟨⟨h18.1.1.1,?_⟩,?_⟩<;>omega
        rw [hs0,if_neg (by simp),hL] at hst
        exact wo (h:=wx hI0 (i+1) ⟨wg,wj,(by exact hst.symm)⟩)
      ·have hz:eX (fZ t p) p.slots=0:=by rw [← hL,kA _ (by omega)]
       rw [if_neg (by simp [hz])] at hF0
       refine wv (h:=aB (Lz p.vars p.tests) wl ?_)
       refine dO (fun h21=>?_) fun h21=>?_
       ·exact wv (h:=hQ _ _ (by rw [hF0,if_pos (by simpa using h21)];simp [go_sem]))
       ·rw [if_neg (by simpa using h21)] at hF0
        refine wv (h:=bP (fun v e H=>(e 2=.adr t.c∧e 3=.adr p.c∧e 13=dI v)∧(v≤p.vars.toNat)∧(∀ j:Nat,j<v→gP p j=true)) (fun v=>p.vars.toNat - v) 0 ⟨wg,wi,(by (intro j hj;omega))⟩ fun I2 hI2 v e H hi2=>?_)
        obtain ⟨E2,hv,ho⟩:=hi2
        have Y:=wa Y E2
        refine dO (fun h24=>?_) fun h24=>?_
        ·have Y:=wa Y h24
         refine wo (h:=aB (JD p v) wl ?_)
         refine fJ (fun o7=>?_) fun o7=>?_
         ·exact wv (h:=hQ _ _ (by rw [hF0,if_pos ((Ca p _).2 ⟨v,by omega,by simpa using o7⟩)];simp [go_sem]))
         ·exact wo (h:=wx hI2 (v+1) ⟨wg,wj,(by (exact lD (p:=fun j=>gP p j=true) ho (by simpa using o7)))⟩)
        ·refine wv (h:=?_)
         have hm:¬ mem (iR p.vars.toNat p.slots) false=true:=fun h=>by
          obtain ⟨w,hw,ho'⟩:=(Ca p _).1 h
          rw [ho w (by omega)] at ho';cases ho'
         exact hQ _ _ (by rw [hF0,if_neg hm];simp [go_sem])
end Go.Abs
end
section
namespace Go.Proofs
open Go.Shelf
def Tryz.laysSort_ren:Go.Shelf.Ren:=⟨fun|189=>350|125=>401|257=>400|128=>443|129=>444|294=>435|295=>436|296=>437|297=>438|298=>439|299=>440|216=>329|300=>441|301=>442|328=>452|329=>453|330=>454|331=>455|332=>456|215=>122|343=>459|n=>n,fun|28=>34|3=>3|46=>347|0=>0|51=>414|53=>81|4=>4|183=>445|182=>444|131=>275|5=>5|9=>9|218=>455|222=>459|228=>461|229=>356|n=>n,fun|n=>n⟩
theorem Tryz.laysSort:Go.Proofs.Lays.n189 Tryz.prog Tryz.laysSort_ren:={
 mixed:=by kernel_rfl
 f125:=Tryz.func401.trans (congrArg some (by kernel_rfl))
 f128:=Tryz.func443.trans (congrArg some (by kernel_rfl))
 f129:=Tryz.func444.trans (congrArg some (by kernel_rfl))
 f189:=Tryz.func350.trans (congrArg some (by kernel_rfl))
 f215:=Tryz.func122.trans (congrArg some (by kernel_rfl))
 f216:=Tryz.func329.trans (congrArg some (by kernel_rfl))
 f257:=Tryz.func400.trans (congrArg some (by kernel_rfl))
 f294:=Tryz.func435.trans (congrArg some (by kernel_rfl))
 f295:=Tryz.func436.trans (congrArg some (by kernel_rfl))
 f296:=Tryz.func437.trans (congrArg some (by kernel_rfl))
 f297:=Tryz.func438.trans (congrArg some (by kernel_rfl))
 f298:=Tryz.func439.trans (congrArg some (by kernel_rfl))
 f299:=Tryz.func440.trans (congrArg some (by kernel_rfl))
 f300:=Tryz.func441.trans (congrArg some (by kernel_rfl))
 f301:=Tryz.func442.trans (congrArg some (by kernel_rfl))
 f328:=Tryz.func452.trans (congrArg some (by kernel_rfl))
 f329:=Tryz.func453.trans (congrArg some (by kernel_rfl))
 f330:=Tryz.func454.trans (congrArg some (by kernel_rfl))
 f331:=Tryz.func455.trans (congrArg some (by kernel_rfl))
 f332:=Tryz.func456.trans (congrArg some (by kernel_rfl))
 f343:=Tryz.func459.trans (congrArg some (by kernel_rfl))
 t0:=Tryz.underlying0
 a0:=Tryz.isAgg0
 z0:=Tryz.sizeOf0
 v0:=Tryz.zeroValue0
 t3:=Tryz.underlying3
 a3:=Tryz.isAgg3
 z3:=Tryz.sizeOf3
 v3:=Tryz.zeroValue3
 t4:=Tryz.underlying4
 a4:=Tryz.isAgg4
 z4:=Tryz.sizeOf4
 v4:=Tryz.zeroValue4
 t5:=Tryz.underlying5
 a5:=Tryz.isAgg5
 z5:=Tryz.sizeOf5
 v5:=Tryz.zeroValue5
 t9:=Tryz.underlying9
 a9:=Tryz.isAgg9
 z9:=Tryz.sizeOf9
 v9:=Tryz.zeroValue9
 t28:=Tryz.underlying34
 a28:=Tryz.isAgg34
 z28:=Tryz.sizeOf34
 v28:=Tryz.zeroValue34
 t46:=Tryz.underlying347
 a46:=Tryz.isAgg347
 z46:=Tryz.sizeOf347
 v46:=Tryz.zeroValue347
 t51:=Tryz.underlying414
 a51:=Tryz.isAgg414
 z51:=Tryz.sizeOf414
 v51:=Tryz.zeroValue414
 t53:=Tryz.underlying81
 a53:=Tryz.isAgg81
 z53:=Tryz.sizeOf81
 v53:=Tryz.zeroValue81
 t131:=Tryz.underlying275
 a131:=Tryz.isAgg275
 z131:=Tryz.sizeOf275
 v131:=Tryz.zeroValue275
 t182:=Tryz.underlying444
 a182:=Tryz.isAgg444
 z182:=Tryz.sizeOf444
 v182:=Tryz.zeroValue444
 t183:=Tryz.underlying445
 a183:=Tryz.isAgg445
 z183:=Tryz.sizeOf445
 v183:=Tryz.zeroValue445
 t218:=Tryz.underlying455
 a218:=Tryz.isAgg455
 z218:=Tryz.sizeOf455
 v218:=Tryz.zeroValue455
 t222:=Tryz.underlying459
 a222:=Tryz.isAgg459
 z222:=Tryz.sizeOf459
 v222:=Tryz.zeroValue459
 t228:=Tryz.underlying461
 a228:=Tryz.isAgg461
 z228:=Tryz.sizeOf461
 v228:=Tryz.zeroValue461
 t229:=Tryz.underlying356
 a229:=Tryz.isAgg356
 z229:=Tryz.sizeOf356
 v229:=Tryz.zeroValue356 }
def Tryz.laysCompact_ren:Go.Shelf.Ren:=⟨fun|20=>380|n=>n,fun|22=>34|3=>3|4=>4|0=>0|n=>n,fun|n=>n⟩
theorem Tryz.laysCompact:Go.Proofs.Lays2.n20 Tryz.prog Tryz.laysCompact_ren:={
 mixed:=by kernel_rfl
 f20:=Tryz.func380.trans (congrArg some (by kernel_rfl))
 t0:=Tryz.underlying0
 a0:=Tryz.isAgg0
 z0:=Tryz.sizeOf0
 v0:=Tryz.zeroValue0
 t3:=Tryz.underlying3
 a3:=Tryz.isAgg3
 z3:=Tryz.sizeOf3
 v3:=Tryz.zeroValue3
 t4:=Tryz.underlying4
 a4:=Tryz.isAgg4
 z4:=Tryz.sizeOf4
 v4:=Tryz.zeroValue4
 t22:=Tryz.underlying34
 a22:=Tryz.isAgg34
 z22:=Tryz.sizeOf34
 v22:=Tryz.zeroValue34
 i3:=by kernel_rfl }
end Go.Proofs
end
section
set_option maxRecDepth 4000
open Go Go.Proofs Go.Shelf
namespace Go.Abs
def nU (xs:List Int):List Int:=xs.mergeSort fun x y=>decide (x≤y)
theorem kU (xs:List Int):(nU xs).length=xs.length:=List.length_mergeSort xs
theorem KN {G:AHeap}{id:Nat}{ty:TypeId}{xs:List Int}{Q:D→AHeap→Prop}(hg:G.get id=some ⟨ty,1,xs.map cI,false⟩)(hl:xs.length≤1000000)
  (hQ:Q (.tup []) (G.put id ⟨ty,1,(nU xs).map cI,false⟩)):ACalls Tryz.prog 350 [.own id xs.length] G Q:=by
 refine MY ⟨Tryz.f350,Tryz.func350,rfl,rfl⟩ hg (kU xs) (fun w v hrow=>?_) hQ
 rcases hrow.2 with ⟨rfl,h0⟩|⟨g,cap,cur,rfl,hb,hblk,hnc,hcm,hcs,htk⟩
 ·have hx:xs=[]:=bG h0
  subst hx
  exact (Any.slices_Sort_int_none Tryz.laysSort none 0 w).mono fun e w' ⟨he,hw⟩=>by
   subst hw
   exact ⟨he,⟨rfl,rfl,rfl,aY _,fun _ _ _=>rfl⟩,by simpa [En,nU] using hrow⟩
 ·have hH:Sort.Holds (Value.int .i64) w g 0 xs.toArray:=holds_of_blockI hblk (by simpa using htk)
  refine (Any.slices_Sort_int Tryz.laysSort g 0 cap xs w hH (o9.1 hblk).1 (by omega)).mono fun e w' ⟨he,n,os,hw⟩=>?_
  subst hw
  refine ⟨he,grownBy_sortedI _,?_⟩
  have:=ownsRow_sortedI (n:=n) (os:=os) (ts:=nU xs) (kU xs) hb hblk hnc hcm (by simpa using hcs)
  unfold En
  rw [kU]
  exact this
theorem Gy (zs:List Int):(Lib.compact zs).length≤zs.length:=by
 unfold Lib.compact Lib.compactUpTo
 rw [bA]
 exact c6 (e9 _ _) (by simp)
theorem DR {G:AHeap}{id:Nat}{ty:TypeId}{xs:List Int}{Q:D→AHeap→Prop}(hg:G.get id=some ⟨ty,1,xs.map cI,false⟩)(hl:xs.length≤1000000)
  (hQ:∀ k,Q (.list ((Lib.compact xs).map cI)) (G.put id k)):ACalls Tryz.prog 380 [.own id xs.length] G Q:=by
 have hcl:=Gy xs
 have hzl:(Lib.compact xs++List.replicate (xs.length - (Lib.compact xs).length) 0).length=xs.length:=by simp;omega
 refine Kh (zs:=Lib.compact xs++List.replicate (xs.length - (Lib.compact xs).length) 0) (m:=(Lib.compact xs).length) ⟨Tryz.f380,Tryz.func380,rfl,rfl⟩ hg hzl hcl (fun w v hrow=>?_) (by rw [List.take_left];exact hQ _)
 rcases hrow.2 with ⟨rfl,h0⟩|⟨g,cap,cur,rfl,hb,hblk,hnc,hcm,hcs,htk⟩
 ·have hx:xs=[]:=bG h0
  subst hx
  exact (Any.slices_Compact_int_empty Tryz.laysCompact none 0 w).mono fun e w' ⟨he,hw⟩=>by
   subst hw
   exact ⟨⟨_,he,.inl ⟨rfl,rfl⟩⟩,⟨rfl,rfl,rfl,aY _,fun _ _ _=>rfl⟩,by simpa [En,Lib.compact,Lib.compactUpTo] using hrow⟩
 ·have hH:Sort.Holds (Value.int .i64) w g 0 xs.toArray:=holds_of_blockI hblk (by simpa using htk)
  refine (Any.slices_Compact_int Tryz.laysCompact g 0 cap xs w hH (by omega) hnc).mono fun e w' ⟨he,q,hw⟩=>?_
  subst hw
  refine ⟨⟨_,he,.inr ⟨_,_,_,rfl,rfl⟩⟩,?_,?_⟩
  ·have:=grownBy_sortedI (w:=w) (g:=g) (n:=q) (os:=#[]) (Lib.compact xs++List.replicate (xs.length - (Lib.compact xs).length) 0).toArray
   rw [Sort.grow_empty] at this
   exact this
  ·have:=ownsRow_sortedI (n:=q) (os:=#[]) (ts:=Lib.compact xs++List.replicate (xs.length - (Lib.compact xs).length) 0) hzl hb hblk hnc hcm (by simpa using hcs)
   rw [Sort.grow_empty] at this
   unfold En
   rw [hzl]
   exact this
def imagesN (xs:List Int):Nat:=(Lib.compact (nU xs)).length
theorem vS (xs:List Int)(hl:xs.length≤1000000):Pure Tryz.prog 371 [dLI xs] (dI (imagesN xs)):=by
 have hlen:=kU xs
 refine Tz.pK ⟨fun _=>false,fun _=>[]⟩ Tryz.func371 rfl (fun Q hQ=>?_)
 have Y:=trivial
 refine wv (h:=lA (kB xs hl) wl ?_)
 refine wv (h:=?_)
 unfold gU;refine KN (ty:=3) (xs:=xs) (by simp [go_sem]) hl ?_
 refine wo (h:=?_)
 unfold gU;rw [show xs.length=(nU xs).length from hlen.symm];refine DR (ty:=3) (xs:=nU xs) (by simp [go_sem]) (by omega) fun k=>?_
 have Y:=wa Y @imagesN.eq_1
 exact wo (h:=hQ _ _ wy)
end Go.Abs
end
section
set_option maxRecDepth 100000
set_option maxHeartbeats 4000000
open Go Go.Proofs
namespace Go.Abs
theorem PU (xs:List Int):(nU xs).Pairwise (·≤·):=by
 have:=List.pairwise_mergeSort (le:=fun (x y:Int)=>decide (x≤y)) (fun a b c h1 h2=>by simp at *;omega) (fun a b=>by simp;omega) xs
 exact this.imp fun h=>by simpa using h
theorem DI (xs:List Int):imagesN xs=xs.length↔xs.Nodup:=by
 have hp:(nU xs).Perm xs:=List.mergeSort_perm xs _
 rw [← hp.nodup_iff,← kU xs]
 unfold imagesN Lib.compact Lib.compactUpTo
 rw [bA]
 have hpw:=dB.1 (PU xs)
 generalize nU xs=s at *
 have key:(List.filter (Lib.keeps s.toArray) (List.range s.length)).length=s.length↔∀ j,j<s.length→Lib.keeps s.toArray j=true:=by
  have:=List.length_filter_eq_length_iff (p:=Lib.keeps s.toArray) (l:=List.range s.length)
  rw [List.length_range] at this
  rw [this];simp
 rw [key]
 have hk:∀ j (hj:j<s.length),Lib.keeps s.toArray j=true↔(j=0∨s[j]≠s[j - 1]'(by omega)):=fun j hj=>by
  simp only [Lib.keeps,decide_eq_true_eq]
  rw [getElem!_pos _ j (by simpa using hj),getElem!_pos _ (j - 1) (by simp;omega)]
  simp
 constructor
 ·intro h
  rw [B8,dB]
  intro i j hi hj hij
  rcases (hk j hj).1 (h j hj) with h0|h0
  ·omega
  ·have h1:=hpw (j - 1) j (by omega) hj (by omega)
   by_cases hij':i=j - 1
   ·subst hij';omega
   ·have h2:=hpw i (j - 1) hi (by omega) (by omega)
    omega
 ·intro h j hj
  rw [hk j hj]
  by_cases h0:j=0
  ·exact .inl h0
  ·right
   intro he
   have:=(zB h).1 he
   omega
def b7:Edge:=⟨0,0,0⟩
def i6 (a b:Graph)(m:Part)(i:Nat):Int :=
 if m.nodes[i]?.getD 0<0∨(b.nodes.length:Int)≤m.nodes[i]?.getD 0 then 6
 else if b.nodes[(m.nodes[i]?.getD 0).toNat]?.getD 0≠a.nodes[i]?.getD 0 then 13 else 0
def jF (a b:Graph)(m:Part)(i:Nat):Int :=
 if m.edges[i]?.getD 0<0∨(b.edges.length:Int)≤m.edges[i]?.getD 0 then 6
 else if (a.edges[i]?.getD b7).type≠(b.edges[(m.edges[i]?.getD 0).toNat]?.getD b7).type then 13
 else if m.nodes[(a.edges[i]?.getD b7).from_.toNat]?.getD 0≠(b.edges[(m.edges[i]?.getD 0).toNat]?.getD b7).from_∨m.nodes[(a.edges[i]?.getD b7).to_.toNat]?.getD 0≠(b.edges[(m.edges[i]?.getD 0).toNat]?.getD b7).to_ then 11 else 0
def dE (a b:Graph)(m:Part):Int :=
 if graphF a≠0 then graphF a
 else if graphF b≠0 then graphF b
 else if m.nodes.length≠a.nodes.length∨m.edges.length≠a.edges.length then 20
 else if bR (i6 a b m) 0 a.nodes.length≠0 then bR (i6 a b m) 0 a.nodes.length
 else bR (jF a b m) 0 a.edges.length
theorem mX (a b:Graph)(m:Part):Pure Tryz.prog 310 [a.d,b.d,m.d] (dI (dE a b m)):=by
 refine Tz.pK ⟨fun t=>t==13||t==14,fun r=>match r with|22=>[(0,10),(1,10),(3,10),(4,10),(5,10),(6,10),(8,10),(9,10),(0,11),(1,11),(3,11),(4,11),(5,11),(6,11),(8,11),(9,11),(10,11),(5,12),(6,12),(8,12),(9,12)]|_=>[]⟩ Tryz.func310 rfl (fun Q hQ=>?_)
 have Y:=trivial
 refine wv (h:=aB (k8 a) wl ?_)
 refine dO (fun h2=>?_) fun h2=>?_
 ·exact wv (h:=hQ _ _ (.inl (by simp [go_sem,dE,h2])))
 ·refine wv (h:=aB (k8 b) wl ?_)
  refine dO (fun h5=>?_) fun h5=>?_
  ·exact wv (h:=hQ _ _ (.inl (by simp [go_sem,dE,h2,h5])))
  ·refine fJ (fun h7=>?_) fun h7=>?_
   ·exact wv (h:=hQ _ _ (.inl (by simp [go_sem,dE,h2,h5,show m.nodes.length≠a.nodes.length∨m.edges.length≠a.edges.length by omega])))
   ·have hM:dE a b m=(if bR (i6 a b m) 0 a.nodes.length≠0 then bR (i6 a b m) 0 a.nodes.length else bR (jF a b m) 0 a.edges.length):=by
     unfold dE;rw [if_neg (by simp [h2]),if_neg (by simp [h5]),if_neg (by omega)]
    have hga:=cC h2
    have hgb:=cC h5
    have hia:=(dL h2).2
    refine wo (h:=bP (fun i e H=>(e 3=.adr a.c∧e 4=.adr b.c∧e 5=.adr m.c∧e 42=dLI m.nodes∧e 43=dI m.nodes.length∧e 44=dI i)∧(i≤m.nodes.length)∧(bR (i6 a b m) i (a.nodes.length - i)=bR (i6 a b m) 0 a.nodes.length)) (fun i=>m.nodes.length - i) 0 ⟨wg,wi,(by rfl)⟩ fun I0 hI0 i e H hi0=>?_)
    obtain ⟨E0,hi,hF⟩:=hi0
    have Y:=wa Y E0
    refine dO (fun h10=>?_) fun h10=>?_
    ·have hn:i<a.nodes.length:=by omega
     have hst:=fS (i6 a b m) hn
     rw [hF] at hst
     have hNE:i6 a b m i=(if m.nodes[i]<0∨(b.nodes.length:Int)≤m.nodes[i] then 6 else if b.nodes[m.nodes[i].toNat]?.getD 0≠a.nodes[i] then 13 else 0):=by simp only [i6,aA h10,aA hn,aD]
     have Y:=wa Y (wa h10 hn)
     refine fJ (fun h12=>?_) fun h12=>?_
     ·rw [if_pos (by omega)] at hNE
      rw [hNE,if_pos (by omega)] at hst
      exact wv (h:=hQ _ _ (.inl (by simp [go_sem,hM,hst])))
     ·have hkb:m.nodes[i].toNat<b.nodes.length:=by omega
      rw [if_neg (by omega),aA hkb,aD] at hNE
      have Y:=wa Y (aA hkb)
      refine fJ (fun h14=>?_) fun h14=>?_
      ·rw [if_pos h14] at hNE
       rw [hNE,if_pos (by omega)] at hst
       exact wv (h:=hQ _ _ (.inl (by simp [go_sem,hM,hst])))
      ·rw [if_neg (by simpa using h14)] at hNE
       rw [hNE,if_neg (by omega)] at hst
       exact wo (h:=wx hI0 (i+1) ⟨wg,wj,(by exact hst.symm)⟩)
    ·have hN0:bR (i6 a b m) 0 a.nodes.length=0:=by rw [← hF,show a.nodes.length - i=0 by omega];rfl
     rw [hN0,if_neg (by omega)] at hM
     refine wo (h:=bP (fun k e H=>(e 3=.adr a.c∧e 4=.adr b.c∧e 5=.adr m.c∧e 71=dLI m.edges∧e 72=dI m.edges.length∧e 73=dI k)∧(k≤m.edges.length)∧(bR (jF a b m) k (a.edges.length - k)=dE a b m)) (fun k=>m.edges.length - k) 0 ⟨wg,wi,(by (exact hM.symm))⟩ fun I2 hI2 k e H hi2=>?_)
     obtain ⟨E2,hk,hE⟩:=hi2
     have Y:=wa Y E2
     refine dO (fun h18=>?_) fun h18=>?_
     ·have hn:k<a.edges.length:=by omega
      have hst:=fS (jF a b m) hn
      rw [hE] at hst
      have hx:=hia _ (aC hn)
      have hxf:a.edges[k].from_.toNat<m.nodes.length:=by omega
      have hxt:a.edges[k].to_.toNat<m.nodes.length:=by omega
      have hEE:jF a b m k=(if m.edges[k]<0∨(b.edges.length:Int)≤m.edges[k] then 6 else if a.edges[k].type≠(b.edges[m.edges[k].toNat]?.getD b7).type then 13 else if m.nodes[a.edges[k].from_.toNat]≠(b.edges[m.edges[k].toNat]?.getD b7).from_∨m.nodes[a.edges[k].to_.toNat]≠(b.edges[m.edges[k].toNat]?.getD b7).to_ then 11 else 0):=by
       simp only [jF,aA h18,aA hn,aD,aA hxf,aA hxt]
      have Y:=wa Y (wa h18 (wa hn (wa (aA hxf) (aA hxt))))
      refine fJ (fun h20=>?_) fun h20=>?_
      ·rw [if_pos (by omega)] at hEE
       rw [hEE,if_pos (by omega)] at hst
       exact wv (h:=hQ _ _ (.inl (by simp [go_sem,← hst])))
      ·have hkb:m.edges[k].toNat<b.edges.length:=by omega
       rw [if_neg (by omega),aA hkb,aD] at hEE
       have Y:=wa Y (aA hkb)
       refine fJ (fun h23=>?_) fun h23=>?_
       ·rw [if_pos h23] at hEE
        rw [hEE,if_pos (by omega)] at hst
        exact wv (h:=hQ _ _ (.inl (by simp [go_sem,← hst])))
       ·rw [if_neg (by simpa using h23)] at hEE
        refine fJ (fun h25=>?_) fun h25=>?_
        ·rw [if_pos (by omega)] at hEE
         rw [hEE,if_pos (by omega)] at hst
         exact wv (h:=hQ _ _ (.inl (by simp [go_sem,← hst])))
        ·rw [if_neg (by omega)] at hEE
         rw [hEE,if_neg (by omega)] at hst
         exact wo (h:=wx hI2 (k+1) ⟨wg,wj,(by exact hst.symm)⟩)
     ·exact wv (h:=hQ _ _ (.inl (by rw [← hE,show a.edges.length - k=0 by omega];rfl)))
def u0 (a b:Graph)(m:Part):Bool:=decide (dE a b m=0)&&(decide m.nodes.Nodup&&decide m.edges.Nodup)
theorem mD {a b:Graph}{m:Part}(h:dE a b m=0):graphF a=0∧graphF b=0∧m.nodes.length=a.nodes.length∧m.edges.length=a.edges.length:=by
 unfold dE at h
 split at h
 ·rename_i h1;exact absurd h h1
 ·rename_i h1
  split at h
  ·rename_i h2;exact absurd h h2
  ·rename_i h2
   split at h
   ·cases h
   ·omega
theorem Ix (xs:List Int):((imagesN xs:Int)==(xs.length:Int))=decide xs.Nodup:=by
 rw [aS]
 simp only [beq_iff_eq,decide_eq_true_eq]
 rw [← DI]
 omega
theorem qF (a b:Graph)(m:Part)(h1:m.nodes.length≤1000000)(h2:m.edges.length≤1000000):Pure Tryz.prog 311 [a.d,b.d,m.d] (.bool (u0 a b m)):=by
 refine Tz.pK ⟨fun _=>false,fun _=>[]⟩ Tryz.func311 rfl (fun Q hQ=>?_)
 have Y:=@Ix
 refine wo (h:=aQ (mX a b m) wl ?_)
 refine wo (h:=eC (fun hg=>vS m.nodes h1) (fun hg=>wl) ?_)
 refine wo (h:=eC (fun hg=>vS m.edges h2) (fun hg=>wl) ?_)
 exact wo (h:=hQ _ _ (by simp [go_sem,u0,Ix,D0]))
end Go.Abs
end
