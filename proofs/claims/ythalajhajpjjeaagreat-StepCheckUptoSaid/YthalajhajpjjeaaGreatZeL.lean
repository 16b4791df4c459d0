/- Small things that later texts take from the texts of layer 4 -/
import Derived.Test.YthalajhajpjjeaaGreatZeF
import Derived.Test.YthalajhajpjjeaaGreatZeK
import Derived.Test.YthalajhajpjjeaaGreatZeA
import Derived.Maps.RangeWalk
import Derived.DeepKeys4
set_option linter.unusedVariables false
set_option linter.unusedSimpArgs false
section
set_option maxRecDepth 100000
set_option maxHeartbeats 4000000
open Go Go.Proofs
namespace Go.Abs
theorem Cw {P:Program}{H:AHeap}{f:FuncId}{args:List D}{ty:TypeId}{sz:Nat}{es:List (List D)}{Q:D→AHeap→Prop}(hp:Own P f (args.map (g6 H)) ty sz es)(hcl:D.clL (args.map (g6 H))=true)(hf:∀ d∈es.flatten,d.flat=true)(hQ:Q (.list es) H):ACalls P f args H Q:=by
 refine ⟨hp.1,fun M0 σ w vals hR ha=>?_⟩
 obtain ⟨f1,f2,f3,f4⟩:=fF (args.flatMap dE) hR
 refine (hp.2 (cF M0 (eV (args.flatMap dE) H) σ) w vals (tX f1) (gK (fun _ h=>h) (DG hR ha _ fun i h=>h) hcl)).mono fun e w' ⟨v,xs,he,hrow,h1,hrep,hcll,hsz,hb⟩=>?_
 obtain ⟨g1,g2,g3⟩:=hR.grow hb.os hb.tape hb.output hb.size hb.block
 have hv:RepV (cF M0 H σ) gS p7 w' v (.list es):=by
  rcases hrow.2 with ⟨hnil,h0⟩|⟨g,cap,cur,hval,hg,hcells,hnc,hcm,hsz',htake⟩
  ·rw [hnil,bF h0];exact .listN
  ·rw [hval]
   refine .list ⟨g,0,none⟩ cap sz xs es hnc hcm hsz hrep.len h1 (fun j u hu=>⟨fun hm=>?_,hrow.cells (g:=g) (by simp [hval,Value.ownBlock]) j u hu⟩) (fun j u d hu hd=>wI (hrep.rep j u d hu hd) (hf d (aJ hd)))
   have:=tX hR g hm
   omega
 exact ⟨v,.list es,H,σ,he,g1,hv.keep B8,g2,g3,hQ⟩
theorem kY {P:Program}{md:Nat→Bool}{ops:Array Oper}{sp:List (Nat × Nat)}{n0 i:Nat}{rest:List Oper}{acc:List (Nat × List Nat)}{e:dA}{dst:Option Tmp}{K:dA→AHeap→Prop}{f:FuncId}{args args':List D}{H:AHeap}{ty:TypeId}{sz:Nat}{es:List (List D)}
  (hp:Own P f args' ty sz es) (ha:args.map (g6 H)=args') (hcl:D.clL args'=true) (hf:∀ d∈es.flatten,d.flat=true) {S:List Nat} (hS:args.flatMap dE=S) (hc:Fd sp i S acc)
  (h:iX P md ops sp n0 (i+1) rest ((i,S) :: acc) (mJ e dst (.list es)) H K):nS P md ops sp n0 i rest acc e dst K f args H:=by
 subst ha hS
 unfold nS
 refine .inl ⟨.list es,_,fun H' hag=>?_,hc,h⟩
 have he:=zE hag fun x hx=>hx
 exact Cw (by rw [he];exact hp) (by rw [he];exact hcl) hf ⟨rfl,rfl⟩
theorem dK {β:Type}(f:β→Nat→β)(b:β)(n:Nat):(List.range (n+1)).foldl f b=f ((List.range n).foldl f b) n:=by
 rw [fG,C8];rfl
theorem N0 {t:Types}(hv:t.valid){a:Nat}(ha:a<t.nodes.length):mem (t.line a) a=true:=by
 rw [wC t a ha (hv.parentsOK a),sW];simp
def cL (l:List Int):List D:=[dLI l]
@[go_sem] theorem Uz (l:List (List Int)):D.clLL (l.map cL)=true:=cQ cL (fun x=>by simp [cL,go_sem]) l
attribute [go_sem] cL
@[go_sem] theorem VV (o:Option Rule)(a1 a2 a3 a4 a5 a6 a7 a8 a9 a10 a11 a12 a13 a14 a15 a16 a17 a18 a19 a20 a21 a22 a23 a24 a25:D):((Option.map Rule.c o).getD [a1,a2,a3,a4,a5,a6,a7,a8,a9,a10,a11,a12,a13,a14,a15,a16,a17,a18,a19,a20,a21,a22,a23,a24,a25]).length=25:=by cases o<;>rfl
def TX (mask:List Bool):List Nat:=(List.range mask.length).filter fun i=>mask[i]?.getD false
theorem jQ (a b:List Int):Pure Tryz.prog 161 [dLI a,dLI b] (.bool (decide (a=b))):=by
 refine Tz.pK ⟨fun _=>false,fun _=>[]⟩ Tryz.func161 rfl (fun Q hQ=>?_)
 have Y:=trivial
 refine wv (h:=?_)
 repeat first|intro _|refine ⟨dR,?_⟩
 refine wq (fun h1=>?_) fun h1=>?_
 ·refine wv (h:=?_)
  have hne:a≠b:=by intro h;subst h;omega
  exact hQ _ _ (by simp [go_sem,hne])
 ·refine wo (h:=bA (fun i e H=>(e 0=dLI a∧e 1=dLI b∧e 12=dI a.length∧e 13=dI i)∧(i≤a.length)∧(a.take i=b.take i)) (fun i=>a.length - i) 0 ⟨wg,wi,(by rfl)⟩ fun I0 hI0 i e H hi0=>?_)
  obtain ⟨E0,hi,he⟩:=hi0
  have Y:=wa Y E0
  refine c4 (fun h4=>?_) fun h4=>?_
  ·have hib:i<b.length:=by omega
   have Y:=wa Y (wa h4 hib)
   refine wv (h:=?_)
   repeat first|intro _|refine ⟨dR,?_⟩
   refine wq (fun h6=>?_) fun h6=>?_
   ·refine wv (h:=?_)
    have hne:a≠b:=by intro h;subst h;exact h6 rfl
    exact hQ _ _ (by simp [go_sem,hne])
   ·exact wo (h:=wx hI0 (i+1) ⟨wg,wj,(by (rw [aE h4,aE hib,he,h6]))⟩)
  ·rw [aH (by omega),aH (by omega)] at he
   exact wv (h:=hQ _ _ (by simp [go_sem,he]))
theorem MY {r:Rule}(h:fewR r=true):r.ok:=by
 simp only [fewR,aM,decide_eq_true_eq] at h
 obtain ⟨⟨⟨⟨⟨h1,h2⟩,h3⟩,h4⟩,h5⟩,h6⟩:=h
 simp [fewPart] at h4 h5
 simp [fewC] at h6
 have h7:=Ed r.cond 40 (by omega) h6
 exact ⟨by omega,by omega,by omega,by omega,by omega,h7.1,by omega⟩
theorem Me {P:Program}{md:Nat→Bool}{ops:Array Oper}{rest:List Oper}{e:dA}{dst:Option Tmp}{K:dA→AHeap→Prop}{f:FuncId}{args args':List D}{H:AHeap}{ty:TypeId}{sz:Nat}{es:List (List D)}
  (hp:Own P f args' ty sz es) (ha:args.map (g6 H)=args') (hcl:D.clL args'=true) (hf:∀ d∈es.flatten,d.flat=true) (h:lL P md ops rest (mJ e dst (.list es)) H K):fE P md ops rest e dst K f args H:=by
 subst ha;unfold fE;exact Cw hp hcl hf h
theorem GR (zs:List Int):∀ d∈(zs.map cI).flatten,d.flat=true:=by
 intro d hd;rw [w9,bG] at hd;obtain ⟨x,_,rfl⟩:=hd;rfl
def PS:List Int→Int
 | []=>0
 | a :: l=>if a≠0 then a else PS l
theorem OW {l:List Int}{i:Nat}(h:i<l.length):PS (l.drop i)=if l[i]≠0 then l[i] else PS (l.drop (i+1)):=by
 rw [eE h];rfl
theorem Si (l:List Int):Pure Tryz.prog 349 [dLI l] (dI (PS l)):=by
 refine Tz.pK ⟨fun _=>false,fun _=>[]⟩ Tryz.func349 rfl (fun Q hQ=>?_)
 have Y:=trivial
 refine wv (h:=?_)
 repeat first|intro _|refine ⟨dR,?_⟩
 refine bA (fun i e H=>(e 6=dLI l∧e 7=dI l.length∧e 3=dI 0∧e 8=dI i)∧(i≤l.length)∧(PS (l.drop i)=PS l)) (fun i=>l.length - i) 0 ⟨wg,wi,(by rfl)⟩ fun I0 hI0 i e H hi0=>?_
 obtain ⟨E0,hi,hO⟩:=hi0
 have Y:=wa Y E0
 refine c4 (fun h3=>?_) fun h3=>?_
 ·have hst:=hO
  rw [OW h3] at hst
  have Y:=wa Y h3
  refine wv (h:=?_)
  repeat first|intro _|refine ⟨dR,?_⟩
  refine wq (fun h5=>?_) fun h5=>?_
  ·rw [if_pos (by omega)] at hst
   exact wv (h:=hQ _ _ (by simp [go_sem,Y,← hst]))
  ·rw [if_neg (by omega)] at hst
   refine wv (h:=?_)
   repeat first|intro _|refine ⟨dR,?_⟩
   exact wx hI0 (i+1) ⟨wg,wj,(by exact hst)⟩
 ·rw [fX (by omega)] at hO
  exact wv (h:=hQ _ _ (by simp [go_sem,← hO,PS]))
theorem Ft {P:Program}(w:World)(dT sT ty elem:TypeId)(sz:Nat)(g o dLen dCap:Nat)(a:Addr)(sLen sCap n:Nat)(cur:Array Value)(t:TypeId)(cs:List Value)
  (hu:P.underlying dT=some (.slice elem)) (hs:(P.info? elem).map (·.size)=some sz)
  (hg:w.heap[g]?=some (.cells cur t (0,0))) (hn:n=Nat.min sLen dLen) (hcl:cs.length=n * sz)
  (hsrc:∀ j v,cs[j]?=some v→w.cell? (a.add j)=some v) (hfit:o+cs.length≤cur.size) (h1:∀ v∈cs,v.oneCell'=true) :
  (Builtin.copy_ #[dT,sT] ty #[.slice (some ⟨g,o,none⟩) dLen dCap,.slice (some a) sLen sCap]).run P w =
   .ok (goInt n) (w.setRow g (cur.toList.take o++cs++cur.toList.drop (o+cs.length)).toArray):=by
 have hl:=run_loadCells_list (P:=P) w a cs hsrc
 have hst:=run_storeCells_at P g o t cs 0 cur w hg (by simpa using hfit) h1
 cases hq:P.info? elem with
 | none=>simp [hq] at hs
 | some i =>
  have hi:i.size=sz:=by simpa [hq] using hs
  rw [hcl] at hl
  simp [Builtin.copy_,run_underlying hu,Builtin.lenOf,Builtin.firstCells,sizeOf,typeInfo,hq,hi,← hn,hl,hst]
def cmp1 (a b:Int):Int:=if a<b then -1 else if b<a then 1 else 0
theorem Ku (a b:Int):Pure Tryz.prog 350 [dI a,dI b] (dI (cmp1 a b)):=by
 refine Tz.pK ⟨fun _=>false,fun _=>[]⟩ Tryz.func350 rfl (fun Q hQ=>?_)
 have Y:=trivial
 refine wv (h:=aB (xC a) wl ?_)
 refine wv (h:=aB (xC b) wl ?_)
 refine c4 (fun h9=>?_) fun h9=>?_
 ·have Y:=wa Y (wa h9 @cmp1.eq_1)
  exact wv (h:=hQ _ _ wy)
 ·refine c4 (fun h11=>?_) fun h11=>?_
  ·have Y:=wa Y (wa h9 (wa h11 @cmp1.eq_1))
   exact wv (h:=hQ _ _ wy)
  ·have Y:=wa Y (wa h9 (wa h11 @cmp1.eq_1))
   exact wv (h:=hQ _ _ wy)
def uW (t:Types)(i:Nat):Bool:=match t.nodes[i]? with|some n=>n.abs|none=>false
def AH (t:Types):List Int:=((List.range t.nodes.length).filter fun i=>!uW t i).map fun (i:Nat)=>(i:Int)
def QT (b:List Bool):List Int:=(TX b).map fun (i:Nat)=>(i:Int)
def WR (xs:List Int)(i j:Nat):List Int:=(xs.set i (xs[j]?.getD 0)).set j (xs[i]?.getD 0)
abbrev B2:=UInt8 × UInt8
def cP (x:B2):List D:=[.int .u8 (x.1.toNat:Int),.int .u8 (x.2.toNat:Int)]
@[go_sem] theorem PA (l:List B2):D.clLL (l.map cP)=true:=cQ _ (fun _=>rfl) l
def tyA:ByteArray:=⟨#[65,66,67,68,69,70]⟩
def tyU:ByteArray:=⟨#[117,118,119,120,121,122]⟩
def tyE:ByteArray:=⟨#[101,102,103,104,105]⟩
def Uu (i:Nat)(x:B2):NodeTy :=
 ⟨tyA.extract i (i+1),(x.1.toNat:Int).tmod ((i:Int)+1) - 1,((x.1.toNat:Int) / 16).tmod 4==3,
  if (x.2.toNat:Int).tmod 4=1 then [⟨tyU.extract i (i+1),-3,3+((x.2.toNat:Int) / 4).tmod 9,[]⟩]
  else if (x.2.toNat:Int).tmod 4=2 then [⟨tyU.extract i (i+1),0,1,[⟨#[111,102,102]⟩,⟨#[111,110]⟩]⟩] else []⟩
def Qh (ns:List B2)(i:Nat):B2:=ns[i]?.getD (0,0)
def RH (ns:List B2)(n:Nat):List NodeTy:=(List.range n).map fun i=>Uu i (Qh ns i)
def Uv (n:Int)(i:Nat)(x:B2):EdgeTy:=⟨tyE.extract i (i+1),(x.1.toNat:Int).tmod n,(x.2.toNat:Int).tmod n,0,-1,0,-1⟩
def RI (n:Int)(es:List B2)(k:Nat):List EdgeTy:=(List.range k).map fun i=>Uv n i (Qh es i)
def QU (ns:List B2):Nat:=max 1 (min ns.length 6)
def Ut (ns es:List B2):Types:=⟨RH ns (QU ns),RI (QU ns) es (min es.length 5)⟩
theorem sU {l:List (List D)}(h:∀ c∈l,jE c=c):eO l=l:=by
 rw [Bg];conv=>rhs;rw [← List.map_id l]
 exact bU h
def cU (x:UInt8):List D:=[.int .u8 (x.toNat:Int)]
@[go_sem] theorem Mg (l:List UInt8):D.clLL (l.map cU)=true:=cQ _ (fun _=>rfl) l
def Tr (n:Nat)(l:List UInt8)(i:Nat):Nat:=((i:Int)+((l[i]?.getD 0).toNat:Int).tmod ((n:Int) - i)).toNat
def Tq (n:Nat)(l:List UInt8)(xs:List Int)(i:Nat):List Int:=WR xs i (Tr n l i)
def Mt (n:Nat)(l:List UInt8):List Int:=(List.range (min n l.length)).foldl (Tq n l) (D2 n)
def WY (p xs:List Int)(k:Nat):List Int:=(List.range k).foldl (fun acc i=>acc.set (p[i]?.getD 0).toNat (xs[i]?.getD 0)) xs
def WX (p:List Int)(x:Edge):Edge:=⟨x.type,p[x.from_.toNat]?.getD 0,p[x.to_.toNat]?.getD 0⟩
def W0 (p q:List Int)(es:List Edge)(k:Nat):List Edge:=(List.range k).foldl (fun acc i=>acc.set (q[i]?.getD 0).toNat (WX p (es[i]?.getD ⟨0,0,0⟩))) es
def WZ (g:Graph)(p q:List Int):Graph:=if graphF g=0 then ⟨WY p g.nodes g.nodes.length,W0 p q g.edges g.edges.length⟩ else ⟨[],[]⟩
theorem x9 (g:Graph)(hn:g.nodes.length≤100000)(he:g.edges.length≤100000)(G:AHeap)(Q:D→AHeap→Prop)
  (hQ:∀ a b H',G.next≤a→G.next≤b→a≠b→a<H'.next→b<H'.next→H'.get a=some ⟨3,1,g.nodes.map cI,false⟩→H'.get b=some ⟨122,3,g.edges.map Edge.c,false⟩→(∀ j,j<G.next→H'.get j=G.get j)→G.next≤H'.next→Q (.agg [.own a g.nodes.length,.own b g.edges.length]) H'):ACalls Tryz.prog 157 [g.d] G Q:=by
 refine (aI (cfg:=⟨fun t=>t==2||t==3||t==7,fun r=>match r with|1=>[(0,1),(0,2),(0,4),(1,4),(2,4),(3,4),(0,5),(3,5),(4,5),(0,6),(3,6),(4,6)]|_=>[]⟩) Tz.mixed Tryz.func157 rfl rfl (aF rfl) (by kernel_rfl) ?_)
 have nx:=VK G.next
 have Y:=nx
 refine wo (h:=?_)
 exact hQ _ _ _ (by first|omega|(simp [go_sem]<;>omega)|(simp [go_sem,nx]<;>omega)) (by first|omega|(simp [go_sem]<;>omega)|(simp [go_sem,nx]<;>omega)) (by first|omega|(simp [go_sem]<;>omega)|(simp [go_sem,nx]<;>omega)) (by first|omega|(simp [go_sem]<;>omega)|(simp [go_sem,nx]<;>omega)) (by first|omega|(simp [go_sem]<;>omega)|(simp [go_sem,nx]<;>omega)) (by simp [go_sem,nx]<;>omega) (by simp [go_sem,nx]<;>omega) (fun j hj=>by simp [go_sem,bZ hj]) (by first|omega|(simp [go_sem]<;>omega)|(simp [go_sem,nx]<;>omega))
def Rs (a b:Int):Int:=(a.tmod b+b).tmod b
abbrev T4:=Int8 × Int8 × Int8 × Int8
def XB (x:T4):List D:=[.int .i8 x.1.toInt,.int .i8 x.2.1.toInt,.int .i8 x.2.2.1.toInt,.int .i8 x.2.2.2.toInt]
@[go_sem] theorem Nd (l:List T4):D.clLL (l.map XB)=true:=cQ _ (fun _=>rfl) l
def Ux (v:Int)(x:T4):Test:=⟨1+(Rs x.1.toInt 4).tdiv 3,⟨Rs x.2.1.toInt (v+1) - 1,0⟩,⟨Rs x.2.2.1.toInt (v+1) - 1,x.2.2.2.toInt.tmod 12⟩⟩
def Xs (g:Graph)(nb eb:List Bool)(k:Nat):List Bool:=(List.range k).foldl (fun acc i=>if eb[i]?.getD false=true then (acc.set (g.edges[i]?.getD ⟨0,0,0⟩).from_.toNat true).set (g.edges[i]?.getD ⟨0,0,0⟩).to_.toNat true else acc) nb
def Graph.ends (g:Graph):Prop:=∀ x∈g.edges,(0≤x.from_∧x.from_<g.nodes.length)∧0≤x.to_∧x.to_<g.nodes.length
def XC (k:UInt64)(i:Nat):Bool:=(k.toNat:Int).fdiv (2 ^ (min ((i:Int).tmod 64).toNat 64)) % 2==1
def So (k:UInt64)(off n:Nat):List Bool:=(List.range n).map fun j=>XC k (off+j)
def Uw (g:Graph)(k:UInt64):Part:=⟨QT (Xs g (So k 0 g.nodes.length) (So k g.nodes.length g.edges.length) g.edges.length),QT (So k g.nodes.length g.edges.length)⟩
def Sp (t:Types)(ns:List Int)(k:Int)(i:Nat):Bool:=mem (t.line (ns[i]?.getD 0).toNat) k
def Ir (t:Types)(ns:List Int)(k:Int):List Int:=((List.range ns.length).filter (Sp t ns k)).map fun (i:Nat)=>(i:Int)
def Attr.good (x:Attr):Prop:=x.low≤x.high∧-1000≤x.low∧x.high≤1000
structure Types.fine (t:Types):Prop where
 ok:t.ok
 valid:t.valid
 good:∀ a,(∀ x∈bI t a,x.good)∧(bI t a).length≤8
abbrev B3:=UInt8 × UInt8 × UInt8
def PV (x:B3):List D:=[.int .u8 (x.1.toNat:Int),.int .u8 (x.2.1.toNat:Int),.int .u8 (x.2.2.toNat:Int)]
@[go_sem] theorem AJ (l:List B3):D.clLL (l.map PV)=true:=cQ _ (fun _=>rfl) l
structure Dr5 where
 nodes:List UInt8
 edges:List B3
def Dr5.c (d:Dr5):List D:=[.list (d.nodes.map cU),.list (d.edges.map PV)]
@[go_sem] theorem Dr5.cl (d:Dr5):D.clL d.c=true:=by simp [Dr5.c,D.clL,D.cl,Mg,AJ]
def Uy (n:Nat)(ds:List UInt8)(k:Nat):List Int:=(List.range k).map fun i=>((ds[i]?.getD 0).toNat:Int).tmod n
def P2 (t:Types)(k:Int):EdgeTy:=t.edges[k.toNat]?.getD ⟨⟨#[]⟩,0,0,0,0,0,0⟩
def MG (l:List Int)(b:UInt8):Int:=l[((b.toNat:Int).tmod l.length).toNat]?.getD 0
def Xq (t:Types)(ns:List Int)(x:B3):List Edge :=
 if 0<(Ir t ns (P2 t ((x.1.toNat:Int).tmod t.edges.length)).from_).length∧0<(Ir t ns (P2 t ((x.1.toNat:Int).tmod t.edges.length)).to_).length then
  [⟨(x.1.toNat:Int).tmod t.edges.length,MG (Ir t ns (P2 t ((x.1.toNat:Int).tmod t.edges.length)).from_) x.2.1,MG (Ir t ns (P2 t ((x.1.toNat:Int).tmod t.edges.length)).to_) x.2.2⟩] else []
def Xr (t:Types)(ns:List Int)(es:List B3)(k:Nat):List Edge:=(List.range k).flatMap fun i=>Xq t ns (es[i]?.getD (0,0,0))
def wA (t:Types)(d:Dr5):Graph:=⟨Uy t.nodes.length d.nodes (min d.nodes.length 8),if t.edges.length=0 then [] else Xr t (Uy t.nodes.length d.nodes (min d.nodes.length 8)) d.edges (min d.edges.length 10)⟩
structure Dr21 where
 graph:Dr5
 slots:List B3
 tests:List T4
def Dr21.c (d:Dr21):List D:=[.list (d.graph.nodes.map cU),.list (d.graph.edges.map PV),.list (d.slots.map PV),.list (d.tests.map XB)]
@[go_sem] theorem Dr21.cl (d:Dr21):D.clL d.c=true:=by simp [Dr21.c,D.clL,D.cl,Mg,AJ,Nd]
def c2 (x:Nat × Nat):List D:=[dI x.1,dI x.2]
def Yj (t:Types)(ns:List Int)(i:Nat):List Attr:=bI t (ns[i]?.getD 0)
def XE (t:Types)(ns:List Int)(i k:Nat):List (Nat × Nat):=(List.range k).map fun j=>(i,j)
def XF (t:Types)(ns:List Int)(k:Nat):List (Nat × Nat):=(List.range k).flatMap fun i=>XE t ns i (Yj t ns i).length
def GG (all:List (Nat × Nat))(b:UInt8):Nat × Nat:=all[((b.toNat:Int).tmod all.length).toNat]?.getD (0,0)
def Xo (all:List (Nat × Nat))(st:List Slot × Int)(x:B3):List Slot × Int :=
 if st.2≤(x.2.1.toNat:Int).tmod 5 - 1 then
  if 3<st.2+1 then (st.1++[⟨(GG all x.1).1,(GG all x.1).2,⟨0,0⟩⟩],3) else (st.1++[⟨(GG all x.1).1,(GG all x.1).2,⟨st.2,0⟩⟩],st.2+1)
 else (st.1++[⟨(GG all x.1).1,(GG all x.1).2,⟨(x.2.1.toNat:Int).tmod 5 - 1,(x.2.2.toNat:Int).tmod 5 - 2⟩⟩],st.2)
def Xp (all:List (Nat × Nat))(ds:List B3)(k:Nat):List Slot × Int:=(List.range k).foldl (fun st i=>Xo all st (ds[i]?.getD (0,0,0))) ([],0)
def Xn (v:Int)(ts:List T4)(k:Nat):List Test:=(List.range k).map fun i=>Ux v (ts[i]?.getD (0,0,0,0))
def Rc (t:Types)(d:Dr21):List (Nat × Nat):=XF t (wA t d.graph).nodes (wA t d.graph).nodes.length
def Hq (t:Types)(d:Dr21):List Slot × Int:=if (Rc t d).length=0 then ([],0) else Xp (Rc t d) d.slots (min d.slots.length 4)
def O5 (t:Types)(d:Dr21):Pattern:=⟨wA t d.graph,(Hq t d).1,(Hq t d).2,Xn (Hq t d).2 d.tests (min d.tests.length 3)⟩
abbrev B4:=UInt8 × UInt8 × UInt8 × UInt8
structure Dr24 where
 left:Dr21
 keep:UInt64
 nodes:List UInt8
 edges:List B3
 slots:List B3
 plain:Bool
 inj:Bool
 forbid:B4
 order:List UInt8
def Dr24.c (d:Dr24):List D:=[.list (d.left.graph.nodes.map cU),.list (d.left.graph.edges.map PV),.list (d.left.slots.map PV),.list (d.left.tests.map XB),.int .u64 (d.keep.toNat:Int),.list (d.nodes.map cU),.list (d.edges.map PV),.list (d.slots.map PV),.bool d.plain,.bool d.inj,
 .int .u8 (d.forbid.1.toNat:Int),.int .u8 (d.forbid.2.1.toNat:Int),.int .u8 (d.forbid.2.2.1.toNat:Int),.int .u8 (d.forbid.2.2.2.toNat:Int),.list (d.order.map cU)]
@[go_sem] theorem Dr24.cl (d:Dr24):D.clL d.c=true:=by simp [Dr24.c,D.clL,D.cl,Mg,AJ,Nd]
@[go_sem] theorem Vf (l:List Dr24):D.clLL (l.map Dr24.c)=true:=cQ _ Dr24.cl l
def Qk (t:Types)(n:Nat)(x:B3):Edge:=⟨(x.1.toNat:Int).tmod t.edges.length,(x.2.1.toNat:Int).tmod n,(x.2.2.toNat:Int).tmod n⟩
def nN (ns:List Int)(a:Int):Int:=ns[a.toNat]?.getD 0
def Xx (t:Types)(base:List Int)(ds:List UInt8)(k:Nat):List Int:=base++(List.range k).map fun i=>MG (AH t) (ds[i]?.getD 0)
def Xy (t:Types)(ns:List Int)(x:B3):List Edge:=if l9 t (Qk t ns.length x).type (nN ns (Qk t ns.length x).from_) (nN ns (Qk t ns.length x).to_)=true then [Qk t ns.length x] else []
def X0 (t:Types)(ns:List Int)(base:List Edge)(es:List B3)(k:Nat):List Edge:=base++(List.range k).flatMap fun i=>Xy t ns (es[i]?.getD (0,0,0))
def MW (t:Types)(g:Graph)(d:Dr24):Graph :=
 ⟨Xx t g.nodes d.nodes (if (AH t).length=0 then 0 else min d.nodes.length 2),
  X0 t (Xx t g.nodes d.nodes (if (AH t).length=0 then 0 else min d.nodes.length 2)) g.edges d.edges (if (Xx t g.nodes d.nodes (if (AH t).length=0 then 0 else min d.nodes.length 2)).length=0∨t.edges.length=0 then 0 else min d.edges.length 2)⟩
theorem eT (l:List Int):eO (l.map cI)=l.map cI:=sU fun c hc=>by
 rw [bG] at hc;obtain ⟨x,_,rfl⟩:=hc;rfl
def H5 (t:Types)(d:Dr24):Part:=Uw (O5 t d.left).graph d.keep
def RK (t:Types)(d:Dr24):Graph:=bY (O5 t d.left).graph (H5 t d)
def Ph (t:Types)(d:Dr24):Graph:=MW t (RK t d) d
def Lo (t:Types)(d:Dr24):Graph:=WZ (Ph t d) (Mt (Ph t d).nodes.length d.order) (Mt (Ph t d).edges.length d.order)
structure Host where
 graph:Graph
 values:List (List Int)
def Host.c (h:Host):List D:=[dLI h.graph.nodes,.list (h.graph.edges.map Edge.c),.list (h.values.map cL)]
def Host.d (h:Host):D:=.agg h.c
@[go_sem] theorem Sk (l:List (List Int)):D.clLL (l.map cL)=true:=cQ _ (fun a=>by simp [cL,D.clL,mV]) l
@[go_sem] theorem Host.cl (h:Host):h.d.cl=true:=by simp [Host.d,Host.c,D.cl,D.clL,mV,Sk,s7]
structure Dr15 where
 nodes:List B2
 edges:List B3
def Dr15.c (d:Dr15):List D:=[.list (d.nodes.map cP),.list (d.edges.map PV)]
@[go_sem] theorem Dr15.cl (d:Dr15):D.clL d.c=true:=by simp [Dr15.c,D.clL,D.cl,PA,AJ]
def Tk (l:List Attr)(b:UInt8)(k:Nat):Int:=match l[k]? with|some a=>a.low+((b.toNat:Int)+7 * (k:Int)).tmod (a.high - a.low+1)|none=>0
def Ri (l:List Attr)(b:UInt8)(k:Nat):List Int:=(List.range k).map (Tk l b)
def LQ (t:Types)(x:B2):Int:=MG (AH t) x.1
def TV (t:Types)(x:B2):List Int:=Ri (bI t (LQ t x)) x.2 (bI t (LQ t x)).length
def RF (t:Types)(ds:List B2)(k:Nat):List Int:=(List.range k).map fun i=>LQ t (Qh ds i)
def Wk (t:Types)(ds:List B2)(k:Nat):List (List Int):=(List.range k).map fun i=>TV t (Qh ds i)
def RJ (t:Types)(d:Dr15):Host :=
 ⟨⟨RF t d.nodes (if (AH t).length=0 then 0 else min d.nodes.length 8),
  X0 t (RF t d.nodes (if (AH t).length=0 then 0 else min d.nodes.length 8)) [] d.edges (if (RF t d.nodes (if (AH t).length=0 then 0 else min d.nodes.length 8)).length=0∨t.edges.length=0 then 0 else min d.edges.length 10)⟩,
  Wk t d.nodes (if (AH t).length=0 then 0 else min d.nodes.length 8)⟩
attribute [go_sem] Host.d Host.c
def J0 (l:List Int):Bool:=decide (12<(l.length:Int))
def Av (h:Host):Bool:=fewG h.graph&&decide ((h.values.length:Int)≤45)&&!(h.values.any J0)
theorem Bd (h:Host):Pure Tryz.prog 68 [h.d] (.bool (Av h)):=by
 refine Tz.pK ⟨fun _=>false,fun _=>[]⟩ Tryz.func68 rfl (fun Q hQ=>?_)
 have Y:=wa @Host.d.eq_1 @Host.c.eq_1
 refine wo (h:=aB (wZ h.graph) wl ?_)
 refine eF (fun h1=>?_) fun h1=>?_
 ·have hF:Av h=false:=by cases hg:fewG h.graph<;>simp [hg] at h1<;>simp [Av,hg]<;>omega
  exact wv (h:=hQ _ _ (by simp [go_sem,hF]))
 ·have hG:fewG h.graph=true∧(h.values.length:Int)≤45:=by cases hg:fewG h.graph<;>simp [hg] at h1<;>exact ⟨rfl,by omega⟩
  refine wv (h:=bA (fun i e H=>(e 1=.adr h.c∧e 3=dI i)∧(i≤h.values.length)∧((h.values.take i).any J0=false)) (fun i=>h.values.length - i) 0 ⟨wg,wi,(by rfl)⟩ fun I0 hI0 i e H hi0=>?_)
  obtain ⟨E0,hi,ha⟩:=hi0
  have Y:=wa Y E0
  refine eF (fun h4=>?_) fun h4=>?_
  ·have Y:=wa Y (wa h4 (wa (aA h4) @cL.eq_1))
   refine eF (fun h6=>?_) fun h6=>?_
   ·refine wv (h:=?_)
    have hF:Av h=false:=by
     have:h.values.any J0=true:=aW.2 ⟨_,aC h4,by unfold J0;simp;omega⟩
     unfold Av;rw [this];simp
    exact hQ _ _ (by simp [go_sem,hF])
   ·exact wo (h:=wx hI0 (i+1) ⟨wg,wj,(by (rw [c7 _ _ _ h4,ha];unfold J0;simp;omega))⟩)
  ·have hF:Av h=true:=by have:=lT ha h4;unfold Av;rw [hG.1,this,decide_eq_true hG.2];rfl
   exact wv (h:=hQ _ _ (by simp [go_sem,hF]))
def eP (t:Types)(g h:Graph):Int:=if (b8 t).2≠0 then (b8 t).2 else if graphF g≠0 then graphF g else if graphF h≠0 then graphF h else if (!kI t g||!kI t h)=true then 13 else 0
theorem vR (t:Types)(ht:t.ok)(g h:Graph):Pure Tryz.prog 246 [t.d,g.d,h.d] (dI (eP t g h)):=by
 refine Tz.pK ⟨fun _=>false,fun _=>[]⟩ Tryz.func246 rfl (fun Q hQ=>?_)
 have Y:=trivial
 refine wv (h:=aB (oH t ht) wl ?_)
 refine c4 (fun h2=>?_) fun h2=>?_
 ·exact wv (h:=hQ _ _ (by simp [go_sem,eP,h2]))
 ·refine wv (h:=aB (jU g) wl ?_)
  refine c4 (fun h5=>?_) fun h5=>?_
  ·exact wv (h:=hQ _ _ (by simp [go_sem,eP,h2,h5]))
  ·refine wv (h:=aB (jU h) wl ?_)
   refine c4 (fun h8=>?_) fun h8=>?_
   ·exact wv (h:=hQ _ _ (by simp [go_sem,eP,h2,h5,h8]))
   ·refine wo (h:=aB (q9 t g) wl ?_)
    refine wo (h:=aG (fun hg=>q9 t h) (fun hg=>wl) ?_)
    refine eF (fun h10=>?_) fun h10=>?_
    ·exact wv (h:=hQ _ _ (by simp [go_sem,eP,h2,h5,h8];intro hg;rcases h10 with h|h<;>simp_all))
    ·exact wv (h:=hQ _ _ (by simp [go_sem,eP,h2,h5,h8];simpa using h10))
def light17 (t:Types)(g h:Graph):Bool:=s5 t&&fewG g&&fewG h&&(decide (eP t g h≠0)||(decide ((g.nodes.length:Int)+g.edges.length≤6)&&decide ((h.nodes.length:Int)≤8)&&decide ((h.edges.length:Int)≤12)))
theorem Jy (t:Types)(ht:t.ok)(g h:Graph):Pure Tryz.prog 218 [t.d,g.d,h.d] (.bool (light17 t g h)):=by
 refine Tz.pK ⟨fun _=>false,fun _=>[]⟩ Tryz.func218 rfl (fun Q hQ=>?_)
 have ho:s5 t=true→fewG g=true→fewG h=true→eP t g h=0→Oz .i64 ((g.nodes.length:Int)+g.edges.length):=fun _ hg _ _=>by simp [fewG] at hg;exact cG (by omega) (by omega)
 have Y:=trivial
 refine wo (h:=aB (Gj t (fun n hn=>dW (ht.nodes n hn).few (by omega))) wl ?_)
 refine wo (h:=aG (fun hg=>wZ g) (fun hg=>wl) ?_)
 refine wo (h:=aG (fun hg=>wZ h) (fun hg=>wl) ?_)
 refine wo (h:=aG (fun hg=>vR t ht g h) (fun hg=>wl) ?_)
 have Y:=wa Y @light17.eq_1
 exact wo (h:=hQ _ _ wy)
def light21 (t:Types)(p:Pattern)(h:Host):Bool:=fewP p&&Av h&&light17 t p.graph h.graph
theorem Jt (t:Types)(ht:t.ok)(p:Pattern)(h:Host):Pure Tryz.prog 132 [t.d,p.d,h.d] (.bool (light21 t p h)):=by
 refine Tz.pK ⟨fun _=>false,fun _=>[]⟩ Tryz.func132 rfl (fun Q hQ=>?_)
 have Y:=wa @Host.c.eq_1 @Pattern.c.eq_1
 refine wo (h:=aB (sK p) wl ?_)
 refine wo (h:=aG (fun hg=>Bd h) (fun hg=>wl) ?_)
 refine wo (h:=aG (fun hg=>Jy t ht p.graph h.graph) (fun hg=>wl) ?_)
 have Y:=wa Y @light21.eq_1
 exact wo (h:=hQ _ _ wy)
end Go.Abs
end
section
set_option maxHeartbeats 1000000
namespace Go.Abs
open Go.Maps (Keyed)
def AW (u:Int):Prop:=-9223372036854775808≤u∧u≤9223372036854775807
theorem H7 {u:Int}(h:AW u):(Lit.int .i64 u).wf=true:=by
 obtain ⟨h1,h2⟩:=h
 simp [Lit.wf,IntKind.min,IntKind.max,IntKind.bits,IntKind.signed];omega
theorem OE {u:Int}(h:(Lit.int .i64 u).wf=true):AW u:=by
 simp [Lit.wf,IntKind.min,IntKind.max,IntKind.bits,IntKind.signed] at h
 exact ⟨by omega,by omega⟩
def kv (u v:Int):Value:=.agg #[.int .i64 u,.int .i64 v]
def kl (u v:Int):Lit:=.string (keyBytes [.int .i64 u,.int .i64 v])
structure MapT (P:Program) (T K E:TypeId):Prop where
 t:P.underlying T=some (.map K E)
 e:P.underlying E=some (.int .i64)
 law:Keyed P K
 kmk:∀ u v,AW u→AW v→keyOf P K (kv u v)=some (kl u v)
 inv:∀ key l,keyOf P K key=some l→∃ u v,AW u∧AW v∧key=kv u v
 z:∀ w,(zeroValue E).run P w=.ok (.int .i64 0) w
theorem An {P:Program}{K E:TypeId}{f0 f1:Field}(hk:P.underlying K=some (.struct #[f0,f1]))(h0:f0.type=E∧f0.offset=0∧(f0.name != "_")=true)(h1:f1.type=E∧f1.offset=1∧(f1.name != "_")=true)
  (hc:P.cellsOf K=2) (hcE:P.cellsOf E=1) (d:Nat) (a b:Value):P.keyLits (d+1) K [a,b]=(P.keyLits d E [a]).bind fun x=>(P.keyLits d E [b]).map fun y=>x++y:=by
 obtain ⟨a1,a2,a3⟩:=h0
 obtain ⟨b1,b2,b3⟩:=h1
 rw [Program.keyLits.eq_def]
 simp only [hk]
 rw [if_pos (by simp [hc,a3,b3])]
 simp only [List.mapM_cons,List.mapM_nil,a1,a2,b1,b2,hcE,List.drop_zero,qR,List.take_zero,List.drop_succ_cons,bind,pure]
 cases P.keyLits d E [a]<;>simp
 cases P.keyLits d E [b]<;>simp
theorem rI {P:Program}{E:TypeId}(he:P.underlying E=some (.int .i64))(d:Nat)(v:Value)(l:List Lit):P.keyLits (d+1) E [v]=some l↔∃ u,v=.int .i64 u∧(Lit.int .i64 u).wf=true∧l=[.int .i64 u]:=by
 rw [Program.keyLits.eq_def]
 simp only [he]
 cases v<;>simp
 rename_i k n
 constructor
 ·rintro ⟨⟨rfl,h⟩,rfl⟩;exact ⟨n,⟨rfl,rfl⟩,h,rfl⟩
 ·rintro ⟨u,⟨rfl,rfl⟩,h,rfl⟩;exact ⟨⟨rfl,h⟩,rfl⟩
theorem Ql {P : Program} {T K E : TypeId} {f0 f1 : Field} (ht : P.underlying T = some (.map K E)) (he : P.underlying E = some (.int .i64)) (hk : P.underlying K = some (.struct #[f0, f1])) (h0 : f0.type = E ∧ f0.offset = 0 ∧ (f0.name != "_") = true) (h1 : f1.type = E ∧ f1.offset = 1 ∧ (f1.name != "_") = true)
    (hc : P.cellsOf K = 2) (hcE : P.cellsOf E = 1) (hkt : P.keyType K = true) (hs : ∃ d, P.types.size + 1 = d + 1 + 1) (hlaw : Keyed P K) (hz : ∀ w, (zeroValue E).run P w = .ok (.int .i64 0) w) : MapT P T K E := by
  obtain ⟨d, hd⟩ := hs
  refine ⟨ht, he, hlaw, fun u v hu hv => ?_, fun key l h => ?_, hz⟩
  · unfold keyOf
    simp only [hk]
    rw [if_pos (by simp [hkt, Value.formed, hk, kv, hc]), hd]
    have e0 := (rI he d (.int .i64 u) _).2 ⟨u, rfl, H7 hu, rfl⟩
    have e1 := (rI he d (.int .i64 v) _).2 ⟨v, rfl, H7 hv, rfl⟩
    show ((P.keyLits (d + 1 + 1) K [.int .i64 u, .int .i64 v]).map fun ls => Lit.string (keyBytes ls)) = _
    rw [An hk h0 h1 hc hcE, e0, e1]; rfl
  · unfold keyOf at h
    simp only [hk] at h
    split at h
    · rename_i hf
      rw [aM] at hf
      have hf2 := hf.2
      cases key <;> simp [Value.formed, hk, hc] at hf2
      rename_i cs
      obtain ⟨cs⟩ := cs
      match cs, hf2 with
      | [a, b], _ =>
        rw [hd] at h
        have h' : ((P.keyLits (d + 1 + 1) K [a, b]).map fun ls => Lit.string (keyBytes ls)) = some l := h
        rw [An hk h0 h1 hc hcE] at h'
        cases ha : P.keyLits (d + 1) E [a] with
        | none => rw [ha] at h'; cases h'
        | some x =>
          cases hb : P.keyLits (d + 1) E [b] with
          | none => rw [ha, hb] at h'; cases h'
          | some y =>
            obtain ⟨u, rfl, hu, _⟩ := (rI he d a x).1 ha
            obtain ⟨v, rfl, hv, _⟩ := (rI he d b y).1 hb
            exact ⟨u, v, OE hu, OE hv, rfl⟩
    · cases h
section
variable {P:Program} {T K E:TypeId}
theorem MapT.inj (h:MapT P T K E){u v u' v':Int}(a:AW u)(b:AW v)(a':AW u')(b':AW v')(e:kl u v=kl u' v'):u=u'∧v=v':=by
 have:=h.law.inj (h.kmk u v a b) (e ▸ h.kmk u' v' a' b')
 simpa [kv] using this
abbrev FM:=Int→Int→Option Int
def Hr (F:FM)(u v c:Int):FM:=fun u' v'=>if u'=u∧v'=v then some c else F u' v'
def Re (D:DataW Unit)(F:FM):Prop:=∀ u v,AW u→AW v→Maps.has D (kl u v)=(F u v).isSome∧∀ c,F u v=some c→∀ z,D.atKey (kl u v) z=.lit (.int .i64 c)
inductive MS where
 | no
 | mp (b n:Nat) (F:FM)
 | rg (b r:Nat) (F:FM) (left:Int→Int→Bool) (r6:Nat) (cur:Option (Int × Int × Int))
def LZ (σ:Nat→Option Ow)(b:Nat):Prop:=∀ i o,σ i=some o→o.block≠some b
def B9 (r:Nat):Value:=.pointer (some ⟨r,0,none⟩)
def MpOk (P:Program)(K E:TypeId)(σ:Nat→Option Ow)(base:Nat)(w:World):MS→Prop
 | .no=>True
 | .mp b n F=>base≤b∧LZ σ b∧∃ D:DataW Unit,w.ownsMap P K (plainElem P E) b n D∧Re D F
 | .rg b r F left r6 cur=>base≤b∧base≤r∧LZ σ b∧LZ σ r∧∃ (n:Nat) (D:DataW Unit) (lf:Lit→Bool),w.ranges P K (plainElem P E) b r n D lf r6∧Re D F∧(∀ u v,AW u→AW v→lf (kl u v)=left u v) ∧
   ∀ u v c,cur=some (u,v,c)→(Instr.entry (B9 r)).run P w=.ok (.tuple #[kv u v,.int .i64 c]) w
theorem Ev {σ σ':Nat→Option Ow}{w w':World}(hs:Stp σ w σ' w'){b:Nat}(hb:b<w.heap.size)(h:LZ σ b):LZ σ' b:=fun i o' ho hb'=>by
 rcases hs.new i o' b ho hb' with h1|⟨j,o,h1,h2⟩
 ·omega
 ·exact h j o h1 h2
theorem L0 {w w' : World} {r b s c clock : Nat} {seen : Array Nat} {es : Array MapEntry} {v : Value} (hr : w.heap[r]? = some (.mapIter (some b) s seen c)) (hb : w.heap[b]? = some (.map es clock))
    (hr' : w'.heap[r]? = some (.mapIter (some b) s seen c)) (hb' : w'.heap[b]? = some (.map es clock)) (h : (Instr.entry (B9 r)).run P w = .ok v w) : (Instr.entry (B9 r)).run P w' = .ok v w' := by
  simp only [B9, Instr.entry, getObj, Sem.run_bind, Sem.run, hr, hb, hr', hb', Result.andThen] at h ⊢
  cases hs : seen.back? with
  | none => simp [hs, stuck, Sem.run] at h
  | some st =>
    simp only [hs, getObj, Sem.run_bind, Sem.run, hb, hb', Result.andThen] at h ⊢
    by_cases hc : clock = c
    · subst hc
      simp only [bne_self_eq_false, dY, if_false, if_true] at h ⊢
      cases hf : es.find? (fun x => x.born == st) with
      | none => simp [hf, unsupported, Sem.run, Result.andThen] at h
      | some x =>
        simp only [hf, Sem.run_pure, Sem.run, Result.ok.injEq, Result.andThen] at h ⊢
        simp_all
    · simp [hc, unsupported, Sem.run, Result.andThen] at h
theorem MpOk.stp {σ σ':Nat→Option Ow}{w w':World}{base:Nat}{g:MS}(h:MpOk P K E σ base w g)(hs:Stp σ w σ' w'):MpOk P K E σ' base w' g:=by
 cases g with
 | no=>trivial
 | mp b n F =>
  obtain ⟨h1,h2,D,h3,h4⟩:=h
  have hlt:=h3.lt
  have he:=hs.old b hlt h2
  refine ⟨h1,Ev hs hlt h2,D,?_,h4⟩
  obtain ⟨es,clock,hb,rest⟩:=h3
  exact ⟨es,clock,he.trans hb,rest⟩
 | rg b r F left r6 cur =>
  obtain ⟨h1,h2,h3,h4,n,D,lf,h5,h6,h7,h8⟩:=h
  have hlb:=h5.owns.lt
  have hlr:=h5.lt
  have eb:=hs.old b hlb h3
  have er:=hs.old r hlr h4
  obtain ⟨es,clock,since,seen,c0,hb,F',hn,hD,hr,rest⟩:=h5
  exact ⟨h1,h2,Ev hs hlb h3,Ev hs hlr h4,n,D,lf,⟨es,clock,since,seen,c0,eb.trans hb,F',hn,hD,er.trans hr,rest⟩,h6,h7,fun u v c hc=>L0 hr hb (er.trans hr) (eb.trans hb) (h8 u v c hc)⟩
theorem MpOk.base {σ:Nat→Option Ow}{w:World}{base base':Nat}{g:MS}(h:MpOk P K E σ base w g)(hb:base'≤base):MpOk P K E σ base' w g:=by
 cases g with
 | no=>trivial
 | mp b n F=>exact ⟨dW hb h.1,h.2⟩
 | rg b r F left r6 cur=>exact ⟨dW hb h.1,dW hb h.2.1,h.2.2⟩
theorem Pz {w:World}{b:Nat}{es:Array MapEntry}{clock:Nat}(hb:w.heap[b]?=some (.map es clock)):∀ ad:Addr,ad.block=b→w.cell? ad=none:=fun ad e=>by simp [World.cell?,e,hb]
theorem Og {w:World}{r:Nat}{m:Option Nat}{s c:Nat}{seen:Array Nat}(hr:w.heap[r]?=some (.mapIter m s seen c)):∀ ad:Addr,ad.block=r→w.cell? ad=none:=fun ad e=>by simp [World.cell?,e,hr]
theorem Rel.turned {M0:Nat→Prop}{H:AHeap}{σ:Nat→Option Ow}{w w':World}{row:Option Nat}(h:Rel M0 H σ w)(hg:w.grownBy w' row)(hr:∀ b,row=some b→LZ σ b∧∀ ad:Addr,ad.block=b→w.cell? ad=none) :
  Rel M0 H σ w'∧Keeps (cF M0 H σ) σ H.al w (cF M0 H σ) σ H.al w':=by
 have hk:Keeps (cF M0 H σ) σ H.al w (cF M0 H σ) σ H.al w':=⟨fun ad u hm hu=>⟨hm,by
  have hne:some ad.block≠row:=fun e=>by rw [(hr _ e.symm).2 ad rfl] at hu;cases hu
  exact (World.cell?_of_block (hg.block ad.block (World.block_lt_of_cell? w ad hu) hne)).trans hu⟩,fun id o' _ h=>⟨o',h,.inl rfl⟩,fun _ h=>h⟩
 refine ⟨⟨h.top,h.nxt,fun id k hk'=>?_,h.inj,fun i o b' ho hb'=>⟨bQ (h.lt i o b' ho hb').1 hg.size,(h.lt i o b' ho hb').2⟩,fun b' hb'=>bQ (h.m0 b' hb') hg.size⟩,hk⟩
 obtain ⟨o,ho,l⟩:=h.lies id k hk'
 obtain ⟨xs,h1,h2,h3⟩:=l.row
 refine ⟨o,ho,l.ver,l.ty,l.sz,l.esz,xs,h1.kept hg ?_,h2,h3.keep hk⟩
 cases hb:o.val.ownBlock with
 | none=>exact .inl rfl
 | some b'=>exact .inr fun e=>(hr b' e.symm).1 id o ho hb
theorem Stp.turned {σ0 σ:Nat→Option Ow}{w0 w w':World}{row:Option Nat}(h:Stp σ0 w0 σ w)(hg:w.grownBy w' row)(hr:∀ b,row=some b→w0.heap.size≤b):Stp σ0 w0 σ w' :=
 ⟨hg.os.trans h.os,hg.tape.trans h.tape,hg.output.trans h.output,dW h.size hg.size,fun b hb hn=>(hg.block b (bQ hb h.size) (fun e=>by have:=hr b e.symm;omega)).trans (h.old b hb hn),h.new⟩
structure SG (P:Program) (K E:TypeId) (n:Nat) (M0:Nat→Prop) (H0:AHeap) (σ0:Nat→Option Ow) (w0:World) (g:MS) (e:dA) (H:AHeap) (σ:Nat→Option Ow) (a:Act) (w:World):Prop where
 st:St n M0 H σ w e a
 stp:Stp σ0 w0 σ w
 keep:Keeps (cF M0 H0 σ0) σ0 H0.al w0 (cF M0 H σ) σ H.al w
 map:MpOk P K E σ w0.heap.size w g
section
variable {n:Nat} {M0:Nat→Prop} {H0 H:AHeap} {σ0 σ:Nat→Option Ow} {w0 w w':World} {g g':MS} {e:dA} {a:Act}
theorem SG.turned {row:Option Nat}(h:SG P K E n M0 H0 σ0 w0 g e H σ a w)(hg:w.grownBy w' row)(hr:∀ b,row=some b→w0.heap.size≤b∧LZ σ b∧∀ ad:Addr,ad.block=b→w.cell? ad=none)
  (hM:MpOk P K E σ w0.heap.size w' g') {dst:Option Tmp} (hd:oP n dst=true) {v:Value} {d:D} (hv:RepV (cF M0 H σ) σ H.al w' v d):SG P K E n M0 H0 σ0 w0 g' (mJ e dst d) H σ (a.put dst v) w':=by
 obtain ⟨h1,h2⟩:=h.st.rel.turned hg fun b hb=>(hr b hb).2
 exact ⟨h.st.put h1 h2 hd hv,h.stp.turned hg fun b hb=>(hr b hb).1,h.keep.trans h2,hM⟩
def KP (P:Program)(K E:TypeId)(n:Nat)(M0:Nat→Prop)(H0:AHeap)(σ0:Nat→Option Ow)(w0:World)(X:MS→dA→AHeap→Prop)(a:Act)(w:World):Prop:=∃ g e H σ,X g e H∧SG P K E n M0 H0 σ0 w0 g e H σ a w
end
abbrev PG:=Exit→MS→dA→AHeap→Prop
def WpG (P:Program)(K E:TypeId)(n:Nat)(x:Code)(Q:PG)(g:MS)(e:dA)(H:AHeap):Prop :=
 ∀ M0 H0 σ0 w0 σ a w,SG P K E n M0 H0 σ0 w0 g e H σ a w→x.wp P (fun ex a w=>KP P K E n M0 H0 σ0 w0 (Q ex) a w) a w
def F9 (R:MS→dA→AHeap→Prop)(Q:PG):PG
 | .normal,g,e,H=>R g e H
 | ex,g,e,H=>Q ex g e H
def Im (id:Nat)(Q:PG):PG
 | .exit id',g,e,H=>if id'=id then Q .normal g e H else Q (.exit id') g e H
 | ex,g,e,H=>Q ex g e H
variable {n:Nat} {c:Cfg} {Q:PG} {g:MS} {e:dA} {H:AHeap}
theorem fJ {x:Code}(hm:P.follows .mixedOrders=true)(hok:mW c n x=true)(h:mE P c x (fun ex e H=>Q ex g e H) e H):WpG P K E n x Q g e H :=
 fun M0 H0 σ0 w0 σ a w hS=>gI (mB hm x _ e H h hok σ w a hS.st) fun ex a' w' ⟨e',H',σ',hq,hS',hst',hk'⟩=>⟨g,e',H',σ',hq,hS',hS.stp.trans hst',hS.keep.trans hk',hS.map.stp hst'⟩
theorem WpG.seq {x y:Code}(h:WpG P K E n x (F9 (WpG P K E n y Q) Q) g e H):WpG P K E n (.seq x y) Q g e H:=fun M0 H0 σ0 w0 σ a w hS=>by
 refine wp_seq (gI (h M0 H0 σ0 w0 σ a w hS) fun ex a' w' hc=>?_)
 cases ex<;>first|exact hc|skip
 obtain ⟨g',e',H',σ',hq,hS'⟩:=hc
 exact hq M0 H0 σ0 w0 σ' a' w' hS'
theorem cZ {x y:Code}(h:∀ R:MS→dA→AHeap→Prop,(∀ g e H,WpG P K E n y Q g e H→R g e H)→WpG P K E n x (F9 R Q) g e H):WpG P K E n (.seq x y) Q g e H:=.seq (h _ fun _ _ _ h=>h)
@[go_sem] theorem P6 {R:MS→dA→AHeap→Prop}{g:MS}{e:dA}{H:AHeap}:F9 R Q .normal g e H=R g e H:=rfl
@[go_sem] theorem Sw {R:MS→dA→AHeap→Prop}{g:MS}{e:dA}{H:AHeap}:F9 R Q .ret g e H=Q .ret g e H:=rfl
@[go_sem] theorem Rl {R:MS→dA→AHeap→Prop}{g:MS}{e:dA}{H:AHeap}{i:Nat}:F9 R Q (.exit i) g e H=Q (.exit i) g e H:=rfl
@[go_sem] theorem Sn {i:Nat}{g:MS}{e:dA}{H:AHeap}:Im i Q .ret g e H=Q .ret g e H:=rfl
@[go_sem] theorem PX {i:Nat}{g:MS}{e:dA}{H:AHeap}:Im i Q .normal g e H=Q .normal g e H:=rfl
@[go_sem] theorem Q9 {i j:Nat}{g:MS}{e:dA}{H:AHeap}:Im i Q (.exit j) g e H=if j=i then Q .normal g e H else Q (.exit j) g e H:=rfl
theorem WpG.cond {x:Operand}{y z:Code}{t:Bool}(hx:eB e x=.bool t)(h1:t=true→WpG P K E n y Q g e H)(h2:t=false→WpG P K E n z Q g e H):WpG P K E n (.cond x y z) Q g e H:=fun M0 H0 σ0 w0 σ a w hS=>by
 have hv:=hS.st.envR.ev x
 rw [hx] at hv
 have hc:a.eval x=.bool t:=by generalize a.eval x=v at hv;cases hv;rfl
 exact wp_cond_split hc (fun ht=>h1 ht M0 H0 σ0 w0 σ a w hS) fun ht=>h2 ht M0 H0 σ0 w0 σ a w hS
theorem WpG.block {id:Nat}{b:Code}(h:WpG P K E n b (Im id Q) g e H):WpG P K E n (.block id b) Q g e H:=fun M0 H0 σ0 w0 σ a w hS=>by
 refine wp_block (gI (h M0 H0 σ0 w0 σ a w hS) fun ex a' w' hc=>?_)
 cases ex<;>first|exact hc|skip
 rename_i id'
 obtain ⟨g',e',H',σ',hq,hS'⟩:=hc
 by_cases hid:id'=id
 ·subst hid
  show (if id'=id' then KP P K E n M0 H0 σ0 w0 (Q .normal) a' w' else _)
  rw [if_pos rfl]
  refine ⟨g',e',H',σ',?_,hS'⟩
  have h':(if id'=id' then Q .normal g' e' H' else Q (.exit id') g' e' H'):=hq
  rw [if_pos rfl] at h';exact h'
 ·show (if id'=id then KP P K E n M0 H0 σ0 w0 (Q .normal) a' w' else KP P K E n M0 H0 σ0 w0 (Q (.exit id')) a' w')
  rw [if_neg hid]
  refine ⟨g',e',H',σ',?_,hS'⟩
  have h':(if id'=id then Q .normal g' e' H' else Q (.exit id') g' e' H'):=hq
  rw [if_neg hid] at h';exact h'
theorem WpG.loop {b:Code}{ι:Type}(I:ι→MS→dA→AHeap→Prop)(m:ι→Nat)(x0:ι)(h0:I x0 g e H)(hI:∀ x g e H,I x g e H→WpG P K E n b (F9 (fun g' e' H'=>∃ x',m x'<m x∧I x' g' e' H') Q) g e H):WpG P K E n (.loop b) Q g e H :=
 fun M0 H0 σ0 w0 σ a w hS=>by
 let J:Nat→Act→World→Prop:=fun k a' w'=>∃ g e H σ x,m x=k∧I x g e H∧SG P K E n M0 H0 σ0 w0 g e H σ a' w'
 have hJ0:J (m x0) a w:=⟨g,e,H,σ,x0,rfl,h0,hS⟩
 classical
 let μ:Act→World→Nat:=fun a' w'=>if hx:∃ k,J k a' w' then Classical.choose (fD hx) else 0
 refine wp_loop (fun a' w'=>∃ k,J k a' w') μ ⟨_,hJ0⟩ fun a' w' hx=>?_
 have hμ:μ a' w'=Classical.choose (fD hx):=by simp only [μ,dif_pos hx]
 obtain ⟨g1,e1,H1,σ1,x1,hx1,hi,hS1⟩:=(vC (fD hx)).1
 refine gI (hI x1 g1 e1 H1 hi M0 H0 σ0 w0 σ1 a' w' hS1) fun ex a'' w'' hc=>?_
 cases ex<;>first|exact hc|skip
 obtain ⟨g2,e2,H2,σ2,⟨x2,hlt,hi2⟩,hS2⟩:=hc
 have hx2:∃ k,J k a'' w'':=⟨m x2,g2,e2,H2,σ2,x2,rfl,hi2,hS2⟩
 refine ⟨hx2,?_⟩
 have:μ a'' w''=Classical.choose (fD hx2):=by simp only [μ,dif_pos hx2]
 rw [this,hμ]
 refine Nat.lt_of_le_of_lt ?_ (hx1 ▸ hlt)
 rcases bN (m x2) (Classical.choose (fD hx2)) with hlt'|hge
 ·exact absurd ⟨g2,e2,H2,σ2,x2,rfl,hi2,hS2⟩ ((vC (fD hx2)).2 _ hlt')
 ·exact hge
theorem WpG.ret (h:Q .ret g e H):WpG P K E n .ret Q g e H:=fun M0 H0 σ0 w0 σ a w hS=>wp_ret ⟨g,e,H,σ,h,hS⟩
theorem WpG.skip (h:Q .normal g e H):WpG P K E n .skip Q g e H:=fun M0 H0 σ0 w0 σ a w hS=>wp_skip ⟨g,e,H,σ,h,hS⟩
theorem WpG.exit {id:Nat}(h:Q (.exit id) g e H):WpG P K E n (.exit id) Q g e H:=fun M0 H0 σ0 w0 σ a w hS=>wp_exit ⟨g,e,H,σ,h,hS⟩
/-! ### operations -/
def OpsG (P:Program)(K E:TypeId)(n:Nat)(ops:Array Oper)(l:List Oper)(X:MS→dA→AHeap→Prop)(g:MS)(e:dA)(H:AHeap):Prop :=
 ∀ M0 H0 σ0 w0 σ a w (Q:Exit→Act→World→Prop),SG P K E n M0 H0 σ0 w0 g e H σ a w→(∀ a' w',KP P K E n M0 H0 σ0 w0 X a' w'→Q .normal a' w')→wpList P ops Q l a w
theorem WpG.region {id:Nat}{ops:Array Oper}(h:OpsG P K E n ops ops.toList (Q .normal) g e H):WpG P K E n (.region id ops false) Q g e H:=fun M0 H0 σ0 w0 σ a w hS=>wp_region_list (h M0 H0 σ0 w0 σ a w _ hS fun _ _ hc=>hc)
variable {ops:Array Oper} {l:List Oper} {o:Oper} {X:MS→dA→AHeap→Prop}
theorem OpsG.nil (h:X g e H):OpsG P K E n ops [] X g e H:=fun M0 H0 σ0 w0 σ a w Q hS hQ=>wpList_nil (hQ a w ⟨g,e,H,σ,h,hS⟩)
theorem OpsG.pre {md:Nat→Bool}:∀ (l1:List Oper) {l2:List Oper} {e:dA} {H:AHeap},(∀ o∈l1,oP n o.dst=true)→lL P md ops l1 e H (fun e' H'=>OpsG P K E n ops l2 X g e' H')→OpsG P K E n ops (l1++l2) X g e H
 | [],l2,e,H,hd,h=>h
 | o :: l1,l2,e,H,hd,h=>fun M0 H0 σ0 w0 σ a w Q hS hQ=>by
  unfold lL at h
  have hs:=wS (Q:=Q) h hS.st (fun hn=>mC _ (hS.st.rel.nxt _ hn)) (hd o (by simp))
  have:=StepC.mono (K':=wpList P ops Q (l1++l2)) (fun a' w' ⟨v,H',F,σ',hk,hS',hst,hkp⟩ =>
   OpsG.pre l1 (fun o' ho'=>hd o' (by simp [ho'])) hk M0 H0 σ0 w0 σ' a' w' Q ⟨hS',hS.stp.trans hst,hS.keep.trans hkp,hS.map.stp hst⟩ hQ) hs
  unfold StepC at this
  show wpList P ops Q (o :: (l1++l2)) a w
  unfold wpList
  exact this
theorem OpsG.take {md:Nat→Bool}(k:Nat)(hd:((l.take k).all fun o=>oP n o.dst)=true)(h:∀ R:dA→AHeap→Prop,(∀ e' H',OpsG P K E n ops (l.drop k) X g e' H'→R e' H')→lL P md ops (l.take k) e H R):OpsG P K E n ops l X g e H:=by
 have:=OpsG.pre (g:=g) (X:=X) (P:=P) (K:=K) (E:=E) (n:=n) (ops:=ops) (md:=md) (l.take k) (l2:=l.drop k) (fun o ho=>(bX.1 hd) o ho) (h _ fun _ _ h=>h)
 rwa [List.take_append_drop] at this
theorem OpsG.all {md:Nat→Bool}(hd:(l.all fun o=>oP n o.dst)=true)(h:∀ R:dA→AHeap→Prop,(∀ e' H',X g e' H'→R e' H')→lL P md ops l e H R):OpsG P K E n ops l X g e H:=by
 have:=OpsG.pre (g:=g) (X:=X) (P:=P) (K:=K) (E:=E) (n:=n) (ops:=ops) (md:=md) l (l2:=[]) (fun o ho=>(bX.1 hd) o ho) (h _ fun _ _ h=>OpsG.nil h)
 rwa [dJ] at this
theorem EB {M0:Nat→Prop}{σ:Nat→Option Ow}{w:World}{a:Act}(hS:St n M0 H σ w e a){m:Operand}{v:Value}(hm:eB e m=.cst v):a.eval m=v:=by
 have h:=hS.envR.ev m
 rw [hm] at h
 generalize a.eval m=x at h
 cases h;rfl
theorem M3 {M0:Nat→Prop}{σ:Nat→Option Ow}{w:World}{a:Act}(hS:St n M0 H σ w e a){x:Operand}{u v:Int}(hx:eB e x=.agg [.int .i64 u,.int .i64 v]):a.eval x=kv u v:=by
 have h:=hS.envR.ev x
 rw [hx] at h
 generalize a.eval x=y at h
 cases h
 rename_i vs hl h1 hr
 match vs,hl with
 | [p,q],_ =>
  have a0:=hr 0 p _ rfl rfl
  have a1:=hr 1 q _ rfl rfl
  cases a0;cases a1;rfl
theorem R9 {M0:Nat→Prop}{σ:Nat→Option Ow}{w:World}{a:Act}(hS:St n M0 H σ w e a){x:Operand}{k:IntKind}{u:Int}(hx:eB e x=.int k u):a.eval x=.int k u:=by
 have h:=hS.envR.ev x
 rw [hx] at h
 generalize a.eval x=y at h
 cases h;rfl
theorem Jc {M:Nat→Prop}{σ:Nat→Option Ow}{N:Nat→Prop}{w:World}(u v:Int):RepV M σ N w (kv u v) (.agg [.int .i64 u,.int .i64 v]) :=
 .agg [.int .i64 u,.int .i64 v] _ rfl (by simp [Value.oneCell']) fun j x d hx hd=>by
  match j with
  | 0=>simp at hx hd;subst hx;subst hd;exact .int _ _
  | 1=>simp at hx hd;subst hx;subst hd;exact .int _ _
  | j+2=>simp at hx
theorem C0 {M:Nat→Prop}{σ:Nat→Option Ow}{N:Nat→Prop}{w:World}{vs:List Value}{ds:List D}(hl:vs.length=ds.length)(hr:∀ (j:Nat) (u:Value) (d:D),vs[j]?=some u→ds[j]?=some d→RepV M σ N w u d):RepV M σ N w (.tuple vs.toArray) (.tup ds):=.tup _ _ hl hr
theorem OpsG.make (hT:MapT P T K E){t:TypeId}(hop:o.op=.makeMap t none)(hg:o.guard=none)(hd:oP n o.dst=true)(h:∀ b,OpsG P K E n ops l X (.mp b 0 fun _ _=>none) (mJ e o.dst (.cst (.map (some b)))) H):OpsG P K E n ops (o :: l) X .no e H :=
 fun M0 H0 σ0 w0 σ a w Q hS hQ=>by
 refine wpList_plain hg fun K' hK'=>?_
 unfold Oper.wp
 simp only [execOp,hop,RowKit.run_makeMap,Option.map_none,Sem.run_bind,Sem.run_pure,Result.andThen_ok,Result.andThen,Oper.upon_value]
 refine hK' _ _ (h w.heap.size M0 H0 σ0 w0 σ _ _ Q (hS.turned (g':=.mp w.heap.size 0 fun _ _=>none) (World.grownBy_alloc w _ none) (by simp) ⟨hS.stp.size,fun i o ho hb=>?_,_,World.ownsMap_made w P K _,fun u v _ _=>⟨rfl,by simp⟩⟩ hd (.cst _)) hQ)
 have:=(hS.st.rel.lt i o _ ho hb).1
 omega
theorem Ov (hT : MapT P T K E) {t : TypeId} (ht : t = T) {m x : Operand} (hop : o.op = .lookup t m x true) (hg : o.guard = none) (hd : oP n o.dst = true) {b k : Nat} {F : FM} (hm : eB e m = .cst (.map (some b))) {u v : Int} (hx : eB e x = .agg [.int .i64 u, .int .i64 v]) (hu : AW u) (hv : AW v)
    (h : OpsG P K E n ops l X (.mp b k F) (mJ e o.dst (.tup [.int .i64 ((F u v).getD 0), .bool (F u v).isSome])) H) : OpsG P K E n ops (o :: l) X (.mp b k F) e H :=
  fun M0 H0 σ0 w0 σ a w Q hS hQ => by
  subst ht
  obtain ⟨m1, m2, D, m3, m4⟩ := hS.map
  obtain ⟨r1, r2⟩ := m4 u v hu hv
  refine wpList_lookup_own_ok w hg m x t hop K E hT.law hT.t _ (hT.z w) (.lit (.int .i64 0)) [] (plainElem_int hT.e (H7 ⟨by omega, by omega⟩)) b k D (EB hS.st hm) m3 (kv u v) (kl u v) (M3 hS.st hx) (hT.kmk u v hu hv) fun y ps hy => ?_
  obtain ⟨c, rfl, hc, _⟩ := plainElem_int_inv hT.e hy
  have hcv : c = (F u v).getD 0 := by
    simp only [Prod.mk.injEq] at hc
    cases hF : F u v with
    | none =>
      rw [hF] at r1
      have := Maps.atKey_of_not_has r1 (.lit (.int .i64 0))
      rw [this] at hc
      have := hc.1; simp at this; simp [this]
    | some c' =>
      have := r2 c' hF (.lit (.int .i64 0))
      rw [this] at hc
      have := hc.1; simp at this; simp [this]
  subst hcv
  rw [r1]
  refine h M0 H0 σ0 w0 σ _ _ Q (hS.turned (row := none) ⟨rfl, rfl, rfl, bC _, fun _ _ _ => rfl⟩ (by simp) hS.map hd (C0 (vs := [_, _]) rfl fun j y d hy hd => ?_)) hQ
  match j with
  | 0 => simp at hy hd; subst hy; subst hd; exact .int _ _
  | 1 => simp at hy hd; subst hy; subst hd; exact .bool _
  | j + 2 => simp at hy
theorem OpsG.store (hT:MapT P T K E){t:TypeId}(ht:t=T){m x y:Operand}(hop:o.op=.mapUpdate t m x y)(hg:o.guard=none)(hd:oP n o.dst=true){b k:Nat}{F:FM}(hm:eB e m=.cst (.map (some b))){u v c:Int}(hx:eB e x=.agg [.int .i64 u,.int .i64 v])(hy:eB e y=.int .i64 c)(hu:AW u)(hv:AW v)(hc:AW c)(hk:k<1000000)
  (h:OpsG P K E n ops l X (.mp b (k+1) (Hr F u v c)) (mJ e o.dst .junk) H):OpsG P K E n ops (o :: l) X (.mp b k F) e H :=
 fun M0 H0 σ0 w0 σ a w Q hS hQ=>by
 subst ht
 obtain ⟨m1,m2,D,m3,m4⟩:=hS.map
 have hcm:∀ ad:Addr,ad.block=b→w.cell? ad=none:=by obtain ⟨es,clock,hb,_⟩:=m3;exact Pz hb
 refine wpList_mapUpdate_own w hg m x y t hop K E hT.law hT.t _ b k D (EB hS.st hm) m3 (by simp only [maxLen];omega) (kv u v) (.int .i64 c) (kl u v) (M3 hS.st hx) (R9 hS.st hy) (hT.kmk u v hu hv) (.lit (.int .i64 c)) [] (plainElem_int hT.e (H7 hc)) fun w' hw1 hw2=>?_
 refine h M0 H0 σ0 w0 σ _ _ Q (hS.turned (g':=.mp b (k+1) (Hr F u v c)) hw2 (fun b' hb'=>by cases hb';exact ⟨m1,m2,hcm⟩) ⟨m1,m2,_,hw1,fun u' v' hu' hv'=>?_⟩ hd (.junk _)) hQ
 unfold Hr
 by_cases he:u'=u∧v'=v
 ·obtain ⟨rfl,rfl⟩:=he
  rw [if_pos ⟨rfl,rfl⟩]
  have hkl:=hT.law.key (hT.kmk u' v' hu' hv')
  exact ⟨Maps.has_put_same m3.isMap hkl _,fun c' hc' z=>by cases hc';exact Maps.atKey_put_same m3.isMap hkl _ _⟩
 ·rw [if_neg he]
  have hne:kl u' v'≠kl u v:=fun e'=>he (hT.inj hu' hv' hu hv e')
  obtain ⟨r1,r2⟩:=m4 u' v' hu' hv'
  exact ⟨(Maps.has_put_other hne _).trans r1,fun c' hc' z=>(Maps.atKey_put_other hne _ _).trans (r2 c' hc' z)⟩
theorem OpsG.range (hT:MapT P T K E){t:TypeId}(ht:t=T){m:Operand}(hop:o.op=.range t m)(hg:o.guard=none)(hd:oP n o.dst=true){b k:Nat}{F:FM}(hm:eB e m=.cst (.map (some b)))
  (h:∀ r r6,OpsG P K E n ops l X (.rg b r F (fun u v=>(F u v).isSome) r6 none) (mJ e o.dst (.cst (B9 r))) H):OpsG P K E n ops (o :: l) X (.mp b k F) e H :=
 fun M0 H0 σ0 w0 σ a w Q hS hQ=>by
 subst ht
 obtain ⟨m1,m2,D,m3,m4⟩:=hS.map
 refine wpList_range_own w hg m t hop K E hT.law hT.t _ b k D (EB hS.st hm) m3 fun w' hw1 hw2 hw3=>?_
 refine h w.heap.size (Maps.size D) M0 H0 σ0 w0 σ _ _ Q (hS.turned (g':=.rg b w.heap.size F (fun u v=>(F u v).isSome) (Maps.size D) none) hw2 (by simp) ⟨m1,hS.stp.size,m2,fun i o ho hb=>?_,k,D,_,hw1,m4,fun u v hu hv=>(m4 u v hu hv).1,by simp⟩ hd (.cst _)) hQ
 have:=(hS.st.rel.lt i o _ ho hb).1
 omega
theorem OpsG.next (hT:MapT P T K E){it:Operand}(hop:o.op=.next it false)(hg:o.guard=none)(hd:oP n o.dst=true){b r r6:Nat}{F:FM}{left:Int→Int→Bool}{cur:Option (Int × Int × Int)}(hit:eB e it=.cst (B9 r))
  (h1:(∀ u v,AW u→AW v→left u v=false)→OpsG P K E n ops l X (.rg b r F left r6 cur) (mJ e o.dst (.tup [.bool false])) H)
  (h2:∀ u v c cnt',AW u→AW v→left u v=true→F u v=some c→cnt'<r6→OpsG P K E n ops l X (.rg b r F (fun u' v'=>left u' v'&&!decide (u'=u∧v'=v)) cnt' (some (u,v,c))) (mJ e o.dst (.tup [.bool true,.agg [.int .i64 u,.int .i64 v],.int .i64 c])) H) :
  OpsG P K E n ops (o :: l) X (.rg b r F left r6 cur) e H :=
 fun M0 H0 σ0 w0 σ a w Q hS hQ=>by
 obtain ⟨m1,m2,m3,m4,k,D,lf,m5,m6,m7,m8⟩:=hS.map
 have hcm:∀ ad:Addr,ad.block=r→w.cell? ad=none:=by obtain ⟨es,clock,since,seen,c0,hb,F',hn,hD,hr,_⟩:=m5;exact Og hr
 refine wpList_next_ranges w hg it hop K hT.law (plainElem P E) (fun p:Int × Int=>kv p.1 p.2) (Value.int .i64) (fun key l hkey=>?_) (fun v y hv=>?_) b r k D lf r6 (EB hS.st hit) m5 (fun hc hl=>?_) fun x c l' y w' cnt' hkey hlk hv hat hrg hlt hgr hsz hen=>?_
 ·obtain ⟨u,v,_,_,rfl⟩:=hT.inv key l hkey
  exact ⟨(u,v),rfl⟩
 ·obtain ⟨c,rfl,_⟩:=plainElem_int_inv hT.e hv;exact ⟨c,rfl⟩
 ·refine h1 (fun u v hu hv=>by rw [← m7 u v hu hv];exact hl _) M0 H0 σ0 w0 σ _ _ Q (hS.turned (row:=none) ⟨rfl,rfl,rfl,bC _,fun _ _ _=>rfl⟩ (by simp) hS.map hd (C0 (vs:=[_]) rfl fun j y d hy hd=>?_)) hQ
  match j with
  | 0=>simp at hy hd;subst hy;subst hd;exact .bool _
  | j+1=>simp at hy
 ·obtain ⟨u,v⟩:=x
  simp only at hkey hen
  obtain ⟨u',v',hu,hv',he⟩:=hT.inv _ _ hkey
  simp only [kv,Value.agg.injEq,Array.mk.injEq,List.cons.injEq,Value.int.injEq,true_and,and_true] at he
  obtain ⟨rfl,rfl⟩:=he
  rw [hT.kmk u v hu hv'] at hkey
  cases hkey
  obtain ⟨c',ec,rfl,hwc⟩:=plainElem_int_inv hT.e hv
  cases ec
  have hhas:=Maps.has_true_of_atKey hat
  obtain ⟨r1,r2⟩:=m6 u v hu hv'
  rw [hhas] at r1
  obtain ⟨c2,hc2⟩:=jI.1 r1.symm
  have hcc:c2=c:=by
   have e1:=r2 c2 hc2 .nil
   rw [hat .nil] at e1
   simp at e1;exact e1.symm
  subst hcc
  refine h2 u v c2 cnt' hu hv' (by rw [← m7 u v hu hv'];exact hlk) hc2 hlt M0 H0 σ0 w0 σ _ _ Q (hS.turned (g':=.rg b r F (fun u' v'=>left u' v'&&!decide (u'=u∧v'=v)) cnt' (some (u,v,c2))) hgr (fun b' hb'=>by cases hb';exact ⟨m2,m4,hcm⟩) ⟨m1,m2,m3,m4,k,D,_,hrg,m6,fun a1 a2 ha1 ha2=>?_,fun a1 a2 a3 ha=>?_⟩ hd (C0 (vs:=[_,_,_]) rfl fun j y d hy hd=>?_)) hQ
  ·rw [m7 a1 a2 ha1 ha2]
   congr 2
   rw [aQ]
   constructor
   ·intro h;exact decide_eq_true (hT.inj ha1 ha2 hu hv' (WideAt.sameKey_eq h))
   ·intro h
    obtain ⟨rfl,rfl⟩:=of_decide_eq_true h
    exact WideAt.sameKey_self (hT.law.key (hT.kmk _ _ hu hv'))
  ·cases ha;exact hen
  ·match j with
   | 0=>simp at hy hd;subst hy;subst hd;exact .bool _
   | 1=>simp at hy hd;subst hy;subst hd;exact Jc _ _
   | 2=>simp at hy hd;subst hy;subst hd;exact .int _ _
   | j+3=>simp at hy
theorem OpsG.entry {it:Operand}(hop:o.op=.entry it)(hg:o.guard=none)(hd:oP n o.dst=true){b r r6:Nat}{F:FM}{left:Int→Int→Bool}{u v c:Int}(hit:eB e it=.cst (B9 r))
  (h:OpsG P K E n ops l X (.rg b r F left r6 (some (u,v,c))) (mJ e o.dst (.tup [.agg [.int .i64 u,.int .i64 v],.int .i64 c])) H):OpsG P K E n ops (o :: l) X (.rg b r F left r6 (some (u,v,c))) e H :=
 fun M0 H0 σ0 w0 σ a w Q hS hQ=>by
 obtain ⟨m1,m2,m3,m4,k,D,lf,m5,m6,m7,m8⟩:=hS.map
 have hrun:=m8 u v c rfl
 refine wpList_plain hg fun K' hK'=>?_
 unfold Oper.wp
 have hit':=EB hS.st hit
 simp only [execOp,hop,hit',hrun,Sem.run_bind,Sem.run_pure,Result.andThen_ok,Result.andThen,Oper.upon_value]
 refine hK' _ _ (h M0 H0 σ0 w0 σ _ _ Q (hS.turned (row:=none) ⟨rfl,rfl,rfl,bC _,fun _ _ _=>rfl⟩ (by simp) hS.map hd (C0 (vs:=[_,_]) rfl fun j y d hy hd=>?_)) hQ)
 match j with
 | 0=>simp at hy hd;subst hy;subst hd;exact Jc _ _
 | 1=>simp at hy hd;subst hy;subst hd;exact .int _ _
 | j+2=>simp at hy
/-! ### calls -/
def GCalls (P:Program)(K E:TypeId)(f:FuncId)(args:List D)(H:AHeap)(Q:D→AHeap→MS→Prop):Prop :=
 Rg P f∧∀ (M0:Nat→Prop) (σ:Nat→Option Ow) (w:World) (vals:List Value),Rel M0 H σ w→RepL (cF M0 H σ) σ H.al w vals args →
  Calls P f vals.toArray w fun e w'=>∃ v d H' σ' g,e=.returned v∧Rel M0 H' σ' w'∧RepV (cF M0 H' σ') σ' H'.al w' v d∧Stp σ w σ' w'∧Keeps (cF M0 H σ) σ H.al w (cF M0 H' σ') σ' H'.al w'∧MpOk P K E σ' w.heap.size w' g∧Q d H' g
theorem FY {f:FuncId}{args:List D}{Q:D→AHeap→MS→Prop}{Q':D→AHeap→Prop}(h:GCalls P K E f args H Q)(hq:∀ d H' g,Q d H' g→Q' d H'):ACalls P f args H Q' :=
 ⟨h.1,fun M0 σ w vals hR ha=>(h.2 M0 σ w vals hR ha).mono fun e w' ⟨v,d,H',σ',g,a,b,c,s,k,_,q⟩=>⟨v,d,H',σ',a,b,c,s,k,hq _ _ _ q⟩⟩
def NA (P:Program)(rs:List ResultVar)(Q:D→AHeap→MS→Prop):PG:=fun ex g e H=>Nz P rs (fun d H'=>Q d H' g) ex e H
theorem wF {f:FuncId}{fn:Func}{x:Code}{args:List D}{Q:D→AHeap→MS→Prop}(hf:P.funcs[f]?=some fn)(hb:fn.body=some x)
  (hnm:(fn.name=="runtime.NumGoroutine")=false) (hlen:args.length≤fn.ntmps) (h:WpG P K E fn.ntmps x (NA P fn.results.toList Q) .no (xN args) H):GCalls P K E f args H Q:=by
 refine ⟨⟨fn,hf,hnm,by simp [hb]⟩,fun M0 σ w vals hR ha=>calls_of_wp hf hb ?_⟩
 have hS:St fn.ntmps M0 H σ w (xN args) { tmps:=vals.toArray++Array.replicate (fn.ntmps - vals.toArray.size) undef,defers:=[] }:=by
  refine ⟨hR,fun t=>?_,rfl,by simp [ha.len];omega⟩
  simp only [xN]
  by_cases ht:t<vals.length
  ·have h1:vals[t]?=some vals[t]:=aA ht
   have h2:args[t]?=some (args[t]'(by rw [← ha.len];exact ht)):=aA _
   have:=ha.rep t _ _ h1 h2
   rw [List.getD_eq_getElem?_getD,h2]
   simp only [aD,g5]
   rw [Array.getElem?_append_left (by simpa using ht)]
   simpa [h1] using this
  ·rw [List.getD_eq_getElem?_getD,bP (by rw [← ha.len];omega)]
   exact .junk _
 refine gI (h M0 H σ w σ _ w ⟨hS,.refl _ _,.refl _ _ _ _,trivial⟩) fun ex a' w' hc=>?_
 obtain ⟨g,e',H',σ',hq,hS',hst,hk,hM⟩:=hc
 have fin:AQ P fn.results.toList e' H' (fun l=>Q (Dg l) H' g)→a'.defers=[]∧∃ v,(results fn a'.tmps).run P w'=.ok v w' ∧
   ∃ v2 d H2 σ2 g2,Ending.returned v=.returned v2∧Rel M0 H2 σ2 w'∧RepV (cF M0 H2 σ2) σ2 H2.al w' v2 d∧Stp σ w σ2 w'∧Keeps (cF M0 H σ) σ H.al w (cF M0 H2 σ2) σ2 H2.al w'∧MpOk P K E σ2 w.heap.size w' g2∧Q d H2 g2:=by
  intro hq
  obtain ⟨vs,l,h1,h2,h3⟩:=uG hS' _ _ hq
  obtain ⟨v,hv1,hv2⟩:=BS (fn:=fn) h1 h2
  exact ⟨hS'.defers,v,hv1,v,_,H',σ',g,rfl,hS'.rel,hv2,hst,hk,hM,h3⟩
 cases ex<;>first|exact fin hq|exact hq.elim
theorem OpsG.call {f:FuncId}{args:List D}{Q:D→AHeap→MS→Prop}(hc:fU e o=some (f,args))(hg:o.guard=none)(hd:oP n o.dst=true)(hA:GCalls P K E f args H Q)(h:∀ d H' g',Q d H' g'→OpsG P K E n ops l X g' (mJ e o.dst d) H') :
  OpsG P K E n ops (o :: l) X .no e H:=fun M0 H0 σ0 w0 σ a w Q' hS hQ=>by
 refine wpList_plain hg fun K' hK'=>?_
 obtain ⟨vals,hrun,hrep⟩:=zC (P:=P) (fun x _=>hS.st.envR.ev x) hc hA.1
 refine yN (args:=args) hrun ((hA.2 M0 σ w vals hS.st.rel hrep).mono fun e' w' ⟨v,d,H',σ',g',he,hR',hv,hst,hk,hM,hq⟩=>?_)
 exact ⟨v,he,hK' _ _ (h d H' g' hq M0 H0 σ0 w0 σ' _ _ Q' ⟨hS.st.put hR' hk hd hv,hS.stp.trans hst,hS.keep.trans hk,hM.base hS.stp.size⟩ hQ)⟩
end
end Go.Abs
end
section
set_option maxRecDepth 100000
set_option maxHeartbeats 4000000
open Go Go.Proofs
namespace Go.Abs
@[go_sem] theorem TG (H:AHeap)(a b c d:Nat):g6 H (.ptr a b c d)=.ptr a b c d:=rfl
@[go_sem] theorem Rx (a b c d:Nat):dE (.ptr a b c d)=[]:=rfl
@[go_sem] theorem Up (H:AHeap)(i:Nat):(H.frz i).next=H.next:=(LX H i).2
@[go_sem] theorem V0 (H:AHeap)(i j:Nat):(H.frz i).get j=if j=i then (H.get i).map (fun k=>{ k with fz:=true }) else H.get j:=by
 by_cases h:j=i
 ·subst h
  unfold AHeap.frz
  cases hk:H.get j<;>simp [AHeap.put,hk]
 ·rw [if_neg h,GO H i j h]
theorem KA {P:Program}{md:Nat→Bool}{ops:Array Oper}{rest:List Oper}{e:dA}{dst:Option Tmp}{K:dA→AHeap→Prop}{f:FuncId}{args args':List D}{H:AHeap}(ha:args.map NT=args')(h:fE P md ops rest e dst K f args' H):fE P md ops rest e dst K f args H:=by
 subst ha;unfold fE at h ⊢
 exact ⟨h.1,fun M0 σ w vals hR hr=>h.2 M0 σ w vals hR ⟨by simpa using hr.len,fun j u d hu hd=>by
  rw [aR,bD] at hd
  obtain ⟨y,hy,rfl⟩:=hd
  exact HW (hr.rep j u y hu hy)⟩⟩
structure Srch where
 t:Types
 p:Graph
 g:Graph
 pn:List Int
 pe:List Int
 inj:Bool
def Pm (y:Edge):List Int:=[y.type,y.from_,y.to_]
def wH (l:List Int)(i k:Nat):Bool:=decide (l[i]?.getD (-1)<0)||decide (l[i]?.getD (-1)=(k:Int))
def uD (t:Types)(a b:Int):Bool:=mem (t.line b.toNat) a
def Sa (p:Graph)(ns:List Int)(i:Nat):Edge:=⟨(p.edges[i]?.getD bS).type,ns[(p.edges[i]?.getD bS).from_.toNat]?.getD 0,ns[(p.edges[i]?.getD bS).to_.toNat]?.getD 0⟩
def wE (S:Srch)(ns:List Int)(i k:Nat):Bool:=decide (Pm (S.g.edges[k]?.getD bS)=Pm (Sa S.p ns i))
def Gu (S:Srch)(l:List Int)(k:Nat):Bool:=wH S.pn l.length k&&(!(S.inj&&mem l k)&&uD S.t (S.p.nodes[l.length]?.getD 0) (S.g.nodes[k]?.getD 0))
def MJ (S:Srch)(ns l:List Int)(k:Nat):Bool:=wH S.pe l.length k&&(!(S.inj&&mem l k)&&wE S ns l.length k)
def Fm (S:Srch)(N:Nat)(ns:List Int):Nat→List Int→List Part→List Part
 | 0,l,ou=>if N≤ou.length then ou else ou++[⟨ns,l⟩]
 | d+1,l,ou=>if N≤ou.length then ou else (List.range S.g.edges.length).foldl (fun ou k=>if MJ S ns l k=true then Fm S N ns d (l++[(k:Int)]) ou else ou) ou
def yX (S:Srch)(l:List Int)(i:Nat):Bool:=decide ((l.length:Int)≤(S.p.edges[i]?.getD bS).from_)||decide ((l.length:Int)≤(S.p.edges[i]?.getD bS).to_)||(List.range S.g.edges.length).any (wE S l i)
def rZ (S:Srch)(l:List Int):Bool:=(List.range S.p.edges.length).all (yX S l)
def DY (S:Srch)(l:List Int)(i:Nat):Bool:=decide (max (S.p.edges[i]?.getD bS).from_ (S.p.edges[i]?.getD bS).to_≠(l.length:Int) - 1)||(List.range S.g.edges.length).any fun k=>wH S.pe i k&&wE S l i k
def rD (S:Srch)(l:List Int):Bool:=(List.range S.p.edges.length).all (DY S l)
def Ld (S:Srch)(N:Nat):Nat→List Int→List Part→List Part
 | 0,l,ou=>if N≤ou.length∨rZ S l=false then ou else Fm S N l S.p.edges.length [] ou
 | d+1,l,ou=>if N≤ou.length∨rZ S l=false then ou else (List.range S.g.nodes.length).foldl (fun ou k=>if Gu S l k=true then Ld S N d (l++[(k:Int)]) ou else ou) ou
def ME (S:Srch)(N:Nat):Nat→List Int→List Part→List Part
 | 0,l,ou=>if N≤ou.length then ou else Fm S N l S.p.edges.length [] ou
 | d+1,l,ou=>if N≤ou.length then ou else (List.range S.g.nodes.length).foldl (fun ou k=>if (Gu S l k&&rD S (l++[(k:Int)]))=true then ME S N d (l++[(k:Int)]) ou else ou) ou
/-! ### all matches -/
def CM (S:Srch)(ns:List Int):Nat→List Int→List (List Int)
 | 0,l=>[l]
 | d+1,l=>((List.range S.g.edges.length).filter (MJ S ns l)).flatMap fun (k:Nat)=>CM S ns d (l++[(k:Int)])
def Aw (S:Srch):Nat→List Int→List Part
 | 0,l=>(CM S l S.p.edges.length []).map fun es=>⟨l,es⟩
 | d+1,l=>((List.range S.g.nodes.length).filter (Gu S l)).flatMap fun (k:Nat)=>Aw S d (l++[(k:Int)])
def wR (S:Srch):List Part:=Aw S S.p.nodes.length []
theorem A0 {α:Type}(N:Nat)(a b:List α):((a.take N)++b).take N=(a++b).take N:=by
 rw [xI,xI,List.take_take,Nat.min_self]
 congr 1
 by_cases h:a.length≤N
 ·rw [aH h]
 ·rw [cN,Nat.min_eq_left (by omega)]
  rw [show N - N=0 by omega,show N - a.length=0 by omega]
theorem s4 {α:Type}(N:Nat)(ok:Nat→Bool)(f:Nat→List α→List α)(x:Nat→List α)(hf:∀ k ou,ou.length≤N→f k ou=(ou++x k).take N) :
  ∀ (l:List Nat) (ou:List α),ou.length≤N→l.foldl (fun ou k=>if ok k=true then f k ou else ou) ou=(ou++(l.filter ok).flatMap x).take N
 | [],ou,h=>by simp [aH h]
 | k :: l,ou,h=>by
  rw [List.foldl_cons]
  by_cases hk:ok k=true
  ·rw [if_pos hk,hf k ou h,s4 N ok f x hf l _ (by simp;omega),A0,List.filter_cons_of_pos hk,uZ,List.append_assoc]
  ·rw [if_neg hk,s4 N ok f x hf l _ h,List.filter_cons_of_neg hk]
theorem pP {α:Type}{N:Nat}{ou x:List α}(h:ou.length≤N)(h2:N≤ou.length):ou=(ou++x).take N:=by
 rw [xI,aH h,show N - ou.length=0 by omega];simp
theorem Hp (S:Srch)(N:Nat)(ns:List Int):∀ (d:Nat) (l:List Int) (ou:List Part),ou.length≤N→Fm S N ns d l ou=(ou++(CM S ns d l).map fun es=>(⟨ns,es⟩:Part)).take N
 | 0,l,ou,h=>by
  simp only [Fm,CM]
  split
  ·rename_i h2;exact pP h h2
  ·rw [aH (by simp;omega)];rfl
 | d+1,l,ou,h=>by
  simp only [Fm,CM]
  split
  ·rename_i h2;exact pP h h2
  ·rw [s4 N (MJ S ns l) (fun k ou=>Fm S N ns d (l++[(k:Int)]) ou) (fun k=>(CM S ns d (l++[(k:Int)])).map fun es=>(⟨ns,es⟩:Part)) (fun k ou ho=>Hp S N ns d _ ou ho) _ _ h,List.map_flatMap]
theorem EA {S:Srch}{ns:List Int}:∀ (d:Nat) (l es:List Int),es∈CM S ns d l→∀ i,l.length≤i→i<l.length+d→∃ k,k<S.g.edges.length∧wH S.pe i k=true∧wE S ns i k=true
 | 0,l,es,_,i,h1,h2=>by omega
 | d+1,l,es,h,i,h1,h2=>by
  simp only [CM,bT,fZ,b6] at h
  obtain ⟨k,⟨hk,ho⟩,hr⟩:=h
  by_cases hi:i=l.length
  ·simp only [MJ,aM] at ho
   exact ⟨k,hk,hi ▸ ho.1,hi ▸ ho.2.2⟩
  ·exact EA d _ es hr i (by simp;omega) (by simp;omega)
theorem wJ {S:Srch}:∀ (d:Nat) (l:List Int) (m:Part),m∈Aw S d l→(∃ r,m.nodes=l++r)∧m.edges∈CM S m.nodes S.p.edges.length []
 | 0,l,m,h=>by
  simp only [Aw,bG] at h
  obtain ⟨es,he,rfl⟩:=h
  exact ⟨⟨[],by simp⟩,he⟩
 | d+1,l,m,h=>by
  simp only [Aw,bT,fZ,b6] at h
  obtain ⟨k,_,hr⟩:=h
  obtain ⟨⟨r,hr1⟩,hr2⟩:=wJ d _ m hr
  exact ⟨⟨(k:Int) :: r,by rw [hr1];simp⟩,hr2⟩
theorem M6 {p:Graph}{l r:List Int}{i:Nat}(h1:(p.edges[i]?.getD bS).from_.toNat<l.length)(h2:(p.edges[i]?.getD bS).to_.toNat<l.length):Sa p (l++r) i=Sa p l i:=by
 unfold Sa
 rw [aS h1,aS h2]
theorem Ez {S:Srch}(hp:graphF S.p=0)(d:Nat)(l:List Int)(h:rZ S l=false):Aw S d l=[]:=by
 rw [vA]
 intro m hm
 obtain ⟨⟨r,hr⟩,he⟩:=wJ d l m hm
 simp only [rZ,C9,b6] at h
 obtain ⟨i,hi,hk⟩:=h
 have hx:=((dP hp).2 _ (aC hi)).2
 simp only [yX,aA hi,aD,b7,decide_eq_true_eq,not_or,aW,b6,not_exists,not_and,Int.not_le] at hk
 obtain ⟨⟨k1,k2⟩,k3⟩:=hk
 obtain ⟨k,a1,a2,a3⟩:=EA _ _ _ he i (dF _) (by simpa using hi)
 apply k3 k a1
 unfold wE at a3 ⊢
 rw [hr,M6 (by rw [aA hi,aD];omega) (by rw [aA hi,aD];omega)] at a3
 exact a3
theorem Od {S:Srch}(hp:graphF S.p=0)(d:Nat)(l:List Int)(h:rD S l=false):Aw S d l=[]:=by
 rw [vA]
 intro m hm
 obtain ⟨⟨r,hr⟩,he⟩:=wJ d l m hm
 simp only [rD,C9,b6] at h
 obtain ⟨i,hi,hk⟩:=h
 have hx:=((dP hp).2 _ (aC hi)).2
 simp only [DY,aA hi,aD,b7,decide_eq_true_eq,not_or,aW,b6,not_exists,not_and,ne_eq,iT,aM] at hk
 obtain ⟨k1,k3⟩:=hk
 obtain ⟨k,a1,a2,a3⟩:=EA _ _ _ he i (dF _) (by simpa using hi)
 refine k3 k a1 a2 ?_
 unfold wE at a3 ⊢
 rw [hr,M6 (by rw [aA hi,aD];omega) (by rw [aA hi,aD];omega)] at a3
 exact a3
theorem Lc {S:Srch}(hp:graphF S.p=0)(N:Nat):∀ (d:Nat) (l:List Int) (ou:List Part),ou.length≤N→Ld S N d l ou=(ou++Aw S d l).take N
 | 0,l,ou,h=>by
  simp only [Ld]
  split
  ·rename_i h2
   rcases h2 with h2|h2
   ·exact pP h h2
   ·rw [Ez hp 0 l h2,dJ,aH h]
  ·rw [Hp S N l _ _ _ h];rfl
 | d+1,l,ou,h=>by
  simp only [Ld]
  split
  ·rename_i h2
   rcases h2 with h2|h2
   ·exact pP h h2
   ·rw [Ez hp _ l h2,dJ,aH h]
  ·rw [s4 N (Gu S l) (fun k ou=>Ld S N d (l++[(k:Int)]) ou) (fun k=>Aw S d (l++[(k:Int)])) (fun k ou ho=>Lc hp N d _ ou ho) _ _ h];rfl
theorem Ch {α:Type}(ok po:Nat→Bool)(x:Nat→List α)(h:∀ k,po k=false→x k=[]):∀ l:List Nat,(l.filter fun k=>ok k&&po k).flatMap x=(l.filter ok).flatMap x
 | []=>rfl
 | k :: l=>by
  cases h1:ok k<;>cases h2:po k<;>simp [List.filter_cons,h1,h2,Ch ok po x h l,h k]
theorem LC {S:Srch}(hp:graphF S.p=0)(N:Nat):∀ (d:Nat) (l:List Int) (ou:List Part),ou.length≤N→ME S N d l ou=(ou++Aw S d l).take N
 | 0,l,ou,h=>by
  simp only [ME]
  split
  ·rename_i h2;exact pP h h2
  ·rw [Hp S N l _ _ _ h];rfl
 | d+1,l,ou,h=>by
  simp only [ME]
  split
  ·rename_i h2;exact pP h h2
  ·rw [s4 N (fun k=>Gu S l k&&rD S (l++[(k:Int)])) (fun k ou=>ME S N d (l++[(k:Int)]) ou) (fun k=>Aw S d (l++[(k:Int)])) (fun k ou ho=>LC hp N d _ ou ho) _ _ h]
   rw [Ch (Gu S l) (fun k=>rD S (l++[(k:Int)])) _ fun k hk=>Od hp d _ hk];rfl
theorem A4 (S:Srch){N:Nat}(ns:List Int)(d:Nat)(l:List Int){ou:List Part}(h:ou.length≤N):(Fm S N ns d l ou).length≤N:=by
 rw [Hp S N ns d l ou h];exact List.length_take_le _ _
theorem OL {S:Srch}(hp:graphF S.p=0){N:Nat}(d:Nat)(l:List Int){ou:List Part}(h:ou.length≤N):(Ld S N d l ou).length≤N:=by
 rw [Lc hp N d l ou h];exact List.length_take_le _ _
theorem LB {S:Srch}(hp:graphF S.p=0){N:Nat}(d:Nat)(l:List Int){ou:List Part}(h:ou.length≤N):(ME S N d l ou).length≤N:=by
 rw [LC hp N d l ou h];exact List.length_take_le _ _
theorem Dp {S:Srch}{N:Nat}(ns:List Int)(d:Nat)(l:List Int){ou:List Part}(h:N≤ou.length):Fm S N ns d l ou=ou:=by cases d<;>simp only [Fm,if_pos h]
end Go.Abs
end
