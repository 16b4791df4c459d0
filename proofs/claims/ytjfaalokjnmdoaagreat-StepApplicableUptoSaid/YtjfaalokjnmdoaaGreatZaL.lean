/- Small things that later texts take from the texts of layer 4 -/
import Derived.Test.YtjfaalokjnmdoaaGreatZaF
import Derived.Test.YtjfaalokjnmdoaaGreatZaK
import Derived.Test.YtjfaalokjnmdoaaGreatZaA
import Derived.Maps.RangeWalk
import Derived.DeepKeys4
set_option linter.unusedVariables false
set_option linter.unusedSimpArgs false
section
set_option maxRecDepth 100000
set_option maxHeartbeats 4000000
open Go Go.Proofs
namespace Go.Abs
theorem B5 {P:Program}{H:AHeap}{f:FuncId}{args:List D}{ty:TypeId}{sz:Nat}{es:List (List D)}{Q:D→AHeap→Prop}(hp:Own P f (args.map (gQ H)) ty sz es)(hcl:D.clL (args.map (gQ H))=true)(hf:∀ d∈es.flatten,d.flat=true)(hQ:Q (.list es) H):ACalls P f args H Q:=by
 refine ⟨hp.1,fun M0 σ w vals hR ha=>?_⟩
 obtain ⟨f1,f2,f3,f4⟩:=e8 (args.flatMap c7) hR
 refine (hp.2 (cE M0 (eJ (args.flatMap c7) H) σ) w vals (tK f1) (gA (fun _ h=>h) (C9 hR ha _ fun i h=>h) hcl)).mono fun e w' ⟨v,xs,he,hrow,h1,hrep,hcll,hsz,hb⟩=>?_
 obtain ⟨g1,g2,g3⟩:=hR.grow hb.os hb.tape hb.output hb.size hb.block
 have hv:RepV (cE M0 H σ) gG pT w' v (.list es):=by
  rcases hrow.2 with ⟨hnil,h0⟩|⟨g,cap,cur,hval,hg,hcells,hnc,hcm,hsz',htake⟩
  ·rw [hnil,bF h0];exact .listN
  ·rw [hval]
   refine .list ⟨g,0,none⟩ cap sz xs es hnc hcm hsz hrep.len h1 (fun j u hu=>⟨fun hm=>?_,hrow.cells (g:=g) (by simp [hval,Value.ownBlock]) j u hu⟩) (fun j u d hu hd=>vT (hrep.rep j u d hu hd) (hf d (aH hd)))
   have:=tK hR g hm
   omega
 exact ⟨v,.list es,H,σ,he,g1,hv.keep BD,g2,g3,hQ⟩
theorem kQ {P:Program}{md:Nat→Bool}{ops:Array Oper}{sp:List (Nat × Nat)}{n0 i:Nat}{rest:List Oper}{acc:List (Nat × List Nat)}{e:cZ}{dst:Option Tmp}{K:cZ→AHeap→Prop}{f:FuncId}{args args':List D}{H:AHeap}{ty:TypeId}{sz:Nat}{es:List (List D)}
  (hp:Own P f args' ty sz es) (ha:args.map (gQ H)=args') (hcl:D.clL args'=true) (hf:∀ d∈es.flatten,d.flat=true) {S:List Nat} (hS:args.flatMap c7=S) (hc:En sp i S acc)
  (h:iO P md ops sp n0 (i+1) rest ((i,S) :: acc) (mC e dst (.list es)) H K):nK P md ops sp n0 i rest acc e dst K f args H:=by
 subst ha hS
 unfold nK
 refine .inl ⟨.list es,_,fun H' hag=>?_,hc,h⟩
 have he:=yQ hag fun x hx=>hx
 exact B5 (by rw [he];exact hp) (by rw [he];exact hcl) hf ⟨rfl,rfl⟩
theorem dB {β:Type}(f:β→Nat→β)(b:β)(n:Nat):(List.range (n+1)).foldl f b=f ((List.range n).foldl f b) n:=by
 rw [e9,CD];rfl
theorem MU {t:Types}(hv:t.valid){a:Nat}(ha:a<t.nodes.length):mem (t.line a) a=true:=by
 rw [vL t a ha (hv.parentsOK a),sJ];simp
def cL (l:List Int):List D:=[dLI l]
@[go_sem] theorem SS (l:List (List Int)):D.clLL (l.map cL)=true:=cJ cL (fun x=>by simp [cL,go_sem]) l
attribute [go_sem] cL
@[go_sem] theorem Ue (o:Option Rule)(a1 a2 a3 a4 a5 a6 a7 a8 a9 a10 a11 a12 a13 a14 a15 a16 a17 a18 a19 a20 a21 a22 a23 a24 a25:D):((Option.map Rule.c o).getD [a1,a2,a3,a4,a5,a6,a7,a8,a9,a10,a11,a12,a13,a14,a15,a16,a17,a18,a19,a20,a21,a22,a23,a24,a25]).length=25:=by cases o<;>rfl
theorem Gd (a b:List Int):Pure Tryz.prog 51 [dLI a,dLI b] (.bool (decide (a=b))):=by
 refine Tz.pK ⟨fun _=>false,fun _=>[]⟩ Tryz.func51 rfl (fun Q hQ=>?_)
 have Y:=trivial
 refine wv (h:=?_)
 repeat first|intro _|refine ⟨eP,?_⟩
 refine wq (fun h1=>?_) fun h1=>?_
 ·refine wv (h:=?_)
  have hne:a≠b:=by intro h;subst h;omega
  exact hQ _ _ (by simp [go_sem,hne])
 ·refine wo (h:=bB (fun i e H=>(e 0=dLI a∧e 1=dLI b∧e 12=dI a.length∧e 13=dI i)∧(i≤a.length)∧(a.take i=b.take i)) (fun i=>a.length - i) 0 ⟨wg,wi,(by rfl)⟩ fun I0 hI0 i e H hi0=>?_)
  obtain ⟨E0,hi,he⟩:=hi0
  have Y:=wa Y E0
  refine cT (fun h4=>?_) fun h4=>?_
  ·have hib:i<b.length:=by omega
   have Y:=wa Y (wa h4 hib)
   refine wv (h:=?_)
   repeat first|intro _|refine ⟨eP,?_⟩
   refine wq (fun h6=>?_) fun h6=>?_
   ·refine wv (h:=?_)
    have hne:a≠b:=by intro h;subst h;exact h6 rfl
    exact hQ _ _ (by simp [go_sem,hne])
   ·exact wo (h:=wx hI0 (i+1) ⟨wg,wj,(by (rw [aF h4,aF hib,he,h6]))⟩)
  ·rw [aJ (by omega),aJ (by omega)] at he
   exact wv (h:=hQ _ _ (by simp [go_sem,he]))
theorem LS {r:Rule}(h:fewR r=true):r.ok:=by
 simp only [fewR,aP,decide_eq_true_eq] at h
 obtain ⟨⟨⟨⟨⟨h1,h2⟩,h3⟩,h4⟩,h5⟩,h6⟩:=h
 simp [fewPart] at h4 h5
 simp [fewC] at h6
 have h7:=DD r.cond 40 (by omega) h6
 exact ⟨by omega,by omega,by omega,by omega,by omega,h7.1,by omega⟩
theorem Le {P:Program}{md:Nat→Bool}{ops:Array Oper}{rest:List Oper}{e:cZ}{dst:Option Tmp}{K:cZ→AHeap→Prop}{f:FuncId}{args args':List D}{H:AHeap}{ty:TypeId}{sz:Nat}{es:List (List D)}
  (hp:Own P f args' ty sz es) (ha:args.map (gQ H)=args') (hcl:D.clL args'=true) (hf:∀ d∈es.flatten,d.flat=true) (h:lD P md ops rest (mC e dst (.list es)) H K):eY P md ops rest e dst K f args H:=by
 subst ha;unfold eY;exact B5 hp hcl hf h
theorem F7 (zs:List Int):∀ d∈(zs.map cI).flatten,d.flat=true:=by
 intro d hd;rw [wN,bG] at hd;obtain ⟨x,_,rfl⟩:=hd;rfl
def OG:List Int→Int
 | []=>0
 | a :: l=>if a≠0 then a else OG l
theorem NM {l:List Int}{i:Nat}(h:i<l.length):OG (l.drop i)=if l[i]≠0 then l[i] else OG (l.drop (i+1)):=by
 rw [fR h];rfl
theorem QU (l:List Int):Pure Tryz.prog 288 [dLI l] (dI (OG l)):=by
 refine Tz.pK ⟨fun _=>false,fun _=>[]⟩ Tryz.func288 rfl (fun Q hQ=>?_)
 have Y:=trivial
 refine wv (h:=?_)
 repeat first|intro _|refine ⟨eP,?_⟩
 refine bB (fun i e H=>(e 6=dLI l∧e 7=dI l.length∧e 3=dI 0∧e 8=dI i)∧(i≤l.length)∧(OG (l.drop i)=OG l)) (fun i=>l.length - i) 0 ⟨wg,wi,(by rfl)⟩ fun I0 hI0 i e H hi0=>?_
 obtain ⟨E0,hi,hO⟩:=hi0
 have Y:=wa Y E0
 refine cT (fun h3=>?_) fun h3=>?_
 ·have hst:=hO
  rw [NM h3] at hst
  have Y:=wa Y h3
  refine wv (h:=?_)
  repeat first|intro _|refine ⟨eP,?_⟩
  refine wq (fun h5=>?_) fun h5=>?_
  ·rw [if_pos (by omega)] at hst
   exact wv (h:=hQ _ _ (by simp [go_sem,Y,← hst]))
  ·rw [if_neg (by omega)] at hst
   refine wv (h:=?_)
   repeat first|intro _|refine ⟨eP,?_⟩
   exact wx hI0 (i+1) ⟨wg,wj,(by exact hst)⟩
 ·rw [fN (by omega)] at hO
  exact wv (h:=hQ _ _ (by simp [go_sem,← hO,OG]))
theorem EF {P:Program}(w:World)(dT sT ty elem:TypeId)(sz:Nat)(g o dLen dCap:Nat)(a:Addr)(sLen sCap n:Nat)(cur:Array Value)(t:TypeId)(cs:List Value)
  (hu:P.underlying dT=some (.slice elem)) (hs:(P.info? elem).map (·.size)=some sz)
  (hg:w.heap[g]?=some (.cells cur t (0,0))) (hn:n=Nat.min sLen dLen) (hcl:cs.length=n * sz)
  (hsrc:∀ j v,cs[j]?=some v→w.cell? (a.add j)=some v) (hfit:o+cs.length≤cur.size) (h1:∀ v∈cs,v.oneCell'=true) :
  (Builtin.copy_ #[dT,sT] ty #[.slice (some ⟨g,o,none⟩) dLen dCap,.slice (some a) sLen sCap]).run P w =
   .ok (goInt n) (w.setRow g (cur.toList.take o++cs++cur.toList.drop (o+cs.length)).toArray):=by
 have hl:=run_loadCells_list (P:=P) w a cs hsrc
 have hst:=run_storeCells_at P g o t cs 0 cur w hg (by simpa using hfit) h1
 cases hq:P.info? elem with
 | none=>simp [hq] at hs
 | some i =>
  have hi:i.size=sz:=by simpa [hq] using hs
  rw [hcl] at hl
  simp [Builtin.copy_,run_underlying hu,Builtin.lenOf,Builtin.firstCells,sizeOf,typeInfo,hq,hi,← hn,hl,hst]
def cmp1 (a b:Int):Int:=if a<b then -1 else if b<a then 1 else 0
theorem Jy (a b:Int):Pure Tryz.prog 56 [dI a,dI b] (dI (cmp1 a b)):=by
 refine Tz.pK ⟨fun _=>false,fun _=>[]⟩ Tryz.func56 rfl (fun Q hQ=>?_)
 have Y:=trivial
 refine wv (h:=aB (wQ a) wl ?_)
 refine wv (h:=aB (wQ b) wl ?_)
 refine cT (fun h9=>?_) fun h9=>?_
 ·have Y:=wa Y (wa h9 @cmp1.eq_1)
  exact wv (h:=hQ _ _ wy)
 ·refine cT (fun h11=>?_) fun h11=>?_
  ·have Y:=wa Y (wa h9 (wa h11 @cmp1.eq_1))
   exact wv (h:=hQ _ _ wy)
  ·have Y:=wa Y (wa h9 (wa h11 @cmp1.eq_1))
   exact wv (h:=hQ _ _ wy)
def uI (t:Types)(i:Nat):Bool:=match t.nodes[i]? with|some n=>n.abs|none=>false
def L1 (t:Types):List Int:=((List.range t.nodes.length).filter fun i=>!uI t i).map fun (i:Nat)=>(i:Int)
abbrev B2:=UInt8 × UInt8
def cP (x:B2):List D:=[.int .u8 (x.1.toNat:Int),.int .u8 (x.2.toNat:Int)]
@[go_sem] theorem QV (l:List B2):D.clLL (l.map cP)=true:=cJ _ (fun _=>rfl) l
theorem sH {l:List (List D)}(h:∀ c∈l,i4 c=c):eE l=l:=by
 rw [AR];conv=>rhs;rw [← List.map_id l]
 exact bS h
def cU (x:UInt8):List D:=[.int .u8 (x.toNat:Int)]
@[go_sem] theorem Lg (l:List UInt8):D.clLL (l.map cU)=true:=cJ _ (fun _=>rfl) l
theorem xH (g:Graph)(hn:g.nodes.length≤100000)(he:g.edges.length≤100000)(G:AHeap)(Q:D→AHeap→Prop)
  (hQ:∀ a b H',G.next≤a→G.next≤b→a≠b→a<H'.next→b<H'.next→H'.get a=some ⟨3,1,g.nodes.map cI,false⟩→H'.get b=some ⟨101,3,g.edges.map Edge.c,false⟩→(∀ j,j<G.next→H'.get j=G.get j)→G.next≤H'.next→Q (.agg [.own a g.nodes.length,.own b g.edges.length]) H'):ACalls Tryz.prog 175 [g.d] G Q:=by
 refine (aG (cfg:=⟨fun t=>t==2||t==3||t==7,fun r=>match r with|1=>[(0,1),(0,2),(0,4),(1,4),(2,4),(3,4),(0,5),(3,5),(4,5),(0,6),(3,6),(4,6)]|_=>[]⟩) Tz.mixed Tryz.func175 rfl rfl (aE rfl) (by kernel_rfl) ?_)
 have nx:=T5 G.next
 have Y:=nx
 refine wo (h:=?_)
 exact hQ _ _ _ (by first|omega|(simp [go_sem]<;>omega)|(simp [go_sem,nx]<;>omega)) (by first|omega|(simp [go_sem]<;>omega)|(simp [go_sem,nx]<;>omega)) (by first|omega|(simp [go_sem]<;>omega)|(simp [go_sem,nx]<;>omega)) (by first|omega|(simp [go_sem]<;>omega)|(simp [go_sem,nx]<;>omega)) (by first|omega|(simp [go_sem]<;>omega)|(simp [go_sem,nx]<;>omega)) (by simp [go_sem,nx]<;>omega) (by simp [go_sem,nx]<;>omega) (fun j hj=>by simp [go_sem,bY hj]) (by first|omega|(simp [go_sem]<;>omega)|(simp [go_sem,nx]<;>omega))
abbrev T4:=Int8 × Int8 × Int8 × Int8
def VI (x:T4):List D:=[.int .i8 x.1.toInt,.int .i8 x.2.1.toInt,.int .i8 x.2.2.1.toInt,.int .i8 x.2.2.2.toInt]
@[go_sem] theorem L5 (l:List T4):D.clLL (l.map VI)=true:=cJ _ (fun _=>rfl) l
def Graph.ends (g:Graph):Prop:=∀ x∈g.edges,(0≤x.from_∧x.from_<g.nodes.length)∧0≤x.to_∧x.to_<g.nodes.length

def Attr.good (x:Attr):Prop:=x.low≤x.high∧-1000≤x.low∧x.high≤1000
structure Types.fine (t:Types):Prop where
 ok:t.ok
 valid:t.valid
 good:∀ a,(∀ x∈bK t a,x.good)∧(bK t a).length≤8
abbrev B3:=UInt8 × UInt8 × UInt8
def Pr (x:B3):List D:=[.int .u8 (x.1.toNat:Int),.int .u8 (x.2.1.toNat:Int),.int .u8 (x.2.2.toNat:Int)]
@[go_sem] theorem CB (l:List B3):D.clLL (l.map Pr)=true:=cJ _ (fun _=>rfl) l
structure Dr5 where
 nodes:List UInt8
 edges:List B3
def Dr5.c (d:Dr5):List D:=[.list (d.nodes.map cU),.list (d.edges.map Pr)]
@[go_sem] theorem Dr5.cl (d:Dr5):D.clL d.c=true:=by simp [Dr5.c,D.clL,D.cl,Lg,CB]
def Ss (l:List Int)(b:UInt8):Int:=l[((b.toNat:Int).tmod l.length).toNat]?.getD 0
structure Dr21 where
 graph:Dr5
 slots:List B3
 tests:List T4
def Dr21.c (d:Dr21):List D:=[.list (d.graph.nodes.map cU),.list (d.graph.edges.map Pr),.list (d.slots.map Pr),.list (d.tests.map VI)]
@[go_sem] theorem Dr21.cl (d:Dr21):D.clL d.c=true:=by simp [Dr21.c,D.clL,D.cl,Lg,CB,L5]
def c2 (x:Nat × Nat):List D:=[dI x.1,dI x.2]
abbrev B4:=UInt8 × UInt8 × UInt8 × UInt8
structure Dr24 where
 left:Dr21
 keep:UInt64
 nodes:List UInt8
 edges:List B3
 slots:List B3
 plain:Bool
 inj:Bool
 forbid:B4
 order:List UInt8
def Dr24.c (d:Dr24):List D:=[.list (d.left.graph.nodes.map cU),.list (d.left.graph.edges.map Pr),.list (d.left.slots.map Pr),.list (d.left.tests.map VI),.int .u64 (d.keep.toNat:Int),.list (d.nodes.map cU),.list (d.edges.map Pr),.list (d.slots.map Pr),.bool d.plain,.bool d.inj,
 .int .u8 (d.forbid.1.toNat:Int),.int .u8 (d.forbid.2.1.toNat:Int),.int .u8 (d.forbid.2.2.1.toNat:Int),.int .u8 (d.forbid.2.2.2.toNat:Int),.list (d.order.map cU)]
@[go_sem] theorem Dr24.cl (d:Dr24):D.clL d.c=true:=by simp [Dr24.c,D.clL,D.cl,Lg,CB,L5]
@[go_sem] theorem Tx (l:List Dr24):D.clLL (l.map Dr24.c)=true:=cJ _ Dr24.cl l
def O5 (t:Types)(n:Nat)(x:B3):Edge:=⟨(x.1.toNat:Int).tmod t.edges.length,(x.2.1.toNat:Int).tmod n,(x.2.2.toNat:Int).tmod n⟩
def nN (ns:List Int)(a:Int):Int:=ns[a.toNat]?.getD 0
def VE (t:Types)(base:List Int)(ds:List UInt8)(k:Nat):List Int:=base++(List.range k).map fun i=>Ss (L1 t) (ds[i]?.getD 0)
def VF (t:Types)(ns:List Int)(x:B3):List Edge:=if mN t (O5 t ns.length x).type (nN ns (O5 t ns.length x).from_) (nN ns (O5 t ns.length x).to_)=true then [O5 t ns.length x] else []
def Wo (t:Types)(ns:List Int)(base:List Edge)(es:List B3)(k:Nat):List Edge:=base++(List.range k).flatMap fun i=>VF t ns (es[i]?.getD (0,0,0))
def N4 (t:Types)(g:Graph)(d:Dr24):Graph :=
 ⟨VE t g.nodes d.nodes (if (L1 t).length=0 then 0 else min d.nodes.length 2),
  Wo t (VE t g.nodes d.nodes (if (L1 t).length=0 then 0 else min d.nodes.length 2)) g.edges d.edges (if (VE t g.nodes d.nodes (if (L1 t).length=0 then 0 else min d.nodes.length 2)).length=0∨t.edges.length=0 then 0 else min d.edges.length 2)⟩
theorem eH (l:List Int):eE (l.map cI)=l.map cI:=sH fun c hc=>by
 rw [bG] at hc;obtain ⟨x,_,rfl⟩:=hc;rfl


structure Host where
 graph:Graph
 values:List (List Int)
def Host.c (h:Host):List D:=[dLI h.graph.nodes,.list (h.graph.edges.map Edge.c),.list (h.values.map cL)]
def Host.d (h:Host):D:=.agg h.c
@[go_sem] theorem QX (l:List (List Int)):D.clLL (l.map cL)=true:=cJ _ (fun a=>by simp [cL,D.clL,mP]) l
@[go_sem] theorem Host.cl (h:Host):h.d.cl=true:=by simp [Host.d,Host.c,D.cl,D.clL,mP,QX,sQ]
structure Dr15 where
 nodes:List B2
 edges:List B3
def Dr15.c (d:Dr15):List D:=[.list (d.nodes.map cP),.list (d.edges.map Pr)]
@[go_sem] theorem Dr15.cl (d:Dr15):D.clL d.c=true:=by simp [Dr15.c,D.clL,D.cl,QV,CB]
attribute [go_sem] Host.d Host.c
def IY (l:List Int):Bool:=decide (12<(l.length:Int))
def AY (h:Host):Bool:=fewG h.graph&&decide ((h.values.length:Int)≤45)&&!(h.values.any IY)
theorem Fu (h:Host):Pure Tryz.prog 90 [h.d] (.bool (AY h)):=by
 refine Tz.pK ⟨fun _=>false,fun _=>[]⟩ Tryz.func90 rfl (fun Q hQ=>?_)
 have Y:=wa @Host.d.eq_1 @Host.c.eq_1
 refine wo (h:=aB (wH h.graph) wl ?_)
 refine dV (fun h1=>?_) fun h1=>?_
 ·have hF:AY h=false:=by cases hg:fewG h.graph<;>simp [hg] at h1<;>simp [AY,hg]<;>omega
  exact wv (h:=hQ _ _ (by simp [go_sem,hF]))
 ·have hG:fewG h.graph=true∧(h.values.length:Int)≤45:=by cases hg:fewG h.graph<;>simp [hg] at h1<;>exact ⟨rfl,by omega⟩
  refine wv (h:=bB (fun i e H=>(e 1=.adr h.c∧e 3=dI i)∧(i≤h.values.length)∧((h.values.take i).any IY=false)) (fun i=>h.values.length - i) 0 ⟨wg,wi,(by rfl)⟩ fun I0 hI0 i e H hi0=>?_)
  obtain ⟨E0,hi,ha⟩:=hi0
  have Y:=wa Y E0
  refine dV (fun h4=>?_) fun h4=>?_
  ·have Y:=wa Y (wa h4 (wa (aA h4) @cL.eq_1))
   refine dV (fun h6=>?_) fun h6=>?_
   ·refine wv (h:=?_)
    have hF:AY h=false:=by
     have:h.values.any IY=true:=aU.2 ⟨_,aC h4,by unfold IY;simp;omega⟩
     unfold AY;rw [this];simp
    exact hQ _ _ (by simp [go_sem,hF])
   ·exact wo (h:=wx hI0 (i+1) ⟨wg,wj,(by (rw [cX _ _ _ h4,ha];unfold IY;simp;omega))⟩)
  ·have hF:AY h=true:=by have:=lM ha h4;unfold AY;rw [hG.1,this,decide_eq_true hG.2];rfl
   exact wv (h:=hQ _ _ (by simp [go_sem,hF]))
def dY (t:Types)(g h:Graph):Int:=if (cA t).2≠0 then (cA t).2 else if graphF g≠0 then graphF g else if graphF h≠0 then graphF h else if (!j5 t g||!j5 t h)=true then 13 else 0
theorem qV (t:Types)(ht:t.ok)(g h:Graph):Pure Tryz.prog 243 [t.d,g.d,h.d] (dI (dY t g h)):=by
 refine Tz.pK ⟨fun _=>false,fun _=>[]⟩ Tryz.func243 rfl (fun Q hQ=>?_)
 have Y:=trivial
 refine wv (h:=aB (n8 t ht) wl ?_)
 refine cT (fun h2=>?_) fun h2=>?_
 ·exact wv (h:=hQ _ _ (by simp [go_sem,dY,h2]))
 ·refine wv (h:=aB (jJ g) wl ?_)
  refine cT (fun h5=>?_) fun h5=>?_
  ·exact wv (h:=hQ _ _ (by simp [go_sem,dY,h2,h5]))
  ·refine wv (h:=aB (jJ h) wl ?_)
   refine cT (fun h8=>?_) fun h8=>?_
   ·exact wv (h:=hQ _ _ (by simp [go_sem,dY,h2,h5,h8]))
   ·refine wo (h:=aB (qW t g) wl ?_)
    refine wo (h:=aK (fun hg=>qW t h) (fun hg=>wl) ?_)
    refine dV (fun h10=>?_) fun h10=>?_
    ·exact wv (h:=hQ _ _ (by simp [go_sem,dY,h2,h5,h8];intro hg;rcases h10 with h|h<;>simp_all))
    ·exact wv (h:=hQ _ _ (by simp [go_sem,dY,h2,h5,h8];simpa using h10))
def light17 (t:Types)(g h:Graph):Bool:=sO t&&fewG g&&fewG h&&(decide (dY t g h≠0)||(decide ((g.nodes.length:Int)+g.edges.length≤6)&&decide ((h.nodes.length:Int)≤8)&&decide ((h.edges.length:Int)≤12)))
theorem Ix (t:Types)(ht:t.ok)(g h:Graph):Pure Tryz.prog 212 [t.d,g.d,h.d] (.bool (light17 t g h)):=by
 refine Tz.pK ⟨fun _=>false,fun _=>[]⟩ Tryz.func212 rfl (fun Q hQ=>?_)
 have ho:sO t=true→fewG g=true→fewG h=true→dY t g h=0→Np .i64 ((g.nodes.length:Int)+g.edges.length):=fun _ hg _ _=>by simp [fewG] at hg;exact cF (by omega) (by omega)
 have Y:=trivial
 refine wo (h:=aB (Fx t (fun n hn=>dM (ht.nodes n hn).few (by omega))) wl ?_)
 refine wo (h:=aK (fun hg=>wH g) (fun hg=>wl) ?_)
 refine wo (h:=aK (fun hg=>wH h) (fun hg=>wl) ?_)
 refine wo (h:=aK (fun hg=>qV t ht g h) (fun hg=>wl) ?_)
 have Y:=wa Y @light17.eq_1
 exact wo (h:=hQ _ _ wy)
def light21 (t:Types)(p:Pattern)(h:Host):Bool:=fewP p&&AY h&&light17 t p.graph h.graph
theorem It (t:Types)(ht:t.ok)(p:Pattern)(h:Host):Pure Tryz.prog 127 [t.d,p.d,h.d] (.bool (light21 t p h)):=by
 refine Tz.pK ⟨fun _=>false,fun _=>[]⟩ Tryz.func127 rfl (fun Q hQ=>?_)
 have Y:=wa @Host.c.eq_1 @Pattern.c.eq_1
 refine wo (h:=aB (r8 p) wl ?_)
 refine wo (h:=aK (fun hg=>Fu h) (fun hg=>wl) ?_)
 refine wo (h:=aK (fun hg=>Ix t ht p.graph h.graph) (fun hg=>wl) ?_)
 have Y:=wa Y @light21.eq_1
 exact wo (h:=hQ _ _ wy)
end Go.Abs
end
section
set_option maxHeartbeats 1000000
namespace Go.Abs
open Go.Maps (Keyed)
def Aw (u:Int):Prop:=-9223372036854775808≤u∧u≤9223372036854775807
theorem Hc {u:Int}(h:Aw u):(Lit.int .i64 u).wf=true:=by
 obtain ⟨h1,h2⟩:=h
 simp [Lit.wf,IntKind.min,IntKind.max,IntKind.bits,IntKind.signed];omega
theorem Nv {u:Int}(h:(Lit.int .i64 u).wf=true):Aw u:=by
 simp [Lit.wf,IntKind.min,IntKind.max,IntKind.bits,IntKind.signed] at h
 exact ⟨by omega,by omega⟩
def kv (u v:Int):Value:=.agg #[.int .i64 u,.int .i64 v]
def kl (u v:Int):Lit:=.string (keyBytes [.int .i64 u,.int .i64 v])
structure MapT (P:Program) (T K E:TypeId):Prop where
 t:P.underlying T=some (.map K E)
 e:P.underlying E=some (.int .i64)
 law:Keyed P K
 kmk:∀ u v,Aw u→Aw v→keyOf P K (kv u v)=some (kl u v)
 inv:∀ key l,keyOf P K key=some l→∃ u v,Aw u∧Aw v∧key=kv u v
 z:∀ w,(zeroValue E).run P w=.ok (.int .i64 0) w
theorem zW {P:Program}{K E:TypeId}{f0 f1:Field}(hk:P.underlying K=some (.struct #[f0,f1]))(h0:f0.type=E∧f0.offset=0∧(f0.name != "_")=true)(h1:f1.type=E∧f1.offset=1∧(f1.name != "_")=true)
  (hc:P.cellsOf K=2) (hcE:P.cellsOf E=1) (d:Nat) (a b:Value):P.keyLits (d+1) K [a,b]=(P.keyLits d E [a]).bind fun x=>(P.keyLits d E [b]).map fun y=>x++y:=by
 obtain ⟨a1,a2,a3⟩:=h0
 obtain ⟨b1,b2,b3⟩:=h1
 rw [Program.keyLits.eq_def]
 simp only [hk]
 rw [if_pos (by simp [hc,a3,b3])]
 simp only [List.mapM_cons,List.mapM_nil,a1,a2,b1,b2,hcE,List.drop_zero,qH,List.take_zero,List.drop_succ_cons,bind,pure]
 cases P.keyLits d E [a]<;>simp
 cases P.keyLits d E [b]<;>simp
theorem rA {P:Program}{E:TypeId}(he:P.underlying E=some (.int .i64))(d:Nat)(v:Value)(l:List Lit):P.keyLits (d+1) E [v]=some l↔∃ u,v=.int .i64 u∧(Lit.int .i64 u).wf=true∧l=[.int .i64 u]:=by
 rw [Program.keyLits.eq_def]
 simp only [he]
 cases v<;>simp
 rename_i k n
 constructor
 ·rintro ⟨⟨rfl,h⟩,rfl⟩;exact ⟨n,⟨rfl,rfl⟩,h,rfl⟩
 ·rintro ⟨u,⟨rfl,rfl⟩,h,rfl⟩;exact ⟨⟨rfl,h⟩,rfl⟩
theorem O6 {P : Program} {T K E : TypeId} {f0 f1 : Field} (ht : P.underlying T = some (.map K E)) (he : P.underlying E = some (.int .i64)) (hk : P.underlying K = some (.struct #[f0, f1])) (h0 : f0.type = E ∧ f0.offset = 0 ∧ (f0.name != "_") = true) (h1 : f1.type = E ∧ f1.offset = 1 ∧ (f1.name != "_") = true)
    (hc : P.cellsOf K = 2) (hcE : P.cellsOf E = 1) (hkt : P.keyType K = true) (hs : ∃ d, P.types.size + 1 = d + 1 + 1) (hlaw : Keyed P K) (hz : ∀ w, (zeroValue E).run P w = .ok (.int .i64 0) w) : MapT P T K E := by
  obtain ⟨d, hd⟩ := hs
  refine ⟨ht, he, hlaw, fun u v hu hv => ?_, fun key l h => ?_, hz⟩
  · unfold keyOf
    simp only [hk]
    rw [if_pos (by simp [hkt, Value.formed, hk, kv, hc]), hd]
    have e0 := (rA he d (.int .i64 u) _).2 ⟨u, rfl, Hc hu, rfl⟩
    have e1 := (rA he d (.int .i64 v) _).2 ⟨v, rfl, Hc hv, rfl⟩
    show ((P.keyLits (d + 1 + 1) K [.int .i64 u, .int .i64 v]).map fun ls => Lit.string (keyBytes ls)) = _
    rw [zW hk h0 h1 hc hcE, e0, e1]; rfl
  · unfold keyOf at h
    simp only [hk] at h
    split at h
    · rename_i hf
      rw [aP] at hf
      have hf2 := hf.2
      cases key <;> simp [Value.formed, hk, hc] at hf2
      rename_i cs
      obtain ⟨cs⟩ := cs
      match cs, hf2 with
      | [a, b], _ =>
        rw [hd] at h
        have h' : ((P.keyLits (d + 1 + 1) K [a, b]).map fun ls => Lit.string (keyBytes ls)) = some l := h
        rw [zW hk h0 h1 hc hcE] at h'
        cases ha : P.keyLits (d + 1) E [a] with
        | none => rw [ha] at h'; cases h'
        | some x =>
          cases hb : P.keyLits (d + 1) E [b] with
          | none => rw [ha, hb] at h'; cases h'
          | some y =>
            obtain ⟨u, rfl, hu, _⟩ := (rA he d a x).1 ha
            obtain ⟨v, rfl, hv, _⟩ := (rA he d b y).1 hb
            exact ⟨u, v, Nv hu, Nv hv, rfl⟩
    · cases h
section
variable {P:Program} {T K E:TypeId}
theorem MapT.inj (h:MapT P T K E){u v u' v':Int}(a:Aw u)(b:Aw v)(a':Aw u')(b':Aw v')(e:kl u v=kl u' v'):u=u'∧v=v':=by
 have:=h.law.inj (h.kmk u v a b) (e ▸ h.kmk u' v' a' b')
 simpa [kv] using this
abbrev FM:=Int→Int→Option Int
def GG (F:FM)(u v c:Int):FM:=fun u' v'=>if u'=u∧v'=v then some c else F u' v'
def P0 (D:DataW Unit)(F:FM):Prop:=∀ u v,Aw u→Aw v→Maps.has D (kl u v)=(F u v).isSome∧∀ c,F u v=some c→∀ z,D.atKey (kl u v) z=.lit (.int .i64 c)
inductive MS where
 | no
 | mp (b n:Nat) (F:FM)
 | rg (b r:Nat) (F:FM) (left:Int→Int→Bool) (rS:Nat) (cur:Option (Int × Int × Int))
def KT (σ:Nat→Option Ow)(b:Nat):Prop:=∀ i o,σ i=some o→o.block≠some b
def BE (r:Nat):Value:=.pointer (some ⟨r,0,none⟩)
def MpOk (P:Program)(K E:TypeId)(σ:Nat→Option Ow)(base:Nat)(w:World):MS→Prop
 | .no=>True
 | .mp b n F=>base≤b∧KT σ b∧∃ D:DataW Unit,w.ownsMap P K (plainElem P E) b n D∧P0 D F
 | .rg b r F left rS cur=>base≤b∧base≤r∧KT σ b∧KT σ r∧∃ (n:Nat) (D:DataW Unit) (lf:Lit→Bool),w.ranges P K (plainElem P E) b r n D lf rS∧P0 D F∧(∀ u v,Aw u→Aw v→lf (kl u v)=left u v) ∧
   ∀ u v c,cur=some (u,v,c)→(Instr.entry (BE r)).run P w=.ok (.tuple #[kv u v,.int .i64 c]) w
theorem DS {σ σ':Nat→Option Ow}{w w':World}(hs:Stp σ w σ' w'){b:Nat}(hb:b<w.heap.size)(h:KT σ b):KT σ' b:=fun i o' ho hb'=>by
 rcases hs.new i o' b ho hb' with h1|⟨j,o,h1,h2⟩
 ·omega
 ·exact h j o h1 h2
theorem KU {w w' : World} {r b s c clock : Nat} {seen : Array Nat} {es : Array MapEntry} {v : Value} (hr : w.heap[r]? = some (.mapIter (some b) s seen c)) (hb : w.heap[b]? = some (.map es clock))
    (hr' : w'.heap[r]? = some (.mapIter (some b) s seen c)) (hb' : w'.heap[b]? = some (.map es clock)) (h : (Instr.entry (BE r)).run P w = .ok v w) : (Instr.entry (BE r)).run P w' = .ok v w' := by
  simp only [BE, Instr.entry, getObj, Sem.run_bind, Sem.run, hr, hb, hr', hb', Result.andThen] at h ⊢
  cases hs : seen.back? with
  | none => simp [hs, stuck, Sem.run] at h
  | some st =>
    simp only [hs, getObj, Sem.run_bind, Sem.run, hb, hb', Result.andThen] at h ⊢
    by_cases hc : clock = c
    · subst hc
      simp only [bne_self_eq_false, dO, if_false, if_true] at h ⊢
      cases hf : es.find? (fun x => x.born == st) with
      | none => simp [hf, unsupported, Sem.run, Result.andThen] at h
      | some x =>
        simp only [hf, Sem.run_pure, Sem.run, Result.ok.injEq, Result.andThen] at h ⊢
        simp_all
    · simp [hc, unsupported, Sem.run, Result.andThen] at h
theorem MpOk.stp {σ σ':Nat→Option Ow}{w w':World}{base:Nat}{g:MS}(h:MpOk P K E σ base w g)(hs:Stp σ w σ' w'):MpOk P K E σ' base w' g:=by
 cases g with
 | no=>trivial
 | mp b n F =>
  obtain ⟨h1,h2,D,h3,h4⟩:=h
  have hlt:=h3.lt
  have he:=hs.old b hlt h2
  refine ⟨h1,DS hs hlt h2,D,?_,h4⟩
  obtain ⟨es,clock,hb,rest⟩:=h3
  exact ⟨es,clock,he.trans hb,rest⟩
 | rg b r F left rS cur =>
  obtain ⟨h1,h2,h3,h4,n,D,lf,h5,h6,h7,h8⟩:=h
  have hlb:=h5.owns.lt
  have hlr:=h5.lt
  have eb:=hs.old b hlb h3
  have er:=hs.old r hlr h4
  obtain ⟨es,clock,since,seen,c0,hb,F',hn,hD,hr,rest⟩:=h5
  exact ⟨h1,h2,DS hs hlb h3,DS hs hlr h4,n,D,lf,⟨es,clock,since,seen,c0,eb.trans hb,F',hn,hD,er.trans hr,rest⟩,h6,h7,fun u v c hc=>KU hr hb (er.trans hr) (eb.trans hb) (h8 u v c hc)⟩
theorem MpOk.base {σ:Nat→Option Ow}{w:World}{base base':Nat}{g:MS}(h:MpOk P K E σ base w g)(hb:base'≤base):MpOk P K E σ base' w g:=by
 cases g with
 | no=>trivial
 | mp b n F=>exact ⟨dM hb h.1,h.2⟩
 | rg b r F left rS cur=>exact ⟨dM hb h.1,dM hb h.2.1,h.2.2⟩
theorem Om {w:World}{b:Nat}{es:Array MapEntry}{clock:Nat}(hb:w.heap[b]?=some (.map es clock)):∀ ad:Addr,ad.block=b→w.cell? ad=none:=fun ad e=>by simp [World.cell?,e,hb]
theorem Na {w:World}{r:Nat}{m:Option Nat}{s c:Nat}{seen:Array Nat}(hr:w.heap[r]?=some (.mapIter m s seen c)):∀ ad:Addr,ad.block=r→w.cell? ad=none:=fun ad e=>by simp [World.cell?,e,hr]
theorem Rel.turned {M0:Nat→Prop}{H:AHeap}{σ:Nat→Option Ow}{w w':World}{row:Option Nat}(h:Rel M0 H σ w)(hg:w.grownBy w' row)(hr:∀ b,row=some b→KT σ b∧∀ ad:Addr,ad.block=b→w.cell? ad=none) :
  Rel M0 H σ w'∧Keeps (cE M0 H σ) σ H.al w (cE M0 H σ) σ H.al w':=by
 have hk:Keeps (cE M0 H σ) σ H.al w (cE M0 H σ) σ H.al w':=⟨fun ad u hm hu=>⟨hm,by
  have hne:some ad.block≠row:=fun e=>by rw [(hr _ e.symm).2 ad rfl] at hu;cases hu
  exact (World.cell?_of_block (hg.block ad.block (World.block_lt_of_cell? w ad hu) hne)).trans hu⟩,fun id o' _ h=>⟨o',h,.inl rfl⟩,fun _ h=>h⟩
 refine ⟨⟨h.top,h.nxt,fun id k hk'=>?_,h.inj,fun i o b' ho hb'=>⟨bP (h.lt i o b' ho hb').1 hg.size,(h.lt i o b' ho hb').2⟩,fun b' hb'=>bP (h.m0 b' hb') hg.size⟩,hk⟩
 obtain ⟨o,ho,l⟩:=h.lies id k hk'
 obtain ⟨xs,h1,h2,h3⟩:=l.row
 refine ⟨o,ho,l.ver,l.ty,l.sz,l.esz,xs,h1.kept hg ?_,h2,h3.keep hk⟩
 cases hb:o.val.ownBlock with
 | none=>exact .inl rfl
 | some b'=>exact .inr fun e=>(hr b' e.symm).1 id o ho hb
theorem Stp.turned {σ0 σ:Nat→Option Ow}{w0 w w':World}{row:Option Nat}(h:Stp σ0 w0 σ w)(hg:w.grownBy w' row)(hr:∀ b,row=some b→w0.heap.size≤b):Stp σ0 w0 σ w' :=
 ⟨hg.os.trans h.os,hg.tape.trans h.tape,hg.output.trans h.output,dM h.size hg.size,fun b hb hn=>(hg.block b (bP hb h.size) (fun e=>by have:=hr b e.symm;omega)).trans (h.old b hb hn),h.new⟩
structure SG (P:Program) (K E:TypeId) (n:Nat) (M0:Nat→Prop) (H0:AHeap) (σ0:Nat→Option Ow) (w0:World) (g:MS) (e:cZ) (H:AHeap) (σ:Nat→Option Ow) (a:Act) (w:World):Prop where
 st:St n M0 H σ w e a
 stp:Stp σ0 w0 σ w
 keep:Keeps (cE M0 H0 σ0) σ0 H0.al w0 (cE M0 H σ) σ H.al w
 map:MpOk P K E σ w0.heap.size w g
section
variable {n:Nat} {M0:Nat→Prop} {H0 H:AHeap} {σ0 σ:Nat→Option Ow} {w0 w w':World} {g g':MS} {e:cZ} {a:Act}
theorem SG.turned {row:Option Nat}(h:SG P K E n M0 H0 σ0 w0 g e H σ a w)(hg:w.grownBy w' row)(hr:∀ b,row=some b→w0.heap.size≤b∧KT σ b∧∀ ad:Addr,ad.block=b→w.cell? ad=none)
  (hM:MpOk P K E σ w0.heap.size w' g') {dst:Option Tmp} (hd:oG n dst=true) {v:Value} {d:D} (hv:RepV (cE M0 H σ) σ H.al w' v d):SG P K E n M0 H0 σ0 w0 g' (mC e dst d) H σ (a.put dst v) w':=by
 obtain ⟨h1,h2⟩:=h.st.rel.turned hg fun b hb=>(hr b hb).2
 exact ⟨h.st.put h1 h2 hd hv,h.stp.turned hg fun b hb=>(hr b hb).1,h.keep.trans h2,hM⟩
def JR (P:Program)(K E:TypeId)(n:Nat)(M0:Nat→Prop)(H0:AHeap)(σ0:Nat→Option Ow)(w0:World)(X:MS→cZ→AHeap→Prop)(a:Act)(w:World):Prop:=∃ g e H σ,X g e H∧SG P K E n M0 H0 σ0 w0 g e H σ a w
end
abbrev PG:=Exit→MS→cZ→AHeap→Prop
def WpG (P:Program)(K E:TypeId)(n:Nat)(x:Code)(Q:PG)(g:MS)(e:cZ)(H:AHeap):Prop :=
 ∀ M0 H0 σ0 w0 σ a w,SG P K E n M0 H0 σ0 w0 g e H σ a w→x.wp P (fun ex a w=>JR P K E n M0 H0 σ0 w0 (Q ex) a w) a w
def Fn (R:MS→cZ→AHeap→Prop)(Q:PG):PG
 | .normal,g,e,H=>R g e H
 | ex,g,e,H=>Q ex g e H
def Hr (id:Nat)(Q:PG):PG
 | .exit id',g,e,H=>if id'=id then Q .normal g e H else Q (.exit id') g e H
 | ex,g,e,H=>Q ex g e H
variable {n:Nat} {c:Cfg} {Q:PG} {g:MS} {e:cZ} {H:AHeap}
theorem fC {x:Code}(hm:P.follows .mixedOrders=true)(hok:mQ c n x=true)(h:l7 P c x (fun ex e H=>Q ex g e H) e H):WpG P K E n x Q g e H :=
 fun M0 H0 σ0 w0 σ a w hS=>f9 (l3 hm x _ e H h hok σ w a hS.st) fun ex a' w' ⟨e',H',σ',hq,hS',hst',hk'⟩=>⟨g,e',H',σ',hq,hS',hS.stp.trans hst',hS.keep.trans hk',hS.map.stp hst'⟩
theorem WpG.seq {x y:Code}(h:WpG P K E n x (Fn (WpG P K E n y Q) Q) g e H):WpG P K E n (.seq x y) Q g e H:=fun M0 H0 σ0 w0 σ a w hS=>by
 refine wp_seq (f9 (h M0 H0 σ0 w0 σ a w hS) fun ex a' w' hc=>?_)
 cases ex<;>first|exact hc|skip
 obtain ⟨g',e',H',σ',hq,hS'⟩:=hc
 exact hq M0 H0 σ0 w0 σ' a' w' hS'
theorem cR {x y:Code}(h:∀ R:MS→cZ→AHeap→Prop,(∀ g e H,WpG P K E n y Q g e H→R g e H)→WpG P K E n x (Fn R Q) g e H):WpG P K E n (.seq x y) Q g e H:=.seq (h _ fun _ _ _ h=>h)
@[go_sem] theorem OR {R:MS→cZ→AHeap→Prop}{g:MS}{e:cZ}{H:AHeap}:Fn R Q .normal g e H=R g e H:=rfl
@[go_sem] theorem Q5 {R:MS→cZ→AHeap→Prop}{g:MS}{e:cZ}{H:AHeap}:Fn R Q .ret g e H=Q .ret g e H:=rfl
@[go_sem] theorem P6 {R:MS→cZ→AHeap→Prop}{g:MS}{e:cZ}{H:AHeap}{i:Nat}:Fn R Q (.exit i) g e H=Q (.exit i) g e H:=rfl
@[go_sem] theorem QZ {i:Nat}{g:MS}{e:cZ}{H:AHeap}:Hr i Q .ret g e H=Q .ret g e H:=rfl
@[go_sem] theorem OK {i:Nat}{g:MS}{e:cZ}{H:AHeap}:Hr i Q .normal g e H=Q .normal g e H:=rfl
@[go_sem] theorem PW {i j:Nat}{g:MS}{e:cZ}{H:AHeap}:Hr i Q (.exit j) g e H=if j=i then Q .normal g e H else Q (.exit j) g e H:=rfl
theorem WpG.cond {x:Operand}{y z:Code}{t:Bool}(hx:dU e x=.bool t)(h1:t=true→WpG P K E n y Q g e H)(h2:t=false→WpG P K E n z Q g e H):WpG P K E n (.cond x y z) Q g e H:=fun M0 H0 σ0 w0 σ a w hS=>by
 have hv:=hS.st.envR.ev x
 rw [hx] at hv
 have hc:a.eval x=.bool t:=by generalize a.eval x=v at hv;cases hv;rfl
 exact wp_cond_split hc (fun ht=>h1 ht M0 H0 σ0 w0 σ a w hS) fun ht=>h2 ht M0 H0 σ0 w0 σ a w hS
theorem WpG.block {id:Nat}{b:Code}(h:WpG P K E n b (Hr id Q) g e H):WpG P K E n (.block id b) Q g e H:=fun M0 H0 σ0 w0 σ a w hS=>by
 refine wp_block (f9 (h M0 H0 σ0 w0 σ a w hS) fun ex a' w' hc=>?_)
 cases ex<;>first|exact hc|skip
 rename_i id'
 obtain ⟨g',e',H',σ',hq,hS'⟩:=hc
 by_cases hid:id'=id
 ·subst hid
  show (if id'=id' then JR P K E n M0 H0 σ0 w0 (Q .normal) a' w' else _)
  rw [if_pos rfl]
  refine ⟨g',e',H',σ',?_,hS'⟩
  have h':(if id'=id' then Q .normal g' e' H' else Q (.exit id') g' e' H'):=hq
  rw [if_pos rfl] at h';exact h'
 ·show (if id'=id then JR P K E n M0 H0 σ0 w0 (Q .normal) a' w' else JR P K E n M0 H0 σ0 w0 (Q (.exit id')) a' w')
  rw [if_neg hid]
  refine ⟨g',e',H',σ',?_,hS'⟩
  have h':(if id'=id then Q .normal g' e' H' else Q (.exit id') g' e' H'):=hq
  rw [if_neg hid] at h';exact h'
theorem WpG.loop {b:Code}{ι:Type}(I:ι→MS→cZ→AHeap→Prop)(m:ι→Nat)(x0:ι)(h0:I x0 g e H)(hI:∀ x g e H,I x g e H→WpG P K E n b (Fn (fun g' e' H'=>∃ x',m x'<m x∧I x' g' e' H') Q) g e H):WpG P K E n (.loop b) Q g e H :=
 fun M0 H0 σ0 w0 σ a w hS=>by
 let J:Nat→Act→World→Prop:=fun k a' w'=>∃ g e H σ x,m x=k∧I x g e H∧SG P K E n M0 H0 σ0 w0 g e H σ a' w'
 have hJ0:J (m x0) a w:=⟨g,e,H,σ,x0,rfl,h0,hS⟩
 classical
 let μ:Act→World→Nat:=fun a' w'=>if hx:∃ k,J k a' w' then Classical.choose (eX hx) else 0
 refine wp_loop (fun a' w'=>∃ k,J k a' w') μ ⟨_,hJ0⟩ fun a' w' hx=>?_
 have hμ:μ a' w'=Classical.choose (eX hx):=by simp only [μ,dif_pos hx]
 obtain ⟨g1,e1,H1,σ1,x1,hx1,hi,hS1⟩:=(uU (eX hx)).1
 refine f9 (hI x1 g1 e1 H1 hi M0 H0 σ0 w0 σ1 a' w' hS1) fun ex a'' w'' hc=>?_
 cases ex<;>first|exact hc|skip
 obtain ⟨g2,e2,H2,σ2,⟨x2,hlt,hi2⟩,hS2⟩:=hc
 have hx2:∃ k,J k a'' w'':=⟨m x2,g2,e2,H2,σ2,x2,rfl,hi2,hS2⟩
 refine ⟨hx2,?_⟩
 have:μ a'' w''=Classical.choose (eX hx2):=by simp only [μ,dif_pos hx2]
 rw [this,hμ]
 refine Nat.lt_of_le_of_lt ?_ (hx1 ▸ hlt)
 rcases bN (m x2) (Classical.choose (eX hx2)) with hlt'|hge
 ·exact absurd ⟨g2,e2,H2,σ2,x2,rfl,hi2,hS2⟩ ((uU (eX hx2)).2 _ hlt')
 ·exact hge
theorem WpG.ret (h:Q .ret g e H):WpG P K E n .ret Q g e H:=fun M0 H0 σ0 w0 σ a w hS=>wp_ret ⟨g,e,H,σ,h,hS⟩
theorem WpG.skip (h:Q .normal g e H):WpG P K E n .skip Q g e H:=fun M0 H0 σ0 w0 σ a w hS=>wp_skip ⟨g,e,H,σ,h,hS⟩
theorem WpG.exit {id:Nat}(h:Q (.exit id) g e H):WpG P K E n (.exit id) Q g e H:=fun M0 H0 σ0 w0 σ a w hS=>wp_exit ⟨g,e,H,σ,h,hS⟩
/-! ### operations -/
def OpsG (P:Program)(K E:TypeId)(n:Nat)(ops:Array Oper)(l:List Oper)(X:MS→cZ→AHeap→Prop)(g:MS)(e:cZ)(H:AHeap):Prop :=
 ∀ M0 H0 σ0 w0 σ a w (Q:Exit→Act→World→Prop),SG P K E n M0 H0 σ0 w0 g e H σ a w→(∀ a' w',JR P K E n M0 H0 σ0 w0 X a' w'→Q .normal a' w')→wpList P ops Q l a w
theorem WpG.region {id:Nat}{ops:Array Oper}(h:OpsG P K E n ops ops.toList (Q .normal) g e H):WpG P K E n (.region id ops false) Q g e H:=fun M0 H0 σ0 w0 σ a w hS=>wp_region_list (h M0 H0 σ0 w0 σ a w _ hS fun _ _ hc=>hc)
variable {ops:Array Oper} {l:List Oper} {o:Oper} {X:MS→cZ→AHeap→Prop}
theorem OpsG.nil (h:X g e H):OpsG P K E n ops [] X g e H:=fun M0 H0 σ0 w0 σ a w Q hS hQ=>wpList_nil (hQ a w ⟨g,e,H,σ,h,hS⟩)
theorem OpsG.pre {md:Nat→Bool}:∀ (l1:List Oper) {l2:List Oper} {e:cZ} {H:AHeap},(∀ o∈l1,oG n o.dst=true)→lD P md ops l1 e H (fun e' H'=>OpsG P K E n ops l2 X g e' H')→OpsG P K E n ops (l1++l2) X g e H
 | [],l2,e,H,hd,h=>h
 | o :: l1,l2,e,H,hd,h=>fun M0 H0 σ0 w0 σ a w Q hS hQ=>by
  unfold lD at h
  have hs:=wA (Q:=Q) h hS.st (fun hn=>l4 _ (hS.st.rel.nxt _ hn)) (hd o (by simp))
  have:=StepC.mono (K':=wpList P ops Q (l1++l2)) (fun a' w' ⟨v,H',F,σ',hk,hS',hst,hkp⟩ =>
   OpsG.pre l1 (fun o' ho'=>hd o' (by simp [ho'])) hk M0 H0 σ0 w0 σ' a' w' Q ⟨hS',hS.stp.trans hst,hS.keep.trans hkp,hS.map.stp hst⟩ hQ) hs
  unfold StepC at this
  show wpList P ops Q (o :: (l1++l2)) a w
  unfold wpList
  exact this
theorem OpsG.take {md:Nat→Bool}(k:Nat)(hd:((l.take k).all fun o=>oG n o.dst)=true)(h:∀ R:cZ→AHeap→Prop,(∀ e' H',OpsG P K E n ops (l.drop k) X g e' H'→R e' H')→lD P md ops (l.take k) e H R):OpsG P K E n ops l X g e H:=by
 have:=OpsG.pre (g:=g) (X:=X) (P:=P) (K:=K) (E:=E) (n:=n) (ops:=ops) (md:=md) (l.take k) (l2:=l.drop k) (fun o ho=>(bV.1 hd) o ho) (h _ fun _ _ h=>h)
 rwa [List.take_append_drop] at this
theorem OpsG.all {md:Nat→Bool}(hd:(l.all fun o=>oG n o.dst)=true)(h:∀ R:cZ→AHeap→Prop,(∀ e' H',X g e' H'→R e' H')→lD P md ops l e H R):OpsG P K E n ops l X g e H:=by
 have:=OpsG.pre (g:=g) (X:=X) (P:=P) (K:=K) (E:=E) (n:=n) (ops:=ops) (md:=md) l (l2:=[]) (fun o ho=>(bV.1 hd) o ho) (h _ fun _ _ h=>OpsG.nil h)
 rwa [c5] at this
theorem DY {M0:Nat→Prop}{σ:Nat→Option Ow}{w:World}{a:Act}(hS:St n M0 H σ w e a){m:Operand}{v:Value}(hm:dU e m=.cst v):a.eval m=v:=by
 have h:=hS.envR.ev m
 rw [hm] at h
 generalize a.eval m=x at h
 cases h;rfl
theorem LV {M0:Nat→Prop}{σ:Nat→Option Ow}{w:World}{a:Act}(hS:St n M0 H σ w e a){x:Operand}{u v:Int}(hx:dU e x=.agg [.int .i64 u,.int .i64 v]):a.eval x=kv u v:=by
 have h:=hS.envR.ev x
 rw [hx] at h
 generalize a.eval x=y at h
 cases h
 rename_i vs hl h1 hr
 match vs,hl with
 | [p,q],_ =>
  have a0:=hr 0 p _ rfl rfl
  have a1:=hr 1 q _ rfl rfl
  cases a0;cases a1;rfl
theorem QM {M0:Nat→Prop}{σ:Nat→Option Ow}{w:World}{a:Act}(hS:St n M0 H σ w e a){x:Operand}{k:IntKind}{u:Int}(hx:dU e x=.int k u):a.eval x=.int k u:=by
 have h:=hS.envR.ev x
 rw [hx] at h
 generalize a.eval x=y at h
 cases h;rfl
theorem Ig {M:Nat→Prop}{σ:Nat→Option Ow}{N:Nat→Prop}{w:World}(u v:Int):RepV M σ N w (kv u v) (.agg [.int .i64 u,.int .i64 v]) :=
 .agg [.int .i64 u,.int .i64 v] _ rfl (by simp [Value.oneCell']) fun j x d hx hd=>by
  match j with
  | 0=>simp at hx hd;subst hx;subst hd;exact .int _ _
  | 1=>simp at hx hd;subst hx;subst hd;exact .int _ _
  | j+2=>simp at hx
theorem Ct {M:Nat→Prop}{σ:Nat→Option Ow}{N:Nat→Prop}{w:World}{vs:List Value}{ds:List D}(hl:vs.length=ds.length)(hr:∀ (j:Nat) (u:Value) (d:D),vs[j]?=some u→ds[j]?=some d→RepV M σ N w u d):RepV M σ N w (.tuple vs.toArray) (.tup ds):=.tup _ _ hl hr
theorem OpsG.make (hT:MapT P T K E){t:TypeId}(hop:o.op=.makeMap t none)(hg:o.guard=none)(hd:oG n o.dst=true)(h:∀ b,OpsG P K E n ops l X (.mp b 0 fun _ _=>none) (mC e o.dst (.cst (.map (some b)))) H):OpsG P K E n ops (o :: l) X .no e H :=
 fun M0 H0 σ0 w0 σ a w Q hS hQ=>by
 refine wpList_plain hg fun K' hK'=>?_
 unfold Oper.wp
 simp only [execOp,hop,RowKit.run_makeMap,Option.map_none,Sem.run_bind,Sem.run_pure,Result.andThen_ok,Result.andThen,Oper.upon_value]
 refine hK' _ _ (h w.heap.size M0 H0 σ0 w0 σ _ _ Q (hS.turned (g':=.mp w.heap.size 0 fun _ _=>none) (World.grownBy_alloc w _ none) (by simp) ⟨hS.stp.size,fun i o ho hb=>?_,_,World.ownsMap_made w P K _,fun u v _ _=>⟨rfl,by simp⟩⟩ hd (.cst _)) hQ)
 have:=(hS.st.rel.lt i o _ ho hb).1
 omega
theorem Nm (hT : MapT P T K E) {t : TypeId} (ht : t = T) {m x : Operand} (hop : o.op = .lookup t m x true) (hg : o.guard = none) (hd : oG n o.dst = true) {b k : Nat} {F : FM} (hm : dU e m = .cst (.map (some b))) {u v : Int} (hx : dU e x = .agg [.int .i64 u, .int .i64 v]) (hu : Aw u) (hv : Aw v)
    (h : OpsG P K E n ops l X (.mp b k F) (mC e o.dst (.tup [.int .i64 ((F u v).getD 0), .bool (F u v).isSome])) H) : OpsG P K E n ops (o :: l) X (.mp b k F) e H :=
  fun M0 H0 σ0 w0 σ a w Q hS hQ => by
  subst ht
  obtain ⟨m1, m2, D, m3, m4⟩ := hS.map
  obtain ⟨r1, r2⟩ := m4 u v hu hv
  refine wpList_lookup_own_ok w hg m x t hop K E hT.law hT.t _ (hT.z w) (.lit (.int .i64 0)) [] (plainElem_int hT.e (Hc ⟨by omega, by omega⟩)) b k D (DY hS.st hm) m3 (kv u v) (kl u v) (LV hS.st hx) (hT.kmk u v hu hv) fun y ps hy => ?_
  obtain ⟨c, rfl, hc, _⟩ := plainElem_int_inv hT.e hy
  have hcv : c = (F u v).getD 0 := by
    simp only [Prod.mk.injEq] at hc
    cases hF : F u v with
    | none =>
      rw [hF] at r1
      have := Maps.atKey_of_not_has r1 (.lit (.int .i64 0))
      rw [this] at hc
      have := hc.1; simp at this; simp [this]
    | some c' =>
      have := r2 c' hF (.lit (.int .i64 0))
      rw [this] at hc
      have := hc.1; simp at this; simp [this]
  subst hcv
  rw [r1]
  refine h M0 H0 σ0 w0 σ _ _ Q (hS.turned (row := none) ⟨rfl, rfl, rfl, bC _, fun _ _ _ => rfl⟩ (by simp) hS.map hd (Ct (vs := [_, _]) rfl fun j y d hy hd => ?_)) hQ
  match j with
  | 0 => simp at hy hd; subst hy; subst hd; exact .int _ _
  | 1 => simp at hy hd; subst hy; subst hd; exact .bool _
  | j + 2 => simp at hy
theorem OpsG.store (hT:MapT P T K E){t:TypeId}(ht:t=T){m x y:Operand}(hop:o.op=.mapUpdate t m x y)(hg:o.guard=none)(hd:oG n o.dst=true){b k:Nat}{F:FM}(hm:dU e m=.cst (.map (some b))){u v c:Int}(hx:dU e x=.agg [.int .i64 u,.int .i64 v])(hy:dU e y=.int .i64 c)(hu:Aw u)(hv:Aw v)(hc:Aw c)(hk:k<1000000)
  (h:OpsG P K E n ops l X (.mp b (k+1) (GG F u v c)) (mC e o.dst .junk) H):OpsG P K E n ops (o :: l) X (.mp b k F) e H :=
 fun M0 H0 σ0 w0 σ a w Q hS hQ=>by
 subst ht
 obtain ⟨m1,m2,D,m3,m4⟩:=hS.map
 have hcm:∀ ad:Addr,ad.block=b→w.cell? ad=none:=by obtain ⟨es,clock,hb,_⟩:=m3;exact Om hb
 refine wpList_mapUpdate_own w hg m x y t hop K E hT.law hT.t _ b k D (DY hS.st hm) m3 (by simp only [maxLen];omega) (kv u v) (.int .i64 c) (kl u v) (LV hS.st hx) (QM hS.st hy) (hT.kmk u v hu hv) (.lit (.int .i64 c)) [] (plainElem_int hT.e (Hc hc)) fun w' hw1 hw2=>?_
 refine h M0 H0 σ0 w0 σ _ _ Q (hS.turned (g':=.mp b (k+1) (GG F u v c)) hw2 (fun b' hb'=>by cases hb';exact ⟨m1,m2,hcm⟩) ⟨m1,m2,_,hw1,fun u' v' hu' hv'=>?_⟩ hd (.junk _)) hQ
 unfold GG
 by_cases he:u'=u∧v'=v
 ·obtain ⟨rfl,rfl⟩:=he
  rw [if_pos ⟨rfl,rfl⟩]
  have hkl:=hT.law.key (hT.kmk u' v' hu' hv')
  exact ⟨Maps.has_put_same m3.isMap hkl _,fun c' hc' z=>by cases hc';exact Maps.atKey_put_same m3.isMap hkl _ _⟩
 ·rw [if_neg he]
  have hne:kl u' v'≠kl u v:=fun e'=>he (hT.inj hu' hv' hu hv e')
  obtain ⟨r1,r2⟩:=m4 u' v' hu' hv'
  exact ⟨(Maps.has_put_other hne _).trans r1,fun c' hc' z=>(Maps.atKey_put_other hne _ _).trans (r2 c' hc' z)⟩
theorem OpsG.range (hT:MapT P T K E){t:TypeId}(ht:t=T){m:Operand}(hop:o.op=.range t m)(hg:o.guard=none)(hd:oG n o.dst=true){b k:Nat}{F:FM}(hm:dU e m=.cst (.map (some b)))
  (h:∀ r rS,OpsG P K E n ops l X (.rg b r F (fun u v=>(F u v).isSome) rS none) (mC e o.dst (.cst (BE r))) H):OpsG P K E n ops (o :: l) X (.mp b k F) e H :=
 fun M0 H0 σ0 w0 σ a w Q hS hQ=>by
 subst ht
 obtain ⟨m1,m2,D,m3,m4⟩:=hS.map
 refine wpList_range_own w hg m t hop K E hT.law hT.t _ b k D (DY hS.st hm) m3 fun w' hw1 hw2 hw3=>?_
 refine h w.heap.size (Maps.size D) M0 H0 σ0 w0 σ _ _ Q (hS.turned (g':=.rg b w.heap.size F (fun u v=>(F u v).isSome) (Maps.size D) none) hw2 (by simp) ⟨m1,hS.stp.size,m2,fun i o ho hb=>?_,k,D,_,hw1,m4,fun u v hu hv=>(m4 u v hu hv).1,by simp⟩ hd (.cst _)) hQ
 have:=(hS.st.rel.lt i o _ ho hb).1
 omega
theorem OpsG.next (hT:MapT P T K E){it:Operand}(hop:o.op=.next it false)(hg:o.guard=none)(hd:oG n o.dst=true){b r rS:Nat}{F:FM}{left:Int→Int→Bool}{cur:Option (Int × Int × Int)}(hit:dU e it=.cst (BE r))
  (h1:(∀ u v,Aw u→Aw v→left u v=false)→OpsG P K E n ops l X (.rg b r F left rS cur) (mC e o.dst (.tup [.bool false])) H)
  (h2:∀ u v c cnt',Aw u→Aw v→left u v=true→F u v=some c→cnt'<rS→OpsG P K E n ops l X (.rg b r F (fun u' v'=>left u' v'&&!decide (u'=u∧v'=v)) cnt' (some (u,v,c))) (mC e o.dst (.tup [.bool true,.agg [.int .i64 u,.int .i64 v],.int .i64 c])) H) :
  OpsG P K E n ops (o :: l) X (.rg b r F left rS cur) e H :=
 fun M0 H0 σ0 w0 σ a w Q hS hQ=>by
 obtain ⟨m1,m2,m3,m4,k,D,lf,m5,m6,m7,m8⟩:=hS.map
 have hcm:∀ ad:Addr,ad.block=r→w.cell? ad=none:=by obtain ⟨es,clock,since,seen,c0,hb,F',hn,hD,hr,_⟩:=m5;exact Na hr
 refine wpList_next_ranges w hg it hop K hT.law (plainElem P E) (fun p:Int × Int=>kv p.1 p.2) (Value.int .i64) (fun key l hkey=>?_) (fun v y hv=>?_) b r k D lf rS (DY hS.st hit) m5 (fun hc hl=>?_) fun x c l' y w' cnt' hkey hlk hv hat hrg hlt hgr hsz hen=>?_
 ·obtain ⟨u,v,_,_,rfl⟩:=hT.inv key l hkey
  exact ⟨(u,v),rfl⟩
 ·obtain ⟨c,rfl,_⟩:=plainElem_int_inv hT.e hv;exact ⟨c,rfl⟩
 ·refine h1 (fun u v hu hv=>by rw [← m7 u v hu hv];exact hl _) M0 H0 σ0 w0 σ _ _ Q (hS.turned (row:=none) ⟨rfl,rfl,rfl,bC _,fun _ _ _=>rfl⟩ (by simp) hS.map hd (Ct (vs:=[_]) rfl fun j y d hy hd=>?_)) hQ
  match j with
  | 0=>simp at hy hd;subst hy;subst hd;exact .bool _
  | j+1=>simp at hy
 ·obtain ⟨u,v⟩:=x
  simp only at hkey hen
  obtain ⟨u',v',hu,hv',he⟩:=hT.inv _ _ hkey
  simp only [kv,Value.agg.injEq,Array.mk.injEq,List.cons.injEq,Value.int.injEq,true_and,and_true] at he
  obtain ⟨rfl,rfl⟩:=he
  rw [hT.kmk u v hu hv'] at hkey
  cases hkey
  obtain ⟨c',ec,rfl,hwc⟩:=plainElem_int_inv hT.e hv
  cases ec
  have hhas:=Maps.has_true_of_atKey hat
  obtain ⟨r1,r2⟩:=m6 u v hu hv'
  rw [hhas] at r1
  obtain ⟨c2,hc2⟩:=lE.1 r1.symm
  have hcc:c2=c:=by
   have e1:=r2 c2 hc2 .nil
   rw [hat .nil] at e1
   simp at e1;exact e1.symm
  subst hcc
  refine h2 u v c2 cnt' hu hv' (by rw [← m7 u v hu hv'];exact hlk) hc2 hlt M0 H0 σ0 w0 σ _ _ Q (hS.turned (g':=.rg b r F (fun u' v'=>left u' v'&&!decide (u'=u∧v'=v)) cnt' (some (u,v,c2))) hgr (fun b' hb'=>by cases hb';exact ⟨m2,m4,hcm⟩) ⟨m1,m2,m3,m4,k,D,_,hrg,m6,fun a1 a2 ha1 ha2=>?_,fun a1 a2 a3 ha=>?_⟩ hd (Ct (vs:=[_,_,_]) rfl fun j y d hy hd=>?_)) hQ
  ·rw [m7 a1 a2 ha1 ha2]
   congr 2
   rw [aV]
   constructor
   ·intro h;exact decide_eq_true (hT.inj ha1 ha2 hu hv' (WideAt.sameKey_eq h))
   ·intro h
    obtain ⟨rfl,rfl⟩:=of_decide_eq_true h
    exact WideAt.sameKey_self (hT.law.key (hT.kmk _ _ hu hv'))
  ·cases ha;exact hen
  ·match j with
   | 0=>simp at hy hd;subst hy;subst hd;exact .bool _
   | 1=>simp at hy hd;subst hy;subst hd;exact Ig _ _
   | 2=>simp at hy hd;subst hy;subst hd;exact .int _ _
   | j+3=>simp at hy
theorem OpsG.entry {it:Operand}(hop:o.op=.entry it)(hg:o.guard=none)(hd:oG n o.dst=true){b r rS:Nat}{F:FM}{left:Int→Int→Bool}{u v c:Int}(hit:dU e it=.cst (BE r))
  (h:OpsG P K E n ops l X (.rg b r F left rS (some (u,v,c))) (mC e o.dst (.tup [.agg [.int .i64 u,.int .i64 v],.int .i64 c])) H):OpsG P K E n ops (o :: l) X (.rg b r F left rS (some (u,v,c))) e H :=
 fun M0 H0 σ0 w0 σ a w Q hS hQ=>by
 obtain ⟨m1,m2,m3,m4,k,D,lf,m5,m6,m7,m8⟩:=hS.map
 have hrun:=m8 u v c rfl
 refine wpList_plain hg fun K' hK'=>?_
 unfold Oper.wp
 have hit':=DY hS.st hit
 simp only [execOp,hop,hit',hrun,Sem.run_bind,Sem.run_pure,Result.andThen_ok,Result.andThen,Oper.upon_value]
 refine hK' _ _ (h M0 H0 σ0 w0 σ _ _ Q (hS.turned (row:=none) ⟨rfl,rfl,rfl,bC _,fun _ _ _=>rfl⟩ (by simp) hS.map hd (Ct (vs:=[_,_]) rfl fun j y d hy hd=>?_)) hQ)
 match j with
 | 0=>simp at hy hd;subst hy;subst hd;exact Ig _ _
 | 1=>simp at hy hd;subst hy;subst hd;exact .int _ _
 | j+2=>simp at hy
/-! ### calls -/
def GCalls (P:Program)(K E:TypeId)(f:FuncId)(args:List D)(H:AHeap)(Q:D→AHeap→MS→Prop):Prop :=
 P2 P f∧∀ (M0:Nat→Prop) (σ:Nat→Option Ow) (w:World) (vals:List Value),Rel M0 H σ w→RepL (cE M0 H σ) σ H.al w vals args →
  Calls P f vals.toArray w fun e w'=>∃ v d H' σ' g,e=.returned v∧Rel M0 H' σ' w'∧RepV (cE M0 H' σ') σ' H'.al w' v d∧Stp σ w σ' w'∧Keeps (cE M0 H σ) σ H.al w (cE M0 H' σ') σ' H'.al w'∧MpOk P K E σ' w.heap.size w' g∧Q d H' g
theorem Fh {f:FuncId}{args:List D}{Q:D→AHeap→MS→Prop}{Q':D→AHeap→Prop}(h:GCalls P K E f args H Q)(hq:∀ d H' g,Q d H' g→Q' d H'):ACalls P f args H Q' :=
 ⟨h.1,fun M0 σ w vals hR ha=>(h.2 M0 σ w vals hR ha).mono fun e w' ⟨v,d,H',σ',g,a,b,c,s,k,_,q⟩=>⟨v,d,H',σ',a,b,c,s,k,hq _ _ _ q⟩⟩
def Mp (P:Program)(rs:List ResultVar)(Q:D→AHeap→MS→Prop):PG:=fun ex g e H=>Mo P rs (fun d H'=>Q d H' g) ex e H
theorem vQ {f:FuncId}{fn:Func}{x:Code}{args:List D}{Q:D→AHeap→MS→Prop}(hf:P.funcs[f]?=some fn)(hb:fn.body=some x)
  (hnm:(fn.name=="runtime.NumGoroutine")=false) (hlen:args.length≤fn.ntmps) (h:WpG P K E fn.ntmps x (Mp P fn.results.toList Q) .no (w4 args) H):GCalls P K E f args H Q:=by
 refine ⟨⟨fn,hf,hnm,by simp [hb]⟩,fun M0 σ w vals hR ha=>calls_of_wp hf hb ?_⟩
 have hS:St fn.ntmps M0 H σ w (w4 args) { tmps:=vals.toArray++Array.replicate (fn.ntmps - vals.toArray.size) undef,defers:=[] }:=by
  refine ⟨hR,fun t=>?_,rfl,by simp [ha.len];omega⟩
  simp only [w4]
  by_cases ht:t<vals.length
  ·have h1:vals[t]?=some vals[t]:=aA ht
   have h2:args[t]?=some (args[t]'(by rw [← ha.len];exact ht)):=aA _
   have:=ha.rep t _ _ h1 h2
   rw [List.getD_eq_getElem?_getD,h2]
   simp only [aD,gP]
   rw [Array.getElem?_append_left (by simpa using ht)]
   simpa [h1] using this
  ·rw [List.getD_eq_getElem?_getD,bM (by rw [← ha.len];omega)]
   exact .junk _
 refine f9 (h M0 H σ w σ _ w ⟨hS,.refl _ _,.refl _ _ _ _,trivial⟩) fun ex a' w' hc=>?_
 obtain ⟨g,e',H',σ',hq,hS',hst,hk,hM⟩:=hc
 have fin:Aq P fn.results.toList e' H' (fun l=>Q (CL l) H' g)→a'.defers=[]∧∃ v,(results fn a'.tmps).run P w'=.ok v w' ∧
   ∃ v2 d H2 σ2 g2,Ending.returned v=.returned v2∧Rel M0 H2 σ2 w'∧RepV (cE M0 H2 σ2) σ2 H2.al w' v2 d∧Stp σ w σ2 w'∧Keeps (cE M0 H σ) σ H.al w (cE M0 H2 σ2) σ2 H2.al w'∧MpOk P K E σ2 w.heap.size w' g2∧Q d H2 g2:=by
  intro hq
  obtain ⟨vs,l,h1,h2,h3⟩:=tW hS' _ _ hq
  obtain ⟨v,hv1,hv2⟩:=Bp (fn:=fn) h1 h2
  exact ⟨hS'.defers,v,hv1,v,_,H',σ',g,rfl,hS'.rel,hv2,hst,hk,hM,h3⟩
 cases ex<;>first|exact fin hq|exact hq.elim
theorem OpsG.call {f:FuncId}{args:List D}{Q:D→AHeap→MS→Prop}(hc:fL e o=some (f,args))(hg:o.guard=none)(hd:oG n o.dst=true)(hA:GCalls P K E f args H Q)(h:∀ d H' g',Q d H' g'→OpsG P K E n ops l X g' (mC e o.dst d) H') :
  OpsG P K E n ops (o :: l) X .no e H:=fun M0 H0 σ0 w0 σ a w Q' hS hQ=>by
 refine wpList_plain hg fun K' hK'=>?_
 obtain ⟨vals,hrun,hrep⟩:=yO (P:=P) (fun x _=>hS.st.envR.ev x) hc hA.1
 refine xU (args:=args) hrun ((hA.2 M0 σ w vals hS.st.rel hrep).mono fun e' w' ⟨v,d,H',σ',g',he,hR',hv,hst,hk,hM,hq⟩=>?_)
 exact ⟨v,he,hK' _ _ (h d H' g' hq M0 H0 σ0 w0 σ' _ _ Q' ⟨hS.st.put hR' hk hd hv,hS.stp.trans hst,hS.keep.trans hk,hM.base hS.stp.size⟩ hQ)⟩
end
end Go.Abs
end
section
set_option maxRecDepth 100000
set_option maxHeartbeats 4000000
open Go Go.Proofs
namespace Go.Abs
@[go_sem] theorem Sa (H:AHeap)(a b c d:Nat):gQ H (.ptr a b c d)=.ptr a b c d:=rfl
@[go_sem] theorem Qg (a b c d:Nat):c7 (.ptr a b c d)=[]:=rfl
@[go_sem] theorem SO (H:AHeap)(i:Nat):(H.frz i).next=H.next:=(KR H i).2
@[go_sem] theorem Uj (H:AHeap)(i j:Nat):(H.frz i).get j=if j=i then (H.get i).map (fun k=>{ k with fz:=true }) else H.get j:=by
 by_cases h:j=i
 ·subst h
  unfold AHeap.frz
  cases hk:H.get j<;>simp [AHeap.put,hk]
 ·rw [if_neg h,F1 H i j h]
theorem JD {P:Program}{md:Nat→Bool}{ops:Array Oper}{rest:List Oper}{e:cZ}{dst:Option Tmp}{K:cZ→AHeap→Prop}{f:FuncId}{args args':List D}{H:AHeap}(ha:args.map ML=args')(h:eY P md ops rest e dst K f args' H):eY P md ops rest e dst K f args H:=by
 subst ha;unfold eY at h ⊢
 exact ⟨h.1,fun M0 σ w vals hR hr=>h.2 M0 σ w vals hR ⟨by simpa using hr.len,fun j u d hu hd=>by
  rw [aQ,bE] at hd
  obtain ⟨y,hy,rfl⟩:=hd
  exact G7 (hr.rep j u y hu hy)⟩⟩
structure Srch where
 t:Types
 p:Graph
 g:Graph
 pn:List Int
 pe:List Int
 inj:Bool
def N9 (y:Edge):List Int:=[y.type,y.from_,y.to_]
def vS (l:List Int)(i k:Nat):Bool:=decide (l[i]?.getD (-1)<0)||decide (l[i]?.getD (-1)=(k:Int))
def tT (t:Types)(a b:Int):Bool:=mem (t.line b.toNat) a
def QN (p:Graph)(ns:List Int)(i:Nat):Edge:=⟨(p.edges[i]?.getD bQ).type,ns[(p.edges[i]?.getD bQ).from_.toNat]?.getD 0,ns[(p.edges[i]?.getD bQ).to_.toNat]?.getD 0⟩
def vP (S:Srch)(ns:List Int)(i k:Nat):Bool:=decide (N9 (S.g.edges[k]?.getD bQ)=N9 (QN S.p ns i))
def FG (S:Srch)(l:List Int)(k:Nat):Bool:=vS S.pn l.length k&&(!(S.inj&&mem l k)&&tT S.t (S.p.nodes[l.length]?.getD 0) (S.g.nodes[k]?.getD 0))
def LI (S:Srch)(ns l:List Int)(k:Nat):Bool:=vS S.pe l.length k&&(!(S.inj&&mem l k)&&vP S ns l.length k)
def Ez (S:Srch)(N:Nat)(ns:List Int):Nat→List Int→List Part→List Part
 | 0,l,ou=>if N≤ou.length then ou else ou++[⟨ns,l⟩]
 | d+1,l,ou=>if N≤ou.length then ou else (List.range S.g.edges.length).foldl (fun ou k=>if LI S ns l k=true then Ez S N ns d (l++[(k:Int)]) ou else ou) ou
def yD (S:Srch)(l:List Int)(i:Nat):Bool:=decide ((l.length:Int)≤(S.p.edges[i]?.getD bQ).from_)||decide ((l.length:Int)≤(S.p.edges[i]?.getD bQ).to_)||(List.range S.g.edges.length).any (vP S l i)
def rP (S:Srch)(l:List Int):Bool:=(List.range S.p.edges.length).all (yD S l)
def Dq (S:Srch)(l:List Int)(i:Nat):Bool:=decide (max (S.p.edges[i]?.getD bQ).from_ (S.p.edges[i]?.getD bQ).to_≠(l.length:Int) - 1)||(List.range S.g.edges.length).any fun k=>vS S.pe i k&&vP S l i k
def qZ (S:Srch)(l:List Int):Bool:=(List.range S.p.edges.length).all (Dq S l)
def J9 (S:Srch)(N:Nat):Nat→List Int→List Part→List Part
 | 0,l,ou=>if N≤ou.length∨rP S l=false then ou else Ez S N l S.p.edges.length [] ou
 | d+1,l,ou=>if N≤ou.length∨rP S l=false then ou else (List.range S.g.nodes.length).foldl (fun ou k=>if FG S l k=true then J9 S N d (l++[(k:Int)]) ou else ou) ou
def LC (S:Srch)(N:Nat):Nat→List Int→List Part→List Part
 | 0,l,ou=>if N≤ou.length then ou else Ez S N l S.p.edges.length [] ou
 | d+1,l,ou=>if N≤ou.length then ou else (List.range S.g.nodes.length).foldl (fun ou k=>if (FG S l k&&qZ S (l++[(k:Int)]))=true then LC S N d (l++[(k:Int)]) ou else ou) ou
/-! ### all matches -/
def Ch (S:Srch)(ns:List Int):Nat→List Int→List (List Int)
 | 0,l=>[l]
 | d+1,l=>((List.range S.g.edges.length).filter (LI S ns l)).flatMap fun (k:Nat)=>Ch S ns d (l++[(k:Int)])
def z7 (S:Srch):Nat→List Int→List Part
 | 0,l=>(Ch S l S.p.edges.length []).map fun es=>⟨l,es⟩
 | d+1,l=>((List.range S.g.nodes.length).filter (FG S l)).flatMap fun (k:Nat)=>z7 S d (l++[(k:Int)])
def tV (S:Srch):List Part:=z7 S S.p.nodes.length []
theorem AA {α:Type}(N:Nat)(a b:List α):((a.take N)++b).take N=(a++b).take N:=by
 rw [wW,wW,List.take_take,Nat.min_self]
 congr 1
 by_cases h:a.length≤N
 ·rw [aJ h]
 ·rw [c4,Nat.min_eq_left (by omega)]
  rw [show N - N=0 by omega,show N - a.length=0 by omega]
theorem sN {α:Type}(N:Nat)(ok:Nat→Bool)(f:Nat→List α→List α)(x:Nat→List α)(hf:∀ k ou,ou.length≤N→f k ou=(ou++x k).take N) :
  ∀ (l:List Nat) (ou:List α),ou.length≤N→l.foldl (fun ou k=>if ok k=true then f k ou else ou) ou=(ou++(l.filter ok).flatMap x).take N
 | [],ou,h=>by simp [aJ h]
 | k :: l,ou,h=>by
  rw [List.foldl_cons]
  by_cases hk:ok k=true
  ·rw [if_pos hk,hf k ou h,sN N ok f x hf l _ (by simp;omega),AA,Ep hk,uL,List.append_assoc]
  ·rw [if_neg hk,sN N ok f x hf l _ h,Er hk]
theorem pF {α:Type}{N:Nat}{ou x:List α}(h:ou.length≤N)(h2:N≤ou.length):ou=(ou++x).take N:=by
 rw [wW,aJ h,show N - ou.length=0 by omega];simp
theorem GF (S:Srch)(N:Nat)(ns:List Int):∀ (d:Nat) (l:List Int) (ou:List Part),ou.length≤N→Ez S N ns d l ou=(ou++(Ch S ns d l).map fun es=>(⟨ns,es⟩:Part)).take N
 | 0,l,ou,h=>by
  simp only [Ez,Ch]
  split
  ·rename_i h2;exact pF h h2
  ·rw [aJ (by simp;omega)];rfl
 | d+1,l,ou,h=>by
  simp only [Ez,Ch]
  split
  ·rename_i h2;exact pF h h2
  ·rw [sN N (LI S ns l) (fun k ou=>Ez S N ns d (l++[(k:Int)]) ou) (fun k=>(Ch S ns d (l++[(k:Int)])).map fun es=>(⟨ns,es⟩:Part)) (fun k ou ho=>GF S N ns d _ ou ho) _ _ h,List.map_flatMap]
theorem DX {S:Srch}{ns:List Int}:∀ (d:Nat) (l es:List Int),es∈Ch S ns d l→∀ i,l.length≤i→i<l.length+d→∃ k,k<S.g.edges.length∧vS S.pe i k=true∧vP S ns i k=true
 | 0,l,es,_,i,h1,h2=>by omega
 | d+1,l,es,h,i,h1,h2=>by
  simp only [Ch,bR,fQ,bZ] at h
  obtain ⟨k,⟨hk,ho⟩,hr⟩:=h
  by_cases hi:i=l.length
  ·simp only [LI,aP] at ho
   exact ⟨k,hk,hi ▸ ho.1,hi ▸ ho.2.2⟩
  ·exact DX d _ es hr i (by simp;omega) (by simp;omega)
theorem vU {S:Srch}:∀ (d:Nat) (l:List Int) (m:Part),m∈z7 S d l→(∃ r,m.nodes=l++r)∧m.edges∈Ch S m.nodes S.p.edges.length []
 | 0,l,m,h=>by
  simp only [z7,bG] at h
  obtain ⟨es,he,rfl⟩:=h
  exact ⟨⟨[],by simp⟩,he⟩
 | d+1,l,m,h=>by
  simp only [z7,bR,fQ,bZ] at h
  obtain ⟨k,_,hr⟩:=h
  obtain ⟨⟨r,hr1⟩,hr2⟩:=vU d _ m hr
  exact ⟨⟨(k:Int) :: r,by rw [hr1];simp⟩,hr2⟩
theorem LY {p:Graph}{l r:List Int}{i:Nat}(h1:(p.edges[i]?.getD bQ).from_.toNat<l.length)(h2:(p.edges[i]?.getD bQ).to_.toNat<l.length):QN p (l++r) i=QN p l i:=by
 unfold QN
 rw [aR h1,aR h2]
theorem DW {S:Srch}(hp:graphF S.p=0)(d:Nat)(l:List Int)(h:rP S l=false):z7 S d l=[]:=by
 rw [uS]
 intro m hm
 obtain ⟨⟨r,hr⟩,he⟩:=vU d l m hm
 simp only [rP,CE,bZ] at h
 obtain ⟨i,hi,hk⟩:=h
 have hx:=((dF hp).2 _ (aC hi)).2
 simp only [yD,aA hi,aD,b6,decide_eq_true_eq,not_or,aU,bZ,not_exists,not_and,Int.not_le] at hk
 obtain ⟨⟨k1,k2⟩,k3⟩:=hk
 obtain ⟨k,a1,a2,a3⟩:=DX _ _ _ he i (c8 _) (by simpa using hi)
 apply k3 k a1
 unfold vP at a3 ⊢
 rw [hr,LY (by rw [aA hi,aD];omega) (by rw [aA hi,aD];omega)] at a3
 exact a3
theorem M7 {S:Srch}(hp:graphF S.p=0)(d:Nat)(l:List Int)(h:qZ S l=false):z7 S d l=[]:=by
 rw [uS]
 intro m hm
 obtain ⟨⟨r,hr⟩,he⟩:=vU d l m hm
 simp only [qZ,CE,bZ] at h
 obtain ⟨i,hi,hk⟩:=h
 have hx:=((dF hp).2 _ (aC hi)).2
 simp only [Dq,aA hi,aD,b6,decide_eq_true_eq,not_or,aU,bZ,not_exists,not_and,ne_eq,iL,aP] at hk
 obtain ⟨k1,k3⟩:=hk
 obtain ⟨k,a1,a2,a3⟩:=DX _ _ _ he i (c8 _) (by simpa using hi)
 refine k3 k a1 a2 ?_
 unfold vP at a3 ⊢
 rw [hr,LY (by rw [aA hi,aD];omega) (by rw [aA hi,aD];omega)] at a3
 exact a3
theorem J8 {S:Srch}(hp:graphF S.p=0)(N:Nat):∀ (d:Nat) (l:List Int) (ou:List Part),ou.length≤N→J9 S N d l ou=(ou++z7 S d l).take N
 | 0,l,ou,h=>by
  simp only [J9]
  split
  ·rename_i h2
   rcases h2 with h2|h2
   ·exact pF h h2
   ·rw [DW hp 0 l h2,c5,aJ h]
  ·rw [GF S N l _ _ _ h];rfl
 | d+1,l,ou,h=>by
  simp only [J9]
  split
  ·rename_i h2
   rcases h2 with h2|h2
   ·exact pF h h2
   ·rw [DW hp _ l h2,c5,aJ h]
  ·rw [sN N (FG S l) (fun k ou=>J9 S N d (l++[(k:Int)]) ou) (fun k=>z7 S d (l++[(k:Int)])) (fun k ou ho=>J8 hp N d _ ou ho) _ _ h];rfl
theorem BN {α:Type}(ok po:Nat→Bool)(x:Nat→List α)(h:∀ k,po k=false→x k=[]):∀ l:List Nat,(l.filter fun k=>ok k&&po k).flatMap x=(l.filter ok).flatMap x
 | []=>rfl
 | k :: l=>by
  cases h1:ok k<;>cases h2:po k<;>simp [List.filter_cons,h1,h2,BN ok po x h l,h k]
theorem Ky {S:Srch}(hp:graphF S.p=0)(N:Nat):∀ (d:Nat) (l:List Int) (ou:List Part),ou.length≤N→LC S N d l ou=(ou++z7 S d l).take N
 | 0,l,ou,h=>by
  simp only [LC]
  split
  ·rename_i h2;exact pF h h2
  ·rw [GF S N l _ _ _ h];rfl
 | d+1,l,ou,h=>by
  simp only [LC]
  split
  ·rename_i h2;exact pF h h2
  ·rw [sN N (fun k=>FG S l k&&qZ S (l++[(k:Int)])) (fun k ou=>LC S N d (l++[(k:Int)]) ou) (fun k=>z7 S d (l++[(k:Int)])) (fun k ou ho=>Ky hp N d _ ou ho) _ _ h]
   rw [BN (FG S l) (fun k=>qZ S (l++[(k:Int)])) _ fun k hk=>M7 hp d _ hk];rfl
theorem AF (S:Srch){N:Nat}(ns:List Int)(d:Nat)(l:List Int){ou:List Part}(h:ou.length≤N):(Ez S N ns d l ou).length≤N:=by
 rw [GF S N ns d l ou h];exact List.length_take_le _ _
theorem NC {S:Srch}(hp:graphF S.p=0){N:Nat}(d:Nat)(l:List Int){ou:List Part}(h:ou.length≤N):(J9 S N d l ou).length≤N:=by
 rw [J8 hp N d l ou h];exact List.length_take_le _ _
theorem Kx {S:Srch}(hp:graphF S.p=0){N:Nat}(d:Nat)(l:List Int){ou:List Part}(h:ou.length≤N):(LC S N d l ou).length≤N:=by
 rw [Ky hp N d l ou h];exact List.length_take_le _ _
theorem CT {S:Srch}{N:Nat}(ns:List Int)(d:Nat)(l:List Int){ou:List Part}(h:N≤ou.length):Ez S N ns d l ou=ou:=by cases d<;>simp only [Ez,if_pos h]
end Go.Abs
end
