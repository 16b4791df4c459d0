/- The graph and the tests of a draft; the marks of parts. · Th -/
import Derived.Test.YthalajhajpjjeaaGreatZgAF
import Derived.Test.YthalajhajpjjeaaGreatZgAA
import Derived.Test.YthalajhajpjjeaaGreatZgAK
import Derived.Maps.RangeWalk
import Derived.DeepKeys4
set_option linter.unusedVariables false
set_option linter.unusedSimpArgs false
section
set_option maxRecDepth 100000
set_option maxHeartbeats 4000000
open Go Go.Proofs
namespace Go.Abs
def UU (a b:Int):Int:=(a.tmod b+b).tmod b
abbrev T4:=Int8 × Int8 × Int8 × Int8
def cT4 (x:T4):List D:=[.int .i8 x.1.toInt,.int .i8 x.2.1.toInt,.int .i8 x.2.2.1.toInt,.int .i8 x.2.2.2.toInt]
@[go_sem] theorem Qe (l:List T4):D.clLL (l.map cT4)=true:=dK _ (λ_=>rfl) l
def XU (v:Int)(x:T4):Test:=⟨1+(UU x.1.toInt 4).tdiv 3,⟨UU x.2.1.toInt (v+1) - 1,0⟩,⟨UU x.2.2.1.toInt (v+1) - 1,x.2.2.2.toInt.tmod 12⟩⟩
def aa9 (g:Graph)(nb eb:List Bool)(k:Nat):List Bool:=(List.range k).foldl (λacc i=>if eb[i]?.getD false=true then (acc.set (g.edges[i]?.getD ⟨0,0,0⟩).from_.toNat true).set (g.edges[i]?.getD ⟨0,0,0⟩).to_.toNat true else acc) nb
def Graph.ends (g:Graph):Prop:=∀ x∈g.edges,(0<=x.from_/\x.from_<g.nodes.length)/\0<=x.to_/\x.to_<g.nodes.length
def abJ (k:UInt64)(i:Nat):Bool:=(k.toNat:Int).fdiv (2 ^ (min ((i:Int).tmod 64).toNat 64)) % 2==1
def VP (k:UInt64)(off n:Nat):List Bool:=(List.range n).map λj=>abJ k (off+j)
def XT (g:Graph)(k:UInt64):Part:=⟨Um (aa9 g (VP k 0 g.nodes.length) (VP k g.nodes.length g.edges.length) g.edges.length),Um (VP k g.nodes.length g.edges.length)⟩
def VQ (t:Types)(ns:List Int)(k:Int)(i:Nat):Bool:=mem (t.line (ns[i]?.getD 0).toNat) k
def K7 (t:Types)(ns:List Int)(k:Int):List Int:=((List.range ns.length).filter (VQ t ns k)).map λ(i:Nat)=>(i:Int)
def Attr.good (x:Attr):Prop:=x.low<=x.high/\-1000<=x.low/\x.high<=1000
structure Types.fine (t:Types):Prop where
 ok:t.ok
 valid:t.valid
 good:∀ a,(∀ x∈bM t a,x.good)/\(bM t a).length<=8
abbrev B3:=UInt8 × UInt8 × UInt8
def Td (x:B3):List D:=[.int .u8 (x.1.toNat:Int),.int .u8 (x.2.1.toNat:Int),.int .u8 (x.2.2.toNat:Int)]
@[go_sem] theorem CC (l:List B3):D.clLL (l.map Td)=true:=dK _ (λ_=>rfl) l
structure Dr5 where
 nodes:List UInt8
 edges:List B3
def Dr5.c (d:Dr5):List D:=[.list (d.nodes.map cU),.list (d.edges.map Td)]
@[go_sem] theorem Dr5.cl (d:Dr5):D.clL d.c=true:=by simp [Dr5.c,D.clL,D.cl,Pg,CC]
def XV (n:Nat)(ds:List UInt8)(k:Nat):List Int:=(List.range k).map λi=>((ds[i]?.getD 0).toNat:Int).tmod n
def Tl (t:Types)(k:Int):EdgeTy:=t.edges[k.toNat]?.getD ⟨⟨#[]⟩,0,0,0,0,0,0⟩
def PL (l:List Int)(b:UInt8):Int:=l[((b.toNat:Int).tmod l.length).toNat]?.getD 0
def aa7 (t:Types)(ns:List Int)(x:B3):List Edge :=
 if 0<(K7 t ns (Tl t ((x.1.toNat:Int).tmod t.edges.length)).from_).length/\0<(K7 t ns (Tl t ((x.1.toNat:Int).tmod t.edges.length)).to_).length then
  [⟨(x.1.toNat:Int).tmod t.edges.length,PL (K7 t ns (Tl t ((x.1.toNat:Int).tmod t.edges.length)).from_) x.2.1,PL (K7 t ns (Tl t ((x.1.toNat:Int).tmod t.edges.length)).to_) x.2.2⟩] else []
def aa8 (t:Types)(ns:List Int)(es:List B3)(k:Nat):List Edge:=(List.range k).flatMap λi=>aa7 t ns (es[i]?.getD (0,0,0))
def yV (t:Types)(d:Dr5):Graph:=⟨XV t.nodes.length d.nodes (min d.nodes.length 8),if t.edges.length=0 then [] else aa8 t (XV t.nodes.length d.nodes (min d.nodes.length 8)) d.edges (min d.edges.length 10)⟩
structure Dr21 where
 graph:Dr5
 slots:List B3
 tests:List T4
def Dr21.c (d:Dr21):List D:=[.list (d.graph.nodes.map cU),.list (d.graph.edges.map Td),.list (d.slots.map Td),.list (d.tests.map cT4)]
@[go_sem] theorem Dr21.cl (d:Dr21):D.clL d.c=true:=by simp [Dr21.c,D.clL,D.cl,Pg,CC,Qe]
def c2 (x:Nat × Nat):List D:=[dI x.1,dI x.2]
def atN (t:Types)(ns:List Int)(i:Nat):List Attr:=bM t (ns[i]?.getD 0)
def abL (t:Types)(ns:List Int)(i k:Nat):List (Nat × Nat):=(List.range k).map λj=>(i,j)
def abM (t:Types)(ns:List Int)(k:Nat):List (Nat × Nat):=(List.range k).flatMap λi=>abL t ns i (atN t ns i).length
def Ja (all:List (Nat × Nat))(b:UInt8):Nat × Nat:=all[((b.toNat:Int).tmod all.length).toNat]?.getD (0,0)
def aa5 (all:List (Nat × Nat))(st:List Slot × Int)(x:B3):List Slot × Int :=
 if st.2<=(x.2.1.toNat:Int).tmod 5 - 1 then
  if 3<st.2+1 then (st.1++[⟨(Ja all x.1).1,(Ja all x.1).2,⟨0,0⟩⟩],3) else (st.1++[⟨(Ja all x.1).1,(Ja all x.1).2,⟨st.2,0⟩⟩],st.2+1)
 else (st.1++[⟨(Ja all x.1).1,(Ja all x.1).2,⟨(x.2.1.toNat:Int).tmod 5 - 1,(x.2.2.toNat:Int).tmod 5 - 2⟩⟩],st.2)
def aa6 (all:List (Nat × Nat))(ds:List B3)(k:Nat):List Slot × Int:=(List.range k).foldl (λst i=>aa5 all st (ds[i]?.getD (0,0,0))) ([],0)
def aa4 (v:Int)(ts:List T4)(k:Nat):List Test:=(List.range k).map λi=>XU v (ts[i]?.getD (0,0,0,0))
def UD (t:Types)(d:Dr21):List (Nat × Nat):=abM t (yV t d.graph).nodes (yV t d.graph).nodes.length
def JV (t:Types)(d:Dr21):List Slot × Int:=if (UD t d).length=0 then ([],0) else aa6 (UD t d) d.slots (min d.slots.length 4)
def Sh (t:Types)(d:Dr21):Pattern:=⟨yV t d.graph,(JV t d).1,(JV t d).2,aa4 (JV t d).2 d.tests (min d.tests.length 3)⟩
abbrev B4:=UInt8 × UInt8 × UInt8 × UInt8
structure Dr24 where
 left:Dr21
 keep:UInt64
 nodes:List UInt8
 edges:List B3
 slots:List B3
 plain:Bool
 inj:Bool
 forbid:B4
 order:List UInt8
def Dr24.c (d:Dr24):List D:=[.list (d.left.graph.nodes.map cU),.list (d.left.graph.edges.map Td),.list (d.left.slots.map Td),.list (d.left.tests.map cT4),.int .u64 (d.keep.toNat:Int),.list (d.nodes.map cU),.list (d.edges.map Td),.list (d.slots.map Td),.bool d.plain,.bool d.inj,
 .int .u8 (d.forbid.1.toNat:Int),.int .u8 (d.forbid.2.1.toNat:Int),.int .u8 (d.forbid.2.2.1.toNat:Int),.int .u8 (d.forbid.2.2.2.toNat:Int),.list (d.order.map cU)]
@[go_sem] theorem Dr24.cl (d:Dr24):D.clL d.c=true:=by simp [Dr24.c,D.clL,D.cl,Pg,CC,Qe]
@[go_sem] theorem YD (l:List Dr24):D.clLL (l.map Dr24.c)=true:=dK _ Dr24.cl l
def TH (t:Types)(n:Nat)(x:B3):Edge:=⟨(x.1.toNat:Int).tmod t.edges.length,(x.2.1.toNat:Int).tmod n,(x.2.2.toNat:Int).tmod n⟩
def nN (ns:List Int)(a:Int):Int:=ns[a.toNat]?.getD 0
def grN (t:Types)(base:List Int)(ds:List UInt8)(k:Nat):List Int:=base++(List.range k).map λi=>PL (CA t) (ds[i]?.getD 0)
def abF (t:Types)(ns:List Int)(x:B3):List Edge:=if oF t (TH t ns.length x).type (nN ns (TH t ns.length x).from_) (nN ns (TH t ns.length x).to_)=true then [TH t ns.length x] else []
def grE (t:Types)(ns:List Int)(base:List Edge)(es:List B3)(k:Nat):List Edge:=base++(List.range k).flatMap λi=>abF t ns (es[i]?.getD (0,0,0))
def PZ (t:Types)(g:Graph)(d:Dr24):Graph :=
 ⟨grN t g.nodes d.nodes (if (CA t).length=0 then 0 else min d.nodes.length 2),
  grE t (grN t g.nodes d.nodes (if (CA t).length=0 then 0 else min d.nodes.length 2)) g.edges d.edges (if (grN t g.nodes d.nodes (if (CA t).length=0 then 0 else min d.nodes.length 2)).length=0\/t.edges.length=0 then 0 else min d.edges.length 2)⟩
theorem eH (l:List Int):eQ (l.map cI)=l.map cI:=lI λc hc=>by
 rw [bB] at hc;obtain ⟨x,_,rfl⟩:=hc;rfl
theorem yS (l:List Edge):eQ (l.map Edge.c)=l.map Edge.c:=lI λc hc=>by
 rw [bB] at hc;obtain ⟨x,_,rfl⟩:=hc;rfl
def KC (t:Types)(d:Dr24):Part:=XT (Sh t d.left).graph d.keep
def Vc (t:Types)(d:Dr24):Graph:=cY (Sh t d.left).graph (KC t d)
def Sx (t:Types)(d:Dr24):Graph:=PZ t (Vc t d) d
def Oj (t:Types)(d:Dr24):Graph:=aaL (Sx t d) (Pw (Sx t d).nodes.length d.order) (Pw (Sx t d).edges.length d.order)
structure Host where
 graph:Graph
 values:List (List Int)
def Host.c (h:Host):List D:=[dLI h.graph.nodes,.list (h.graph.edges.map Edge.c),.list (h.values.map cL)]
def Host.d (h:Host):D:=.agg h.c
@[go_sem] theorem VM (l:List (List Int)):D.clLL (l.map cL)=true:=dK _ (λa=>by simp [cL,D.clL,pD]) l
@[go_sem] theorem Host.cl (h:Host):h.d.cl=true:=by simp [Host.d,Host.c,D.cl,D.clL,pD,VM,vL]
structure Dr15 where
 nodes:List B2
 edges:List B3
def Dr15.c (d:Dr15):List D:=[.list (d.nodes.map cP),.list (d.edges.map Td)]
@[go_sem] theorem Dr15.cl (d:Dr15):D.clL d.c=true:=by simp [Dr15.c,D.clL,D.cl,SR,CC]
def WM (l:List Attr)(b:UInt8)(k:Nat):Int:=match l[k]? with|some a=>a.low+((b.toNat:Int)+7 * (k:Int)).tmod (a.high - a.low+1)|none=>0
def UK (l:List Attr)(b:UInt8)(k:Nat):List Int:=(List.range k).map (WM l b)
def ON (t:Types)(x:B2):Int:=PL (CA t) x.1
def Xl (t:Types)(x:B2):List Int:=UK (bM t (ON t x)) x.2 (bM t (ON t x)).length
def U7 (t:Types)(ds:List B2)(k:Nat):List Int:=(List.range k).map λi=>ON t (TE ds i)
def ZF (t:Types)(ds:List B2)(k:Nat):List (List Int):=(List.range k).map λi=>Xl t (TE ds i)
def Vb (t:Types)(d:Dr15):Host :=
 ⟨⟨U7 t d.nodes (if (CA t).length=0 then 0 else min d.nodes.length 8),
  grE t (U7 t d.nodes (if (CA t).length=0 then 0 else min d.nodes.length 8)) [] d.edges (if (U7 t d.nodes (if (CA t).length=0 then 0 else min d.nodes.length 8)).length=0\/t.edges.length=0 then 0 else min d.edges.length 10)⟩,
  ZF t d.nodes (if (CA t).length=0 then 0 else min d.nodes.length 8)⟩
attribute [go_sem] Host.d Host.c
def MH (l:List Int):Bool:=decide (12<(l.length:Int))
def Co (h:Host):Bool:=fewG h.graph&&decide ((h.values.length:Int)<=45)&&!(h.values.any MH)
theorem C7 (h:Host):Pure Tryz.prog 68 [h.d] (.bool (Co h)):=by
 refine Tz.pK ⟨λ_=>false,λ_=>[]⟩ Tryz.func68 rfl (λQ hQ=>?_)
 have Y:=wa @Host.d.eq_1 @Host.c.eq_1
 refine wo (h:=aB (zU h.graph) wl ?_)
 refine fA (λh1=>?_) λh1=>?_
 .have hF:Co h=false:=by cases hg:fewG h.graph<;>simp [hg] at h1<;>simp [Co,hg]<;>omega
  exact wv (h:=hQ _ _ (by simp [go_sem,hF]))
 .have hG:fewG h.graph=true/\(h.values.length:Int)<=45:=by cases hg:fewG h.graph<;>simp [hg] at h1<;>exact ⟨rfl,aD⟩
  refine wv (h:=bD (λi e H=>(e 1=.adr h.c/\e 3=dI i)/\(i<=h.values.length)/\((h.values.take i).any MH=false)) (λi=>h.values.length - i) 0 ⟨wg,wi,(by rfl)⟩ λI0 hI0 i e H hi0=>?_)
  obtain ⟨E0,hi,ha⟩:=hi0
  have Y:=wa Y E0
  refine fA (λh4=>?_) λh4=>?_
  .have Y:=wa Y (wa h4 (wa (aA h4) @cL.eq_1))
   refine fA (λh6=>?_) λh6=>?_
   .refine wv (h:=?_)
    have hF:Co h=false:=by
     have:h.values.any MH=true:=aX.2 ⟨_,aC h4,by unfold MH;simp;omega⟩
     unfold Co;rw [this];simp
    exact hQ _ _ (by simp [go_sem,hF])
   .exact wo (h:=wx hI0 (i+1) ⟨wg,wj,(by rw [dU _ _ _ h4,ha];unfold MH;simp;omega)⟩)
  .have hF:Co h=true:=by have:=nX ha h4;unfold Co;rw [hG.1,this,decide_eq_true hG.2];rfl
   exact wv (h:=hQ _ _ (by simp [go_sem,hF]))
def fZ (t:Types)(g h:Graph):Int:=if (b9 t).2≠0 then (b9 t).2 else if graphF g≠0 then graphF g else if graphF h≠0 then graphF h else if (!mD t g||!mD t h)=true then 13 else 0
theorem yJ (t:Types)(j:t.ok)(g h:Graph):Pure Tryz.prog 246 [t.d,g.d,h.d] (dI (fZ t g h)):=by
 refine Tz.pK ⟨λ_=>false,λ_=>[]⟩ Tryz.func246 rfl (λQ c=>?_)
 have Y:=trivial
 refine wv (h:=aB (n9 t j) wl ?_)
 refine dP (λb=>?_) λb=>?_
 .exact wv (h:=c _ _ (by simp [go_sem,fZ,b]))
 .refine wv (h:=aB (lP g) wl ?_)
  refine dP (λe=>?_) λe=>?_
  .exact wv (h:=c _ _ (by simp [go_sem,fZ,b,e]))
  .refine wv (h:=aB (lP h) wl ?_)
   refine dP (λf=>?_) λf=>?_
   .exact wv (h:=c _ _ (by simp [go_sem,fZ,b,e,f]))
   .refine wo (h:=aB (tI t g) wl ?_)
    refine wo (h:=aH (λi=>tI t h) (λi=>wl) ?_)
    refine fA (λa=>?_) λa=>?_
    .exact wv (h:=c _ _ (by simp [go_sem,fZ,b,e,f];intro i;rcases a with h|h<;>simp_all))
    .exact wv (h:=c _ _ (by simp [go_sem,fZ,b,e,f];simpa using a))
def light17 (t:Types)(g h:Graph):Bool:=uK t&&fewG g&&fewG h&&(decide (fZ t g h≠0)||(decide ((g.nodes.length:Int)+g.edges.length<=6)&&decide ((h.nodes.length:Int)<=8)&&decide ((h.edges.length:Int)<=12)))
theorem Md (t:Types)(b:t.ok)(g h:Graph):Pure Tryz.prog 218 [t.d,g.d,h.d] (.bool (light17 t g h)):=by
 refine Tz.pK ⟨λ_=>false,λ_=>[]⟩ Tryz.func218 rfl (λQ e=>?_)
 have f:uK t=true->fewG g=true->fewG h=true->fZ t g h=0->RH .i64 ((g.nodes.length:Int)+g.edges.length):=λ_ a _ _=>by simp [fewG] at a;exact dD aD aD
 have Y:=trivial
 refine wo (h:=aB (C8 t (λn c=>fC (b.nodes n c).few aD)) wl ?_)
 refine wo (h:=aH (λa=>zU g) (λa=>wl) ?_)
 refine wo (h:=aH (λa=>zU h) (λa=>wl) ?_)
 refine wo (h:=aH (λa=>yJ t b g h) (λa=>wl) ?_)
 have Y:=wa Y @light17.eq_1
 exact wo (h:=e _ _ wy)
def light21 (t:Types)(p:Pattern)(h:Host):Bool:=fewP p&&Co h&&light17 t p.graph h.graph
theorem L9 (t:Types)(b:t.ok)(p:Pattern)(h:Host):Pure Tryz.prog 132 [t.d,p.d,h.d] (.bool (light21 t p h)):=by
 refine Tz.pK ⟨λ_=>false,λ_=>[]⟩ Tryz.func132 rfl (λQ e=>?_)
 have Y:=wa @Host.c.eq_1 @Pattern.c.eq_1
 refine wo (h:=aB (u3 p) wl ?_)
 refine wo (h:=aH (λa=>C7 h) (λa=>wl) ?_)
 refine wo (h:=aH (λa=>Md t b p.graph h.graph) (λa=>wl) ?_)
 have Y:=wa Y @light21.eq_1
 exact wo (h:=e _ _ wy)
end Go.Abs
end
section
set_option maxHeartbeats 1000000
namespace Go.Abs
open Go.Maps (Keyed)
def CP (u:Int):Prop:=-9223372036854775808<=u/\u<=9223372036854775807
theorem KG {u:Int}(h:CP u):(Lit.int .i64 u).wf=true:=by
 obtain ⟨b,a⟩:=h
 simp [Lit.wf,IntKind.min,IntKind.max,IntKind.bits,IntKind.signed];omega
theorem RM {u:Int}(h:(Lit.int .i64 u).wf=true):CP u:=by
 simp [Lit.wf,IntKind.min,IntKind.max,IntKind.bits,IntKind.signed] at h
 exact ⟨aD,aD⟩
def kv (u v:Int):Value:=.agg #[.int .i64 u,.int .i64 v]
def kl (u v:Int):Lit:=.string (keyBytes [.int .i64 u,.int .i64 v])
structure MapT (P:Program) (T K E:TypeId):Prop where
 t:P.underlying T=some (.map K E)
 e:P.underlying E=some (.int .i64)
 law:Keyed P K
 kmk:∀ u v,CP u->CP v->keyOf P K (kv u v)=some (kl u v)
 inv:∀ key l,keyOf P K key=some l->∃ u v,CP u/\CP v/\key=kv u v
 z:∀ w,(zeroValue E).run P w=.ok (.int .i64 0) w
theorem Ce {P:Program}{K E:TypeId}{f0 f1:Field}(hk:P.underlying K=some (.struct #[f0,f1]))(h0:f0.type=E/\f0.offset=0/\(f0.name != "_")=true)(h1:f1.type=E/\f1.offset=1/\(f1.name != "_")=true)
  (hc:P.cellsOf K=2) (hcE:P.cellsOf E=1) (d:Nat) (a b:Value):P.keyLits (d+1) K [a,b]=(P.keyLits d E [a]).bind λx=>(P.keyLits d E [b]).map λy=>x++y:=by
 obtain ⟨a1,a2,a3⟩:=h0
 obtain ⟨b1,b2,b3⟩:=h1
 rw [Program.keyLits.eq_def]
 simp only [hk]
 rw [if_pos (by simp [hc,a3,b3])]
 simp only [List.mapM_cons,List.mapM_nil,a1,a2,b1,b2,hcE,List.drop_zero,s4,List.take_zero,List.drop_succ_cons,bind,pure]
 cases P.keyLits d E [a]<;>simp
 cases P.keyLits d E [b]<;>simp
theorem tS {P:Program}{E:TypeId}(a:P.underlying E=some (.int .i64))(d:Nat)(v:Value)(l:List Lit):P.keyLits (d+1) E [v]=some l↔∃ u,v=.int .i64 u/\(Lit.int .i64 u).wf=true/\l=[.int .i64 u]:=by
 rw [Program.keyLits.eq_def]
 simp only [a]
 cases v<;>simp
 rename_i k n
 constructor
 .rintro ⟨⟨rfl,h⟩,rfl⟩;exact ⟨n,⟨rfl,rfl⟩,h,rfl⟩
 .rintro ⟨u,⟨rfl,rfl⟩,h,rfl⟩;exact ⟨⟨rfl,h⟩,rfl⟩
theorem TI {P:Program}{T K E:TypeId}{f0 f1:Field}(ht:P.underlying T=some (.map K E))(he:P.underlying E=some (.int .i64))(hk:P.underlying K=some (.struct #[f0,f1]))(h0:f0.type=E/\f0.offset=0/\(f0.name != "_")=true)(h1:f1.type=E/\f1.offset=1/\(f1.name != "_")=true)
  (hc:P.cellsOf K=2) (hcE:P.cellsOf E=1) (hkt:P.keyType K=true) (hs:∃ d,P.types.size+1=d+1+1) (hlaw:Keyed P K) (hz:∀ w,(zeroValue E).run P w=.ok (.int .i64 0) w):MapT P T K E:=by
 obtain ⟨d,hd⟩:=hs
 refine ⟨ht,he,hlaw,λu v hu hv=>?_,λkey l h=>?_,hz⟩
 .unfold keyOf
  simp only [hk]
  rw [if_pos (by simp [hkt,Value.formed,hk,kv,hc]),hd]
  have e0:=(tS he d (.int .i64 u) _).2 ⟨u,rfl,KG hu,rfl⟩
  have e1:=(tS he d (.int .i64 v) _).2 ⟨v,rfl,KG hv,rfl⟩
  show ((P.keyLits (d+1+1) K [.int .i64 u,.int .i64 v]).map λls=>Lit.string (keyBytes ls))=_
  rw [Ce hk h0 h1 hc hcE,e0,e1];rfl
 .unfold keyOf at h
  simp only [hk] at h
  split at h
  .rename_i hf
   rw [aQ] at hf
   have hf2:=hf.2
   cases key<;>simp [Value.formed,hk,hc] at hf2
   rename_i cs
   obtain ⟨cs⟩:=cs
   match cs,hf2 with
   | [a,b],_ =>
    rw [hd] at h
    have h':((P.keyLits (d+1+1) K [a,b]).map λls=>Lit.string (keyBytes ls))=some l:=h
    rw [Ce hk h0 h1 hc hcE] at h'
    cases ha:P.keyLits (d+1) E [a] with
    | none=>rw [ha] at h';cases h'
    | some x =>
     cases hb:P.keyLits (d+1) E [b] with
     | none=>rw [ha,hb] at h';cases h'
     | some y =>
      obtain ⟨u,rfl,hu,_⟩:=(tS he d a x).1 ha
      obtain ⟨v,rfl,hv,_⟩:=(tS he d b y).1 hb
      exact ⟨u,v,RM hu,RM hv,rfl⟩
  .cases h
section
variable {P:Program} {T K E:TypeId}
theorem MapT.inj (h:MapT P T K E){u v d c:Int}(a:CP u)(b:CP v)(g:CP d)(f:CP c)(e:kl u v=kl d c):u=d/\v=c:=by
 have:=h.law.inj (h.kmk u v a b) (e ▸ h.kmk d c g f)
 simpa [kv] using this
abbrev FM:=Int->Int->Option Int
def JW (F:FM)(u v c:Int):FM:=λu' v'=>if u'=u/\v'=v then some c else F u' v'
def UF (D:DataW Unit)(F:FM):Prop:=∀ u v,CP u->CP v->Maps.has D (kl u v)=(F u v).isSome/\∀ c,F u v=some c->∀ z,D.atKey (kl u v) z=.lit (.int .i64 c)
inductive MS where
 | no
 | mp (b n:Nat) (F:FM)
 | rg (b r:Nat) (F:FM) (left:Int->Int->Bool) (uN:Nat) (cur:Option (Int × Int × Int))
def OY (σ:Nat->Option Ow)(b:Nat):Prop:=∀ i o,σ i=some o->o.block≠some b
def D4 (r:Nat):Value:=.pointer (some ⟨r,0,none⟩)
def MpOk (P:Program)(K E:TypeId)(σ:Nat->Option Ow)(base:Nat)(w:World):MS->Prop
 | .no=>True
 | .mp b n F=>base<=b/\OY σ b/\∃ D:DataW Unit,w.ownsMap P K (plainElem P E) b n D/\UF D F
 | .rg b r F left uN cur=>base<=b/\base<=r/\OY σ b/\OY σ r/\∃ (n:Nat) (D:DataW Unit) (lf:Lit->Bool),w.ranges P K (plainElem P E) b r n D lf uN/\UF D F/\(∀ u v,CP u->CP v->lf (kl u v)=left u v) /\
   ∀ u v c,cur=some (u,v,c)->(Instr.entry (D4 r)).run P w=.ok (.tuple #[kv u v,.int .i64 c]) w
theorem GL {σ σ':Nat->Option Ow}{w w':World}(hs:Stp σ w σ' w'){b:Nat}(hb:b<w.heap.size)(h:OY σ b):OY σ' b:=λi o' ho hb'=>by
 rcases hs.new i o' b ho hb' with h1|⟨j,o,h1,h2⟩
 .omega
 .exact h j o h1 h2
theorem O0 {w w':World}{r b s c clock:Nat}{seen:Array Nat}{es:Array MapEntry}{v:Value}(hr:w.heap[r]?=some (.mapIter (some b) s seen c))(hb:w.heap[b]?=some (.map es clock))
  (hr':w'.heap[r]?=some (.mapIter (some b) s seen c)) (hb':w'.heap[b]?=some (.map es clock)) (h:(Instr.entry (D4 r)).run P w=.ok v w):(Instr.entry (D4 r)).run P w'=.ok v w':=by
 simp only [D4,Instr.entry,getObj,Sem.run_bind,Sem.run,hr,hb,hr',hb',Result.andThen] at h ⊢
 cases hs:seen.back? with
 | none=>simp [hs,stuck,Sem.run] at h
 | some st =>
  simp only [hs,getObj,Sem.run_bind,Sem.run,hb,hb',Result.andThen] at h ⊢
  by_cases hc:clock=c
  .subst hc
   simp only [bne_self_eq_false,eX,if_false,if_true] at h ⊢
   cases hf:es.find? (λx=>x.born==st) with
   | none=>simp [hf,unsupported,Sem.run,Result.andThen] at h
   | some x =>
    simp only [hf,Sem.run_pure,Sem.run,Result.ok.injEq,Result.andThen] at h ⊢
    simp_all
  .simp [hc,unsupported,Sem.run,Result.andThen] at h
theorem MpOk.stp {σ σ':Nat->Option Ow}{w w':World}{base:Nat}{g:MS}(h:MpOk P K E σ base w g)(f:Stp σ w σ' w'):MpOk P K E σ' base w' g:=by
 cases g with
 | no=>trivial
 | mp b n F =>
  obtain ⟨x,q,D,o,p⟩:=h
  have j:=o.lt
  have G:=f.old b j q
  refine ⟨x,GL f j q,D,?_,p⟩
  obtain ⟨y,a,m,d⟩:=o
  exact ⟨y,a,G.trans m,d⟩
 | rg b r F left uN cur =>
  obtain ⟨x,q,o,p,n,D,B,t,M,L,J⟩:=h
  have l:=t.owns.lt
  have k:=t.lt
  have A:=f.old b l o
  have z:=f.old r k p
  obtain ⟨y,a,e,i,N,m,O,C,I,s,d⟩:=t
  exact ⟨x,q,GL f l o,GL f k p,n,D,B,⟨y,a,e,i,N,A.trans m,O,C,I,z.trans s,d⟩,M,L,λu v c H=>O0 s m (z.trans s) (A.trans m) (J u v c H)⟩
theorem MpOk.base {σ:Nat->Option Ow}{w:World}{base a:Nat}{g:MS}(h:MpOk P K E σ base w g)(c:a<=base):MpOk P K E σ a w g:=by
 cases g with
 | no=>trivial
 | mp b n F=>exact ⟨fC c h.1,h.2⟩
 | rg b r F left uN cur=>exact ⟨fC c h.1,fC c h.2.1,h.2.2⟩
theorem SQ {w:World}{b:Nat}{es:Array MapEntry}{clock:Nat}(hb:w.heap[b]?=some (.map es clock)):∀ ad:Addr,ad.block=b->w.cell? ad=none:=λad e=>by simp [World.cell?,e,hb]
theorem Rp {w:World}{r:Nat}{m:Option Nat}{s c:Nat}{seen:Array Nat}(hr:w.heap[r]?=some (.mapIter m s seen c)):∀ ad:Addr,ad.block=r->w.cell? ad=none:=λad e=>by simp [World.cell?,e,hr]
theorem Rel.turned {d:Nat->Prop}{H:AHeap}{σ:Nat->Option Ow}{w w':World}{row:Option Nat}(h:Rel d H σ w)(j:w.grownBy w' row)(q:∀ b,row=some b->OY σ b/\∀ ad:Addr,ad.block=b->w.cell? ad=none) :
  Rel d H σ w'/\Keeps (dA d H σ) σ H.al w (dA d H σ) σ H.al w':=by
 have r:Keeps (dA d H σ) σ H.al w (dA d H σ) σ H.al w':=⟨λad u v g=>⟨v,by
  have n:some ad.block≠row:=λe=>by rw [(q _ e.symm).2 ad rfl] at g;cases g
  exact (World.cell?_of_block (j.block ad.block (World.block_lt_of_cell? w ad g) n)).trans g⟩,λm t _ h=>⟨t,h,.inl rfl⟩,λ_ h=>h⟩
 refine ⟨⟨h.top,h.nxt,λm k p=>?_,h.inj,λi o c f a=>⟨cC (h.lt i o c f a).1 j.size,(h.lt i o c f a).2⟩,λc a=>cC (h.m0 c a) j.size⟩,r⟩
 obtain ⟨o,f,l⟩:=h.lies m k p
 obtain ⟨s,A,z,y⟩:=l.row
 refine ⟨o,f,l.ver,l.ty,l.sz,l.esz,s,A.kept j ?_,z,y.keep r⟩
 cases x:o.val.ownBlock with
 | none=>exact .inl rfl
 | some c=>exact .inr λe=>(q c e.symm).1 m o f x
theorem Stp.turned {σ0 σ:Nat->Option Ow}{w0 w w':World}{row:Option Nat}(h:Stp σ0 w0 σ w)(hg:w.grownBy w' row)(hr:∀ b,row=some b->w0.heap.size<=b):Stp σ0 w0 σ w' :=
 ⟨hg.os.trans h.os,hg.tape.trans h.tape,hg.output.trans h.output,fC h.size hg.size,λb hb hn=>(hg.block b (cC hb h.size) (λe=>by have:=hr b e.symm;omega)).trans (h.old b hb hn),h.new⟩
structure SG (P:Program) (K E:TypeId) (n:Nat) (M0:Nat->Prop) (H0:AHeap) (σ0:Nat->Option Ow) (w0:World) (g:MS) (e:dJ) (H:AHeap) (σ:Nat->Option Ow) (a:Act) (w:World):Prop where
 st:St n M0 H σ w e a
 stp:Stp σ0 w0 σ w
 keep:Keeps (dA M0 H0 σ0) σ0 H0.al w0 (dA M0 H σ) σ H.al w
 map:MpOk P K E σ w0.heap.size w g
section
variable {n:Nat} {M0:Nat→Prop} {H0 H:AHeap} {σ0 σ:Nat→Option Ow} {w0 w w':World} {g g':MS} {e:dJ} {a:Act}
theorem SG.turned {row:Option Nat}(h:SG P K E n M0 H0 σ0 w0 g e H σ a w)(j:w.grownBy w' row)(i:∀ b,row=some b->w0.heap.size<=b/\OY σ b/\∀ ad:Addr,ad.block=b->w.cell? ad=none)
  (o:MpOk P K E σ w0.heap.size w' g') {c:Option Tmp} (m:qV n c=true) {v:Value} {d:D} (l:RepV (dA M0 H σ) σ H.al w' v d):SG P K E n M0 H0 σ0 w0 g' (oP e c d) H σ (a.put c v) w':=by
 obtain ⟨p,k⟩:=h.st.rel.turned j λb f=>(i b f).2
 exact ⟨h.st.put p k m l,h.stp.turned j λb f=>(i b f).1,h.keep.trans k,o⟩
def NN (P:Program)(K E:TypeId)(n:Nat)(M0:Nat->Prop)(H0:AHeap)(σ0:Nat->Option Ow)(w0:World)(X:MS->dJ->AHeap->Prop)(a:Act)(w:World):Prop:=∃ g e H σ,X g e H/\SG P K E n M0 H0 σ0 w0 g e H σ a w
end
abbrev PG:=Exit->MS->dJ->AHeap->Prop
def WpG (P:Program)(K E:TypeId)(n:Nat)(x:Code)(Q:PG)(g:MS)(e:dJ)(H:AHeap):Prop :=
 ∀ M0 H0 σ0 w0 σ a w,SG P K E n M0 H0 σ0 w0 g e H σ a w->x.wp P (λex a w=>NN P K E n M0 H0 σ0 w0 (Q ex) a w) a w
def Iv (R:MS->dJ->AHeap->Prop)(Q:PG):PG
 | .normal,g,e,H=>R g e H
 | ex,g,e,H=>Q ex g e H
def KV (id:Nat)(Q:PG):PG
 | .exit id',g,e,H=>if id'=id then Q .normal g e H else Q (.exit id') g e H
 | ex,g,e,H=>Q ex g e H
variable {n:Nat} {c:Cfg} {Q:PG} {g:MS} {e:dJ} {H:AHeap}
theorem gF {x:Code}(hm:P.follows .mixedOrders=true)(hok:pE c n x=true)(h:oN P c x (λex e H=>Q ex g e H) e H):WpG P K E n x Q g e H :=
 λM0 H0 σ0 w0 σ a w hS=>iK (oI hm x _ e H h hok σ w a hS.st) λex a' w' ⟨e',H',σ',hq,hS',hst',hk'⟩=>⟨g,e',H',σ',hq,hS',hS.stp.trans hst',hS.keep.trans hk',hS.map.stp hst'⟩
theorem WpG.seq {x y:Code}(h:WpG P K E n x (Iv (WpG P K E n y Q) Q) g e H):WpG P K E n (.seq x y) Q g e H:=λM0 H0 σ0 w0 σ a w hS=>by
 refine wp_seq (iK (h M0 H0 σ0 w0 σ a w hS) λex a' w' hc=>?_)
 cases ex<;>first|exact hc|skip
 obtain ⟨g',e',H',σ',hq,hS'⟩:=hc
 exact hq M0 H0 σ0 w0 σ' a' w' hS'
theorem dO {x y:Code}(h:∀ R:MS->dJ->AHeap->Prop,(∀ g e H,WpG P K E n y Q g e H->R g e H)->WpG P K E n x (Iv R Q) g e H):WpG P K E n (.seq x y) Q g e H:=.seq (h _ λ_ _ _ h=>h)
@[go_sem] theorem Tp {R:MS->dJ->AHeap->Prop}{g:MS}{e:dJ}{H:AHeap}:Iv R Q .normal g e H=R g e H:=rfl
@[go_sem] theorem VX {R:MS->dJ->AHeap->Prop}{g:MS}{e:dJ}{H:AHeap}:Iv R Q .ret g e H=Q .ret g e H:=rfl
@[go_sem] theorem UN {R:MS->dJ->AHeap->Prop}{g:MS}{e:dJ}{H:AHeap}{i:Nat}:Iv R Q (.exit i) g e H=Q (.exit i) g e H:=rfl
@[go_sem] theorem VO {i:Nat}{g:MS}{e:dJ}{H:AHeap}:KV i Q .ret g e H=Q .ret g e H:=rfl
@[go_sem] theorem Tf {i:Nat}{g:MS}{e:dJ}{H:AHeap}:KV i Q .normal g e H=Q .normal g e H:=rfl
@[go_sem] theorem UB {i j:Nat}{g:MS}{e:dJ}{H:AHeap}:KV i Q (.exit j) g e H=if j=i then Q .normal g e H else Q (.exit j) g e H:=rfl
theorem WpG.cond {x:Operand}{y z:Code}{t:Bool}(hx:eZ e x=.bool t)(h1:t=true->WpG P K E n y Q g e H)(h2:t=false->WpG P K E n z Q g e H):WpG P K E n (.cond x y z) Q g e H:=λM0 H0 σ0 w0 σ a w hS=>by
 have hv:=hS.st.envR.ev x
 rw [hx] at hv
 have hc:a.eval x=.bool t:=by generalize a.eval x=v at hv;cases hv;rfl
 exact wp_cond_split hc (λht=>h1 ht M0 H0 σ0 w0 σ a w hS) λht=>h2 ht M0 H0 σ0 w0 σ a w hS
theorem WpG.block {id:Nat}{b:Code}(h:WpG P K E n b (KV id Q) g e H):WpG P K E n (.block id b) Q g e H:=λM0 H0 σ0 w0 σ a w hS=>by
 refine wp_block (iK (h M0 H0 σ0 w0 σ a w hS) λex a' w' hc=>?_)
 cases ex<;>first|exact hc|skip
 rename_i id'
 obtain ⟨g',e',H',σ',hq,hS'⟩:=hc
 by_cases hid:id'=id
 .subst hid
  show (if id'=id' then NN P K E n M0 H0 σ0 w0 (Q .normal) a' w' else _)
  rw [if_pos rfl]
  refine ⟨g',e',H',σ',?_,hS'⟩
  have h':(if id'=id' then Q .normal g' e' H' else Q (.exit id') g' e' H'):=hq
  rw [if_pos rfl] at h';exact h'
 .show (if id'=id then NN P K E n M0 H0 σ0 w0 (Q .normal) a' w' else NN P K E n M0 H0 σ0 w0 (Q (.exit id')) a' w')
  rw [if_neg hid]
  refine ⟨g',e',H',σ',?_,hS'⟩
  have h':(if id'=id then Q .normal g' e' H' else Q (.exit id') g' e' H'):=hq
  rw [if_neg hid] at h';exact h'
theorem WpG.loop {b:Code}{ι:Type}(I:ι->MS->dJ->AHeap->Prop)(m:ι->Nat)(x0:ι)(h0:I x0 g e H)(hI:∀ x g e H,I x g e H->WpG P K E n b (Iv (λg' e' H'=>∃ x',m x'<m x/\I x' g' e' H') Q) g e H):WpG P K E n (.loop b) Q g e H :=
 λM0 H0 σ0 w0 σ a w hS=>by
 let J:Nat->Act->World->Prop:=λk a' w'=>∃ g e H σ x,m x=k/\I x g e H/\SG P K E n M0 H0 σ0 w0 g e H σ a' w'
 have hJ0:J (m x0) a w:=⟨g,e,H,σ,x0,rfl,h0,hS⟩
 classical
 let μ:Act->World->Nat:=λa' w'=>if hx:∃ k,J k a' w' then Classical.choose (f9 hx) else 0
 refine wp_loop (λa' w'=>∃ k,J k a' w') μ ⟨_,hJ0⟩ λa' w' hx=>?_
 have hμ:μ a' w'=Classical.choose (f9 hx):=by simp only [μ,dif_pos hx]
 obtain ⟨g1,e1,H1,σ1,x1,hx1,hi,hS1⟩:=(xQ (f9 hx)).1
 refine iK (hI x1 g1 e1 H1 hi M0 H0 σ0 w0 σ1 a' w' hS1) λex a'' w'' hc=>?_
 cases ex<;>first|exact hc|skip
 obtain ⟨g2,e2,H2,σ2,⟨x2,hlt,hi2⟩,hS2⟩:=hc
 have hx2:∃ k,J k a'' w'':=⟨m x2,g2,e2,H2,σ2,x2,rfl,hi2,hS2⟩
 refine ⟨hx2,?_⟩
 have:μ a'' w''=Classical.choose (f9 hx2):=by simp only [μ,dif_pos hx2]
 rw [this,hμ]
 refine Nat.lt_of_le_of_lt ?_ (hx1 ▸ hlt)
 rcases b6 (m x2) (Classical.choose (f9 hx2)) with hlt'|hge
 .exact absurd ⟨g2,e2,H2,σ2,x2,rfl,hi2,hS2⟩ ((xQ (f9 hx2)).2 _ hlt')
 .exact hge
theorem WpG.ret (h:Q .ret g e H):WpG P K E n .ret Q g e H:=λM0 H0 σ0 w0 σ a w hS=>wp_ret ⟨g,e,H,σ,h,hS⟩
theorem WpG.skip (h:Q .normal g e H):WpG P K E n .skip Q g e H:=λM0 H0 σ0 w0 σ a w hS=>wp_skip ⟨g,e,H,σ,h,hS⟩
theorem WpG.exit {id:Nat}(h:Q (.exit id) g e H):WpG P K E n (.exit id) Q g e H:=λM0 H0 σ0 w0 σ a w hS=>wp_exit ⟨g,e,H,σ,h,hS⟩
/-! ### operations -/
def OpsG (P:Program)(K E:TypeId)(n:Nat)(ops:Array Oper)(l:List Oper)(X:MS->dJ->AHeap->Prop)(g:MS)(e:dJ)(H:AHeap):Prop :=
 ∀ M0 H0 σ0 w0 σ a w (Q:Exit->Act->World->Prop),SG P K E n M0 H0 σ0 w0 g e H σ a w->(∀ a' w',NN P K E n M0 H0 σ0 w0 X a' w'->Q .normal a' w')->wpList P ops Q l a w
theorem WpG.region {id:Nat}{ops:Array Oper}(h:OpsG P K E n ops ops.toList (Q .normal) g e H):WpG P K E n (.region id ops false) Q g e H:=λM0 H0 σ0 w0 σ a w hS=>wp_region_list (h M0 H0 σ0 w0 σ a w _ hS λ_ _ hc=>hc)
variable {ops:Array Oper} {l:List Oper} {o:Oper} {X:MS→dJ→AHeap→Prop}
theorem OpsG.nil (h:X g e H):OpsG P K E n ops [] X g e H:=λM0 H0 σ0 w0 σ a w Q hS hQ=>wpList_nil (hQ a w ⟨g,e,H,σ,h,hS⟩)
theorem OpsG.pre {md:Nat->Bool}:∀ (l1:List Oper) {l2:List Oper} {e:dJ} {H:AHeap},(∀ o∈l1,qV n o.dst=true)->nC P md ops l1 e H (λe' H'=>OpsG P K E n ops l2 X g e' H')->OpsG P K E n ops (l1++l2) X g e H
 | [],l2,e,H,hd,h=>h
 | o :: l1,l2,e,H,hd,h=>λM0 H0 σ0 w0 σ a w Q hS hQ=>by
  unfold nC at h
  have hs:=zM (Q:=Q) h hS.st (λhn=>oJ _ (hS.st.rel.nxt _ hn)) (hd o bW)
  have:=StepC.mono (K':=wpList P ops Q (l1++l2)) (λa' w' ⟨v,H',F,σ',hk,hS',hst,hkp⟩ =>
   OpsG.pre l1 (λo' ho'=>hd o' (by simp [ho'])) hk M0 H0 σ0 w0 σ' a' w' Q ⟨hS',hS.stp.trans hst,hS.keep.trans hkp,hS.map.stp hst⟩ hQ) hs
  unfold StepC at this
  show wpList P ops Q (o :: (l1++l2)) a w
  unfold wpList
  exact this
theorem OpsG.take {md:Nat->Bool}(k:Nat)(b:((l.take k).all λo=>qV n o.dst)=true)(h:∀ R:dJ->AHeap->Prop,(∀ e' H',OpsG P K E n ops (l.drop k) X g e' H'->R e' H')->nC P md ops (l.take k) e H R):OpsG P K E n ops l X g e H:=by
 have:=OpsG.pre (g:=g) (X:=X) (P:=P) (K:=K) (E:=E) (n:=n) (ops:=ops) (md:=md) (l.take k) (l2:=l.drop k) (λo a=>(cJ.1 b) o a) (h _ λ_ _ h=>h)
 rwa [List.take_append_drop] at this
theorem OpsG.all {md:Nat->Bool}(b:(l.all λo=>qV n o.dst)=true)(h:∀ R:dJ->AHeap->Prop,(∀ e' H',X g e' H'->R e' H')->nC P md ops l e H R):OpsG P K E n ops l X g e H:=by
 have:=OpsG.pre (g:=g) (X:=X) (P:=P) (K:=K) (E:=E) (n:=n) (ops:=ops) (md:=md) l (l2:=[]) (λo a=>(cJ.1 b) o a) (h _ λ_ _ h=>OpsG.nil h)
 rwa [dE] at this
theorem GR {d:Nat->Prop}{σ:Nat->Option Ow}{w:World}{a:Act}(c:St n d H σ w e a){m:Operand}{v:Value}(b:eZ e m=.cst v):a.eval m=v:=by
 have h:=c.envR.ev m
 rw [b] at h
 generalize a.eval m=x at h
 cases h;rfl
theorem P4 {k:Nat->Prop}{σ:Nat->Option Ow}{w:World}{a:Act}(g:St n k H σ w e a){x:Operand}{u v:Int}(d:eZ e x=.agg [.int .i64 u,.int .i64 v]):a.eval x=kv u v:=by
 have h:=g.envR.ev x
 rw [d] at h
 generalize a.eval x=y at h
 cases h
 rename_i c f l b
 match c,f with
 | [p,q],_ =>
  have j:=b 0 p _ rfl rfl
  have i:=b 1 q _ rfl rfl
  cases j;cases i;rfl
theorem VA {d:Nat->Prop}{σ:Nat->Option Ow}{w:World}{a:Act}(c:St n d H σ w e a){x:Operand}{k:IntKind}{u:Int}(b:eZ e x=.int k u):a.eval x=.int k u:=by
 have h:=c.envR.ev x
 rw [b] at h
 generalize a.eval x=y at h
 cases h;rfl
theorem LQ {M:Nat->Prop}{σ:Nat->Option Ow}{N:Nat->Prop}{w:World}(u v:Int):RepV M σ N w (kv u v) (.agg [.int .i64 u,.int .i64 v]) :=
 .agg [.int .i64 u,.int .i64 v] _ rfl (by simp [Value.oneCell']) λj x d hx hd=>by
  match j with
  | 0=>simp at hx hd;subst hx;subst hd;exact .int _ _
  | 1=>simp at hx hd;subst hx;subst hd;exact .int _ _
  | j+2=>simp at hx
theorem EV {M:Nat->Prop}{σ:Nat->Option Ow}{N:Nat->Prop}{w:World}{vs:List Value}{ds:List D}(hl:vs.length=ds.length)(hr:∀ (j:Nat) (u:Value) (d:D),vs[j]?=some u->ds[j]?=some d->RepV M σ N w u d):RepV M σ N w (.tuple vs.toArray) (.tup ds):=.tup _ _ hl hr
theorem OpsG.make (hT:MapT P T K E){t:TypeId}(hop:o.op=.makeMap t none)(hg:o.guard=none)(hd:qV n o.dst=true)(h:∀ b,OpsG P K E n ops l X (.mp b 0 λ_ _=>none) (oP e o.dst (.cst (.map (some b)))) H):OpsG P K E n ops (o :: l) X .no e H :=
 λM0 H0 σ0 w0 σ a w Q hS hQ=>by
 refine wpList_plain hg λK' hK'=>?_
 unfold Oper.wp
 simp only [execOp,hop,RowKit.run_makeMap,Option.map_none,Sem.run_bind,Sem.run_pure,Result.andThen_ok,Result.andThen,Oper.upon_value]
 refine hK' _ _ (h w.heap.size M0 H0 σ0 w0 σ _ _ Q (hS.turned (g':=.mp w.heap.size 0 λ_ _=>none) (World.grownBy_alloc w _ none) bW ⟨hS.stp.size,λi o ho hb=>?_,_,World.ownsMap_made w P K _,λu v _ _=>⟨rfl,by simp⟩⟩ hd (.cst _)) hQ)
 have:=(hS.st.rel.lt i o _ ho hb).1
 omega
theorem RE (hT:MapT P T K E){t:TypeId}(ht:t=T){m x:Operand}(hop:o.op=.lookup t m x true)(hg:o.guard=none)(hd:qV n o.dst=true){b k:Nat}{F:FM}(hm:eZ e m=.cst (.map (some b))){u v:Int}(hx:eZ e x=.agg [.int .i64 u,.int .i64 v])(hu:CP u)(hv:CP v)
  (h:OpsG P K E n ops l X (.mp b k F) (oP e o.dst (.tup [.int .i64 ((F u v).getD 0),.bool (F u v).isSome])) H):OpsG P K E n ops (o :: l) X (.mp b k F) e H :=
 λM0 H0 σ0 w0 σ a w Q hS hQ=>by
 subst ht
 obtain ⟨m1,m2,D,m3,m4⟩:=hS.map
 obtain ⟨r1,r2⟩:=m4 u v hu hv
 refine wpList_lookup_own_ok w hg m x t hop K E hT.law hT.t _ (hT.z w) (.lit (.int .i64 0)) [] (plainElem_int hT.e (KG ⟨aD,aD⟩)) b k D (GR hS.st hm) m3 (kv u v) (kl u v) (P4 hS.st hx) (hT.kmk u v hu hv) λy ps hy=>?_
 obtain ⟨c,rfl,hc,_⟩:=plainElem_int_inv hT.e hy
 have hcv:c=(F u v).getD 0:=by
  simp only [Prod.mk.injEq] at hc
  cases hF:F u v with
  | none =>
   rw [hF] at r1
   have:=Maps.atKey_of_not_has r1 (.lit (.int .i64 0))
   rw [this] at hc
   have:=hc.1;simp at this;simp [this]
  | some c' =>
   have:=r2 c' hF (.lit (.int .i64 0))
   rw [this] at hc
   have:=hc.1;simp at this;simp [this]
 subst hcv
 rw [r1]
 refine h M0 H0 σ0 w0 σ _ _ Q (hS.turned (row:=none) ⟨rfl,rfl,rfl,bC _,λ_ _ _=>rfl⟩ bW hS.map hd (EV (vs:=[_,_]) rfl λj y d hy hd=>?_)) hQ
 match j with
 | 0=>simp at hy hd;subst hy;subst hd;exact .int _ _
 | 1=>simp at hy hd;subst hy;subst hd;exact .bool _
 | j+2=>simp at hy
theorem OpsG.store (hT:MapT P T K E){t:TypeId}(ht:t=T){m x y:Operand}(hop:o.op=.mapUpdate t m x y)(hg:o.guard=none)(hd:qV n o.dst=true){b k:Nat}{F:FM}(hm:eZ e m=.cst (.map (some b))){u v c:Int}(hx:eZ e x=.agg [.int .i64 u,.int .i64 v])(hy:eZ e y=.int .i64 c)(hu:CP u)(hv:CP v)(hc:CP c)(hk:k<1000000)
  (h:OpsG P K E n ops l X (.mp b (k+1) (JW F u v c)) (oP e o.dst .junk) H):OpsG P K E n ops (o :: l) X (.mp b k F) e H :=
 λM0 H0 σ0 w0 σ a w Q hS hQ=>by
 subst ht
 obtain ⟨m1,m2,D,m3,m4⟩:=hS.map
 have hcm:∀ ad:Addr,ad.block=b->w.cell? ad=none:=by obtain ⟨es,clock,hb,_⟩:=m3;exact SQ hb
 refine wpList_mapUpdate_own w hg m x y t hop K E hT.law hT.t _ b k D (GR hS.st hm) m3 (by simp only [maxLen];omega) (kv u v) (.int .i64 c) (kl u v) (P4 hS.st hx) (VA hS.st hy) (hT.kmk u v hu hv) (.lit (.int .i64 c)) [] (plainElem_int hT.e (KG hc)) λw' hw1 hw2=>?_
 refine h M0 H0 σ0 w0 σ _ _ Q (hS.turned (g':=.mp b (k+1) (JW F u v c)) hw2 (λb' hb'=>by cases hb';exact ⟨m1,m2,hcm⟩) ⟨m1,m2,_,hw1,λu' v' hu' hv'=>?_⟩ hd (.junk _)) hQ
 unfold JW
 by_cases he:u'=u/\v'=v
 .obtain ⟨rfl,rfl⟩:=he
  rw [if_pos ⟨rfl,rfl⟩]
  have hkl:=hT.law.key (hT.kmk u' v' hu' hv')
  exact ⟨Maps.has_put_same m3.isMap hkl _,λc' hc' z=>by cases hc';exact Maps.atKey_put_same m3.isMap hkl _ _⟩
 .rw [if_neg he]
  have hne:kl u' v'≠kl u v:=λe'=>he (hT.inj hu' hv' hu hv e')
  obtain ⟨r1,r2⟩:=m4 u' v' hu' hv'
  exact ⟨(Maps.has_put_other hne _).trans r1,λc' hc' z=>(Maps.atKey_put_other hne _ _).trans (r2 c' hc' z)⟩
theorem OpsG.range (hT:MapT P T K E){t:TypeId}(ht:t=T){m:Operand}(hop:o.op=.range t m)(hg:o.guard=none)(hd:qV n o.dst=true){b k:Nat}{F:FM}(hm:eZ e m=.cst (.map (some b)))
  (h:∀ r uN,OpsG P K E n ops l X (.rg b r F (λu v=>(F u v).isSome) uN none) (oP e o.dst (.cst (D4 r))) H):OpsG P K E n ops (o :: l) X (.mp b k F) e H :=
 λM0 H0 σ0 w0 σ a w Q hS hQ=>by
 subst ht
 obtain ⟨m1,m2,D,m3,m4⟩:=hS.map
 refine wpList_range_own w hg m t hop K E hT.law hT.t _ b k D (GR hS.st hm) m3 λw' hw1 hw2 hw3=>?_
 refine h w.heap.size (Maps.size D) M0 H0 σ0 w0 σ _ _ Q (hS.turned (g':=.rg b w.heap.size F (λu v=>(F u v).isSome) (Maps.size D) none) hw2 bW ⟨m1,hS.stp.size,m2,λi o ho hb=>?_,k,D,_,hw1,m4,λu v hu hv=>(m4 u v hu hv).1,by simp⟩ hd (.cst _)) hQ
 have:=(hS.st.rel.lt i o _ ho hb).1
 omega
theorem OpsG.next (hT:MapT P T K E){it:Operand}(hop:o.op=.next it false)(hg:o.guard=none)(hd:qV n o.dst=true){b r uN:Nat}{F:FM}{left:Int->Int->Bool}{cur:Option (Int × Int × Int)}(hit:eZ e it=.cst (D4 r))
  (h1:(∀ u v,CP u->CP v->left u v=false)->OpsG P K E n ops l X (.rg b r F left uN cur) (oP e o.dst (.tup [.bool false])) H)
  (h2:∀ u v c cnt',CP u->CP v->left u v=true->F u v=some c->cnt'<uN->OpsG P K E n ops l X (.rg b r F (λu' v'=>left u' v'&&!decide (u'=u/\v'=v)) cnt' (some (u,v,c))) (oP e o.dst (.tup [.bool true,.agg [.int .i64 u,.int .i64 v],.int .i64 c])) H) :
  OpsG P K E n ops (o :: l) X (.rg b r F left uN cur) e H :=
 λM0 H0 σ0 w0 σ a w Q hS hQ=>by
 obtain ⟨m1,m2,m3,m4,k,D,lf,m5,m6,m7,m8⟩:=hS.map
 have hcm:∀ ad:Addr,ad.block=r->w.cell? ad=none:=by obtain ⟨es,clock,since,seen,c0,hb,F',hn,hD,hr,_⟩:=m5;exact Rp hr
 refine wpList_next_ranges w hg it hop K hT.law (plainElem P E) (λp:Int × Int=>kv p.1 p.2) (Value.int .i64) (λkey l hkey=>?_) (λv y hv=>?_) b r k D lf uN (GR hS.st hit) m5 (λhc hl=>?_) λx c l' y w' cnt' hkey hlk hv hat hrg hlt hgr hsz hen=>?_
 .obtain ⟨u,v,_,_,rfl⟩:=hT.inv key l hkey
  exact ⟨(u,v),rfl⟩
 .obtain ⟨c,rfl,_⟩:=plainElem_int_inv hT.e hv;exact ⟨c,rfl⟩
 .refine h1 (λu v hu hv=>by rw [<- m7 u v hu hv];exact hl _) M0 H0 σ0 w0 σ _ _ Q (hS.turned (row:=none) ⟨rfl,rfl,rfl,bC _,λ_ _ _=>rfl⟩ bW hS.map hd (EV (vs:=[_]) rfl λj y d hy hd=>?_)) hQ
  match j with
  | 0=>simp at hy hd;subst hy;subst hd;exact .bool _
  | j+1=>simp at hy
 .obtain ⟨u,v⟩:=x
  simp only at hkey hen
  obtain ⟨u',v',hu,hv',he⟩:=hT.inv _ _ hkey
  simp only [kv,Value.agg.injEq,Array.mk.injEq,List.cons.injEq,Value.int.injEq,true_and,and_true] at he
  obtain ⟨rfl,rfl⟩:=he
  rw [hT.kmk u v hu hv'] at hkey
  cases hkey
  obtain ⟨c',ec,rfl,hwc⟩:=plainElem_int_inv hT.e hv
  cases ec
  have hhas:=Maps.has_true_of_atKey hat
  obtain ⟨r1,r2⟩:=m6 u v hu hv'
  rw [hhas] at r1
  obtain ⟨c2,hc2⟩:=kZ.1 r1.symm
  have hcc:c2=c:=by
   have e1:=r2 c2 hc2 .nil
   rw [hat .nil] at e1
   simp at e1;exact e1.symm
  subst hcc
  refine h2 u v c2 cnt' hu hv' (by rw [<- m7 u v hu hv'];exact hlk) hc2 hlt M0 H0 σ0 w0 σ _ _ Q (hS.turned (g':=.rg b r F (λu' v'=>left u' v'&&!decide (u'=u/\v'=v)) cnt' (some (u,v,c2))) hgr (λb' hb'=>by cases hb';exact ⟨m2,m4,hcm⟩) ⟨m1,m2,m3,m4,k,D,_,hrg,m6,λa1 a2 ha1 ha2=>?_,λa1 a2 a3 ha=>?_⟩ hd (EV (vs:=[_,_,_]) rfl λj y d hy hd=>?_)) hQ
  .rw [m7 a1 a2 ha1 ha2]
   congr 2
   rw [aR]
   constructor
   .intro h;exact decide_eq_true (hT.inj ha1 ha2 hu hv' (WideAt.sameKey_eq h))
   .intro h
    obtain ⟨rfl,rfl⟩:=of_decide_eq_true h
    exact WideAt.sameKey_self (hT.law.key (hT.kmk _ _ hu hv'))
  .cases ha;exact hen
  .match j with
   | 0=>simp at hy hd;subst hy;subst hd;exact .bool _
   | 1=>simp at hy hd;subst hy;subst hd;exact LQ _ _
   | 2=>simp at hy hd;subst hy;subst hd;exact .int _ _
   | j+3=>simp at hy
theorem OpsG.entry {it:Operand}(hop:o.op=.entry it)(hg:o.guard=none)(hd:qV n o.dst=true){b r uN:Nat}{F:FM}{left:Int->Int->Bool}{u v c:Int}(hit:eZ e it=.cst (D4 r))
  (h:OpsG P K E n ops l X (.rg b r F left uN (some (u,v,c))) (oP e o.dst (.tup [.agg [.int .i64 u,.int .i64 v],.int .i64 c])) H):OpsG P K E n ops (o :: l) X (.rg b r F left uN (some (u,v,c))) e H :=
 λM0 H0 σ0 w0 σ a w Q hS hQ=>by
 obtain ⟨m1,m2,m3,m4,k,D,lf,m5,m6,m7,m8⟩:=hS.map
 have hrun:=m8 u v c rfl
 refine wpList_plain hg λK' hK'=>?_
 unfold Oper.wp
 have hit':=GR hS.st hit
 simp only [execOp,hop,hit',hrun,Sem.run_bind,Sem.run_pure,Result.andThen_ok,Result.andThen,Oper.upon_value]
 refine hK' _ _ (h M0 H0 σ0 w0 σ _ _ Q (hS.turned (row:=none) ⟨rfl,rfl,rfl,bC _,λ_ _ _=>rfl⟩ bW hS.map hd (EV (vs:=[_,_]) rfl λj y d hy hd=>?_)) hQ)
 match j with
 | 0=>simp at hy hd;subst hy;subst hd;exact LQ _ _
 | 1=>simp at hy hd;subst hy;subst hd;exact .int _ _
 | j+2=>simp at hy
/-! ### calls -/
def GCalls (P:Program)(K E:TypeId)(f:FuncId)(args:List D)(H:AHeap)(Q:D->AHeap->MS->Prop):Prop :=
 UH P f/\∀ (M0:Nat->Prop) (σ:Nat->Option Ow) (w:World) (vals:List Value),Rel M0 H σ w->RepL (dA M0 H σ) σ H.al w vals args ->
  Calls P f vals.toArray w λe w'=>∃ v d H' σ' g,e=.returned v/\Rel M0 H' σ' w'/\RepV (dA M0 H' σ') σ' H'.al w' v d/\Stp σ w σ' w'/\Keeps (dA M0 H σ) σ H.al w (dA M0 H' σ') σ' H'.al w'/\MpOk P K E σ' w.heap.size w' g/\Q d H' g
theorem In {f:FuncId}{args:List D}{Q:D->AHeap->MS->Prop}{Q':D->AHeap->Prop}(h:GCalls P K E f args H Q)(hq:∀ d H' g,Q d H' g->Q' d H'):ACalls P f args H Q' :=
 ⟨h.1,λM0 σ w vals hR ha=>(h.2 M0 σ w vals hR ha).mono λe w' ⟨v,d,H',σ',g,a,b,c,s,k,_,q⟩=>⟨v,d,H',σ',a,b,c,s,k,hq _ _ _ q⟩⟩
def QD (P:Program)(rs:List ResultVar)(Q:D->AHeap->MS->Prop):PG:=λex g e H=>QC P rs (λd H'=>Q d H' g) ex e H
theorem y8 {f:FuncId}{fn:Func}{x:Code}{args:List D}{Q:D->AHeap->MS->Prop}(z:P.funcs[f]?=some fn)(A:fn.body=some x)
  (r:(fn.name=="runtime.NumGoroutine")=false) (y:args.length<=fn.ntmps) (h:WpG P K E fn.ntmps x (QD P fn.results.toList Q) .no (An args) H):GCalls P K E f args H Q:=by
 refine ⟨⟨fn,z,r,by simp [A]⟩,λe σ w a I j=>calls_of_wp z A ?_⟩
 have G:St fn.ntmps e H σ w (An args) { tmps:=a.toArray++Array.replicate (fn.ntmps - a.toArray.size) undef,defers:=[] }:=by
  refine ⟨I,λt=>?_,rfl,by simp [j.len];omega⟩
  simp only [An]
  by_cases p:t<a.length
  .have m:a[t]?=some a[t]:=aA p
   have k:args[t]?=some (args[t]'(by rw [<- j.len];exact p)):=aA _
   have:=j.rep t _ _ m k
   rw [List.getD_eq_getElem?_getD,k]
   simp only [Option.getD_some,i5]
   rw [Array.getElem?_append_left (bX p)]
   simpa [m] using this
  .rw [List.getD_eq_getElem?_getD,b7 (by rw [<- j.len];omega)]
   exact .junk _
 refine iK (h e H σ w σ _ w ⟨G,.refl _ _,.refl _ _ _ _,trivial⟩) λM B b F=>?_
 obtain ⟨g,N,u,σ',i,c,q,C,J⟩:=F
 have s:CI P fn.results.toList N u (λl=>Q (Fl l) u g)->B.defers=[]/\∃ v,(results fn B.tmps).run P b=.ok v b /\
   ∃ v2 d H2 σ2 g2,Ending.returned v=.returned v2/\Rel e H2 σ2 b/\RepV (dA e H2 σ2) σ2 H2.al b v2 d/\Stp σ w σ2 b/\Keeps (dA e H σ) σ H.al w (dA e H2 σ2) σ2 H2.al b/\MpOk P K E σ2 w.heap.size b g2/\Q d H2 g2:=by
  intro i
  obtain ⟨O,l,m,k,L⟩:=wV c _ _ i
  obtain ⟨v,o,n⟩:=DO (fn:=fn) m k
  exact ⟨c.defers,v,o,v,_,u,σ',g,rfl,c.rel,n,q,C,J,L⟩
 cases M<;>first|exact s i|exact i.elim
theorem OpsG.call {f:FuncId}{args:List D}{Q:D->AHeap->MS->Prop}(hc:gQ e o=some (f,args))(hg:o.guard=none)(hd:qV n o.dst=true)(hA:GCalls P K E f args H Q)(h:∀ d H' g',Q d H' g'->OpsG P K E n ops l X g' (oP e o.dst d) H') :
  OpsG P K E n ops (o :: l) X .no e H:=λM0 H0 σ0 w0 σ a w Q' hS hQ=>by
 refine wpList_plain hg λK' hK'=>?_
 obtain ⟨vals,hrun,hrep⟩:=Bm (P:=P) (λx _=>hS.st.envR.ev x) hc hA.1
 refine AS (args:=args) hrun ((hA.2 M0 σ w vals hS.st.rel hrep).mono λe' w' ⟨v,d,H',σ',g',he,hR',hv,hst,hk,hM,hq⟩=>?_)
 exact ⟨v,he,hK' _ _ (h d H' g' hq M0 H0 σ0 w0 σ' _ _ Q' ⟨hS.st.put hR' hk hd hv,hS.stp.trans hst,hS.keep.trans hk,hM.base hS.stp.size⟩ hQ)⟩
end
end Go.Abs
end
section
set_option maxRecDepth 100000
set_option maxHeartbeats 4000000
open Go Go.Proofs
namespace Go.Abs
@[go_sem] theorem W8 (H:AHeap)(a b c d:Nat):iM H (.ptr a b c d)=.ptr a b c d:=rfl
@[go_sem] theorem UZ (a b c d:Nat):dV (.ptr a b c d)=[]:=rfl
@[go_sem] theorem XM (H:AHeap)(i:Nat):(H.frz i).next=H.next:=(OW H i).2
@[go_sem] theorem Zn (H:AHeap)(i j:Nat):(H.frz i).get j=if j=i then (H.get i).map (λk=>{ k with fz:=true }) else H.get j:=by
 by_cases h:j=i
 .subst h
  unfold AHeap.frz
  cases a:H.get j<;>simp [AHeap.put,a]
 .rw [if_neg h,Ji H i j h]
theorem Nz {P:Program}{md:Nat->Bool}{ops:Array Oper}{a:List Oper}{e:dJ}{c:Option Tmp}{K:dJ->AHeap->Prop}{f:FuncId}{args args':List D}{H:AHeap}(m:args.map Q3=args')(h:fL P md ops a e c K f args' H):fL P md ops a e c K f args H:=by
 subst m;unfold fL at h ⊢
 exact ⟨h.1,λo σ w b n g=>h.2 o σ w b n ⟨by simpa using g.len,λj u d l i=>by
  rw [aN,bR] at i
  obtain ⟨y,k,rfl⟩:=i
  exact Ku (g.rep j u y l k)⟩⟩
theorem Gw (o:Option Int):(Option.map cI o).getD [D.int .i64 0]=cI (o.getD 0):=by cases o<;>rfl
structure Srch where
 t:Types
 p:Graph
 g:Graph
 pn:List Int
 pe:List Int
 inj:Bool
def SD (y:Edge):List Int:=[y.type,y.from_,y.to_]
def zC (l:List Int)(i k:Nat):Bool:=decide (l[i]?.getD (-1)<0)||decide (l[i]?.getD (-1)=(k:Int))
def wT (t:Types)(a b:Int):Bool:=mem (t.line b.toNat) a
def VB (p:Graph)(ns:List Int)(i:Nat):Edge:=⟨(p.edges[i]?.getD cF).type,ns[(p.edges[i]?.getD cF).from_.toNat]?.getD 0,ns[(p.edges[i]?.getD cF).to_.toNat]?.getD 0⟩
def y7 (S:Srch)(ns:List Int)(i k:Nat):Bool:=decide (SD (S.g.edges[k]?.getD cF)=SD (VB S.p ns i))
def IQ (S:Srch)(l:List Int)(k:Nat):Bool:=zC S.pn l.length k&&(!(S.inj&&mem l k)&&wT S.t (S.p.nodes[l.length]?.getD 0) (S.g.nodes[k]?.getD 0))
def PO (S:Srch)(ns l:List Int)(k:Nat):Bool:=zC S.pe l.length k&&(!(S.inj&&mem l k)&&y7 S ns l.length k)
def Hz (S:Srch)(N:Nat)(ns:List Int):Nat->List Int->List Part->List Part
 | 0,l,ou=>if N<=ou.length then ou else ou++[⟨ns,l⟩]
 | d+1,l,ou=>if N<=ou.length then ou else (List.range S.g.edges.length).foldl (λou k=>if PO S ns l k=true then Hz S N ns d (l++[(k:Int)]) ou else ou) ou
def A4 (S:Srch)(l:List Int)(i:Nat):Bool:=decide ((l.length:Int)<=(S.p.edges[i]?.getD cF).from_)||decide ((l.length:Int)<=(S.p.edges[i]?.getD cF).to_)||(List.range S.g.edges.length).any (y7 S l i)
def uJ (S:Srch)(l:List Int):Bool:=(List.range S.p.edges.length).all (A4 S l)
def Gf (S:Srch)(l:List Int)(i:Nat):Bool:=decide (max (S.p.edges[i]?.getD cF).from_ (S.p.edges[i]?.getD cF).to_≠(l.length:Int) - 1)||(List.range S.g.edges.length).any λk=>zC S.pe i k&&y7 S l i k
def tN (S:Srch)(l:List Int):Bool:=(List.range S.p.edges.length).all (Gf S l)
def N7 (S:Srch)(N:Nat):Nat->List Int->List Part->List Part
 | 0,l,ou=>if N<=ou.length\/uJ S l=false then ou else Hz S N l S.p.edges.length [] ou
 | d+1,l,ou=>if N<=ou.length\/uJ S l=false then ou else (List.range S.g.nodes.length).foldl (λou k=>if IQ S l k=true then N7 S N d (l++[(k:Int)]) ou else ou) ou
def PJ (S:Srch)(N:Nat):Nat->List Int->List Part->List Part
 | 0,l,ou=>if N<=ou.length then ou else Hz S N l S.p.edges.length [] ou
 | d+1,l,ou=>if N<=ou.length then ou else (List.range S.g.nodes.length).foldl (λou k=>if (IQ S l k&&tN S (l++[(k:Int)]))=true then PJ S N d (l++[(k:Int)]) ou else ou) ou
/-! ### all matches -/
def EG (S:Srch)(ns:List Int):Nat->List Int->List (List Int)
 | 0,l=>[l]
 | d+1,l=>((List.range S.g.edges.length).filter (PO S ns l)).flatMap λ(k:Nat)=>EG S ns d (l++[(k:Int)])
def Cp (S:Srch):Nat->List Int->List Part
 | 0,l=>(EG S l S.p.edges.length []).map λes=>⟨l,es⟩
 | d+1,l=>((List.range S.g.nodes.length).filter (IQ S l)).flatMap λ(k:Nat)=>Cp S d (l++[(k:Int)])
def Bq (S:Srch):List Part:=Cp S S.p.nodes.length []
theorem CU {α:Type}(N:Nat)(a b:List α):((a.take N)++b).take N=(a++b).take N:=by
 rw [Ag,Ag,List.take_take,Nat.min_self]
 congr 1
 by_cases h:a.length<=N
 .rw [aG h]
 .rw [c5,Nat.min_eq_left aD]
  rw [(aD:N - N=0),(aD:N - a.length=0)]
theorem vJ {α:Type}(N:Nat)(ok:Nat->Bool)(f:Nat->List α->List α)(x:Nat->List α)(hf:∀ k ou,ou.length<=N->f k ou=(ou++x k).take N) :
  ∀ (l:List Nat) (ou:List α),ou.length<=N->l.foldl (λou k=>if ok k=true then f k ou else ou) ou=(ou++(l.filter ok).flatMap x).take N
 | [],ou,h=>by simp [aG h]
 | k :: l,ou,h=>by
  rw [List.foldl_cons]
  by_cases hk:ok k=true
  .rw [if_pos hk,hf k ou h,vJ N ok f x hf l _ (by simp;omega),CU,List.filter_cons_of_pos hk,xH,List.append_assoc]
  .rw [if_neg hk,vJ N ok f x hf l _ h,List.filter_cons_of_neg hk]
theorem rZ {α:Type}{N:Nat}{a x:List α}(h:a.length<=N)(b:N<=a.length):a=(a++x).take N:=by
 rw [Ag,aG h,(aD:N - a.length=0)];simp
theorem JU (S:Srch)(N:Nat)(ns:List Int):∀ (d:Nat) (l:List Int) (ou:List Part),ou.length<=N->Hz S N ns d l ou=(ou++(EG S ns d l).map λes=>(⟨ns,es⟩:Part)).take N
 | 0,l,ou,h=>by
  simp only [Hz,EG]
  split
  .rename_i h2;exact rZ h h2
  .rw [aG (by simp;omega)];rfl
 | d+1,l,ou,h=>by
  simp only [Hz,EG]
  split
  .rename_i h2;exact rZ h h2
  .rw [vJ N (PO S ns l) (λk ou=>Hz S N ns d (l++[(k:Int)]) ou) (λk=>(EG S ns d (l++[(k:Int)])).map λes=>(⟨ns,es⟩:Part)) (λk ou ho=>JU S N ns d _ ou ho) _ _ h,List.map_flatMap]
theorem GQ {S:Srch}{ns:List Int}:∀ (d:Nat) (l es:List Int),es∈EG S ns d l->∀ i,l.length<=i->i<l.length+d->∃ k,k<S.g.edges.length/\zC S.pe i k=true/\y7 S ns i k=true
 | 0,l,es,_,i,h1,h2=>by omega
 | d+1,l,es,h,i,h1,h2=>by
  simp only [EG,bT,g6,bK] at h
  obtain ⟨k,⟨hk,ho⟩,hr⟩:=h
  by_cases hi:i=l.length
  .simp only [PO,aQ] at ho
   exact ⟨k,hk,hi ▸ ho.1,hi ▸ ho.2.2⟩
  .exact GQ d _ es hr i (by simp;omega) (by simp;omega)
theorem zE {S:Srch}:∀ (d:Nat) (l:List Int) (m:Part),m∈Cp S d l->(∃ r,m.nodes=l++r)/\m.edges∈EG S m.nodes S.p.edges.length []
 | 0,l,m,h=>by
  simp only [Cp,bB] at h
  obtain ⟨es,he,rfl⟩:=h
  exact ⟨⟨[],by simp⟩,he⟩
 | d+1,l,m,h=>by
  simp only [Cp,bT,g6,bK] at h
  obtain ⟨k,_,hr⟩:=h
  obtain ⟨⟨r,hr1⟩,hr2⟩:=zE d _ m hr
  exact ⟨⟨(k:Int) :: r,by rw [hr1];simp⟩,hr2⟩
theorem P6 {p:Graph}{l r:List Int}{i:Nat}(b:(p.edges[i]?.getD cF).from_.toNat<l.length)(a:(p.edges[i]?.getD cF).to_.toNat<l.length):VB p (l++r) i=VB p l i:=by
 unfold VB
 rw [aS b,aS a]
theorem GP {S:Srch}(hp:graphF S.p=0)(d:Nat)(l:List Int)(h:uJ S l=false):Cp S d l=[]:=by
 rw [n6]
 intro m hm
 obtain ⟨⟨r,hr⟩,he⟩:=zE d l m hm
 simp only [uJ,Ff,bK] at h
 obtain ⟨i,hi,hk⟩:=h
 have hx:=((eK hp).2 _ (aC hi)).2
 simp only [A4,aA hi,Option.getD_some,c4,decide_eq_true_eq,not_or,aX,bK,not_exists,not_and,Int.not_le] at hk
 obtain ⟨⟨k1,k2⟩,k3⟩:=hk
 obtain ⟨k,a1,a2,a3⟩:=GQ _ _ _ he i (dY _) (bX hi)
 apply k3 k a1
 unfold y7 at a3 ⊢
 rw [hr,P6 (by rw [aA hi,Option.getD_some];omega) (by rw [aA hi,Option.getD_some];omega)] at a3
 exact a3
theorem Rm {S:Srch}(hp:graphF S.p=0)(d:Nat)(l:List Int)(h:tN S l=false):Cp S d l=[]:=by
 rw [n6]
 intro m hm
 obtain ⟨⟨r,hr⟩,he⟩:=zE d l m hm
 simp only [tN,Ff,bK] at h
 obtain ⟨i,hi,hk⟩:=h
 have hx:=((eK hp).2 _ (aC hi)).2
 simp only [Gf,aA hi,Option.getD_some,c4,decide_eq_true_eq,not_or,aX,bK,not_exists,not_and,ne_eq,jU,aQ] at hk
 obtain ⟨k1,k3⟩:=hk
 obtain ⟨k,a1,a2,a3⟩:=GQ _ _ _ he i (dY _) (bX hi)
 refine k3 k a1 a2 ?_
 unfold y7 at a3 ⊢
 rw [hr,P6 (by rw [aA hi,Option.getD_some];omega) (by rw [aA hi,Option.getD_some];omega)] at a3
 exact a3
theorem N6 {S:Srch}(hp:graphF S.p=0)(N:Nat):∀ (d:Nat) (l:List Int) (ou:List Part),ou.length<=N->N7 S N d l ou=(ou++Cp S d l).take N
 | 0,l,ou,h=>by
  simp only [N7]
  split
  .rename_i h2
   rcases h2 with h2|h2
   .exact rZ h h2
   .rw [GP hp 0 l h2,dE,aG h]
  .rw [JU S N l _ _ _ h];rfl
 | d+1,l,ou,h=>by
  simp only [N7]
  split
  .rename_i h2
   rcases h2 with h2|h2
   .exact rZ h h2
   .rw [GP hp _ l h2,dE,aG h]
  .rw [vJ N (IQ S l) (λk ou=>N7 S N d (l++[(k:Int)]) ou) (λk=>Cp S d (l++[(k:Int)])) (λk ou ho=>N6 hp N d _ ou ho) _ _ h];rfl
theorem Eb {α:Type}(ok po:Nat->Bool)(x:Nat->List α)(h:∀ k,po k=false->x k=[]):∀ l:List Nat,(l.filter λk=>ok k&&po k).flatMap x=(l.filter ok).flatMap x
 | []=>rfl
 | k :: l=>by
  cases h1:ok k<;>cases h2:po k<;>simp [List.filter_cons,h1,h2,Eb ok po x h l,h k]
theorem OA {S:Srch}(hp:graphF S.p=0)(N:Nat):∀ (d:Nat) (l:List Int) (ou:List Part),ou.length<=N->PJ S N d l ou=(ou++Cp S d l).take N
 | 0,l,ou,h=>by
  simp only [PJ]
  split
  .rename_i h2;exact rZ h h2
  .rw [JU S N l _ _ _ h];rfl
 | d+1,l,ou,h=>by
  simp only [PJ]
  split
  .rename_i h2;exact rZ h h2
  .rw [vJ N (λk=>IQ S l k&&tN S (l++[(k:Int)])) (λk ou=>PJ S N d (l++[(k:Int)]) ou) (λk=>Cp S d (l++[(k:Int)])) (λk ou ho=>OA hp N d _ ou ho) _ _ h]
   rw [Eb (IQ S l) (λk=>tN S (l++[(k:Int)])) _ λk hk=>Rm hp d _ hk];rfl
theorem CY (S:Srch){N:Nat}(ns:List Int)(d:Nat)(l:List Int){a:List Part}(h:a.length<=N):(Hz S N ns d l a).length<=N:=by
 rw [JU S N ns d l a h];exact List.length_take_le _ _
theorem RX {S:Srch}(b:graphF S.p=0){N:Nat}(d:Nat)(l:List Int){a:List Part}(h:a.length<=N):(N7 S N d l a).length<=N:=by
 rw [N6 b N d l a h];exact List.length_take_le _ _
theorem Oz {S:Srch}(b:graphF S.p=0){N:Nat}(d:Nat)(l:List Int){a:List Part}(h:a.length<=N):(PJ S N d l a).length<=N:=by
 rw [OA b N d l a h];exact List.length_take_le _ _
theorem Fu {S:Srch}{N:Nat}(ns:List Int)(d:Nat)(l:List Int){a:List Part}(h:N<=a.length):Hz S N ns d l a=a:=by cases d<;>simp only [Hz,if_pos h]
def Cb (l:List Attr)(vs:List Int)(k:Nat):Int:=if vs[k]?.getD 0<(l[k]?.getD nO).low\/(l[k]?.getD nO).high<vs[k]?.getD 0 then 6 else 0
def iC (t:Types)(kind:Int)(vs:List Int):Int :=
 if (t.nodes.length:Int)<=kind then 6 else if xD t kind.toNat=true then 13 else if vs.length≠(bM t kind).length then 20 else bQ (Cb (bM t kind) vs) 0 (bM t kind).length
theorem Ov (t:Types)(ht:t.ok)(kind:Int)(hk:0<=kind)(vs:List Int):Pure Tryz.prog 207 [t.d,dI kind,dLI vs] (dI (iC t kind vs)):=by
 refine Tz.pK ⟨λ_=>false,λ_=>[]⟩ Tryz.func207 rfl (λQ hQ=>?_)
 have Y:=trivial
 refine wv (h:=?_)
 repeat first|intro _|refine ⟨eO,?_⟩
 refine wq (λh1=>?_) λh1=>?_
 .have hE:iC t kind vs=6:=by unfold iC;rw [if_pos aD]
  exact wv (h:=hQ _ _ (by simp [go_sem,hE]))
 .have hkn:kind.toNat<t.nodes.length:=aD
  have hA:xD t kind.toNat=t.nodes[kind.toNat].abs:=by simp [xD,aA hkn]
  have hE0:iC t kind vs=if xD t kind.toNat=true then 13 else if vs.length≠(bM t kind).length then 20 else bQ (Cb (bM t kind) vs) 0 (bM t kind).length:=by unfold iC;rw [if_neg aD]
  rw [hA] at hE0
  have Y:=wa Y (wa (aA hkn) @NodeTy.c.eq_1)
  refine wv (h:=?_)
  repeat first|intro _|refine ⟨eO,?_⟩
  refine wq (λh3=>?_) λh3=>?_
  .rw [if_pos (bX h3)] at hE0
   exact wv (h:=hQ _ _ (by simp [go_sem,hE0]))
  .rw [if_neg (bX h3)] at hE0
   refine wv (h:=aB (oA t ht kind) wl ?_)
   refine wv (h:=?_)
   repeat first|intro _|refine ⟨eO,?_⟩
   refine wq (λh6=>?_) λh6=>?_
   .rw [if_pos aD] at hE0
    exact wv (h:=hQ _ _ (by simp [go_sem,hE0]))
   .rw [if_neg aD] at hE0
    have hln:vs.length=(bM t kind).length:=aD
    refine wv (h:=bD (λk e H=>(e 3=.adr t.c/\e 2=dLI vs/\e 7=.list ((bM t kind).map Attr.c)/\e 9=dI k)/\(k<=(bM t kind).length)/\(bQ (Cb (bM t kind) vs) k ((bM t kind).length - k)=iC t kind vs)) (λk=>(bM t kind).length - k) 0 ⟨wg,wi,(by exact hE0.symm)⟩ λI0 hI0 k e H hi0=>?_)
    obtain ⟨E0,hkl,hF⟩:=hi0
    have Y:=wa Y E0
    refine wv (h:=?_)
    repeat first|intro _|refine ⟨eO,?_⟩
    refine wq (λh9=>?_) λh9=>?_
    .have hv:k<vs.length:=aD
     have hst:=eI (Cb (bM t kind) vs) h9
     rw [hF] at hst
     have hLE:Cb (bM t kind) vs k=if vs[k]<(bM t kind)[k].low\/(bM t kind)[k].high<vs[k] then 6 else 0:=by simp only [Cb,aA hv,aA h9,Option.getD_some]
     have Y:=wa Y (wa h9 (wa (aA hv) (wa (aA h9) @Attr.c.eq_1)))
     refine wv (h:=?_)
     repeat first|intro _|refine ⟨eO,?_⟩
     refine wq (λh11=>?_) λh11=>?_
     .rw [if_pos aD] at hLE
      rw [hLE,if_pos aD] at hst
      exact wv (h:=hQ _ _ (by simp [go_sem,hst]))
     .rw [if_neg aD] at hLE
      rw [hLE,if_neg aD] at hst
      exact wo (h:=wx hI0 (k+1) ⟨wg,wj,(by exact hst.symm)⟩)
    .have hZ:iC t kind vs=0:=by rw [<- hF,(aD:(bM t kind).length - k=0)];rfl
     exact wv (h:=hQ _ _ (by simp [go_sem,hZ]))
def gP (f:Nat->Int):Nat->Nat->Int × Int
 | k,0=>(-1,0)
 | k,n+1=>if f k≠0 then ((k:Int),f k) else gP f (k+1) n
theorem rN (f:Nat->Int){k n:Nat}(h:k<n):gP f k (n - k)=if f k≠0 then ((k:Int),f k) else gP f (k+1) (n - (k+1)):=by
 obtain ⟨m,a⟩:∃ m,n - k=m+1:=⟨n - k - 1,aD⟩
 rw [a,(aD:n - (k+1)=m)];rfl
theorem tW (f:Nat->Int):∀ n k,(gP f k n).2=bQ f k n
 | 0,k=>rfl
 | n+1,k=>by simp only [gP,bQ];split<;>simp_all [tW f n]
def GG (t:Types)(h:Host)(i:Nat):Int:=iC t (h.graph.nodes[i]?.getD 0) (h.values[i]?.getD [])
def Ri (t:Types)(h:Host)(i:Nat):Int:=if (t.edges.length:Int)<=(h.graph.edges[i]?.getD cF).type then 6 else
 if oF t (h.graph.edges[i]?.getD cF).type (gN h.graph (h.graph.edges[i]?.getD cF).from_) (gN h.graph (h.graph.edges[i]?.getD cF).to_)=true then 0 else 13
def oE (t:Types)(h:Host):Int × Int :=
 if (b9 t).2≠0 then (-1,(b9 t).2) else if graphF h.graph≠0 then (-1,graphF h.graph) else if h.values.length≠h.graph.nodes.length then (-1,20)
 else if (gP (GG t h) 0 h.graph.nodes.length).2≠0 then gP (GG t h) 0 h.graph.nodes.length else gP (Ri t h) 0 h.graph.edges.length
def iG (t:Types)(h:Host):Int:=(oE t h).2
theorem yM (t:Types)(ht:t.ok)(h:Host):Pure Tryz.prog 120 [t.d,h.d] (.tup [dI (oE t h).1,dI (oE t h).2]):=by
 refine Tz.pK ⟨λt=>t==12,λ_=>[]⟩ Tryz.func120 rfl (λQ hQ=>?_)
 have Y:=wa @Host.d.eq_1 @Host.c.eq_1
 refine wv (h:=aB (n9 t ht) wl ?_)
 refine dP (λh2=>?_) λh2=>?_
 .have hE:oE t h=(-1,(b9 t).2):=by unfold oE;rw [if_pos (bX h2)]
  exact wv (h:=hQ _ _ (by simp [go_sem,hE]))
 .have hE0:oE t h=if graphF h.graph≠0 then (-1,graphF h.graph) else if h.values.length≠h.graph.nodes.length then (-1,20) else if (gP (GG t h) 0 h.graph.nodes.length).2≠0 then gP (GG t h) 0 h.graph.nodes.length else gP (Ri t h) 0 h.graph.edges.length:=by unfold oE;rw [if_neg (bX h2)]
  refine wv (h:=aB (lP h.graph) wl ?_)
  refine dP (λh5=>?_) λh5=>?_
  .rw [if_pos (bX h5)] at hE0
   exact wv (h:=hQ _ _ (by simp [go_sem,hE0]))
  .rw [if_neg (bX h5)] at hE0
   have hg0:graphF h.graph=0:=by simpa using h5
   have hgi:=eK hg0
   have hgl:=bS hg0
   refine fA (λh7=>?_) λh7=>?_
   .rw [if_pos aD] at hE0
    exact wv (h:=hQ _ _ (by simp [go_sem,hE0]))
   .rw [if_neg aD] at hE0
    refine wv (h:=bD (λi e H=>(e 2=.adr t.c/\e 3=.adr h.c/\e 9=dI i)/\(i<=h.graph.nodes.length)/\(gP (GG t h) i (h.graph.nodes.length - i)=gP (GG t h) 0 h.graph.nodes.length)) (λi=>h.graph.nodes.length - i) 0 ⟨wg,wi,(by rfl)⟩ λI0 hI0 i e H hi0=>?_)
    obtain ⟨E0,hi,hF⟩:=hi0
    have Y:=wa Y E0
    refine fA (λh10=>?_) λh10=>?_
    .have hv:i<h.values.length:=aD
     have hn0:0<=h.graph.nodes[i]:=(hgi.1 _ (aC h10)).1
     have hst:=rN (GG t h) h10
     rw [hF] at hst
     have hNE:GG t h i=iC t h.graph.nodes[i] h.values[i]:=by simp only [GG,aA hv,aA h10,Option.getD_some]
     have Y:=wa Y (wa h10 (wa (aA hv) (wa (aA h10) @cL.eq_1)))
     refine wo (h:=aI (Ov t ht h.graph.nodes[i] hn0 h.values[i]) wl ?_)
     refine fA (λh13=>?_) λh13=>?_
     .rw [hNE,if_pos (bX h13)] at hst
      rw [hst,if_pos (bX h13)] at hE0
      exact wv (h:=hQ _ _ (by simp [go_sem,hE0]))
     .rw [hNE,if_neg (bX h13)] at hst
      exact wo (h:=wx hI0 (i+1) ⟨wg,wj,(by exact hst.symm)⟩)
    .have hN0:gP (GG t h) 0 h.graph.nodes.length=(-1,0):=by rw [<- hF,(aD:h.graph.nodes.length - i=0)];rfl
     rw [hN0,if_neg bW] at hE0
     refine wv (h:=bD (λj e H=>(e 2=.adr t.c/\e 3=.adr h.c/\e 11=dI j)/\(j<=h.graph.edges.length)/\(gP (Ri t h) j (h.graph.edges.length - j)=oE t h)) (λj=>h.graph.edges.length - j) 0 ⟨wg,wi,(by exact hE0.symm)⟩ λI2 hI2 j e H hi2=>?_)
     obtain ⟨E2,hj,hG⟩:=hi2
     have Y:=wa Y E2
     refine fA (λh16=>?_) λh16=>?_
     .obtain ⟨x,hx⟩:=cW (h.graph.edges[j])
      have hxi:=(hgi.2 _ (aC h16)).2
      rw [<- hx] at hxi
      have hxf:x.from_.toNat<h.graph.nodes.length:=aD
      have hxt:x.to_.toNat<h.graph.nodes.length:=aD
      have hst:=rN (Ri t h) h16
      rw [hG] at hst
      have hEE:Ri t h j=if (t.edges.length:Int)<=x.type then 6 else if oF t x.type h.graph.nodes[x.from_.toNat] h.graph.nodes[x.to_.toNat]=true then 0 else 13:=by simp only [Ri,gN,aA h16,Option.getD_some,<- hx,aA hxf,aA hxt]
      have Y:=wa Y (wa h16 (wa (aA h16) (wa (Eq.symm hx) (wa (aA hxf) (aA hxt)))))
      refine fA (λh19=>?_) λh19=>?_
      .rw [if_pos aD] at hEE
       rw [hEE,if_pos aD] at hst
       exact wv (h:=hQ _ _ (by simp [go_sem,hst]))
      .rw [if_neg aD] at hEE
       refine wo (h:=aI (F9 t ht x.type h.graph.nodes[x.from_.toNat] h.graph.nodes[x.to_.toNat]) wl ?_)
       refine fA (λh21=>?_) λh21=>?_
       .rw [if_neg (bX h21)] at hEE
        rw [hEE,if_pos aD] at hst
        exact wv (h:=hQ _ _ (by simp [go_sem,hst]))
       .rw [if_pos (bX h21)] at hEE
        rw [hEE,if_neg aD] at hst
        exact wo (h:=wx hI2 (j+1) ⟨wg,wj,(by exact hst.symm)⟩)
     .have hZ:oE t h=(-1,0):=by rw [<- hG,(aD:h.graph.edges.length - j=0)];rfl
      exact wv (h:=hQ _ _ (by simp [go_sem,hZ]))
theorem yK (l:List Int):Pure Tryz.prog 338 [dLI l] (.bool (decide l.Nodup)):=by
 refine Tz.pK ⟨λ_=>false,λ_=>[]⟩ Tryz.func338 rfl (λQ hQ=>?_)
 have Y:=trivial
 refine wv (h:=bD (λi e H=>(e 0=dLI l/\e 3=dI i)/\(i<=l.length)/\((l.take i).Nodup)) (λi=>l.length - i) 0 ⟨wg,wi,(by simp)⟩ λI0 hI0 i e H hi0=>?_)
 obtain ⟨E0,hi,hD⟩:=hi0
 have Y:=wa Y E0
 refine wv (h:=?_)
 repeat first|intro _|refine ⟨eO,?_⟩
 refine wq (λh2=>?_) λh2=>?_
 .have Y:=wa Y (wa h2 (aA h2))
  refine wv (h:=bD (λk e H=>(e 0=dLI l/\e 3=dI i/\e 4=dI k)/\(k<=i)/\(∀ j,j<k->∀ hj:j<l.length,l[j]≠l[i])) (λk=>i - k) 0 ⟨wg,wi,(by intro j hj;omega)⟩ λI2 hI2 k e H hi2=>?_)
  obtain ⟨E2,hk,hne⟩:=hi2
  have Y:=wa Y E2
  refine dP (λh5=>?_) λh5=>?_
  .have hkl:k<l.length:=aD
   have Y:=wa Y (wa h5 (aA hkl))
   refine wv (h:=?_)
   repeat first|intro _|refine ⟨eO,?_⟩
   refine wq (λh7=>?_) λh7=>?_
   .have hnd:¬ l.Nodup:=λhN=>by
     have:=(mF (h₀:=h2) (h₁:=hkl) hN).1 h7
     omega
    exact wv (h:=hQ _ _ (by simp [go_sem,hnd]))
   .exact wo (h:=wx hI2 (k+1) ⟨wg,wj,(by intro j hj hjl;rcases b6 j k with hjk|hjk;exact hne j hjk hjl;(obtain rfl:j=k:=aD;exact λhe=>h7 he.symm))⟩)
  .have hD2:(l.take (i+1)).Nodup:=by
    rw [aE h2,nM]
    refine ⟨hD,by simp,λa ha b hb=>?_⟩
    rw [bL] at hb;subst hb
    obtain ⟨j,hj,rfl⟩:=Em.1 ha
    exact hne j aD _
   exact wo (h:=wx hI0 (i+1) ⟨wg,wj,(by exact hD2)⟩)
 .have hN:l.Nodup:=by rw [aG aD] at hD;exact hD
  exact wv (h:=hQ _ _ (by simp [go_sem,hN]))
end Go.Abs
end
