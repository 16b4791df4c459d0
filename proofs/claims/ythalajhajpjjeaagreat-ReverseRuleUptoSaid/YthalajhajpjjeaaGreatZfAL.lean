/- What the type graph of a draft is; the graph of a draft. · T -/
import Derived.Test.YthalajhajpjjeaaGreatZfAK
import Derived.Test.YthalajhajpjjeaaGreatZfAF
import Derived.Test.YthalajhajpjjeaaGreatZfAA
import Derived.Maps.RangeWalk
import Derived.DeepKeys4
set_option linter.unusedVariables false
set_option linter.unusedSimpArgs false
section
set_option maxRecDepth 100000
set_option maxHeartbeats 4000000
open Go Go.Proofs
namespace Go.Abs
def Attr.good (x:Attr):Prop:=x.low<=x.high/\-1000<=x.low/\x.high<=1000
structure Types.fine (t:Types):Prop where
 ok:t.ok
 valid:t.valid
 good:∀ a,(∀ x∈bL t a,x.good)/\(bL t a).length<=8
abbrev B3:=UInt8 × UInt8 × UInt8
def SA (x:B3):List D:=[.int .u8 (x.1.toNat:Int),.int .u8 (x.2.1.toNat:Int),.int .u8 (x.2.2.toNat:Int)]
@[go_sem] theorem Ca (l:List B3):D.clLL (l.map SA)=true:=dL _ (λ_=>rfl) l
structure Dr5 where
 nodes:List UInt8
 edges:List B3
def Dr5.c (d:Dr5):List D:=[.list (d.nodes.map cU),.list (d.edges.map SA)]
@[go_sem] theorem Dr5.cl (d:Dr5):D.clL d.c=true:=by simp [Dr5.c,D.clL,D.cl,OJ,Ca]
def Xi (n:Nat)(ds:List UInt8)(k:Nat):List Int:=(List.range k).map λi=>((ds[i]?.getD 0).toNat:Int).tmod n
def SI (t:Types)(k:Int):EdgeTy:=t.edges[k.toNat]?.getD ⟨⟨#[]⟩,0,0,0,0,0,0⟩
def Pd (l:List Int)(b:UInt8):Int:=l[((b.toNat:Int).tmod l.length).toNat]?.getD 0
def Z3 (t:Types)(ns:List Int)(x:B3):List Edge :=
 if 0<(KA t ns (SI t ((x.1.toNat:Int).tmod t.edges.length)).from_).length/\0<(KA t ns (SI t ((x.1.toNat:Int).tmod t.edges.length)).to_).length then
  [⟨(x.1.toNat:Int).tmod t.edges.length,Pd (KA t ns (SI t ((x.1.toNat:Int).tmod t.edges.length)).from_) x.2.1,Pd (KA t ns (SI t ((x.1.toNat:Int).tmod t.edges.length)).to_) x.2.2⟩] else []
def Z4 (t:Types)(ns:List Int)(es:List B3)(k:Nat):List Edge:=(List.range k).flatMap λi=>Z3 t ns (es[i]?.getD (0,0,0))
def yA (t:Types)(d:Dr5):Graph:=⟨Xi t.nodes.length d.nodes (min d.nodes.length 8),if t.edges.length=0 then [] else Z4 t (Xi t.nodes.length d.nodes (min d.nodes.length 8)) d.edges (min d.edges.length 10)⟩
structure Dr21 where
 graph:Dr5
 slots:List B3
 tests:List T4
def Dr21.c (d:Dr21):List D:=[.list (d.graph.nodes.map cU),.list (d.graph.edges.map SA),.list (d.slots.map SA),.list (d.tests.map cT4)]
@[go_sem] theorem Dr21.cl (d:Dr21):D.clL d.c=true:=by simp [Dr21.c,D.clL,D.cl,OJ,Ca,PF]
def c2 (x:Nat × Nat):List D:=[dI x.1,dI x.2]
def atN (t:Types)(ns:List Int)(i:Nat):List Attr:=bL t (ns[i]?.getD 0)
def aaH (t:Types)(ns:List Int)(i k:Nat):List (Nat × Nat):=(List.range k).map λj=>(i,j)
def aaI (t:Types)(ns:List Int)(k:Nat):List (Nat × Nat):=(List.range k).flatMap λi=>aaH t ns i (atN t ns i).length
def IH (all:List (Nat × Nat))(b:UInt8):Nat × Nat:=all[((b.toNat:Int).tmod all.length).toNat]?.getD (0,0)
def Z1 (all:List (Nat × Nat))(st:List Slot × Int)(x:B3):List Slot × Int :=
 if st.2<=(x.2.1.toNat:Int).tmod 5 - 1 then
  if 3<st.2+1 then (st.1++[⟨(IH all x.1).1,(IH all x.1).2,⟨0,0⟩⟩],3) else (st.1++[⟨(IH all x.1).1,(IH all x.1).2,⟨st.2,0⟩⟩],st.2+1)
 else (st.1++[⟨(IH all x.1).1,(IH all x.1).2,⟨(x.2.1.toNat:Int).tmod 5 - 1,(x.2.2.toNat:Int).tmod 5 - 2⟩⟩],st.2)
def Z2 (all:List (Nat × Nat))(ds:List B3)(k:Nat):List Slot × Int:=(List.range k).foldl (λst i=>Z1 all st (ds[i]?.getD (0,0,0))) ([],0)
def Z0 (v:Int)(ts:List T4)(k:Nat):List Test:=(List.range k).map λi=>Xh v (ts[i]?.getD (0,0,0,0))
def TY (t:Types)(d:Dr21):List (Nat × Nat):=aaI t (yA t d.graph).nodes (yA t d.graph).nodes.length
def Jy (t:Types)(d:Dr21):List Slot × Int:=if (TY t d).length=0 then ([],0) else Z2 (TY t d) d.slots (min d.slots.length 4)
def RF (t:Types)(d:Dr21):Pattern:=⟨yA t d.graph,(Jy t d).1,(Jy t d).2,Z0 (Jy t d).2 d.tests (min d.tests.length 3)⟩
abbrev B4:=UInt8 × UInt8 × UInt8 × UInt8
structure Dr24 where
 left:Dr21
 keep:UInt64
 nodes:List UInt8
 edges:List B3
 slots:List B3
 plain:Bool
 inj:Bool
 forbid:B4
 order:List UInt8
def Dr24.c (d:Dr24):List D:=[.list (d.left.graph.nodes.map cU),.list (d.left.graph.edges.map SA),.list (d.left.slots.map SA),.list (d.left.tests.map cT4),.int .u64 (d.keep.toNat:Int),.list (d.nodes.map cU),.list (d.edges.map SA),.list (d.slots.map SA),.bool d.plain,.bool d.inj,
 .int .u8 (d.forbid.1.toNat:Int),.int .u8 (d.forbid.2.1.toNat:Int),.int .u8 (d.forbid.2.2.1.toNat:Int),.int .u8 (d.forbid.2.2.2.toNat:Int),.list (d.order.map cU)]
@[go_sem] theorem Dr24.cl (d:Dr24):D.clL d.c=true:=by simp [Dr24.c,D.clL,D.cl,OJ,Ca,PF]
@[go_sem] theorem X0 (l:List Dr24):D.clLL (l.map Dr24.c)=true:=dL _ Dr24.cl l
def S3 (t:Types)(n:Nat)(x:B3):Edge:=⟨(x.1.toNat:Int).tmod t.edges.length,(x.2.1.toNat:Int).tmod n,(x.2.2.toNat:Int).tmod n⟩
def nN (ns:List Int)(a:Int):Int:=ns[a.toNat]?.getD 0
def grN (t:Types)(base:List Int)(ds:List UInt8)(k:Nat):List Int:=base++(List.range k).map λi=>Pd (B8 t) (ds[i]?.getD 0)
def aaB (t:Types)(ns:List Int)(x:B3):List Edge:=if n3 t (S3 t ns.length x).type (nN ns (S3 t ns.length x).from_) (nN ns (S3 t ns.length x).to_)=true then [S3 t ns.length x] else []
def grE (t:Types)(ns:List Int)(base:List Edge)(es:List B3)(k:Nat):List Edge:=base++(List.range k).flatMap λi=>aaB t ns (es[i]?.getD (0,0,0))
def Pq (t:Types)(g:Graph)(d:Dr24):Graph :=
 ⟨grN t g.nodes d.nodes (if (B8 t).length=0 then 0 else min d.nodes.length 2),
  grE t (grN t g.nodes d.nodes (if (B8 t).length=0 then 0 else min d.nodes.length 2)) g.edges d.edges (if (grN t g.nodes d.nodes (if (B8 t).length=0 then 0 else min d.nodes.length 2)).length=0\/t.edges.length=0 then 0 else min d.edges.length 2)⟩
theorem eI (l:List Int):eR (l.map cI)=l.map cI:=k6 λc hc=>by
 rw [bA] at hc;obtain ⟨x,_,rfl⟩:=hc;rfl
theorem x7 (l:List Edge):eR (l.map Edge.c)=l.map Edge.c:=k6 λc hc=>by
 rw [bA] at hc;obtain ⟨x,_,rfl⟩:=hc;rfl
def Kb (t:Types)(d:Dr24):Part:=Xg (RF t d.left).graph d.keep
def Uy (t:Types)(d:Dr24):Graph:=cY (RF t d.left).graph (Kb t d)
def RT (t:Types)(d:Dr24):Graph:=Pq t (Uy t d) d
def NL (t:Types)(d:Dr24):Graph:=ZI (RT t d) (OZ (RT t d).nodes.length d.order) (OZ (RT t d).edges.length d.order)
structure Host where
 graph:Graph
 values:List (List Int)
def Host.c (h:Host):List D:=[dLI h.graph.nodes,.list (h.graph.edges.map Edge.c),.list (h.values.map cL)]
def Host.d (h:Host):D:=.agg h.c
@[go_sem] theorem U9 (l:List (List Int)):D.clLL (l.map cL)=true:=dL _ (λa=>by simp [cL,D.clL,oV]) l
@[go_sem] theorem Host.cl (h:Host):h.d.cl=true:=by simp [Host.d,Host.c,D.cl,D.clL,oV,U9,uU]
structure Dr15 where
 nodes:List B2
 edges:List B3
def Dr15.c (d:Dr15):List D:=[.list (d.nodes.map cP),.list (d.edges.map SA)]
@[go_sem] theorem Dr15.cl (d:Dr15):D.clL d.c=true:=by simp [Dr15.c,D.clL,D.cl,Sd,Ca]
def V7 (l:List Attr)(b:UInt8)(k:Nat):Int:=match l[k]? with|some a=>a.low+((b.toNat:Int)+7 * (k:Int)).tmod (a.high - a.low+1)|none=>0
def T6 (l:List Attr)(b:UInt8)(k:Nat):List Int:=(List.range k).map (V7 l b)
def Oe (t:Types)(x:B2):Int:=Pd (B8 t) x.1
def WG (t:Types)(x:B2):List Int:=T6 (bL t (Oe t x)) x.2 (bL t (Oe t x)).length
def Ut (t:Types)(ds:List B2)(k:Nat):List Int:=(List.range k).map λi=>Oe t (S0 ds i)
def Y2 (t:Types)(ds:List B2)(k:Nat):List (List Int):=(List.range k).map λi=>WG t (S0 ds i)
def Ux (t:Types)(d:Dr15):Host :=
 ⟨⟨Ut t d.nodes (if (B8 t).length=0 then 0 else min d.nodes.length 8),
  grE t (Ut t d.nodes (if (B8 t).length=0 then 0 else min d.nodes.length 8)) [] d.edges (if (Ut t d.nodes (if (B8 t).length=0 then 0 else min d.nodes.length 8)).length=0\/t.edges.length=0 then 0 else min d.edges.length 10)⟩,
  Y2 t d.nodes (if (B8 t).length=0 then 0 else min d.nodes.length 8)⟩
attribute [go_sem] Host.d Host.c
def Mh (l:List Int):Bool:=decide (12<(l.length:Int))
def BT (h:Host):Bool:=fewG h.graph&&decide ((h.values.length:Int)<=45)&&!(h.values.any Mh)
theorem CG (h:Host):Pure Tryz.prog 68 [h.d] (.bool (BT h)):=by
 refine Tz.pK ⟨λ_=>false,λ_=>[]⟩ Tryz.func68 rfl (λQ hQ=>?_)
 have Y:=wa @Host.d.eq_1 @Host.c.eq_1
 refine wo (h:=aB (y0 h.graph) wl ?_)
 refine fA (λh1=>?_) λh1=>?_
 .have hF:BT h=false:=by cases hg:fewG h.graph<;>simp [hg] at h1<;>simp [BT,hg]<;>omega
  exact wv (h:=hQ _ _ (by simp [go_sem,hF]))
 .have hG:fewG h.graph=true/\(h.values.length:Int)<=45:=by cases hg:fewG h.graph<;>simp [hg] at h1<;>exact ⟨rfl,aD⟩
  refine wv (h:=bF (λi e H=>(e 1=.adr h.c/\e 3=dI i)/\(i<=h.values.length)/\((h.values.take i).any Mh=false)) (λi=>h.values.length - i) 0 ⟨wg,wi,(by rfl)⟩ λI0 hI0 i e H hi0=>?_)
  obtain ⟨E0,hi,ha⟩:=hi0
  have Y:=wa Y E0
  refine fA (λh4=>?_) λh4=>?_
  .have Y:=wa Y (wa h4 (wa (aA h4) @cL.eq_1))
   refine fA (λh6=>?_) λh6=>?_
   .refine wv (h:=?_)
    have hF:BT h=false:=by
     have:h.values.any Mh=true:=aX.2 ⟨_,aC h4,by unfold Mh;simp;omega⟩
     unfold BT;rw [this];simp
    exact hQ _ _ (by simp [go_sem,hF])
   .exact wo (h:=wx hI0 (i+1) ⟨wg,wj,(by rw [dS _ _ _ h4,ha];unfold Mh;simp;omega)⟩)
  .have hF:BT h=true:=by have:=nJ ha h4;unfold BT;rw [hG.1,this,decide_eq_true hG.2];rfl
   exact wv (h:=hQ _ _ (by simp [go_sem,hF]))
def f5 (t:Types)(g h:Graph):Int:=if (cZ t).2≠0 then (cZ t).2 else if graphF g≠0 then graphF g else if graphF h≠0 then graphF h else if (!lZ t g||!lZ t h)=true then 13 else 0
theorem xL (t:Types)(ht:t.ok)(g h:Graph):Pure Tryz.prog 246 [t.d,g.d,h.d] (dI (f5 t g h)):=by
 refine Tz.pK ⟨λ_=>false,λ_=>[]⟩ Tryz.func246 rfl (λQ hQ=>?_)
 have Y:=trivial
 refine wv (h:=aB (nU t ht) wl ?_)
 refine dP (λh2=>?_) λh2=>?_
 .exact wv (h:=hQ _ _ (by simp [go_sem,f5,h2]))
 .refine wv (h:=aB (lD g) wl ?_)
  refine dP (λh5=>?_) λh5=>?_
  .exact wv (h:=hQ _ _ (by simp [go_sem,f5,h2,h5]))
  .refine wv (h:=aB (lD h) wl ?_)
   refine dP (λh8=>?_) λh8=>?_
   .exact wv (h:=hQ _ _ (by simp [go_sem,f5,h2,h5,h8]))
   .refine wo (h:=aB (sU t g) wl ?_)
    refine wo (h:=aG (λhg=>sU t h) (λhg=>wl) ?_)
    refine fA (λh10=>?_) λh10=>?_
    .exact wv (h:=hQ _ _ (by simp [go_sem,f5,h2,h5,h8];intro hg;rcases h10 with h|h<;>simp_all))
    .exact wv (h:=hQ _ _ (by simp [go_sem,f5,h2,h5,h8];simpa using h10))
def light17 (t:Types)(g h:Graph):Bool:=uS t&&fewG g&&fewG h&&(decide (f5 t g h≠0)||(decide ((g.nodes.length:Int)+g.edges.length<=6)&&decide ((h.nodes.length:Int)<=8)&&decide ((h.edges.length:Int)<=12)))
theorem LM (t:Types)(ht:t.ok)(g h:Graph):Pure Tryz.prog 218 [t.d,g.d,h.d] (.bool (light17 t g h)):=by
 refine Tz.pK ⟨λ_=>false,λ_=>[]⟩ Tryz.func218 rfl (λQ hQ=>?_)
 have ho:uS t=true->fewG g=true->fewG h=true->f5 t g h=0->Q7 .i64 ((g.nodes.length:Int)+g.edges.length):=λ_ hg _ _=>by simp [fewG] at hg;exact dE aD aD
 have Y:=trivial
 refine wo (h:=aB (Il t (λn hn=>fD (ht.nodes n hn).few aD)) wl ?_)
 refine wo (h:=aG (λhg=>y0 g) (λhg=>wl) ?_)
 refine wo (h:=aG (λhg=>y0 h) (λhg=>wl) ?_)
 refine wo (h:=aG (λhg=>xL t ht g h) (λhg=>wl) ?_)
 have Y:=wa Y @light17.eq_1
 exact wo (h:=hQ _ _ wy)
def light21 (t:Types)(p:Pattern)(h:Host):Bool:=fewP p&&BT h&&light17 t p.graph h.graph
theorem LI (t:Types)(ht:t.ok)(p:Pattern)(h:Host):Pure Tryz.prog 132 [t.d,p.d,h.d] (.bool (light21 t p h)):=by
 refine Tz.pK ⟨λ_=>false,λ_=>[]⟩ Tryz.func132 rfl (λQ hQ=>?_)
 have Y:=wa @Host.c.eq_1 @Pattern.c.eq_1
 refine wo (h:=aB (uC p) wl ?_)
 refine wo (h:=aG (λhg=>CG h) (λhg=>wl) ?_)
 refine wo (h:=aG (λhg=>LM t ht p.graph h.graph) (λhg=>wl) ?_)
 have Y:=wa Y @light21.eq_1
 exact wo (h:=hQ _ _ wy)
end Go.Abs
end
section
set_option maxHeartbeats 1000000
namespace Go.Abs
open Go.Maps (Keyed)
def Cn (u:Int):Prop:=-9223372036854775808<=u/\u<=9223372036854775807
theorem Kg {u:Int}(h:Cn u):(Lit.int .i64 u).wf=true:=by
 obtain ⟨h1,h2⟩:=h
 simp [Lit.wf,IntKind.min,IntKind.max,IntKind.bits,IntKind.signed];omega
theorem Rc {u:Int}(h:(Lit.int .i64 u).wf=true):Cn u:=by
 simp [Lit.wf,IntKind.min,IntKind.max,IntKind.bits,IntKind.signed] at h
 exact ⟨aD,aD⟩
def kv (u v:Int):Value:=.agg #[.int .i64 u,.int .i64 v]
def kl (u v:Int):Lit:=.string (keyBytes [.int .i64 u,.int .i64 v])
structure MapT (P:Program) (T K E:TypeId):Prop where
 t:P.underlying T=some (.map K E)
 e:P.underlying E=some (.int .i64)
 law:Keyed P K
 kmk:∀ u v,Cn u->Cn v->keyOf P K (kv u v)=some (kl u v)
 inv:∀ key l,keyOf P K key=some l->∃ u v,Cn u/\Cn v/\key=kv u v
 z:∀ w,(zeroValue E).run P w=.ok (.int .i64 0) w
theorem BJ {P:Program}{K E:TypeId}{f0 f1:Field}(hk:P.underlying K=some (.struct #[f0,f1]))(h0:f0.type=E/\f0.offset=0/\(f0.name != "_")=true)(h1:f1.type=E/\f1.offset=1/\(f1.name != "_")=true)
  (hc:P.cellsOf K=2) (hcE:P.cellsOf E=1) (d:Nat) (a b:Value):P.keyLits (d+1) K [a,b]=(P.keyLits d E [a]).bind λx=>(P.keyLits d E [b]).map λy=>x++y:=by
 obtain ⟨a1,a2,a3⟩:=h0
 obtain ⟨b1,b2,b3⟩:=h1
 rw [Program.keyLits.eq_def]
 simp only [hk]
 rw [if_pos (by simp [hc,a3,b3])]
 simp only [List.mapM_cons,List.mapM_nil,a1,a2,b1,b2,hcE,List.drop_zero,sH,List.take_zero,List.drop_succ_cons,bind,pure]
 cases P.keyLits d E [a]<;>simp
 cases P.keyLits d E [b]<;>simp
theorem s4 {P:Program}{E:TypeId}(he:P.underlying E=some (.int .i64))(d:Nat)(v:Value)(l:List Lit):P.keyLits (d+1) E [v]=some l↔∃ u,v=.int .i64 u/\(Lit.int .i64 u).wf=true/\l=[.int .i64 u]:=by
 rw [Program.keyLits.eq_def]
 simp only [he]
 cases v<;>simp
 rename_i k n
 constructor
 .rintro ⟨⟨rfl,h⟩,rfl⟩;exact ⟨n,⟨rfl,rfl⟩,h,rfl⟩
 .rintro ⟨u,⟨rfl,rfl⟩,h,rfl⟩;exact ⟨⟨rfl,h⟩,rfl⟩
theorem S4 {P:Program}{T K E:TypeId}{f0 f1:Field}(ht:P.underlying T=some (.map K E))(he:P.underlying E=some (.int .i64))(hk:P.underlying K=some (.struct #[f0,f1]))(h0:f0.type=E/\f0.offset=0/\(f0.name != "_")=true)(h1:f1.type=E/\f1.offset=1/\(f1.name != "_")=true)
  (hc:P.cellsOf K=2) (hcE:P.cellsOf E=1) (hkt:P.keyType K=true) (hs:∃ d,P.types.size+1=d+1+1) (hlaw:Keyed P K) (hz:∀ w,(zeroValue E).run P w=.ok (.int .i64 0) w):MapT P T K E:=by
 obtain ⟨d,hd⟩:=hs
 refine ⟨ht,he,hlaw,λu v hu hv=>?_,λkey l h=>?_,hz⟩
 .unfold keyOf
  simp only [hk]
  rw [if_pos (by simp [hkt,Value.formed,hk,kv,hc]),hd]
  have e0:=(s4 he d (.int .i64 u) _).2 ⟨u,rfl,Kg hu,rfl⟩
  have e1:=(s4 he d (.int .i64 v) _).2 ⟨v,rfl,Kg hv,rfl⟩
  show ((P.keyLits (d+1+1) K [.int .i64 u,.int .i64 v]).map λls=>Lit.string (keyBytes ls))=_
  rw [BJ hk h0 h1 hc hcE,e0,e1];rfl
 .unfold keyOf at h
  simp only [hk] at h
  split at h
  .rename_i hf
   rw [aR] at hf
   have hf2:=hf.2
   cases key<;>simp [Value.formed,hk,hc] at hf2
   rename_i cs
   obtain ⟨cs⟩:=cs
   match cs,hf2 with
   | [a,b],_ =>
    rw [hd] at h
    have h':((P.keyLits (d+1+1) K [a,b]).map λls=>Lit.string (keyBytes ls))=some l:=h
    rw [BJ hk h0 h1 hc hcE] at h'
    cases ha:P.keyLits (d+1) E [a] with
    | none=>rw [ha] at h';cases h'
    | some x =>
     cases hb:P.keyLits (d+1) E [b] with
     | none=>rw [ha,hb] at h';cases h'
     | some y =>
      obtain ⟨u,rfl,hu,_⟩:=(s4 he d a x).1 ha
      obtain ⟨v,rfl,hv,_⟩:=(s4 he d b y).1 hb
      exact ⟨u,v,Rc hu,Rc hv,rfl⟩
  .cases h
section
variable {P:Program} {T K E:TypeId}
theorem MapT.inj (h:MapT P T K E){u v u' v':Int}(a:Cn u)(b:Cn v)(a':Cn u')(b':Cn v')(e:kl u v=kl u' v'):u=u'/\v=v':=by
 have:=h.law.inj (h.kmk u v a b) (e ▸ h.kmk u' v' a' b')
 simpa [kv] using this
abbrev FM:=Int->Int->Option Int
def Jz (F:FM)(u v c:Int):FM:=λu' v'=>if u'=u/\v'=v then some c else F u' v'
def T0 (D:DataW Unit)(F:FM):Prop:=∀ u v,Cn u->Cn v->Maps.has D (kl u v)=(F u v).isSome/\∀ c,F u v=some c->∀ z,D.atKey (kl u v) z=.lit (.int .i64 c)
inductive MS where
 | no
 | mp (b n:Nat) (F:FM)
 | rg (b r:Nat) (F:FM) (left:Int->Int->Bool) (tS:Nat) (cur:Option (Int × Int × Int))
def Oo (σ:Nat->Option Ow)(b:Nat):Prop:=∀ i o,σ i=some o->o.block≠some b
def DG (r:Nat):Value:=.pointer (some ⟨r,0,none⟩)
def MpOk (P:Program)(K E:TypeId)(σ:Nat->Option Ow)(base:Nat)(w:World):MS->Prop
 | .no=>True
 | .mp b n F=>base<=b/\Oo σ b/\∃ D:DataW Unit,w.ownsMap P K (plainElem P E) b n D/\T0 D F
 | .rg b r F left tS cur=>base<=b/\base<=r/\Oo σ b/\Oo σ r/\∃ (n:Nat) (D:DataW Unit) (lf:Lit->Bool),w.ranges P K (plainElem P E) b r n D lf tS/\T0 D F/\(∀ u v,Cn u->Cn v->lf (kl u v)=left u v) /\
   ∀ u v c,cur=some (u,v,c)->(Instr.entry (DG r)).run P w=.ok (.tuple #[kv u v,.int .i64 c]) w
theorem Gq {σ σ':Nat->Option Ow}{w w':World}(hs:Stp σ w σ' w'){b:Nat}(hb:b<w.heap.size)(h:Oo σ b):Oo σ' b:=λi o' ho hb'=>by
 rcases hs.new i o' b ho hb' with h1|⟨j,o,h1,h2⟩
 .omega
 .exact h j o h1 h2
theorem Ot {w w':World}{r b s c clock:Nat}{seen:Array Nat}{es:Array MapEntry}{v:Value}(hr:w.heap[r]?=some (.mapIter (some b) s seen c))(hb:w.heap[b]?=some (.map es clock))
  (hr':w'.heap[r]?=some (.mapIter (some b) s seen c)) (hb':w'.heap[b]?=some (.map es clock)) (h:(Instr.entry (DG r)).run P w=.ok v w):(Instr.entry (DG r)).run P w'=.ok v w':=by
 simp only [DG,Instr.entry,getObj,Sem.run_bind,Sem.run,hr,hb,hr',hb',Result.andThen] at h ⊢
 cases hs:seen.back? with
 | none=>simp [hs,stuck,Sem.run] at h
 | some st =>
  simp only [hs,getObj,Sem.run_bind,Sem.run,hb,hb',Result.andThen] at h ⊢
  by_cases hc:clock=c
  .subst hc
   simp only [bne_self_eq_false,eX,if_false,if_true] at h ⊢
   cases hf:es.find? (λx=>x.born==st) with
   | none=>simp [hf,unsupported,Sem.run,Result.andThen] at h
   | some x =>
    simp only [hf,Sem.run_pure,Sem.run,Result.ok.injEq,Result.andThen] at h ⊢
    simp_all
  .simp [hc,unsupported,Sem.run,Result.andThen] at h
theorem MpOk.stp {σ σ':Nat->Option Ow}{w w':World}{base:Nat}{g:MS}(h:MpOk P K E σ base w g)(hs:Stp σ w σ' w'):MpOk P K E σ' base w' g:=by
 cases g with
 | no=>trivial
 | mp b n F =>
  obtain ⟨h1,h2,D,h3,h4⟩:=h
  have hlt:=h3.lt
  have he:=hs.old b hlt h2
  refine ⟨h1,Gq hs hlt h2,D,?_,h4⟩
  obtain ⟨es,clock,hb,rest⟩:=h3
  exact ⟨es,clock,he.trans hb,rest⟩
 | rg b r F left tS cur =>
  obtain ⟨h1,h2,h3,h4,n,D,lf,h5,h6,h7,h8⟩:=h
  have hlb:=h5.owns.lt
  have hlr:=h5.lt
  have eb:=hs.old b hlb h3
  have er:=hs.old r hlr h4
  obtain ⟨es,clock,since,seen,c0,hb,F',hn,hD,hr,rest⟩:=h5
  exact ⟨h1,h2,Gq hs hlb h3,Gq hs hlr h4,n,D,lf,⟨es,clock,since,seen,c0,eb.trans hb,F',hn,hD,er.trans hr,rest⟩,h6,h7,λu v c hc=>Ot hr hb (er.trans hr) (eb.trans hb) (h8 u v c hc)⟩
theorem MpOk.base {σ:Nat->Option Ow}{w:World}{base base':Nat}{g:MS}(h:MpOk P K E σ base w g)(hb:base'<=base):MpOk P K E σ base' w g:=by
 cases g with
 | no=>trivial
 | mp b n F=>exact ⟨fD hb h.1,h.2⟩
 | rg b r F left tS cur=>exact ⟨fD hb h.1,fD hb h.2.1,h.2.2⟩
theorem Sc {w:World}{b:Nat}{es:Array MapEntry}{clock:Nat}(hb:w.heap[b]?=some (.map es clock)):∀ ad:Addr,ad.block=b->w.cell? ad=none:=λad e=>by simp [World.cell?,e,hb]
theorem QR {w:World}{r:Nat}{m:Option Nat}{s c:Nat}{seen:Array Nat}(hr:w.heap[r]?=some (.mapIter m s seen c)):∀ ad:Addr,ad.block=r->w.cell? ad=none:=λad e=>by simp [World.cell?,e,hr]
theorem Rel.turned {M0:Nat->Prop}{H:AHeap}{σ:Nat->Option Ow}{w w':World}{row:Option Nat}(h:Rel M0 H σ w)(hg:w.grownBy w' row)(hr:∀ b,row=some b->Oo σ b/\∀ ad:Addr,ad.block=b->w.cell? ad=none) :
  Rel M0 H σ w'/\Keeps (dB M0 H σ) σ H.al w (dB M0 H σ) σ H.al w':=by
 have hk:Keeps (dB M0 H σ) σ H.al w (dB M0 H σ) σ H.al w':=⟨λad u hm hu=>⟨hm,by
  have hne:some ad.block≠row:=λe=>by rw [(hr _ e.symm).2 ad rfl] at hu;cases hu
  exact (World.cell?_of_block (hg.block ad.block (World.block_lt_of_cell? w ad hu) hne)).trans hu⟩,λid o' _ h=>⟨o',h,.inl rfl⟩,λ_ h=>h⟩
 refine ⟨⟨h.top,h.nxt,λid k hk'=>?_,h.inj,λi o b' ho hb'=>⟨b8 (h.lt i o b' ho hb').1 hg.size,(h.lt i o b' ho hb').2⟩,λb' hb'=>b8 (h.m0 b' hb') hg.size⟩,hk⟩
 obtain ⟨o,ho,l⟩:=h.lies id k hk'
 obtain ⟨xs,h1,h2,h3⟩:=l.row
 refine ⟨o,ho,l.ver,l.ty,l.sz,l.esz,xs,h1.kept hg ?_,h2,h3.keep hk⟩
 cases hb:o.val.ownBlock with
 | none=>exact .inl rfl
 | some b'=>exact .inr λe=>(hr b' e.symm).1 id o ho hb
theorem Stp.turned {σ0 σ:Nat->Option Ow}{w0 w w':World}{row:Option Nat}(h:Stp σ0 w0 σ w)(hg:w.grownBy w' row)(hr:∀ b,row=some b->w0.heap.size<=b):Stp σ0 w0 σ w' :=
 ⟨hg.os.trans h.os,hg.tape.trans h.tape,hg.output.trans h.output,fD h.size hg.size,λb hb hn=>(hg.block b (b8 hb h.size) (λe=>by have:=hr b e.symm;omega)).trans (h.old b hb hn),h.new⟩
structure SG (P:Program) (K E:TypeId) (n:Nat) (M0:Nat->Prop) (H0:AHeap) (σ0:Nat->Option Ow) (w0:World) (g:MS) (e:dM) (H:AHeap) (σ:Nat->Option Ow) (a:Act) (w:World):Prop where
 st:St n M0 H σ w e a
 stp:Stp σ0 w0 σ w
 keep:Keeps (dB M0 H0 σ0) σ0 H0.al w0 (dB M0 H σ) σ H.al w
 map:MpOk P K E σ w0.heap.size w g
section
variable {n:Nat} {M0:Nat→Prop} {H0 H:AHeap} {σ0 σ:Nat→Option Ow} {w0 w w':World} {g g':MS} {e:dM} {a:Act}
theorem SG.turned {row:Option Nat}(h:SG P K E n M0 H0 σ0 w0 g e H σ a w)(hg:w.grownBy w' row)(hr:∀ b,row=some b->w0.heap.size<=b/\Oo σ b/\∀ ad:Addr,ad.block=b->w.cell? ad=none)
  (hM:MpOk P K E σ w0.heap.size w' g') {dst:Option Tmp} (hd:qG n dst=true) {v:Value} {d:D} (hv:RepV (dB M0 H σ) σ H.al w' v d):SG P K E n M0 H0 σ0 w0 g' (oD e dst d) H σ (a.put dst v) w':=by
 obtain ⟨h1,h2⟩:=h.st.rel.turned hg λb hb=>(hr b hb).2
 exact ⟨h.st.put h1 h2 hd hv,h.stp.turned hg λb hb=>(hr b hb).1,h.keep.trans h2,hM⟩
def Ng (P:Program)(K E:TypeId)(n:Nat)(M0:Nat->Prop)(H0:AHeap)(σ0:Nat->Option Ow)(w0:World)(X:MS->dM->AHeap->Prop)(a:Act)(w:World):Prop:=∃ g e H σ,X g e H/\SG P K E n M0 H0 σ0 w0 g e H σ a w
end
abbrev PG:=Exit->MS->dM->AHeap->Prop
def WpG (P:Program)(K E:TypeId)(n:Nat)(x:Code)(Q:PG)(g:MS)(e:dM)(H:AHeap):Prop :=
 ∀ M0 H0 σ0 w0 σ a w,SG P K E n M0 H0 σ0 w0 g e H σ a w->x.wp P (λex a w=>Ng P K E n M0 H0 σ0 w0 (Q ex) a w) a w
def H8 (R:MS->dM->AHeap->Prop)(Q:PG):PG
 | .normal,g,e,H=>R g e H
 | ex,g,e,H=>Q ex g e H
def Ku (id:Nat)(Q:PG):PG
 | .exit id',g,e,H=>if id'=id then Q .normal g e H else Q (.exit id') g e H
 | ex,g,e,H=>Q ex g e H
variable {n:Nat} {c:Cfg} {Q:PG} {g:MS} {e:dM} {H:AHeap}
theorem gF {x:Code}(hm:P.follows .mixedOrders=true)(hok:oW c n x=true)(h:oA P c x (λex e H=>Q ex g e H) e H):WpG P K E n x Q g e H :=
 λM0 H0 σ0 w0 σ a w hS=>iJ (n6 hm x _ e H h hok σ w a hS.st) λex a' w' ⟨e',H',σ',hq,hS',hst',hk'⟩=>⟨g,e',H',σ',hq,hS',hS.stp.trans hst',hS.keep.trans hk',hS.map.stp hst'⟩
theorem WpG.seq {x y:Code}(h:WpG P K E n x (H8 (WpG P K E n y Q) Q) g e H):WpG P K E n (.seq x y) Q g e H:=λM0 H0 σ0 w0 σ a w hS=>by
 refine wp_seq (iJ (h M0 H0 σ0 w0 σ a w hS) λex a' w' hc=>?_)
 cases ex<;>first|exact hc|skip
 obtain ⟨g',e',H',σ',hq,hS'⟩:=hc
 exact hq M0 H0 σ0 w0 σ' a' w' hS'
theorem dO {x y:Code}(h:∀ R:MS->dM->AHeap->Prop,(∀ g e H,WpG P K E n y Q g e H->R g e H)->WpG P K E n x (H8 R Q) g e H):WpG P K E n (.seq x y) Q g e H:=.seq (h _ λ_ _ _ h=>h)
@[go_sem] theorem SM {R:MS->dM->AHeap->Prop}{g:MS}{e:dM}{H:AHeap}:H8 R Q .normal g e H=R g e H:=rfl
@[go_sem] theorem Vk {R:MS->dM->AHeap->Prop}{g:MS}{e:dM}{H:AHeap}:H8 R Q .ret g e H=Q .ret g e H:=rfl
@[go_sem] theorem T9 {R:MS->dM->AHeap->Prop}{g:MS}{e:dM}{H:AHeap}{i:Nat}:H8 R Q (.exit i) g e H=Q (.exit i) g e H:=rfl
@[go_sem] theorem Vb {i:Nat}{g:MS}{e:dM}{H:AHeap}:Ku i Q .ret g e H=Q .ret g e H:=rfl
@[go_sem] theorem SC {i:Nat}{g:MS}{e:dM}{H:AHeap}:Ku i Q .normal g e H=Q .normal g e H:=rfl
@[go_sem] theorem TW {i j:Nat}{g:MS}{e:dM}{H:AHeap}:Ku i Q (.exit j) g e H=if j=i then Q .normal g e H else Q (.exit j) g e H:=rfl
theorem WpG.cond {x:Operand}{y z:Code}{t:Bool}(hx:e8 e x=.bool t)(h1:t=true->WpG P K E n y Q g e H)(h2:t=false->WpG P K E n z Q g e H):WpG P K E n (.cond x y z) Q g e H:=λM0 H0 σ0 w0 σ a w hS=>by
 have hv:=hS.st.envR.ev x
 rw [hx] at hv
 have hc:a.eval x=.bool t:=by generalize a.eval x=v at hv;cases hv;rfl
 exact wp_cond_split hc (λht=>h1 ht M0 H0 σ0 w0 σ a w hS) λht=>h2 ht M0 H0 σ0 w0 σ a w hS
theorem WpG.block {id:Nat}{b:Code}(h:WpG P K E n b (Ku id Q) g e H):WpG P K E n (.block id b) Q g e H:=λM0 H0 σ0 w0 σ a w hS=>by
 refine wp_block (iJ (h M0 H0 σ0 w0 σ a w hS) λex a' w' hc=>?_)
 cases ex<;>first|exact hc|skip
 rename_i id'
 obtain ⟨g',e',H',σ',hq,hS'⟩:=hc
 by_cases hid:id'=id
 .subst hid
  show (if id'=id' then Ng P K E n M0 H0 σ0 w0 (Q .normal) a' w' else _)
  rw [if_pos rfl]
  refine ⟨g',e',H',σ',?_,hS'⟩
  have h':(if id'=id' then Q .normal g' e' H' else Q (.exit id') g' e' H'):=hq
  rw [if_pos rfl] at h';exact h'
 .show (if id'=id then Ng P K E n M0 H0 σ0 w0 (Q .normal) a' w' else Ng P K E n M0 H0 σ0 w0 (Q (.exit id')) a' w')
  rw [if_neg hid]
  refine ⟨g',e',H',σ',?_,hS'⟩
  have h':(if id'=id then Q .normal g' e' H' else Q (.exit id') g' e' H'):=hq
  rw [if_neg hid] at h';exact h'
theorem WpG.loop {b:Code}{ι:Type}(I:ι->MS->dM->AHeap->Prop)(m:ι->Nat)(x0:ι)(h0:I x0 g e H)(hI:∀ x g e H,I x g e H->WpG P K E n b (H8 (λg' e' H'=>∃ x',m x'<m x/\I x' g' e' H') Q) g e H):WpG P K E n (.loop b) Q g e H :=
 λM0 H0 σ0 w0 σ a w hS=>by
 let J:Nat->Act->World->Prop:=λk a' w'=>∃ g e H σ x,m x=k/\I x g e H/\SG P K E n M0 H0 σ0 w0 g e H σ a' w'
 have hJ0:J (m x0) a w:=⟨g,e,H,σ,x0,rfl,h0,hS⟩
 classical
 let μ:Act->World->Nat:=λa' w'=>if hx:∃ k,J k a' w' then Classical.choose (gA hx) else 0
 refine wp_loop (λa' w'=>∃ k,J k a' w') μ ⟨_,hJ0⟩ λa' w' hx=>?_
 have hμ:μ a' w'=Classical.choose (gA hx):=by simp only [μ,dif_pos hx]
 obtain ⟨g1,e1,H1,σ1,x1,hx1,hi,hS1⟩:=(w5 (gA hx)).1
 refine iJ (hI x1 g1 e1 H1 hi M0 H0 σ0 w0 σ1 a' w' hS1) λex a'' w'' hc=>?_
 cases ex<;>first|exact hc|skip
 obtain ⟨g2,e2,H2,σ2,⟨x2,hlt,hi2⟩,hS2⟩:=hc
 have hx2:∃ k,J k a'' w'':=⟨m x2,g2,e2,H2,σ2,x2,rfl,hi2,hS2⟩
 refine ⟨hx2,?_⟩
 have:μ a'' w''=Classical.choose (gA hx2):=by simp only [μ,dif_pos hx2]
 rw [this,hμ]
 refine Nat.lt_of_le_of_lt ?_ (hx1 ▸ hlt)
 rcases bZ (m x2) (Classical.choose (gA hx2)) with hlt'|hge
 .exact absurd ⟨g2,e2,H2,σ2,x2,rfl,hi2,hS2⟩ ((w5 (gA hx2)).2 _ hlt')
 .exact hge
theorem WpG.ret (h:Q .ret g e H):WpG P K E n .ret Q g e H:=λM0 H0 σ0 w0 σ a w hS=>wp_ret ⟨g,e,H,σ,h,hS⟩
theorem WpG.skip (h:Q .normal g e H):WpG P K E n .skip Q g e H:=λM0 H0 σ0 w0 σ a w hS=>wp_skip ⟨g,e,H,σ,h,hS⟩
theorem WpG.exit {id:Nat}(h:Q (.exit id) g e H):WpG P K E n (.exit id) Q g e H:=λM0 H0 σ0 w0 σ a w hS=>wp_exit ⟨g,e,H,σ,h,hS⟩
/-! ### operations -/
def OpsG (P:Program)(K E:TypeId)(n:Nat)(ops:Array Oper)(l:List Oper)(X:MS->dM->AHeap->Prop)(g:MS)(e:dM)(H:AHeap):Prop :=
 ∀ M0 H0 σ0 w0 σ a w (Q:Exit->Act->World->Prop),SG P K E n M0 H0 σ0 w0 g e H σ a w->(∀ a' w',Ng P K E n M0 H0 σ0 w0 X a' w'->Q .normal a' w')->wpList P ops Q l a w
theorem WpG.region {id:Nat}{ops:Array Oper}(h:OpsG P K E n ops ops.toList (Q .normal) g e H):WpG P K E n (.region id ops false) Q g e H:=λM0 H0 σ0 w0 σ a w hS=>wp_region_list (h M0 H0 σ0 w0 σ a w _ hS λ_ _ hc=>hc)
variable {ops:Array Oper} {l:List Oper} {o:Oper} {X:MS→dM→AHeap→Prop}
theorem OpsG.nil (h:X g e H):OpsG P K E n ops [] X g e H:=λM0 H0 σ0 w0 σ a w Q hS hQ=>wpList_nil (hQ a w ⟨g,e,H,σ,h,hS⟩)
theorem OpsG.pre {md:Nat->Bool}:∀ (l1:List Oper) {l2:List Oper} {e:dM} {H:AHeap},(∀ o∈l1,qG n o.dst=true)->mS P md ops l1 e H (λe' H'=>OpsG P K E n ops l2 X g e' H')->OpsG P K E n ops (l1++l2) X g e H
 | [],l2,e,H,hd,h=>h
 | o :: l1,l2,e,H,hd,h=>λM0 H0 σ0 w0 σ a w Q hS hQ=>by
  unfold mS at h
  have hs:=yT (Q:=Q) h hS.st (λhn=>n7 _ (hS.st.rel.nxt _ hn)) (hd o bV)
  have:=StepC.mono (K':=wpList P ops Q (l1++l2)) (λa' w' ⟨v,H',F,σ',hk,hS',hst,hkp⟩ =>
   OpsG.pre l1 (λo' ho'=>hd o' (by simp [ho'])) hk M0 H0 σ0 w0 σ' a' w' Q ⟨hS',hS.stp.trans hst,hS.keep.trans hkp,hS.map.stp hst⟩ hQ) hs
  unfold StepC at this
  show wpList P ops Q (o :: (l1++l2)) a w
  unfold wpList
  exact this
theorem OpsG.take {md:Nat->Bool}(k:Nat)(hd:((l.take k).all λo=>qG n o.dst)=true)(h:∀ R:dM->AHeap->Prop,(∀ e' H',OpsG P K E n ops (l.drop k) X g e' H'->R e' H')->mS P md ops (l.take k) e H R):OpsG P K E n ops l X g e H:=by
 have:=OpsG.pre (g:=g) (X:=X) (P:=P) (K:=K) (E:=E) (n:=n) (ops:=ops) (md:=md) (l.take k) (l2:=l.drop k) (λo ho=>(cO.1 hd) o ho) (h _ λ_ _ h=>h)
 rwa [List.take_append_drop] at this
theorem OpsG.all {md:Nat->Bool}(hd:(l.all λo=>qG n o.dst)=true)(h:∀ R:dM->AHeap->Prop,(∀ e' H',X g e' H'->R e' H')->mS P md ops l e H R):OpsG P K E n ops l X g e H:=by
 have:=OpsG.pre (g:=g) (X:=X) (P:=P) (K:=K) (E:=E) (n:=n) (ops:=ops) (md:=md) l (l2:=[]) (λo ho=>(cO.1 hd) o ho) (h _ λ_ _ h=>OpsG.nil h)
 rwa [dG] at this
theorem Gw {M0:Nat->Prop}{σ:Nat->Option Ow}{w:World}{a:Act}(hS:St n M0 H σ w e a){m:Operand}{v:Value}(hm:e8 e m=.cst v):a.eval m=v:=by
 have h:=hS.envR.ev m
 rw [hm] at h
 generalize a.eval m=x at h
 cases h;rfl
theorem Pv {M0:Nat->Prop}{σ:Nat->Option Ow}{w:World}{a:Act}(hS:St n M0 H σ w e a){x:Operand}{u v:Int}(hx:e8 e x=.agg [.int .i64 u,.int .i64 v]):a.eval x=kv u v:=by
 have h:=hS.envR.ev x
 rw [hx] at h
 generalize a.eval x=y at h
 cases h
 rename_i vs hl h1 hr
 match vs,hl with
 | [p,q],_ =>
  have a0:=hr 0 p _ rfl rfl
  have a1:=hr 1 q _ rfl rfl
  cases a0;cases a1;rfl
theorem UX {M0:Nat->Prop}{σ:Nat->Option Ow}{w:World}{a:Act}(hS:St n M0 H σ w e a){x:Operand}{k:IntKind}{u:Int}(hx:e8 e x=.int k u):a.eval x=.int k u:=by
 have h:=hS.envR.ev x
 rw [hx] at h
 generalize a.eval x=y at h
 cases h;rfl
theorem Lp {M:Nat->Prop}{σ:Nat->Option Ow}{N:Nat->Prop}{w:World}(u v:Int):RepV M σ N w (kv u v) (.agg [.int .i64 u,.int .i64 v]) :=
 .agg [.int .i64 u,.int .i64 v] _ rfl (by simp [Value.oneCell']) λj x d hx hd=>by
  match j with
  | 0=>simp at hx hd;subst hx;subst hd;exact .int _ _
  | 1=>simp at hx hd;subst hx;subst hd;exact .int _ _
  | j+2=>simp at hx
theorem Ey {M:Nat->Prop}{σ:Nat->Option Ow}{N:Nat->Prop}{w:World}{vs:List Value}{ds:List D}(hl:vs.length=ds.length)(hr:∀ (j:Nat) (u:Value) (d:D),vs[j]?=some u->ds[j]?=some d->RepV M σ N w u d):RepV M σ N w (.tuple vs.toArray) (.tup ds):=.tup _ _ hl hr
theorem OpsG.make (hT:MapT P T K E){t:TypeId}(hop:o.op=.makeMap t none)(hg:o.guard=none)(hd:qG n o.dst=true)(h:∀ b,OpsG P K E n ops l X (.mp b 0 λ_ _=>none) (oD e o.dst (.cst (.map (some b)))) H):OpsG P K E n ops (o :: l) X .no e H :=
 λM0 H0 σ0 w0 σ a w Q hS hQ=>by
 refine wpList_plain hg λK' hK'=>?_
 unfold Oper.wp
 simp only [execOp,hop,RowKit.run_makeMap,Option.map_none,Sem.run_bind,Sem.run_pure,Result.andThen_ok,Result.andThen,Oper.upon_value]
 refine hK' _ _ (h w.heap.size M0 H0 σ0 w0 σ _ _ Q (hS.turned (g':=.mp w.heap.size 0 λ_ _=>none) (World.grownBy_alloc w _ none) bV ⟨hS.stp.size,λi o ho hb=>?_,_,World.ownsMap_made w P K _,λu v _ _=>⟨rfl,by simp⟩⟩ hd (.cst _)) hQ)
 have:=(hS.st.rel.lt i o _ ho hb).1
 omega
theorem Q4 (hT:MapT P T K E){t:TypeId}(ht:t=T){m x:Operand}(hop:o.op=.lookup t m x true)(hg:o.guard=none)(hd:qG n o.dst=true){b k:Nat}{F:FM}(hm:e8 e m=.cst (.map (some b))){u v:Int}(hx:e8 e x=.agg [.int .i64 u,.int .i64 v])(hu:Cn u)(hv:Cn v)
  (h:OpsG P K E n ops l X (.mp b k F) (oD e o.dst (.tup [.int .i64 ((F u v).getD 0),.bool (F u v).isSome])) H):OpsG P K E n ops (o :: l) X (.mp b k F) e H :=
 λM0 H0 σ0 w0 σ a w Q hS hQ=>by
 subst ht
 obtain ⟨m1,m2,D,m3,m4⟩:=hS.map
 obtain ⟨r1,r2⟩:=m4 u v hu hv
 refine wpList_lookup_own_ok w hg m x t hop K E hT.law hT.t _ (hT.z w) (.lit (.int .i64 0)) [] (plainElem_int hT.e (Kg ⟨aD,aD⟩)) b k D (Gw hS.st hm) m3 (kv u v) (kl u v) (Pv hS.st hx) (hT.kmk u v hu hv) λy ps hy=>?_
 obtain ⟨c,rfl,hc,_⟩:=plainElem_int_inv hT.e hy
 have hcv:c=(F u v).getD 0:=by
  simp only [Prod.mk.injEq] at hc
  cases hF:F u v with
  | none =>
   rw [hF] at r1
   have:=Maps.atKey_of_not_has r1 (.lit (.int .i64 0))
   rw [this] at hc
   have:=hc.1;simp at this;simp [this]
  | some c' =>
   have:=r2 c' hF (.lit (.int .i64 0))
   rw [this] at hc
   have:=hc.1;simp at this;simp [this]
 subst hcv
 rw [r1]
 refine h M0 H0 σ0 w0 σ _ _ Q (hS.turned (row:=none) ⟨rfl,rfl,rfl,bC _,λ_ _ _=>rfl⟩ bV hS.map hd (Ey (vs:=[_,_]) rfl λj y d hy hd=>?_)) hQ
 match j with
 | 0=>simp at hy hd;subst hy;subst hd;exact .int _ _
 | 1=>simp at hy hd;subst hy;subst hd;exact .bool _
 | j+2=>simp at hy
theorem OpsG.store (hT:MapT P T K E){t:TypeId}(ht:t=T){m x y:Operand}(hop:o.op=.mapUpdate t m x y)(hg:o.guard=none)(hd:qG n o.dst=true){b k:Nat}{F:FM}(hm:e8 e m=.cst (.map (some b))){u v c:Int}(hx:e8 e x=.agg [.int .i64 u,.int .i64 v])(hy:e8 e y=.int .i64 c)(hu:Cn u)(hv:Cn v)(hc:Cn c)(hk:k<1000000)
  (h:OpsG P K E n ops l X (.mp b (k+1) (Jz F u v c)) (oD e o.dst .junk) H):OpsG P K E n ops (o :: l) X (.mp b k F) e H :=
 λM0 H0 σ0 w0 σ a w Q hS hQ=>by
 subst ht
 obtain ⟨m1,m2,D,m3,m4⟩:=hS.map
 have hcm:∀ ad:Addr,ad.block=b->w.cell? ad=none:=by obtain ⟨es,clock,hb,_⟩:=m3;exact Sc hb
 refine wpList_mapUpdate_own w hg m x y t hop K E hT.law hT.t _ b k D (Gw hS.st hm) m3 (by simp only [maxLen];omega) (kv u v) (.int .i64 c) (kl u v) (Pv hS.st hx) (UX hS.st hy) (hT.kmk u v hu hv) (.lit (.int .i64 c)) [] (plainElem_int hT.e (Kg hc)) λw' hw1 hw2=>?_
 refine h M0 H0 σ0 w0 σ _ _ Q (hS.turned (g':=.mp b (k+1) (Jz F u v c)) hw2 (λb' hb'=>by cases hb';exact ⟨m1,m2,hcm⟩) ⟨m1,m2,_,hw1,λu' v' hu' hv'=>?_⟩ hd (.junk _)) hQ
 unfold Jz
 by_cases he:u'=u/\v'=v
 .obtain ⟨rfl,rfl⟩:=he
  rw [if_pos ⟨rfl,rfl⟩]
  have hkl:=hT.law.key (hT.kmk u' v' hu' hv')
  exact ⟨Maps.has_put_same m3.isMap hkl _,λc' hc' z=>by cases hc';exact Maps.atKey_put_same m3.isMap hkl _ _⟩
 .rw [if_neg he]
  have hne:kl u' v'≠kl u v:=λe'=>he (hT.inj hu' hv' hu hv e')
  obtain ⟨r1,r2⟩:=m4 u' v' hu' hv'
  exact ⟨(Maps.has_put_other hne _).trans r1,λc' hc' z=>(Maps.atKey_put_other hne _ _).trans (r2 c' hc' z)⟩
theorem OpsG.range (hT:MapT P T K E){t:TypeId}(ht:t=T){m:Operand}(hop:o.op=.range t m)(hg:o.guard=none)(hd:qG n o.dst=true){b k:Nat}{F:FM}(hm:e8 e m=.cst (.map (some b)))
  (h:∀ r tS,OpsG P K E n ops l X (.rg b r F (λu v=>(F u v).isSome) tS none) (oD e o.dst (.cst (DG r))) H):OpsG P K E n ops (o :: l) X (.mp b k F) e H :=
 λM0 H0 σ0 w0 σ a w Q hS hQ=>by
 subst ht
 obtain ⟨m1,m2,D,m3,m4⟩:=hS.map
 refine wpList_range_own w hg m t hop K E hT.law hT.t _ b k D (Gw hS.st hm) m3 λw' hw1 hw2 hw3=>?_
 refine h w.heap.size (Maps.size D) M0 H0 σ0 w0 σ _ _ Q (hS.turned (g':=.rg b w.heap.size F (λu v=>(F u v).isSome) (Maps.size D) none) hw2 bV ⟨m1,hS.stp.size,m2,λi o ho hb=>?_,k,D,_,hw1,m4,λu v hu hv=>(m4 u v hu hv).1,by simp⟩ hd (.cst _)) hQ
 have:=(hS.st.rel.lt i o _ ho hb).1
 omega
theorem OpsG.next (hT:MapT P T K E){it:Operand}(hop:o.op=.next it false)(hg:o.guard=none)(hd:qG n o.dst=true){b r tS:Nat}{F:FM}{left:Int->Int->Bool}{cur:Option (Int × Int × Int)}(hit:e8 e it=.cst (DG r))
  (h1:(∀ u v,Cn u->Cn v->left u v=false)->OpsG P K E n ops l X (.rg b r F left tS cur) (oD e o.dst (.tup [.bool false])) H)
  (h2:∀ u v c cnt',Cn u->Cn v->left u v=true->F u v=some c->cnt'<tS->OpsG P K E n ops l X (.rg b r F (λu' v'=>left u' v'&&!decide (u'=u/\v'=v)) cnt' (some (u,v,c))) (oD e o.dst (.tup [.bool true,.agg [.int .i64 u,.int .i64 v],.int .i64 c])) H) :
  OpsG P K E n ops (o :: l) X (.rg b r F left tS cur) e H :=
 λM0 H0 σ0 w0 σ a w Q hS hQ=>by
 obtain ⟨m1,m2,m3,m4,k,D,lf,m5,m6,m7,m8⟩:=hS.map
 have hcm:∀ ad:Addr,ad.block=r->w.cell? ad=none:=by obtain ⟨es,clock,since,seen,c0,hb,F',hn,hD,hr,_⟩:=m5;exact QR hr
 refine wpList_next_ranges w hg it hop K hT.law (plainElem P E) (λp:Int × Int=>kv p.1 p.2) (Value.int .i64) (λkey l hkey=>?_) (λv y hv=>?_) b r k D lf tS (Gw hS.st hit) m5 (λhc hl=>?_) λx c l' y w' cnt' hkey hlk hv hat hrg hlt hgr hsz hen=>?_
 .obtain ⟨u,v,_,_,rfl⟩:=hT.inv key l hkey
  exact ⟨(u,v),rfl⟩
 .obtain ⟨c,rfl,_⟩:=plainElem_int_inv hT.e hv;exact ⟨c,rfl⟩
 .refine h1 (λu v hu hv=>by rw [<- m7 u v hu hv];exact hl _) M0 H0 σ0 w0 σ _ _ Q (hS.turned (row:=none) ⟨rfl,rfl,rfl,bC _,λ_ _ _=>rfl⟩ bV hS.map hd (Ey (vs:=[_]) rfl λj y d hy hd=>?_)) hQ
  match j with
  | 0=>simp at hy hd;subst hy;subst hd;exact .bool _
  | j+1=>simp at hy
 .obtain ⟨u,v⟩:=x
  simp only at hkey hen
  obtain ⟨u',v',hu,hv',he⟩:=hT.inv _ _ hkey
  simp only [kv,Value.agg.injEq,Array.mk.injEq,List.cons.injEq,Value.int.injEq,true_and,and_true] at he
  obtain ⟨rfl,rfl⟩:=he
  rw [hT.kmk u v hu hv'] at hkey
  cases hkey
  obtain ⟨c',ec,rfl,hwc⟩:=plainElem_int_inv hT.e hv
  cases ec
  have hhas:=Maps.has_true_of_atKey hat
  obtain ⟨r1,r2⟩:=m6 u v hu hv'
  rw [hhas] at r1
  obtain ⟨c2,hc2⟩:=kK.1 r1.symm
  have hcc:c2=c:=by
   have e1:=r2 c2 hc2 .nil
   rw [hat .nil] at e1
   simp at e1;exact e1.symm
  subst hcc
  refine h2 u v c2 cnt' hu hv' (by rw [<- m7 u v hu hv'];exact hlk) hc2 hlt M0 H0 σ0 w0 σ _ _ Q (hS.turned (g':=.rg b r F (λu' v'=>left u' v'&&!decide (u'=u/\v'=v)) cnt' (some (u,v,c2))) hgr (λb' hb'=>by cases hb';exact ⟨m2,m4,hcm⟩) ⟨m1,m2,m3,m4,k,D,_,hrg,m6,λa1 a2 ha1 ha2=>?_,λa1 a2 a3 ha=>?_⟩ hd (Ey (vs:=[_,_,_]) rfl λj y d hy hd=>?_)) hQ
  .rw [m7 a1 a2 ha1 ha2]
   congr 2
   rw [aT]
   constructor
   .intro h;exact decide_eq_true (hT.inj ha1 ha2 hu hv' (WideAt.sameKey_eq h))
   .intro h
    obtain ⟨rfl,rfl⟩:=of_decide_eq_true h
    exact WideAt.sameKey_self (hT.law.key (hT.kmk _ _ hu hv'))
  .cases ha;exact hen
  .match j with
   | 0=>simp at hy hd;subst hy;subst hd;exact .bool _
   | 1=>simp at hy hd;subst hy;subst hd;exact Lp _ _
   | 2=>simp at hy hd;subst hy;subst hd;exact .int _ _
   | j+3=>simp at hy
theorem OpsG.entry {it:Operand}(hop:o.op=.entry it)(hg:o.guard=none)(hd:qG n o.dst=true){b r tS:Nat}{F:FM}{left:Int->Int->Bool}{u v c:Int}(hit:e8 e it=.cst (DG r))
  (h:OpsG P K E n ops l X (.rg b r F left tS (some (u,v,c))) (oD e o.dst (.tup [.agg [.int .i64 u,.int .i64 v],.int .i64 c])) H):OpsG P K E n ops (o :: l) X (.rg b r F left tS (some (u,v,c))) e H :=
 λM0 H0 σ0 w0 σ a w Q hS hQ=>by
 obtain ⟨m1,m2,m3,m4,k,D,lf,m5,m6,m7,m8⟩:=hS.map
 have hrun:=m8 u v c rfl
 refine wpList_plain hg λK' hK'=>?_
 unfold Oper.wp
 have hit':=Gw hS.st hit
 simp only [execOp,hop,hit',hrun,Sem.run_bind,Sem.run_pure,Result.andThen_ok,Result.andThen,Oper.upon_value]
 refine hK' _ _ (h M0 H0 σ0 w0 σ _ _ Q (hS.turned (row:=none) ⟨rfl,rfl,rfl,bC _,λ_ _ _=>rfl⟩ bV hS.map hd (Ey (vs:=[_,_]) rfl λj y d hy hd=>?_)) hQ)
 match j with
 | 0=>simp at hy hd;subst hy;subst hd;exact Lp _ _
 | 1=>simp at hy hd;subst hy;subst hd;exact .int _ _
 | j+2=>simp at hy
/-! ### calls -/
def GCalls (P:Program)(K E:TypeId)(f:FuncId)(args:List D)(H:AHeap)(Q:D->AHeap->MS->Prop):Prop :=
 T2 P f/\∀ (M0:Nat->Prop) (σ:Nat->Option Ow) (w:World) (vals:List Value),Rel M0 H σ w->RepL (dB M0 H σ) σ H.al w vals args ->
  Calls P f vals.toArray w λe w'=>∃ v d H' σ' g,e=.returned v/\Rel M0 H' σ' w'/\RepV (dB M0 H' σ') σ' H'.al w' v d/\Stp σ w σ' w'/\Keeps (dB M0 H σ) σ H.al w (dB M0 H' σ') σ' H'.al w'/\MpOk P K E σ' w.heap.size w' g/\Q d H' g
theorem HW {f:FuncId}{args:List D}{Q:D->AHeap->MS->Prop}{Q':D->AHeap->Prop}(h:GCalls P K E f args H Q)(hq:∀ d H' g,Q d H' g->Q' d H'):ACalls P f args H Q' :=
 ⟨h.1,λM0 σ w vals hR ha=>(h.2 M0 σ w vals hR ha).mono λe w' ⟨v,d,H',σ',g,a,b,c,s,k,_,q⟩=>⟨v,d,H',σ',a,b,c,s,k,hq _ _ _ q⟩⟩
def P5 (P:Program)(rs:List ResultVar)(Q:D->AHeap->MS->Prop):PG:=λex g e H=>P4 P rs (λd H'=>Q d H' g) ex e H
theorem yH {f:FuncId}{fn:Func}{x:Code}{args:List D}{Q:D->AHeap->MS->Prop}(hf:P.funcs[f]?=some fn)(hb:fn.body=some x)
  (hnm:(fn.name=="runtime.NumGoroutine")=false) (hlen:args.length<=fn.ntmps) (h:WpG P K E fn.ntmps x (P5 P fn.results.toList Q) .no (zO args) H):GCalls P K E f args H Q:=by
 refine ⟨⟨fn,hf,hnm,by simp [hb]⟩,λM0 σ w vals hR ha=>calls_of_wp hf hb ?_⟩
 have hS:St fn.ntmps M0 H σ w (zO args) { tmps:=vals.toArray++Array.replicate (fn.ntmps - vals.toArray.size) undef,defers:=[] }:=by
  refine ⟨hR,λt=>?_,rfl,by simp [ha.len];omega⟩
  simp only [zO]
  by_cases ht:t<vals.length
  .have h1:vals[t]?=some vals[t]:=aA ht
   have h2:args[t]?=some (args[t]'(by rw [<- ha.len];exact ht)):=aA _
   have:=ha.rep t _ _ h1 h2
   rw [List.getD_eq_getElem?_getD,h2]
   simp only [Option.getD_some,i5]
   rw [Array.getElem?_append_left (bW ht)]
   simpa [h1] using this
  .rw [List.getD_eq_getElem?_getD,b5 (by rw [<- ha.len];omega)]
   exact .junk _
 refine iJ (h M0 H σ w σ _ w ⟨hS,.refl _ _,.refl _ _ _ _,trivial⟩) λex a' w' hc=>?_
 obtain ⟨g,e',H',σ',hq,hS',hst,hk,hM⟩:=hc
 have fin:Cg P fn.results.toList e' H' (λl=>Q (EU l) H' g)->a'.defers=[]/\∃ v,(results fn a'.tmps).run P w'=.ok v w' /\
   ∃ v2 d H2 σ2 g2,Ending.returned v=.returned v2/\Rel M0 H2 σ2 w'/\RepV (dB M0 H2 σ2) σ2 H2.al w' v2 d/\Stp σ w σ2 w'/\Keeps (dB M0 H σ) σ H.al w (dB M0 H2 σ2) σ2 H2.al w'/\MpOk P K E σ2 w.heap.size w' g2/\Q d H2 g2:=by
  intro hq
  obtain ⟨vs,l,h1,h2,h3⟩:=wA hS' _ _ hq
  obtain ⟨v,hv1,hv2⟩:=Dp (fn:=fn) h1 h2
  exact ⟨hS'.defers,v,hv1,v,_,H',σ',g,rfl,hS'.rel,hv2,hst,hk,hM,h3⟩
 cases ex<;>first|exact fin hq|exact hq.elim
theorem OpsG.call {f:FuncId}{args:List D}{Q:D->AHeap->MS->Prop}(hc:gQ e o=some (f,args))(hg:o.guard=none)(hd:qG n o.dst=true)(hA:GCalls P K E f args H Q)(h:∀ d H' g',Q d H' g'->OpsG P K E n ops l X g' (oD e o.dst d) H') :
  OpsG P K E n ops (o :: l) X .no e H:=λM0 H0 σ0 w0 σ a w Q' hS hQ=>by
 refine wpList_plain hg λK' hK'=>?_
 obtain ⟨vals,hrun,hrep⟩:=AS (P:=P) (λx _=>hS.st.envR.ev x) hc hA.1
 refine Ar (args:=args) hrun ((hA.2 M0 σ w vals hS.st.rel hrep).mono λe' w' ⟨v,d,H',σ',g',he,hR',hv,hst,hk,hM,hq⟩=>?_)
 exact ⟨v,he,hK' _ _ (h d H' g' hq M0 H0 σ0 w0 σ' _ _ Q' ⟨hS.st.put hR' hk hd hv,hS.stp.trans hst,hS.keep.trans hk,hM.base hS.stp.size⟩ hQ)⟩
end
end Go.Abs
end
section
set_option maxRecDepth 100000
set_option maxHeartbeats 4000000
open Go Go.Proofs
namespace Go.Abs
@[go_sem] theorem Wt (H:AHeap)(a b c d:Nat):iN H (.ptr a b c d)=.ptr a b c d:=rfl
@[go_sem] theorem Ul (a b c d:Nat):dU (.ptr a b c d)=[]:=rfl
@[go_sem] theorem W9 (H:AHeap)(i:Nat):(H.frz i).next=H.next:=(Om H i).2
@[go_sem] theorem YK (H:AHeap)(i j:Nat):(H.frz i).get j=if j=i then (H.get i).map (λk=>{ k with fz:=true }) else H.get j:=by
 by_cases h:j=i
 .subst h
  unfold AHeap.frz
  cases hk:H.get j<;>simp [AHeap.put,hk]
 .rw [if_neg h,IN H i j h]
theorem MY {P:Program}{md:Nat->Bool}{ops:Array Oper}{rest:List Oper}{e:dM}{dst:Option Tmp}{K:dM->AHeap->Prop}{f:FuncId}{args args':List D}{H:AHeap}(ha:args.map Qt=args')(h:fM P md ops rest e dst K f args' H):fM P md ops rest e dst K f args H:=by
 subst ha;unfold fM at h ⊢
 exact ⟨h.1,λM0 σ w vals hR hr=>h.2 M0 σ w vals hR ⟨by simpa using hr.len,λj u d hu hd=>by
  rw [aN,bQ] at hd
  obtain ⟨y,hy,rfl⟩:=hd
  exact J3 (hr.rep j u y hu hy)⟩⟩
theorem Ga (o:Option Int):(Option.map cI o).getD [D.int .i64 0]=cI (o.getD 0):=by cases o<;>rfl
structure Srch where
 t:Types
 p:Graph
 g:Graph
 pn:List Int
 pe:List Int
 inj:Bool
def RZ (y:Edge):List Int:=[y.type,y.from_,y.to_]
def yJ (l:List Int)(i k:Nat):Bool:=decide (l[i]?.getD (-1)<0)||decide (l[i]?.getD (-1)=(k:Int))
def v7 (t:Types)(a b:Int):Bool:=mem (t.line b.toNat) a
def UY (p:Graph)(ns:List Int)(i:Nat):Edge:=⟨(p.edges[i]?.getD cC).type,ns[(p.edges[i]?.getD cC).from_.toNat]?.getD 0,ns[(p.edges[i]?.getD cC).to_.toNat]?.getD 0⟩
def yG (S:Srch)(ns:List Int)(i k:Nat):Bool:=decide (RZ (S.g.edges[k]?.getD cC)=RZ (UY S.p ns i))
def It (S:Srch)(l:List Int)(k:Nat):Bool:=yJ S.pn l.length k&&(!(S.inj&&mem l k)&&v7 S.t (S.p.nodes[l.length]?.getD 0) (S.g.nodes[k]?.getD 0))
def Pg (S:Srch)(ns l:List Int)(k:Nat):Bool:=yJ S.pe l.length k&&(!(S.inj&&mem l k)&&yG S ns l.length k)
def He (S:Srch)(N:Nat)(ns:List Int):Nat->List Int->List Part->List Part
 | 0,l,ou=>if N<=ou.length then ou else ou++[⟨ns,l⟩]
 | d+1,l,ou=>if N<=ou.length then ou else (List.range S.g.edges.length).foldl (λou k=>if Pg S ns l k=true then He S N ns d (l++[(k:Int)]) ou else ou) ou
def AB (S:Srch)(l:List Int)(i:Nat):Bool:=decide ((l.length:Int)<=(S.p.edges[i]?.getD cC).from_)||decide ((l.length:Int)<=(S.p.edges[i]?.getD cC).to_)||(List.range S.g.edges.length).any (yG S l i)
def tO (S:Srch)(l:List Int):Bool:=(List.range S.p.edges.length).all (AB S l)
def FP (S:Srch)(l:List Int)(i:Nat):Bool:=decide (max (S.p.edges[i]?.getD cC).from_ (S.p.edges[i]?.getD cC).to_≠(l.length:Int) - 1)||(List.range S.g.edges.length).any λk=>yJ S.pe i k&&yG S l i k
def sX (S:Srch)(l:List Int):Bool:=(List.range S.p.edges.length).all (FP S l)
def Nz (S:Srch)(N:Nat):Nat->List Int->List Part->List Part
 | 0,l,ou=>if N<=ou.length\/tO S l=false then ou else He S N l S.p.edges.length [] ou
 | d+1,l,ou=>if N<=ou.length\/tO S l=false then ou else (List.range S.g.nodes.length).foldl (λou k=>if It S l k=true then Nz S N d (l++[(k:Int)]) ou else ou) ou
def Pb (S:Srch)(N:Nat):Nat->List Int->List Part->List Part
 | 0,l,ou=>if N<=ou.length then ou else He S N l S.p.edges.length [] ou
 | d+1,l,ou=>if N<=ou.length then ou else (List.range S.g.nodes.length).foldl (λou k=>if (It S l k&&sX S (l++[(k:Int)]))=true then Pb S N d (l++[(k:Int)]) ou else ou) ou
/-! ### all matches -/
def Ei (S:Srch)(ns:List Int):Nat->List Int->List (List Int)
 | 0,l=>[l]
 | d+1,l=>((List.range S.g.edges.length).filter (Pg S ns l)).flatMap λ(k:Nat)=>Ei S ns d (l++[(k:Int)])
def BU (S:Srch):Nat->List Int->List Part
 | 0,l=>(Ei S l S.p.edges.length []).map λes=>⟨l,es⟩
 | d+1,l=>((List.range S.g.nodes.length).filter (It S l)).flatMap λ(k:Nat)=>BU S d (l++[(k:Int)])
def AW (S:Srch):List Part:=BU S S.p.nodes.length []
theorem Cs {α:Type}(N:Nat)(a b:List α):((a.take N)++b).take N=(a++b).take N:=by
 rw [zH,zH,List.take_take,Nat.min_self]
 congr 1
 by_cases h:a.length<=N
 .rw [aH h]
 .rw [c6,Nat.min_eq_left aD]
  rw [(aD:N - N=0),(aD:N - a.length=0)]
theorem uR {α:Type}(N:Nat)(ok:Nat->Bool)(f:Nat->List α->List α)(x:Nat->List α)(hf:∀ k ou,ou.length<=N->f k ou=(ou++x k).take N) :
  ∀ (l:List Nat) (ou:List α),ou.length<=N->l.foldl (λou k=>if ok k=true then f k ou else ou) ou=(ou++(l.filter ok).flatMap x).take N
 | [],ou,h=>by simp [aH h]
 | k :: l,ou,h=>by
  rw [List.foldl_cons]
  by_cases hk:ok k=true
  .rw [if_pos hk,hf k ou h,uR N ok f x hf l _ (by simp;omega),Cs,List.filter_cons_of_pos hk,wT,List.append_assoc]
  .rw [if_neg hk,uR N ok f x hf l _ h,List.filter_cons_of_neg hk]
theorem rH {α:Type}{N:Nat}{ou x:List α}(h:ou.length<=N)(h2:N<=ou.length):ou=(ou++x).take N:=by
 rw [zH,aH h,(aD:N - ou.length=0)];simp
theorem Jw (S:Srch)(N:Nat)(ns:List Int):∀ (d:Nat) (l:List Int) (ou:List Part),ou.length<=N->He S N ns d l ou=(ou++(Ei S ns d l).map λes=>(⟨ns,es⟩:Part)).take N
 | 0,l,ou,h=>by
  simp only [He,Ei]
  split
  .rename_i h2;exact rH h h2
  .rw [aH (by simp;omega)];rfl
 | d+1,l,ou,h=>by
  simp only [He,Ei]
  split
  .rename_i h2;exact rH h h2
  .rw [uR N (Pg S ns l) (λk ou=>He S N ns d (l++[(k:Int)]) ou) (λk=>(Ei S ns d (l++[(k:Int)])).map λes=>(⟨ns,es⟩:Part)) (λk ou ho=>Jw S N ns d _ ou ho) _ _ h,List.map_flatMap]
theorem Gv {S:Srch}{ns:List Int}:∀ (d:Nat) (l es:List Int),es∈Ei S ns d l->∀ i,l.length<=i->i<l.length+d->∃ k,k<S.g.edges.length/\yJ S.pe i k=true/\yG S ns i k=true
 | 0,l,es,_,i,h1,h2=>by omega
 | d+1,l,es,h,i,h1,h2=>by
  simp only [Ei,bS,gZ,bP] at h
  obtain ⟨k,⟨hk,ho⟩,hr⟩:=h
  by_cases hi:i=l.length
  .simp only [Pg,aR] at ho
   exact ⟨k,hk,hi ▸ ho.1,hi ▸ ho.2.2⟩
  .exact Gv d _ es hr i (by simp;omega) (by simp;omega)
theorem yL {S:Srch}:∀ (d:Nat) (l:List Int) (m:Part),m∈BU S d l->(∃ r,m.nodes=l++r)/\m.edges∈Ei S m.nodes S.p.edges.length []
 | 0,l,m,h=>by
  simp only [BU,bA] at h
  obtain ⟨es,he,rfl⟩:=h
  exact ⟨⟨[],by simp⟩,he⟩
 | d+1,l,m,h=>by
  simp only [BU,bS,gZ,bP] at h
  obtain ⟨k,_,hr⟩:=h
  obtain ⟨⟨r,hr1⟩,hr2⟩:=yL d _ m hr
  exact ⟨⟨(k:Int) :: r,by rw [hr1];simp⟩,hr2⟩
theorem Px {p:Graph}{l r:List Int}{i:Nat}(h1:(p.edges[i]?.getD cC).from_.toNat<l.length)(h2:(p.edges[i]?.getD cC).to_.toNat<l.length):UY p (l++r) i=UY p l i:=by
 unfold UY
 rw [aQ h1,aQ h2]
theorem Gu {S:Srch}(hp:graphF S.p=0)(d:Nat)(l:List Int)(h:tO S l=false):BU S d l=[]:=by
 rw [nQ]
 intro m hm
 obtain ⟨⟨r,hr⟩,he⟩:=yL d l m hm
 simp only [tO,EN,bP] at h
 obtain ⟨i,hi,hk⟩:=h
 have hx:=((eL hp).2 _ (aC hi)).2
 simp only [AB,aA hi,Option.getD_some,c4,decide_eq_true_eq,not_or,aX,bP,not_exists,not_and,Int.not_le] at hk
 obtain ⟨⟨k1,k2⟩,k3⟩:=hk
 obtain ⟨k,a1,a2,a3⟩:=Gv _ _ _ he i (dY _) (bW hi)
 apply k3 k a1
 unfold yG at a3 ⊢
 rw [hr,Px (by rw [aA hi,Option.getD_some];omega) (by rw [aA hi,Option.getD_some];omega)] at a3
 exact a3
theorem QO {S:Srch}(hp:graphF S.p=0)(d:Nat)(l:List Int)(h:sX S l=false):BU S d l=[]:=by
 rw [nQ]
 intro m hm
 obtain ⟨⟨r,hr⟩,he⟩:=yL d l m hm
 simp only [sX,EN,bP] at h
 obtain ⟨i,hi,hk⟩:=h
 have hx:=((eL hp).2 _ (aC hi)).2
 simp only [FP,aA hi,Option.getD_some,c4,decide_eq_true_eq,not_or,aX,bP,not_exists,not_and,ne_eq,jS,aR] at hk
 obtain ⟨k1,k3⟩:=hk
 obtain ⟨k,a1,a2,a3⟩:=Gv _ _ _ he i (dY _) (bW hi)
 refine k3 k a1 a2 ?_
 unfold yG at a3 ⊢
 rw [hr,Px (by rw [aA hi,Option.getD_some];omega) (by rw [aA hi,Option.getD_some];omega)] at a3
 exact a3
theorem Ny {S:Srch}(hp:graphF S.p=0)(N:Nat):∀ (d:Nat) (l:List Int) (ou:List Part),ou.length<=N->Nz S N d l ou=(ou++BU S d l).take N
 | 0,l,ou,h=>by
  simp only [Nz]
  split
  .rename_i h2
   rcases h2 with h2|h2
   .exact rH h h2
   .rw [Gu hp 0 l h2,dG,aH h]
  .rw [Jw S N l _ _ _ h];rfl
 | d+1,l,ou,h=>by
  simp only [Nz]
  split
  .rename_i h2
   rcases h2 with h2|h2
   .exact rH h h2
   .rw [Gu hp _ l h2,dG,aH h]
  .rw [uR N (It S l) (λk ou=>Nz S N d (l++[(k:Int)]) ou) (λk=>BU S d (l++[(k:Int)])) (λk ou ho=>Ny hp N d _ ou ho) _ _ h];rfl
theorem DN {α:Type}(ok po:Nat->Bool)(x:Nat->List α)(h:∀ k,po k=false->x k=[]):∀ l:List Nat,(l.filter λk=>ok k&&po k).flatMap x=(l.filter ok).flatMap x
 | []=>rfl
 | k :: l=>by
  cases h1:ok k<;>cases h2:po k<;>simp [List.filter_cons,h1,h2,DN ok po x h l,h k]
theorem N0 {S:Srch}(hp:graphF S.p=0)(N:Nat):∀ (d:Nat) (l:List Int) (ou:List Part),ou.length<=N->Pb S N d l ou=(ou++BU S d l).take N
 | 0,l,ou,h=>by
  simp only [Pb]
  split
  .rename_i h2;exact rH h h2
  .rw [Jw S N l _ _ _ h];rfl
 | d+1,l,ou,h=>by
  simp only [Pb]
  split
  .rename_i h2;exact rH h h2
  .rw [uR N (λk=>It S l k&&sX S (l++[(k:Int)])) (λk ou=>Pb S N d (l++[(k:Int)]) ou) (λk=>BU S d (l++[(k:Int)])) (λk ou ho=>N0 hp N d _ ou ho) _ _ h]
   rw [DN (It S l) (λk=>sX S (l++[(k:Int)])) _ λk hk=>QO hp d _ hk];rfl
theorem Cw (S:Srch){N:Nat}(ns:List Int)(d:Nat)(l:List Int){ou:List Part}(h:ou.length<=N):(He S N ns d l ou).length<=N:=by
 rw [Jw S N ns d l ou h];exact List.length_take_le _ _
theorem Rm {S:Srch}(hp:graphF S.p=0){N:Nat}(d:Nat)(l:List Int){ou:List Part}(h:ou.length<=N):(Nz S N d l ou).length<=N:=by
 rw [Ny hp N d l ou h];exact List.length_take_le _ _
theorem NZ {S:Srch}(hp:graphF S.p=0){N:Nat}(d:Nat)(l:List Int){ou:List Part}(h:ou.length<=N):(Pb S N d l ou).length<=N:=by
 rw [N0 hp N d l ou h];exact List.length_take_le _ _
theorem E9 {S:Srch}{N:Nat}(ns:List Int)(d:Nat)(l:List Int){ou:List Part}(h:N<=ou.length):He S N ns d l ou=ou:=by cases d<;>simp only [He,if_pos h]
def BF (l:List Attr)(vs:List Int)(k:Nat):Int:=if vs[k]?.getD 0<(l[k]?.getD nB).low\/(l[k]?.getD nB).high<vs[k]?.getD 0 then 6 else 0
def g9 (t:Types)(kind:Int)(vs:List Int):Int :=
 if (t.nodes.length:Int)<=kind then 6 else if wP t kind.toNat=true then 13 else if vs.length≠(bL t kind).length then 20 else bT (BF (bL t kind) vs) 0 (bL t kind).length
theorem NW (t:Types)(ht:t.ok)(kind:Int)(hk:0<=kind)(vs:List Int):Pure Tryz.prog 207 [t.d,dI kind,dLI vs] (dI (g9 t kind vs)):=by
 refine Tz.pK ⟨λ_=>false,λ_=>[]⟩ Tryz.func207 rfl (λQ hQ=>?_)
 have Y:=trivial
 refine wv (h:=?_)
 repeat first|intro _|refine ⟨eO,?_⟩
 refine wq (λh1=>?_) λh1=>?_
 .have hE:g9 t kind vs=6:=by unfold g9;rw [if_pos aD]
  exact wv (h:=hQ _ _ (by simp [go_sem,hE]))
 .have hkn:kind.toNat<t.nodes.length:=aD
  have hA:wP t kind.toNat=t.nodes[kind.toNat].abs:=by simp [wP,aA hkn]
  have hE0:g9 t kind vs=if wP t kind.toNat=true then 13 else if vs.length≠(bL t kind).length then 20 else bT (BF (bL t kind) vs) 0 (bL t kind).length:=by unfold g9;rw [if_neg aD]
  rw [hA] at hE0
  have Y:=wa Y (wa (aA hkn) @NodeTy.c.eq_1)
  refine wv (h:=?_)
  repeat first|intro _|refine ⟨eO,?_⟩
  refine wq (λh3=>?_) λh3=>?_
  .rw [if_pos (bW h3)] at hE0
   exact wv (h:=hQ _ _ (by simp [go_sem,hE0]))
  .rw [if_neg (bW h3)] at hE0
   refine wv (h:=aB (nW t ht kind) wl ?_)
   refine wv (h:=?_)
   repeat first|intro _|refine ⟨eO,?_⟩
   refine wq (λh6=>?_) λh6=>?_
   .rw [if_pos aD] at hE0
    exact wv (h:=hQ _ _ (by simp [go_sem,hE0]))
   .rw [if_neg aD] at hE0
    have hln:vs.length=(bL t kind).length:=aD
    refine wv (h:=bF (λk e H=>(e 3=.adr t.c/\e 2=dLI vs/\e 7=.list ((bL t kind).map Attr.c)/\e 9=dI k)/\(k<=(bL t kind).length)/\(bT (BF (bL t kind) vs) k ((bL t kind).length - k)=g9 t kind vs)) (λk=>(bL t kind).length - k) 0 ⟨wg,wi,(by exact hE0.symm)⟩ λI0 hI0 k e H hi0=>?_)
    obtain ⟨E0,hkl,hF⟩:=hi0
    have Y:=wa Y E0
    refine wv (h:=?_)
    repeat first|intro _|refine ⟨eO,?_⟩
    refine wq (λh9=>?_) λh9=>?_
    .have hv:k<vs.length:=aD
     have hst:=eZ (BF (bL t kind) vs) h9
     rw [hF] at hst
     have hLE:BF (bL t kind) vs k=if vs[k]<(bL t kind)[k].low\/(bL t kind)[k].high<vs[k] then 6 else 0:=by simp only [BF,aA hv,aA h9,Option.getD_some]
     have Y:=wa Y (wa h9 (wa (aA hv) (wa (aA h9) @Attr.c.eq_1)))
     refine wv (h:=?_)
     repeat first|intro _|refine ⟨eO,?_⟩
     refine wq (λh11=>?_) λh11=>?_
     .rw [if_pos aD] at hLE
      rw [hLE,if_pos aD] at hst
      exact wv (h:=hQ _ _ (by simp [go_sem,hst]))
     .rw [if_neg aD] at hLE
      rw [hLE,if_neg aD] at hst
      exact wo (h:=wx hI0 (k+1) ⟨wg,wj,(by exact hst.symm)⟩)
    .have hZ:g9 t kind vs=0:=by rw [<- hF,(aD:(bL t kind).length - k=0)];rfl
     exact wv (h:=hQ _ _ (by simp [go_sem,hZ]))
def gP (f:Nat->Int):Nat->Nat->Int × Int
 | k,0=>(-1,0)
 | k,n+1=>if f k≠0 then ((k:Int),f k) else gP f (k+1) n
theorem q7 (f:Nat->Int){k n:Nat}(h:k<n):gP f k (n - k)=if f k≠0 then ((k:Int),f k) else gP f (k+1) (n - (k+1)):=by
 obtain ⟨m,hm⟩:∃ m,n - k=m+1:=⟨n - k - 1,aD⟩
 rw [hm,(aD:n - (k+1)=m)];rfl
theorem s8 (f:Nat->Int):∀ n k,(gP f k n).2=bT f k n
 | 0,k=>rfl
 | n+1,k=>by simp only [gP,bT];split<;>simp_all [s8 f n]
def Gk (t:Types)(h:Host)(i:Nat):Int:=g9 t (h.graph.nodes[i]?.getD 0) (h.values[i]?.getD [])
def QK (t:Types)(h:Host)(i:Nat):Int:=if (t.edges.length:Int)<=(h.graph.edges[i]?.getD cC).type then 6 else
 if n3 t (h.graph.edges[i]?.getD cC).type (gN h.graph (h.graph.edges[i]?.getD cC).from_) (gN h.graph (h.graph.edges[i]?.getD cC).to_)=true then 0 else 13
def nZ (t:Types)(h:Host):Int × Int :=
 if (cZ t).2≠0 then (-1,(cZ t).2) else if graphF h.graph≠0 then (-1,graphF h.graph) else if h.values.length≠h.graph.nodes.length then (-1,20)
 else if (gP (Gk t h) 0 h.graph.nodes.length).2≠0 then gP (Gk t h) 0 h.graph.nodes.length else gP (QK t h) 0 h.graph.edges.length
def iF (t:Types)(h:Host):Int:=(nZ t h).2
theorem xO (t:Types)(ht:t.ok)(h:Host):Pure Tryz.prog 120 [t.d,h.d] (.tup [dI (nZ t h).1,dI (nZ t h).2]):=by
 refine Tz.pK ⟨λt=>t==12,λ_=>[]⟩ Tryz.func120 rfl (λQ hQ=>?_)
 have Y:=wa @Host.d.eq_1 @Host.c.eq_1
 refine wv (h:=aB (nU t ht) wl ?_)
 refine dP (λh2=>?_) λh2=>?_
 .have hE:nZ t h=(-1,(cZ t).2):=by unfold nZ;rw [if_pos (bW h2)]
  exact wv (h:=hQ _ _ (by simp [go_sem,hE]))
 .have hE0:nZ t h=if graphF h.graph≠0 then (-1,graphF h.graph) else if h.values.length≠h.graph.nodes.length then (-1,20) else if (gP (Gk t h) 0 h.graph.nodes.length).2≠0 then gP (Gk t h) 0 h.graph.nodes.length else gP (QK t h) 0 h.graph.edges.length:=by unfold nZ;rw [if_neg (bW h2)]
  refine wv (h:=aB (lD h.graph) wl ?_)
  refine dP (λh5=>?_) λh5=>?_
  .rw [if_pos (bW h5)] at hE0
   exact wv (h:=hQ _ _ (by simp [go_sem,hE0]))
  .rw [if_neg (bW h5)] at hE0
   have hg0:graphF h.graph=0:=by simpa using h5
   have hgi:=eL hg0
   have hgl:=bR hg0
   refine fA (λh7=>?_) λh7=>?_
   .rw [if_pos aD] at hE0
    exact wv (h:=hQ _ _ (by simp [go_sem,hE0]))
   .rw [if_neg aD] at hE0
    refine wv (h:=bF (λi e H=>(e 2=.adr t.c/\e 3=.adr h.c/\e 9=dI i)/\(i<=h.graph.nodes.length)/\(gP (Gk t h) i (h.graph.nodes.length - i)=gP (Gk t h) 0 h.graph.nodes.length)) (λi=>h.graph.nodes.length - i) 0 ⟨wg,wi,(by rfl)⟩ λI0 hI0 i e H hi0=>?_)
    obtain ⟨E0,hi,hF⟩:=hi0
    have Y:=wa Y E0
    refine fA (λh10=>?_) λh10=>?_
    .have hv:i<h.values.length:=aD
     have hn0:0<=h.graph.nodes[i]:=(hgi.1 _ (aC h10)).1
     have hst:=q7 (Gk t h) h10
     rw [hF] at hst
     have hNE:Gk t h i=g9 t h.graph.nodes[i] h.values[i]:=by simp only [Gk,aA hv,aA h10,Option.getD_some]
     have Y:=wa Y (wa h10 (wa (aA hv) (wa (aA h10) @cL.eq_1)))
     refine wo (h:=aJ (NW t ht h.graph.nodes[i] hn0 h.values[i]) wl ?_)
     refine fA (λh13=>?_) λh13=>?_
     .rw [hNE,if_pos (bW h13)] at hst
      rw [hst,if_pos (bW h13)] at hE0
      exact wv (h:=hQ _ _ (by simp [go_sem,hE0]))
     .rw [hNE,if_neg (bW h13)] at hst
      exact wo (h:=wx hI0 (i+1) ⟨wg,wj,(by exact hst.symm)⟩)
    .have hN0:gP (Gk t h) 0 h.graph.nodes.length=(-1,0):=by rw [<- hF,(aD:h.graph.nodes.length - i=0)];rfl
     rw [hN0,if_neg bV] at hE0
     refine wv (h:=bF (λj e H=>(e 2=.adr t.c/\e 3=.adr h.c/\e 11=dI j)/\(j<=h.graph.edges.length)/\(gP (QK t h) j (h.graph.edges.length - j)=nZ t h)) (λj=>h.graph.edges.length - j) 0 ⟨wg,wi,(by exact hE0.symm)⟩ λI2 hI2 j e H hi2=>?_)
     obtain ⟨E2,hj,hG⟩:=hi2
     have Y:=wa Y E2
     refine fA (λh16=>?_) λh16=>?_
     .obtain ⟨x,hx⟩:=cF (h.graph.edges[j])
      have hxi:=(hgi.2 _ (aC h16)).2
      rw [<- hx] at hxi
      have hxf:x.from_.toNat<h.graph.nodes.length:=aD
      have hxt:x.to_.toNat<h.graph.nodes.length:=aD
      have hst:=q7 (QK t h) h16
      rw [hG] at hst
      have hEE:QK t h j=if (t.edges.length:Int)<=x.type then 6 else if n3 t x.type h.graph.nodes[x.from_.toNat] h.graph.nodes[x.to_.toNat]=true then 0 else 13:=by simp only [QK,gN,aA h16,Option.getD_some,<- hx,aA hxf,aA hxt]
      have Y:=wa Y (wa h16 (wa (aA h16) (wa (Eq.symm hx) (wa (aA hxf) (aA hxt)))))
      refine fA (λh19=>?_) λh19=>?_
      .rw [if_pos aD] at hEE
       rw [hEE,if_pos aD] at hst
       exact wv (h:=hQ _ _ (by simp [go_sem,hst]))
      .rw [if_neg aD] at hEE
       refine wo (h:=aJ (FI t ht x.type h.graph.nodes[x.from_.toNat] h.graph.nodes[x.to_.toNat]) wl ?_)
       refine fA (λh21=>?_) λh21=>?_
       .rw [if_neg (bW h21)] at hEE
        rw [hEE,if_pos aD] at hst
        exact wv (h:=hQ _ _ (by simp [go_sem,hst]))
       .rw [if_pos (bW h21)] at hEE
        rw [hEE,if_neg aD] at hst
        exact wo (h:=wx hI2 (j+1) ⟨wg,wj,(by exact hst.symm)⟩)
     .have hZ:nZ t h=(-1,0):=by rw [<- hG,(aD:h.graph.edges.length - j=0)];rfl
      exact wv (h:=hQ _ _ (by simp [go_sem,hZ]))
theorem xM (l:List Int):Pure Tryz.prog 338 [dLI l] (.bool (decide l.Nodup)):=by
 refine Tz.pK ⟨λ_=>false,λ_=>[]⟩ Tryz.func338 rfl (λQ hQ=>?_)
 have Y:=trivial
 refine wv (h:=bF (λi e H=>(e 0=dLI l/\e 3=dI i)/\(i<=l.length)/\((l.take i).Nodup)) (λi=>l.length - i) 0 ⟨wg,wi,(by simp)⟩ λI0 hI0 i e H hi0=>?_)
 obtain ⟨E0,hi,hD⟩:=hi0
 have Y:=wa Y E0
 refine wv (h:=?_)
 repeat first|intro _|refine ⟨eO,?_⟩
 refine wq (λh2=>?_) λh2=>?_
 .have Y:=wa Y (wa h2 (aA h2))
  refine wv (h:=bF (λk e H=>(e 0=dLI l/\e 3=dI i/\e 4=dI k)/\(k<=i)/\(∀ j,j<k->∀ hj:j<l.length,l[j]≠l[i])) (λk=>i - k) 0 ⟨wg,wi,(by intro j hj;omega)⟩ λI2 hI2 k e H hi2=>?_)
  obtain ⟨E2,hk,hne⟩:=hi2
  have Y:=wa Y E2
  refine dP (λh5=>?_) λh5=>?_
  .have hkl:k<l.length:=aD
   have Y:=wa Y (wa h5 (aA hkl))
   refine wv (h:=?_)
   repeat first|intro _|refine ⟨eO,?_⟩
   refine wq (λh7=>?_) λh7=>?_
   .have hnd:¬ l.Nodup:=λhN=>by
     have:=(l4 (h₀:=h2) (h₁:=hkl) hN).1 h7
     omega
    exact wv (h:=hQ _ _ (by simp [go_sem,hnd]))
   .exact wo (h:=wx hI2 (k+1) ⟨wg,wj,(by intro j hj hjl;rcases bZ j k with hjk|hjk;exact hne j hjk hjl;(obtain rfl:j=k:=aD;exact λhe=>h7 he.symm))⟩)
  .have hD2:(l.take (i+1)).Nodup:=by
    rw [aE h2,nA]
    refine ⟨hD,by simp,λa ha b hb=>?_⟩
    rw [bK] at hb;subst hb
    obtain ⟨j,hj,rfl⟩:=DZ.1 ha
    exact hne j aD _
   exact wo (h:=wx hI0 (i+1) ⟨wg,wj,(by exact hD2)⟩)
 .have hN:l.Nodup:=by rw [aH aD] at hD;exact hD
  exact wv (h:=hQ _ _ (by simp [go_sem,hN]))
end Go.Abs
end
