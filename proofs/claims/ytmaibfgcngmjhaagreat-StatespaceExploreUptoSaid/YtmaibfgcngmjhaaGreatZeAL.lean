/- The graph and the tests of a draft; the marks of parts. · Th -/
import Derived.Test.YtmaibfgcngmjhaaGreatZeAK
import Derived.Test.YtmaibfgcngmjhaaGreatZeAG
import Derived.Test.YtmaibfgcngmjhaaGreatZeAF
import Derived.Maps.RangeWalk
import Derived.DeepKeys4
set_option linter.unusedVariables false
set_option linter.unusedSimpArgs false
section
set_option maxRecDepth 100000
set_option maxHeartbeats 4000000
open Go Go.Proofs Tryz
namespace Go.Abs
def Z3 (a b:Int):Int:=(a.tmod b+b).tmod b
abbrev T4:=Int8 × Int8 × Int8 × Int8
def cT4 (x:T4):Xa2:=[.int .i8 x.1.toInt,.int .i8 x.2.1.toInt,.int .i8 x.2.2.1.toInt,.int .i8 x.2.2.2.toInt]
@[go_sem] theorem Uc (l:List T4):D.T (l.map cT4)=true:=dL _ (λ_=>rfl) l
def ae4 (v:Int)(x:T4):Test:=⟨1+(Z3 x.1.toInt 4).tdiv 3,⟨Z3 x.2.1.toInt (v+1) - 1,0⟩,⟨Z3 x.2.2.1.toInt (v+1) - 1,x.2.2.2.toInt.tmod 12⟩⟩
def aiU (g:Graph)(nb eb:List Bool)(k:Nat):List Bool:=(List.range k).foldl (λacc i=>if eb[i]?.getD false=true then (acc.set (g.j[i]?.getD ⟨0,0,0⟩).from_.toNat true).set (g.j[i]?.getD ⟨0,0,0⟩).L.toNat true else acc) nb
def Graph.dt (g:Graph):Prop:=∀ x∈g.j,(0<=x.from_/\x.from_<g.i.length)/\0<=x.L/\x.L<g.i.length
def ai2 (k:UInt64)(i:Nat):Bool:=(k.toNat:Int).fdiv (2 ^ (min ((i:Int).tmod 64).toNat 64)) % 2==1
def abS (k:UInt64)(off n:Nat):List Bool:=(List.range n).map λj=>ai2 k (off+j)
def ae3 (g:Graph)(k:UInt64):Part:=⟨Zq (aiU g (abS k 0 g.i.length) (abS k g.i.length g.j.length) g.j.length),Zq (abS k g.i.length g.j.length)⟩
def abT (t:Types)(ns:Xa0)(k:Int)(i:Nat):Bool:=mem (t.ao (ns[i]?.getD 0).toNat) k
def Of (t:Types)(ns:Xa0)(k:Int):Xa0:=((List.range ns.length).filter (abT t ns k)).map λ(i:Nat)=>(i:Int)
abbrev B3:=UInt8 × UInt8 × UInt8
def Y3 (x:B3):Xa2:=[.int .u8 (x.1.toNat:Int),.int .u8 (x.2.1.toNat:Int),.int .u8 (x.2.2.toNat:Int)]
@[go_sem] theorem HA (l:List B3):D.T (l.map Y3)=true:=dL _ (λ_=>rfl) l
structure Dr5 where
 i:List UInt8
 j:List B3
def Dr5.c (d:Dr5):Xa2:=[.list (d.i.map cU),.list (d.j.map Y3)]
@[go_sem] theorem Dr5.U (d:Dr5):D.N d.c=true:=by simp [Dr5.c,D.N,D.U,SX,HA]
def ae5 (n:Nat)(ds:List UInt8)(k:Nat):Xa0:=(List.range k).map λi=>((ds[i]?.getD 0).toNat:Int).tmod n
def X3 (t:Types)(k:Int):EdgeTy:=t.j[k.toNat]?.getD ⟨⟨#[]⟩,0,0,0,0,0,0⟩
def Ww (l:Xa0)(b:UInt8):Int:=l[((b.toNat:Int).tmod l.length).toNat]?.getD 0
def aiS (t:Types)(ns:Xa0)(x:B3):List Edge :=
 if 0<(Of t ns (X3 t ((x.1.toNat:Int).tmod t.j.length)).from_).length/\0<(Of t ns (X3 t ((x.1.toNat:Int).tmod t.j.length)).L).length then
  [⟨(x.1.toNat:Int).tmod t.j.length,Ww (Of t ns (X3 t ((x.1.toNat:Int).tmod t.j.length)).from_) x.2.1,Ww (Of t ns (X3 t ((x.1.toNat:Int).tmod t.j.length)).L) x.2.2⟩] else []
def aiT (t:Types)(ns:Xa0)(es:List B3)(k:Nat):List Edge:=(List.range k).flatMap λi=>aiS t ns (es[i]?.getD (0,0,0))
def Bg (t:Types)(d:Dr5):Graph:=⟨ae5 t.i.length d.i (min d.i.length 8),if t.j.length=0 then [] else aiT t (ae5 t.i.length d.i (min d.i.length 8)) d.j (min d.j.length 10)⟩
structure Dr21 where
 o:Dr5
 q:List B3
 R:List T4
def Dr21.c (d:Dr21):Xa2:=[.list (d.o.i.map cU),.list (d.o.j.map Y3),.list (d.q.map Y3),.list (d.R.map cT4)]
@[go_sem] theorem Dr21.U (d:Dr21):D.N d.c=true:=by simp [Dr21.c,D.N,D.U,SX,HA,Uc]
def c2 (x:Nat × Nat):Xa2:=[dI x.1,dI x.2]
def atN (t:Types)(ns:Xa0)(i:Nat):List Attr:=bZ t (ns[i]?.getD 0)
def ai6 (t:Types)(ns:Xa0)(i k:Nat):List (Nat × Nat):=(List.range k).map λj=>(i,j)
def ai7 (t:Types)(ns:Xa0)(k:Nat):List (Nat × Nat):=(List.range k).flatMap λi=>ai6 t ns i (atN t ns i).length
def L0 (all:List (Nat × Nat))(b:UInt8):Nat × Nat:=all[((b.toNat:Int).tmod all.length).toNat]?.getD (0,0)
def aiQ (all:List (Nat × Nat))(st:List Slot × Int)(x:B3):List Slot × Int :=
 if st.2<=(x.2.1.toNat:Int).tmod 5 - 1 then
  if 3<st.2+1 then (st.1++[⟨(L0 all x.1).1,(L0 all x.1).2,⟨0,0⟩⟩],3) else (st.1++[⟨(L0 all x.1).1,(L0 all x.1).2,⟨st.2,0⟩⟩],st.2+1)
 else (st.1++[⟨(L0 all x.1).1,(L0 all x.1).2,⟨(x.2.1.toNat:Int).tmod 5 - 1,(x.2.2.toNat:Int).tmod 5 - 2⟩⟩],st.2)
def aiR (all:List (Nat × Nat))(ds:List B3)(k:Nat):List Slot × Int:=(List.range k).foldl (λst i=>aiQ all st (ds[i]?.getD (0,0,0))) ([],0)
def aiP (v:Int)(ts:List T4)(k:Nat):List Test:=(List.range k).map λi=>ae4 v (ts[i]?.getD (0,0,0,0))
def ZJ (t:Types)(d:Dr21):List (Nat × Nat):=ai7 t (Bg t d.o).i (Bg t d.o).i.length
def M5 (t:Types)(d:Dr21):List Slot × Int:=if (ZJ t d).length=0 then ([],0) else aiR (ZJ t d) d.q (min d.q.length 4)
def WM (t:Types)(d:Dr21):Pattern:=⟨Bg t d.o,(M5 t d).1,(M5 t d).2,aiP (M5 t d).2 d.R (min d.R.length 3)⟩
abbrev B4:=UInt8 × UInt8 × UInt8 × UInt8
structure Dr24 where
 left:Dr21
 G:UInt64
 i:List UInt8
 j:List B3
 q:List B3
 plain:Bool
 inj:Bool
 b5:B4
 order:List UInt8
def Dr24.c (d:Dr24):Xa2:=[.list (d.left.o.i.map cU),.list (d.left.o.j.map Y3),.list (d.left.q.map Y3),.list (d.left.R.map cT4),.int .u64 (d.G.toNat:Int),.list (d.i.map cU),.list (d.j.map Y3),.list (d.q.map Y3),.bool d.plain,.bool d.inj,
 .int .u8 (d.b5.1.toNat:Int),.int .u8 (d.b5.2.1.toNat:Int),.int .u8 (d.b5.2.2.1.toNat:Int),.int .u8 (d.b5.2.2.2.toNat:Int),.list (d.order.map cU)]
@[go_sem] theorem Dr24.U (d:Dr24):D.N d.c=true:=by simp [Dr24.c,D.N,D.U,SX,HA,Uc]
@[go_sem] theorem agB (l:List Dr24):D.T (l.map Dr24.c)=true:=dL _ Dr24.U l
def YC (t:Types)(n:Nat)(x:B3):Edge:=⟨(x.1.toNat:Int).tmod t.j.length,(x.2.1.toNat:Int).tmod n,(x.2.2.toNat:Int).tmod n⟩
def nN (ns:Xa0)(a:Int):Int:=ns[a.toNat]?.getD 0
def grN (t:Types)(base:Xa0)(ds:List UInt8)(k:Nat):Xa0:=base++(List.range k).map λi=>Ww (T6 t) (ds[i]?.getD 0)
def aiY (t:Types)(ns:Xa0)(x:B3):List Edge:=if qF t (YC t ns.length x).type (nN ns (YC t ns.length x).from_) (nN ns (YC t ns.length x).L)=true then [YC t ns.length x] else []
def grE (t:Types)(ns:Xa0)(base:List Edge)(es:List B3)(k:Nat):List Edge:=base++(List.range k).flatMap λi=>aiY t ns (es[i]?.getD (0,0,0))
def TT (t:Types)(g:Graph)(d:Dr24):Graph :=
 ⟨grN t g.i d.i (if (T6 t).length=0 then 0 else min d.i.length 2),
  grE t (grN t g.i d.i (if (T6 t).length=0 then 0 else min d.i.length 2)) g.j d.j (if (grN t g.i d.i (if (T6 t).length=0 then 0 else min d.i.length 2)).length=0\/t.j.length=0 then 0 else min d.j.length 2)⟩
theorem f8 (l:Xa0):eL (l.map cI)=l.map cI:=mZ λc hc=>by
 rw [aS] at hc;obtain ⟨x,_,rfl⟩:=hc;rfl
def NJ (t:Types)(d:Dr24):Part:=ae3 (WM t d.left).o d.G
def aaK (t:Types)(d:Dr24):Graph:=dF (WM t d.left).o (NJ t d)
def W9 (t:Types)(d:Dr24):Graph:=TT t (aaK t d) d
def RH (t:Types)(d:Dr24):Graph:=ah4 (W9 t d) (Te (W9 t d).i.length d.order) (Te (W9 t d).j.length d.order)
structure Host where
 o:Graph
 values:Yb
def Host.c (h:Host):Xa2:=[dLI h.o.i,.list (h.o.j.map Edge.c),.list (h.values.map cL)]
def Host.d (h:Host):D:=.agg h.c
@[go_sem] theorem abP (l:Yb):D.T (l.map cL)=true:=dL _ (λa=>by simp [cL,D.N,pA]) l
@[go_sem] theorem Host.U (h:Host):h.d.U=true:=by simp [Host.d,Host.c,D.U,D.N,pA,abP,yY]
structure Dr15 where
 i:List B2
 j:List B3
def Dr15.c (d:Dr15):Xa2:=[.list (d.i.map cP),.list (d.j.map Y3)]
@[go_sem] theorem Dr15.U (d:Dr15):D.N d.c=true:=by simp [Dr15.c,D.N,D.U,abN,HA]
attribute [go_sem] Host.d Host.c
def L2 (l:Xa0):Bool:=decide (12<(l.length:Int))
def yU (h:Host):Bool:=fewG h.o&&decide ((h.values.length:Int)<=45)&&!(h.values.any L2)
theorem Fg (h:Host):Pua 16 [h.d] (.bool (yU h)):=by
 refine Tz.p0 func16 rfl λQ j _=>?_;have Y:=wa @Host.d.eq_1 @Host.c.eq_1;refine wo (h:=aB (BN h.o) wl ?_);refine dZ (λl=>?_) λl=>?_
 .have b:yU h=false:=by cases f:fewG h.o<;>simp [f] at l<;>simp [yU,f]<;>omega
  exact wv (h:=j _ _ (eD b))
 .have hG:fewG h.o=true/\(h.values.length:Int)<=45:=by cases f:fewG h.o<;>simp [f] at l<;>exact ⟨rfl,bL⟩
  refine wv (h:=bA (λi e H=>(e 1=.adr h.c/\e 3=dI i)/\(i<=h.values.length)/\((h.values.take i).any L2=false)) (λi=>h.values.length - i) 0 ⟨wg,wi,(by rfl)⟩ λu k i e H g=>?_);obtain ⟨p,s,m⟩:=g;have Y:=wa Y p;refine dZ (λa=>?_) λa=>?_
  .have Y:=xa2 Y a (aA a) @cL.eq_1;refine dZ (λo=>?_) λo=>?_
   .refine wv (h:=?_);have b:yU h=false:=by
     have:h.values.any L2=true:=aZ.2 ⟨_,aC a,by unfold L2;simp;omega⟩;unfold yU;rw [this];simp
    exact j _ _ (eD b)
   .exact wo (h:=wx k (i+1) ⟨wg,wj,(by rw [dS _ _ _ a,m];unfold L2;simp;omega)⟩)
  .have b:yU h=true:=by have:=oW m a;unfold yU;rw [hG.1,this,decide_eq_true hG.2];rfl
   exact wv (h:=j _ _ (eD b))
def eZ (t:Types)(g h:Graph):Int:=if (cW t).2≠0 then (cW t).2 else if graphF g≠0 then graphF g else if graphF h≠0 then graphF h else if (!nL t g||!nL t h)=true then 13 else 0
theorem wB (t:Types)(j:t.ok)(g h:Graph):Pua 232 [t.d,g.d,h.d] (dI (eZ t g h)):=by
 refine Tz.p0 func232 rfl λQ c Y=>?_;refine wv (h:=aB (qC t j) wl ?_);refine dD (λb=>?_) λb=>?_
 .exact wv (h:=c _ _ (by simp [go_sem,eZ,b]))
 .refine wv (h:=aB (mJ g) wl ?_);refine dD (λe=>?_) λe=>?_
  .exact wv (h:=c _ _ (by simp [go_sem,eZ,b,e]))
  .refine wv (h:=aB (mJ h) wl ?_);refine dD (λf=>?_) λf=>?_
   .exact wv (h:=c _ _ (by simp [go_sem,eZ,b,e,f]))
   .refine wo (h:=aB (wC t g) wl ?_);refine wo (h:=aN (λi=>wC t h) (λi=>wl) ?_);refine dZ (λa=>?_) λa=>?_
    .exact wv (h:=c _ _ (by simp [go_sem,eZ,b,e,f];intro i;rcases a with h|h<;>simp_all))
    .exact wv (h:=c _ _ (by simp [go_sem,eZ,b,e,f];simpa using a))
def light17 (t:Types)(g h:Graph):Bool:=u0 t&&fewG g&&fewG h&&(decide (eZ t g h≠0)||(decide ((g.i.length:Int)+g.j.length<=6)&&decide ((h.i.length:Int)<=8)&&decide ((h.j.length:Int)<=12)))
theorem Pq (t:Types)(b:t.ok)(g h:Graph):Pua 165 [t.d,g.d,h.d] (.bool (light17 t g h)):=by
 refine Tz.p0 func165 rfl λQ e _=>?_;have f:u0 t=true->fewG g=true->fewG h=true->eZ t g h=0->Q8 .i64 ((g.i.length:Int)+g.j.length):=λ_ a _ _=>by simp [fewG] at a;exact dE bL bL
 have Y:=trivial;refine wo (h:=aB (Fh t (λn c=>dA (b.i n c).bi bL)) wl ?_);refine wo (h:=aN (λa=>BN g) (λa=>wl) ?_);refine wo (h:=aN (λa=>BN h) (λa=>wl) ?_);refine wo (h:=aN (λa=>wB t b g h) (λa=>wl) ?_);have Y:=wa Y @light17.eq_1;exact wo (h:=e _ _ wy)
def light21 (t:Types)(p:Pattern)(h:Host):Bool:=fewP p&&yU h&&light17 t p.o h.o
theorem Pm (t:Types)(b:t.ok)(p:Pattern)(h:Host):Pua 92 [t.d,p.d,h.d] (.bool (light21 t p h)):=by
 refine Tz.p0 func92 rfl λQ e _=>?_;have Y:=wa @Host.c.eq_1 @Pattern.c.eq_1;refine wo (h:=aB (yD p) wl ?_);refine wo (h:=aN (λa=>Fg h) (λa=>wl) ?_);refine wo (h:=aN (λa=>Pq t b p.o h.o) (λa=>wl) ?_);have Y:=wa Y @light21.eq_1;exact wo (h:=e _ _ wy)
end Go.Abs
end
section
set_option maxHeartbeats 1000000
namespace Go.Abs
open Go.Maps (Keyed)
def EJ (u:Int):Prop:=-9223372036854775808<=u/\u<=9223372036854775807
theorem NN {u:Int}(h:EJ u):(Lit.int .i64 u).wf=true:=by
 obtain ⟨b,a⟩:=h;simp [Lit.wf,IntKind.min,IntKind.max,IntKind.bits,IntKind.signed];omega
theorem V4 {u:Int}(h:(Lit.int .i64 u).wf=true):EJ u:=by
 simp [Lit.wf,IntKind.min,IntKind.max,IntKind.bits,IntKind.signed] at h;exact ⟨bL,bL⟩
def kv (u v:Int):Value:=.agg #[.int .i64 u,.int .i64 v]
def kl (u v:Int):Lit:=.string (keyBytes [.int .i64 u,.int .i64 v])
structure MapT (P:Program) (T K E:TypeId):Prop where
 t:P.underlying T=some (.map K E)
 e:P.underlying E=some (.int .i64)
 cq:Keyed P K
 cr:∀ u v,EJ u->EJ v->keyOf P K (kv u v)=some (kl u v)
 d5:∀ key l,keyOf P K key=some l->∃ u v,EJ u/\EJ v/\key=kv u v
 z:∀ w,(zeroValue E).run P w=.ok (.int .i64 0) w
theorem DU {P:Program}{K E:TypeId}{e c:Field}(h:P.underlying K=some (.struct #[e,c]))(k:e.type=E/\e.offset=0/\(e.name != "_")=true)(j:c.type=E/\c.offset=1/\(c.name != "_")=true)
  (i:P.cellsOf K=2) (f:P.cellsOf E=1) (d:Nat) (a b:Value):P.keyLits (d+1) K [a,b]=(P.keyLits d E [a]).bind λx=>(P.keyLits d E [b]).map λy=>x++y:=by
 obtain ⟨q,p,o⟩:=k;obtain ⟨n,m,l⟩:=j;rw [Program.keyLits.eq_def];simp only [h];rw [if_pos (by simp [i,o,l])];simp only [List.mapM_cons,List.mapM_nil,q,p,n,m,f,List.drop_zero,kV,List.take_zero,List.drop_succ_cons,bind,pure];cases P.keyLits d E [a]<;>simp
 cases P.keyLits d E [b]<;>simp
theorem wO {P:Program}{E:TypeId}(he:P.underlying E=some (.int .i64))(d:Nat)(v:Value)(l:List Lit):P.keyLits (d+1) E [v]=some l↔∃ u,v=.int .i64 u/\(Lit.int .i64 u).wf=true/\l=[.int .i64 u]:=by
 rw [Program.keyLits.eq_def];grind
theorem YD {P:Program}{T K E:TypeId}{n m:Field}(G:P.underlying T=some (.map K E))(g:P.underlying E=some (.int .i64))(c:P.underlying K=some (.struct #[n,m]))(D:n.type=E/\n.offset=0/\(n.name != "_")=true)(C:m.type=E/\m.offset=1/\(m.name != "_")=true)
  (k:P.cellsOf K=2) (i:P.cellsOf E=1) (s:P.keyType K=true) (H:∃ d,P.types.size+1=d+1+1) (e:Keyed P K) (F:∀ w,(zeroValue E).run P w=.ok (.int .i64 0) w):MapT P T K E:=by
 obtain ⟨d,A⟩:=H;refine ⟨G,g,e,λu v r q=>?_,λp l h=>?_,F⟩
 .unfold keyOf;simp only [c];rw [if_pos (by simp [s,Value.formed,c,kv,k]),A];have J:=(wO g d (.int .i64 u) _).2 ⟨u,rfl,NN r,rfl⟩;have I:=(wO g d (.int .i64 v) _).2 ⟨v,rfl,NN q,rfl⟩;show ((P.keyLits (d+1+1) K [.int .i64 u,.int .i64 v]).map λo=>Lit.string (keyBytes o))=_;rw [DU c D C k i,J,I];rfl
 .unfold keyOf at h;simp only [c] at h;split at h
  .rename_i hf;rw [aR] at hf;have f:=hf.2;cases p<;>simp [Value.formed,c,k] at f
   rename_i z;obtain ⟨z⟩:=z;match z,f with
   | [a,b],_ =>
    rw [A] at h;have j:((P.keyLits (d+1+1) K [a,b]).map λo=>Lit.string (keyBytes o))=some l:=h;rw [DU c D C k i] at j;cases t:P.keyLits (d+1) E [a] with
    | none=>rw [t] at j;cases j
    | some x =>
     cases B:P.keyLits (d+1) E [b] with
     | none=>rw [t,B] at j;cases j
     | some y =>
      obtain ⟨u,rfl,r,_⟩:=(wO g d a x).1 t;obtain ⟨v,rfl,q,_⟩:=(wO g d b y).1 B;exact ⟨u,v,V4 r,V4 q,rfl⟩
  .cases h
section
variable {P:Program} {T K E:TypeId}
theorem MapT.inj (h:MapT P T K E){u v d c:Int}(a:EJ u)(b:EJ v)(g:EJ d)(f:EJ c)(e:kl u v=kl d c):u=d/\v=c:=by
 have:=h.cq.inj (h.cr u v a b) (e ▸ h.cr d c g f);simpa [kv] using this
abbrev FM:=Int->Int->Option Int
def M6 (F:FM)(u v c:Int):FM:=λu' v'=>if u'=u/\v'=v then some c else F u' v'
def ZL (D:DataW Unit)(F:FM):Prop:=∀ u v,EJ u->EJ v->Maps.has D (kl u v)=(F u v).isSome/\∀ c,F u v=some c->∀ z,D.atKey (kl u v) z=.lit (.int .i64 c)
inductive MS where
 | no
 | mp (b n:Nat) (F:FM)
 | rg (b r:Nat) (F:FM) (left:Int->Int->Bool) (xK:Nat) (cur:Option (Int × Int × Int))
def Sz (σ:Nat->Option Ow)(b:Nat):Prop:=∀ i o,σ i=some o->o.block≠some b
def Gt (r:Nat):Value:=.pointer (some ⟨r,0,none⟩)
def MpOk (P:Program)(K E:TypeId)(σ:Nat->Option Ow)(base:Nat)(w:World):MS->Prop
 | .no=>True
 | .mp b n F=>base<=b/\Sz σ b/\∃ D:DataW Unit,w.ownsMap P K (plainElem P E) b n D/\ZL D F
 | .rg b r F left xK cur=>base<=b/\base<=r/\Sz σ b/\Sz σ r/\∃ (n:Nat) (D:DataW Unit) (lf:Lit->Bool),w.ranges P K (plainElem P E) b r n D lf xK/\ZL D F/\(∀ u v,EJ u->EJ v->lf (kl u v)=left u v) /\
   ∀ u v c,cur=some (u,v,c)->(Instr.entry (Gt r)).run P w=.ok (.tuple #[kv u v,.int .i64 c]) w
theorem Jt {σ σ':Nat->Option Ow}{w w':World}(hs:Stp σ w σ' w'){b:Nat}(hb:b<w.heap.size)(h:Sz σ b):Sz σ' b:=λi o' ho hb'=>by
 rcases hs.new i o' b ho hb' with h1|⟨j,o,h1,h2⟩
 .omega
 .exact h j o h1 h2
theorem SB {w w':World}{r b s c a:Nat}{d:Array Nat}{es:Array MapEntry}{v:Value}(j:w.heap[r]?=some (.mapIter (some b) s d c))(m:w.heap[b]?=some (.map es a))
  (f:w'.heap[r]?=some (.mapIter (some b) s d c)) (g:w'.heap[b]?=some (.map es a)) (h:(Instr.entry (Gt r)).run P w=.ok v w):(Instr.entry (Gt r)).run P w'=.ok v w':=by
 simp only [Gt,Instr.entry,getObj,Sem.run_bind,Sem.run,j,f,Result.andThen] at h ⊢;cases i:d.back? with
 | none=>simp [i,stuck] at h
 | some st =>
  simp only [i,Sem.run_bind,Sem.run,m,g,Result.andThen] at h ⊢;by_cases l:a=c
  .subst l;cases k:es.find? (λx=>x.born==st) with
   | none=>simp [k,unsupported] at h
   | some x =>
    simp_all
  simp_all
theorem MpOk.b1 {σ σ':Nat->Option Ow}{w w':World}{base:Nat}{g:MS}(h:MpOk P K E σ base w g)(f:Stp σ w σ' w'):MpOk P K E σ' base w' g:=by
 cases g with
 | no=>trivial
 | mp b n F =>
  obtain ⟨x,q,D,o,p⟩:=h;have j:=o.lt;have G:=f.bc b j q;refine ⟨x,Jt f j q,D,?_,p⟩;obtain ⟨y,a,m,d⟩:=o;exact ⟨y,a,G.trans m,d⟩
 | rg b r F left xK cur =>
  obtain ⟨x,q,o,p,n,D,B,t,M,L,J⟩:=h;have l:=t.owns.lt;have k:=t.lt;have A:=f.bc b l o;have z:=f.bc r k p;obtain ⟨y,a,e,i,N,m,O,C,I,s,d⟩:=t;exact ⟨x,q,Jt f l o,Jt f k p,n,D,B,⟨y,a,e,i,N,A.trans m,O,C,I,z.trans s,d⟩,M,L,λu v c H=>SB s m (z.trans s) (A.trans m) (J u v c H)⟩
theorem MpOk.dy {σ:Nat->Option Ow}{w:World}{base a:Nat}{g:MS}(h:MpOk P K E σ base w g)(c:a<=base):MpOk P K E σ a w g:=by
 cases g with
 | no=>trivial
 | mp b n F=>exact ⟨dA c h.1,h.2⟩
 | rg b r F left xK cur=>exact ⟨dA c h.1,dA c h.2.1,h.2.2⟩
theorem Xv {w:World}{b:Nat}{es:Array MapEntry}{clock:Nat}(hb:w.heap[b]?=some (.map es clock)):∀ ad:Addr,ad.block=b->w.cell? ad=none:=λad e=>by simp [World.cell?,e,hb]
theorem VH {w:World}{r:Nat}{m:Option Nat}{s c:Nat}{seen:Array Nat}(hr:w.heap[r]?=some (.mapIter m s seen c)):∀ ad:Addr,ad.block=r->w.cell? ad=none:=λad e=>by simp [World.cell?,e,hr]
theorem Rel.au {d:Nat->Prop}{H:AHeap}{σ:Nat->Option Ow}{w w':World}{row:Option Nat}(h:Rel d H σ w)(j:w.grownBy w' row)(q:∀ b,row=some b->Sz σ b/\∀ ad:Addr,ad.block=b->w.cell? ad=none) :
  Rel d H σ w'/\Keeps (dK d H σ) σ H.J w (dK d H σ) σ H.J w':=by
 have r:Keeps (dK d H σ) σ H.J w (dK d H σ) σ H.J w':=⟨λad u v g=>⟨v,by
  have n:some ad.block≠row:=λe=>by rw [(q _ e.symm).2 ad rfl] at g;cases g
  exact (World.cell?_of_block (j.block ad.block (World.block_lt_of_cell? w ad g) n)).trans g⟩,λm t _ h=>⟨t,h,.inl rfl⟩,λ_ h=>h⟩
 refine ⟨⟨h.bf,h.bb,λm k p=>?_,h.inj,λi o c f a=>⟨cH (h.lt i o c f a).1 j.size,(h.lt i o c f a).2⟩,λc a=>cH (h.m0 c a) j.size⟩,r⟩;obtain ⟨o,f,l⟩:=h.ah m k p;obtain ⟨s,A,z,y⟩:=l.row;refine ⟨o,f,l.af,l.ty,l.sz,l.K,s,A.kept j ?_,z,y.G r⟩;cases x:o.val.ownBlock with
 | none=>exact .inl rfl
 | some c=>exact .inr λe=>(q c e.symm).1 m o f x
theorem Stp.au {σ0 σ:Nat->Option Ow}{w0 w w':World}{row:Option Nat}(h:Stp σ0 w0 σ w)(hg:w.grownBy w' row)(hr:∀ b,row=some b->w0.heap.size<=b):Stp σ0 w0 σ w' :=
 ⟨hg.os.trans h.os,hg.tape.trans h.tape,hg.output.trans h.output,dA h.size hg.size,λb hb hn=>(hg.block b (cH hb h.size) (λe=>by have:=hr b e.symm;omega)).trans (h.bc b hb hn),h.new⟩
structure SG (P:Program) (K E:TypeId) (n:Nat) (M0:Nat->Prop) (H0:AHeap) (σ0:Nat->Option Ow) (w0:World) (g:MS) (e:dO) (H:AHeap) (σ:Nat->Option Ow) (a:Act) (w:World):Prop where
 st:St n M0 H σ w e a
 b1:Stp σ0 w0 σ w
 G:Keeps (dK M0 H0 σ0) σ0 H0.J w0 (dK M0 H σ) σ H.J w
 map:MpOk P K E σ w0.heap.size w g
section
variable {n:Nat} {M0:Nat→Prop} {H0 H:AHeap} {σ0 σ:Nat→Option Ow} {w0 w w':World} {g g':MS} {e:dO} {a:Act}
theorem SG.au {row:Option Nat}(h:SG P K E n M0 H0 σ0 w0 g e H σ a w)(j:w.grownBy w' row)(i:∀ b,row=some b->w0.heap.size<=b/\Sz σ b/\∀ ad:Addr,ad.block=b->w.cell? ad=none)
  (o:MpOk P K E σ w0.heap.size w' g') {c:Option Tmp} (m:sZ n c=true) {v:Value} {d:D} (l:RepV (dK M0 H σ) σ H.J w' v d):SG P K E n M0 H0 σ0 w0 g' (nB e c d) H σ (a.put c v) w':=by
 obtain ⟨p,k⟩:=h.st.a7.au j λb f=>(i b f).2;exact ⟨h.st.put p k m l,h.b1.au j λb f=>(i b f).1,h.G.trans k,o⟩
def Q2 (P:Program)(K E:TypeId)(n:Nat)(M0:Nat->Prop)(H0:AHeap)(σ0:Nat->Option Ow)(w0:World)(X:MS->dO->AHeap->Prop)(a:Act)(w:World):Prop:=∃ g e H σ,X g e H/\SG P K E n M0 H0 σ0 w0 g e H σ a w
end
abbrev PG:=Exit->MS->dO->AHeap->Prop
def WpG (P:Program)(K E:TypeId)(n:Nat)(x:Code)(Q:PG)(g:MS)(e:dO)(H:AHeap):Prop :=
 ∀ M0 H0 σ0 w0 σ a w,SG P K E n M0 H0 σ0 w0 g e H σ a w->x.wp P (λex a w=>Q2 P K E n M0 H0 σ0 w0 (Q ex) a w) a w
def Ll (R:MS->dO->AHeap->Prop)(Q:PG):PG
 | .normal,g,e,H=>R g e H
 | ex,g,e,H=>Q ex g e H
def N8 (id:Nat)(Q:PG):PG
 | .exit id',g,e,H=>if id'=id then Q .normal g e H else Q (.exit id') g e H
 | ex,g,e,H=>Q ex g e H
variable {n:Nat} {c:Cfg} {Q:PG} {g:MS} {e:dO} {H:AHeap}
theorem iH {x:Code}(hm:P.follows .mixedOrders=true)(hok:q9 c n x=true)(h:pM P c x (λex e H=>Q ex g e H) e H):WpG P K E n x Q g e H :=
 λM0 H0 σ0 w0 σ a w hS=>jM (qH hm x _ e H h hok σ w a hS.st) λex a' w' ⟨e',H',σ',hq,hS',hst',hk'⟩=>⟨g,e',H',σ',hq,hS',hS.b1.trans hst',hS.G.trans hk',hS.map.b1 hst'⟩
theorem WpG.seq {x y:Code}(h:WpG P K E n x (Ll (WpG P K E n y Q) Q) g e H):WpG P K E n (.seq x y) Q g e H:=λM0 H0 σ0 w0 σ a w hS=>by
 refine wp_seq (jM (h M0 H0 σ0 w0 σ a w hS) λex a' w' hc=>?_);cases ex<;>first|exact hc|skip
 obtain ⟨g',e',H',σ',hq,hS'⟩:=hc;exact hq M0 H0 σ0 w0 σ' a' w' hS'
theorem dX {x y:Code}(h:∀ R:MS->dO->AHeap->Prop,(∀ g e H,WpG P K E n y Q g e H->R g e H)->WpG P K E n x (Ll R Q) g e H):WpG P K E n (.seq x y) Q g e H:=.seq (h _ λ_ _ _ h=>h)
@[go_sem] theorem X8 {R:MS->dO->AHeap->Prop}{g:MS}{e:dO}{H:AHeap}:Ll R Q .normal g e H=R g e H:=rfl
@[go_sem] theorem ab1 {R:MS->dO->AHeap->Prop}{g:MS}{e:dO}{H:AHeap}:Ll R Q .ret g e H=Q .ret g e H:=rfl
@[go_sem] theorem ZR {R:MS->dO->AHeap->Prop}{g:MS}{e:dO}{H:AHeap}{i:Nat}:Ll R Q (.exit i) g e H=Q (.exit i) g e H:=rfl
@[go_sem] theorem abR {i:Nat}{g:MS}{e:dO}{H:AHeap}:N8 i Q .ret g e H=Q .ret g e H:=rfl
@[go_sem] theorem XX {i:Nat}{g:MS}{e:dO}{H:AHeap}:N8 i Q .normal g e H=Q .normal g e H:=rfl
@[go_sem] theorem ZF {i j:Nat}{g:MS}{e:dO}{H:AHeap}:N8 i Q (.exit j) g e H=if j=i then Q .normal g e H else Q (.exit j) g e H:=rfl
theorem WpG.cond {x:Operand}{y z:Code}{t:Bool}(hx:fI e x=.bool t)(h1:t=true->WpG P K E n y Q g e H)(h2:t=false->WpG P K E n z Q g e H):WpG P K E n (.cond x y z) Q g e H:=λM0 H0 σ0 w0 σ a w hS=>by
 have hv:=hS.st.bd.ev x;rw [hx] at hv;have hc:a.eval x=.bool t:=by generalize a.eval x=v at hv;cases hv;rfl
 exact wp_cond_split hc (λht=>h1 ht M0 H0 σ0 w0 σ a w hS) λht=>h2 ht M0 H0 σ0 w0 σ a w hS
theorem WpG.block {id:Nat}{b:Code}(h:WpG P K E n b (N8 id Q) g e H):WpG P K E n (.block id b) Q g e H:=λM0 H0 σ0 w0 σ a w hS=>by
 refine wp_block (jM (h M0 H0 σ0 w0 σ a w hS) λex a' w' hc=>?_);cases ex<;>first|exact hc|skip
 rename_i id';obtain ⟨g',e',H',σ',hq,hS'⟩:=hc;by_cases hid:id'=id
 .subst hid;show (if id'=id' then Q2 P K E n M0 H0 σ0 w0 (Q .normal) a' w' else _);rw [if_pos rfl];refine ⟨g',e',H',σ',?_,hS'⟩;have h':(if id'=id' then Q .normal g' e' H' else Q (.exit id') g' e' H'):=hq;rw [if_pos rfl] at h';exact h'
 .show (if id'=id then Q2 P K E n M0 H0 σ0 w0 (Q .normal) a' w' else Q2 P K E n M0 H0 σ0 w0 (Q (.exit id')) a' w');rw [if_neg hid];refine ⟨g',e',H',σ',?_,hS'⟩;have h':(if id'=id then Q .normal g' e' H' else Q (.exit id') g' e' H'):=hq;rw [if_neg hid] at h';exact h'
theorem WpG.loop {b:Code}{ι:Type}(I:ι->MS->dO->AHeap->Prop)(m:ι->Nat)(x0:ι)(h0:I x0 g e H)(hI:∀ x g e H,I x g e H->WpG P K E n b (Ll (λg' e' H'=>∃ x',m x'<m x/\I x' g' e' H') Q) g e H):WpG P K E n (.loop b) Q g e H :=
 λM0 H0 σ0 w0 σ a w hS=>by
 let J:Nat->Act->World->Prop:=λk a' w'=>∃ g e H σ x,m x=k/\I x g e H/\SG P K E n M0 H0 σ0 w0 g e H σ a' w'
 have hJ0:J (m x0) a w:=⟨g,e,H,σ,x0,rfl,h0,hS⟩
 classical
 let μ:Act->World->Nat:=λa' w'=>if hx:∃ k,J k a' w' then Classical.choose (gW hx) else 0
 refine wp_loop (λa' w'=>∃ k,J k a' w') μ ⟨_,hJ0⟩ λa' w' hx=>?_;have hμ:μ a' w'=Classical.choose (gW hx):=by simp only [μ,dif_pos hx]
 obtain ⟨g1,e1,H1,σ1,x1,hx1,hi,hS1⟩:=(AM (gW hx)).1;refine jM (hI x1 g1 e1 H1 hi M0 H0 σ0 w0 σ1 a' w' hS1) λex a'' w'' hc=>?_;cases ex<;>first|exact hc|skip
 obtain ⟨g2,e2,H2,σ2,⟨x2,hlt,hi2⟩,hS2⟩:=hc;have hx2:∃ k,J k a'' w'':=⟨m x2,g2,e2,H2,σ2,x2,rfl,hi2,hS2⟩;refine ⟨hx2,?_⟩;have:μ a'' w''=Classical.choose (gW hx2):=by simp only [μ,dif_pos hx2]
 rw [this,hμ];refine Nat.lt_of_le_of_lt ?_ (hx1 ▸ hlt);rcases bD (m x2) (Classical.choose (gW hx2)) with hlt'|hge
 .exact absurd ⟨g2,e2,H2,σ2,x2,rfl,hi2,hS2⟩ ((AM (gW hx2)).2 _ hlt')
 .exact hge
theorem WpG.ret (h:Q .ret g e H):WpG P K E n .ret Q g e H:=λM0 H0 σ0 w0 σ a w hS=>wp_ret ⟨g,e,H,σ,h,hS⟩
theorem WpG.skip (h:Q .normal g e H):WpG P K E n .skip Q g e H:=λM0 H0 σ0 w0 σ a w hS=>wp_skip ⟨g,e,H,σ,h,hS⟩
theorem WpG.exit {id:Nat}(h:Q (.exit id) g e H):WpG P K E n (.exit id) Q g e H:=λM0 H0 σ0 w0 σ a w hS=>wp_exit ⟨g,e,H,σ,h,hS⟩
/-! ### operations -/
def OpsG (P:Program)(K E:TypeId)(n:Nat)(ops:Array Oper)(l:List Oper)(X:MS->dO->AHeap->Prop)(g:MS)(e:dO)(H:AHeap):Prop :=
 ∀ M0 H0 σ0 w0 σ a w (Q:Exit->Act->World->Prop),SG P K E n M0 H0 σ0 w0 g e H σ a w->(∀ a' w',Q2 P K E n M0 H0 σ0 w0 X a' w'->Q .normal a' w')->wpList P ops Q l a w
theorem WpG.region {id:Nat}{ops:Array Oper}(h:OpsG P K E n ops ops.toList (Q .normal) g e H):WpG P K E n (.region id ops false) Q g e H:=λM0 H0 σ0 w0 σ a w hS=>wp_region_list (h M0 H0 σ0 w0 σ a w _ hS λ_ _ hc=>hc)
variable {ops:Array Oper} {l:List Oper} {o:Oper} {X:MS→dO→AHeap→Prop}
theorem OpsG.nil (h:X g e H):OpsG P K E n ops [] X g e H:=λM0 H0 σ0 w0 σ a w Q hS hQ=>wpList_nil (hQ a w ⟨g,e,H,σ,h,hS⟩)
theorem OpsG.db {md:Nat->Bool}:∀ (l1:List Oper) {l2:List Oper} {e:dO} {H:AHeap},(∀ o∈l1,sZ n o.dst=true)->oM P md ops l1 e H (λe' H'=>OpsG P K E n ops l2 X g e' H')->OpsG P K E n ops (l1++l2) X g e H
 | [],l2,e,H,hd,h=>h
 | o :: l1,l2,e,H,hd,h=>λM0 H0 σ0 w0 σ a w Q hS hQ=>by
  unfold oM at h;have hs:=BF (Q:=Q) h hS.st (λhn=>j4 _ (hS.st.a7.bb _ hn)) (hd o bS);have:=StepC.mono (K':=wpList P ops Q (l1++l2)) (λa' w' ⟨v,H',F,σ',hk,hS',hst,hkp⟩ =>
   OpsG.db l1 (λo' ho'=>hd o' (fg ho')) hk M0 H0 σ0 w0 σ' a' w' Q ⟨hS',hS.b1.trans hst,hS.G.trans hkp,hS.map.b1 hst⟩ hQ) hs
  unfold StepC at this;show wpList P ops Q (o :: (l1++l2)) a w;unfold wpList;exact this
theorem OpsG.take {md:Nat->Bool}(k:Nat)(b:((l.take k).all λo=>sZ n o.dst)=true)(h:∀ R:dO->AHeap->Prop,(∀ e' H',OpsG P K E n ops (l.drop k) X g e' H'->R e' H')->oM P md ops (l.take k) e H R):OpsG P K E n ops l X g e H:=by
 have:=OpsG.db (g:=g) (X:=X) (P:=P) (K:=K) (E:=E) (n:=n) (ops:=ops) (md:=md) (l.take k) (l2:=l.drop k) (λo a=>(cF.1 b) o a) (h _ λ_ _ h=>h);simp_all
theorem OpsG.all {md:Nat->Bool}(b:(l.all λo=>sZ n o.dst)=true)(h:∀ R:dO->AHeap->Prop,(∀ e' H',X g e' H'->R e' H')->oM P md ops l e H R):OpsG P K E n ops l X g e H:=by
 have:=OpsG.db (g:=g) (X:=X) (P:=P) (K:=K) (E:=E) (n:=n) (ops:=ops) (md:=md) l (l2:=[]) (λo a=>(cF.1 b) o a) (h _ λ_ _ h=>OpsG.nil h);grind
theorem JB {d:Nat->Prop}{σ:Nat->Option Ow}{w:World}{a:Act}(c:St n d H σ w e a){m:Operand}{v:Value}(b:fI e m=.cst v):a.eval m=v:=by
 have h:=c.bd.ev m;rw [b] at h;generalize a.eval m=x at h;cases h;rfl
theorem TY {k:Nat->Prop}{σ:Nat->Option Ow}{w:World}{a:Act}(g:St n k H σ w e a){x:Operand}{u v:Int}(d:fI e x=.agg [.int .i64 u,.int .i64 v]):a.eval x=kv u v:=by
 have h:=g.bd.ev x;rw [d] at h;generalize a.eval x=y at h;cases h
 rename_i c f l b;match c,f with
 | [p,q],_ =>
  have j:=b 0 p _ rfl rfl;have i:=b 1 q _ rfl rfl;cases j;cases i;rfl
theorem abD {d:Nat->Prop}{σ:Nat->Option Ow}{w:World}{a:Act}(c:St n d H σ w e a){x:Operand}{k:IntKind}{u:Int}(b:fI e x=.int k u):a.eval x=.int k u:=by
 have h:=c.bd.ev x;rw [b] at h;generalize a.eval x=y at h;cases h;rfl
theorem O7 {M:Nat->Prop}{σ:Nat->Option Ow}{N:Nat->Prop}{w:World}(u v:Int):RepV M σ N w (kv u v) (.agg [.int .i64 u,.int .i64 v]) :=
 .agg [.int .i64 u,.int .i64 v] _ rfl (by simp [Value.oneCell']) λj x d hx hd=>by
  match j with
  | 0=>simp at hx hd;subst hx;subst hd;exact .int _ _
  | 1=>simp at hx hd;subst hx;subst hd;exact .int _ _
  | j+2=>simp at hx
theorem Hn {M:Nat->Prop}{σ:Nat->Option Ow}{N:Nat->Prop}{w:World}{vs:List Value}{ds:Xa2}(hl:vs.length=ds.length)(hr:∀ (j:Nat) (u:Value) (d:D),vs[j]?=some u->ds[j]?=some d->RepV M σ N w u d):RepV M σ N w (.tuple vs.toArray) (.tup ds):=.tup _ _ hl hr
theorem OpsG.make (hT:MapT P T K E){t:TypeId}(hop:o.op=.makeMap t none)(hg:o.guard=none)(hd:sZ n o.dst=true)(h:∀ b,OpsG P K E n ops l X (.mp b 0 λ_ _=>none) (nB e o.dst (.cst (.map (some b)))) H):OpsG P K E n ops (o :: l) X .no e H :=
 λM0 H0 σ0 w0 σ a w Q hS hQ=>by
 refine wpList_plain hg λK' hK'=>?_;unfold Oper.wp;simp only [execOp,hop,RowKit.run_makeMap,Option.map_none,Sem.run_bind,Sem.run_pure,Result.andThen,Oper.upon_value];refine hK' _ _ (h w.heap.size M0 H0 σ0 w0 σ _ _ Q (hS.au (g':=.mp w.heap.size 0 λ_ _=>none) (World.grownBy_alloc w _ none) bS ⟨hS.b1.size,λi o ho hb=>?_,_,World.ownsMap_made w P K _,λu v _ _=>⟨rfl,by simp⟩⟩ hd (.cst _)) hQ);have:=(hS.st.a7.lt i o _ ho hb).1;omega
theorem OpsG.look (hT:MapT P T K E){t:TypeId}(ht:t=T){m x:Operand}(hop:o.op=.lookup t m x true)(hg:o.guard=none)(hd:sZ n o.dst=true){b k:Nat}{F:FM}(hm:fI e m=.cst (.map (some b))){u v:Int}(hx:fI e x=.agg [.int .i64 u,.int .i64 v])(hu:EJ u)(hv:EJ v)
  (h:OpsG P K E n ops l X (.mp b k F) (nB e o.dst (.tup [.int .i64 ((F u v).getD 0),.bool (F u v).isSome])) H):OpsG P K E n ops (o :: l) X (.mp b k F) e H :=
 λM0 H0 σ0 w0 σ a w Q hS hQ=>by
 subst ht;obtain ⟨m1,m2,D,m3,m4⟩:=hS.map;obtain ⟨r1,r2⟩:=m4 u v hu hv;refine wpList_lookup_own_ok w hg m x t hop K E hT.cq hT.t _ (hT.z w) (.lit (.int .i64 0)) [] (plainElem_int hT.e (NN ⟨bL,bL⟩)) b k D (JB hS.st hm) m3 (kv u v) (kl u v) (TY hS.st hx) (hT.cr u v hu hv) λy ps hy=>?_;obtain ⟨c,rfl,hc,_⟩:=plainElem_int_inv hT.e hy;have hcv:c=(F u v).getD 0:=by
  simp only [Prod.mk.injEq] at hc;cases hF:F u v with
  | none =>
   rw [hF] at r1;have:=Maps.atKey_of_not_has r1 (.lit (.int .i64 0));rw [this] at hc;have:=hc.1;simp at this;simp [this]
  | some c' =>
   have:=r2 c' hF (.lit (.int .i64 0));rw [this] at hc;have:=hc.1;simp at this;simp [this]
 subst hcv;rw [r1];refine h M0 H0 σ0 w0 σ _ _ Q (hS.au (row:=none) ⟨rfl,rfl,rfl,aT _,λ_ _ _=>rfl⟩ bS hS.map hd (Hn (vs:=[_,_]) rfl λj y d hy hd=>?_)) hQ;match j with
 | 0=>simp at hy hd;subst hy;subst hd;exact .int _ _
 | 1=>simp at hy hd;subst hy;subst hd;exact .bool _
 | j+2=>simp at hy
theorem OpsG.store (hT:MapT P T K E){t:TypeId}(ht:t=T){m x y:Operand}(hop:o.op=.mapUpdate t m x y)(hg:o.guard=none)(hd:sZ n o.dst=true){b k:Nat}{F:FM}(hm:fI e m=.cst (.map (some b))){u v c:Int}(hx:fI e x=.agg [.int .i64 u,.int .i64 v])(hy:fI e y=.int .i64 c)(hu:EJ u)(hv:EJ v)(hc:EJ c)(hk:k<1000000)
  (h:OpsG P K E n ops l X (.mp b (k+1) (M6 F u v c)) (nB e o.dst .junk) H):OpsG P K E n ops (o :: l) X (.mp b k F) e H :=
 λM0 H0 σ0 w0 σ a w Q hS hQ=>by
 subst ht;obtain ⟨m1,m2,D,m3,m4⟩:=hS.map;have hcm:∀ ad:Addr,ad.block=b->w.cell? ad=none:=by obtain ⟨es,clock,hb,_⟩:=m3;exact Xv hb
 refine wpList_mapUpdate_own w hg m x y t hop K E hT.cq hT.t _ b k D (JB hS.st hm) m3 (by simp only [maxLen];omega) (kv u v) (.int .i64 c) (kl u v) (TY hS.st hx) (abD hS.st hy) (hT.cr u v hu hv) (.lit (.int .i64 c)) [] (plainElem_int hT.e (NN hc)) λw' hw1 hw2=>?_;refine h M0 H0 σ0 w0 σ _ _ Q (hS.au (g':=.mp b (k+1) (M6 F u v c)) hw2 (λb' hb'=>by cases hb';exact ⟨m1,m2,hcm⟩) ⟨m1,m2,_,hw1,λu' v' hu' hv'=>?_⟩ hd (.junk _)) hQ;unfold M6;by_cases he:u'=u/\v'=v
 .obtain ⟨rfl,rfl⟩:=he;rw [if_pos ⟨rfl,rfl⟩];have hkl:=hT.cq.key (hT.cr u' v' hu' hv');exact ⟨Maps.has_put_same m3.isMap hkl _,λc' hc' z=>by cases hc';exact Maps.atKey_put_same m3.isMap hkl _ _⟩
 .rw [if_neg he];have hne:kl u' v'≠kl u v:=λe'=>he (hT.inj hu' hv' hu hv e');obtain ⟨r1,r2⟩:=m4 u' v' hu' hv';exact ⟨(Maps.has_put_other hne _).trans r1,λc' hc' z=>(Maps.atKey_put_other hne _ _).trans (r2 c' hc' z)⟩
theorem OpsG.range (hT:MapT P T K E){t:TypeId}(ht:t=T){m:Operand}(hop:o.op=.range t m)(hg:o.guard=none)(hd:sZ n o.dst=true){b k:Nat}{F:FM}(hm:fI e m=.cst (.map (some b)))
  (h:∀ r xK,OpsG P K E n ops l X (.rg b r F (λu v=>(F u v).isSome) xK none) (nB e o.dst (.cst (Gt r))) H):OpsG P K E n ops (o :: l) X (.mp b k F) e H :=
 λM0 H0 σ0 w0 σ a w Q hS hQ=>by
 subst ht;obtain ⟨m1,m2,D,m3,m4⟩:=hS.map;refine wpList_range_own w hg m t hop K E hT.cq hT.t _ b k D (JB hS.st hm) m3 λw' hw1 hw2 hw3=>?_;refine h w.heap.size (Maps.size D) M0 H0 σ0 w0 σ _ _ Q (hS.au (g':=.rg b w.heap.size F (λu v=>(F u v).isSome) (Maps.size D) none) hw2 bS ⟨m1,hS.b1.size,m2,λi o ho hb=>?_,k,D,_,hw1,m4,λu v hu hv=>(m4 u v hu hv).1,by simp⟩ hd (.cst _)) hQ;have:=(hS.st.a7.lt i o _ ho hb).1;omega
theorem OpsG.next (hT:MapT P T K E){it:Operand}(hop:o.op=.next it false)(hg:o.guard=none)(hd:sZ n o.dst=true){b r xK:Nat}{F:FM}{left:Int->Int->Bool}{cur:Option (Int × Int × Int)}(hit:fI e it=.cst (Gt r))
  (h1:(∀ u v,EJ u->EJ v->left u v=false)->OpsG P K E n ops l X (.rg b r F left xK cur) (nB e o.dst (.tup [.bool false])) H)
  (h2:∀ u v c cnt',EJ u->EJ v->left u v=true->F u v=some c->cnt'<xK->OpsG P K E n ops l X (.rg b r F (λu' v'=>left u' v'&&!decide (u'=u/\v'=v)) cnt' (some (u,v,c))) (nB e o.dst (.tup [.bool true,.agg [.int .i64 u,.int .i64 v],.int .i64 c])) H) :
  OpsG P K E n ops (o :: l) X (.rg b r F left xK cur) e H :=
 λM0 H0 σ0 w0 σ a w Q hS hQ=>by
 obtain ⟨m1,m2,m3,m4,k,D,lf,m5,m6,m7,m8⟩:=hS.map;have hcm:∀ ad:Addr,ad.block=r->w.cell? ad=none:=by obtain ⟨es,clock,since,seen,c0,hb,F',hn,hD,hr,_⟩:=m5;exact VH hr
 refine wpList_next_ranges w hg it hop K hT.cq (plainElem P E) (λp:Int × Int=>kv p.1 p.2) (Value.int .i64) (λkey l hkey=>?_) (λv y hv=>?_) b r k D lf xK (JB hS.st hit) m5 (λhc hl=>?_) λx c l' y w' cnt' hkey hlk hv hat hrg hlt hgr hsz hen=>?_
 .obtain ⟨u,v,_,_,rfl⟩:=hT.d5 key l hkey;exact ⟨(u,v),rfl⟩
 .obtain ⟨c,rfl,_⟩:=plainElem_int_inv hT.e hv;exact ⟨c,rfl⟩
 .refine h1 (λu v hu hv=>by rw [<- m7 u v hu hv];exact hl _) M0 H0 σ0 w0 σ _ _ Q (hS.au (row:=none) ⟨rfl,rfl,rfl,aT _,λ_ _ _=>rfl⟩ bS hS.map hd (Hn (vs:=[_]) rfl λj y d hy hd=>?_)) hQ;match j with
  | 0=>simp at hy hd;subst hy;subst hd;exact .bool _
  | j+1=>simp at hy
 .obtain ⟨u,v⟩:=x;simp only at hkey hen;obtain ⟨u',v',hu,hv',he⟩:=hT.d5 _ _ hkey;simp only [kv,Value.agg.injEq,Array.mk.injEq,List.cons.injEq,Value.int.injEq,true_and,and_true] at he;obtain ⟨rfl,rfl⟩:=he;rw [hT.cr u v hu hv'] at hkey;cases hkey
  obtain ⟨c',ec,rfl,hwc⟩:=plainElem_int_inv hT.e hv;cases ec
  have hhas:=Maps.has_true_of_atKey hat
  obtain ⟨r1,r2⟩:=m6 u v hu hv';rw [hhas] at r1;obtain ⟨c2,hc2⟩:=l8.1 r1.symm;have hcc:c2=c:=by
   have e1:=r2 c2 hc2 .nil;rw [hat .nil] at e1;simp at e1;exact e1.symm
  subst hcc;refine h2 u v c2 cnt' hu hv' (by rw [<- m7 u v hu hv'];exact hlk) hc2 hlt M0 H0 σ0 w0 σ _ _ Q (hS.au (g':=.rg b r F (λu' v'=>left u' v'&&!decide (u'=u/\v'=v)) cnt' (some (u,v,c2))) hgr (λb' hb'=>by cases hb';exact ⟨m2,m4,hcm⟩) ⟨m1,m2,m3,m4,k,D,_,hrg,m6,λa1 a2 ha1 ha2=>?_,λa1 a2 a3 ha=>?_⟩ hd (Hn (vs:=[_,_,_]) rfl λj y d hy hd=>?_)) hQ
  .rw [m7 a1 a2 ha1 ha2];congr 2;rw [bB];constructor
   .intro h;exact decide_eq_true (hT.inj ha1 ha2 hu hv' (WideAt.sameKey_eq h))
   .intro h;obtain ⟨rfl,rfl⟩:=of_decide_eq_true h;exact WideAt.sameKey_self (hT.cq.key (hT.cr _ _ hu hv'))
  .cases ha;exact hen
  .match j with
   | 0=>simp at hy hd;subst hy;subst hd;exact .bool _
   | 1=>simp at hy hd;subst hy;subst hd;exact O7 _ _
   | 2=>simp at hy hd;subst hy;subst hd;exact .int _ _
   | j+3=>simp at hy
theorem OpsG.entry {it:Operand}(hop:o.op=.entry it)(hg:o.guard=none)(hd:sZ n o.dst=true){b r xK:Nat}{F:FM}{left:Int->Int->Bool}{u v c:Int}(hit:fI e it=.cst (Gt r))
  (h:OpsG P K E n ops l X (.rg b r F left xK (some (u,v,c))) (nB e o.dst (.tup [.agg [.int .i64 u,.int .i64 v],.int .i64 c])) H):OpsG P K E n ops (o :: l) X (.rg b r F left xK (some (u,v,c))) e H :=
 λM0 H0 σ0 w0 σ a w Q hS hQ=>by
 obtain ⟨m1,m2,m3,m4,k,D,lf,m5,m6,m7,m8⟩:=hS.map;have hrun:=m8 u v c rfl;refine wpList_plain hg λK' hK'=>?_;unfold Oper.wp;have hit':=JB hS.st hit;simp only [execOp,hop,hit',hrun,Sem.run_bind,Sem.run_pure,Result.andThen,Oper.upon_value];refine hK' _ _ (h M0 H0 σ0 w0 σ _ _ Q (hS.au (row:=none) ⟨rfl,rfl,rfl,aT _,λ_ _ _=>rfl⟩ bS hS.map hd (Hn (vs:=[_,_]) rfl λj y d hy hd=>?_)) hQ);match j with
 | 0=>simp at hy hd;subst hy;subst hd;exact O7 _ _
 | 1=>simp at hy hd;subst hy;subst hd;exact .int _ _
 | j+2=>simp at hy
/-! ### calls -/
def GCalls (P:Program)(K E:TypeId)(f:FuncId)(args:Xa2)(H:AHeap)(Q:D->AHeap->MS->Prop):Prop :=
 XZ P f/\∀ (M0:Nat->Prop) (σ:Nat->Option Ow) (w:World) (vals:List Value),Rel M0 H σ w->RepL (dK M0 H σ) σ H.J w vals args ->
  Calls P f vals.toArray w λe w'=>∃ v d H' σ' g,e=.returned v/\Rel M0 H' σ' w'/\RepV (dK M0 H' σ') σ' H'.J w' v d/\Stp σ w σ' w'/\Keeps (dK M0 H σ) σ H.J w (dK M0 H' σ') σ' H'.J w'/\MpOk P K E σ' w.heap.size w' g/\Q d H' g
theorem Le {f:FuncId}{args:Xa2}{Q:D->AHeap->MS->Prop}{Q':D->AHeap->Prop}(h:GCalls P K E f args H Q)(hq:∀ d H' g,Q d H' g->Q' d H'):ACalls P f args H Q' :=
 ⟨h.1,λM0 σ w vals hR ha=>(h.2 M0 σ w vals hR ha).mono λe w' ⟨v,d,H',σ',g,a,b,c,s,k,_,q⟩=>⟨v,d,H',σ',a,b,c,s,k,hq _ _ _ q⟩⟩
def UE (P:Program)(rs:List ResultVar)(Q:D->AHeap->MS->Prop):PG:=λex g e H=>UD P rs (λd H'=>Q d H' g) ex e H
theorem Bo {f:FuncId}{fn:Func}{x:Code}{rs:List ResultVar}{args:Xa2}{Q:D->AHeap->MS->Prop}(r:P.funcs[f]?=some fn)(s:fn.body=some x)
  (n:(fn.name=="runtime.NumGoroutine")=false) (c:args.length<=fn.ntmps) (h:WpG P K E fn.ntmps x (UE P rs Q) .no (D7 args) H) (u:fn.results.toList=rs:=by exact Yo):GCalls P K E f args H Q:=by
 subst u;refine ⟨⟨fn,r,n,by simp [s]⟩,λe σ w q C A=>calls_of_wp r s ?_⟩;have B:=Zd C A c;refine jM (h e H σ w σ _ w ⟨B,.refl _ _,.refl _ _ _ _,trivial⟩) λL t a z=>?_;obtain ⟨g,M,p,σ',i,b,m,y,F⟩:=z;have o:EB P fn.results.toList M p (λl=>Q (HP l) p g)->t.defers=[]/\∃ v,(results fn t.tmps).run P a=.ok v a /\
   ∃ v2 d H2 σ2 g2,Ending.returned v=.returned v2/\Rel e H2 σ2 a/\RepV (dK e H2 σ2) σ2 H2.J a v2 d/\Stp σ w σ2 a/\Keeps (dK e H σ) σ H.J w (dK e H2 σ2) σ2 H2.J a/\MpOk P K E σ2 w.heap.size a g2/\Q d H2 g2:=by
  intro i;obtain ⟨N,l,J,I,G⟩:=Ae b _ _ i;obtain ⟨v,k,j⟩:=Gd (fn:=fn) J I;exact ⟨b.defers,v,k,v,_,p,σ',g,rfl,b.a7,j,m,y,F,G⟩
 cases L<;>first|exact o i|exact i.elim
theorem OpsG.call {f:FuncId}{args:Xa2}{Q:D->AHeap->MS->Prop}(hc:iQ e o=some (f,args))(hg:o.guard=none)(hd:sZ n o.dst=true)(hA:GCalls P K E f args H Q)(h:∀ d H' g',Q d H' g'->OpsG P K E n ops l X g' (nB e o.dst d) H') :
  OpsG P K E n ops (o :: l) X .no e H:=λM0 H0 σ0 w0 σ a w Q' hS hQ=>by
 refine wpList_plain hg λK' hK'=>?_;obtain ⟨vals,hrun,hrep⟩:=Da (P:=P) (λx _=>hS.st.bd.ev x) hc hA.1;refine CI (args:=args) hrun ((hA.2 M0 σ w vals hS.st.a7 hrep).mono λe' w' ⟨v,d,H',σ',g',he,hR',hv,hst,hk,hM,hq⟩=>?_);exact ⟨v,he,hK' _ _ (h d H' g' hq M0 H0 σ0 w0 σ' _ _ Q' ⟨hS.st.put hR' hk hd hv,hS.b1.trans hst,hS.G.trans hk,hM.dy hS.b1.size⟩ hQ)⟩
end
end Go.Abs
end
section
set_option maxRecDepth 100000
set_option maxHeartbeats 4000000
open Go Go.Proofs Tryz
namespace Go.Abs
@[go_sem] theorem adY (H:AHeap)(a b c d:Nat):jN H (.ptr a b c d)=.ptr a b c d:=rfl
@[go_sem] theorem Z8 (a b c d:Nat):eE (.ptr a b c d)=[]:=rfl
@[go_sem] theorem aeZ (H:AHeap)(i:Nat):(H.frz i).next=H.next:=(Sx H i).2
@[go_sem] theorem ahF (H:AHeap)(i j:Nat):(H.frz i).get j=if j=i then (H.get i).map (λk=>{ k with fz:=true }) else H.get j:=by
 by_cases h:j=i
 .subst h;unfold AHeap.frz;cases a:H.get j<;>simp [AHeap.put,a]
 .rw [if_neg h,Md H i j h]
theorem QL {P:Program}{md:Nat->Bool}{ops:Array Oper}{a:List Oper}{e:dO}{c:Option Tmp}{K:dO->AHeap->Prop}{f:FuncId}{args args':Xa2}{H:AHeap}(m:args.map U7=args')(h:dQ P md ops a e c K f args' H):dQ P md ops a e c K f args H:=by
 subst m;unfold dQ at h ⊢;exact ⟨h.1,λo σ w b n g=>h.2 o σ w b n ⟨by simpa using g.len,λj u d l i=>by
  rw [aW,bQ] at i;obtain ⟨y,k,rfl⟩:=i;exact NB (g.Y j u y l k)⟩⟩
structure Srch where
 t:Types
 p:Graph
 g:Graph
 pn:Xa0
 pe:Xa0
 inj:Bool
def Xf (y:Edge):Xa0:=[y.type,y.from_,y.L]
def Bq (l:Xa0)(i k:Nat):Bool:=decide (l[i]?.getD (-1)<0)||decide (l[i]?.getD (-1)=(k:Int))
def Ab (t:Types)(a b:Int):Bool:=mem (t.ao b.toNat) a
def edX (p:Graph)(ns:Xa0)(i:Nat):Edge:=⟨(p.j[i]?.getD cK).type,ns[(p.j[i]?.getD cK).from_.toNat]?.getD 0,ns[(p.j[i]?.getD cK).L.toNat]?.getD 0⟩
def Bn (S:Srch)(ns:Xa0)(i k:Nat):Bool:=decide (Xf (S.g.j[k]?.getD cK)=Xf (edX S.p ns i))
def LM (S:Srch)(l:Xa0)(k:Nat):Bool:=Bq S.pn l.length k&&(!(S.inj&&mem l k)&&Ab S.t (S.p.i[l.length]?.getD 0) (S.g.i[k]?.getD 0))
def TB (S:Srch)(ns l:Xa0)(k:Nat):Bool:=Bq S.pe l.length k&&(!(S.inj&&mem l k)&&Bn S ns l.length k)
def Kl (S:Srch)(N:Nat)(ns:Xa0):Nat->Xa0->List Part->List Part
 | 0,l,ou=>if N<=ou.length then ou else ou++[⟨ns,l⟩]
 | d+1,l,ou=>if N<=ou.length then ou else (List.range S.g.j.length).foldl (λou k=>if TB S ns l k=true then Kl S N ns d (l++[(k:Int)]) ou else ou) ou
def CY (S:Srch)(l:Xa0)(i:Nat):Bool:=decide ((l.length:Int)<=(S.p.j[i]?.getD cK).from_)||decide ((l.length:Int)<=(S.p.j[i]?.getD cK).L)||(List.range S.g.j.length).any (Bn S l i)
def xG (S:Srch)(l:Xa0):Bool:=(List.range S.p.j.length).all (CY S l)
def IN (S:Srch)(l:Xa0)(i:Nat):Bool:=decide (max (S.p.j[i]?.getD cK).from_ (S.p.j[i]?.getD cK).L≠(l.length:Int) - 1)||(List.range S.g.j.length).any λk=>Bq S.pe i k&&Bn S l i k
def wG (S:Srch)(l:Xa0):Bool:=(List.range S.p.j.length).all (IN S l)
def Ru (S:Srch)(N:Nat):Nat->Xa0->List Part->List Part
 | 0,l,ou=>if N<=ou.length\/xG S l=false then ou else Kl S N l S.p.j.length [] ou
 | d+1,l,ou=>if N<=ou.length\/xG S l=false then ou else (List.range S.g.i.length).foldl (λou k=>if LM S l k=true then Ru S N d (l++[(k:Int)]) ou else ou) ou
def Tr (S:Srch)(N:Nat):Nat->Xa0->List Part->List Part
 | 0,l,ou=>if N<=ou.length then ou else Kl S N l S.p.j.length [] ou
 | d+1,l,ou=>if N<=ou.length then ou else (List.range S.g.i.length).foldl (λou k=>if (LM S l k&&wG S (l++[(k:Int)]))=true then Tr S N d (l++[(k:Int)]) ou else ou) ou
/-! ### all matches -/
def G9 (S:Srch)(ns:Xa0):Nat->Xa0->Yb
 | 0,l=>[l]
 | d+1,l=>((List.range S.g.j.length).filter (TB S ns l)).flatMap λ(k:Nat)=>G9 S ns d (l++[(k:Int)])
def D4 (S:Srch):Nat->Xa0->List Part
 | 0,l=>(G9 S l S.p.j.length []).map λes=>⟨l,es⟩
 | d+1,l=>((List.range S.g.i.length).filter (LM S l)).flatMap λ(k:Nat)=>D4 S d (l++[(k:Int)])
def Ad (S:Srch):List Part:=D4 S S.p.i.length []
theorem EQ {α:Type}(N:Nat)(a b:List α):((a.take N)++b).take N=(a++b).take N:=by
 rw [vP,vP,List.take_take,Nat.min_self];grind
theorem yS {α:Type}(N:Nat)(ok:Nat->Bool)(f:Nat->List α->List α)(x:Nat->List α)(hf:∀ k ou,ou.length<=N->f k ou=(ou++x k).take N) :
  ∀ (l:List Nat) (ou:List α),ou.length<=N->l.foldl (λou k=>if ok k=true then f k ou else ou) ou=(ou++(l.filter ok).flatMap x).take N
 | [],ou,h=>by simp [aH h]
 | k :: l,ou,h=>by
  rw [iD];by_cases hk:ok k=true
  .rw [if_pos hk,hf k ou h,yS N ok f x hf l _ et,EQ,xU hk,iO,List.append_assoc]
  .rw [if_neg hk,yS N ok f x hf l _ h,qJ hk]
theorem uB {α:Type}{N:Nat}{a x:List α}(h:a.length<=N)(b:N<=a.length):a=(a++x).take N:=by grind
theorem M4 (S:Srch)(N:Nat)(ns:Xa0):∀ (d:Nat) (l:Xa0) (ou:List Part),ou.length<=N->Kl S N ns d l ou=(ou++(G9 S ns d l).map λes=>(⟨ns,es⟩:Part)).take N
 | 0,l,ou,h=>by
  simp only [Kl,G9];split
  .rename_i h2;exact uB h h2
  .rw [aH et];rfl
 | d+1,l,ou,h=>by
  simp only [Kl,G9];split
  .rename_i h2;exact uB h h2
  .rw [yS N (TB S ns l) (λk ou=>Kl S N ns d (l++[(k:Int)]) ou) (λk=>(G9 S ns d (l++[(k:Int)])).map λes=>(⟨ns,es⟩:Part)) (λk ou ho=>M4 S N ns d _ ou ho) _ _ h,List.map_flatMap]
theorem JA {S:Srch}{ns:Xa0}:∀ (d:Nat) (l es:Xa0),es∈G9 S ns d l->∀ i,l.length<=i->i<l.length+d->∃ k,k<S.g.j.length/\Bq S.pe i k=true/\Bn S ns i k=true
 | 0,l,es,_,i,h1,h2=>by omega
 | d+1,l,es,h,i,h1,h2=>by
  simp only [G9,bM,dR,bN] at h;obtain ⟨k,⟨hk,ho⟩,hr⟩:=h;by_cases hi:i=l.length
  .simp only [TB,aR] at ho;exact ⟨k,hk,hi ▸ ho.1,hi ▸ ho.2.2⟩
  .exact JA d _ es hr i et et
theorem Bs {S:Srch}:∀ (d:Nat) (l:Xa0) (m:Part),m∈D4 S d l->(∃ r,m.i=l++r)/\m.j∈G9 S m.i S.p.j.length []
 | 0,l,m,h=>by
  simp only [D4,aS] at h;obtain ⟨es,he,rfl⟩:=h;exact ⟨⟨[],by simp⟩,he⟩
 | d+1,l,m,h=>by
  simp only [D4,bM,dR,bN] at h;obtain ⟨k,_,hr⟩:=h;obtain ⟨⟨r,hr1⟩,hr2⟩:=Bs d _ m hr;exact ⟨⟨(k:Int) :: r,by rw [hr1];simp⟩,hr2⟩
theorem T2 {p:Graph}{l r:Xa0}{i:Nat}(b:(p.j[i]?.getD cK).from_.toNat<l.length)(a:(p.j[i]?.getD cK).L.toNat<l.length):edX p (l++r) i=edX p l i:=by
 unfold edX;rw [aY b,aY a]
theorem Jz {S:Srch}(q:graphF S.p=0)(d:Nat)(l:Xa0)(h:xG S l=false):D4 S d l=[]:=by
 rw [AK];intro m s;obtain ⟨⟨r,o⟩,t⟩:=Bs d l m s;simp only [xG,s8,bN] at h;obtain ⟨i,e,j⟩:=h;have y:=((eI q).2 _ (aC e)).2;simp only [CY,aA e,aF,cX,decide_eq_true_eq,not_or,aZ,bN,not_exists,not_and,Int.not_le] at j;obtain ⟨⟨x,w⟩,n⟩:=j;obtain ⟨k,v,B,g⟩:=JA _ _ _ t i (dN _) (cG e);apply n k v;unfold Bn at g ⊢;rw [o,T2 (by rw [aA e,aF];omega) (by rw [aA e,aF];omega)] at g;exact g
theorem Vz {S:Srch}(s:graphF S.p=0)(d:Nat)(l:Xa0)(h:wG S l=false):D4 S d l=[]:=by
 rw [AK];intro m t;obtain ⟨⟨r,q⟩,u⟩:=Bs d l m t;simp only [wG,s8,bN] at h;obtain ⟨i,e,n⟩:=h;have z:=((eI s).2 _ (aC e)).2;simp only [IN,aA e,aF,cX,decide_eq_true_eq,not_or,aZ,bN,not_exists,not_and,ne_eq,kX,aR] at n;obtain ⟨y,o⟩:=n;obtain ⟨k,x,w,j⟩:=JA _ _ _ u i (dN _) (cG e);refine o k x w ?_;unfold Bn at j ⊢;rw [q,T2 (by rw [aA e,aF];omega) (by rw [aA e,aF];omega)] at j;exact j
theorem Rt {S:Srch}(hp:graphF S.p=0)(N:Nat):∀ (d:Nat) (l:Xa0) (ou:List Part),ou.length<=N->Ru S N d l ou=(ou++D4 S d l).take N
 | 0,l,ou,h=>by
  simp only [Ru];split
  .rename_i h2;rcases h2 with h2|h2
   .exact uB h h2
   .rw [Jz hp 0 l h2,dG,aH h]
  .rw [M4 S N l _ _ _ h];rfl
 | d+1,l,ou,h=>by
  simp only [Ru];split
  .rename_i h2;rcases h2 with h2|h2
   .exact uB h h2
   .rw [Jz hp _ l h2,dG,aH h]
  .rw [yS N (LM S l) (λk ou=>Ru S N d (l++[(k:Int)]) ou) (λk=>D4 S d (l++[(k:Int)])) (λk ou ho=>Rt hp N d _ ou ho) _ _ h];rfl
theorem GB {α:Type}(ok po:Nat->Bool)(x:Nat->List α)(h:∀ k,po k=false->x k=[]):∀ l:List Nat,(l.filter λk=>ok k&&po k).flatMap x=(l.filter ok).flatMap x
 | []=>rfl
 | k :: l=>by
  cases h1:ok k<;>cases h2:po k<;>simp [h1,h2,GB ok po x h l,h k]
theorem RZ {S:Srch}(hp:graphF S.p=0)(N:Nat):∀ (d:Nat) (l:Xa0) (ou:List Part),ou.length<=N->Tr S N d l ou=(ou++D4 S d l).take N
 | 0,l,ou,h=>by
  simp only [Tr];split
  .rename_i h2;exact uB h h2
  .rw [M4 S N l _ _ _ h];rfl
 | d+1,l,ou,h=>by
  simp only [Tr];split
  .rename_i h2;exact uB h h2
  .rw [yS N (λk=>LM S l k&&wG S (l++[(k:Int)])) (λk ou=>Tr S N d (l++[(k:Int)]) ou) (λk=>D4 S d (l++[(k:Int)])) (λk ou ho=>RZ hp N d _ ou ho) _ _ h];rw [GB (LM S l) (λk=>wG S (l++[(k:Int)])) _ λk hk=>Vz hp d _ hk];rfl
theorem EY (S:Srch){N:Nat}(ns:Xa0)(d:Nat)(l:Xa0){a:List Part}(h:a.length<=N):(Kl S N ns d l a).length<=N:=by
 rw [M4 S N ns d l a h];exact List.length_take_le _ _
theorem Wc {S:Srch}(b:graphF S.p=0){N:Nat}(d:Nat)(l:Xa0){a:List Part}(h:a.length<=N):(Ru S N d l a).length<=N:=by
 rw [Rt b N d l a h];exact List.length_take_le _ _
theorem RY {S:Srch}(b:graphF S.p=0){N:Nat}(d:Nat)(l:Xa0){a:List Part}(h:a.length<=N):(Tr S N d l a).length<=N:=by
 rw [RZ b N d l a h];exact List.length_take_le _ _
theorem H5 {S:Srch}{N:Nat}(ns:Xa0)(d:Nat)(l:Xa0){a:List Part}(h:N<=a.length):Kl S N ns d l a=a:=by cases d<;>simp only [Kl,if_pos h]
def DS (l:List Attr)(vs:Xa0)(k:Nat):Int:=if vs[k]?.getD 0<(l[k]?.getD qN).am\/(l[k]?.getD qN).aw<vs[k]?.getD 0 then 6 else 0
def iW (t:Types)(kind:Int)(vs:Xa0):Int :=
 if (t.i.length:Int)<=kind then 6 else if At t kind.toNat=true then 13 else if vs.length≠(bZ t kind).length then 20 else b6 (DS (bZ t kind) vs) 0 (bZ t kind).length
theorem RT (t:Types)(q:t.ok)(a:Int)(y:0<=a)(vs:Xa0):Pua 69 [t.d,dI a,dLI vs] (dI (iW t a vs)):=by
 refine Tz.p0 func69 rfl λQ i Y=>?_;refine dZ (λw=>?_) λw=>?_
 .have hE:iW t a vs=6:=by unfold iW;rw [if_pos bL]
  exact wv (h:=i _ _ (eD hE))
 .have hkn:a.toNat<t.i.length:=bL;have u:At t a.toNat=t.i[a.toNat].cO:=by simp [At,aA hkn]
  have b:iW t a vs=if At t a.toNat=true then 13 else if vs.length≠(bZ t a).length then 20 else b6 (DS (bZ t a) vs) 0 (bZ t a).length:=by unfold iW;rw [if_neg bL]
  rw [u] at b;have Y:=xa1 Y (aA hkn) @NodeTy.c.eq_1;refine dZ (λn=>?_) λn=>?_
  .rw [if_pos (cG n)] at b;exact wv (h:=i _ _ (eD b))
  .rw [if_neg (cG n)] at b;refine wv (h:=aB (sP t q a) wl ?_);refine dZ (λv=>?_) λv=>?_
   .rw [if_pos bL] at b;exact wv (h:=i _ _ (eD b))
   .rw [if_neg bL] at b;have r:vs.length=(bZ t a).length:=bL;refine wv (h:=bA (λk e H=>(e 3=.adr t.c/\e 2=dLI vs/\e 7=.list ((bZ t a).map Attr.c)/\e 9=dI k)/\(k<=(bZ t a).length)/\(b6 (DS (bZ t a) vs) k ((bZ t a).length - k)=iW t a vs)) (λk=>(bZ t a).length - k) 0 ⟨wg,wi,(by exact b.symm)⟩ λz m k e H l=>?_);obtain ⟨x,s,p⟩:=l;have Y:=wa Y x;refine wv (h:=?_);repeat first|intro _|refine ⟨iV,?_⟩
    refine wq (λj=>?_) λj=>?_
    .have hv:k<vs.length:=bL;have f:=fG (DS (bZ t a) vs) j;rw [p] at f;have g:DS (bZ t a) vs k=if vs[k]<(bZ t a)[k].am\/(bZ t a)[k].aw<vs[k] then 6 else 0:=by simp only [DS,aA hv,aA j,aF]
     have Y:=xa3 Y j (aA hv) (aA j) @Attr.c.eq_1;refine dZ (λo=>?_) λo=>?_
     .rw [if_pos bL] at g;rw [g,if_pos bL] at f;exact wv (h:=i _ _ (eD f))
     .rw [if_neg bL] at g;rw [g,if_neg bL] at f;exact wo (h:=wx m (k+1) ⟨wg,wj,(by exact f.symm)⟩)
    .have hZ:iW t a vs=0:=by rw [<- p,(bL:(bZ t a).length - k=0)];rfl
     exact wv (h:=i _ _ (eD hZ))
def iJ (f:Nat->Int):Nat->Nat->Int × Int
 | k,0=>(-1,0)
 | k,n+1=>if f k≠0 then ((k:Int),f k) else iJ f (k+1) n
theorem tU (f:Nat->Int){k n:Nat}(h:k<n):iJ f k (n - k)=if f k≠0 then ((k:Int),f k) else iJ f (k+1) (n - (k+1)):=by
 obtain ⟨m,a⟩:∃ m,n - k=m+1:=⟨n - k - 1,bL⟩;rw [a,(bL:n - (k+1)=m)];rfl
theorem wS (f:Nat->Int):∀ n k,(iJ f k n).2=b6 f k n
 | 0,k=>rfl
 | n+1,k=>by simp only [iJ,b6];split<;>simp_all [wS f n]
def Jq (t:Types)(h:Host)(i:Nat):Int:=iW t (h.o.i[i]?.getD 0) (h.values[i]?.getD [])
def Vt (t:Types)(h:Host)(i:Nat):Int:=if (t.j.length:Int)<=(h.o.j[i]?.getD cK).type then 6 else
 if qF t (h.o.j[i]?.getD cK).type (gN h.o (h.o.j[i]?.getD cK).from_) (gN h.o (h.o.j[i]?.getD cK).L)=true then 0 else 13
def oZ (t:Types)(h:Host):Int × Int :=
 if (cW t).2≠0 then (-1,(cW t).2) else if graphF h.o≠0 then (-1,graphF h.o) else if h.values.length≠h.o.i.length then (-1,20)
 else if (iJ (Jq t h) 0 h.o.i.length).2≠0 then iJ (Jq t h) 0 h.o.i.length else iJ (Vt t h) 0 h.o.j.length
def dH (t:Types)(h:Host):Int:=(oZ t h).2
theorem qB (t:Types)(y:t.ok)(h:Host):Pua 32 [t.d,h.d] (.tup [dI (oZ t h).1,dI (oZ t h).2]):=by
 refine Tz.pK ⟨λt=>t==12,λ_=>[]⟩ func32 rfl (λQ l=>?_);have Y:=wa @Host.d.eq_1 @Host.c.eq_1;refine wv (h:=aB (qC t y) wl ?_);refine dD (λE=>?_) λE=>?_
 .have hE:oZ t h=(-1,(cW t).2):=by unfold oZ;rw [if_pos (cG E)]
  exact wv (h:=l _ _ (eD hE))
 .have hE0:oZ t h=if graphF h.o≠0 then (-1,graphF h.o) else if h.values.length≠h.o.i.length then (-1,20) else if (iJ (Jq t h) 0 h.o.i.length).2≠0 then iJ (Jq t h) 0 h.o.i.length else iJ (Vt t h) 0 h.o.j.length:=by unfold oZ;rw [if_neg (cG E)]
  refine wv (h:=aB (mJ h.o) wl ?_);refine dD (λs=>?_) λs=>?_
  .rw [if_pos (cG s)] at hE0;exact wv (h:=l _ _ (eD hE0))
  .rw [if_neg (cG s)] at hE0;have q:graphF h.o=0:=by simpa using s
   have p:=eI q;have L:=bW q;refine dZ (λM=>?_) λM=>?_
   .rw [if_pos bL] at hE0;exact wv (h:=l _ _ (eD hE0))
   .rw [if_neg bL] at hE0;refine wv (h:=bA (λi e H=>(e 2=.adr t.c/\e 3=.adr h.c/\e 9=dI i)/\(i<=h.o.i.length)/\(iJ (Jq t h) i (h.o.i.length - i)=iJ (Jq t h) 0 h.o.i.length)) (λi=>h.o.i.length - i) 0 ⟨wg,wi,(by rfl)⟩ λU D i e H B=>?_);obtain ⟨O,R,I⟩:=B;have Y:=wa Y O;refine dZ (λg=>?_) λg=>?_
    .have hv:i<h.values.length:=bL;have z:0<=h.o.i[i]:=(p.1 _ (aC g)).1;have a:=tU (Jq t h) g;rw [I] at a;have r:Jq t h i=iW t h.o.i[i] h.values[i]:=by simp only [Jq,aA hv,aA g,aF]
     have Y:=xa3 Y g (aA hv) (aA g) @cL.eq_1;refine wo (h:=aJ (RT t y h.o.i[i] z h.values[i]) wl ?_);refine dZ (λk=>?_) λk=>?_
     .rw [r,if_pos (cG k)] at a;rw [a,if_pos (cG k)] at hE0;exact wv (h:=l _ _ (eD hE0))
     .rw [r,if_neg (cG k)] at a;exact wo (h:=wx D (i+1) ⟨wg,wj,(a.symm)⟩)
    .have hN0:iJ (Jq t h) 0 h.o.i.length=(-1,0):=by rw [<- I,(bL:h.o.i.length - i=0)];rfl
     rw [hN0,if_neg bS] at hE0;refine wv (h:=bA (λj e H=>(e 2=.adr t.c/\e 3=.adr h.c/\e 11=dI j)/\(j<=h.o.j.length)/\(iJ (Vt t h) j (h.o.j.length - j)=oZ t h)) (λj=>h.o.j.length - j) 0 ⟨wg,wi,(hE0.symm)⟩ λT C j e H A=>?_);obtain ⟨N,P,G⟩:=A;have Y:=wa Y N;refine dZ (λf=>?_) λf=>?_
     .obtain ⟨x,w⟩:=cY (h.o.j[j]);have v:=(p.2 _ (aC f)).2;rw [<- w] at v;have o:x.from_.toNat<h.o.i.length:=bL;have n:x.L.toNat<h.o.i.length:=bL;have a:=tU (Vt t h) f;rw [G] at a;have b:Vt t h j=if (t.j.length:Int)<=x.type then 6 else if qF t x.type h.o.i[x.from_.toNat] h.o.i[x.L.toNat]=true then 0 else 13:=by simp only [Vt,gN,aA f,aF,<- w,aA o,aA n]
      have Y:=xa4 Y f (aA f) (Eq.symm w) (aA o) (aA n);refine dZ (λF=>?_) λF=>?_
      .rw [if_pos bL] at b;rw [b,if_pos bL] at a;exact wv (h:=l _ _ (eD a))
      .rw [if_neg bL] at b;refine wo (h:=aJ (ID t y x.type h.o.i[x.from_.toNat] h.o.i[x.L.toNat]) wl ?_);refine dZ (λm=>?_) λm=>?_
       .rw [if_neg (cG m)] at b;rw [b,if_pos bL] at a;exact wv (h:=l _ _ (eD a))
       .rw [if_pos (cG m)] at b;rw [b,if_neg bL] at a;exact wo (h:=wx C (j+1) ⟨wg,wj,(a.symm)⟩)
     .have hZ:oZ t h=(-1,0):=by rw [<- G,(bL:h.o.j.length - j=0)];rfl
      exact wv (h:=l _ _ (eD hZ))
theorem A2 (l:Xa0):Pua 327 [dLI l] (.bool (decide l.Nodup)):=by
 refine Tz.p0 func327 rfl λQ u Y=>?_;refine wv (h:=bA (λi e H=>(e 0=dLI l/\e 3=dI i)/\(i<=l.length)/\((l.take i).Nodup)) (λi=>l.length - i) 0 ⟨wg,wi,(by simp)⟩ λD q i e H n=>?_);obtain ⟨z,B,r⟩:=n;have Y:=wa Y z;refine wv (h:=?_);repeat first|intro _|refine ⟨iV,?_⟩
 refine wq (λd=>?_) λd=>?_
 .have Y:=xa1 Y d (aA d);refine wv (h:=bA (λk e H=>(e 0=dLI l/\e 3=dI i/\e 4=dI k)/\(k<=i)/\(∀ j,j<k->∀ g:j<l.length,l[j]≠l[i])) (λk=>i - k) 0 ⟨wg,wi,(by intro j g;omega)⟩ λC p k e H m=>?_);obtain ⟨y,A,c⟩:=m;have Y:=wa Y y;refine dD (λv=>?_) λv=>?_
  .have hkl:k<l.length:=bL;have Y:=xa1 Y v (aA hkl);refine dZ (λs=>?_) λs=>?_
   .have hnd:¬ l.Nodup:=λo=>by
     have:=(vR (h₀:=d) (h₁:=hkl) o).1 s;omega
    exact wv (h:=u _ _ (eD hnd))
   .exact wo (h:=wx p (k+1) ⟨wg,wj,(by intro j g f;rcases bD j k with hjk|hjk;exact c j hjk f;(obtain rfl:j=k:=bL;exact λw=>s w.symm))⟩)
  .have hD2:(l.take (i+1)).Nodup:=by
    rw [aD d,gG];refine ⟨r,by simp,λa x b t=>?_⟩;rw [aX] at t;subst t;obtain ⟨j,g,rfl⟩:=uF.1 x;exact c j bL _
   exact wo (h:=wx q (i+1) ⟨wg,wj,(by exact hD2)⟩)
 .have o:l.Nodup:=by rw [aH bL] at r;exact r
  exact wv (h:=u _ _ (eD o))
end Go.Abs
end
