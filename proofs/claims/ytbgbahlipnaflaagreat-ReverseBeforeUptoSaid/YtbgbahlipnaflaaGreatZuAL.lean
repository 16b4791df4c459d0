/- Small things that later texts take from the texts of layer 4 -/
import Derived.Test.YtbgbahlipnaflaaGreatZuAG
import Derived.Test.YtbgbahlipnaflaaGreatZuAK
import Derived.Test.YtbgbahlipnaflaaGreatZuAA
import Derived.Test.YtbgbahlipnaflaaGreatZuAF
import Derived.Maps.RangeWalk
import Derived.DeepKeys4
set_option linter.unusedVariables false
set_option linter.unusedSimpArgs false
section
set_option maxRecDepth 100000
set_option maxHeartbeats 4000000
open Go Go.Proofs Tryz
namespace Go.Abs
theorem FB {P:Program}{H:AHeap}{f:FuncId}{args:UN}{ty:TypeId}{sz:Nat}{es:UE}{Q:D->AHeap->Prop}(A:Own P f (args.map (jG H)) ty sz es)(x:D.J (args.map (jG H))=true)(K:∀ d∈es.flatten,d.bd=true)(N:Q (.list es) H):ACalls P f args H Q:=by
 refine ⟨A.1,λE σ w k o M=>?_⟩;obtain ⟨V,f2,Z,Y⟩:=gJ (args.flatMap eG) o;refine (A.2 (dQ E (f5 (args.flatMap eG) H) σ) w k (v6 V) (iO (λ_ h=>h) (CG o M _ λi h=>h) x)).mono λe G ⟨v,F,L,b,O,c,C,r,m⟩=>?_;obtain ⟨U,T,S⟩:=o.grow m.os m.tape m.output m.size m.block;have I:RepV (dQ E H σ) jL t6 G v (.list es):=by
  rcases b.2 with ⟨l,R⟩|⟨g,y,W,a,X,n,s,t,z,q⟩
  .rw [l,bJ R];exact .listN
  .rw [a];refine .list ⟨g,0,none⟩ y sz F es s t r c.len O (λj u p=>⟨λJ=>?_,b.cells (g:=g) (by simp [a,Value.ownBlock]) j u p⟩) (λj u d p B=>Au (c.Z j u d p B) (K d (aK B)));have:=v6 o g J;omega
 exact ⟨v,.list es,H,σ,L,U,I.q An,T,S,N⟩
theorem n3 {P:Program}{md:Nat->Bool}{ops:Array Oper}{g:List (Nat × Nat)}{l i:Nat}{a:List Oper}{b:List (Nat × List Nat)}{e:eB}{c:Option Tmp}{K:eB->AHeap->Prop}{f:FuncId}{args args':UN}{H:AHeap}{ty:TypeId}{sz:Nat}{es:UE}
  (o:Own P f args' ty sz es) (r:args.map (jG H)=args') (j:D.J args'=true) (p:∀ d∈es.flatten,d.bd=true) {S:List Nat} (s:args.flatMap eG=S) (q:o6 g i S b)
  (h:kW P md ops g l (i+1) a ((i,S) :: b) (oO e c (.list es)) H K):rL P md ops g l i a b e c K f args H:=by
 subst r s;unfold rL;refine .inl ⟨.list es,_,λt k=>?_,q,h⟩;have m:=Ck k λx n=>n;exact FB (by rw [m];exact o) (by rw [m];exact j) p ⟨rfl,rfl⟩
theorem eV {β:Type}(f:β->Nat->β)(b:β)(n:Nat):(List.range (n+1)).foldl f b=f ((List.range n).foldl f b) n:=by
 rw [dO,sJ];rfl
theorem KF {t:Types}(b:t.a7){a:Nat}(c:a<t.h.length):mem (t.aw a) a=true:=by
 rw [Am t a c (b.au a),wY];simp
def cL (l:V2):UN:=[dLI l]
@[go_sem] theorem aa0 (l:Yb):D.R (l.map cL)=true:=dY cL (λx=>by simp [cL,go_sem]) l
attribute [go_sem] cL
@[go_sem] theorem adA (o:Option Rule)(A z y x w v u t s r q p n m l k j i h g f e d b a:D):((Option.map Rule.c o).getD [A,z,y,x,w,v,u,t,s,r,q,p,n,m,l,k,j,i,h,g,f,e,d,b,a]).length=25:=by cases o<;>rfl
def Z4 (mask:List Bool):List Nat:=(List.range mask.length).filter λi=>mask[i]?.getD false
theorem mE (a b:V2):Pua 183 [dLI a,dLI b] (.bool (decide (a=b))):=by
 refine Tz.p0 func183 rfl λQ g Y=>?_;refine wv (h:=?_);repeat first|intro _|refine ⟨iI,?_⟩
 refine wq (λm=>?_) λm=>?_
 .refine wv (h:=?_);have c:a≠b:=by intro h;subst h;omega
  exact g _ _ (by simp [go_sem,c])
 .refine wo (h:=bC (λi e H=>(e 0=dLI a/\e 1=dLI b/\e 12=dI a.length/\e 13=dI i)/\(i<=a.length)/\(a.take i=b.take i)) (λi=>a.length - i) 0 ⟨wg,wi,(by rfl)⟩ λp j i e H d=>?_);obtain ⟨n,o,f⟩:=d;have Y:=wa Y n;refine dR (λl=>?_) λl=>?_
  .have hib:i<b.length:=aD;have Y:=xa1 Y l hib;refine wv (h:=?_);repeat first|intro _|refine ⟨iI,?_⟩
   refine wq (λk=>?_) λk=>?_
   .refine wv (h:=?_);have c:a≠b:=by intro h;subst h;exact k rfl
    exact g _ _ (by simp [go_sem,c])
   .exact wo (h:=wx j (i+1) ⟨wg,wj,(by rw [List.take_succ_eq_append_getElem l,List.take_succ_eq_append_getElem hib,f,k])⟩)
  .rw [aG aD,aG aD] at f;exact wv (h:=g _ _ (by simp [go_sem,f]))
theorem My {r:Rule}(h:fewR r=true):r.ok:=by
 simp only [fewR,aL,decide_eq_true_eq] at h;obtain ⟨⟨⟨⟨⟨i,g⟩,f⟩,e⟩,d⟩,b⟩:=h;simp [fewPart] at e d;simp [fewC] at b;have c:=HP r.cond 40 aD b;exact ⟨aD,aD,aD,aD,aD,c.1,aD⟩
theorem ID {P:Program}{md:Nat->Bool}{ops:Array Oper}{a:List Oper}{e:eB}{b:Option Tmp}{K:eB->AHeap->Prop}{f:FuncId}{args args':UN}{H:AHeap}{ty:TypeId}{sz:Nat}{es:UE}
  (g:Own P f args' ty sz es) (j:args.map (jG H)=args') (c:D.J args'=true) (i:∀ d∈es.flatten,d.bd=true) (h:oI P md ops a (oO e b (.list es)) H K):f7 P md ops a e b K f args H:=by grind [f7, FB]
theorem KT (zs:V2):∀ d∈(zs.map cI).flatten,d.bd=true:=by
 intro d a;rw [AU,aX] at a;obtain ⟨x,_,rfl⟩:=a;rfl
def VK:V2->Int
 | []=>0
 | a :: l=>if a≠0 then a else VK l
theorem Uy {l:V2}{i:Nat}(h:i<l.length):VK (l.drop i)=if l[i]≠0 then l[i] else VK (l.drop (i+1)):=by
 rw [fR h];rfl
theorem Yr (l:V2):Pua 322 [dLI l] (dI (VK l)):=by
 refine Tz.p0 func322 rfl λQ f Y=>?_;refine wv (h:=?_);repeat first|intro _|refine ⟨iI,?_⟩
 refine bC (λi e H=>(e 6=dLI l/\e 7=dI l.length/\e 3=dI 0/\e 8=dI i)/\(i<=l.length)/\(VK (l.drop i)=VK l)) (λi=>l.length - i) 0 ⟨wg,wi,(by rfl)⟩ λq c i e H a=>?_;obtain ⟨m,p,b⟩:=a;have Y:=wa Y m;refine dR (λd=>?_) λd=>?_
 .have hst:=b;rw [Uy d] at hst;have Y:=wa Y d;refine wv (h:=?_);repeat first|intro _|refine ⟨iI,?_⟩
  refine wq (λk=>?_) λk=>?_
  .rw [if_pos aD] at hst;exact wv (h:=f _ _ (by simp [go_sem,<- hst]))
  .rw [if_neg aD] at hst;refine wv (h:=?_);repeat first|intro _|refine ⟨iI,?_⟩
   exact wx c (i+1) ⟨wg,wj,(hst)⟩
 .rw [iR aD] at b;exact wv (h:=f _ _ (by simp [go_sem,<- b,VK]))
theorem Jg {P:Program}(w:World)(y z ty b:TypeId)(sz:Nat)(g o e m:Nat)(a:Addr)(d h n:Nat)(c:Array Value)(t:TypeId)(cs:List Value)
  (A:P.underlying y=some (.slice b)) (u:(P.info? b).map (·.size)=some sz)
  (D:w.heap[g]?=some (.cells c t (0,0))) (B:n=Nat.min d e) (s:cs.length=n * sz)
  (k:∀ j v,cs[j]?=some v->w.cell? (a.add j)=some v) (l:o+cs.length<=c.size) (E:∀ v∈cs,v.oneCell'=true) :
  (Builtin.copy_ #[y,z] ty #[.slice (some ⟨g,o,none⟩) e m,.slice (some a) d h]).run P w =
   .ok (goInt n) (w.setRow g (c.toList.take o++cs++c.toList.drop (o+cs.length)).toArray):=by
 have x:=run_loadCells_list (P:=P) w a cs k;have q:=run_storeCells_at P g o t cs 0 c w D (bZ l) E;cases r:P.info? b with
 | none=>simp [r] at u
 | some i =>
  have C:i.size=sz:=by simpa [r] using u
  rw [s] at x;simp [Builtin.copy_,run_underlying A,Builtin.lenOf,Builtin.firstCells,sizeOf,typeInfo,r,C,<- B,x,q]
def cmp1 (a b:Int):Int:=if a<b then -1 else if b<a then 1 else 0
theorem Pr (a b:Int):Pua 323 [dI a,dI b] (dI (cmp1 a b)):=by
 refine Tz.p0 func323 rfl λQ e Y=>?_;refine wv (h:=aB (AY a) wl ?_);refine wv (h:=aB (AY b) wl ?_);refine dR (λd=>?_) λd=>?_
 .have Y:=xa1 Y d @cmp1.eq_1;exact wv (h:=e _ _ wy)
 .refine dR (λc=>?_) λc=>?_
  .have Y:=xa2 Y d c @cmp1.eq_1;exact wv (h:=e _ _ wy)
  .have Y:=xa2 Y d c @cmp1.eq_1;exact wv (h:=e _ _ wy)
theorem UH {n:Nat}{x:Int}(h:x∈iJ n):0<=x/\x<n:=by
 simp only [iJ,aX,aW] at h;grind
def xO (t:Types)(i:Nat):Bool:=match t.h[i]? with|some n=>n.e7|none=>false
def Dw (t:Types):V2:=((List.range t.h.length).filter λi=>!xO t i).map λ(i:Nat)=>(i:Int)
def WW (b:List Bool):V2:=(Z4 b).map λ(i:Nat)=>(i:Int)
theorem Bs (g:Graph)(b:g.h.length<=100000)(c:g.j.length<=100000):Pua 75 [g.d] g.d:=by
 refine Tz.pK ⟨λt=>t==2||t==3||t==7,λr=>match r with|1=>[(0,1),(0,2),(0,4),(1,4),(2,4),(3,4),(0,5),(3,5),(4,5),(0,6),(3,6),(4,6)]|_=>[]⟩ func75 rfl (λQ a=>?_);have Y:=trivial;exact wo (h:=a _ _ wy)
def adY (xs:V2)(i j:Nat):V2:=(xs.set i (xs[j]?.getD 0)).set j (xs[i]?.getD 0)
abbrev B2:=UInt8 × UInt8
def cP (x:B2):UN:=[.int .u8 (x.1.toNat:Int),.int .u8 (x.2.toNat:Int)]
@[go_sem] theorem Vq (l:List B2):D.R (l.map cP)=true:=dY _ (λ_=>rfl) l
def tyA:ByteArray:=⟨#[65,66,67,68,69,70]⟩
def tyU:ByteArray:=⟨#[117,118,119,120,121,122]⟩
def tyE:ByteArray:=⟨#[101,102,103,104,105]⟩
def aaV (i:Nat)(x:B2):NodeTy :=
 ⟨tyA.extract i (i+1),(x.1.toNat:Int).tmod ((i:Int)+1) - 1,((x.1.toNat:Int) / 16).tmod 4==3,
  if (x.2.toNat:Int).tmod 4=1 then [⟨tyU.extract i (i+1),-3,3+((x.2.toNat:Int) / 4).tmod 9,[]⟩]
  else if (x.2.toNat:Int).tmod 4=2 then [⟨tyU.extract i (i+1),0,1,[⟨#[111,102,102]⟩,⟨#[111,110]⟩]⟩] else []⟩
def Wi (ns:List B2)(i:Nat):B2:=ns[i]?.getD (0,0)
def XO (ns:List B2)(n:Nat):List NodeTy:=(List.range n).map λi=>aaV i (Wi ns i)
def aaW (n:Int)(i:Nat)(x:B2):EdgeTy:=⟨tyE.extract i (i+1),(x.1.toNat:Int).tmod n,(x.2.toNat:Int).tmod n,0,-1,0,-1⟩
def XP (n:Int)(es:List B2)(k:Nat):List EdgeTy:=(List.range k).map λi=>aaW n i (Wi es i)
def WX (ns:List B2):Nat:=max 1 (min ns.length 6)
def aaU (ns es:List B2):Types:=⟨XO ns (WX ns),XP (WX ns) es (min es.length 5)⟩
theorem mD {l:UE}(h:∀ c∈l,iU c=c):fD l=l:=by
 rw [Eb];conv=>rhs;rw [<- List.map_id l]
 exact cH h
def cU (x:UInt8):UN:=[.int .u8 (x.toNat:Int)]
@[go_sem] theorem MF (l:List UInt8):D.R (l.map cU)=true:=dY _ (λ_=>rfl) l
def ZB (n:Nat)(l:List UInt8)(i:Nat):Nat:=((i:Int)+((l[i]?.getD 0).toNat:Int).tmod ((n:Int) - i)).toNat
def ZA (n:Nat)(l:List UInt8)(xs:V2)(i:Nat):V2:=adY xs i (ZB n l i)
def Rw (n:Nat)(l:List UInt8):V2:=(List.range (min n l.length)).foldl (ZA n l) (iJ n)
def VD (n:Nat)(xs:V2):Prop:=xs.length=n/\(∀ x∈xs,0<=x/\x<n)/\∀ a b,a<b->b<xs.length->xs[a]?≠xs[b]?
theorem OK {n a:Nat}(h:a<n):(iJ n)[a]?=some (a:Int):=by
 simp [iJ,mU h]
theorem Tg (n:Nat):VD n (iJ n):=⟨sB n,λx hx=>UH hx,λa b hab hb=>by
 rw [sB] at hb;rw [OK aD,OK hb];simp;omega⟩
def ad5 (p xs:V2)(k:Nat):V2:=(List.range k).foldl (λacc i=>acc.set (p[i]?.getD 0).toNat (xs[i]?.getD 0)) xs
def ad4 (p:V2)(x:Edge):Edge:=⟨x.type,p[x.w.toNat]?.getD 0,p[x.M.toNat]?.getD 0⟩
def ad7 (p q:V2)(es:List Edge)(k:Nat):List Edge:=(List.range k).foldl (λacc i=>acc.set (q[i]?.getD 0).toNat (ad4 p (es[i]?.getD ⟨0,0,0⟩))) es
def ad6 (g:Graph)(p q:V2):Graph:=if graphF g=0 then ⟨ad5 p g.h g.h.length,ad7 p q g.j g.j.length⟩ else ⟨[],[]⟩
theorem Bt (g:Graph)(k:g.h.length<=100000)(l:g.j.length<=100000)(G:AHeap)(Q:D->AHeap->Prop)
  (i:∀ a b H',G.next<=a->G.next<=b->a≠b->a<H'.next->b<H'.next->H'.get a=some ⟨3,1,g.h.map cI,false⟩->H'.get b=some ⟨145,3,g.j.map Edge.c,false⟩->(∀ j,j<G.next->H'.get j=G.get j)->G.next<=H'.next->Q (.agg [.own a g.h.length,.own b g.j.length]) H'):ACalls prog 75 [g.d] G Q:=by
 refine (Tz.cK ⟨λt=>t==2||t==3||t==7,λr=>match r with|1=>[(0,1),(0,2),(0,4),(1,4),(2,4),(3,4),(0,5),(3,5),(4,5),(0,6),(3,6),(4,6)]|_=>[]⟩ func75 rfl ?_);have e:=nxs G.next;have Y:=e;refine wo (h:=?_);exact i _ _ _ (by first|omega|(simp [go_sem]<;>omega)|(simp [go_sem,e]<;>omega)) (by first|omega|(simp [go_sem]<;>omega)|(simp [go_sem,e]<;>omega)) (by first|omega|(simp [go_sem]<;>omega)|(simp [go_sem,e]<;>omega)) (by first|omega|(simp [go_sem]<;>omega)|(simp [go_sem,e]<;>omega)) (by first|omega|(simp [go_sem]<;>omega)|(simp [go_sem,e]<;>omega)) (by simp [go_sem,e]<;>omega) (by simp [go_sem,e]<;>omega) (λj f=>by simp [go_sem,cW f]) (by first|omega|(simp [go_sem]<;>omega)|(simp [go_sem,e]<;>omega))
def Xy (a b:Int):Int:=(a.tmod b+b).tmod b
abbrev T4:=Int8 × Int8 × Int8 × Int8
def cT4 (x:T4):UN:=[.int .i8 x.1.toInt,.int .i8 x.2.1.toInt,.int .i8 x.2.2.1.toInt,.int .i8 x.2.2.2.toInt]
@[go_sem] theorem Sl (l:List T4):D.R (l.map cT4)=true:=dY _ (λ_=>rfl) l
def aaY (v:Int)(x:T4):Test:=⟨1+(Xy x.1.toInt 4).tdiv 3,⟨Xy x.2.1.toInt (v+1) - 1,0⟩,⟨Xy x.2.2.1.toInt (v+1) - 1,x.2.2.2.toInt.tmod 12⟩⟩
def aeV (g:Graph)(nb eb:List Bool)(k:Nat):List Bool:=(List.range k).foldl (λacc i=>if eb[i]?.getD false=true then (acc.set (g.j[i]?.getD ⟨0,0,0⟩).w.toNat true).set (g.j[i]?.getD ⟨0,0,0⟩).M.toNat true else acc) nb
def Graph.eh (g:Graph):Prop:=∀ x∈g.j,(0<=x.w/\x.w<g.h.length)/\0<=x.M/\x.M<g.h.length
def ae5 (k:UInt64)(i:Nat):Bool:=(k.toNat:Int).fdiv (2 ^ (min ((i:Int).tmod 64).toNat 64)) % 2==1
def Yx (k:UInt64)(off n:Nat):List Bool:=(List.range n).map λj=>ae5 k (off+j)
def aaX (g:Graph)(k:UInt64):Part:=⟨WW (aeV g (Yx k 0 g.h.length) (Yx k g.h.length g.j.length) g.j.length),WW (Yx k g.h.length g.j.length)⟩
def Yy (t:Types)(ns:V2)(k:Int)(i:Nat):Bool:=mem (t.aw (ns[i]?.getD 0).toNat) k
def MV (t:Types)(ns:V2)(k:Int):V2:=((List.range ns.length).filter (Yy t ns k)).map λ(i:Nat)=>(i:Int)
def Attr.g3 (x:Attr):Prop:=x.ap<=x.a8/\-1000<=x.ap/\x.a8<=1000
structure Types.g4 (t:Types):Prop where
 ok:t.ok
 a7:t.a7
 g3:∀ a,(∀ x∈bQ t a,x.g3)/\(bQ t a).length<=8
abbrev B3:=UInt8 × UInt8 × UInt8
def VM (x:B3):UN:=[.int .u8 (x.1.toNat:Int),.int .u8 (x.2.1.toNat:Int),.int .u8 (x.2.2.toNat:Int)]
@[go_sem] theorem Dy (l:List B3):D.R (l.map VM)=true:=dY _ (λ_=>rfl) l
structure Dr5 where
 h:List UInt8
 j:List B3
def Dr5.c (d:Dr5):UN:=[.list (d.h.map cU),.list (d.j.map VM)]
@[go_sem] theorem Dr5.Q (d:Dr5):D.J d.c=true:=by simp [Dr5.c,D.J,D.Q,MF,Dy]
def aaZ (n:Nat)(ds:List UInt8)(k:Nat):V2:=(List.range k).map λi=>((ds[i]?.getD 0).toNat:Int).tmod n
def VU (t:Types)(k:Int):EdgeTy:=t.j[k.toNat]?.getD ⟨⟨#[]⟩,0,0,0,0,0,0⟩
def RI (l:V2)(b:UInt8):Int:=l[((b.toNat:Int).tmod l.length).toNat]?.getD 0
def aeT (t:Types)(ns:V2)(x:B3):List Edge :=
 if 0<(MV t ns (VU t ((x.1.toNat:Int).tmod t.j.length)).w).length/\0<(MV t ns (VU t ((x.1.toNat:Int).tmod t.j.length)).M).length then
  [⟨(x.1.toNat:Int).tmod t.j.length,RI (MV t ns (VU t ((x.1.toNat:Int).tmod t.j.length)).w) x.2.1,RI (MV t ns (VU t ((x.1.toNat:Int).tmod t.j.length)).M) x.2.2⟩] else []
def aeU (t:Types)(ns:V2)(es:List B3)(k:Nat):List Edge:=(List.range k).flatMap λi=>aeT t ns (es[i]?.getD (0,0,0))
def Ak (t:Types)(d:Dr5):Graph:=⟨aaZ t.h.length d.h (min d.h.length 8),if t.j.length=0 then [] else aeU t (aaZ t.h.length d.h (min d.h.length 8)) d.j (min d.j.length 10)⟩
structure Dr21 where
 i:Dr5
 o:List B3
 E:List T4
def Dr21.c (d:Dr21):UN:=[.list (d.i.h.map cU),.list (d.i.j.map VM),.list (d.o.map VM),.list (d.E.map cT4)]
@[go_sem] theorem Dr21.Q (d:Dr21):D.J d.c=true:=by simp [Dr21.c,D.J,D.Q,MF,Dy,Sl]
def c2 (x:Nat × Nat):UN:=[dI x.1,dI x.2]
def atN (t:Types)(ns:V2)(i:Nat):List Attr:=bQ t (ns[i]?.getD 0)
def ae7 (t:Types)(ns:V2)(i k:Nat):List (Nat × Nat):=(List.range k).map λj=>(i,j)
def ae8 (t:Types)(ns:V2)(k:Nat):List (Nat × Nat):=(List.range k).flatMap λi=>ae7 t ns i (atN t ns i).length
def KE (all:List (Nat × Nat))(b:UInt8):Nat × Nat:=all[((b.toNat:Int).tmod all.length).toNat]?.getD (0,0)
def aeR (all:List (Nat × Nat))(st:List Slot × Int)(x:B3):List Slot × Int :=
 if st.2<=(x.2.1.toNat:Int).tmod 5 - 1 then
  if 3<st.2+1 then (st.1++[⟨(KE all x.1).1,(KE all x.1).2,⟨0,0⟩⟩],3) else (st.1++[⟨(KE all x.1).1,(KE all x.1).2,⟨st.2,0⟩⟩],st.2+1)
 else (st.1++[⟨(KE all x.1).1,(KE all x.1).2,⟨(x.2.1.toNat:Int).tmod 5 - 1,(x.2.2.toNat:Int).tmod 5 - 2⟩⟩],st.2)
def aeS (all:List (Nat × Nat))(ds:List B3)(k:Nat):List Slot × Int:=(List.range k).foldl (λst i=>aeR all st (ds[i]?.getD (0,0,0))) ([],0)
def aeQ (v:Int)(ts:List T4)(k:Nat):List Test:=(List.range k).map λi=>aaY v (ts[i]?.getD (0,0,0,0))
def Xf (t:Types)(d:Dr21):List (Nat × Nat):=ae8 t (Ak t d.i).h (Ak t d.i).h.length
def LF (t:Types)(d:Dr21):List Slot × Int:=if (Xf t d).length=0 then ([],0) else aeS (Xf t d) d.o (min d.o.length 4)
def UM (t:Types)(d:Dr21):Pattern:=⟨Ak t d.i,(LF t d).1,(LF t d).2,aeQ (LF t d).2 d.E (min d.E.length 3)⟩
abbrev B4:=UInt8 × UInt8 × UInt8 × UInt8
structure Dr24 where
 left:Dr21
 q:UInt64
 h:List UInt8
 j:List B3
 o:List B3
 plain:Bool
 inj:Bool
 de:B4
 da:List UInt8
def Dr24.c (d:Dr24):UN:=[.list (d.left.i.h.map cU),.list (d.left.i.j.map VM),.list (d.left.o.map VM),.list (d.left.E.map cT4),.int .u64 (d.q.toNat:Int),.list (d.h.map cU),.list (d.j.map VM),.list (d.o.map VM),.bool d.plain,.bool d.inj,
 .int .u8 (d.de.1.toNat:Int),.int .u8 (d.de.2.1.toNat:Int),.int .u8 (d.de.2.2.1.toNat:Int),.int .u8 (d.de.2.2.2.toNat:Int),.list (d.da.map cU)]
@[go_sem] theorem Dr24.Q (d:Dr24):D.J d.c=true:=by simp [Dr24.c,D.J,D.Q,MF,Dy,Sl]
@[go_sem] theorem ab9 (l:List Dr24):D.R (l.map Dr24.c)=true:=dY _ Dr24.Q l
def Wl (t:Types)(n:Nat)(x:B3):Edge:=⟨(x.1.toNat:Int).tmod t.j.length,(x.2.1.toNat:Int).tmod n,(x.2.2.toNat:Int).tmod n⟩
def nN (ns:V2)(a:Int):Int:=ns[a.toNat]?.getD 0
def grN (t:Types)(base:V2)(ds:List UInt8)(k:Nat):V2:=base++(List.range k).map λi=>RI (Dw t) (ds[i]?.getD 0)
def ae1 (t:Types)(ns:V2)(x:B3):List Edge:=if pP t (Wl t ns.length x).type (nN ns (Wl t ns.length x).w) (nN ns (Wl t ns.length x).M)=true then [Wl t ns.length x] else []
def grE (t:Types)(ns:V2)(base:List Edge)(es:List B3)(k:Nat):List Edge:=base++(List.range k).flatMap λi=>ae1 t ns (es[i]?.getD (0,0,0))
def R2 (t:Types)(g:Graph)(d:Dr24):Graph :=
 ⟨grN t g.h d.h (if (Dw t).length=0 then 0 else min d.h.length 2),
  grE t (grN t g.h d.h (if (Dw t).length=0 then 0 else min d.h.length 2)) g.j d.j (if (grN t g.h d.h (if (Dw t).length=0 then 0 else min d.h.length 2)).length=0\/t.j.length=0 then 0 else min d.j.length 2)⟩
theorem eY (l:V2):fD (l.map cI)=l.map cI:=mD λc hc=>by
 rw [aX] at hc;obtain ⟨x,_,rfl⟩:=hc;rfl
theorem Ah (l:List Edge):fD (l.map Edge.c)=l.map Edge.c:=mD λc hc=>by
 rw [aX] at hc;obtain ⟨x,_,rfl⟩:=hc;rfl
def trueC:Cond:=.mk 1 [] ⟨[],[]⟩ ⟨⟨[],[]⟩,[],0,[]⟩
def plain24 (r:Rule):Rule:=⟨r.name,⟨r.left.i,[],0,[]⟩,⟨r.right.i,[],0,[]⟩,r.q,r.s,r.inj,trueC⟩
theorem NV (r:Rule)(g:r.left.i.h.length<=1000/\r.left.i.j.length<=1000)(f:r.right.i.h.length<=1000/\r.right.i.j.length<=1000)(e:r.q.h.length<=1000/\r.q.j.length<=1000)(b:r.s.h.length<=1000/\r.s.j.length<=1000):Pua 32 [r.d] (plain24 r).d:=by
 refine vY (by first|rfl|(simp [go_sem];done)) (λQ a=>(Tz.cK ⟨λt=>t==2||t==15||t==20||t==26||t==31,λr=>match r with|1=>[(0,12),(1,12),(2,12),(3,12),(4,12),(5,12),(7,12),(8,12),(9,12),(10,12),(12,13),(12,14),(12,15),(0,16),(1,16),(0,17),(1,17),(2,17),(3,17),(4,17),(5,17),(7,17),(8,17),(9,17),(10,17),(12,17),(13,17),(14,17),(15,17),(16,17),(12,18),(16,18),(17,18),(12,19),(16,19),(17,19),(12,20),(16,20),(17,20),(0,21),(1,21),(0,23),(1,23),(2,23),(3,23),(4,23),(5,23),(7,23),(8,23),(9,23),(10,23),(12,23),(13,23),(14,23),(15,23),(16,23),(17,23),(18,23),(19,23),(20,23),(21,23),(12,24),(16,24),(17,24),(21,24),(23,24),(12,25),(16,25),(17,25),(21,25),(23,25),(12,26),(16,26),(17,26),(21,26),(23,26),(0,27),(1,27),(0,28),(1,28),(2,28),(3,28),(4,28),(5,28),(7,28),(8,28),(9,28),(10,28),(12,28),(13,28),(14,28),(15,28),(16,28),(17,28),(18,28),(19,28),(20,28),(21,28),(23,28),(24,28),(25,28),(26,28),(27,28),(12,29),(16,29),(17,29),(21,29),(23,29),(27,29),(28,29),(12,30),(16,30),(17,30),(21,30),(23,30),(27,30),(28,30),(12,31),(16,31),(17,31),(21,31),(23,31),(27,31),(28,31),(0,32),(1,32),(12,34),(16,34),(17,34),(21,34),(23,34),(27,34),(28,34),(32,34),(12,35),(16,35),(17,35),(21,35),(23,35),(27,35),(28,35),(32,35)]|_=>[]⟩ func32 rfl ?_));have Y:=trivial;refine wo (h:=aI (Bs r.left.i aD aD) wl ?_);refine wo (h:=aI (Bs r.right.i aD aD) wl ?_);refine wo (h:=?_);exact a _ _ (by simp [go_sem,eY,Ah,plain24,trueC,Rule.d,Rule.c,Cond.B,Cond.u,Cond.map,Cond.l])
def Mk (t:Types)(d:Dr24):Part:=aaX (UM t d.left).i d.q
def XS (t:Types)(d:Dr24):Graph:=cO (UM t d.left).i (Mk t d)
def U5 (t:Types)(d:Dr24):Graph:=R2 t (XS t d) d
def Ql (t:Types)(d:Dr24):Graph:=ad6 (U5 t d) (Rw (U5 t d).h.length d.da) (Rw (U5 t d).j.length d.da)
structure Host where
 i:Graph
 k:Yb
def Host.c (h:Host):UN:=[dLI h.i.h,.list (h.i.j.map Edge.c),.list (h.k.map cL)]
def Host.d (h:Host):D:=.agg h.c
@[go_sem] theorem Yu (l:Yb):D.R (l.map cL)=true:=dY _ (λa=>by simp [cL,D.J,qO]) l
@[go_sem] theorem Host.Q (h:Host):h.d.Q=true:=by simp [Host.d,Host.c,D.Q,D.J,qO,Yu,xD]
structure Dr15 where
 h:List B2
 j:List B3
def Dr15.c (d:Dr15):UN:=[.list (d.h.map cP),.list (d.j.map VM)]
@[go_sem] theorem Dr15.Q (d:Dr15):D.J d.c=true:=by simp [Dr15.c,D.J,D.Q,Vq,Dy]
def Zu (l:List Attr)(b:UInt8)(k:Nat):Int:=match l[k]? with|some a=>a.ap+((b.toNat:Int)+7 * (k:Int)).tmod (a.a8 - a.ap+1)|none=>0
def Xm (l:List Attr)(b:UInt8)(k:Nat):V2:=(List.range k).map (Zu l b)
def QM (t:Types)(x:B2):Int:=RI (Dw t) x.1
def Z2 (t:Types)(x:B2):V2:=Xm (bQ t (QM t x)) x.2 (bQ t (QM t x)).length
def XN (t:Types)(ds:List B2)(k:Nat):V2:=(List.range k).map λi=>QM t (Wi ds i)
def adX (t:Types)(ds:List B2)(k:Nat):Yb:=(List.range k).map λi=>Z2 t (Wi ds i)
def XQ (t:Types)(d:Dr15):Host :=
 ⟨⟨XN t d.h (if (Dw t).length=0 then 0 else min d.h.length 8),
  grE t (XN t d.h (if (Dw t).length=0 then 0 else min d.h.length 8)) [] d.j (if (XN t d.h (if (Dw t).length=0 then 0 else min d.h.length 8)).length=0\/t.j.length=0 then 0 else min d.j.length 10)⟩,
  adX t d.h (if (Dw t).length=0 then 0 else min d.h.length 8)⟩
attribute [go_sem] Host.d Host.c
def OS (l:V2):Bool:=decide (12<(l.length:Int))
def Ek (h:Host):Bool:=fewG h.i&&decide ((h.k.length:Int)<=45)&&!(h.k.any OS)
theorem Ki (h:Host):Pua 68 [h.d] (.bool (Ek h)):=by
 refine Tz.p0 func68 rfl λQ j _=>?_;have Y:=wa @Host.d.eq_1 @Host.c.eq_1;refine wo (h:=aB (AL h.i) wl ?_);refine eJ (λl=>?_) λl=>?_
 .have b:Ek h=false:=by cases f:fewG h.i<;>simp [f] at l<;>simp [Ek,f]<;>omega
  exact wv (h:=j _ _ (by simp [go_sem,b]))
 .have hG:fewG h.i=true/\(h.k.length:Int)<=45:=by cases f:fewG h.i<;>simp [f] at l<;>exact ⟨rfl,aD⟩
  refine wv (h:=bC (λi e H=>(e 1=.adr h.c/\e 3=dI i)/\(i<=h.k.length)/\((h.k.take i).any OS=false)) (λi=>h.k.length - i) 0 ⟨wg,wi,(by rfl)⟩ λu k i e H g=>?_);obtain ⟨p,s,m⟩:=g;have Y:=wa Y p;refine eJ (λa=>?_) λa=>?_
  .have Y:=xa2 Y a (aA a) @cL.eq_1;refine eJ (λo=>?_) λo=>?_
   .refine wv (h:=?_);have b:Ek h=false:=by
     have:h.k.any OS=true:=bB.2 ⟨_,aC a,by unfold OS;simp;omega⟩;unfold Ek;rw [this];simp
    exact j _ _ (by simp [go_sem,b])
   .exact wo (h:=wx k (i+1) ⟨wg,wj,(by rw [eE _ _ _ a,m];unfold OS;simp;omega)⟩)
  .have b:Ek h=true:=by have:=pB m a;unfold Ek;rw [hG.1,this,decide_eq_true hG.2];rfl
   exact wv (h:=j _ _ (by simp [go_sem,b]))
def eL (t:Types)(g h:Graph):Int:=if (dA t).2≠0 then (dA t).2 else if graphF g≠0 then graphF g else if graphF h≠0 then graphF h else if (!mR t g||!mR t h)=true then 13 else 0
theorem u5 (t:Types)(j:t.ok)(g h:Graph):Pua 215 [t.d,g.d,h.d] (dI (eL t g h)):=by
 refine Tz.p0 func215 rfl λQ c Y=>?_;refine wv (h:=aB (pJ t j) wl ?_);refine dR (λb=>?_) λb=>?_
 .exact wv (h:=c _ _ (by simp [go_sem,eL,b]))
 .refine wv (h:=aB (mM g) wl ?_);refine dR (λe=>?_) λe=>?_
  .exact wv (h:=c _ _ (by simp [go_sem,eL,b,e]))
  .refine wv (h:=aB (mM h) wl ?_);refine dR (λf=>?_) λf=>?_
   .exact wv (h:=c _ _ (by simp [go_sem,eL,b,e,f]))
   .refine wo (h:=aB (u6 t g) wl ?_);refine wo (h:=aH (λi=>u6 t h) (λi=>wl) ?_);refine eJ (λa=>?_) λa=>?_
    .exact wv (h:=c _ _ (by simp [go_sem,eL,b,e,f];intro i;rcases a with h|h<;>simp_all))
    .exact wv (h:=c _ _ (by simp [go_sem,eL,b,e,f];simpa using a))
def light17 (t:Types)(g h:Graph):Bool:=xB t&&fewG g&&fewG h&&(decide (eL t g h≠0)||(decide ((g.h.length:Int)+g.j.length<=6)&&decide ((h.h.length:Int)<=8)&&decide ((h.j.length:Int)<=12)))
theorem Ob (t:Types)(b:t.ok)(g h:Graph):Pua 135 [t.d,g.d,h.d] (.bool (light17 t g h)):=by
 refine Tz.p0 func135 rfl λQ e _=>?_;have f:xB t=true->fewG g=true->fewG h=true->eL t g h=0->T0 .i64 ((g.h.length:Int)+g.j.length):=λ_ a _ _=>by simp [fewG] at a;exact dU aD aD
 have Y:=trivial;refine wo (h:=aB (Kl t (λn c=>fB (b.h n c).b5 aD)) wl ?_);refine wo (h:=aH (λa=>AL g) (λa=>wl) ?_);refine wo (h:=aH (λa=>AL h) (λa=>wl) ?_);refine wo (h:=aH (λa=>u5 t b g h) (λa=>wl) ?_);have Y:=wa Y @light17.eq_1;exact wo (h:=e _ _ wy)
def light21 (t:Types)(p:Pattern)(h:Host):Bool:=fewP p&&Ek h&&light17 t p.i h.i
theorem N7 (t:Types)(b:t.ok)(p:Pattern)(h:Host):Pua 70 [t.d,p.d,h.d] (.bool (light21 t p h)):=by
 refine Tz.p0 func70 rfl λQ e _=>?_;have Y:=wa @Host.c.eq_1 @Pattern.c.eq_1;refine wo (h:=aB (wQ p) wl ?_);refine wo (h:=aH (λa=>Ki h) (λa=>wl) ?_);refine wo (h:=aH (λa=>Ob t b p.i h.i) (λa=>wl) ?_);have Y:=wa Y @light21.eq_1;exact wo (h:=e _ _ wy)
end Go.Abs
end
section
set_option maxHeartbeats 1000000
namespace Go.Abs
open Go.Maps (Keyed)
def DP (u:Int):Prop:=-9223372036854775808<=u/\u<=9223372036854775807
theorem Mp {u:Int}(h:DP u):(Lit.int .i64 u).wf=true:=by
 obtain ⟨b,a⟩:=h;simp [Lit.wf,IntKind.min,IntKind.max,IntKind.bits,IntKind.signed];omega
theorem T7 {u:Int}(h:(Lit.int .i64 u).wf=true):DP u:=by
 simp [Lit.wf,IntKind.min,IntKind.max,IntKind.bits,IntKind.signed] at h;exact ⟨aD,aD⟩
def kv (u v:Int):Value:=.agg #[.int .i64 u,.int .i64 v]
def kl (u v:Int):Lit:=.string (keyBytes [.int .i64 u,.int .i64 v])
structure MapT (P:Program) (T K E:TypeId):Prop where
 t:P.underlying T=some (.map K E)
 e:P.underlying E=some (.int .i64)
 ep:Keyed P K
 er:∀ u v,DP u->DP v->keyOf P K (kv u v)=some (kl u v)
 hn:∀ key l,keyOf P K key=some l->∃ u v,DP u/\DP v/\key=kv u v
 z:∀ w,(zeroValue E).run P w=.ok (.int .i64 0) w
theorem C8 {P:Program}{K E:TypeId}{e c:Field}(h:P.underlying K=some (.struct #[e,c]))(k:e.type=E/\e.offset=0/\(e.name != "_")=true)(j:c.type=E/\c.offset=1/\(c.name != "_")=true)
  (i:P.cellsOf K=2) (f:P.cellsOf E=1) (d:Nat) (a b:Value):P.keyLits (d+1) K [a,b]=(P.keyLits d E [a]).bind λx=>(P.keyLits d E [b]).map λy=>x++y:=by
 obtain ⟨q,p,o⟩:=k;obtain ⟨n,m,l⟩:=j;rw [Program.keyLits.eq_def];simp only [h];rw [if_pos (by simp [i,o,l])];simp only [List.mapM_cons,List.mapM_nil,q,p,n,m,f,List.drop_zero,uO,List.take_zero,List.drop_succ_cons,bind,pure];cases P.keyLits d E [a]<;>simp
 cases P.keyLits d E [b]<;>simp
theorem vG {P:Program}{E:TypeId}(he:P.underlying E=some (.int .i64))(d:Nat)(v:Value)(l:List Lit):P.keyLits (d+1) E [v]=some l↔∃ u,v=.int .i64 u/\(Lit.int .i64 u).wf=true/\l=[.int .i64 u]:=by
 rw [Program.keyLits.eq_def];grind
theorem Wm {P:Program}{T K E:TypeId}{n m:Field}(G:P.underlying T=some (.map K E))(g:P.underlying E=some (.int .i64))(c:P.underlying K=some (.struct #[n,m]))(D:n.type=E/\n.offset=0/\(n.name != "_")=true)(C:m.type=E/\m.offset=1/\(m.name != "_")=true)
  (k:P.cellsOf K=2) (i:P.cellsOf E=1) (s:P.keyType K=true) (H:∃ d,P.types.size+1=d+1+1) (e:Keyed P K) (F:∀ w,(zeroValue E).run P w=.ok (.int .i64 0) w):MapT P T K E:=by
 obtain ⟨d,A⟩:=H;refine ⟨G,g,e,λu v r q=>?_,λp l h=>?_,F⟩
 .unfold keyOf;simp only [c];rw [if_pos (by simp [s,Value.formed,c,kv,k]),A];have J:=(vG g d (.int .i64 u) _).2 ⟨u,rfl,Mp r,rfl⟩;have I:=(vG g d (.int .i64 v) _).2 ⟨v,rfl,Mp q,rfl⟩;show ((P.keyLits (d+1+1) K [.int .i64 u,.int .i64 v]).map λo=>Lit.string (keyBytes o))=_;rw [C8 c D C k i,J,I];rfl
 .unfold keyOf at h;simp only [c] at h;split at h
  .rename_i hf;rw [aL] at hf;have f:=hf.2;cases p<;>simp [Value.formed,c,k] at f
   rename_i z;obtain ⟨z⟩:=z;match z,f with
   | [a,b],_ =>
    rw [A] at h;have j:((P.keyLits (d+1+1) K [a,b]).map λo=>Lit.string (keyBytes o))=some l:=h;rw [C8 c D C k i] at j;cases t:P.keyLits (d+1) E [a] with
    | none=>rw [t] at j;cases j
    | some x =>
     cases B:P.keyLits (d+1) E [b] with
     | none=>rw [t,B] at j;cases j
     | some y =>
      obtain ⟨u,rfl,r,_⟩:=(vG g d a x).1 t;obtain ⟨v,rfl,q,_⟩:=(vG g d b y).1 B;exact ⟨u,v,T7 r,T7 q,rfl⟩
  .cases h
section
variable {P:Program} {T K E:TypeId}
theorem MapT.inj (h:MapT P T K E){u v d c:Int}(a:DP u)(b:DP v)(g:DP d)(f:DP c)(e:kl u v=kl d c):u=d/\v=c:=by
 have:=h.ep.inj (h.er u v a b) (e ▸ h.er d c g f);simpa [kv] using this
abbrev FM:=Int->Int->Option Int
def LG (F:FM)(u v c:Int):FM:=λu' v'=>if u'=u/\v'=v then some c else F u' v'
def Xh (D:DataW Unit)(F:FM):Prop:=∀ u v,DP u->DP v->Maps.has D (kl u v)=(F u v).isSome/\∀ c,F u v=some c->∀ z,D.atKey (kl u v) z=.lit (.int .i64 c)
inductive MS where
 | no
 | mp (b n:Nat) (F:FM)
 | rg (b r:Nat) (F:FM) (left:Int->Int->Bool) (wB:Nat) (cur:Option (Int × Int × Int))
def QY (σ:Nat->Option Ow)(b:Nat):Prop:=∀ i o,σ i=some o->o.block≠some b
def Fd (r:Nat):Value:=.pointer (some ⟨r,0,none⟩)
def MpOk (P:Program)(K E:TypeId)(σ:Nat->Option Ow)(base:Nat)(w:World):MS->Prop
 | .no=>True
 | .mp b n F=>base<=b/\QY σ b/\∃ D:DataW Unit,w.ownsMap P K (plainElem P E) b n D/\Xh D F
 | .rg b r F left wB cur=>base<=b/\base<=r/\QY σ b/\QY σ r/\∃ (n:Nat) (D:DataW Unit) (lf:Lit->Bool),w.ranges P K (plainElem P E) b r n D lf wB/\Xh D F/\(∀ u v,DP u->DP v->lf (kl u v)=left u v) /\
   ∀ u v c,cur=some (u,v,c)->(Instr.entry (Fd r)).run P w=.ok (.tuple #[kv u v,.int .i64 c]) w
theorem Ic {σ σ':Nat->Option Ow}{w w':World}(hs:Stp σ w σ' w'){b:Nat}(hb:b<w.heap.size)(h:QY σ b):QY σ' b:=λi o' ho hb'=>by
 rcases hs.new i o' b ho hb' with h1|⟨j,o,h1,h2⟩
 .omega
 .exact h j o h1 h2
theorem Q0 {w w':World}{r b s c a:Nat}{d:Array Nat}{es:Array MapEntry}{v:Value}(j:w.heap[r]?=some (.mapIter (some b) s d c))(m:w.heap[b]?=some (.map es a))
  (f:w'.heap[r]?=some (.mapIter (some b) s d c)) (g:w'.heap[b]?=some (.map es a)) (h:(Instr.entry (Fd r)).run P w=.ok v w):(Instr.entry (Fd r)).run P w'=.ok v w':=by
 simp only [Fd,Instr.entry,getObj,Sem.run_bind,Sem.run,j,f,Result.andThen] at h ⊢;cases i:d.back? with
 | none=>simp [i,stuck] at h
 | some st =>
  simp only [i,Sem.run_bind,Sem.run,m,g,Result.andThen] at h ⊢;by_cases l:a=c
  .subst l;cases k:es.find? (λx=>x.born==st) with
   | none=>simp [k,unsupported] at h
   | some x =>
    simp_all
  simp_all
theorem MpOk.cV {σ σ':Nat->Option Ow}{w w':World}{base:Nat}{g:MS}(h:MpOk P K E σ base w g)(f:Stp σ w σ' w'):MpOk P K E σ' base w' g:=by
 cases g with
 | no=>trivial
 | mp b n F =>
  obtain ⟨x,q,D,o,p⟩:=h;have j:=o.lt;have G:=f.bu b j q;refine ⟨x,Ic f j q,D,?_,p⟩;obtain ⟨y,a,m,d⟩:=o;exact ⟨y,a,G.trans m,d⟩
 | rg b r F left wB cur =>
  obtain ⟨x,q,o,p,n,D,B,t,M,L,J⟩:=h;have l:=t.owns.lt;have k:=t.lt;have A:=f.bu b l o;have z:=f.bu r k p;obtain ⟨y,a,e,i,N,m,O,C,I,s,d⟩:=t;exact ⟨x,q,Ic f l o,Ic f k p,n,D,B,⟨y,a,e,i,N,A.trans m,O,C,I,z.trans s,d⟩,M,L,λu v c H=>Q0 s m (z.trans s) (A.trans m) (J u v c H)⟩
theorem MpOk.hf {σ:Nat->Option Ow}{w:World}{base a:Nat}{g:MS}(h:MpOk P K E σ base w g)(c:a<=base):MpOk P K E σ a w g:=by
 cases g with
 | no=>trivial
 | mp b n F=>exact ⟨fB c h.1,h.2⟩
 | rg b r F left wB cur=>exact ⟨fB c h.1,fB c h.2.1,h.2.2⟩
theorem Vp {w:World}{b:Nat}{es:Array MapEntry}{clock:Nat}(hb:w.heap[b]?=some (.map es clock)):∀ ad:Addr,ad.block=b->w.cell? ad=none:=λad e=>by simp [World.cell?,e,hb]
theorem TH {w:World}{r:Nat}{m:Option Nat}{s c:Nat}{seen:Array Nat}(hr:w.heap[r]?=some (.mapIter m s seen c)):∀ ad:Addr,ad.block=r->w.cell? ad=none:=λad e=>by simp [World.cell?,e,hr]
theorem Rel.ay {d:Nat->Prop}{H:AHeap}{σ:Nat->Option Ow}{w w':World}{row:Option Nat}(h:Rel d H σ w)(j:w.grownBy w' row)(q:∀ b,row=some b->QY σ b/\∀ ad:Addr,ad.block=b->w.cell? ad=none) :
  Rel d H σ w'/\Keeps (dQ d H σ) σ H.D w (dQ d H σ) σ H.D w':=by
 have r:Keeps (dQ d H σ) σ H.D w (dQ d H σ) σ H.D w':=⟨λad u v g=>⟨v,by
  have n:some ad.block≠row:=λe=>by rw [(q _ e.symm).2 ad rfl] at g;cases g
  exact (World.cell?_of_block (j.block ad.block (World.block_lt_of_cell? w ad g) n)).trans g⟩,λm t _ h=>⟨t,h,.inl rfl⟩,λ_ h=>h⟩
 refine ⟨⟨h.ce,h.b4,λm k p=>?_,h.inj,λi o c f a=>⟨dC (h.lt i o c f a).1 j.size,(h.lt i o c f a).2⟩,λc a=>dC (h.m0 c a) j.size⟩,r⟩;obtain ⟨o,f,l⟩:=h.aj m k p;obtain ⟨s,A,z,y⟩:=l.row;refine ⟨o,f,l.ah,l.ty,l.Y,l.F,s,A.kept j ?_,z,y.q r⟩;cases x:o.val.ownBlock with
 | none=>exact .inl rfl
 | some c=>exact .inr λe=>(q c e.symm).1 m o f x
theorem Stp.ay {σ0 σ:Nat->Option Ow}{w0 w w':World}{row:Option Nat}(h:Stp σ0 w0 σ w)(hg:w.grownBy w' row)(hr:∀ b,row=some b->w0.heap.size<=b):Stp σ0 w0 σ w' :=
 ⟨hg.os.trans h.os,hg.tape.trans h.tape,hg.output.trans h.output,fB h.size hg.size,λb hb hn=>(hg.block b (dC hb h.size) (λe=>by have:=hr b e.symm;omega)).trans (h.bu b hb hn),h.new⟩
structure SG (P:Program) (K E:TypeId) (n:Nat) (M0:Nat->Prop) (H0:AHeap) (σ0:Nat->Option Ow) (w0:World) (g:MS) (e:eB) (H:AHeap) (σ:Nat->Option Ow) (a:Act) (w:World):Prop where
 st:St n M0 H σ w e a
 cV:Stp σ0 w0 σ w
 q:Keeps (dQ M0 H0 σ0) σ0 H0.D w0 (dQ M0 H σ) σ H.D w
 map:MpOk P K E σ w0.heap.size w g
section
variable {n:Nat} {M0:Nat→Prop} {H0 H:AHeap} {σ0 σ:Nat→Option Ow} {w0 w w':World} {g g':MS} {e:eB} {a:Act}
theorem SG.ay {row:Option Nat}(h:SG P K E n M0 H0 σ0 w0 g e H σ a w)(j:w.grownBy w' row)(i:∀ b,row=some b->w0.heap.size<=b/\QY σ b/\∀ ad:Addr,ad.block=b->w.cell? ad=none)
  (o:MpOk P K E σ w0.heap.size w' g') {c:Option Tmp} (m:sG n c=true) {v:Value} {d:D} (l:RepV (dQ M0 H σ) σ H.D w' v d):SG P K E n M0 H0 σ0 w0 g' (oO e c d) H σ (a.put c v) w':=by
 obtain ⟨p,k⟩:=h.st.bx.ay j λb f=>(i b f).2;exact ⟨h.st.put p k m l,h.cV.ay j λb f=>(i b f).1,h.q.trans k,o⟩
def PQ (P:Program)(K E:TypeId)(n:Nat)(M0:Nat->Prop)(H0:AHeap)(σ0:Nat->Option Ow)(w0:World)(X:MS->eB->AHeap->Prop)(a:Act)(w:World):Prop:=∃ g e H σ,X g e H/\SG P K E n M0 H0 σ0 w0 g e H σ a w
end
abbrev PG:=Exit->MS->eB->AHeap->Prop
def WpG (P:Program)(K E:TypeId)(n:Nat)(x:Code)(Q:PG)(g:MS)(e:eB)(H:AHeap):Prop :=
 ∀ M0 H0 σ0 w0 σ a w,SG P K E n M0 H0 σ0 w0 g e H σ a w->x.wp P (λex a w=>PQ P K E n M0 H0 σ0 w0 (Q ex) a w) a w
def J5 (R:MS->eB->AHeap->Prop)(Q:PG):PG
 | .normal,g,e,H=>R g e H
 | ex,g,e,H=>Q ex g e H
def MH (id:Nat)(Q:PG):PG
 | .exit id',g,e,H=>if id'=id then Q .normal g e H else Q (.exit id') g e H
 | ex,g,e,H=>Q ex g e H
variable {n:Nat} {c:Cfg} {Q:PG} {g:MS} {e:eB} {H:AHeap}
theorem g8 {x:Code}(hm:P.follows .mixedOrders=true)(hok:qP c n x=true)(h:pI P c x (λex e H=>Q ex g e H) e H):WpG P K E n x Q g e H :=
 λM0 H0 σ0 w0 σ a w hS=>jE (pU hm x _ e H h hok σ w a hS.st) λex a' w' ⟨e',H',σ',hq,hS',hst',hk'⟩=>⟨g,e',H',σ',hq,hS',hS.cV.trans hst',hS.q.trans hk',hS.map.cV hst'⟩
theorem WpG.seq {x y:Code}(h:WpG P K E n x (J5 (WpG P K E n y Q) Q) g e H):WpG P K E n (.seq x y) Q g e H:=λM0 H0 σ0 w0 σ a w hS=>by
 refine wp_seq (jE (h M0 H0 σ0 w0 σ a w hS) λex a' w' hc=>?_);cases ex<;>first|exact hc|skip
 obtain ⟨g',e',H',σ',hq,hS'⟩:=hc;exact hq M0 H0 σ0 w0 σ' a' w' hS'
theorem d9 {x y:Code}(h:∀ R:MS->eB->AHeap->Prop,(∀ g e H,WpG P K E n y Q g e H->R g e H)->WpG P K E n x (J5 R Q) g e H):WpG P K E n (.seq x y) Q g e H:=.seq (h _ λ_ _ _ h=>h)
@[go_sem] theorem VY {R:MS->eB->AHeap->Prop}{g:MS}{e:eB}{H:AHeap}:J5 R Q .normal g e H=R g e H:=rfl
@[go_sem] theorem YG {R:MS->eB->AHeap->Prop}{g:MS}{e:eB}{H:AHeap}:J5 R Q .ret g e H=Q .ret g e H:=rfl
@[go_sem] theorem Xp {R:MS->eB->AHeap->Prop}{g:MS}{e:eB}{H:AHeap}{i:Nat}:J5 R Q (.exit i) g e H=Q (.exit i) g e H:=rfl
@[go_sem] theorem Yw {i:Nat}{g:MS}{e:eB}{H:AHeap}:MH i Q .ret g e H=Q .ret g e H:=rfl
@[go_sem] theorem VO {i:Nat}{g:MS}{e:eB}{H:AHeap}:MH i Q .normal g e H=Q .normal g e H:=rfl
@[go_sem] theorem Xd {i j:Nat}{g:MS}{e:eB}{H:AHeap}:MH i Q (.exit j) g e H=if j=i then Q .normal g e H else Q (.exit j) g e H:=rfl
theorem WpG.cond {x:Operand}{y z:Code}{t:Bool}(hx:fP e x=.bool t)(h1:t=true->WpG P K E n y Q g e H)(h2:t=false->WpG P K E n z Q g e H):WpG P K E n (.cond x y z) Q g e H:=λM0 H0 σ0 w0 σ a w hS=>by
 have hv:=hS.st.b2.ev x;rw [hx] at hv;have hc:a.eval x=.bool t:=by generalize a.eval x=v at hv;cases hv;rfl
 exact wp_cond_split hc (λht=>h1 ht M0 H0 σ0 w0 σ a w hS) λht=>h2 ht M0 H0 σ0 w0 σ a w hS
theorem WpG.block {id:Nat}{b:Code}(h:WpG P K E n b (MH id Q) g e H):WpG P K E n (.block id b) Q g e H:=λM0 H0 σ0 w0 σ a w hS=>by
 refine wp_block (jE (h M0 H0 σ0 w0 σ a w hS) λex a' w' hc=>?_);cases ex<;>first|exact hc|skip
 rename_i id';obtain ⟨g',e',H',σ',hq,hS'⟩:=hc;by_cases hid:id'=id
 .subst hid;show (if id'=id' then PQ P K E n M0 H0 σ0 w0 (Q .normal) a' w' else _);rw [if_pos rfl];refine ⟨g',e',H',σ',?_,hS'⟩;have h':(if id'=id' then Q .normal g' e' H' else Q (.exit id') g' e' H'):=hq;rw [if_pos rfl] at h';exact h'
 .show (if id'=id then PQ P K E n M0 H0 σ0 w0 (Q .normal) a' w' else PQ P K E n M0 H0 σ0 w0 (Q (.exit id')) a' w');rw [if_neg hid];refine ⟨g',e',H',σ',?_,hS'⟩;have h':(if id'=id then Q .normal g' e' H' else Q (.exit id') g' e' H'):=hq;rw [if_neg hid] at h';exact h'
theorem WpG.loop {b:Code}{ι:Type}(I:ι->MS->eB->AHeap->Prop)(m:ι->Nat)(x0:ι)(h0:I x0 g e H)(hI:∀ x g e H,I x g e H->WpG P K E n b (J5 (λg' e' H'=>∃ x',m x'<m x/\I x' g' e' H') Q) g e H):WpG P K E n (.loop b) Q g e H :=
 λM0 H0 σ0 w0 σ a w hS=>by
 let J:Nat->Act->World->Prop:=λk a' w'=>∃ g e H σ x,m x=k/\I x g e H/\SG P K E n M0 H0 σ0 w0 g e H σ a' w'
 have hJ0:J (m x0) a w:=⟨g,e,H,σ,x0,rfl,h0,hS⟩
 classical
 let μ:Act->World->Nat:=λa' w'=>if hx:∃ k,J k a' w' then Classical.choose (gU hx) else 0
 refine wp_loop (λa' w'=>∃ k,J k a' w') μ ⟨_,hJ0⟩ λa' w' hx=>?_;have hμ:μ a' w'=Classical.choose (gU hx):=by simp only [μ,dif_pos hx]
 obtain ⟨g1,e1,H1,σ1,x1,hx1,hi,hS1⟩:=(zM (gU hx)).1;refine jE (hI x1 g1 e1 H1 hi M0 H0 σ0 w0 σ1 a' w' hS1) λex a'' w'' hc=>?_;cases ex<;>first|exact hc|skip
 obtain ⟨g2,e2,H2,σ2,⟨x2,hlt,hi2⟩,hS2⟩:=hc;have hx2:∃ k,J k a'' w'':=⟨m x2,g2,e2,H2,σ2,x2,rfl,hi2,hS2⟩;refine ⟨hx2,?_⟩;have:μ a'' w''=Classical.choose (gU hx2):=by simp only [μ,dif_pos hx2]
 rw [this,hμ];refine Nat.lt_of_le_of_lt ?_ (hx1 ▸ hlt);rcases bX (m x2) (Classical.choose (gU hx2)) with hlt'|hge
 .exact absurd ⟨g2,e2,H2,σ2,x2,rfl,hi2,hS2⟩ ((zM (gU hx2)).2 _ hlt')
 .exact hge
theorem WpG.ret (h:Q .ret g e H):WpG P K E n .ret Q g e H:=λM0 H0 σ0 w0 σ a w hS=>wp_ret ⟨g,e,H,σ,h,hS⟩
theorem WpG.skip (h:Q .normal g e H):WpG P K E n .skip Q g e H:=λM0 H0 σ0 w0 σ a w hS=>wp_skip ⟨g,e,H,σ,h,hS⟩
theorem WpG.exit {id:Nat}(h:Q (.exit id) g e H):WpG P K E n (.exit id) Q g e H:=λM0 H0 σ0 w0 σ a w hS=>wp_exit ⟨g,e,H,σ,h,hS⟩
/-! ### operations -/
def OpsG (P:Program)(K E:TypeId)(n:Nat)(ops:Array Oper)(l:List Oper)(X:MS->eB->AHeap->Prop)(g:MS)(e:eB)(H:AHeap):Prop :=
 ∀ M0 H0 σ0 w0 σ a w (Q:Exit->Act->World->Prop),SG P K E n M0 H0 σ0 w0 g e H σ a w->(∀ a' w',PQ P K E n M0 H0 σ0 w0 X a' w'->Q .normal a' w')->wpList P ops Q l a w
theorem WpG.region {id:Nat}{ops:Array Oper}(h:OpsG P K E n ops ops.toList (Q .normal) g e H):WpG P K E n (.region id ops false) Q g e H:=λM0 H0 σ0 w0 σ a w hS=>wp_region_list (h M0 H0 σ0 w0 σ a w _ hS λ_ _ hc=>hc)
variable {ops:Array Oper} {l:List Oper} {o:Oper} {X:MS→eB→AHeap→Prop}
theorem OpsG.nil (h:X g e H):OpsG P K E n ops [] X g e H:=λM0 H0 σ0 w0 σ a w Q hS hQ=>wpList_nil (hQ a w ⟨g,e,H,σ,h,hS⟩)
theorem OpsG.ff {md:Nat->Bool}:∀ (l1:List Oper) {l2:List Oper} {e:eB} {H:AHeap},(∀ o∈l1,sG n o.dst=true)->oI P md ops l1 e H (λe' H'=>OpsG P K E n ops l2 X g e' H')->OpsG P K E n ops (l1++l2) X g e H
 | [],l2,e,H,hd,h=>h
 | o :: l1,l2,e,H,hd,h=>λM0 H0 σ0 w0 σ a w Q hS hQ=>by
  unfold oI at h;have hs:=AD (Q:=Q) h hS.st (λhn=>nG _ (hS.st.bx.b4 _ hn)) (hd o aE);have:=StepC.mono (K':=wpList P ops Q (l1++l2)) (λa' w' ⟨v,H',F,σ',hk,hS',hst,hkp⟩ =>
   OpsG.ff l1 (λo' ho'=>hd o' (by simp [ho'])) hk M0 H0 σ0 w0 σ' a' w' Q ⟨hS',hS.cV.trans hst,hS.q.trans hkp,hS.map.cV hst⟩ hQ) hs
  unfold StepC at this;show wpList P ops Q (o :: (l1++l2)) a w;unfold wpList;exact this
theorem OpsG.take {md:Nat->Bool}(k:Nat)(b:((l.take k).all λo=>sG n o.dst)=true)(h:∀ R:eB->AHeap->Prop,(∀ e' H',OpsG P K E n ops (l.drop k) X g e' H'->R e' H')->oI P md ops (l.take k) e H R):OpsG P K E n ops l X g e H:=by
 have:=OpsG.ff (g:=g) (X:=X) (P:=P) (K:=K) (E:=E) (n:=n) (ops:=ops) (md:=md) (l.take k) (l2:=l.drop k) (λo a=>(b9.1 b) o a) (h _ λ_ _ h=>h);simp_all
theorem OpsG.all {md:Nat->Bool}(b:(l.all λo=>sG n o.dst)=true)(h:∀ R:eB->AHeap->Prop,(∀ e' H',X g e' H'->R e' H')->oI P md ops l e H R):OpsG P K E n ops l X g e H:=by
 have:=OpsG.ff (g:=g) (X:=X) (P:=P) (K:=K) (E:=E) (n:=n) (ops:=ops) (md:=md) l (l2:=[]) (λo a=>(b9.1 b) o a) (h _ λ_ _ h=>OpsG.nil h);grind
theorem Ik {d:Nat->Prop}{σ:Nat->Option Ow}{w:World}{a:Act}(c:St n d H σ w e a){m:Operand}{v:Value}(b:fP e m=.cst v):a.eval m=v:=by
 have h:=c.b2.ev m;rw [b] at h;generalize a.eval m=x at h;cases h;rfl
theorem R8 {k:Nat->Prop}{σ:Nat->Option Ow}{w:World}{a:Act}(g:St n k H σ w e a){x:Operand}{u v:Int}(d:fP e x=.agg [.int .i64 u,.int .i64 v]):a.eval x=kv u v:=by
 have h:=g.b2.ev x;rw [d] at h;generalize a.eval x=y at h;cases h
 rename_i c f l b;match c,f with
 | [p,q],_ =>
  have j:=b 0 p _ rfl rfl;have i:=b 1 q _ rfl rfl;cases j;cases i;rfl
theorem Yj {d:Nat->Prop}{σ:Nat->Option Ow}{w:World}{a:Act}(c:St n d H σ w e a){x:Operand}{k:IntKind}{u:Int}(b:fP e x=.int k u):a.eval x=.int k u:=by
 have h:=c.b2.ev x;rw [b] at h;generalize a.eval x=y at h;cases h;rfl
theorem NO {M:Nat->Prop}{σ:Nat->Option Ow}{N:Nat->Prop}{w:World}(u v:Int):RepV M σ N w (kv u v) (.agg [.int .i64 u,.int .i64 v]) :=
 .agg [.int .i64 u,.int .i64 v] _ rfl (by simp [Value.oneCell']) λj x d hx hd=>by
  match j with
  | 0=>simp at hx hd;subst hx;subst hd;exact .int _ _
  | 1=>simp at hx hd;subst hx;subst hd;exact .int _ _
  | j+2=>simp at hx
theorem Gi {M:Nat->Prop}{σ:Nat->Option Ow}{N:Nat->Prop}{w:World}{vs:List Value}{ds:UN}(hl:vs.length=ds.length)(hr:∀ (j:Nat) (u:Value) (d:D),vs[j]?=some u->ds[j]?=some d->RepV M σ N w u d):RepV M σ N w (.tuple vs.toArray) (.tup ds):=.tup _ _ hl hr
theorem OpsG.make (hT:MapT P T K E){t:TypeId}(hop:o.op=.makeMap t none)(hg:o.guard=none)(hd:sG n o.dst=true)(h:∀ b,OpsG P K E n ops l X (.mp b 0 λ_ _=>none) (oO e o.dst (.cst (.map (some b)))) H):OpsG P K E n ops (o :: l) X .no e H :=
 λM0 H0 σ0 w0 σ a w Q hS hQ=>by
 refine wpList_plain hg λK' hK'=>?_;unfold Oper.wp;simp only [execOp,hop,RowKit.run_makeMap,Option.map_none,Sem.run_bind,Sem.run_pure,Result.andThen,Oper.upon_value];refine hK' _ _ (h w.heap.size M0 H0 σ0 w0 σ _ _ Q (hS.ay (g':=.mp w.heap.size 0 λ_ _=>none) (World.grownBy_alloc w _ none) aE ⟨hS.cV.size,λi o ho hb=>?_,_,World.ownsMap_made w P K _,λu v _ _=>⟨rfl,by simp⟩⟩ hd (.cst _)) hQ);have:=(hS.st.bx.lt i o _ ho hb).1;omega
theorem TX (hT:MapT P T K E){t:TypeId}(ht:t=T){m x:Operand}(hop:o.op=.lookup t m x true)(hg:o.guard=none)(hd:sG n o.dst=true){b k:Nat}{F:FM}(hm:fP e m=.cst (.map (some b))){u v:Int}(hx:fP e x=.agg [.int .i64 u,.int .i64 v])(hu:DP u)(hv:DP v)
  (h:OpsG P K E n ops l X (.mp b k F) (oO e o.dst (.tup [.int .i64 ((F u v).getD 0),.bool (F u v).isSome])) H):OpsG P K E n ops (o :: l) X (.mp b k F) e H :=
 λM0 H0 σ0 w0 σ a w Q hS hQ=>by
 subst ht;obtain ⟨m1,m2,D,m3,m4⟩:=hS.map;obtain ⟨r1,r2⟩:=m4 u v hu hv;refine wpList_lookup_own_ok w hg m x t hop K E hT.ep hT.t _ (hT.z w) (.lit (.int .i64 0)) [] (plainElem_int hT.e (Mp ⟨aD,aD⟩)) b k D (Ik hS.st hm) m3 (kv u v) (kl u v) (R8 hS.st hx) (hT.er u v hu hv) λy ps hy=>?_;obtain ⟨c,rfl,hc,_⟩:=plainElem_int_inv hT.e hy;have hcv:c=(F u v).getD 0:=by
  simp only [Prod.mk.injEq] at hc;cases hF:F u v with
  | none =>
   rw [hF] at r1;have:=Maps.atKey_of_not_has r1 (.lit (.int .i64 0));rw [this] at hc;have:=hc.1;simp at this;simp [this]
  | some c' =>
   have:=r2 c' hF (.lit (.int .i64 0));rw [this] at hc;have:=hc.1;simp at this;simp [this]
 subst hcv;rw [r1];refine h M0 H0 σ0 w0 σ _ _ Q (hS.ay (row:=none) ⟨rfl,rfl,rfl,bF _,λ_ _ _=>rfl⟩ aE hS.map hd (Gi (vs:=[_,_]) rfl λj y d hy hd=>?_)) hQ;match j with
 | 0=>simp at hy hd;subst hy;subst hd;exact .int _ _
 | 1=>simp at hy hd;subst hy;subst hd;exact .bool _
 | j+2=>simp at hy
theorem OpsG.store (hT:MapT P T K E){t:TypeId}(ht:t=T){m x y:Operand}(hop:o.op=.mapUpdate t m x y)(hg:o.guard=none)(hd:sG n o.dst=true){b k:Nat}{F:FM}(hm:fP e m=.cst (.map (some b))){u v c:Int}(hx:fP e x=.agg [.int .i64 u,.int .i64 v])(hy:fP e y=.int .i64 c)(hu:DP u)(hv:DP v)(hc:DP c)(hk:k<1000000)
  (h:OpsG P K E n ops l X (.mp b (k+1) (LG F u v c)) (oO e o.dst .junk) H):OpsG P K E n ops (o :: l) X (.mp b k F) e H :=
 λM0 H0 σ0 w0 σ a w Q hS hQ=>by
 subst ht;obtain ⟨m1,m2,D,m3,m4⟩:=hS.map;have hcm:∀ ad:Addr,ad.block=b->w.cell? ad=none:=by obtain ⟨es,clock,hb,_⟩:=m3;exact Vp hb
 refine wpList_mapUpdate_own w hg m x y t hop K E hT.ep hT.t _ b k D (Ik hS.st hm) m3 (by simp only [maxLen];omega) (kv u v) (.int .i64 c) (kl u v) (R8 hS.st hx) (Yj hS.st hy) (hT.er u v hu hv) (.lit (.int .i64 c)) [] (plainElem_int hT.e (Mp hc)) λw' hw1 hw2=>?_;refine h M0 H0 σ0 w0 σ _ _ Q (hS.ay (g':=.mp b (k+1) (LG F u v c)) hw2 (λb' hb'=>by cases hb';exact ⟨m1,m2,hcm⟩) ⟨m1,m2,_,hw1,λu' v' hu' hv'=>?_⟩ hd (.junk _)) hQ;unfold LG;by_cases he:u'=u/\v'=v
 .obtain ⟨rfl,rfl⟩:=he;rw [if_pos ⟨rfl,rfl⟩];have hkl:=hT.ep.key (hT.er u' v' hu' hv');exact ⟨Maps.has_put_same m3.isMap hkl _,λc' hc' z=>by cases hc';exact Maps.atKey_put_same m3.isMap hkl _ _⟩
 .rw [if_neg he];have hne:kl u' v'≠kl u v:=λe'=>he (hT.inj hu' hv' hu hv e');obtain ⟨r1,r2⟩:=m4 u' v' hu' hv';exact ⟨(Maps.has_put_other hne _).trans r1,λc' hc' z=>(Maps.atKey_put_other hne _ _).trans (r2 c' hc' z)⟩
theorem OpsG.range (hT:MapT P T K E){t:TypeId}(ht:t=T){m:Operand}(hop:o.op=.range t m)(hg:o.guard=none)(hd:sG n o.dst=true){b k:Nat}{F:FM}(hm:fP e m=.cst (.map (some b)))
  (h:∀ r wB,OpsG P K E n ops l X (.rg b r F (λu v=>(F u v).isSome) wB none) (oO e o.dst (.cst (Fd r))) H):OpsG P K E n ops (o :: l) X (.mp b k F) e H :=
 λM0 H0 σ0 w0 σ a w Q hS hQ=>by
 subst ht;obtain ⟨m1,m2,D,m3,m4⟩:=hS.map;refine wpList_range_own w hg m t hop K E hT.ep hT.t _ b k D (Ik hS.st hm) m3 λw' hw1 hw2 hw3=>?_;refine h w.heap.size (Maps.size D) M0 H0 σ0 w0 σ _ _ Q (hS.ay (g':=.rg b w.heap.size F (λu v=>(F u v).isSome) (Maps.size D) none) hw2 aE ⟨m1,hS.cV.size,m2,λi o ho hb=>?_,k,D,_,hw1,m4,λu v hu hv=>(m4 u v hu hv).1,by simp⟩ hd (.cst _)) hQ;have:=(hS.st.bx.lt i o _ ho hb).1;omega
theorem OpsG.next (hT:MapT P T K E){it:Operand}(hop:o.op=.next it false)(hg:o.guard=none)(hd:sG n o.dst=true){b r wB:Nat}{F:FM}{left:Int->Int->Bool}{cur:Option (Int × Int × Int)}(hit:fP e it=.cst (Fd r))
  (h1:(∀ u v,DP u->DP v->left u v=false)->OpsG P K E n ops l X (.rg b r F left wB cur) (oO e o.dst (.tup [.bool false])) H)
  (h2:∀ u v c cnt',DP u->DP v->left u v=true->F u v=some c->cnt'<wB->OpsG P K E n ops l X (.rg b r F (λu' v'=>left u' v'&&!decide (u'=u/\v'=v)) cnt' (some (u,v,c))) (oO e o.dst (.tup [.bool true,.agg [.int .i64 u,.int .i64 v],.int .i64 c])) H) :
  OpsG P K E n ops (o :: l) X (.rg b r F left wB cur) e H :=
 λM0 H0 σ0 w0 σ a w Q hS hQ=>by
 obtain ⟨m1,m2,m3,m4,k,D,lf,m5,m6,m7,m8⟩:=hS.map;have hcm:∀ ad:Addr,ad.block=r->w.cell? ad=none:=by obtain ⟨es,clock,since,seen,c0,hb,F',hn,hD,hr,_⟩:=m5;exact TH hr
 refine wpList_next_ranges w hg it hop K hT.ep (plainElem P E) (λp:Int × Int=>kv p.1 p.2) (Value.int .i64) (λkey l hkey=>?_) (λv y hv=>?_) b r k D lf wB (Ik hS.st hit) m5 (λhc hl=>?_) λx c l' y w' cnt' hkey hlk hv hat hrg hlt hgr hsz hen=>?_
 .obtain ⟨u,v,_,_,rfl⟩:=hT.hn key l hkey;exact ⟨(u,v),rfl⟩
 .obtain ⟨c,rfl,_⟩:=plainElem_int_inv hT.e hv;exact ⟨c,rfl⟩
 .refine h1 (λu v hu hv=>by rw [<- m7 u v hu hv];exact hl _) M0 H0 σ0 w0 σ _ _ Q (hS.ay (row:=none) ⟨rfl,rfl,rfl,bF _,λ_ _ _=>rfl⟩ aE hS.map hd (Gi (vs:=[_]) rfl λj y d hy hd=>?_)) hQ;match j with
  | 0=>simp at hy hd;subst hy;subst hd;exact .bool _
  | j+1=>simp at hy
 .obtain ⟨u,v⟩:=x;simp only at hkey hen;obtain ⟨u',v',hu,hv',he⟩:=hT.hn _ _ hkey;simp only [kv,Value.agg.injEq,Array.mk.injEq,List.cons.injEq,Value.int.injEq,true_and,and_true] at he;obtain ⟨rfl,rfl⟩:=he;rw [hT.er u v hu hv'] at hkey;cases hkey
  obtain ⟨c',ec,rfl,hwc⟩:=plainElem_int_inv hT.e hv;cases ec
  have hhas:=Maps.has_true_of_atKey hat
  obtain ⟨r1,r2⟩:=m6 u v hu hv';rw [hhas] at r1;obtain ⟨c2,hc2⟩:=gW.1 r1.symm;have hcc:c2=c:=by
   have e1:=r2 c2 hc2 .nil;rw [hat .nil] at e1;simp at e1;exact e1.symm
  subst hcc;refine h2 u v c2 cnt' hu hv' (by rw [<- m7 u v hu hv'];exact hlk) hc2 hlt M0 H0 σ0 w0 σ _ _ Q (hS.ay (g':=.rg b r F (λu' v'=>left u' v'&&!decide (u'=u/\v'=v)) cnt' (some (u,v,c2))) hgr (λb' hb'=>by cases hb';exact ⟨m2,m4,hcm⟩) ⟨m1,m2,m3,m4,k,D,_,hrg,m6,λa1 a2 ha1 ha2=>?_,λa1 a2 a3 ha=>?_⟩ hd (Gi (vs:=[_,_,_]) rfl λj y d hy hd=>?_)) hQ
  .rw [m7 a1 a2 ha1 ha2];congr 2;rw [aT];constructor
   .intro h;exact decide_eq_true (hT.inj ha1 ha2 hu hv' (WideAt.sameKey_eq h))
   .intro h;obtain ⟨rfl,rfl⟩:=of_decide_eq_true h;exact WideAt.sameKey_self (hT.ep.key (hT.er _ _ hu hv'))
  .cases ha;exact hen
  .match j with
   | 0=>simp at hy hd;subst hy;subst hd;exact .bool _
   | 1=>simp at hy hd;subst hy;subst hd;exact NO _ _
   | 2=>simp at hy hd;subst hy;subst hd;exact .int _ _
   | j+3=>simp at hy
theorem OpsG.entry {it:Operand}(hop:o.op=.entry it)(hg:o.guard=none)(hd:sG n o.dst=true){b r wB:Nat}{F:FM}{left:Int->Int->Bool}{u v c:Int}(hit:fP e it=.cst (Fd r))
  (h:OpsG P K E n ops l X (.rg b r F left wB (some (u,v,c))) (oO e o.dst (.tup [.agg [.int .i64 u,.int .i64 v],.int .i64 c])) H):OpsG P K E n ops (o :: l) X (.rg b r F left wB (some (u,v,c))) e H :=
 λM0 H0 σ0 w0 σ a w Q hS hQ=>by
 obtain ⟨m1,m2,m3,m4,k,D,lf,m5,m6,m7,m8⟩:=hS.map;have hrun:=m8 u v c rfl;refine wpList_plain hg λK' hK'=>?_;unfold Oper.wp;have hit':=Ik hS.st hit;simp only [execOp,hop,hit',hrun,Sem.run_bind,Sem.run_pure,Result.andThen,Oper.upon_value];refine hK' _ _ (h M0 H0 σ0 w0 σ _ _ Q (hS.ay (row:=none) ⟨rfl,rfl,rfl,bF _,λ_ _ _=>rfl⟩ aE hS.map hd (Gi (vs:=[_,_]) rfl λj y d hy hd=>?_)) hQ);match j with
 | 0=>simp at hy hd;subst hy;subst hd;exact NO _ _
 | 1=>simp at hy hd;subst hy;subst hd;exact .int _ _
 | j+2=>simp at hy
/-! ### calls -/
def GCalls (P:Program)(K E:TypeId)(f:FuncId)(args:UN)(H:AHeap)(Q:D->AHeap->MS->Prop):Prop :=
 Xj P f/\∀ (M0:Nat->Prop) (σ:Nat->Option Ow) (w:World) (vals:List Value),Rel M0 H σ w->RepL (dQ M0 H σ) σ H.D w vals args ->
  Calls P f vals.toArray w λe w'=>∃ v d H' σ' g,e=.returned v/\Rel M0 H' σ' w'/\RepV (dQ M0 H' σ') σ' H'.D w' v d/\Stp σ w σ' w'/\Keeps (dQ M0 H σ) σ H.D w (dQ M0 H' σ') σ' H'.D w'/\MpOk P K E σ' w.heap.size w' g/\Q d H' g
theorem JV {f:FuncId}{args:UN}{Q:D->AHeap->MS->Prop}{Q':D->AHeap->Prop}(h:GCalls P K E f args H Q)(hq:∀ d H' g,Q d H' g->Q' d H'):ACalls P f args H Q' :=
 ⟨h.1,λM0 σ w vals hR ha=>(h.2 M0 σ w vals hR ha).mono λe w' ⟨v,d,H',σ',g,a,b,c,s,k,_,q⟩=>⟨v,d,H',σ',a,b,c,s,k,hq _ _ _ q⟩⟩
def SP (P:Program)(rs:List ResultVar)(Q:D->AHeap->MS->Prop):PG:=λex g e H=>SO P rs (λd H'=>Q d H' g) ex e H
theorem Ar {f:FuncId}{fn:Func}{x:Code}{rs:List ResultVar}{args:UN}{Q:D->AHeap->MS->Prop}(r:P.funcs[f]?=some fn)(s:fn.body=some x)
  (n:(fn.name=="runtime.NumGoroutine")=false) (c:args.length<=fn.ntmps) (h:WpG P K E fn.ntmps x (SP P rs Q) .no (Dl args) H) (u:fn.results.toList=rs:=by exact V5):GCalls P K E f args H Q:=by
 subst u;refine ⟨⟨fn,r,n,by simp [s]⟩,λe σ w q C A=>calls_of_wp r s ?_⟩;have B:=WN C A c;refine jE (h e H σ w σ _ w ⟨B,.refl _ _,.refl _ _ _ _,trivial⟩) λL t a z=>?_;obtain ⟨g,M,p,σ',i,b,m,y,F⟩:=z;have o:DH P fn.results.toList M p (λl=>Q (GI l) p g)->t.defers=[]/\∃ v,(results fn t.tmps).run P a=.ok v a /\
   ∃ v2 d H2 σ2 g2,Ending.returned v=.returned v2/\Rel e H2 σ2 a/\RepV (dQ e H2 σ2) σ2 H2.D a v2 d/\Stp σ w σ2 a/\Keeps (dQ e H σ) σ H.D w (dQ e H2 σ2) σ2 H2.D a/\MpOk P K E σ2 w.heap.size a g2/\Q d H2 g2:=by
  intro i;obtain ⟨N,l,J,I,G⟩:=yS b _ _ i;obtain ⟨v,k,j⟩:=ER (fn:=fn) J I;exact ⟨b.defers,v,k,v,_,p,σ',g,rfl,b.bx,j,m,y,F,G⟩
 cases L<;>first|exact o i|exact i.elim
theorem OpsG.call {f:FuncId}{args:UN}{Q:D->AHeap->MS->Prop}(hc:iL e o=some (f,args))(hg:o.guard=none)(hd:sG n o.dst=true)(hA:GCalls P K E f args H Q)(h:∀ d H' g',Q d H' g'->OpsG P K E n ops l X g' (oO e o.dst d) H') :
  OpsG P K E n ops (o :: l) X .no e H:=λM0 H0 σ0 w0 σ a w Q' hS hQ=>by
 refine wpList_plain hg λK' hK'=>?_;obtain ⟨vals,hrun,hrep⟩:=Cg (P:=P) (λx _=>hS.st.b2.ev x) hc hA.1;refine BF (args:=args) hrun ((hA.2 M0 σ w vals hS.st.bx hrep).mono λe' w' ⟨v,d,H',σ',g',he,hR',hv,hst,hk,hM,hq⟩=>?_);exact ⟨v,he,hK' _ _ (h d H' g' hq M0 H0 σ0 w0 σ' _ _ Q' ⟨hS.st.put hR' hk hd hv,hS.cV.trans hst,hS.q.trans hk,hM.hf hS.cV.size⟩ hQ)⟩
end
end Go.Abs
end
section
set_option maxRecDepth 100000
set_option maxHeartbeats 4000000
open Go Go.Proofs Tryz
namespace Go.Abs
@[go_sem] theorem ZP (H:AHeap)(a b c d:Nat):jG H (.ptr a b c d)=.ptr a b c d:=rfl
@[go_sem] theorem XD (a b c d:Nat):eG (.ptr a b c d)=[]:=rfl
@[go_sem] theorem aaQ (H:AHeap)(i:Nat):(H.frz i).next=H.next:=(QW H i).2
@[go_sem] theorem adF (H:AHeap)(i j:Nat):(H.frz i).get j=if j=i then (H.get i).map (λk=>{ k with fz:=true }) else H.get j:=by
 by_cases h:j=i
 .subst h;unfold AHeap.frz;cases a:H.get j<;>simp [AHeap.put,a]
 .rw [if_neg h,KQ H i j h]
theorem Py {P:Program}{md:Nat->Bool}{ops:Array Oper}{a:List Oper}{e:eB}{c:Option Tmp}{K:eB->AHeap->Prop}{f:FuncId}{args args':UN}{H:AHeap}(m:args.map Te=args')(h:f7 P md ops a e c K f args' H):f7 P md ops a e c K f args H:=by
 subst m;unfold f7 at h ⊢;exact ⟨h.1,λo σ w b n g=>h.2 o σ w b n ⟨by simpa using g.len,λj u d l i=>by
  rw [aM,bU] at i;obtain ⟨y,k,rfl⟩:=i;exact Me (g.Z j u y l k)⟩⟩
structure Srch where
 t:Types
 p:Graph
 g:Graph
 pn:V2
 pe:V2
 inj:Bool
def Vc (y:Edge):V2:=[y.type,y.w,y.M]
def At (l:V2)(i k:Nat):Bool:=decide (l[i]?.getD (-1)<0)||decide (l[i]?.getD (-1)=(k:Int))
def uT (t:Types)(a b:Int):Bool:=mem (t.aw b.toNat) a
def Yk (p:Graph)(ns:V2)(i:Nat):Edge:=⟨(p.j[i]?.getD cY).type,ns[(p.j[i]?.getD cY).w.toNat]?.getD 0,ns[(p.j[i]?.getD cY).M.toNat]?.getD 0⟩
def Aq (S:Srch)(ns:V2)(i k:Nat):Bool:=decide (Vc (S.g.j[k]?.getD cY)=Vc (Yk S.p ns i))
def Kt (S:Srch)(l:V2)(k:Nat):Bool:=At S.pn l.length k&&(!(S.inj&&mem l k)&&uT S.t (S.p.h[l.length]?.getD 0) (S.g.h[k]?.getD 0))
def RN (S:Srch)(ns l:V2)(k:Nat):Bool:=At S.pe l.length k&&(!(S.inj&&mem l k)&&Aq S ns l.length k)
def Ja (S:Srch)(N:Nat)(ns:V2):Nat->V2->List Part->List Part
 | 0,l,ou=>if N<=ou.length then ou else ou++[⟨ns,l⟩]
 | d+1,l,ou=>if N<=ou.length then ou else (List.range S.g.j.length).foldl (λou k=>if RN S ns l k=true then Ja S N ns d (l++[(k:Int)]) ou else ou) ou
def BR (S:Srch)(l:V2)(i:Nat):Bool:=decide ((l.length:Int)<=(S.p.j[i]?.getD cY).w)||decide ((l.length:Int)<=(S.p.j[i]?.getD cY).M)||(List.range S.g.j.length).any (Aq S l i)
def v8 (S:Srch)(l:V2):Bool:=(List.range S.p.j.length).all (BR S l)
def Hy (S:Srch)(l:V2)(i:Nat):Bool:=decide (max (S.p.j[i]?.getD cY).w (S.p.j[i]?.getD cY).M≠(l.length:Int) - 1)||(List.range S.g.j.length).any λk=>At S.pe i k&&Aq S l i k
def vC (S:Srch)(l:V2):Bool:=(List.range S.p.j.length).all (Hy S l)
def P9 (S:Srch)(N:Nat):Nat->V2->List Part->List Part
 | 0,l,ou=>if N<=ou.length\/v8 S l=false then ou else Ja S N l S.p.j.length [] ou
 | d+1,l,ou=>if N<=ou.length\/v8 S l=false then ou else (List.range S.g.h.length).foldl (λou k=>if Kt S l k=true then P9 S N d (l++[(k:Int)]) ou else ou) ou
def RG (S:Srch)(N:Nat):Nat->V2->List Part->List Part
 | 0,l,ou=>if N<=ou.length then ou else Ja S N l S.p.j.length [] ou
 | d+1,l,ou=>if N<=ou.length then ou else (List.range S.g.h.length).foldl (λou k=>if (Kt S l k&&vC S (l++[(k:Int)]))=true then RG S N d (l++[(k:Int)]) ou else ou) ou
/-! ### all matches -/
def F5 (S:Srch)(ns:V2):Nat->V2->Yb
 | 0,l=>[l]
 | d+1,l=>((List.range S.g.j.length).filter (RN S ns l)).flatMap λ(k:Nat)=>F5 S ns d (l++[(k:Int)])
def Dj (S:Srch):Nat->V2->List Part
 | 0,l=>(F5 S l S.p.j.length []).map λes=>⟨l,es⟩
 | d+1,l=>((List.range S.g.h.length).filter (Kt S l)).flatMap λ(k:Nat)=>Dj S d (l++[(k:Int)])
def yR (S:Srch):List Part:=Dj S S.p.h.length []
theorem DW {α:Type}(N:Nat)(a b:List α):((a.take N)++b).take N=(a++b).take N:=by
 rw [A3,A3,List.take_take,Nat.min_self];grind
theorem xA {α:Type}(N:Nat)(ok:Nat->Bool)(f:Nat->List α->List α)(x:Nat->List α)(hf:∀ k ou,ou.length<=N->f k ou=(ou++x k).take N) :
  ∀ (l:List Nat) (ou:List α),ou.length<=N->l.foldl (λou k=>if ok k=true then f k ou else ou) ou=(ou++(l.filter ok).flatMap x).take N
 | [],ou,h=>by simp [aG h]
 | k :: l,ou,h=>by
  rw [List.foldl_cons];by_cases hk:ok k=true
  .rw [if_pos hk,hf k ou h,xA N ok f x hf l _ (by simp;omega),DW,IU hk,oV,List.append_assoc]
  .rw [if_neg hk,xA N ok f x hf l _ h,IV hk]
theorem tJ {α:Type}{N:Nat}{a x:List α}(h:a.length<=N)(b:N<=a.length):a=(a++x).take N:=by grind
theorem LE (S:Srch)(N:Nat)(ns:V2):∀ (d:Nat) (l:V2) (ou:List Part),ou.length<=N->Ja S N ns d l ou=(ou++(F5 S ns d l).map λes=>(⟨ns,es⟩:Part)).take N
 | 0,l,ou,h=>by
  simp only [Ja,F5];split
  .rename_i h2;exact tJ h h2
  .rw [aG (by simp;omega)];rfl
 | d+1,l,ou,h=>by
  simp only [Ja,F5];split
  .rename_i h2;exact tJ h h2
  .rw [xA N (RN S ns l) (λk ou=>Ja S N ns d (l++[(k:Int)]) ou) (λk=>(F5 S ns d (l++[(k:Int)])).map λes=>(⟨ns,es⟩:Part)) (λk ou ho=>LE S N ns d _ ou ho) _ _ h,List.map_flatMap]
theorem Ij {S:Srch}{ns:V2}:∀ (d:Nat) (l es:V2),es∈F5 S ns d l->∀ i,l.length<=i->i<l.length+d->∃ k,k<S.g.j.length/\At S.pe i k=true/\Aq S ns i k=true
 | 0,l,es,_,i,h1,h2=>by omega
 | d+1,l,es,h,i,h1,h2=>by
  simp only [F5,bT,fY,aW] at h;obtain ⟨k,⟨hk,ho⟩,hr⟩:=h;by_cases hi:i=l.length
  .simp only [RN,aL] at ho;exact ⟨k,hk,hi ▸ ho.1,hi ▸ ho.2.2⟩
  .exact Ij d _ es hr i (by simp;omega) (by simp;omega)
theorem Av {S:Srch}:∀ (d:Nat) (l:V2) (m:Part),m∈Dj S d l->(∃ r,m.h=l++r)/\m.j∈F5 S m.h S.p.j.length []
 | 0,l,m,h=>by
  simp only [Dj,aX] at h;obtain ⟨es,he,rfl⟩:=h;exact ⟨⟨[],by simp⟩,he⟩
 | d+1,l,m,h=>by
  simp only [Dj,bT,fY,aW] at h;obtain ⟨k,_,hr⟩:=h;obtain ⟨⟨r,hr1⟩,hr2⟩:=Av d _ m hr;exact ⟨⟨(k:Int) :: r,by rw [hr1];simp⟩,hr2⟩
theorem Sa {p:Graph}{l r:V2}{i:Nat}(b:(p.j[i]?.getD cY).w.toNat<l.length)(a:(p.j[i]?.getD cY).M.toNat<l.length):Yk p (l++r) i=Yk p l i:=by
 unfold Yk;rw [aS b,aS a]
theorem Ii {S:Srch}(q:graphF S.p=0)(d:Nat)(l:V2)(h:v8 S l=false):Dj S d l=[]:=by
 rw [lD];intro m s;obtain ⟨⟨r,o⟩,t⟩:=Av d l m s;simp only [v8,sK,aW] at h;obtain ⟨i,e,j⟩:=h;have y:=((dX q).2 _ (aC e)).2;simp only [BR,aA e,Option.getD_some,c7,decide_eq_true_eq,not_or,bB,aW,not_exists,not_and,Int.not_le] at j;obtain ⟨⟨x,w⟩,n⟩:=j;obtain ⟨k,v,B,g⟩:=Ij _ _ _ t i (eP _) (bZ e);apply n k v;unfold Aq at g ⊢;rw [o,Sa (by rw [aA e,Option.getD_some];omega) (by rw [aA e,Option.getD_some];omega)] at g;exact g
theorem TE {S:Srch}(s:graphF S.p=0)(d:Nat)(l:V2)(h:vC S l=false):Dj S d l=[]:=by
 rw [lD];intro m t;obtain ⟨⟨r,q⟩,u⟩:=Av d l m t;simp only [vC,sK,aW] at h;obtain ⟨i,e,n⟩:=h;have z:=((dX s).2 _ (aC e)).2;simp only [Hy,aA e,Option.getD_some,c7,decide_eq_true_eq,not_or,bB,aW,not_exists,not_and,ne_eq,iG,aL] at n;obtain ⟨y,o⟩:=n;obtain ⟨k,x,w,j⟩:=Ij _ _ _ u i (eP _) (bZ e);refine o k x w ?_;unfold Aq at j ⊢;rw [q,Sa (by rw [aA e,Option.getD_some];omega) (by rw [aA e,Option.getD_some];omega)] at j;exact j
theorem P8 {S:Srch}(hp:graphF S.p=0)(N:Nat):∀ (d:Nat) (l:V2) (ou:List Part),ou.length<=N->P9 S N d l ou=(ou++Dj S d l).take N
 | 0,l,ou,h=>by
  simp only [P9];split
  .rename_i h2;rcases h2 with h2|h2
   .exact tJ h h2
   .rw [Ii hp 0 l h2,dL,aG h]
  .rw [LE S N l _ _ _ h];rfl
 | d+1,l,ou,h=>by
  simp only [P9];split
  .rename_i h2;rcases h2 with h2|h2
   .exact tJ h h2
   .rw [Ii hp _ l h2,dL,aG h]
  .rw [xA N (Kt S l) (λk ou=>P9 S N d (l++[(k:Int)]) ou) (λk=>Dj S d (l++[(k:Int)])) (λk ou ho=>P8 hp N d _ ou ho) _ _ h];rfl
theorem Fl {α:Type}(ok po:Nat->Bool)(x:Nat->List α)(h:∀ k,po k=false->x k=[]):∀ l:List Nat,(l.filter λk=>ok k&&po k).flatMap x=(l.filter ok).flatMap x
 | []=>rfl
 | k :: l=>by
  cases h1:ok k<;>cases h2:po k<;>simp [h1,h2,Fl ok po x h l,h k]
theorem Qz {S:Srch}(hp:graphF S.p=0)(N:Nat):∀ (d:Nat) (l:V2) (ou:List Part),ou.length<=N->RG S N d l ou=(ou++Dj S d l).take N
 | 0,l,ou,h=>by
  simp only [RG];split
  .rename_i h2;exact tJ h h2
  .rw [LE S N l _ _ _ h];rfl
 | d+1,l,ou,h=>by
  simp only [RG];split
  .rename_i h2;exact tJ h h2
  .rw [xA N (λk=>Kt S l k&&vC S (l++[(k:Int)])) (λk ou=>RG S N d (l++[(k:Int)]) ou) (λk=>Dj S d (l++[(k:Int)])) (λk ou ho=>Qz hp N d _ ou ho) _ _ h];rw [Fl (Kt S l) (λk=>vC S (l++[(k:Int)])) _ λk hk=>TE hp d _ hk];rfl
theorem D0 (S:Srch){N:Nat}(ns:V2)(d:Nat)(l:V2){a:List Part}(h:a.length<=N):(Ja S N ns d l a).length<=N:=by
 rw [LE S N ns d l a h];exact List.length_take_le _ _
theorem Uj {S:Srch}(b:graphF S.p=0){N:Nat}(d:Nat)(l:V2){a:List Part}(h:a.length<=N):(P9 S N d l a).length<=N:=by
 rw [P8 b N d l a h];exact List.length_take_le _ _
theorem Qy {S:Srch}(b:graphF S.p=0){N:Nat}(d:Nat)(l:V2){a:List Part}(h:a.length<=N):(RG S N d l a).length<=N:=by
 rw [Qz b N d l a h];exact List.length_take_le _ _
theorem GR {S:Srch}{N:Nat}(ns:V2)(d:Nat)(l:V2){a:List Part}(h:N<=a.length):Ja S N ns d l a=a:=by cases d<;>simp only [Ja,if_pos h]
end Go.Abs
end
