/- The right side of a drafted rule. · The slots and the condit -/
import Derived.Test.YthalajhajpjjeaaGreatZhF
import Derived.Test.YthalajhajpjjeaaGreatZhA
import Derived.Test.YthalajhajpjjeaaGreatZhL
import Derived.Test.YthalajhajpjjeaaGreatZhK
set_option linter.unusedVariables false
set_option linter.unusedSimpArgs false
section
set_option maxRecDepth 100000
set_option maxHeartbeats 4000000
open Go Go.Proofs
namespace Go.Abs
abbrev B4:=UInt8 × UInt8 × UInt8 × UInt8
def cU4 (x:B4):List D:=[.int .u8 (x.1.toNat:Int),.int .u8 (x.2.1.toNat:Int),.int .u8 (x.2.2.1.toNat:Int),.int .u8 (x.2.2.2.toNat:Int)]
structure Dr24 where
 left:Dr21
 keep:UInt64
 nodes:List UInt8
 edges:List B3
 slots:List B3
 plain:Bool
 inj:Bool
 forbid:B4
 order:List UInt8
def Dr24.c (d:Dr24):List D:=[.list (d.left.graph.nodes.map cU),.list (d.left.graph.edges.map cT3),.list (d.left.slots.map cT3),.list (d.left.tests.map cT4),.int .u64 (d.keep.toNat:Int),.list (d.nodes.map cU),.list (d.edges.map cT3),.list (d.slots.map cT3),.bool d.plain,.bool d.inj,
 .int .u8 (d.forbid.1.toNat:Int),.int .u8 (d.forbid.2.1.toNat:Int),.int .u8 (d.forbid.2.2.1.toNat:Int),.int .u8 (d.forbid.2.2.2.toNat:Int),.list (d.order.map cU)]
@[go_sem] theorem Dr24.cl (d:Dr24):D.clL d.c=true:=by simp [Dr24.c,D.clL,D.cl,PF,Cx,QC]
@[go_sem] theorem Zf (l:List Dr24):D.clLL (l.map Dr24.c)=true:=c8 _ Dr24.cl l
def mkEd (t:Types)(n:Nat)(x:B3):Edge:=⟨(x.1.toNat:Int).tmod t.edges.length,(x.2.1.toNat:Int).tmod n,(x.2.2.toNat:Int).tmod n⟩
def nN (ns:List Int)(a:Int):Int:=ns[a.toNat]?.getD 0
def Qp (t:Types)(base:List Int)(ds:List UInt8)(k:Nat):List Int:=base++(List.range k).map λi=>sZ (iX t) (ds[i]?.getD 0)
def u4 (t:Types)(ns:List Int)(x:B3):List Edge:=if kS t (mkEd t ns.length x).type (nN ns (mkEd t ns.length x).from_) (nN ns (mkEd t ns.length x).to_)=true then [mkEd t ns.length x] else []
def M9 (t:Types)(ns:List Int)(base:List Edge)(es:List B3)(k:Nat):List Edge:=base++(List.range k).flatMap λi=>u4 t ns (es[i]?.getD (0,0,0))
def jF (t:Types)(g:Graph)(d:Dr24):Graph :=
 ⟨Qp t g.nodes d.nodes (if (iX t).length=0 then 0 else min d.nodes.length 2),
  M9 t (Qp t g.nodes d.nodes (if (iX t).length=0 then 0 else min d.nodes.length 2)) g.edges d.edges (if (Qp t g.nodes d.nodes (if (iX t).length=0 then 0 else min d.nodes.length 2)).length=0\/t.edges.length=0 then 0 else min d.edges.length 2)⟩
theorem Th (t:Types)(base:List Int)(ds:List UInt8)(k:Nat):Qp t base ds (k+1)=Qp t base ds k++[sZ (iX t) (ds[k]?.getD 0)]:=by simp [Qp,bK]
theorem zW (t:Types)(base:List Int)(ds:List UInt8)(k:Nat):(Qp t base ds k).length=base.length+k:=by simp [Qp]
theorem yU (t:Types)(ns:List Int)(base:List Edge)(es:List B3)(k:Nat):M9 t ns base es (k+1)=M9 t ns base es k++u4 t ns (es[k]?.getD (0,0,0)):=by simp [M9,bK]
theorem yV (t:Types)(ns:List Int)(x:B3):(u4 t ns x).length<=1:=by unfold u4;split<;>simp
theorem Fc (t:Types)(ns:List Int)(base:List Edge)(es:List B3):∀ k,(M9 t ns base es k).length<=base.length+k
 | 0=>by simp [M9]
 | k+1=>by rw [yU,aJ];have:=Fc t ns base es k;have:=yV t ns (es[k]?.getD (0,0,0));omega
theorem Uv {t:Types}{n:Nat}(hn:0<n)(x:B3):(0<=(mkEd t n x).from_/\(mkEd t n x).from_<n)/\0<=(mkEd t n x).to_/\(mkEd t n x).to_<n :=
 ⟨b7 (aD:0<=(x.2.1.toNat:Int)) (aD:(0:Int)<n),b7 (aD:0<=(x.2.2.toNat:Int)) (aD:(0:Int)<n)⟩
theorem E8 (c:Prop)[Decidable c](m:Nat):(if c then 0 else min m 2)<=2:=by split<;>omega
theorem Ti {t:Types}{ns:List Int}{base:List Edge}{es:List B3}{k:Nat}(c:k≠0->0<ns.length)(b:∀ x∈base,(0<=x.from_/\x.from_<ns.length)/\0<=x.to_/\x.to_<ns.length):Graph.ends ⟨ns,M9 t ns base es k⟩:=by
 intro x a
 simp only [M9,aV,bH,aR] at a
 rcases a with a|⟨i,d,a⟩
 .exact b x a
 .unfold u4 at a
  split at a
  .simp only [aW] at a
   subst a
   exact Uv (c aD) _
  .cases a
theorem RQ {t:Types}{g:Graph}{d:Dr24}(h:g.ends):(jF t g d).ends/\(jF t g d).nodes.length<=g.nodes.length+2/\(jF t g d).edges.length<=g.edges.length+2:=by
 refine ⟨?_,?_,?_⟩
 .unfold jF
  refine Ti (λb=>?_) λx a=>?_
  .rcases Nat.eq_zero_or_pos (Qp t g.nodes d.nodes (if (iX t).length=0 then 0 else min d.nodes.length 2)).length with h1|h1
   .exact absurd (if_pos (Or.inl h1)) b
   .exact h1
  .have:=h x a
   rw [zW];omega
 .simp only [jF,zW];have:=E8 ((iX t).length=0) d.nodes.length;omega
 .exact c9 (Fc _ _ _ _ _) (Nat.add_le_add_left (E8 _ _) _)
theorem L4 (t:Types)(ht:t.fine)(g:Graph)(c5:g.nodes.length<=1000)(c6:g.edges.length<=1000)(d:Dr24):Pure Tryz.prog 168 [t.d,g.d,.agg d.c] (jF t g d).d:=by
 have c7:=ht.ok.fewN
 have c8:=ht.ok.fewE
 obtain ⟨C,hC⟩:=eX (iX t)
 refine Tz.pK ⟨λt=>t==6||t==7||t==12,λr=>match r with|6=>[(0,14),(1,14)]|11=>[(0,30),(1,30),(3,30),(4,30),(5,30),(7,30),(8,30),(9,30),(11,30),(12,30),(14,30),(15,30),(16,30),(20,30),(21,30),(23,30),(24,30),(25,30)]|_=>[]⟩ Tryz.func168 rfl (λQ hQ=>?_)
 have Y:=@Dr24.c.eq_1
 refine wv (h:=?_)
 unfold g5;refine tS g aD aD _ _ (λa b s ha hb d3 d2 d0 a8 a7 a9 c2=>?_)
 have d6:(0:Nat)<s.next:=aD
 have d4:a≠0:=by simp [go_sem] at ha;omega
 have d1:b≠0:=by simp [go_sem] at hb;omega
 have K:=a9 0 (by simp [go_sem])
 simp [go_sem] at K
 have nx:=Lf s.next
 have b1:=And.intro (b8 (aD:a<s.next)) (And.intro (b8 (aD:b<s.next)) (b8 (aD:0<s.next)))
 have b4:=And.intro (dG (aD:0≠b)) (And.intro (dG (aD:0≠a)) (dG (aD:b≠a)))
 have Y:=wa Y (wa b1 (wa b4 (wa a8 (wa a7 (wa K nx)))))
 refine wv (h:=aB ((by have X:=FV t aD;rw [hC] at X;exact X)) wl ?_)
 refine wv (h:=bV (λi e H=>∃ c:Nat,(e 3=.adr t.c/\e 4=.adr g.c/\e 5=.adr d.c/\e 6=.ptr 0 1 0 0/\e 7=.ptr c 1 0 0/\e 8=dLI C/\e 9=dI i)/\(H.get 0=some ⟨29,2,[[.nil,.nil]],false⟩)/\(0<H.next)/\(H.get c=some ⟨29,2,[[.own a (g.nodes.length+i),.own b g.edges.length]],false⟩)/\(c<H.next)/\(H.get a=some ⟨3,1,(Qp t g.nodes d.nodes i).map cI,false⟩)/\(a<H.next)/\(H.get b=some ⟨122,3,g.edges.map Edge.c,false⟩)/\(b<H.next)/\(i<=2)/\(i<=d.nodes.length)/\(C.length=0->i=0)/\(a<c/\b<c/\0<c)/\((Qp t g.nodes d.nodes i).length=g.nodes.length+i)) (λi=>2 - i) 0 ⟨s.next,wg,wn,wn,wn,wn,(by simp [go_sem,Y,Qp]),wn,wn,wn,wi,wi,(by intro _;rfl),aD,(by exact zW _ _ _ _)⟩ λI0 b0 i e H a4=>?_)
 obtain ⟨c,E0,W,D,P,v,U,A,S,y,hi,c4,hz,hc,j⟩:=a4
 have b3:=And.intro (dG (aD:0≠c)) (And.intro (dG (aD:0≠b)) (And.intro (dG (aD:0≠a)) (And.intro (dG (aD:c≠b)) (And.intro (dG (aD:c≠a)) (dG (aD:b≠a))))))
 have Y:=wa Y (wa @Dr24.c.eq_1 (wa E0 (wa W (wa (b8 D) (wa P (wa (b8 v) (wa U (wa (b8 A) (wa S (wa (b8 y) (wa j b3)))))))))))
 refine vJ (λh4=>?_) λh4=>?_
 .have hil:i<d.nodes.length:=aD
  have p:0<C.length:=aD
  have d5:¬C=[]:=by intro h;rw [h] at p;simp at p
  have a1:=jW d.nodes[i]
  have a6:d.nodes[i]?.getD 0=d.nodes[i]:=by rw [aA hil];rfl
  have tm:=b7 (aD:0<=(d.nodes[i].toNat:Int)) (aD:(0:Int)<C.length)
  obtain ⟨kk,a2⟩:=yI p d.nodes[i]
  have l:(C.length:Int)≠0:=aD
  have Y:=wa Y (wa h4 (wa (aA hil) (wa (aA kk) (wa l @cU.eq_1))))
  exact wp (h:=wx b0 (i+1) ⟨c,wg,wn,wn,wn,wn,(by simp [go_sem,Y,Th,hC,a6,a2]),wn,wn,wn,wj,wj,aD,aD,(by exact zW _ _ _ _)⟩)
 .have hI:i=(if C.length=0 then 0 else min d.nodes.length 2):=by
   split
   .rename_i h;exact hz h
   .rename_i h
    have X:¬ (i<d.nodes.length/\i<2):=λhh=>h (by rw [h4 hh.1 aD];rfl)
    omega
  obtain ⟨f,o⟩:=eX (Qp t g.nodes d.nodes i)
  have G:f.length=g.nodes.length+i:=by rw [<- o];exact j
  clear j
  have j:g.nodes.length+i=f.length:=G.symm
  have F:g.nodes.length+i=f.length:=G.symm
  have E:(g.nodes.length:Int)+(i:Int)=(f.length:Int):=aD
  have Y:=wa Y (wa j (wa o (wa F E)))
  refine wp (h:=bV (λk e H=>∃ m:List Edge,(e 3=.adr t.c/\e 4=.adr g.c/\e 5=.adr d.c/\e 6=.ptr 0 1 0 0/\e 7=.ptr c 1 0 0/\e 10=dI f.length/\e 11=dI k)/\(H.get 0=some ⟨29,2,[[.nil,.nil]],false⟩)/\(0<H.next)/\(H.get c=some ⟨29,2,[[.own a f.length,.own b m.length]],false⟩)/\(c<H.next)/\(H.get a=some ⟨3,1,f.map cI,false⟩)/\(a<H.next)/\(H.get b=some ⟨122,3,m.map Edge.c,false⟩)/\(b<H.next)/\(k<=2)/\(k<=d.edges.length)/\(f.length=0\/t.edges.length=0->k=0)/\(a<c/\b<c/\0<c)/\(m=M9 t f g.edges d.edges k)/\(m.length<=g.edges.length+k)) (λk=>2 - k) 0 ⟨g.edges,wg,wn,wn,wn,wn,wn,wn,wn,wn,wi,wi,(by intro _;rfl),aD,(by simp [M9]),aD⟩ λI2 M k e H a3=>?_)
  obtain ⟨m,E2,V,B,O,u,T,z,R,w,hk,c3,a0,c9,hy,b9⟩:=a3
  have b2:=And.intro (dG (aD:0≠c)) (And.intro (dG (aD:0≠b)) (And.intro (dG (aD:0≠a)) (And.intro (dG (aD:c≠b)) (And.intro (dG (aD:c≠a)) (dG (aD:b≠a))))))
  have Y:=wa Y (wa E2 (wa V (wa (b8 B) (wa O (wa (b8 u) (wa T (wa (b8 z) (wa R (wa (b8 w) b2)))))))))
  refine vJ (λh9=>?_) λh9=>?_
  .have hkl:k<d.edges.length:=aD
   have N:0<t.edges.length:=aD
   have J:0<f.length:=aD
   have b6:¬t.edges=[]:=by intro h;rw [h] at N;simp at N
   have b5:¬f=[]:=by intro h;rw [h] at J;simp at J
   obtain ⟨x,hx⟩:=eX (d.edges[k])
   have a5:d.edges[k]?.getD (0,0,0)=x:=by rw [aA hkl,<- hx];rfl
   have a1:=jW x.1
   have c1:=jW x.2.1
   have c0:=jW x.2.2
   have t1:=b7 (aD:0<=(x.1.toNat:Int)) (aD:(0:Int)<t.edges.length)
   have t2:=b7 (aD:0<=(x.2.1.toNat:Int)) (aD:(0:Int)<f.length)
   have t3:=b7 (aD:0<=(x.2.2.toNat:Int)) (aD:(0:Int)<f.length)
   have hf:((x.2.1.toNat:Int).tmod f.length).toNat<f.length:=aD
   have n:((x.2.2.toNat:Int).tmod f.length).toNat<f.length:=aD
   have l:(t.edges.length:Int)≠0:=aD
   have I:(f.length:Int)≠0:=aD
   have Z:=Lf H.next
   have Y:=wa Y (wa h9 (wa (aA hkl) (wa hx (wa a5 (wa @cT3.eq_1 (wa (aA hf) (wa (aA n) (wa l (wa I Z)))))))))
   refine wp (h:=aM (F1 t ht.ok _ _ _) wl ?_)
   refine vJ (λq=>?_) λq=>?_
   .have hE:u4 t f x=[mkEd t f.length x]:=by unfold u4 nN mkEd;rw [if_pos (by simpa [aA hf,aA n] using q)]
    have Y:=wa Y (wa hE @mkEd.eq_1)
    exact wp (h:=wx M (k+1) ⟨(m++u4 t f (d.edges[k]?.getD (0,0,0))),wg,wn,wn,wn,wn,wn,wn,wn,wn,wj,wj,aD,aD,(by rw [yU,<- hy]),(by rw [aJ];have:=yV t f (d.edges[k]?.getD (0,0,0));omega)⟩)
   .have hE:u4 t f x=[]:=by unfold u4 nN mkEd;rw [if_neg (by simpa [aA hf,aA n] using q)]
    have Y:=wa Y hE
    exact wp (h:=wx M (k+1) ⟨(m++u4 t f (d.edges[k]?.getD (0,0,0))),wg,wn,wn,wn,wn,wn,wn,wn,wn,wj,wj,aD,aD,(by rw [yU,<- hy]),(by rw [aJ];have:=yV t f (d.edges[k]?.getD (0,0,0));omega)⟩)
  .have hK:k=(if f.length=0\/t.edges.length=0 then 0 else min d.edges.length 2):=by
    split
    .rename_i h;exact a0 h
    .rename_i h
     have X:¬ (k<d.edges.length/\k<2):=λhh=>h (.inr (by rw [h9 hh.1 aD aD];rfl))
     omega
   have L:jF t g d=⟨f,m⟩:=by
    unfold jF
    rw [hC,<- hI,o,<- hK,hy]
   exact wv (h:=hQ _ _ (by simp [go_sem,Y,L]))
def Og (vars:Int)(ns:List Int)(la:Nat)(x:B3):Slot:=⟨(x.1.toNat:Int).tmod ns.length,(x.2.1.toNat:Int).tmod la,⟨((x.2.1.toNat:Int) / 16).tmod (vars+1) - 1,(x.2.2.toNat:Int).tmod 3⟩⟩
def Ir (s y:Slot):Bool:=y.node==s.node&&y.attr==s.attr
def Oo (t:Types)(vars:Int)(ns:List Int)(out:List Slot)(x:B3):List Slot :=
 if (bM t (nN ns ((x.1.toNat:Int).tmod ns.length))).length=0 then out
 else if out.any (Ir (Og vars ns (bM t (nN ns ((x.1.toNat:Int).tmod ns.length))).length x))=true then out
 else out++[Og vars ns (bM t (nN ns ((x.1.toNat:Int).tmod ns.length))).length x]
def uJ (t:Types)(vars:Int)(ns:List Int)(l:List B3)(k:Nat):List Slot:=(List.range k).foldl (λout i=>Oo t vars ns out (l[i]?.getD (0,0,0))) []
def qS (t:Types)(ns:List Int)(vars:Int)(l:List B3):List Slot:=uJ t vars ns l (if ns.length=0 then 0 else min l.length 3)
theorem CY (t:Types)(a:Int)(ns:List Int)(l:List B3)(k:Nat):uJ t a ns l (k+1)=Oo t a ns (uJ t a ns l k) (l[k]?.getD (0,0,0)):=by simp [uJ,bK]
theorem SE (t:Types)(a:Int)(ns:List Int)(b:List Slot)(x:B3):(Oo t a ns b x).length<=b.length+1:=by
 unfold Oo;split
 .omega
 .split
  .omega
  .simp
theorem FK (t:Types)(vars:Int)(ns:List Int)(l:List B3):∀ k,(uJ t vars ns l k).length<=k
 | 0=>by simp [uJ]
 | k+1=>by rw [CY];have:=SE t vars ns (uJ t vars ns l k) (l[k]?.getD (0,0,0));have:=FK t vars ns l k;omega
theorem L2 (t:Types)(ht:t.fine)(g:Graph)(f:Int)(hv:0<=f/\f<=1000)(l:List B3):Pure Tryz.prog 169 [t.d,g.d,dI f,.list (l.map cT3)] (.list ((qS t g.nodes f l).map Slot.c)):=by
 refine Tz.pK ⟨λt=>t==9||t==14,λr=>match r with|8=>[(3,30),(4,30),(5,30),(8,30),(12,30),(13,30),(14,30),(23,30),(24,30),(25,30)]|_=>[]⟩ Tryz.func169 rfl (λQ hQ=>?_)
 try simp [go_sem,seval]
 obtain ⟨I0,R⟩:∃ I0:Nat->dA->AHeap->Prop,∀ (i:Nat) (e:dA) (H:AHeap),I0 i e H↔(∃ p:List Slot,(e 4=.adr t.c)/\(e 5=.adr g.c)/\(e 2=dI f)/\(e 3=.list (l.map cT3))/\(e 9=.own 0 p.length)/\(e 10=dI i)/\(H.get 0=some ⟨159,4,p.map Slot.c,false⟩)/\(0<H.next)/\(i<=3)/\(i<=l.length)/\(g.nodes.length=0->i=0)/\(p=uJ t f g.nodes l i)):=⟨λi e H=>_,λ_ _ _=>Iff.rfl⟩
 refine oR I0 (λi=>3 - i) (0) ((R _ _ _).2 ⟨([]),?_,?_,?_,?_,?_,?_,?_,?_,(by first|assumption|omega|(simp [go_sem];done)|(simp_all;done)),(by first|assumption|omega|(simp [go_sem];done)|(simp_all;done)),(by intro _;rfl),(by rfl)⟩) ?_
 iterate 8 (first|omega|(simp [go_sem,seval]<;>omega))
 intro i e H c2
 obtain ⟨p,a7,a5,b1,a9,a3,Z,b9,b3,hi,d1,hz,ho⟩:=(R _ _ _).1 c2
 have x0:=b8 b3
 have L:=And.intro a7 (And.intro a5 (And.intro b1 (And.intro a9 (And.intro a3 (And.intro Z (And.intro b9 x0))))))
 try simp [go_sem,seval,L]
 repeat first|intro _|refine ⟨eK,?_⟩
 refine aP (λB=>?_) (λB=>?_)
 .try simp [go_sem] at B
  have o:i<l.length:=aD
  have b4:0<g.nodes.length:=aD
  have c5:¬g.nodes=[]:=by intro h;rw [h] at b4;simp at b4
  obtain ⟨x,E⟩:=eX (l[i])
  have c3:l[i]?.getD (0,0,0)=x:=by rw [aA o,<- E];rfl
  have d0:=jW x.1
  have c9:=jW x.2.1
  have c8:=jW x.2.2
  have t1:=b7 (aD:0<=(x.1.toNat:Int)) (aD:(0:Int)<g.nodes.length)
  have F:((x.1.toNat:Int).tmod g.nodes.length).toNat<g.nodes.length:=aD
  have c0:nN g.nodes ((x.1.toNat:Int).tmod g.nodes.length)=g.nodes[((x.1.toNat:Int).tmod g.nodes.length).toNat]:=by unfold nN;rw [aA F];rfl
  have a:(g.nodes.length:Int)≠0:=aD
  have b5:=FK t f g.nodes l i
  rw [<- ho] at b5
  have P:uJ t f g.nodes l (i+1)=Oo t f g.nodes p x:=by rw [CY,c3,<- ho]
  unfold Oo at P
  rw [c0] at P
  have I:=Lf H.next
  try simp [go_sem,seval,L,B,aA o,E,cT3,aA F,a,I]
  repeat first|intro _|refine ⟨eK,?_⟩
  refine aM (sV t ht.ok _) ((by first|rfl|(simp [go_sem,<- List.map_take,<- List.map_drop,L,B,aA o,E,cT3,aA F,a,I];done))) ?_
  try simp [go_sem,seval,L,B,aA o,E,cT3,aA F,a,I]
  repeat first|intro _|refine ⟨eK,?_⟩
  refine aP (λG=>?_) (λG=>?_)
  .try simp [go_sem] at G
   rw [if_pos (by rw [G];rfl)] at P
   obtain ⟨D,n⟩:∃ y:List Slot,y=p:=⟨_,rfl⟩
   have O:D=uJ t f g.nodes l (i+1):=by rw [P,n]
   try simp [go_sem,seval,L,B,aA o,E,cT3,aA F,a,I,n]
   repeat first|intro _|refine ⟨eK,?_⟩
   refine dN (i+1) aD ((R _ _ _).2 ⟨(D),?_,?_,?_,?_,?_,?_,?_,?_,(by first|assumption|omega|(simp [go_sem,L,B,aA o,E,cT3,aA F,a,I,n,G];done)|(simp_all<;>omega)),(by first|assumption|omega|(simp [go_sem,L,B,aA o,E,cT3,aA F,a,I,n,G];done)|(simp_all<;>omega)),aD,(by exact O)⟩)<;>first|omega|(simp [go_sem,seval,L,B,aA o,E,cT3,aA F,a,I,n]<;>omega)
  .try simp [go_sem] at G
   rw [if_neg (λh=>G (List.length_eq_zero_iff.1 h))] at P
   obtain ⟨la,q⟩:=eX ((bM t g.nodes[((x.1.toNat:Int).tmod g.nodes.length).toNat]).length)
   rw [q] at P
   have c6:0<la:=by rw [<- q];exact jN.2 G
   have t2:=b7 (aD:0<=(x.2.1.toNat:Int)) (aD:(0:Int)<la)
   have t3:=b7 (aD:0<=(x.2.1.toNat:Int) / 16) (aD:0<f+1)
   have t4:=b7 (aD:0<=(x.2.2.toNat:Int)) (aD:(0:Int)<3)
   have hu:=O8 (aD:0<=(x.2.1.toNat:Int) / 16) aD
   have m:(la:Int)≠0:=aD
   have j:f+1≠0:=aD
   obtain ⟨s,hs⟩:=eX (Og f g.nodes la x)
   have u:s.node=(x.1.toNat:Int).tmod g.nodes.length:=by rw [<- hs];rfl
   have v:s.attr=(x.2.1.toNat:Int).tmod la:=by rw [<- hs];rfl
   have w:s.term.var=((x.2.1.toNat:Int) / 16).tmod (f+1) - 1:=by rw [<- hs];rfl
   have z:s.term.add=(x.2.2.toNat:Int).tmod 3:=by rw [<- hs];rfl
   rw [hs] at P
   try simp [go_sem,seval,L,B,aA o,E,cT3,aA F,a,I,G,q,m,j,u,v,w,z]
   repeat first|intro _|refine ⟨eK,?_⟩
   obtain ⟨I2,a0⟩:∃ I2:Nat->dA->AHeap->Prop,∀ (k:Nat) (e:dA) (H:AHeap),I2 k e H↔(∃ K:Nat,(e 4=.adr t.c)/\(e 5=.adr g.c)/\(e 2=dI f)/\(e 3=.list (l.map cT3))/\(e 9=.own 0 p.length)/\(e 10=dI i)/\(e 14=.ptr K 1 0 0)/\(e 15=.bool ((p.take k).any (Ir s)))/\(e 16=dI k)/\(H.get 0=some ⟨159,4,p.map Slot.c,false⟩)/\(0<H.next)/\(H.get K=some ⟨159,4,[[dI s.node,dI s.attr,dI s.term.var,dI s.term.add]],false⟩)/\(K<H.next)/\(k<=p.length)/\(0<K)):=⟨λk e H=>_,λ_ _ _=>Iff.rfl⟩
   refine oR I2 (λk=>p.length - k) (0) ((a0 _ _ _).2 ⟨(H.next+11+12+30),?_,?_,?_,?_,?_,?_,?_,?_,?_,?_,?_,(by simp [go_sem,L,B,aA o,E,cT3,aA F,a,I,G,q,m,j,u,v,w,z,dI]),?_,(by first|assumption|omega|(simp [go_sem,L,B,aA o,E,cT3,aA F,a,I,G,q,m,j,u,v,w,z];done)|(simp_all;done)),aD⟩) ?_
   iterate 12 (first|omega|(simp [go_sem,seval,L,B,aA o,E,cT3,aA F,a,I,G,q,m,j,u,v,w,z]<;>omega))
   intro k e H c1
   obtain ⟨K,a6,a4,b0,a8,a2,Y,X,b,W,b6,b2,U,T,hk,c7⟩:=(a0 _ _ _).1 c1
   have x0:=b8 b2
   have a1:=b8 T
   have M:=And.intro a6 (And.intro a4 (And.intro b0 (And.intro a8 (And.intro a2 (And.intro Y (And.intro X (And.intro W (And.intro b6 (And.intro U (And.intro x0 a1))))))))))
   have C:=dG (aD:K≠0)
   try simp [go_sem,seval,B,aA o,E,cT3,aA F,a,I,G,q,m,j,u,v,w,z,M,b,C]
   repeat first|intro _|refine ⟨eK,?_⟩
   refine aP (λA=>?_) (λA=>?_)
   .try simp [go_sem] at A
    have N:(p.take (k+1)).any (Ir s)=((p.take k).any (Ir s)||(decide (p[k].node=(x.1.toNat:Int).tmod g.nodes.length)&&p[k].attr==(x.2.1.toNat:Int).tmod la)):=by
     rw [List.take_succ_eq_append_getElem A,Bp,List.any_cons,List.any_nil,nU,<- u,<- v];rfl
    obtain ⟨bb,c4⟩:=eX ((p.take k).any (Ir s))
    rw [c4] at b N
    try simp [go_sem,seval,B,aA o,E,cT3,aA F,a,I,G,q,m,j,u,v,w,z,M,b,C,A,aA A,N]
    repeat first|intro _|refine ⟨eK,?_⟩
    refine dN (k+1) aD ((a0 _ _ _).2 ⟨(K),?_,?_,?_,?_,?_,?_,?_,?_,?_,?_,?_,(by simp [go_sem,B,aA o,E,cT3,aA F,a,I,G,q,m,j,u,v,w,z,M,b,C,A,aA A,N]),?_,(by first|assumption|omega|(simp [go_sem,B,aA o,E,cT3,aA F,a,I,G,q,m,j,u,v,w,z,M,b,C,A,aA A,N];done)|(simp_all<;>omega)),aD⟩)<;>first|omega|(simp [go_sem,seval,B,aA o,E,cT3,aA F,a,I,G,q,m,j,u,v,w,z,M,b,C,A,aA A,N]<;>omega)
   .try simp [go_sem] at A
    have S:p.take k=p:=aY aD
    rw [S] at b
    try simp [go_sem,seval,B,aA o,E,cT3,aA F,a,I,G,q,m,j,u,v,w,z,M,b,C,S]
    repeat first|intro _|refine ⟨eK,?_⟩
    refine aP (λJ=>?_) (λJ=>?_)
    .try simp [go_sem] at J
     rw [if_neg (bS J)] at P
     obtain ⟨D,n⟩:∃ y:List Slot,y=p++[s]:=⟨_,rfl⟩
     have O:D=uJ t f g.nodes l (i+1):=by rw [P,n]
     try simp [go_sem,seval,B,aA o,E,cT3,aA F,a,I,G,q,m,j,u,v,w,z,M,b,C,S,n]
     repeat first|intro _|refine ⟨eK,?_⟩
     refine dN (i+1) aD ((R _ _ _).2 ⟨(D),?_,?_,?_,?_,?_,?_,?_,?_,(by first|assumption|omega|(simp [go_sem,B,aA o,E,cT3,aA F,a,I,G,q,m,j,u,v,w,z,M,b,C,S,n,A,J];done)|(simp_all<;>omega)),(by first|assumption|omega|(simp [go_sem,B,aA o,E,cT3,aA F,a,I,G,q,m,j,u,v,w,z,M,b,C,S,n,A,J];done)|(simp_all<;>omega)),aD,(by exact O)⟩)<;>first|omega|(simp [go_sem,seval,B,aA o,E,cT3,aA F,a,I,G,q,m,j,u,v,w,z,M,b,C,S,n]<;>omega)
    .try simp [go_sem] at J
     rw [if_pos (bS J)] at P
     obtain ⟨D,n⟩:∃ y:List Slot,y=p:=⟨_,rfl⟩
     have O:D=uJ t f g.nodes l (i+1):=by rw [P,n]
     try simp [go_sem,seval,B,aA o,E,cT3,aA F,a,I,G,q,m,j,u,v,w,z,M,b,C,S,n]
     repeat first|intro _|refine ⟨eK,?_⟩
     refine dN (i+1) aD ((R _ _ _).2 ⟨(D),?_,?_,?_,?_,?_,?_,?_,?_,(by first|assumption|omega|(simp [go_sem,B,aA o,E,cT3,aA F,a,I,G,q,m,j,u,v,w,z,M,b,C,S,n,A,J];done)|(simp_all<;>omega)),(by first|assumption|omega|(simp [go_sem,B,aA o,E,cT3,aA F,a,I,G,q,m,j,u,v,w,z,M,b,C,S,n,A,J];done)|(simp_all<;>omega)),aD,(by exact O)⟩)<;>first|omega|(simp [go_sem,seval,B,aA o,E,cT3,aA F,a,I,G,q,m,j,u,v,w,z,M,b,C,S,n]<;>omega)
 .try simp [go_sem] at B
  have hI:i=(if g.nodes.length=0 then 0 else min l.length 3):=by
   split
   .rename_i h;exact hz h
   .rename_i h
    have hq:¬ (i<l.length/\i<3):=λhh=>h (by rw [B hh.1 aD];rfl)
    omega
  have V:qS t g.nodes f l=p:=by unfold qS;rw [<- hI,ho]
  try simp [go_sem,seval,L]
  exact hQ _ _ (by first|(left;(simp [go_sem,L,V]);done)|(right;(simp [go_sem,L,V]);done))
theorem fZ (l:List Int):eI (l.map cI)=l.map cI:=kI λc hc=>by
 rw [aQ] at hc;obtain ⟨x,_,rfl⟩:=hc;rfl
theorem yJ (l:List Edge):eI (l.map Edge.c)=l.map Edge.c:=kI λc hc=>by
 rw [aQ] at hc;obtain ⟨x,_,rfl⟩:=hc;rfl
def trueC:Cond:=.mk 1 [] ⟨[],[]⟩ ⟨⟨[],[]⟩,[],0,[]⟩
def BQ (r:Rule):Rule:=⟨r.name,⟨r.left.graph,[],0,[]⟩,⟨r.right.graph,[],0,[]⟩,r.keep,r.into,r.inj,trueC⟩
theorem L3 (r:Rule)(g:r.left.graph.nodes.length<=1000/\r.left.graph.edges.length<=1000)(f:r.right.graph.nodes.length<=1000/\r.right.graph.edges.length<=1000)(e:r.keep.nodes.length<=1000/\r.keep.edges.length<=1000)(b:r.into.nodes.length<=1000/\r.into.edges.length<=1000):Pure Tryz.prog 111 [r.d] (BQ r).d:=by
 refine tT (by first|rfl|(simp [go_sem];done)) (λQ a=>(aG (cfg:=⟨λt=>t==2||t==15||t==20||t==26||t==31,λr=>match r with|1=>[(0,12),(1,12),(2,12),(3,12),(4,12),(5,12),(7,12),(8,12),(9,12),(10,12),(12,13),(12,14),(12,15),(0,16),(1,16),(0,17),(1,17),(2,17),(3,17),(4,17),(5,17),(7,17),(8,17),(9,17),(10,17),(12,17),(13,17),(14,17),(15,17),(16,17),(12,18),(16,18),(17,18),(12,19),(16,19),(17,19),(12,20),(16,20),(17,20),(0,21),(1,21),(0,23),(1,23),(2,23),(3,23),(4,23),(5,23),(7,23),(8,23),(9,23),(10,23),(12,23),(13,23),(14,23),(15,23),(16,23),(17,23),(18,23),(19,23),(20,23),(21,23),(12,24),(16,24),(17,24),(21,24),(23,24),(12,25),(16,25),(17,25),(21,25),(23,25),(12,26),(16,26),(17,26),(21,26),(23,26),(0,27),(1,27),(0,28),(1,28),(2,28),(3,28),(4,28),(5,28),(7,28),(8,28),(9,28),(10,28),(12,28),(13,28),(14,28),(15,28),(16,28),(17,28),(18,28),(19,28),(20,28),(21,28),(23,28),(24,28),(25,28),(26,28),(27,28),(12,29),(16,29),(17,29),(21,29),(23,29),(27,29),(28,29),(12,30),(16,30),(17,30),(21,30),(23,30),(27,30),(28,30),(12,31),(16,31),(17,31),(21,31),(23,31),(27,31),(28,31),(0,32),(1,32),(12,34),(16,34),(17,34),(21,34),(23,34),(27,34),(28,34),(32,34),(12,35),(16,35),(17,35),(21,35),(23,35),(27,35),(28,35),(32,35)]|_=>[]⟩) Tz.mixed Tryz.func111 rfl rfl (aE rfl) (by kernel_rfl) ?_))
 have Y:=trivial
 refine wo (h:=aM (AI r.left.graph aD aD) wl ?_)
 refine wo (h:=aM (AI r.right.graph aD aD) wl ?_)
 refine wo (h:=?_)
 exact a _ _ (by simp [go_sem,fZ,yJ,BQ,trueC,Rule.d,Rule.c,Cond.kind,Cond.kids,Cond.map,Cond.pattern])
theorem BU (a b:List (List D)):eI (a++b)=eI a++eI b:=by simp [uT]
def forbC (p:Pattern)(g:Graph):Cond:=.mk 2 [.mk 5 [trueC] ⟨e9 p.graph.nodes.length,e9 p.graph.edges.length⟩ ⟨g,[],p.vars,[]⟩] ⟨[],[]⟩ ⟨⟨[],[]⟩,[],0,[]⟩
def yZ (t:Types)(p:Pattern)(x:B4):Cond :=
 if (x.1.toNat:Int).tmod 4=1 then forbC p ⟨p.graph.nodes++[(x.2.1.toNat:Int).tmod t.nodes.length],p.graph.edges⟩
 else if (x.1.toNat:Int).tmod 4=2 then
  if p.graph.nodes.length=0\/t.edges.length=0 then trueC
  else forbC p ⟨p.graph.nodes,p.graph.edges++[⟨(x.2.1.toNat:Int).tmod t.edges.length,(x.2.2.1.toNat:Int).tmod p.graph.nodes.length,(x.2.2.2.toNat:Int).tmod p.graph.nodes.length⟩]⟩
 else trueC
theorem Kg (t:Types)(z:t.fine)(p:Pattern)(W:p.graph.nodes.length<=1000)(V:p.graph.edges.length<=1000)(x:B4):Pure Tryz.prog 170 [t.d,p.d,.agg (cU4 x)] (.agg (yZ t p x).c):=by
 have I:=z.ok.fewN
 have J:=z.ok.fewE
 have s:=z.valid.ne
 have G:=jW x.1
 have F:=jW x.2.1
 have E:=jW x.2.2.1
 have D:=jW x.2.2.2
 refine tT (by first|rfl|(simp [go_sem];done)) (λQ v=>(aG (cfg:=⟨λt=>t==6||t==7||t==9||t==10,λr=>match r with|6=>[(0,9),(1,9)]|10=>[(0,20),(1,20)]|_=>[]⟩) Tz.mixed Tryz.func170 rfl rfl (aE rfl) (by kernel_rfl) ?_))
 have Y:=@cU4.eq_1
 refine wv (h:=?_)
 unfold g5;refine tS p.graph aD aD _ _ (λa b u R M O N K j i A H=>?_)
 have S:(0:Nat)<u.next:=aD
 have P:a≠0:=by simp [go_sem] at R;omega
 have L:b≠0:=by simp [go_sem] at M;omega
 have f:=A 0 (by simp [go_sem])
 simp [go_sem] at f
 have y:=Lf u.next
 have l:=And.intro (b8 (aD:a<u.next)) (And.intro (b8 (aD:b<u.next)) (b8 (aD:0<u.next)))
 have m:=And.intro (dG (aD:0≠b)) (And.intro (dG (aD:0≠a)) (dG (aD:b≠a)))
 have Y:=wa Y (wa l (wa m (wa j (wa i (wa f y)))))
 refine vJ (λk=>?_) λk=>?_
 .have C:=b7 (aD:0<=(x.2.1.toNat:Int)) (aD:(0:Int)<t.nodes.length)
  have o:¬t.nodes=[]:=by intro h;rw [h] at s;simp at s
  have e:(t.nodes.length:Int)≠0:=aD
  have g:yZ t p x=forbC p ⟨p.graph.nodes++[(x.2.1.toNat:Int).tmod t.nodes.length],p.graph.edges⟩:=by unfold yZ;rw [if_pos k]
  have Y:=wa Y (wa e (wa g (wa @forbC.eq_1 (wa @trueC.eq_1 (wa @Cond.c_eq (wa @Cond.kind.eq_1 (wa @Cond.kids.eq_1 (wa @Cond.map.eq_1 @Cond.pattern.eq_1))))))))
  refine wp (h:=aB (FY p.graph aD aD) wl ?_)
  refine wp (h:=?_)
  exact v _ _ (by simp [go_sem,Y,fZ,yJ,BU])
 .refine d7 (λn=>?_) λn=>?_
  .refine vJ (λw=>?_) λw=>?_
   .have g:yZ t p x=trueC:=by unfold yZ;rw [if_neg k,if_pos n,if_pos (w.imp (λh=>by rw [h];rfl) (λh=>by rw [h];rfl))]
    have Y:=wa Y (wa g (wa @trueC.eq_1 (wa @Cond.c_eq (wa @Cond.kind.eq_1 (wa @Cond.kids.eq_1 (wa @Cond.map.eq_1 @Cond.pattern.eq_1))))))
    refine wv (h:=?_)
    exact v _ _ (by simp [go_sem,cU4,l,m,j,i,f,y,g,trueC,Cond.c_eq,Cond.kind,Cond.kids,Cond.map,Cond.pattern,k,n,w]<;>first|omega|(rw [aX];simp<;>omega)|(simp_all<;>omega))
   .have hn0:0<p.graph.nodes.length/\0<t.edges.length:=by constructor<;>(apply jN.2;intro h;simp [h] at w)
    have o:¬p.graph.nodes=[]:=jN.1 hn0.1
    have B:¬t.edges=[]:=jN.1 hn0.2
    have C:=b7 (aD:0<=(x.2.1.toNat:Int)) (aD:(0:Int)<t.edges.length)
    have U:=b7 (aD:0<=(x.2.2.1.toNat:Int)) (aD:(0:Int)<p.graph.nodes.length)
    have T:=b7 (aD:0<=(x.2.2.2.toNat:Int)) (aD:(0:Int)<p.graph.nodes.length)
    have e:(t.edges.length:Int)≠0:=aD
    have q:(p.graph.nodes.length:Int)≠0:=aD
    have g:yZ t p x=forbC p ⟨p.graph.nodes,p.graph.edges++[⟨(x.2.1.toNat:Int).tmod t.edges.length,(x.2.2.1.toNat:Int).tmod p.graph.nodes.length,(x.2.2.2.toNat:Int).tmod p.graph.nodes.length⟩]⟩:=by unfold yZ;rw [if_neg k,if_pos n,if_neg aD]
    have Y:=wa Y (wa e (wa q (wa g (wa @forbC.eq_1 (wa @trueC.eq_1 (wa @Cond.c_eq (wa @Cond.kind.eq_1 (wa @Cond.kids.eq_1 (wa @Cond.map.eq_1 @Cond.pattern.eq_1)))))))))
    refine wp (h:=aB (FY p.graph aD aD) wl ?_)
    refine wp (h:=?_)
    exact v _ _ (by simp [go_sem,Y,fZ,yJ,BU,Edge.c])
  .have g:yZ t p x=trueC:=by unfold yZ;rw [if_neg k,if_neg n]
   have Y:=wa Y (wa g (wa @trueC.eq_1 (wa @Cond.c_eq (wa @Cond.kind.eq_1 (wa @Cond.kids.eq_1 (wa @Cond.map.eq_1 @Cond.pattern.eq_1))))))
   refine wv (h:=?_)
   exact v _ _ (by simp [go_sem,cU4,l,m,j,i,f,y,g,trueC,Cond.c_eq,Cond.kind,Cond.kids,Cond.map,Cond.pattern,k,n]<;>first|omega|(rw [aX];simp<;>omega)|(simp_all<;>omega))
theorem IW (b:List Bool):(AK b).length<=b.length:=by
 unfold AK Vb;rw [aS];exact c9 (iB _ _) aF
theorem NH (k:UInt64)(a n:Nat):(wJ k a n).length=n:=by simp [wJ]
theorem I5 (g:Graph)(k:UInt64):(wZ g k).nodes.length<=g.nodes.length/\(wZ g k).edges.length<=g.edges.length:=by
 refine ⟨c9 (IW _) (by rw [rU,NH];exact bC _),c9 (IW _) (by rw [NH];exact bC _)⟩
theorem Cg (g:Graph)(p:Part):(b5 g p).nodes.length<=p.nodes.length/\(b5 g p).edges.length<=p.edges.length:=by
 unfold b5;split<;>simp
def qF (t:Types)(d:Dr24):Part:=wZ (eF t d.left).graph d.keep
def mU (t:Types)(d:Dr24):Graph:=b5 (eF t d.left).graph (qF t d)
def lL (t:Types)(d:Dr24):Graph:=jF t (mU t d) d
def n6 (t:Types)(d:Dr24):Graph:=qD (lL t d) (jD (lL t d).nodes.length d.order) (jD (lL t d).edges.length d.order)
def AW (t:Types)(d:Dr24):Rule :=
 ⟨⟨#[114]⟩,eF t d.left,⟨n6 t d,qS t (n6 t d).nodes (eF t d.left).vars d.slots,(eF t d.left).vars,[]⟩,qF t d,
  ⟨(jD (lL t d).nodes.length d.order).take (mU t d).nodes.length,(jD (lL t d).edges.length d.order).take (mU t d).edges.length⟩,d.inj,yZ t (eF t d.left) d.forbid⟩
def v6 (t:Types)(d:Dr24):Rule:=if d.plain=true then BQ (AW t d) else AW t d
theorem uY (t:Types)(d:Dr21):(eF t d).graph.ends/\(eF t d).graph.nodes.length<=8/\(eF t d).graph.edges.length<=10/\(0<=(eF t d).vars/\(eF t d).vars<=3):=by
 have b:=yO t d.graph
 have a:=v7 t d.graph
 refine ⟨b,a.1,a.2,?_⟩
 show 0<=(jX t d).2/\(jX t d).2<=3
 unfold jX
 split
 .exact ⟨by simp,by simp⟩
 .have:=zU (JI t d) d.slots (min d.slots.length 4);omega
theorem SK (g:Graph)(p q:List Int):(qD g p q).nodes.length<=g.nodes.length/\(qD g p q).edges.length<=g.edges.length:=by
 unfold qD;split
 .simp only [uN,uO];exact ⟨bC _,bC _⟩
 .simp
theorem Vr (l:List Int)(z:List D)(a:z.length=1):((l.map cI).head?.getD z).length=1:=by cases l<;>simp [cI,a]
theorem M8 (t:Types)(g:Graph)(d:Dr24):g.nodes.length<=(jF t g d).nodes.length/\g.edges.length<=(jF t g d).edges.length:=by
 refine ⟨by simp only [jF,zW];omega,by simp only [jF,M9,aJ];omega⟩
theorem RP (t:Types)(g:Graph)(d:Dr24):(jF t g d).nodes.length<=g.nodes.length+2/\(jF t g d).edges.length<=g.edges.length+2:=by
 refine ⟨?_,?_⟩
 .simp only [jF,zW];have:=E8 ((iX t).length=0) d.nodes.length;omega
 .exact c9 (Fc _ _ _ _ _) (Nat.add_le_add_left (E8 _ _) _)
theorem TU {P:Program}{f:FuncId}{args args':List D}{r:D}(i:args.map S1=args')(h:Pure P f args' r):Pure P f args r:=by
 subst i
 refine ⟨h.1,λM w a k b=>h.2 M w a k ⟨by simpa using b.len,λj u d g c=>?_⟩⟩
 rw [aH,bL] at c
 obtain ⟨y,e,rfl⟩:=c
 exact Kr (b.rep j u y g e)
theorem OE (t:Types)(x:t.fine)(d:Dr24):Pure Tryz.prog 75 [t.d,.agg d.c] (v6 t d).d:=by
 have v:=uY t d.left
 have w:=I5 (eF t d.left).graph d.keep
 have j:=Cg (eF t d.left).graph (wZ (eF t d.left).graph d.keep)
 have b:v6 t d=if d.plain=true then BQ (AW t d) else AW t d:=rfl
 unfold AW n6 lL mU qF at b
 obtain ⟨L,N⟩:=eX (eF t d.left)
 rw [N] at v w j b
 obtain ⟨K,O⟩:=eX (wZ L.graph d.keep)
 rw [O] at w j b
 obtain ⟨l,o⟩:∃ g,b5 L.graph K=g:=⟨_,rfl⟩
 rw [o] at j b
 have C:=RP t l d
 have D:=M8 t l d
 obtain ⟨e,J⟩:∃ g,jF t l d=g:=⟨_,rfl⟩
 rw [J] at C D b
 have i:=lQ e.nodes.length d.order
 have f:=lQ e.edges.length d.order
 obtain ⟨p,I⟩:=eX (jD e.nodes.length d.order)
 obtain ⟨q,H⟩:=eX (jD e.edges.length d.order)
 rw [I] at i b
 rw [H] at f b
 have z:=SK e p q
 obtain ⟨y,n⟩:∃ g,qD e p q=g:=⟨_,rfl⟩
 rw [n] at z b
 obtain ⟨R,m⟩:∃ s,qS t y.nodes L.vars d.slots=s:=⟨_,rfl⟩
 obtain ⟨P,u⟩:∃ c,yZ t L d.forbid=c:=⟨_,rfl⟩
 rw [m,u] at b
 have B:=i.1
 have A:=f.1
 have F:=Vr p
 have E:=Vr q
 have G:=Cond.c_eq P
 refine Tz.pK ⟨λt=>t==4||t==5||t==6||t==7||t==8||t==10,λr=>match r with|2=>[(0,9),(1,9),(2,9),(3,9),(4,9),(5,9),(6,9),(7,9)]|_=>[]⟩ Tryz.func75 rfl (λQ M=>?_)
 have Y:=wa @Dr24.c.eq_1 (wa F (wa E (wa B (wa A G))))
 refine wv (h:=aB ((by have a:=OI t x d.left;rw [N] at a;exact a)) wl ?_)
 refine wv (h:=aM ((by have a:=OL L.graph aD aD v.1 d.keep;rw [O] at a;exact a)) wl ?_)
 refine wv (h:=aB ((by have a:=HV L.graph K aD aD;rw [o] at a;exact a)) wl ?_)
 refine wv (h:=aB ((by have a:=L4 t x l aD aD d;rw [J] at a;exact a)) wl ?_)
 refine wp (h:=aM ((by have a:=pI e.nodes.length aD d.order;rw [I] at a;exact a)) wl ?_)
 refine wp (h:=aM ((by have a:=pI e.edges.length aD d.order;rw [H] at a;exact a)) wl ?_)
 refine wp (h:=aB ((by have a:=AH e aD aD p q i f;rw [n] at a;exact a)) wl ?_)
 refine wp (h:=aB ((by have a:=L2 t x y L.vars aD d.slots;rw [m] at a;exact a)) wl ?_)
 refine wp (h:=aB ((by have a:=Kg t x L aD aD d.forbid;rw [u] at a;exact a)) wl ?_)
 refine vJ (λk=>?_) λk=>?_
 .refine wv (h:=aB (TU (by simp [go_sem,Rule.d,Rule.c,dLI]) (L3 ⟨⟨#[114]⟩,L,⟨y,R,L.vars,[]⟩,K,⟨p.take l.nodes.length,q.take l.edges.length⟩,d.inj,P⟩ (by simp only;omega) (by simp only;omega) (by simp only;omega) (by simp only [bQ];omega))) wl ?_)
  have Y:=wa Y k
  exact wv (h:=M _ _ wy)
 .have Y:=wa Y k
  exact wv (h:=M _ _ wy)
def j5 (im keep:List Int):List Int:=((List.range im.length).filter λ(i:Nat)=>!mem keep i).map λi=>im[i]?.getD 0
def Cl (g:Graph)(me gone:List Int)(k:Nat):Bool:=!mem me k&&(mem gone (g.edges[k]?.getD b4).from_||mem gone (g.edges[k]?.getD b4).to_)
def Ck (g:Graph)(me gone:List Int):List Int:=((List.range g.edges.length).filter (Cl g me gone)).map λ(b:Nat)=>(b:Int)
def xL (im keep:List Int)(i k:Nat):Bool:=decide (im[i]?.getD 0=im[k]?.getD 0)&&(!mem keep i||!mem keep k)
def nA (im keep:List Int)(i j:Nat):List (Nat × Nat):=((List.range j).filter λb=>xL im keep i (i+1+b)).map λb=>(i,i+1+b)
def Ib (im keep:List Int)(n:Nat):List (Nat × Nat):=(List.range n).flatMap λi=>nA im keep i (im.length - (i+1))
def qH (im keep:List Int):List (Nat × Nat):=Ib im keep im.length
def cPr (p:Nat × Nat):List D:=[dI p.1,dI p.2]
@[go_sem] theorem WH (p:Nat × Nat):D.clL (cPr p)=true:=rfl
@[go_sem] theorem abF (l:List (Nat × Nat)):D.clLL (l.map cPr)=true:=c8 _ WH l
theorem No (a keep:List Int)(i j:Nat):nA a keep i (j+1)=nA a keep i j++(if xL a keep i (i+1+j)=true then [(i,i+1+j)] else []):=by
 unfold nA
 rw [bK,gA,List.map_append]
 congr 1
 by_cases h:xL a keep i (i+1+j)=true<;>simp [h]
theorem Jt (a keep:List Int)(n:Nat):Ib a keep (n+1)=Ib a keep n++nA a keep n (a.length - (n+1)):=by
 unfold Ib;rw [bK,List.flatMap_append];simp
theorem GZ (a keep:List Int)(i j:Nat):(nA a keep i j).length<=j:=by
 unfold nA;rw [aS];exact c9 (iB _ _) aF
theorem Cj (im keep:List Int):∀ n,(Ib im keep n).length<=n * im.length
 | 0=>by simp [Ib]
 | n+1=>by
  have h1:=Cj im keep n
  have h2:=GZ im keep n (im.length - (n+1))
  rw [Jt,aJ,Nat.add_mul]
  omega
theorem wC (b keep:List Int){i:Nat}(h:i<b.length):((List.range (i+1)).filter λ(i:Nat)=>!mem keep i).map (λi=>b[i]?.getD 0)=((List.range i).filter λ(i:Nat)=>!mem keep i).map (λi=>b[i]?.getD 0)++(if (!mem keep i)=true then [b[i]] else []):=by
 rw [bK,gA,List.map_append]
 congr 1
 by_cases a:(!mem keep i)=true
 .rw [if_pos a];simp at a;simp [a,h]
 .rw [if_neg a];simp at a;simp [a]
theorem rE {c keep:List Int}{x:Int}:x∈j5 c keep↔∃ i:Nat,i<c.length/\mem keep i=false/\c[i]?=some x:=by
 unfold j5
 simp only [aQ,dL,aR,cG]
 constructor
 .rintro ⟨i,⟨a,d⟩,b⟩
  rw [aA a] at b
  exact ⟨i,a,d,by rw [aA a];exact congrArg some b⟩
 .rintro ⟨i,a,d,b⟩
  exact ⟨i,⟨a,d⟩,by rw [b];rfl⟩
def compG (l g:Graph)(keep m:Part):Int:=if dS l g m≠0 then dS l g m else subF l keep
def tJ (l g:Graph)(keep m:Part):Int :=
 if compG l g keep m≠0 then compG l g keep m
 else if 0<(qH m.nodes keep.nodes).length+(qH m.edges keep.edges).length then 15
 else if 0<(Ck g m.edges (j5 m.nodes keep.nodes)).length then 14 else 0
def AP (l g:Graph)(keep m:Part):Part:=if tJ l g keep m=0 then ⟨bF (j5 m.nodes keep.nodes) g.nodes.length,bF (j5 m.edges keep.edges) g.edges.length⟩ else ⟨[],[]⟩
theorem Tr {g:Graph}{me gone:List Int}{k:Nat}(h:k<g.edges.length):Cl g me gone k=(!mem me k&&(mem gone g.edges[k].from_||mem gone g.edges[k].to_)):=by
 unfold Cl;rw [aA h];rfl
theorem Wz {a keep:List Int}{i k:Nat}(c:i<a.length)(b:k<a.length):xL a keep i k=(decide (a[i]=a[k])&&(!mem keep i||!mem keep k)):=by
 unfold xL;rw [aA c,aA b];rfl
theorem Dr (a keep:List Int){i k:Nat}(h:i+1<=k):nA a keep i (k+1 - (i+1))=nA a keep i (k - (i+1))++(if xL a keep i k=true then [(i,k)] else []):=by
 rw [show k+1 - (i+1)=(k - (i+1))+1 by omega,No,show i+1+(k - (i+1))=k by omega]
theorem Np {a keep:List Int}(h:a.length<=1000):(qH a keep).length<=1000000:=by
 have c:=Cj a keep a.length
 have b:a.length * a.length<=1000 * 1000:=mE h h
 unfold qH;omega
theorem vE (a keep:List Int)(w:a.length<=1000):Pure Tryz.prog 329 [dLI a,dLI keep] (.list ((qH a keep).map cPr)):=by
 refine Tz.pK ⟨λt=>t==5,λ_=>[]⟩ Tryz.func329 rfl (λQ C=>?_)
 have Y:=trivial
 refine wo (h:=bV (λi e H=>∃ c:List (Nat × Nat),(e 0=dLI a/\e 1=dLI keep/\e 9=dI a.length/\e 5=.own 0 c.length/\e 10=dI i)/\(H.get 0=some ⟨354,2,c.map cPr,false⟩)/\(0<H.next)/\(i<=a.length)/\(c=Ib a keep i)) (λi=>a.length - i) 0 ⟨([]),wg,wn,wn,wi,(by rfl)⟩ λL v i e H s=>?_)
 obtain ⟨c,F,n,j,G,p⟩:=s
 have Y:=wa Y (wa F (wa n (b8 j)))
 refine d7 (λf=>?_) λf=>?_
 .have Y:=wa Y (wa f (aA f))
  refine wo (h:=bV (λk e H=>∃ b:List (Nat × Nat),(e 0=dLI a/\e 1=dLI keep/\e 9=dI a.length/\e 5=.own 0 b.length/\e 6=dI i/\e 10=dI i/\e 7=dI k)/\(H.get 0=some ⟨354,2,b.map cPr,false⟩)/\(0<H.next)/\(i+1<=k)/\(k<=a.length)/\(b=c++nA a keep i (k - (i+1)))/\(b.length<=1000000)) (λk=>a.length - k) (i+1) ⟨c,wg,wn,wn,wi,wi,(by simp [nA]),(by have:=Cj a keep i;have:i * a.length<=1000 * 1000:=mE aD w;rw [p];omega)⟩ λK l k e H r=>?_)
  obtain ⟨b,E,m,g,A,z,o,y⟩:=r
  have Y:=wa Y (wa E (wa m (b8 g)))
  refine f9 (λq=>?_) λq=>?_
  .have hd:=Wz (keep:=keep) f q
   have d:(b++(if xL a keep i k=true then [(i,k)] else [])).length<=1000000:=by
    have D:b++(if xL a keep i k=true then [(i,k)] else [])=Ib a keep i++nA a keep i (k+1 - (i+1)):=by rw [Dr _ _ aD,<- List.append_assoc,o,p]
    rw [D,aJ]
    have J:=Cj a keep i
    have I:=GZ a keep i (k+1 - (i+1))
    have f:i * a.length+a.length<=1000 * 1000:=by
     have:=mE (aD:i+1<=1000) w
     rw [Nat.add_mul] at this;omega
    omega
   have Y:=wa Y (wa f (wa (aA f) (wa q (aA q))))
   refine wo (h:=eP (λu=>fF keep i) (λu=>wl) ?_)
   refine wo (h:=eP (λu=>fF keep k) (λu=>wl) ?_)
   refine f9 (λx=>?_) λx=>?_
   .have hdt:xL a keep i k=true:=by rw [hd];simpa using x
    have Y:=wa Y (wa hdt @cPr.eq_1)
    exact wo (h:=wx l (k+1) ⟨(b++(if xL a keep i k=true then [(i,k)] else [])),wg,wn,wn,wj,wj,(by rw [Dr _ _ aD,<- List.append_assoc,<- o]),(by exact d)⟩)
   .have hdf:xL a keep i k=false:=by rw [hd,bN];intro B;simp at B;simp_all
    have Y:=wa Y hdf
    exact wo (h:=wx l (k+1) ⟨(b++(if xL a keep i k=true then [(i,k)] else [])),wg,wn,wn,wj,wj,(by rw [Dr _ _ aD,<- List.append_assoc,<- o]),(by exact d)⟩)
  .have hJ:k=a.length:=aD
   subst hJ
   subst o
   exact wo (h:=wx v (i+1) ⟨(c++nA a keep i (a.length - (i+1))),wg,wn,wn,wj,(by rw [Jt,<- p])⟩)
 .have hX:qH a keep=c:=by rw [p,(aD:i=a.length)];rfl
  exact wv (h:=C _ _ (by simp [go_sem,Y,hX]))
def s8 (n:Nat)(l:List Int):List Bool:=l.foldl (λacc x=>acc.set x.toNat true) (List.replicate n false)
theorem Gs (n:Nat)(l:List Int)(x:Int):s8 n (l++[x])=(s8 n l).set x.toNat true:=by unfold s8;rw [jO];rfl
theorem De (n:Nat)(l:List Int):(s8 n l).length=n:=by
 unfold s8
 have:∀ (l:List Int) (a:List Bool),a.length=n->(l.foldl (λb x=>b.set x.toNat true) a).length=n:=by
  intro l
  induction l with
  | nil=>intro a h;exact h
  | cons x l ih=>intro a h;exact ih _ (bS h)
 exact this l _ aF
theorem Rw (n:Nat):∀ (l:List Int),(∀ x∈l,0<=x/\x<n)->∀ i:Nat,i<n->(s8 n l)[i]?=some (mem l i):=by
 have:∀ (l:List Int) (a:List Bool),a.length=n->(∀ x∈l,0<=x/\x<n)->∀ i:Nat,i<n->(l.foldl (λd x=>d.set x.toNat true) a)[i]?=some (a[i]?.getD false||mem l i):=by
  intro l
  induction l with
  | nil=>intro a f _ i b;rw [List.foldl_nil,aA aD,zS];simp
  | cons x l ih =>
   intro a f c i b
   have j:=c x aF
   rw [Bn,ih _ (bS f) (λy g=>c y (by simp [g])) i b]
   congr 1
   have h:mem (x :: l) (i:Int)=(decide ((i:Int)=x)||mem l i):=by
    rw [aX,cQ,cO,cQ,decide_eq_true_eq,bP]
   rw [h]
   by_cases e:x.toNat=i
   .subst e
    rw [fK aD]
    have:((x.toNat:Nat):Int)=x:=aD
    simp [this]
   .rw [iZ e]
    have:¬ ((i:Int)=x):=aD
    simp [this]
 intro l c i b
 unfold s8
 rw [this l _ aF c i b]
 simp [b]
theorem xA (n:Nat)(R:n<=1000000)(d keep:List Int)(K:d.length<=1000000)(v:∀ x∈d,0<=x/\x<n):Pure Tryz.prog 238 [dI n,dLI d,dLI keep] (dLI (bF (j5 d keep) n)):=by
 refine Tz.pK ⟨λt=>t==14||t==10,λ_=>[]⟩ Tryz.func238 rfl (λQ N=>?_)
 have Y:=trivial
 refine wo (h:=bV (λi e H=>∃ a:List Int,(e 0=dI n/\e 2=dLI keep/\e 15=dLI d/\e 16=dI d.length/\e 7=.own 0 n/\e 17=dI i)/\(H.get 0=some ⟨4,1,(s8 n a).map cB,false⟩)/\(0<H.next)/\(i<=d.length)/\((s8 n a).length=n)/\(a=((List.range i).filter λ(b:Nat)=>!mem keep b).map (λi=>d[i]?.getD 0))) (λi=>d.length - i) 0 ⟨([]),wg,(by simp [go_sem,s8,cB]),wn,wi,(by exact De _ _),(by rfl)⟩ λW y i e H D=>?_)
 obtain ⟨a,P,A,s,U,E,B⟩:=D
 have Y:=wa Y (wa P (wa A (b8 s)))
 refine d7 (λq=>?_) λq=>?_
 .have hb:=v _ (aC q)
  have G:d[i].toNat<(s8 n a).length:=aD
  have Y:=wa Y (wa q (wa (aA q) (aA G)))
  refine wo (h:=aB (fF keep i) wl ?_)
  refine f9 (λI=>?_) λI=>?_
  .have Y:=wa Y I
   exact wo (h:=wx y (i+1) ⟨(a++(if (!mem keep i)=true then [d[i]] else [])),wg,(by simp [go_sem,Y,Gs,dU,cB]),wn,wj,(by exact De _ _),(by rw [wC _ _ q,<- B])⟩)
  .have Y:=wa Y I
   exact wo (h:=wx y (i+1) ⟨(a++(if (!mem keep i)=true then [d[i]] else [])),wg,(by simp [go_sem,Y,Gs,dU,cB]),wn,wj,(by exact De _ _),(by rw [wC _ _ q,<- B])⟩)
 .have hgo:j5 d keep=a:=by rw [B,(aD:i=d.length)];rfl
  have F:∀ x∈a,0<=x/\x<n:=λx u=>by
   rw [<- hgo,rE] at u
   obtain ⟨j,_,_,h⟩:=u
   exact v x (aI h)
  refine wo (h:=bV (λk e H=>∃ l:List Int,∃ c:Nat,(e 0=dI n/\e 2=dLI keep/\e 15=dLI d/\e 16=dI d.length/\e 30=.own 0 n/\e 31=dI n/\e 32=dI k/\e 10=.own c l.length)/\(H.get 0=some ⟨4,1,(s8 n a).map cB,false⟩)/\(0<H.next)/\(H.get c=some ⟨3,1,l.map cI,false⟩)/\(c<H.next)/\(c≠0)/\(k<=n)/\(l.length<=k)/\(l=((List.range k).filter λ(b:Nat)=>!mem a b).map (λ(b:Nat)=>(b:Int)))) (λk=>n - k) 0 ⟨([]),H.next,wg,wn,wn,wn,wn,aD,wi,aF,(by rfl)⟩ λV w k e H C=>?_)
  obtain ⟨l,c,O,z,r,g,f,M,T,S,m⟩:=C
  have J:=dG (aD:0≠c)
  have Y:=wa Y (wa O (wa z (wa (b8 r) (wa g (wa (b8 f) (wa E J))))))
  refine d7 (λp=>?_) λp=>?_
  .have hkm:k<(s8 n a).length:=aD
   have L:(s8 n a)[k]=mem a k:=by have:=Rw n a F k p;rw [aA hkm] at this;exact Option.some.inj this
   have Y:=wa Y (wa p (wa (aA hkm) L))
   refine f9 (λo=>?_) λo=>?_
   .have Y:=wa Y o
    exact wo (h:=wx w (k+1) ⟨(l++(if (!mem a k)=true then [(k:Int)] else [])),c,wg,wn,wn,wn,wn,aD,wj,(by rw [aJ];split<;>simp<;>omega),(by rw [cV,<- m])⟩)
   .have Y:=wa Y o
    exact wo (h:=wx w (k+1) ⟨(l++(if (!mem a k)=true then [(k:Int)] else [])),c,wg,wn,wn,wn,wn,aD,wj,(by rw [aJ];split<;>simp<;>omega),(by rw [cV,<- m])⟩)
  .exact wv (h:=N _ _ (by simp [go_sem,Y,hgo,bF];rw [m,(aD:k=n)];simp))
def gluC (l g:Graph)(keep m:Part):List D:=[dLI l.nodes,.list (l.edges.map Edge.c),dLI g.nodes,.list (g.edges.map Edge.c),dLI keep.nodes,dLI keep.edges,dLI m.nodes,dLI m.edges]
theorem Du (l g:Graph)(keep m:Part)(c:keep.nodes.length<=1000000):Pure Tryz.prog 235 [.agg (gluC l g keep m)] (dI (compG l g keep m)):=by
 refine Tz.pK ⟨λ_=>false,λ_=>[]⟩ Tryz.func235 rfl (λQ b=>?_)
 have Y:=@gluC.eq_1
 refine wv (h:=aB (n9 l g m) wl ?_)
 refine d7 (λa=>?_) λa=>?_
 .have Y:=wa Y (wa a @compG.eq_1)
  exact wv (h:=b _ _ wy)
 .refine wv (h:=aB (xZ l keep c) wl ?_)
  have Y:=wa Y (wa a @compG.eq_1)
  exact wv (h:=b _ _ wy)
theorem Be (l g:Graph)(keep m:Part)(s:m.nodes.length<=1000000):Pure Tryz.prog 330 [.agg (gluC l g keep m)] (dLI (j5 m.nodes keep.nodes)):=by
 refine Tz.pK ⟨λt=>t==3,λ_=>[]⟩ Tryz.func330 rfl (λQ q=>?_)
 have Y:=@gluC.eq_1
 refine wo (h:=bV (λi e H=>∃ a:List Int,(e 1=.adr (gluC l g keep m)/\e 8=dLI m.nodes/\e 9=dI m.nodes.length/\e 3=.own 0 a.length/\e 10=dI i)/\(H.get 0=some ⟨3,1,a.map cI,false⟩)/\(0<H.next)/\(i<=m.nodes.length)/\(a.length<=i)/\(a=((List.range i).filter λ(b:Nat)=>!mem keep.nodes b).map (λi=>m.nodes[i]?.getD 0))) (λi=>m.nodes.length - i) 0 ⟨([]),wg,wn,wn,wi,aF,(by rfl)⟩ λw d i e H n=>?_)
 obtain ⟨a,r,j,c,v,u,k⟩:=n
 have Y:=wa Y (wa r (wa j (b8 c)))
 refine d7 (λf=>?_) λf=>?_
 .have Y:=wa Y (wa f (aA f))
  refine wo (h:=aB (fF keep.nodes i) wl ?_)
  refine f9 (λo=>?_) λo=>?_
  .have Y:=wa Y o
   exact wo (h:=wx d (i+1) ⟨(a++(if (!mem keep.nodes i)=true then [m.nodes[i]] else [])),wg,wn,wn,wj,(by rw [aJ];split<;>simp<;>omega),(by rw [wC _ _ f,<- k])⟩)
  .have Y:=wa Y o
   exact wo (h:=wx d (i+1) ⟨(a++(if (!mem keep.nodes i)=true then [m.nodes[i]] else [])),wg,wn,wn,wj,(by rw [aJ];split<;>simp<;>omega),(by rw [wC _ _ f,<- k])⟩)
 .refine wv (h:=?_)
  have p:j5 m.nodes keep.nodes=a:=by rw [k,(aD:i=m.nodes.length)];rfl
  exact q _ _ (by simp [go_sem,Y,p])
theorem Aw (l g:Graph)(keep m:Part)(u:m.nodes.length<=1000000)(n:g.edges.length<=1000000):Pure Tryz.prog 237 [.agg (gluC l g keep m)] (dLI (Ck g m.edges (j5 m.nodes keep.nodes))):=by
 obtain ⟨d,r⟩:=eX (j5 m.nodes keep.nodes)
 refine Tz.pK ⟨λt=>t==6||t==4,λ_=>[]⟩ Tryz.func237 rfl (λQ w=>?_)
 have Y:=wa r @gluC.eq_1
 refine wv (h:=aB ((by have:=Be l g keep m u;simp only [gluC] at this;exact this)) wl ?_)
 refine wo (h:=bV (λk e H=>∃ a:List Int,(e 1=.adr (gluC l g keep m)/\e 3=dLI d/\e 11=.list (g.edges.map Edge.c)/\e 12=dI g.edges.length/\e 4=.own 0 a.length/\e 13=dI k)/\(H.get 0=some ⟨3,1,a.map cI,false⟩)/\(0<H.next)/\(k<=g.edges.length)/\(a.length<=k)/\(a=((List.range k).filter (Cl g m.edges d)).map (λ(b:Nat)=>(b:Int)))) (λk=>g.edges.length - k) 0 ⟨([]),wg,wn,wn,wi,aF,(by rfl)⟩ λC i k e H q=>?_)
 obtain ⟨a,z,j,f,B,A,p⟩:=q
 have Y:=wa Y (wa z (wa j (b8 f)))
 refine d7 (λo=>?_) λo=>?_
 .have hdb:=Tr (me:=m.edges) (gone:=d) o
  have y:=fF d g.edges[k].from_
  have x:=fF d g.edges[k].to_
  have Y:=wa Y (wa o (wa (aA o) (wa hdb @Edge.c.eq_1)))
  refine wo (h:=aB (fF m.edges k) wl ?_)
  refine wo (h:=aO (λn=>y) (λn=>wl) ?_)
  refine wo (h:=aO (λn=>x) (λn=>wl) ?_)
  refine f9 (λs=>?_) λs=>?_
  .have Y:=wa Y s
   exact wo (h:=wx i (k+1) ⟨(a++(if Cl g m.edges d k=true then [(k:Int)] else [])),wg,wn,wn,wj,(by rw [aJ];split<;>simp<;>omega),(by rw [cV,<- p])⟩)
  .have Y:=wa Y s
   exact wo (h:=wx i (k+1) ⟨(a++(if Cl g m.edges d k=true then [(k:Int)] else [])),wg,wn,wn,wj,(by rw [aJ];split<;>simp<;>omega),(by rw [cV,<- p])⟩)
 .refine wv (h:=?_)
  have v:Ck g m.edges d=a:=by rw [p,(aD:k=g.edges.length)];rfl
  exact w _ _ (by simp [go_sem,Y,v])
theorem xN (l g:Graph)(keep m:Part)(c:m.nodes.length<=1000)(b:m.edges.length<=1000):Pure Tryz.prog 236 [.agg (gluC l g keep m)] (.tup [.list ((qH m.nodes keep.nodes).map cPr),.list ((qH m.edges keep.edges).map cPr)]):=by
 refine Tz.pK ⟨λ_=>false,λ_=>[]⟩ Tryz.func236 rfl (λQ a=>?_)
 have Y:=@gluC.eq_1
 refine wv (h:=aM (vE m.nodes keep.nodes c) wl ?_)
 refine wv (h:=aM (vE m.edges keep.edges b) wl ?_)
 exact wv (h:=a _ _ wy)
theorem uV {a b:Graph}{m:Part}(h:dS a b m=0):(∀ x∈m.nodes,0<=x/\x<b.nodes.length)/\∀ x∈m.edges,0<=x/\x<b.edges.length:=by
 obtain ⟨_,_,j,g⟩:=lZ h
 have d:dS a b m=(if bT (jY a b m) 0 a.nodes.length≠0 then bT (jY a b m) 0 a.nodes.length else bT (mapEE a b m) 0 a.edges.length):=by
  obtain ⟨f,e,_,_⟩:=lZ h
  unfold dS;rw [if_neg (by simp [f]),if_neg (by simp [e]),if_neg aD]
 rw [d] at h
 split at h
 .rename_i h5;exact absurd h h5
 .rename_i h5
  constructor
  .intro x hx
   obtain ⟨i,c,rfl⟩:=aK hx
   have:=dV _ _ (aD:bT (jY a b m) 0 a.nodes.length=0) i aD aD
   unfold jY at this
   rw [aA c] at this
   simp only [Option.getD_some] at this
   split at this<;>omega
  .intro x hx
   obtain ⟨i,c,rfl⟩:=aK hx
   have:=dV _ _ h i aD aD
   unfold mapEE at this
   rw [aA c] at this
   simp only [Option.getD_some] at this
   split at this<;>omega
theorem If (l g:Graph)(keep m:Part)(r:keep.nodes.length<=1000000)(f:m.nodes.length<=1000)(e:m.edges.length<=1000)(n:g.nodes.length<=1000000)(j:g.edges.length<=1000000):Pure Tryz.prog 140 [l.d,g.d,keep.d,m.d] (.tup [(AP l g keep m).d,dI (tJ l g keep m)]):=by
 have u:=Np (keep:=keep.nodes) f
 have s:=Np (keep:=keep.edges) e
 refine Tz.pK ⟨λt=>t==8||t==10,λ_=>[]⟩ Tryz.func140 rfl (λQ k=>?_)
 have Y:=trivial
 refine wv (h:=aB ((by have:=Du l g keep m r;simp only [gluC] at this;exact this)) wl ?_)
 refine d7 (λc=>?_) λc=>?_
 .have hC:tJ l g keep m=compG l g keep m:=if_pos c
  have b:AP l g keep m=⟨[],[]⟩:=if_neg (by rw [hC];exact c)
  exact wv (h:=k _ _ (by simp [go_sem,hC,b]))
 .have hC:tJ l g keep m=if 0<(qH m.nodes keep.nodes).length+(qH m.edges keep.edges).length then 15 else if 0<(Ck g m.edges (j5 m.nodes keep.nodes)).length then 14 else 0:=if_neg (by rw [c];simp)
  have i:(∀ x∈m.nodes,0<=x/\x<g.nodes.length)/\∀ x∈m.edges,0<=x/\x<g.edges.length:=uV (a:=l) (by unfold compG at c;by_cases o:dS l g m=0;exact o;rw [if_pos o] at c;exact c)
  refine wv (h:=aB ((by have:=xN l g keep m f e;simp only [gluC] at this;exact this)) wl ?_)
  refine f9 (λq=>?_) λq=>?_
  .rw [if_pos aD] at hC
   have b:AP l g keep m=⟨[],[]⟩:=if_neg (by rw [hC];simp)
   exact wv (h:=k _ _ (by simp [go_sem,hC,b]))
  .rw [if_neg (by first|omega|simp [q])] at hC
   refine wo (h:=aB ((by have:=Aw l g keep m aD j;simp only [gluC] at this;exact this)) wl ?_)
   refine f9 (λp=>?_) λp=>?_
   .rw [if_pos aD] at hC
    have b:AP l g keep m=⟨[],[]⟩:=if_neg (by rw [hC];simp)
    exact wv (h:=k _ _ (by simp [go_sem,hC,b]))
   .rw [if_neg (by first|omega|simp [p])] at hC
    have b:AP l g keep m=⟨bF (j5 m.nodes keep.nodes) g.nodes.length,bF (j5 m.edges keep.edges) g.edges.length⟩:=if_pos hC
    refine wo (h:=aM (xA g.nodes.length n m.nodes keep.nodes aD i.1) wl ?_)
    refine wo (h:=aM (xA g.edges.length j m.edges keep.edges aD i.2) wl ?_)
    exact wo (h:=k _ _ (by simp [go_sem,hC,b]))
def jM (s:ByteArray):Bool:=decide (40<(s.size:Int))
def tM (x:Attr):Bool:=jM x.name||decide (25<(x.names.length:Int))||x.names.any jM
def pM (n:NodeTy):Bool:=jM n.name||n.attrs.any tM
def Ah (x:EdgeTy):Bool:=jM x.name
def iO (l:List NodeTy):Nat:=(l.map λn=>n.attrs.length).sum
def u7 (t:Types):Bool:=decide ((t.nodes.length:Int)<=20)&&decide ((t.edges.length:Int)<=30)&&decide (iO t.nodes<=30)&&!(t.nodes.any pM)&&!(t.edges.any Ah)
@[go_sem,simp] theorem VA:iO []=0:=rfl
theorem KR (l:List NodeTy){i:Nat}(h:i<l.length):iO (l.take (i+1))=iO (l.take i)+l[i].attrs.length:=by
 unfold iO
 rw [List.take_succ_eq_append_getElem h,List.map_append,List.sum_append];simp
theorem PN (l:List NodeTy)(i:Nat):iO (l.take i)<=iO l:=by
 have:iO l=iO (l.take i)+iO (l.drop i):=by
  unfold iO
  rw [<- List.sum_append,<- List.map_append,List.take_append_drop]
 omega
theorem R6 {l:List NodeTy}{n:NodeTy}(h:n∈l):n.attrs.length<=iO l:=by
 induction l with
 | nil=>cases h
 | cons a l ih =>
  have e:iO (a :: l)=a.attrs.length+iO l:=by simp [iO]
  rcases bP.1 h with rfl|h
  .omega
  .have:=ih h;omega
theorem KH {t:Types}(h:u7 t=true):t.ok:=by
 simp [u7] at h
 obtain ⟨⟨⟨⟨j,i⟩,g⟩,f⟩,e⟩:=h
 refine ⟨λn b=>?_,λx a=>⟨?_⟩,aD,aD⟩
 .have hl:=R6 b
  have:=f n b
  simp [pM,jM] at this
  refine ⟨aD,λx a=>?_,aD⟩
  have c:=this.2 x a
  simp [tM,jM] at c
  refine ⟨aD,λs d=>?_,aD⟩
  have:=c.2 s d
  omega
 .have:=e x a
  simp [Ah,jM] at this
  omega
theorem IG (t:Types)(L:∀ n∈t.nodes,n.attrs.length<=1000000000000000):Pure Tryz.prog 36 [t.d] (.bool (u7 t)):=by
 refine Tz.pK ⟨λt=>t==6,λ_=>[]⟩ Tryz.func36 rfl (λQ s=>?_)
 have Y:=trivial
 refine f9 (λO=>?_) λO=>?_
 .refine wv (h:=?_)
  have r:u7 t=false:=by simp [u7];omega
  exact s _ _ (by simp [go_sem,r])
 .refine wv (h:=bV (λi e H=>(e 1=.adr t.c/\e 3=dI (iO (t.nodes.take i))/\e 4=dI i)/\(i<=t.nodes.length)/\(iO (t.nodes.take i)<=30)/\((t.nodes.take i).any pM=false)) (λi=>t.nodes.length - i) 0 ⟨wg,wi,(by simp [iO]),(by rfl)⟩ λI0 D i e H z=>?_)
  obtain ⟨T,Z,M,K⟩:=z
  have Y:=wa Y T
  refine f9 (λp=>?_) λp=>?_
  .have hst:=KR t.nodes p
   have N:=PN t.nodes (i+1)
   have U:=L _ (aC p)
   have Y:=wa Y (wa p hst)
   refine f9 (λh8=>?_) λh8=>?_
   .refine wv (h:=?_)
    have r:u7 t=false:=by
     rcases h8 with h8|h8
     .simp [u7];omega
     .have:t.nodes.any pM=true:=aZ.2 ⟨_,aC p,by simp [pM,jM];omega⟩
      simp [u7,this]
    exact s _ _ (by simp [go_sem,r])
   .have hN:jM t.nodes[i].name=false:=by simp [jM];omega
    refine wv (h:=bV (λk e H=>(e 1=.adr t.c/\e 3=dI (iO (t.nodes.take (i+1)))/\e 4=dI i/\e 5=dI k)/\(k<=t.nodes[i].attrs.length)/\((t.nodes[i].attrs.take k).any tM=false)) (λk=>t.nodes[i].attrs.length - k) 0 ⟨wg,wi,(by rfl)⟩ λI2 C k e H y=>?_)
    obtain ⟨S,W,r⟩:=y
    have Y:=wa Y S
    refine f9 (λb=>?_) λb=>?_
    .have Y:=wa Y b
     refine f9 (λG=>?_) λG=>?_
     .refine wv (h:=?_)
      have f:tM t.nodes[i].attrs[k]=true:=by simp [tM,jM];omega
      have g:t.nodes.any pM=true:=aZ.2 ⟨_,aC p,by unfold pM;rw [cO];right;exact aZ.2 ⟨_,aC b,f⟩⟩
      have a:u7 t=false:=by simp [u7,g]
      exact s _ _ (by simp [go_sem,a])
     .have hM:jM t.nodes[i].attrs[k].name=false:=by simp [jM];omega
      refine wv (h:=bV (λm e H=>∃ j:Nat,(e 1=.adr t.c/\e 3=dI (iO (t.nodes.take (i+1)))/\e 4=dI i/\e 5=dI k/\e 6=.ptr j 1 0 0/\e 7=dI m)/\(H.get j=some ⟨118,4,[t.nodes[i].attrs[k].c],false⟩)/\(j<H.next)/\(m<=t.nodes[i].attrs[k].names.length)/\((t.nodes[i].attrs[k].names.take m).any jM=false)) (λm=>t.nodes[i].attrs[k].names.length - m) 0 ⟨H.next,wg,wn,wn,wi,(by rfl)⟩ λI4 B m e H x=>?_)
      obtain ⟨j,R,v,u,V,J⟩:=x
      have Y:=wa Y (wa R (wa v (b8 u)))
      refine f9 (λo=>?_) λo=>?_
      .have Y:=wa Y o
       refine f9 (λF=>?_) λF=>?_
       .refine wv (h:=?_)
        have f:tM t.nodes[i].attrs[k]=true:=by unfold tM;rw [cO];right;exact aZ.2 ⟨_,aC o,by simp [jM];omega⟩
        have g:t.nodes.any pM=true:=aZ.2 ⟨_,aC p,by unfold pM;rw [cO];right;exact aZ.2 ⟨_,aC b,f⟩⟩
        have a:u7 t=false:=by simp [u7,g]
        exact s _ _ (by simp [go_sem,a])
       .exact wo (h:=wx B (m+1) ⟨j,wg,wn,wn,wj,(by rw [dX _ _ _ o,J];simp [jM];omega)⟩)
      .have hZ:=pO J o
       exact wo (h:=wx C (k+1) ⟨wg,wj,(by rw [dX _ _ _ b,r];simp [tM,hM,hZ];omega)⟩)
    .have hA:=pO r b
     exact wo (h:=wx D (i+1) ⟨wg,wj,aD,(by rw [dX _ _ _ p,K];simp [pM,hN,hA])⟩)
  .have hNn:=pO K p
   rw [aY aD] at M
   refine wv (h:=bV (λq e H=>(e 1=.adr t.c/\e 8=dI q)/\(q<=t.edges.length)/\((t.edges.take q).any Ah=false)) (λq=>t.edges.length - q) 0 ⟨wg,wi,(by rfl)⟩ λI6 A q e H w=>?_)
   obtain ⟨P,X,I⟩:=w
   have Y:=wa Y P
   refine f9 (λl=>?_) λl=>?_
   .have Y:=wa Y l
    refine f9 (λE=>?_) λE=>?_
    .refine wv (h:=?_)
     have g:t.edges.any Ah=true:=aZ.2 ⟨_,aC l,by simp [Ah,jM];omega⟩
     have a:u7 t=false:=by simp [u7,g]
     exact s _ _ (by simp [go_sem,a])
    .exact wo (h:=wx A (q+1) ⟨wg,wj,(by rw [dX _ _ _ l,I];simp [Ah,jM];omega)⟩)
   .have hEe:=pO I l
    refine wv (h:=?_)
    have a:u7 t=true:=by simp only [u7,hNn,hEe];simp;omega
    exact s _ _ (by simp [go_sem,a])
end Go.Abs
end
