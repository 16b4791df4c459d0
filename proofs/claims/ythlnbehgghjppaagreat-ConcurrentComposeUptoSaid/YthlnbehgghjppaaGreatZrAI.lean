/- Layer 4: attributes of types; copies. · Layer 4: attributes  -/
import Derived.Test.YthlnbehgghjppaaGreatZrAG
import Derived.Test.YthlnbehgghjppaaGreatZrAA
import Derived.Test.YthlnbehgghjppaaGreatZrAF
import Derived.Test.YthlnbehgghjppaaGreatZrAH
import Derived.Ground.NamesProg
import Derived.Ground.Names2Prog
import Derived.Shelf.Sort.Plain
import Derived.Shelf.Slices.CompactI
import Derived.Shelf.Slices.In.SortNone
import Derived.Test.YthlnbehgghjppaaGreatProg
set_option linter.unusedVariables false
set_option linter.unusedSimpArgs false
section
set_option maxRecDepth 100000
set_option maxHeartbeats 4000000
open Go Go.Proofs Tryz
namespace Go.Abs
attribute [go_sem] Slot.c Test.c Pattern.c Pattern.d Part.c Part.d Stage.c
theorem EB {P:Program}{f:FuncId}{ty:TypeId}{sz:Nat}(g:Own P f [.nil] ty sz [])(m:Own P f [.ne] ty sz []):Own P f [.list []] ty sz []:=by
 refine ⟨g.1,λM w b e l=>?_⟩;obtain ⟨k,i⟩:=l;match b,k with
 | [v],_ =>
  have h:=i 0 v _ rfl rfl;cases h with
  | listN=>exact g.2 M w _ e ⟨rfl,λj u d a c=>by
    match j with
    | 0=>simp at a c;subst a;subst c;exact .nil
    | j+1=>simp at a⟩
  | list ad cap sz xs es hc hm=>exact m.2 M w _ e ⟨rfl,λj u d a c=>by
    match j with
    | 0=>simp at a c;subst a;subst c;exact .ne ad cap hm
    | j+1=>simp at a⟩
theorem Ru:Own prog 104 [.nil] 3 1 []:=by
 refine Tz.oK ⟨λt=>t==2||t==5,λ_=>[]⟩ func104 rfl (λQ a=>?_);have Y:=trivial;refine wv (h:=?_);exact a _ _ _ (by simp [go_sem]<;>first|omega|(rw [aU];simp<;>omega)|(simp_all<;>omega)) (by simp [go_sem]<;>first|omega|(rw [aU];simp<;>omega)|(simp_all<;>omega))
theorem Rs:Own prog 104 [.ne] 3 1 []:=by
 refine Tz.oK ⟨λt=>t==2||t==5,λ_=>[]⟩ func104 rfl (λQ a=>?_);have Y:=trivial;refine wo (h:=?_);exact a _ _ _ (by simp [go_sem]<;>first|omega|(rw [aU];simp<;>omega)|(simp_all<;>omega)) (by simp [go_sem]<;>first|omega|(rw [aU];simp<;>omega)|(simp_all<;>omega))
theorem Rt (l:Xa0)(c:l.length<=1000000)(a:l≠[]):Own prog 104 [.list (l.map cI)] 3 1 (l.map cI):=by
 refine Tz.oK ⟨λt=>t==2||t==5,λ_=>[]⟩ func104 rfl (λQ b=>?_);have Y:=a;refine wo (h:=?_);exact b _ _ _ (by simp [go_sem]<;>first|omega|(rw [aU];simp<;>omega)|(simp_all<;>omega)) (by simp [go_sem]<;>first|omega|(rw [aU];simp<;>omega)|(simp_all<;>omega))
theorem fS (l:Xa0)(b:l.length<=1000000):Own prog 104 [.list (l.map cI)] 3 1 (l.map cI):=by
 by_cases a:l=[]
 .subst a;exact EB Ru Rs
 .exact Rt l b a
theorem Rr:Own prog 318 [.nil] 9 1 []:=by
 refine Tz.oK ⟨λt=>t==2||t==5,λ_=>[]⟩ func318 rfl (λQ a=>?_);have Y:=trivial;refine wv (h:=?_);exact a _ _ _ (by simp [go_sem]<;>first|omega|(rw [aU];simp<;>omega)|(simp_all<;>omega)) (by simp [go_sem]<;>first|omega|(rw [aU];simp<;>omega)|(simp_all<;>omega))
theorem Rp:Own prog 318 [.ne] 9 1 []:=by
 refine Tz.oK ⟨λt=>t==2||t==5,λ_=>[]⟩ func318 rfl (λQ a=>?_);have Y:=trivial;refine wo (h:=?_);exact a _ _ _ (by simp [go_sem]<;>first|omega|(rw [aU];simp<;>omega)|(simp_all<;>omega)) (by simp [go_sem]<;>first|omega|(rw [aU];simp<;>omega)|(simp_all<;>omega))
theorem Rq (l:List ByteArray)(c:l.length<=1000000)(a:l≠[]):Own prog 318 [.list (l.map cS)] 9 1 (l.map cS):=by
 refine Tz.oK ⟨λt=>t==2||t==5,λ_=>[]⟩ func318 rfl (λQ b=>?_);have Y:=a;refine wo (h:=?_);exact b _ _ _ (by simp [go_sem]<;>first|omega|(rw [aU];simp<;>omega)|(simp_all<;>omega)) (by simp [go_sem]<;>first|omega|(rw [aU];simp<;>omega)|(simp_all<;>omega))
theorem TV (l:List ByteArray)(b:l.length<=1000000):Own prog 318 [.list (l.map cS)] 9 1 (l.map cS):=by
 by_cases a:l=[]
 .subst a;exact EB Rr Rp
 .exact Rq l b a
def bV (t:Types)(a:Int):List Attr:=if given2F t a a=0 then t.y a.toNat else []
theorem tV (t:Types)(a:Int):givenF t [a]=given2F t a a:=by
 unfold givenF given2F;cases b:insideF t a<;>simp [b]
theorem rN {t:Types}{a:Int}(h:given2F t a a=0):t.av/\0<=a/\a<t.h.length:=⟨(sK h).1,(sK h).2.1⟩
theorem r8 (t:Types)(l:t.ok)(a:Int):Pua 242 [t.d,dI a] (.tup [.list ((bV t a).map Attr.c),dI (given2F t a a)]):=by
 refine Tz.p0 func242 rfl λQ r Y=>?_;refine wv (h:=aB (Af t l [a]) wl ?_);refine c8 (λf=>?_) λf=>?_
 .rw [tV] at f;exact wv (h:=r _ _ (by simp [go_sem,tV,bV,f]))
 .rw [tV] at f;obtain ⟨q,w,C⟩:=rN f;have j:=Ff t l a.toNat bZ (q.ap _);rw [Int.toNat_of_nonneg w] at j;have m:∀ x∈t.y a.toNat,x.ok:=yE t.h l.h _ _;have v:=q.y a.toNat bZ;refine wv (h:=i5 (j) wl ?_);refine wo (h:=bC (λi e H=>(e 2=.adr t.c/\e 1=dI a/\e 7=.own 0 (t.y a.toNat).length/\e 20=dI (t.y a.toNat).length/\e 21=dI i)/\(H.get 0=some ⟨109,4,(t.y a.toNat).map Attr.c,false⟩)/\(0<H.next)/\(i<=(t.y a.toNat).length)) (λi=>(t.y a.toNat).length - i) 0 ⟨wg,(by simp [go_sem]),wn,wi⟩ λD o i e H n=>?_);obtain ⟨y,b,g,B⟩:=n;have Y:=xa2 Y y b (bP g);refine c8 (λk=>?_) λk=>?_
  .have hset:((t.y a.toNat).map Attr.c).set i (((t.y a.toNat).map Attr.c)[i]'(eL k))=(t.y a.toNat).map Attr.c:=List.set_getElem_self _;simp [go_sem] at hset;have Y:=wa Y k;refine wo (h:=aB ((TV (t.y a.toNat)[i].ah (by have:=(m _ (aC k)).bL;omega)).pure) wl ?_);exact wo (h:=wx o (i+1) ⟨wg,(by simp [go_sem,hset]),wn,wj⟩)
  .exact wv (h:=r _ _ (by simp [go_sem,b,bV,f]))
theorem sA (t:Types)(m:t.ok)(a:Int):Pua 175 [t.d,dI a] (.tup [.list ((bV t a).map Attr.c),dI (given2F t a a)]):=by
 refine Tz.pK ⟨λt=>t==7||t==10||t==31||t==1000000,λ_=>[]⟩ func175 rfl (λQ r=>?_);have Y:=trivial;refine wv (h:=aB (Az t m a a) wl ?_);refine c8 (λk=>?_) λk=>?_
 .exact wv (h:=r _ _ (by simp [go_sem,bV,k]))
 .obtain ⟨q,y,D⟩:=rN k;have g:=FC t m a.toNat bZ (q.ap _);rw [Int.toNat_of_nonneg y] at g;have n:∀ x∈t.y a.toNat,x.ok:=yE t.h m.h _ _;have v:=q.y a.toNat bZ;refine wv (h:=aB (g) wl ?_);refine wv (h:=bC (λi e H=>(e 2=.adr t.c/\e 1=dI a/\e 7=.own 0 ((t.y a.toNat).take i).length/\e 8=.list ((t.y a.toNat).map Attr.c)/\e 9=dI i)/\(H.get 0=some ⟨109,4,((t.y a.toNat).take i).map Attr.c,false⟩)/\(0<H.next)/\(i<=(t.y a.toNat).length)) (λi=>(t.y a.toNat).length - i) 0 ⟨wg,(by simp [go_sem]),wn,wi⟩ λE p i e H o=>?_);obtain ⟨z,b,f,C⟩:=o;have Y:=xa2 Y z b (bP f);refine dW (λj=>?_) λj=>?_
  .have hts:=aF (l:=(t.y a.toNat).map Attr.c) (i:=i) (eL j);simp [go_sem] at hts;have w:=(n _ (aC j)).bL;have Y:=wa Y j;exact wo (h:=wx p (i+1) ⟨wg,(by simp [go_sem,hts]),wn,wj⟩)
  .exact wv (h:=r _ _ (by simp [go_sem,b,bV,k,(bZ:i=(t.y a.toNat).length)]))
def fQ (t:Types)(a:Int):Xa0:=if given2F t a a=0 then ((List.range t.h.length).filter λ(b:Nat)=>mem (t.ao b) a).map λ(b:Nat)=>(b:Int) else []
theorem b8 (p:Nat->Bool)(i:Nat):((List.range (i+1)).filter p).map (λ(b:Nat)=>(b:Int))=((List.range i).filter p).map (λ(b:Nat)=>(b:Int))++(if p i=true then [(i:Int)] else []):=by
 rw [dM,jY,List.map_append];grind
theorem Fg (t:Types)(u:t.ok)(a:Int):Pua 183 [t.d,dI a] (.tup [dLI (fQ t a),dI (given2F t a a)]):=by
 refine Tz.pK ⟨λt=>t==7,λ_=>[]⟩ func183 rfl (λQ v=>?_);have Y:=trivial;refine wv (h:=aB (Af t u [a]) wl ?_);refine c8 (λj=>?_) λj=>?_
 .rw [tV] at j;exact wv (h:=v _ _ (by simp [go_sem,tV,fQ,j]))
 .rw [tV] at j;obtain ⟨s,E,D⟩:=rN j;have C:=s.br;refine wo (h:=bC (λi e H=>∃ g:Xa0,(e 2=.adr t.c/\e 1=dI a/\e 7=.own 0 g.length/\e 18=dI t.h.length/\e 19=dI i)/\(H.get 0=some ⟨3,1,g.map cI,false⟩)/\(0<H.next)/\(i<=t.h.length)/\(g.length<=i)/\(g=((List.range i).filter λ(b:Nat)=>mem (t.ao b) a).map (λ(b:Nat)=>(b:Int)))) (λi=>t.h.length - i) 0 ⟨([]),wg,wn,wn,wi,eG,(by rfl)⟩ λG m i e H o=>?_);obtain ⟨g,y,f,l,B,A,n⟩:=o;have Y:=xa2 Y y f (bP l);refine c8 (λw=>?_) λw=>?_
  .have Y:=wa Y w;refine wv (h:=aB (GZ t u s i a bZ bZ) wl ?_);refine c8 (λp=>?_) λp=>?_
   .have Y:=wa Y p;exact wo (h:=wx m (i+1) ⟨(g++(if mem (t.ao i) a=true then [(i:Int)] else [])),wg,wn,wn,wj,(by rw [aQ];split<;>simp<;>omega),(by rw [b8,<- n])⟩)
   .have Y:=wa Y p;exact wo (h:=wx m (i+1) ⟨(g++(if mem (t.ao i) a=true then [(i:Int)] else [])),wg,wn,wn,wj,(by rw [aQ];split<;>simp<;>omega),(by rw [b8,<- n])⟩)
  .exact wv (h:=v _ _ (by simp [go_sem,f,fQ,j];rw [n,(bZ:i=t.h.length)];simp))
def iB {α:Type}(f:α->Int):List α->Int
 | []=>0
 | x :: l=>if f x≠0 then f x else iB f l
theorem lQ {α:Type}(f:α->Int){l:List α}{i:Nat}(h:i<l.length):iB f (l.drop i)=if f l[i]≠0 then f l[i] else iB f (l.drop (i+1)):=by
 rw [fI h];rfl
theorem nC {α:Type}(f:α->Int){l:List α}{i:Nat}(h:¬ i<l.length):iB f (l.drop i)=0:=by
 rw [iT bZ];rfl
def termB (n:Int)(x:Term):Bool:=decide (-1<=x.R)&&decide (x.R<n)&&decide (-1000000<=x.add)&&decide (x.add<=1000000)
theorem zN (n:Int)(x:Term):Pua 380 [dI n,.agg [dI x.R,dI x.add]] (.bool (termB n x)):=by
 refine Tz.p0 func380 rfl λQ a Y=>?_;have Y:=wa Y @termB.eq_1;exact wo (h:=a _ _ wy)
def u7 (n:Int)(x:Test):Int:=if x.F≠1/\x.F≠2 then 1 else if (termB n x.left&&termB n x.right)=true then 0 else 6
theorem IJ (n:Int)(x:Test):Pua 330 [dI n,.agg x.c] (dI (u7 n x)):=by
 refine Tz.p0 func330 rfl λQ d Y=>?_;refine dW (λg=>?_) λg=>?_
 .exact wv (h:=d _ _ (by simp [go_sem,u7];omega))
 .refine wo (h:=aB (zN n x.left) wl ?_);refine wo (h:=aG (λf=>zN n x.right) (λf=>wl) ?_);refine dW (λe=>?_) λe=>?_
  .exact wv (h:=d _ _ (by revert e;cases b:termB n x.left<;>cases a:termB n x.right<;>simp [go_sem,u7,b,a]<;>omega))
  .exact wv (h:=d _ _ (by revert e;cases b:termB n x.left<;>cases a:termB n x.right<;>simp [go_sem,u7,b,a]<;>omega))
def lN (n:Int)(l:List Test):Int:=if n<0\/12<n then 6 else if 40<l.length then 3 else iB (u7 n) l
theorem EM (n:Int)(l:List Test):Pua 277 [dI n,.list (l.map Test.c)] (dI (lN n l)):=by
 refine Tz.pK ⟨λt=>t==6,λ_=>[]⟩ func277 rfl (λQ a=>?_);have Y:=trivial;refine dW (λo=>?_) λo=>?_
 .exact wv (h:=a _ _ (by simp [go_sem,lN];omega))
 .refine dW (λm=>?_) λm=>?_
  .exact wv (h:=a _ _ (by simp [go_sem,lN];omega))
  .refine wo (h:=bC (λi e H=>(e 0=dI n/\e 17=.list (l.map Test.c)/\e 18=dI l.length/\e 19=dI i)/\(i<=l.length)/\(iB (u7 n) (l.drop i)=lN n l)) (λi=>l.length - i) 0 ⟨wg,wi,(by rw [lN,if_neg bZ,if_neg bZ];rfl)⟩ λu d i e H b=>?_);obtain ⟨p,s,j⟩:=b;have Y:=wa Y p;refine c8 (λg=>?_) λg=>?_
   .have hst:=j;rw [lQ _ g] at hst;have Y:=wa Y g;refine wo (h:=aB (IJ n l[i]) wl ?_);refine dW (λf=>?_) λf=>?_
    .exact wv (h:=a _ _ (by rw [if_pos (eL f)] at hst;simp [go_sem,hst]))
    .exact wo (h:=wx d (i+1) ⟨wg,wj,(by rw [if_neg (by simp [f])] at hst;exact hst)⟩)
   .exact wv (h:=a _ _ (by rw [<- j,nC _ bZ];simp [go_sem]))
def Ae (n:Int)(x:Term):Int:=if termB n x=true then 0 else 6
theorem Dc (n:Int)(x:Term):Pua 344 [dI n,.agg [dI x.R,dI x.add]] (dI (Ae n x)):=by
 refine Tz.p0 func344 rfl λQ a Y=>?_;refine dW (λb=>?_) λb=>?_
 .exact wv (h:=a _ _ (by simp [go_sem,Ae,termB];omega))
 .exact wv (h:=a _ _ (by simp [go_sem,Ae,termB];omega))
theorem Th (n:Int)(x:Test):Pua 289 [dI n,.agg x.c] (dI (u7 n x)):=by
 refine Tz.p0 func289 rfl λQ b Y=>?_;refine dW (λg=>?_) λg=>?_
 .exact wv (h:=b _ _ (by simp [go_sem,u7];omega))
 .refine wv (h:=aB (Dc n x.left) wl ?_);refine c8 (λd=>?_) λd=>?_
  .exact wv (h:=b _ _ (by revert d;cases a:termB n x.left<;>simp [go_sem,u7,Ae,a]<;>omega))
  .refine wv (h:=aB (Dc n x.right) wl ?_);exact wv (h:=b _ _ (by revert d;cases a:termB n x.left<;>cases f:termB n x.right<;>simp [go_sem,u7,Ae,a,f]<;>omega))
theorem Oy (n:Int)(l:List Test):Pua 215 [dI n,.list (l.map Test.c)] (dI (lN n l)):=by
 refine Tz.p0 func215 rfl λQ a Y=>?_;refine dW (λo=>?_) λo=>?_
 .exact wv (h:=a _ _ (by simp [go_sem,lN];omega))
 .refine dW (λm=>?_) λm=>?_
  .exact wv (h:=a _ _ (by simp [go_sem,lN];omega))
  .refine wv (h:=bC (λi e H=>(e 0=dI n/\e 1=.list (l.map Test.c)/\e 5=dI i)/\(i<=l.length)/\(iB (u7 n) (l.drop i)=lN n l)) (λi=>l.length - i) 0 ⟨wg,wi,(by rw [lN,if_neg bZ,if_neg bZ];rfl)⟩ λt d i e H b=>?_);obtain ⟨p,s,j⟩:=b;have Y:=wa Y p;refine dW (λg=>?_) λg=>?_
   .have hst:=j;rw [lQ _ g] at hst;have Y:=wa Y g;refine wo (h:=aB (Th n l[i]) wl ?_);refine dW (λf=>?_) λf=>?_
    .exact wv (h:=a _ _ (by rw [if_pos (eL f)] at hst;simp [go_sem,hst]))
    .exact wo (h:=wx d (i+1) ⟨wg,wj,(by rw [if_neg (by simp [f])] at hst;exact hst)⟩)
   .exact wv (h:=a _ _ (by rw [<- j,nC _ bZ];simp [go_sem]))
theorem kF (n b a:Int):Pua 275 [dI n,dI b,dI a] (.bool (inF n b a)):=by
 refine Tz.p0 func275 rfl λQ c Y=>?_;have Y:=wa Y @inF.eq_1;exact wo (h:=c _ _ wy)
def qB:Attr:=⟨⟨#[]⟩,0,0,[]⟩
def Pattern.F (p:Pattern)(node:Int):Int:=p.j.h[node.toNat]?.getD 0
def mK (t:Types)(p:Pattern)(node attr:Int):Bool:=decide (0<=node)&&decide (node<p.j.h.length)&&(decide (0<=attr)&&decide (attr<(bV t (p.F node)).length))
def F7 (t:Types)(p:Pattern)(node attr:Int):Attr:=if mK t p node attr=true then (bV t (p.F node))[attr.toNat]?.getD qB else qB
theorem rT {t:Types}(c:t.ok)(a:Int):(bV t a).length<=8:=by
 unfold bV;split
 .rename_i h;obtain ⟨b,e,d⟩:=rN h;exact b.y _ bZ
 .simp
theorem I9 (t:Types)(i:t.ok)(p:Pattern)(m:p.j.h.length<=1000)(s:Slot):Pua 276 [t.d,p.d,.agg s.c] (.tup [.agg (F7 t p s.node s.P).c,.bool (mK t p s.node s.P)]):=by
 have l:=rT i (p.F s.node);refine Tz.pK ⟨λt=>t==6,λ_=>[]⟩ func276 rfl (λQ e=>?_);have Y:=trivial;refine wo (h:=aB (kF _ _ _) wl ?_);refine dW (λg=>?_) λg=>?_
 .simp [inF] at g;have b:mK t p s.node s.P=false:=by rw [aW];intro h;simp [mK] at h;omega
  exact wv (h:=e _ _ (by simp [go_sem,F7,b,qB]))
 .simp [inF] at g;have j:s.node.toNat<p.j.h.length:=bZ;have a:p.F s.node=p.j.h[s.node.toNat]:=by simp [Pattern.F,j]
  rw [a] at l;have Y:=xa1 Y (aA j) a;refine wo (h:=aI (r8 t i p.j.h[s.node.toNat]) wl ?_);refine wo (h:=aB (kF _ _ _) wl ?_);refine dW (λf=>?_) λf=>?_
  .simp [inF] at f;have b:mK t p s.node s.P=false:=by rw [aW];intro h;simp [mK,a] at h;omega
   exact wv (h:=e _ _ (by simp [go_sem,F7,b,qB]))
  .simp [inF] at f;have k:s.P.toNat<(bV t p.j.h[s.node.toNat]).length:=bZ;have b:mK t p s.node s.P=true:=by simp [mK,a];omega
   have Y:=wa Y (aA k);exact wo (h:=e _ _ (by simp [go_sem,F7,b,a,aA k]))
def cB (b:Bool):Xa2:=[.bool b]
@[go_sem] theorem adI (l:List Bool):D.V (l.map cB)=true:=dU cB (λ_=>rfl) l
attribute [go_sem] cB
theorem Q5 (xs:List Bool)(v:Bool):Pua 331 [.list (xs.map cB),.bool v] (dI (gS xs v)):=by
 refine Tz.p0 func331 rfl λQ g Y=>?_;refine wv (h:=?_);repeat first|intro _|refine ⟨iF,?_⟩
 refine bC (λi e H=>(e 0=.list (xs.map cB)/\e 1=.bool v/\e 7=dI xs.length/\e 8=dI i)/\(i<=xs.length)/\(∀ j,j<i->xs[j]?≠some v)) (λi=>xs.length - i) 0 ⟨wg,wi,(by intro j l;omega)⟩ λr d i e H c=>?_;obtain ⟨n,q,a⟩:=c;have Y:=wa Y n;refine c8 (λb=>?_) λb=>?_
 .have Y:=wa Y b;refine wv (h:=?_);refine wq (λf=>?_) λf=>?_
  .exact wv (h:=g _ _ (by rw [sI a (by rw [aA b,f])];simp [go_sem]))
  .refine wv (h:=?_);repeat first|intro _|refine ⟨iF,?_⟩
   exact wx d (i+1) ⟨wg,wj,(iR a (by rw [aA b];simpa using λh=>f h.symm))⟩
 .exact wv (h:=g _ _ (by rw [xO λj l=>a j bZ];simp [go_sem]))
theorem J8 (xs:List Bool)(v:Bool):Pua 278 [.list (xs.map cB),.bool v] (.bool (mem xs v)):=by
 refine Tz.p0 func278 rfl λQ a Y=>?_;refine wv (h:=aB (Q5 xs v) wl ?_);have Y:=wa Y @mem.eq_1;exact wv (h:=a _ _ wy)
def eY (t:Types)(g:Graph):Bool:=(!(g.h.any λn=>decide ((t.h.length:Int)<=n)))&&!(g.i.any λx=>decide ((t.i.length:Int)<=x.type))
theorem EX (t:Types)(a:Int):Pua 273 [dI a,.adr t.c] (.bool (decide ((t.h.length:Int)<=a))):=by
 refine Tz.p0 func273 rfl λQ b Y=>?_;exact wo (h:=b _ _ wy)
theorem EW (t:Types)(x:Edge):Pua 274 [.agg x.c,.adr t.c] (.bool (decide ((t.i.length:Int)<=x.type))):=by
 refine Tz.p0 func274 rfl λQ a Y=>?_;exact wo (h:=a _ _ wy)
def kV (n:Nat)(l:List Slot):List Bool:=(List.range n).map λ(v:Nat)=>l.any λs=>decide (s.C.R=v)
theorem Eh (n:Nat)(l:List Slot):(kV n l).length=n:=by simp [kV]
theorem SS (n:Nat):kV n []=List.replicate n false:=by
 apply iE (by simp [kV]);intro i b a;simp [kV]
theorem SR (n:Nat)(l:List Slot)(s:Slot)(g:0<=s.C.R)(f:s.C.R<n):kV n (l++[s])=(kV n l).set s.C.R.toNat true:=by
 apply iE (by simp [kV]);intro i e d;simp only [kV,uY,q9,CL,List.any_cons,List.any_nil,wX];grind
theorem ST (n:Nat)(l:List Slot)(s:Slot)(d:¬ 0<=s.C.R):kV n (l++[s])=kV n l:=by
 simp only [kV,uY,q9,CL,List.any_cons,List.any_nil,wX];grind
theorem Qc (n:Nat)(l:List Slot)(s:Slot)(a:s.C.R<n):kV n (l++[s])=if 0<=s.C.R then (kV n l).set s.C.R.toNat true else kV n l:=by
 split
 .exact SR n l s ‹_› a
 .exact ST n l s ‹_›
def iI (t:Types)(p:Pattern)(s:Slot):Int:=if (mK t p s.node s.P&&inF s.C.R (-1) (p.vars - 1)&&inF s.C.add (-1000000) 1000000)=true then 0 else 6
def c6 (t:Types)(p:Pattern):Int :=
 if (cQ t).2≠0 then (cQ t).2
 else if graphF p.j≠0 then graphF p.j
 else if eY t p.j=false then 13
 else if inF p.vars 0 12=false then 6
 else if 10<p.q.length\/10<p.I.length then 3
 else if iB (iI t p) p.q≠0 then 6
 else if lN p.vars p.I≠0 then lN p.vars p.I
 else if mem (kV p.vars.toNat p.q) false=true then 9 else 0
theorem aY {g:Graph}(h:graphF g=0):g.h.length<=40/\g.i.length<=80:=by grind [graphF]
theorem Us {t:Types}{p:Pattern}{s:Slot}(h:iI t p s=0):s.C.R<p.vars/\-1<=s.C.R:=by grind [iI, inF]
theorem pC (t:Types)(ht:t.ok)(p:Pattern):Pure prog 198 [t.d,p.d] (dI (c6 t p)):=by
 refine Tz.pK ⟨fun t=>t==10||t==11,fun _=>[]⟩ func198 rfl (fun Q hQ=>?_);have Y:=trivial;refine wv (h:=aB (mD t ht) wl ?_);refine c8 (fun h2=>?_) fun h2=>?_
 ·exact wv (h:=hQ _ _ (by simp [go_sem,c6,h2]))
 ·refine wv (h:=aB (lK p.j) wl ?_)
  refine c8 (fun h5=>?_) fun h5=>?_
  ·exact wv (h:=hQ _ _ (by simp [go_sem,c6,h2,h5]))
  ·have hg:=aY h5
   refine wo (h:=aB (f5 p.j.h 273 [.adr t.c] (fun a=>decide ((t.h.length:Int)≤a)) (by simp [go_sem]) (by simp [go_sem]) (fun a _=>EX t a)) wl ?_);refine wo (h:=aG (fun hg=>mS p.j.i 274 [.adr t.c] (fun x=>decide ((t.i.length:Int)≤x.type)) (by simp [go_sem]) (by simp [go_sem]) (fun x _=>EW t x)) (fun hg=>wl) ?_);refine dW (fun h7=>?_) fun h7=>?_
   ·have hT:eY t p.j=false:=by
     simp [eY];intro h';rcases h7 with ⟨x,hx,hl⟩|h
     ·exact absurd (h' x hx) (by omega)
     ·exact h
    exact wv (h:=hQ _ _ (by simp [go_sem,c6,h2,h5,hT]))
   ·have hT:eY t p.j=true:=by simp [eY];exact h7
    refine wo (h:=aB (kF _ _ _) wl ?_);refine dW (fun h9=>?_) fun h9=>?_
    ·exact wv (h:=hQ _ _ (by simp [go_sem,c6,h2,h5,hT,h9]))
    ·refine dW (fun h11=>?_) fun h11=>?_
     ·exact wv (h:=hQ _ _ (by simp [go_sem,c6,h2,h5,hT,h9];omega))
     ·have hin:=h9
      simp [inF] at hin;have hF0:c6 t p=if iB (iI t p) p.q≠0 then 6 else if lN p.vars p.I≠0 then lN p.vars p.I else if mem (kV p.vars.toNat p.q) false=true then 9 else 0:=by
       unfold c6;rw [if_neg (by simp [h2]),if_neg (by simp [h5]),if_neg (by simp [hT]),if_neg (by simp [h9]),if_neg (by omega)]
      refine wo (h:=bC (fun i e H=>(e 2=.adr t.c∧e 3=.adr p.c∧e 8=.own 0 p.vars.toNat∧e 58=.list (p.q.map Slot.c)∧e 59=dI p.q.length∧e 60=dI i)∧(H.get 0=some ⟨4,1,(kV p.vars.toNat (p.q.take i)).map cB,false⟩)∧(0<H.next)∧(i≤p.q.length)∧(iB (iI t p) (p.q.drop i)=iB (iI t p) p.q)) (fun i=>p.q.length - i) 0 ⟨wg,(by (simp [go_sem,SS])),wn,wi,(by rfl)⟩ fun I0 hI0 i e H hi0=>?_);obtain ⟨E0,g0_0,n0_0,hi,hL⟩:=hi0;have Y:=wa Y (wa E0 (wa g0_0 (wa (bP n0_0) @Eh)));refine c8 (fun h15=>?_) fun h15=>?_
      ·have hst:=lQ (iI t p) h15
       have hts:=aF h15;have Y:=wa Y h15;refine wo (h:=aB (I9 t ht p (by omega) p.q[i]) wl ?_);refine wo (h:=aG (fun hg=>kF _ _ _) (fun hg=>wl) ?_);refine wo (h:=aG (fun hg=>kF _ _ _) (fun hg=>wl) ?_);refine wo (h:=bA (fun h18=>?_) (fun h18=>?_))
       ·skip
        have hs6:iI t p p.q[i]=6:=by unfold iI;rw [if_neg];revert h18;cases mK t p p.q[i].node p.q[i].P<;>cases inF p.q[i].C.R (-1) (p.vars - 1)<;>cases inF p.q[i].C.add (-1000000) 1000000<;>simp
        rw [hs6,if_pos (by simp),hL] at hst;exact wv (h:=hQ _ _ (by simp [go_sem,hF0,hst]))
       ·skip
        have hs0:iI t p p.q[i]=0:=by unfold iI;rw [if_pos];revert h18;cases mK t p p.q[i].node p.q[i].P<;>cases inF p.q[i].C.R (-1) (p.vars - 1)<;>cases inF p.q[i].C.add (-1000000) 1000000<;>simp
        rw [hs0,if_neg (by simp),hL] at hst;have hlt:=Us hs0;have hus:=Qc p.vars.toNat (p.q.take i) p.q[i] (by omega);refine c8 (fun h20=>?_) fun h20=>?_
        ·have hfin:kV p.vars.toNat (p.q.take (i+1))=(kV p.vars.toNat (p.q.take i)).set p.q[i].C.R.toNat true:=by rw [hts,hus,if_pos (by omega)]
         have hvl:p.q[i].C.R.toNat<(kV p.vars.toNat (p.q.take i)).length:=by rw [Eh];omega
         have Y:=wa Y (aA hvl);exact wo (h:=wx hI0 (i+1) ⟨wg,(by (simp [go_sem,Y,bJ,hfin])),wn,wj,(by (exact hst.symm))⟩)
        ·have hfin:kV p.vars.toNat (p.q.take (i+1))=kV p.vars.toNat (p.q.take i):=by rw [hts,hus,if_neg (by omega)]
         exact wo (h:=wx hI0 (i+1) ⟨wg,(by (simp [go_sem,Y,bJ,hfin])),wn,wj,(by (exact hst.symm))⟩)
      ·have hU:List.take i p.q=p.q:=aH (by omega)
       have hz:iB (iI t p) p.q=0:=by rw [← hL,nC _ (by omega)]
       rw [hU] at g0_0;rw [if_neg (by simp [hz])] at hF0;have Y:=wa E0 (wa g0_0 (wa (bP n0_0) @Eh));refine wv (h:=aB (EM p.vars p.I) wl ?_);refine c8 (fun h24=>?_) fun h24=>?_
       ·exact wv (h:=hQ _ _ (by rw [hF0,if_pos (by simpa using h24)];simp [go_sem]))
       ·refine wv (h:=d8 (J8 (kV p.vars.toNat p.q) false) wr wl rfl ?_)
        refine c8 (fun P6=>?_) fun P6=>?_
        ·exact wv (h:=hQ _ _ (by rw [hF0,if_neg (by simpa using h24),if_pos P6];simp [go_sem]))
        ·exact wv (h:=hQ _ _ (by rw [hF0,if_neg (by simpa using h24),if_neg (by simp [P6])];simp [go_sem]))
def pU (t:Types)(x:Edge):Bool:=decide (0<=x.type)&&decide (x.type<t.i.length)
def nJ (t:Types)(g:Graph):Bool:=(!(g.h.any λa=>!insideF t a))&&!(g.i.any λx=>!pU t x)
theorem pD {α:Type}{l:List α}{p:α->Bool}{i:Nat}(h:(l.take i).any p=false)(a:l.length<=i):l.any p=false:=by
 rw [aH a] at h;exact h
theorem vF (t:Types)(g:Graph):Pua 212 [t.d,g.d] (.bool (nJ t g)):=by
 refine Tz.p0 func212 rfl λQ o Y=>?_;refine wv (h:=bC (λi e H=>(e 2=.adr t.c/\e 3=.adr g.c/\e 5=dI i)/\(i<=g.h.length)/\(((g.h.take i).any λa=>!insideF t a)=false)) (λi=>g.h.length - i) 0 ⟨wg,wi,(by rfl)⟩ λC q i e H m=>?_);obtain ⟨y,A,r⟩:=m;have Y:=wa Y y;refine wv (h:=?_);repeat first|intro _|refine ⟨iF,?_⟩
 refine wq (λf=>?_) λf=>?_
 .have Y:=wa Y f;refine dW (λv=>?_) λv=>?_
  .refine wv (h:=?_);have j:(g.h.any λa=>!insideF t a)=true:=bF.2 ⟨_,aC f,by simp [insideF];omega⟩;exact o _ _ (.inl (by simp only [go_sem,nJ,j,Jk,Gd]))
  .exact wo (h:=wx q (i+1) ⟨wg,wj,(by rw [dZ _ _ _ f,r];simp [insideF];omega)⟩)
 .have hN:=pD r f;refine wv (h:=bC (λk e H=>(e 2=.adr t.c/\e 3=.adr g.c/\e 6=dI k)/\(k<=g.i.length)/\(((g.i.take k).any λx=>!pU t x)=false)) (λk=>g.i.length - k) 0 ⟨wg,wi,(by rfl)⟩ λB p k e H l=>?_);obtain ⟨w,z,j⟩:=l;have Y:=wa Y w;refine wv (h:=?_);repeat first|intro _|refine ⟨iF,?_⟩
  refine wq (λb=>?_) λb=>?_
  .have Y:=wa Y b;refine dW (λu=>?_) λu=>?_
   .refine wv (h:=?_);have n:(g.i.any λx=>!pU t x)=true:=bF.2 ⟨_,aC b,by simp [pU];omega⟩;exact o _ _ (.inl (by simp only [go_sem,nJ,n,Jk,Bool.and_false]))
   .exact wo (h:=wx p (k+1) ⟨wg,wj,(by rw [dZ _ _ _ b,j];simp [pU];omega)⟩)
  .refine wv (h:=?_);have s:=pD j b;exact o _ _ (.inl (by simp only [go_sem,nJ,hN,s,Bool.not_false,Bool.and_true]))
theorem LI {α:Type}{l:List α}{p q:α->Bool}(h:∀ x∈l,p x=q x):l.any p=l.any q:=by grind
theorem dO {g:Graph}(h:graphF g=0):(∀ a∈g.h,0<=a/\a<=99)/\∀ x∈g.i,(0<=x.type/\x.type<=99)/\(0<=x.B/\x.B<g.h.length)/\(0<=x.O/\x.O<g.h.length):=by
 unfold graphF at h;split at h
 .cases h
 .split at h
  .cases h
  .rename_i h1;split at h
   .cases h
   .rename_i h2;simp [jE,vR] at h1 h2;grind
theorem yK {t:Types}{g:Graph}(h:graphF g=0):nJ t g=eY t g:=by
 obtain ⟨c,b⟩:=dO h;unfold nJ eY;congr 2
 .exact LI λx a=>by have:=c x a;rw [aU];simp [insideF];omega
 .exact LI λx a=>by have:=b x a;rw [aU];simp [pU];omega
theorem JL (n:Int):Pua 214 [dI n] (.bool (inF n (-1000000) 1000000)):=by
 refine Tz.p0 func214 rfl λQ a Y=>?_;have Y:=wa Y @inF.eq_1;exact wo (h:=a _ _ wy)
theorem RE {t:Types}{a:Int}(h:¬ given2F t a a=0):bV t a=[]:=by unfold bV;rw [if_neg h]
theorem QI (t:Types)(i:t.ok)(p:Pattern)(a b:Int):Pua 213 [t.d,p.d,dI a,dI b] (.tup [.agg (F7 t p a b).c,.bool (mK t p a b)]):=by
 have k:=rT i (p.F a);refine Tz.pK ⟨λt=>t==8,λ_=>[]⟩ func213 rfl (λQ g=>?_);have Y:=trivial;refine dW (λm=>?_) λm=>?_
 .have f:mK t p a b=false:=by rw [aW];intro h;simp [mK] at h;omega
  exact wv (h:=g _ _ (by simp [go_sem,F7,f,qB]))
 .have hn:a.toNat<p.j.h.length:=bZ;have e:p.F a=p.j.h[a.toNat]:=by simp [Pattern.F,hn]
  rw [e] at k;have Y:=xa1 Y (aA hn) e;refine wo (h:=aI (sA t i p.j.h[a.toNat]) wl ?_);refine dW (λl=>?_) λl=>?_
  .have f:mK t p a b=false:=by
    rw [aW];intro h;simp [mK,e] at h;by_cases j:given2F t p.j.h[a.toNat] p.j.h[a.toNat]=0
    .omega
    .rw [RE j] at h;simp at h;omega
   exact wv (h:=g _ _ (by simp [go_sem,F7,f,qB]))
  .have ha:b.toNat<(bV t p.j.h[a.toNat]).length:=bZ;have f:mK t p a b=true:=by simp [mK,e];omega
   have Y:=wa Y (aA ha);exact wo (h:=g _ _ (by simp [go_sem,F7,f,e,aA ha]))
def kQ (p:Pattern)(v:Int):Bool:=p.q.any λs=>decide (s.C.R=v)
theorem Mq (p:Pattern)(v:Int):Pua 216 [p.d,dI v] (.bool (kQ p v)):=by
 refine Tz.p0 func216 rfl λQ l Y=>?_;refine wv (h:=bC (λi e H=>(e 2=.adr p.c/\e 1=dI v/\e 5=dI i)/\(i<=p.q.length)/\(((p.q.take i).any λs=>decide (s.C.R=v))=false)) (λi=>p.q.length - i) 0 ⟨wg,wi,(by rfl)⟩ λo g i e H b=>?_);obtain ⟨m,n,k⟩:=b;have Y:=wa Y m;refine wv (h:=?_);repeat first|intro _|refine ⟨iF,?_⟩
 refine wq (λa=>?_) λa=>?_
 .have Y:=wa Y a;refine dW (λj=>?_) λj=>?_
  .refine wv (h:=?_);have f:kQ p v=true:=bF.2 ⟨_,aC a,by simpa using j⟩;exact l _ _ (.inl (by simp only [go_sem,f]))
  .exact wo (h:=wx g (i+1) ⟨wg,wj,(by rw [dZ _ _ _ a,k];simpa using j)⟩)
 .refine wv (h:=?_);have f:kQ p v=false:=pD k a;exact l _ _ (.inl (by simp only [go_sem,f]))
theorem Kn (p:Pattern)(n:Nat):mem (kV n p.q) false=true↔∃ v:Nat,v<n/\kQ p v=false:=by
 rw [mem_iff];simp only [kV,aV,bY,kQ]
theorem vE (t:Types)(F:t.ok)(p:Pattern):Pua 124 [t.d,p.d] (dI (c6 t p)):=by
 refine Tz.pK ⟨λt=>t==9||t==10,λ_=>[]⟩ func124 rfl (λQ b=>?_);have Y:=trivial;refine wv (h:=aB (nY t F) wl ?_);refine c8 (λm=>?_) λm=>?_
 .exact wv (h:=b _ _ (by simp [go_sem,c6,m]))
 .refine wv (h:=aB (mF p.j) wl ?_);refine c8 (λg=>?_) λg=>?_
  .exact wv (h:=b _ _ (by simp [go_sem,c6,m,g]))
  .refine wo (h:=aB (vF t p.j) wl ?_);refine dW (λk=>?_) λk=>?_
   .rw [yK g] at k;exact wv (h:=b _ _ (by simp [go_sem,c6,m,g,k]))
   .rw [yK g] at k;refine dW (λM=>?_) λM=>?_
    .exact wv (h:=b _ _ (by simp [go_sem,c6,m,g,k,inF];omega))
    .refine dW (λC=>?_) λC=>?_
     .exact wv (h:=b _ _ (by simp [go_sem,c6,m,g,k,inF];omega))
     .have a:c6 t p=if iB (iI t p) p.q≠0 then 6 else if lN p.vars p.I≠0 then lN p.vars p.I else if mem (kV p.vars.toNat p.q) false=true then 9 else 0:=by
       unfold c6;rw [if_neg (by simp [m]),if_neg (by simp [g]),if_neg (by simp [k]),if_neg (by simp [inF];omega),if_neg bZ]
      refine wv (h:=bC (λi e H=>(e 2=.adr t.c/\e 3=.adr p.c/\e 8=dI i)/\(i<=p.q.length)/\(iB (iI t p) (p.q.drop i)=iB (iI t p) p.q)) (λi=>p.q.length - i) 0 ⟨wg,wi,(by rfl)⟩ λV B i e H y=>?_);obtain ⟨O,T,z⟩:=y;have Y:=wa Y O;refine dW (λn=>?_) λn=>?_
      .have hst:=lQ (iI t p) n;have Y:=wa Y n;refine wo (h:=aB (QI t F p p.q[i].node p.q[i].P) wl ?_);refine wo (h:=aG (λL=>JL _) (λL=>wl) ?_);refine wo (h:=bA (λf=>?_) (λf=>?_))
       .skip
        have s:iI t p p.q[i]=6:=by
         unfold iI;rw [if_neg];intro h;simp [inF] at h;simp [h.1.1,inF] at f;omega
        rw [s,if_pos eG,z] at hst;exact wv (h:=b _ _ (by simp [go_sem,a,hst]))
       .skip
        have u:iI t p p.q[i]=0:=by
         unfold iI;rw [if_pos];simp [inF] at f ⊢;refine ⟨⟨f.1.1.1,?_⟩,?_⟩<;>omega
        rw [u,if_neg eG,z] at hst;exact wo (h:=wx B (i+1) ⟨wg,wj,(hst.symm)⟩)
      .have hz:iB (iI t p) p.q=0:=by rw [<- z,nC _ bZ]
       rw [if_neg (by simp [hz])] at a;refine wv (h:=aB (Oy p.vars p.I) wl ?_);refine c8 (λl=>?_) λl=>?_
       .exact wv (h:=b _ _ (by rw [a,if_pos (eL l)];simp [go_sem]))
       .rw [if_neg (eL l)] at a;refine wv (h:=bC (λv e H=>(e 2=.adr t.c/\e 3=.adr p.c/\e 13=dI v)/\(v<=p.vars.toNat)/\(∀ j:Nat,j<v->kQ p j=true)) (λv=>p.vars.toNat - v) 0 ⟨wg,wi,(by intro j S;omega)⟩ λU A v e H x=>?_);obtain ⟨N,R,G⟩:=x;have Y:=wa Y N;refine c8 (λq=>?_) λq=>?_
        .have Y:=wa Y q;refine wo (h:=aB (Mq p v) wl ?_);refine dW (λE=>?_) λE=>?_
         .exact wv (h:=b _ _ (by rw [a,if_pos ((Kn p _).2 ⟨v,bZ,by simpa using E⟩)];simp [go_sem]))
         .exact wo (h:=wx A (v+1) ⟨wg,wj,(iR (p:=λj=>kQ p j=true) G (eL E))⟩)
        .refine wv (h:=?_);have K:¬ mem (kV p.vars.toNat p.q) false=true:=λh=>by
          obtain ⟨w,P,o⟩:=(Kn p _).1 h;rw [G w bZ] at o;cases o
         exact b _ _ (by rw [a,if_neg K];simp [go_sem])
end Go.Abs
end
section
namespace Go.Proofs
open Go.Shelf
def Tryz.laysSort_ren:Go.Shelf.Ren:=⟨fun|189=>146|125=>230|257=>229|128=>306|129=>307|294=>297|295=>298|296=>299|297=>300|298=>301|299=>302|216=>303|300=>304|301=>305|328=>351|329=>352|330=>353|331=>354|332=>355|215=>356|343=>387|n=>n,fun|28=>26|3=>3|46=>257|0=>0|51=>312|53=>314|4=>4|183=>306|182=>305|131=>266|5=>5|9=>9|218=>343|222=>347|228=>371|229=>301|n=>n,fun|n=>n⟩
theorem Tryz.laysSort:Go.Proofs.Lays.n189 prog Tryz.laysSort_ren:={
 mixed:=by kernel_rfl
 f125:=func230.trans (congrArg some (by kernel_rfl))
 f128:=func306.trans (congrArg some (by kernel_rfl))
 f129:=func307.trans (congrArg some (by kernel_rfl))
 f189:=func146.trans (congrArg some (by kernel_rfl))
 f215:=func356.trans (congrArg some (by kernel_rfl))
 f216:=func303.trans (congrArg some (by kernel_rfl))
 f257:=func229.trans (congrArg some (by kernel_rfl))
 f294:=func297.trans (congrArg some (by kernel_rfl))
 f295:=func298.trans (congrArg some (by kernel_rfl))
 f296:=func299.trans (congrArg some (by kernel_rfl))
 f297:=func300.trans (congrArg some (by kernel_rfl))
 f298:=func301.trans (congrArg some (by kernel_rfl))
 f299:=func302.trans (congrArg some (by kernel_rfl))
 f300:=func304.trans (congrArg some (by kernel_rfl))
 f301:=func305.trans (congrArg some (by kernel_rfl))
 f328:=func351.trans (congrArg some (by kernel_rfl))
 f329:=func352.trans (congrArg some (by kernel_rfl))
 f330:=func353.trans (congrArg some (by kernel_rfl))
 f331:=func354.trans (congrArg some (by kernel_rfl))
 f332:=func355.trans (congrArg some (by kernel_rfl))
 f343:=func387.trans (congrArg some (by kernel_rfl))
 t0:=underlying0
 a0:=Tryz.isAgg0
 z0:=Tryz.sizeOf0
 v0:=Tryz.zeroValue0
 t3:=underlying3
 a3:=Tryz.isAgg3
 z3:=Tryz.sizeOf3
 v3:=Tryz.zeroValue3
 t4:=underlying4
 a4:=Tryz.isAgg4
 z4:=Tryz.sizeOf4
 v4:=Tryz.zeroValue4
 t5:=underlying5
 a5:=Tryz.isAgg5
 z5:=Tryz.sizeOf5
 v5:=Tryz.zeroValue5
 t9:=underlying9
 a9:=Tryz.isAgg9
 z9:=Tryz.sizeOf9
 v9:=Tryz.zeroValue9
 t28:=underlying26
 a28:=Tryz.isAgg26
 z28:=Tryz.sizeOf26
 v28:=Tryz.zeroValue26
 t46:=underlying257
 a46:=Tryz.isAgg257
 z46:=Tryz.sizeOf257
 v46:=Tryz.zeroValue257
 t51:=underlying312
 a51:=Tryz.isAgg312
 z51:=Tryz.sizeOf312
 v51:=Tryz.zeroValue312
 t53:=underlying314
 a53:=Tryz.isAgg314
 z53:=Tryz.sizeOf314
 v53:=Tryz.zeroValue314
 t131:=underlying266
 a131:=Tryz.isAgg266
 z131:=Tryz.sizeOf266
 v131:=Tryz.zeroValue266
 t182:=underlying305
 a182:=Tryz.isAgg305
 z182:=Tryz.sizeOf305
 v182:=Tryz.zeroValue305
 t183:=underlying306
 a183:=Tryz.isAgg306
 z183:=Tryz.sizeOf306
 v183:=Tryz.zeroValue306
 t218:=underlying343
 a218:=Tryz.isAgg343
 z218:=Tryz.sizeOf343
 v218:=Tryz.zeroValue343
 t222:=underlying347
 a222:=Tryz.isAgg347
 z222:=Tryz.sizeOf347
 v222:=Tryz.zeroValue347
 t228:=underlying371
 a228:=Tryz.isAgg371
 z228:=Tryz.sizeOf371
 v228:=Tryz.zeroValue371
 t229:=underlying301
 a229:=Tryz.isAgg301
 z229:=Tryz.sizeOf301
 v229:=Tryz.zeroValue301 }
def Tryz.laysCompact_ren:Go.Shelf.Ren:=⟨fun|20=>225|n=>n,fun|22=>26|3=>3|4=>4|0=>0|n=>n,fun|n=>n⟩
theorem Tryz.laysCompact:Go.Proofs.Lays2.n20 prog Tryz.laysCompact_ren:={
 mixed:=by kernel_rfl
 f20:=func225.trans (congrArg some (by kernel_rfl))
 t0:=underlying0
 a0:=Tryz.isAgg0
 z0:=Tryz.sizeOf0
 v0:=Tryz.zeroValue0
 t3:=underlying3
 a3:=Tryz.isAgg3
 z3:=Tryz.sizeOf3
 v3:=Tryz.zeroValue3
 t4:=underlying4
 a4:=Tryz.isAgg4
 z4:=Tryz.sizeOf4
 v4:=Tryz.zeroValue4
 t22:=underlying26
 a22:=Tryz.isAgg26
 z22:=Tryz.sizeOf26
 v22:=Tryz.zeroValue26
 i3:=by kernel_rfl }
end Go.Proofs
end
section
set_option maxRecDepth 4000
open Go Go.Proofs Go.Shelf Tryz
namespace Go.Abs
def kJ (xs:Xa0):Xa0:=xs.mergeSort λx y=>decide (x<=y)
theorem lO (xs:Xa0):(kJ xs).length=xs.length:=List.length_mergeSort xs
theorem Ha {G:AHeap}{c:Nat}{ty:TypeId}{xs:Xa0}{Q:D->AHeap->Prop}(o:G.get c=some ⟨ty,1,xs.map cI,false⟩)(t:xs.length<=1000000)
  (q:Q (.tup []) (G.put c ⟨ty,1,(kJ xs).map cI,false⟩)):ACalls prog 146 [.own c xs.length] G Q:=by
 refine PW ⟨Tryz.f146,func146,rfl,rfl⟩ o (lO xs) (λw v b=>?_) q;rcases b.2 with ⟨rfl,r⟩|⟨g,l,s,rfl,p,a,h,k,j,f⟩
 .have hx:xs=[]:=bQ r;subst hx;exact (Any.slices_Sort_int_none Tryz.laysSort none 0 w).mono λe m ⟨i,d⟩=>by
   subst d;exact ⟨i,⟨rfl,rfl,rfl,bD _,λ_ _ _=>rfl⟩,by simpa [GF,kJ] using b⟩
 .have hH:Sort.Holds (Value.int .i64) w g 0 xs.toArray:=holds_of_blockI a (eL f);refine (Any.slices_Sort_int Tryz.laysSort g 0 l xs w hH (sZ.1 a).1 bZ).mono λe m ⟨i,n,os,d⟩=>?_;subst d;refine ⟨i,grownBy_sortedI _,?_⟩;have:=ownsRow_sortedI (n:=n) (os:=os) (ts:=kJ xs) (lO xs) p a h k (eL j);unfold GF;rw [lO];exact this
theorem IO (zs:Xa0):(Lib.compact zs).length<=zs.length:=by
 unfold Lib.compact Lib.compactUpTo;grind
theorem FX {G:AHeap}{f:Nat}{ty:TypeId}{xs:Xa0}{Q:D->AHeap->Prop}(t:G.get f=some ⟨ty,1,xs.map cI,false⟩)(A:xs.length<=1000000)
  (x:∀ k,Q (.list ((Lib.compact xs).map cI)) (G.put f k)):ACalls prog 225 [.own f xs.length] G Q:=by
 have p:=IO xs;have c:(Lib.compact xs++List.replicate (xs.length - (Lib.compact xs).length) 0).length=xs.length:=by simp;omega
 refine Ni (zs:=Lib.compact xs++List.replicate (xs.length - (Lib.compact xs).length) 0) (m:=(Lib.compact xs).length) ⟨Tryz.f225,func225,rfl,rfl⟩ t c p (λw v a=>?_) (by rw [List.take_left];exact x _);rcases a.2 with ⟨rfl,y⟩|⟨g,r,z,rfl,u,b,d,o,l,i⟩
 .have hx:xs=[]:=bQ y;subst hx;exact (Any.slices_Compact_int_empty Tryz.laysCompact none 0 w).mono λe s ⟨j,h⟩=>by
   subst h;exact ⟨⟨_,j,.inl ⟨rfl,rfl⟩⟩,⟨rfl,rfl,rfl,bD _,λ_ _ _=>rfl⟩,by simpa [GF,Lib.compact,Lib.compactUpTo] using a⟩
 .have hH:Sort.Holds (Value.int .i64) w g 0 xs.toArray:=holds_of_blockI b (eL i);refine (Any.slices_Compact_int Tryz.laysCompact g 0 r xs w hH bZ d).mono λe s ⟨j,q,h⟩=>?_;subst h;refine ⟨⟨_,j,.inr ⟨_,_,_,rfl,rfl⟩⟩,?_,?_⟩
  .have:=grownBy_sortedI (w:=w) (g:=g) (n:=q) (os:=#[]) (Lib.compact xs++List.replicate (xs.length - (Lib.compact xs).length) 0).toArray;exact this
  .have:=ownsRow_sortedI (n:=q) (os:=#[]) (ts:=Lib.compact xs++List.replicate (xs.length - (Lib.compact xs).length) 0) c u b d o (eL l);rw [Sort.grow_empty] at this;unfold GF;grind
def imagesN (xs:Xa0):Nat:=(Lib.compact (kJ xs)).length
theorem zL (xs:Xa0)(b:xs.length<=1000000):Pua 140 [dLI xs] (dI (imagesN xs)):=by
 have a:=lO xs;refine Tz.p0 func140 rfl λQ c Y=>?_;refine wv (h:=i5 (fS xs b) wl ?_);refine wv (h:=?_);unfold e8;refine Ha (ty:=3) (xs:=xs) (by simp [go_sem]) b ?_;refine wo (h:=?_);unfold e8;rw [show xs.length=(kJ xs).length from a.symm];refine FX (ty:=3) (xs:=kJ xs) (by simp [go_sem]) bZ λk=>?_;have Y:=wa Y @imagesN.eq_1;exact wo (h:=c _ _ wy)
end Go.Abs
end
section
set_option maxRecDepth 100000
set_option maxHeartbeats 4000000
open Go Go.Proofs Tryz
namespace Go.Abs
theorem SY (xs:Xa0):(kJ xs).Pairwise (·<=·):=by
 have:=List.pairwise_mergeSort (le:=λ(x y:Int)=>decide (x<=y)) (λa b c e d=>by simp at *;omega) (λa b=>by simp;omega) xs;exact this.imp λh=>by simpa using h
theorem FQ (xs:Xa0):imagesN xs=xs.length↔xs.Nodup:=by
 have f:(kJ xs).Perm xs:=List.mergeSort_perm xs _;rw [<- f.nodup_iff,<- lO xs];unfold imagesN Lib.compact Lib.compactUpTo;rw [bI];have b:=eD.1 (SY xs);generalize kJ xs=s at *;have d:(List.filter (Lib.keeps s.toArray) (List.range s.length)).length=s.length↔∀ j,j<s.length->Lib.keeps s.toArray j=true:=by
  have:=List.length_filter_eq_length_iff (p:=Lib.keeps s.toArray) (l:=List.range s.length);grind
 rw [d];have e:∀ j (a:j<s.length),Lib.keeps s.toArray j=true↔(j=0\/s[j]≠s[j - 1]' bZ):=λj a=>by
  simp only [Lib.keeps,decide_eq_true_eq];grind
 constructor
 .intro h;rw [Ef,eD];intro i j k a g;rcases (e j a).1 (h j a) with h0|h0
  .omega
  .have h1:=b (j - 1) j bZ a bZ;by_cases c:i=j - 1
   .subst c;omega
   .have h2:=b i (j - 1) k bZ bZ;omega
 .intro h j a;rw [e j a];by_cases h0:j=0
  .exact .inl h0
  .right
   intro m;have:=(j9 h).1 m;omega
def bX:Edge:=⟨0,0,0⟩
def kO (a b:Graph)(m:Part)(i:Nat):Int :=
 if m.h[i]?.getD 0<0\/(b.h.length:Int)<=m.h[i]?.getD 0 then 6
 else if b.h[(m.h[i]?.getD 0).toNat]?.getD 0≠a.h[i]?.getD 0 then 13 else 0
def jA (a b:Graph)(m:Part)(i:Nat):Int :=
 if m.i[i]?.getD 0<0\/(b.i.length:Int)<=m.i[i]?.getD 0 then 6
 else if (a.i[i]?.getD bX).type≠(b.i[(m.i[i]?.getD 0).toNat]?.getD bX).type then 13
 else if m.h[(a.i[i]?.getD bX).B.toNat]?.getD 0≠(b.i[(m.i[i]?.getD 0).toNat]?.getD bX).B\/m.h[(a.i[i]?.getD bX).O.toNat]?.getD 0≠(b.i[(m.i[i]?.getD 0).toNat]?.getD bX).O then 11 else 0
def cY (a b:Graph)(m:Part):Int :=
 if graphF a≠0 then graphF a
 else if graphF b≠0 then graphF b
 else if m.h.length≠a.h.length\/m.i.length≠a.i.length then 20
 else if bS (kO a b m) 0 a.h.length≠0 then bS (kO a b m) 0 a.h.length
 else bS (jA a b m) 0 a.i.length
theorem gQ (a b:Graph)(m:Part):Pua 69 [a.d,b.d,m.d] (dI (cY a b m)):=by
 refine Tz.pK ⟨λt=>t==13||t==14,λr=>match r with|22=>[(0,10),(1,10),(3,10),(4,10),(5,10),(6,10),(8,10),(9,10),(0,11),(1,11),(3,11),(4,11),(5,11),(6,11),(8,11),(9,11),(10,11),(5,12),(6,12),(8,12),(9,12)]|_=>[]⟩ func69 rfl (λQ l=>?_);have Y:=trivial;refine wv (h:=aB (lK a) wl ?_);refine c8 (λo=>?_) λo=>?_
 .exact wv (h:=l _ _ (.inl (by simp [go_sem,cY,o])))
 .refine wv (h:=aB (lK b) wl ?_);refine c8 (λw=>?_) λw=>?_
  .exact wv (h:=l _ _ (.inl (by simp [go_sem,cY,o,w])))
  .refine dW (λO=>?_) λO=>?_
   .exact wv (h:=l _ _ (.inl (by simp [go_sem,cY,o,w,(bZ:m.h.length≠a.h.length\/m.i.length≠a.i.length)])))
   .have x:cY a b m=(if bS (kO a b m) 0 a.h.length≠0 then bS (kO a b m) 0 a.h.length else bS (jA a b m) 0 a.i.length):=by
     unfold cY;rw [if_neg (by simp [o]),if_neg (by simp [w]),if_neg bZ]
    have N:=aY o;have M:=aY w;have z:=(dO o).2;refine wo (h:=bC (λi e H=>(e 3=.adr a.c/\e 4=.adr b.c/\e 5=.adr m.c/\e 42=dLI m.h/\e 43=dI m.h.length/\e 44=dI i)/\(i<=m.h.length)/\(bS (kO a b m) i (a.h.length - i)=bS (kO a b m) 0 a.h.length)) (λi=>m.h.length - i) 0 ⟨wg,wi,(by rfl)⟩ λW D i e H B=>?_);obtain ⟨R,U,I⟩:=B;have Y:=wa Y R;refine c8 (λs=>?_) λs=>?_
    .have hn:i<a.h.length:=bZ;have f:=fE (kO a b m) hn;rw [I] at f;have j:kO a b m i=(if m.h[i]<0\/(b.h.length:Int)<=m.h[i] then 6 else if b.h[m.h[i].toNat]?.getD 0≠a.h[i] then 13 else 0):=by simp only [kO,aA s,aA hn,aD]
     have Y:=xa1 Y s hn;refine dW (λG=>?_) λG=>?_
     .rw [if_pos bZ] at j;rw [j,if_pos bZ] at f;exact wv (h:=l _ _ (.inl (by simp [go_sem,x,f])))
     .have hkb:m.h[i].toNat<b.h.length:=bZ;rw [if_neg bZ,aA hkb,aD] at j;have Y:=wa Y (aA hkb);refine dW (λq=>?_) λq=>?_
      .rw [if_pos q] at j;rw [j,if_pos bZ] at f;exact wv (h:=l _ _ (.inl (by simp [go_sem,x,f])))
      .rw [if_neg (eL q)] at j;rw [j,if_neg bZ] at f;exact wo (h:=wx D (i+1) ⟨wg,wj,(f.symm)⟩)
    .have hN0:bS (kO a b m) 0 a.h.length=0:=by rw [<- I,(bZ:a.h.length - i=0)];rfl
     rw [hN0,if_neg bZ] at x;refine wo (h:=bC (λk e H=>(e 3=.adr a.c/\e 4=.adr b.c/\e 5=.adr m.c/\e 71=dLI m.i/\e 72=dI m.i.length/\e 73=dI k)/\(k<=m.i.length)/\(bS (jA a b m) k (a.i.length - k)=cY a b m)) (λk=>m.i.length - k) 0 ⟨wg,wi,(x.symm)⟩ λV C k e H A=>?_);obtain ⟨P,T,J⟩:=A;have Y:=wa Y P;refine c8 (λp=>?_) λp=>?_
     .have hn:k<a.i.length:=bZ;have f:=fE (jA a b m) hn;rw [J] at f;have S:=z _ (aC hn);have v:a.i[k].B.toNat<m.h.length:=bZ;have u:a.i[k].O.toNat<m.h.length:=bZ;have g:jA a b m k=(if m.i[k]<0\/(b.i.length:Int)<=m.i[k] then 6 else if a.i[k].type≠(b.i[m.i[k].toNat]?.getD bX).type then 13 else if m.h[a.i[k].B.toNat]≠(b.i[m.i[k].toNat]?.getD bX).B\/m.h[a.i[k].O.toNat]≠(b.i[m.i[k].toNat]?.getD bX).O then 11 else 0):=by
       simp only [jA,aA p,aA hn,aD,aA v,aA u]
      have Y:=xa3 Y p hn (aA v) (aA u);refine dW (λF=>?_) λF=>?_
      .rw [if_pos bZ] at g;rw [g,if_pos bZ] at f;exact wv (h:=l _ _ (.inl (by simp [go_sem,<- f])))
      .have hkb:m.i[k].toNat<b.i.length:=bZ;rw [if_neg bZ,aA hkb,aD] at g;have Y:=wa Y (aA hkb);refine dW (λn=>?_) λn=>?_
       .rw [if_pos n] at g;rw [g,if_pos bZ] at f;exact wv (h:=l _ _ (.inl (by simp [go_sem,<- f])))
       .rw [if_neg (eL n)] at g;refine dW (λE=>?_) λE=>?_
        .rw [if_pos bZ] at g;rw [g,if_pos bZ] at f;exact wv (h:=l _ _ (.inl (by simp [go_sem,<- f])))
        .rw [if_neg bZ] at g;rw [g,if_neg bZ] at f;exact wo (h:=wx C (k+1) ⟨wg,wj,(f.symm)⟩)
     .exact wv (h:=l _ _ (.inl (by rw [<- J,(bZ:a.i.length - k=0)];rfl)))
def jN (a b:Graph)(m:Part):Bool:=decide (cY a b m=0)&&(decide m.h.Nodup&&decide m.i.Nodup)
theorem dA {a b:Graph}{m:Part}(h:cY a b m=0):graphF a=0/\graphF b=0/\m.h.length=a.h.length/\m.i.length=a.i.length:=by grind [cY]
theorem Le (xs:Xa0):((imagesN xs:Int)==(xs.length:Int))=decide xs.Nodup:=by
 rw [aU];simp only [beq_iff_eq,decide_eq_true_eq];rw [<- FQ];omega
theorem iY (a b:Graph)(m:Part)(g:m.h.length<=1000000)(f:m.i.length<=1000000):Pua 70 [a.d,b.d,m.d] (.bool (jN a b m)):=by
 refine Tz.p0 func70 rfl λQ e _=>?_;have Y:=@Le;refine wo (h:=aI (gQ a b m) wl ?_);refine wo (h:=fX (λc=>zL m.h g) (λc=>wl) ?_);refine wo (h:=fX (λc=>zL m.i f) (λc=>wl) ?_);exact wo (h:=e _ _ (by simp [go_sem,jN,gA]))
theorem kA (a b:Graph)(m:Part):Pua 82 [a.d,b.d,m.d] (dI (cY a b m)):=by
 refine Tz.pK ⟨λt=>t==11||t==12,λr=>match r with|21=>[(0,14),(1,14),(3,14),(4,14),(5,14),(6,14),(7,14),(8,14),(10,14),(11,14),(12,14),(13,14),(0,15),(1,15),(3,15),(4,15),(5,15),(6,15),(7,15),(8,15),(10,15),(11,15),(12,15),(13,15),(14,15),(5,16),(6,16),(7,16),(8,16),(10,16),(11,16),(12,16),(13,16)]|_=>[]⟩ func82 rfl (λQ n=>?_);have Y:=trivial;refine wv (h:=?_);refine aB (mF a) wl ?_;refine wv (h:=?_);refine wq (λs=>?_) λs=>?_
 .refine wv (h:=?_);exact n _ _ (.inl (by simp [go_sem,cY,s]))
 .refine wv (h:=?_);refine aB (mF b) wl ?_;refine wv (h:=?_);refine wq (λx=>?_) λx=>?_
  .refine wv (h:=?_);exact n _ _ (.inl (by simp [go_sem,cY,s,x]))
  .refine wv (h:=?_);repeat first|intro _|refine ⟨iF,?_⟩
   refine wq (λP=>?_) λP=>?_
   .refine wv (h:=?_);exact n _ _ (.inl (by simp [go_sem,cY,s,x,(bZ:m.h.length≠a.h.length\/m.i.length≠a.i.length)]))
   .have y:cY a b m=(if bS (kO a b m) 0 a.h.length≠0 then bS (kO a b m) 0 a.h.length else bS (jA a b m) 0 a.i.length):=by
     unfold cY;rw [if_neg (by simp [s]),if_neg (by simp [x]),if_neg bZ]
    have O:=aY s;have N:=aY x;have A:=(dO s).2;refine wv (h:=?_);refine bC (λi e H=>(e 3=.adr a.c/\e 4=.adr b.c/\e 5=.adr m.c/\e 9=dI i)/\(i<=a.h.length)/\(bS (kO a b m) i (a.h.length - i)=bS (kO a b m) 0 a.h.length)) (λi=>a.h.length - i) 0 ⟨wg,wi,(by rfl)⟩ λX E i e H C=>?_;obtain ⟨S,V,J⟩:=C;have Y:=wa Y S;refine wv (h:=?_);repeat first|intro _|refine ⟨iF,?_⟩
    refine wq (λo=>?_) λo=>?_
    .have hn:i<m.h.length:=bZ;have f:=fE (kO a b m) o;rw [J] at f;have j:kO a b m i=(if m.h[i]<0\/(b.h.length:Int)<=m.h[i] then 6 else if b.h[m.h[i].toNat]?.getD 0≠a.h[i] then 13 else 0):=by simp only [kO,aA o,aA hn,aD]
     have Y:=xa1 Y o hn;refine wv (h:=?_);repeat first|intro _|refine ⟨iF,?_⟩
     refine wq (λI=>?_) λI=>?_
     .rw [if_pos bZ] at j;rw [j,if_pos bZ] at f;refine wv (h:=?_);exact n _ _ (.inl (by simp [go_sem,y,f]))
     .have hkb:m.h[i].toNat<b.h.length:=bZ;rw [if_neg bZ,aA hkb,aD] at j;have Y:=wa Y (aA hkb);refine wv (h:=?_);repeat first|intro _|refine ⟨iF,?_⟩
      refine wq (λu=>?_) λu=>?_
      .rw [if_pos u] at j;rw [j,if_pos bZ] at f;refine wv (h:=?_);exact n _ _ (.inl (by simp [go_sem,y,f]))
      .rw [if_neg (eL u)] at j;rw [j,if_neg bZ] at f;refine wv (h:=?_);repeat first|intro _|refine ⟨iF,?_⟩
       exact wx E (i+1) ⟨wg,wj,(f.symm)⟩
    .have hN0:bS (kO a b m) 0 a.h.length=0:=by rw [<- J,(bZ:a.h.length - i=0)];rfl
     rw [hN0,if_neg bZ] at y;refine wv (h:=?_);refine bC (λk e H=>(e 3=.adr a.c/\e 4=.adr b.c/\e 5=.adr m.c/\e 10=dI k)/\(k<=a.i.length)/\(bS (jA a b m) k (a.i.length - k)=cY a b m)) (λk=>a.i.length - k) 0 ⟨wg,wi,(y.symm)⟩ λW D k e H B=>?_;obtain ⟨R,U,K⟩:=B;have Y:=wa Y R;refine wv (h:=?_);repeat first|intro _|refine ⟨iF,?_⟩
     refine wq (λl=>?_) λl=>?_
     .have hn:k<m.i.length:=bZ;have f:=fE (jA a b m) l;rw [K] at f;have T:=A _ (aC l);have w:a.i[k].B.toNat<m.h.length:=bZ;have v:a.i[k].O.toNat<m.h.length:=bZ;have g:jA a b m k=(if m.i[k]<0\/(b.i.length:Int)<=m.i[k] then 6 else if a.i[k].type≠(b.i[m.i[k].toNat]?.getD bX).type then 13 else if m.h[a.i[k].B.toNat]≠(b.i[m.i[k].toNat]?.getD bX).B\/m.h[a.i[k].O.toNat]≠(b.i[m.i[k].toNat]?.getD bX).O then 11 else 0):=by
       simp only [jA,aA l,aA hn,aD,aA w,aA v]
      have Y:=xa3 Y l hn (aA w) (aA v);refine wv (h:=?_);repeat first|intro _|refine ⟨iF,?_⟩
      refine wq (λG=>?_) λG=>?_
      .rw [if_pos bZ] at g;rw [g,if_pos bZ] at f;refine wv (h:=?_);exact n _ _ (.inl (by simp [go_sem,<- f]))
      .have hkb:m.i[k].toNat<b.i.length:=bZ;rw [if_neg bZ,aA hkb,aD] at g;have Y:=wa Y (aA hkb);refine wv (h:=?_);repeat first|intro _|refine ⟨iF,?_⟩
       refine wq (λq=>?_) λq=>?_
       .rw [if_pos q] at g;rw [g,if_pos bZ] at f;refine wv (h:=?_);exact n _ _ (.inl (by simp [go_sem,<- f]))
       .rw [if_neg (eL q)] at g;refine wv (h:=?_);repeat first|intro _|refine ⟨iF,?_⟩
        refine wq (λF=>?_) λF=>?_
        .rw [if_pos bZ] at g;rw [g,if_pos bZ] at f;refine wv (h:=?_);exact n _ _ (.inl (by simp [go_sem,<- f]))
        .rw [if_neg bZ] at g;rw [g,if_neg bZ] at f;refine wv (h:=?_);repeat first|intro _|refine ⟨iF,?_⟩
         exact wx D (k+1) ⟨wg,wj,(f.symm)⟩
     .refine wv (h:=?_);exact n _ _ (.inl (by rw [<- K,(bZ:a.i.length - k=0)];rfl))
theorem qG (l:Xa0):Pua 127 [dLI l] (.bool (decide l.Nodup)):=by
 refine Tz.p0 func127 rfl λQ s Y=>?_;refine wv (h:=bC (λi e H=>(e 0=dLI l/\e 3=dI i)/\(i<=l.length)/\(∀ (a b:Nat) (d:b<l.length),b<i->(c:a<b)->l[a]≠l[b])) (λi=>l.length - i) 0 ⟨wg,wi,(by intro a b d h;omega)⟩ λB o i e H j=>?_);obtain ⟨w,y,r⟩:=j;have Y:=wa Y w;refine wv (h:=?_);repeat first|intro _|refine ⟨iF,?_⟩
 refine wq (λu=>?_) λu=>?_
 .have Y:=wa Y u;refine wv (h:=bC (λk e H=>(e 0=dLI l/\e 3=dI i/\e 4=dI k)/\(k<=i)/\(∀ a,a<k->l[a]?≠some l[i])) (λk=>i - k) 0 ⟨wg,wi,(by intro a h;omega)⟩ λA n k e H g=>?_);obtain ⟨v,x,q⟩:=g;have Y:=wa Y v;refine c8 (λt=>?_) λt=>?_
  .have hkl:k<l.length:=bZ;have Y:=xa1 Y t hkl;refine dW (λp=>?_) λp=>?_
   .refine wv (h:=?_);have f:¬ l.Nodup:=λh=>by
     have:=(j9 h).1 p;omega
    exact s _ _ (by simp [go_sem,f])
   .exact wo (h:=wx n (k+1) ⟨wg,wj,(by exact iR q (by rw [aA hkl];simpa using λm=>p m.symm))⟩)
  .have hd':∀ (a b:Nat) (d:b<l.length),b<i+1->(c:a<b)->l[a]≠l[b]:=λa b d h c=>by
    rcases bT b i with h'|h'
    .exact r a b d h' c
    .have:b=i:=bZ;subst this;exact λm=>q a bZ (by rw [aA bZ,m])
   exact wo (h:=wx o (i+1) ⟨wg,wj,(by exact hd')⟩)
 .refine wv (h:=?_);have f:l.Nodup:=by
   rw [Ef,eD];exact λa b z d c=>r a b d bZ c
  exact s _ _ (by simp [go_sem,f])
def Ja (l:Xa0)(n:Int)(i:Nat):Int :=
 if l[i]?.getD 0<0\/n<=l[i]?.getD 0 then 6 else if 0<i/\l[i]?.getD 0<=l[i - 1]?.getD 0 then 12 else 0
def EY (l:Xa0)(n:Int):Int:=bS (Ja l n) 0 l.length
theorem fD {f:Nat->Int}:∀ (n k:Nat),bS f k n=0->∀ j,k<=j->j<k+n->f j=0
 | 0,k,_=>λj h1 h2=>by omega
 | n+1,k,h=>λj h1 h2=>by
  unfold bS at h;split at h
  .rename_i hne;exact absurd h hne
  .rename_i hz;rcases Nat.eq_or_lt_of_le h1 with h3|h3
   .subst h3;exact bH λhne=>hz hne
   .exact fD n (k+1) h j h3 bZ
theorem CH {l:Xa0}{n:Int}(h:EY l n=0):(∀ x∈l,0<=x/\x<n)/\l.Pairwise (· < ·):=by
 have b:=fD _ _ h;have e:∀ i (a:i<l.length),(0<=l[i]/\l[i]<n)/\(∀ h0:0<i,l[i - 1]<l[i]):=λi a=>by
  have:=b i bZ bZ;unfold Ja at this;grind
 refine ⟨λx c=>?_,eD.2 λi j a f d=>?_⟩
 .obtain ⟨i,a,rfl⟩:=aO c;exact (e i a).1
 .induction j with
  | zero=>omega
  | succ j ih =>
   grind
theorem BN (l:Xa0)(n:Int):Pua 349 [dLI l,dI n] (dI (EY l n)):=by
 refine Tz.p0 func349 rfl λQ g Y=>?_;refine wv (h:=?_);repeat first|intro _|refine ⟨iF,?_⟩
 refine bC (λi e H=>(e 0=dLI l/\e 1=dI n/\e 7=dLI l/\e 8=dI l.length/\e 9=dI i)/\(i<=l.length)/\(bS (Ja l n) i (l.length - i)=EY l n)) (λi=>l.length - i) 0 ⟨wg,wi,(by rfl)⟩ λv j i e H f=>?_;obtain ⟨r,u,m⟩:=f;have Y:=wa Y r;refine wv (h:=?_);refine wq (λc=>?_) λc=>?_
 .have hst:=fE (Ja l n) c;rw [m] at hst;have a:Ja l n i=(if l[i]<0\/n<=l[i] then 6 else if 0<i/\l[i]<=l[i - 1]?.getD 0 then 12 else 0):=by simp only [Ja,aA c,aD]
  have b:i - 1<l.length:=bZ;rw [aA b,aD] at a;have d:((i:Int) - 1).toNat=i - 1:=bZ;have Y:=xa2 Y c d (aA b);refine wv (h:=?_);repeat first|intro _|refine ⟨iF,?_⟩
  refine wq (λq=>?_) λq=>?_
  .rw [if_pos bZ] at a;rw [a,if_pos bZ] at hst;refine wv (h:=?_);exact g _ _ (.inl (by simp [go_sem,hst]))
  .rw [if_neg bZ] at a;refine wv (h:=?_);repeat first|intro _|refine ⟨iF,?_⟩
   refine wq (λp=>?_) λp=>?_
   .rw [if_pos bZ] at a;rw [a,if_pos bZ] at hst;refine wv (h:=?_);exact g _ _ (.inl (by simp [go_sem,hst]))
   .rw [if_neg bZ] at a;rw [a,if_neg bZ] at hst;refine wv (h:=?_);repeat first|intro _|refine ⟨iF,?_⟩
    exact wx j (i+1) ⟨wg,wj,(hst.symm)⟩
 .refine wv (h:=?_);exact g _ _ (.inl (by rw [<- m,(bZ:l.length - i=0)];rfl))
theorem zJ (l:Xa0)(n:Int):Pua 345 [dLI l,dI n] (dI (EY l n)):=by
 refine Tz.p0 func345 rfl λQ g Y=>?_;refine wv (h:=?_);refine bC (λi e H=>(e 0=dLI l/\e 1=dI n/\e 5=dI i)/\(i<=l.length)/\(bS (Ja l n) i (l.length - i)=EY l n)) (λi=>l.length - i) 0 ⟨wg,wi,(by rfl)⟩ λv j i e H f=>?_;obtain ⟨r,u,m⟩:=f;have Y:=wa Y r;refine wv (h:=?_);repeat first|intro _|refine ⟨iF,?_⟩
 refine wq (λc=>?_) λc=>?_
 .have hst:=fE (Ja l n) c;rw [m] at hst;have a:Ja l n i=(if l[i]<0\/n<=l[i] then 6 else if 0<i/\l[i]<=l[i - 1]?.getD 0 then 12 else 0):=by simp only [Ja,aA c,aD]
  have b:i - 1<l.length:=bZ;rw [aA b,aD] at a;have d:((i:Int) - 1).toNat=i - 1:=bZ;have Y:=xa2 Y c d (aA b);refine wv (h:=?_);repeat first|intro _|refine ⟨iF,?_⟩
  refine wq (λq=>?_) λq=>?_
  .rw [if_pos bZ] at a;rw [a,if_pos bZ] at hst;refine wv (h:=?_);exact g _ _ (.inl (by simp [go_sem,hst]))
  .rw [if_neg bZ] at a;refine wv (h:=?_);repeat first|intro _|refine ⟨iF,?_⟩
   refine wq (λp=>?_) λp=>?_
   .rw [if_pos bZ] at a;rw [a,if_pos bZ] at hst;refine wv (h:=?_);exact g _ _ (.inl (by simp [go_sem,hst]))
   .rw [if_neg bZ] at a;rw [a,if_neg bZ] at hst;refine wv (h:=?_);repeat first|intro _|refine ⟨iF,?_⟩
    exact wx j (i+1) ⟨wg,wj,(hst.symm)⟩
 .refine wv (h:=?_);exact g _ _ (.inl (by rw [<- m,(bZ:l.length - i=0)];rfl))
theorem KF (l:Xa0)(v:Int):Pua 346 [dLI l,dI v] (.bool (mem l v)):=by
 refine Tz.p0 func346 rfl λQ m Y=>?_;refine wv (h:=bC (λi e H=>(e 0=dLI l/\e 1=dI v/\e 5=dI i)/\(i<=l.length)/\(∀ j,j<i->l[j]?≠some v)) (λi=>l.length - i) 0 ⟨wg,wi,(by intro j k;omega)⟩ λq f i e H d=>?_);obtain ⟨o,p,a⟩:=d;have Y:=wa Y o;refine wv (h:=?_);repeat first|intro _|refine ⟨iF,?_⟩
 refine wq (λb=>?_) λb=>?_
 .have Y:=wa Y b;refine dW (λg=>?_) λg=>?_
  .refine wv (h:=?_);have c:mem l v=true:=(mem_iff l v).2 (g ▸ aC b);exact m _ _ (by simp [go_sem,c])
  .exact wo (h:=wx f (i+1) ⟨wg,wj,(by exact iR a (by rw [aA b];simpa using g))⟩)
 .refine wv (h:=?_);have c:mem l v=false:=by rw [aW];intro h;obtain ⟨j,k,n⟩:=aO ((mem_iff l v).1 h);exact a j bZ (by rw [aA k,n])
  exact m _ _ (by simp [go_sem,c])
theorem vG (l:Xa0)(v:Int):Pua 291 [dLI l,dI v] (dI (gS l v)):=by
 refine Tz.p0 func291 rfl λQ g Y=>?_;refine wv (h:=bC (λi e H=>(e 0=dLI l/\e 1=dI v/\e 5=dI i)/\(i<=l.length)/\(∀ j,j<i->l[j]?≠some v)) (λi=>l.length - i) 0 ⟨wg,wi,(by intro j k;omega)⟩ λo d i e H c=>?_);obtain ⟨m,n,a⟩:=c;have Y:=wa Y m;refine wv (h:=?_);repeat first|intro _|refine ⟨iF,?_⟩
 refine wq (λb=>?_) λb=>?_
 .have Y:=wa Y b;refine dW (λf=>?_) λf=>?_
  .exact wv (h:=g _ _ (by rw [sI a (by rw [aA b,f])];simp [go_sem]))
  .exact wo (h:=wx d (i+1) ⟨wg,wj,(by exact iR a (by rw [aA b];simpa using f))⟩)
 .exact wv (h:=g _ _ (by rw [xO λj k=>a j bZ];simp [go_sem]))
theorem tB (a:Int):Pua 315 [dI a] (.bool false):=by
 refine Tz.p0 func315 rfl λQ b Y=>?_;exact wv (h:=b _ _ wy)
theorem Bs (a:Int):Pua 356 [dI a] (.bool false):=by
 refine Tz.p0 func356 rfl λQ b Y=>?_;exact wv (h:=b _ _ wy)
theorem Vt (a b:Int):Pua 303 [dI a,dI b] (.bool (decide (a<b))):=by
 refine Tz.p0 func303 rfl λQ d Y=>?_;refine wo (h:=aB (Bs a) wl ?_);refine wo (h:=aG (λc=>Bs b) (λc=>wl) ?_);exact wo (h:=d _ _ wy)
def lH (l:Xa0)(v:Int):Nat:=(l.takeWhile λy=>decide (y<v)).length
theorem R3 {l:Xa0}{v:Int}{n:Nat}(h1:∀ j (hj:j<l.length),j<n->l[j]<v)(h2:n<=l.length)(h3:∀ hn:n<l.length,¬ l[n]<v):lH l v=n :=
 wD _ l n (λj x hj hx=>by
  obtain ⟨hjl,rfl⟩:=aK.1 hx;simpa using h1 j hjl hj) h2 λx hx=>by
  obtain ⟨hjl,rfl⟩:=aK.1 hx;simpa using h3 hjl
theorem ac4 (a b:Nat):((a:Int)+(b:Int)).fdiv 2=(((a+b) / 2:Nat):Int):=by grind
theorem pX (l:Xa0)(v:Int)(F:l.Pairwise (· < ·))(O:l.length<=1000000):Pua 238 [dLI l,dI v] (.tup [dI (lH l v),.bool (mem l v)]):=by
 have n:=eD.1 F;refine Tz.p0 func238 rfl λQ E _=>?_;have Y:=@ac4;refine wo (h:=bC (λm e H=>∃ i:Nat,∃ j:Nat,(e 0=dLI l/\e 1=dI v/\e 6=dI l.length/\e 7=dI i/\e 8=dI j)/\(i<=j)/\(j<=l.length)/\(j - i<=m)/\(∀ a (h:a<l.length),a<i->l[a]<v)/\(∀ a (h:a<l.length),j<=a->¬ l[a]<v)) (λm=>m) l.length ⟨0,l.length,wg,bZ,bZ,bZ,(by intro a h k;omega),(by intro a h k;omega)⟩ λR s m e H x=>?_);obtain ⟨i,j,M,P,I,G,A,z⟩:=x;have Y:=wa Y M;refine c8 (λt=>?_) λt=>?_
 .have hk:(i+j) / 2<l.length:=bZ;have u:(((i:Int)+(j:Int)) / 2).toNat=(i+j) / 2:=bZ;have N:=Sg (bZ:0<=(i:Int)+(j:Int)) (bZ:(i:Int)+(j:Int)<=18446744073709551615);have Y:=xa2 Y t u (aA hk);refine wo (h:=aB (Vt _ _) wl ?_);refine dW (λh5=>?_) λh5=>?_
  .obtain ⟨g,y⟩:∃ g:Nat,g=(i+j) / 2+1:=⟨_,rfl⟩;obtain ⟨f,w⟩:∃ f:Nat,f=j:=⟨_,rfl⟩;have r:∀ a (h:a<l.length),a<g->l[a]<v:=λa h k=>by
    rcases bT a ((i+j) / 2) with h1|h1
    .have:=n a _ h hk h1;omega
    .have:a=(i+j) / 2:=bZ;subst this;exact h5
   have q:∀ a (h:a<l.length),f<=a->¬ l[a]<v:=λa h k=>z a h bZ;exact wo (h:=wx s (m - 1) ⟨g,f,wg,bZ,bZ,bZ,(r),(q)⟩)
  .obtain ⟨g,y⟩:∃ g:Nat,g=i:=⟨_,rfl⟩;obtain ⟨f,w⟩:∃ f:Nat,f=(i+j) / 2:=⟨_,rfl⟩;have r:∀ a (h:a<l.length),a<g->l[a]<v:=λa h k=>A a h bZ;have q:∀ a (h:a<l.length),f<=a->¬ l[a]<v:=λa h k=>by
    rcases bT ((i+j) / 2) a with h1|h1
    .have:=n _ a hk h h1;omega
    .have:a=(i+j) / 2:=bZ;subst this;omega
   exact wv (h:=wx s (m - 1) ⟨g,f,wg,bZ,bZ,bZ,(r),(q)⟩)
 .have hij:j=i:=bZ;have C:lH l v=i:=R3 (λa h k=>A a h k) bZ (λh=>z i h bZ);have D:mem l v=(decide (i<l.length)&&(l[i]?.getD 0==v)):=by
   rw [aU,mem_iff];constructor
   .intro h;obtain ⟨a,h1,K⟩:=aO h;have t:i<=a:=Nat.le_of_not_lt λk=>by have:=A a h1 k;omega
    have J:a=i:=by
     rcases Nat.eq_or_lt_of_le t with h5|h5
     .exact h5.symm
     .have:=n i a bZ h1 h5;exact absurd bZ (z i bZ bZ)
    subst J;simp [h1,K]
   .intro h;simp only [aL,decide_eq_true_eq,beq_iff_eq] at h;rw [aA h.1,aD] at h;rw [<- h.2];exact aC h.1
  by_cases o:i<l.length
  .have Y:=xa1 Y (aA o) o;refine wo (h:=aG (λp=>tB _) (λp=>wl) ?_);refine wo (h:=aG (λp=>tB _) (λp=>wl) ?_);exact wo (h:=E _ _ (by rw [C,D];simp [go_sem,Y];rw [aU];simp))
  .have Y:=wa Y o;refine wo (h:=aG (λp=>tB _) (λp=>wl) ?_);refine wo (h:=aG (λp=>tB _) (λp=>wl) ?_);exact wo (h:=E _ _ (by rw [C,D];simp [go_sem,Y]))
end Go.Abs
end
