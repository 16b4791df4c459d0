/- Layer 4: lines of types, what fits. · Layer 4: attributes of -/
import Derived.Test.YtbgbahlipnaflaaGreatZuAG
import Derived.Test.YtbgbahlipnaflaaGreatZuAA
import Derived.Test.YtbgbahlipnaflaaGreatZuAH
import Derived.Test.YtbgbahlipnaflaaGreatZuAF
import Derived.Ground.NamesProg
import Derived.Ground.Names2Prog
import Derived.Shelf.Sort.Plain
import Derived.Shelf.Slices.CompactI
import Derived.Shelf.Slices.In.SortNone
import Derived.Test.YtbgbahlipnaflaaGreatProg
set_option linter.unusedVariables false
set_option linter.unusedSimpArgs false
section
set_option maxRecDepth 100000
set_option maxHeartbeats 4000000
open Go Go.Proofs Tryz
namespace Go.Abs
def KG (t:Types)(k:Nat):V2:=if k=0 then [] else t.aw (k - 1)
theorem Qm {xs a:V2}{i:Nat}(b:a.length=xs.length)(d:xs.length<=2 * i+1)(c:∀ j,j<xs.length->a[j]?=if j<i\/xs.length - i<=j then xs[xs.length - 1 - j]? else xs[j]?):a=xs.reverse:=by
 apply iF;grind
theorem NN (G:AHeap)(d:Nat)(xs:V2)(w:G.get d=some ⟨3,1,xs.map cI,false⟩)(L:xs.length<=100000)(Q:D->AHeap->Prop)
  (I:∀ H',H'.get d=some ⟨3,1,xs.reverse.map cI,false⟩->(∀ j,j≠d->H'.get j=G.get j)->G.next<=H'.next->Q (.tup []) H'):ACalls prog 363 [.own d xs.length] G Q:=by
 refine (Tz.c0 func363 rfl ?_);try simp [go_sem,seval,w]
 repeat first|intro _|refine ⟨iI,?_⟩
 obtain ⟨x,g⟩:∃ x:Nat->eB->AHeap->Prop,∀ (i:Nat) (e:eB) (H:AHeap),x i e H↔(∃ b:V2,(e 0=.own d xs.length)/\(e 2=dI i)/\(e 3=dI ((xs.length:Int) - 1 - i))/\(H.get d=some ⟨3,1,b.map cI,false⟩)/\(∀ j,j≠d->H.get j=G.get j)/\(G.next<=H.next)/\(b.length=xs.length)/\(∀ j,j<xs.length->b[j]?=if j<i\/xs.length - i<=j then xs[xs.length - 1 - j]? else xs[j]?)):=⟨λi e H=>_,λ_ _ _=>Iff.rfl⟩;refine yY x (λi=>xs.length - i) (0) ((g _ _ _).2 ⟨(xs),?_,?_,?_,(w),(λ_ _=>rfl),(bF _),(by first|assumption|omega|(simp [go_sem,w];done)|(simp_all;done)),(by intro j h;simp;omega)⟩) ?_;iterate 3 (first|omega|(simp [go_sem,seval]<;>omega))
 intro i e H v;obtain ⟨b,n,m,l,C,p,t,r,q⟩:=(g _ _ _).1 v;have y:=xa1 n m l;try simp [go_sem,seval,y]
 refine bA (λk=>?_) (λk=>?_)
 .try simp [go_sem] at k
  have h:xs.length - 1 - i<b.length:=aD;have c:i<b.length:=aD;have s:((xs.length:Int) - 1 - i).toNat=xs.length - 1 - i:=aD;have f:∀ j,j<xs.length->((b.set i (b[xs.length - 1 - i]?.getD 0)).set (xs.length - 1 - i) (b[i]?.getD 0))[j]?=if j<i+1\/xs.length - (i+1)<=j then xs[xs.length - 1 - j]? else xs[j]?:=λj u=>by
   have k:=q j u;have F:=q i aD;have E:=q (xs.length - 1 - i) aD;rw [aA c] at F;rw [aA h] at E;rw [eI,eI,aA c,aA h];by_cases B:xs.length - 1 - i=j
   .rw [if_pos B,if_pos (by simp;omega),if_pos aD];simp only [Option.getD_some];rw [F,if_neg aD];congr 1;omega
   .rw [if_neg B];by_cases A:i=j
    .rw [if_pos A,if_pos aD,if_pos aD];simp only [Option.getD_some];rw [E,if_neg aD];congr 1;omega
    .rw [if_neg A,k];by_cases z:j<i\/xs.length - i<=j
     .rw [if_pos z,if_pos aD]
     .rw [if_neg z,if_neg aD]
  try simp [go_sem,seval,y,C,k,s,aA h,aA c,r,(aD:i≠xs.length - 1 - i)]
  repeat first|intro _|refine ⟨iI,?_⟩
  refine iW (i+1) aD ((g _ _ _).2 ⟨((b.set i (b[xs.length - 1 - i]?.getD 0)).set (xs.length - 1 - i) (b[i]?.getD 0)),?_,?_,?_,(by simp [go_sem,aA h,aA c]),(by intro j o;simp [go_sem,o,p j o]),(by simp [go_sem];omega),(by first|assumption|omega|(simp [go_sem,aA h,aA c,r];done)|(simp_all<;>omega)),(f)⟩)<;>first|omega|(simp [go_sem,seval,y]<;>omega)
 .try simp [go_sem] at k
  have:=Qm r aD q;subst this;try simp [go_sem,seval]
  exact I _ C p t
theorem PZ (t:Types)(F:t.ok)(l:t.a7)(a:Nat)(J:a<t.h.length):Pua 302 [t.d,dI a] (.list ((t.aw a).map cI)):=by
 have w:=l.ca;refine Tz.pK ⟨λt=>t==5,λ_=>[]⟩ func302 rfl (λQ A=>?_);have Y:=trivial;refine wv (h:=bC (λk e H=>∃ b:V2,(e 2=.adr t.c/\e 1=dI ((k:Int) - 1)/\e 5=.own 0 b.length)/\(H.get 0=some ⟨3,1,b.map cI,false⟩)/\(0<H.next)/\(k<=t.h.length)/\(b.length+k<=12)/\(KG t k++b.reverse=t.aw a)) (λk=>k) (a+1) ⟨([]),wg,wn,wn,wi,(by simp;omega),(by simp [KG])⟩ λK s k e H r=>?_);obtain ⟨b,C,g,i,G,I,j⟩:=r;have Y:=xa2 Y C g (cW i);refine dR (λx=>?_) λx=>?_
 .have hk0:0<k:=aD;have f:k - 1<t.h.length:=aD;have u:=l.C (k - 1) _ (aA f);have v:=l.ap (k - 1) _ (aA f);have o:((k:Int) - 1).toNat=k - 1:=aD;have z:=Am t (k - 1) f (l.au _);have q:KG t k=KG t (t.h[k - 1].C+1).toNat++[(k:Int) - 1]:=by
   unfold KG;grind
  have Y:=xa2 Y x o f;exact wo (h:=wx s ((t.h[k - 1].C+1).toNat) ⟨(b++[(k:Int) - 1]),wg,wn,wn,wj,(by simp;omega),(by rw [q] at j;rw [<- j];simp)⟩)
 .have hk0:k=0:=aD;subst hk0;have p:(t.aw a).length=b.length:=by rw [<- j];simp [KG]
  have n:(b.map cI).reverse=(t.aw a).map cI:=by rw [<- List.map_reverse,<- j];rfl
  refine wv (h:=?_);unfold f7;refine NN _ _ b g aD _ λL B _ _=>?_;exact wv (h:=A _ _ (by simp [go_sem,B,n,p]))
theorem GE (t:Types)(f:t.ok)(e:t.a7)(a b:Int)(i:0<=a)(j:a<t.h.length):Pua 232 [t.d,dI a,dI b] (.bool (mem (t.aw a.toNat) b)):=by
 have c:=PZ t f e a.toNat aD;rw [Int.toNat_of_nonneg i] at c;refine Tz.p0 func232 rfl λQ g Y=>?_;refine wv (h:=aB (c) wl ?_);refine wv (h:=aB (f6 _ _) wl ?_);exact wv (h:=g _ _ wy)
def pP (t:Types)(edge a b:Int):Bool:=decide (given2F t a b=0)&&(decide (0<=edge)&&decide (edge<t.j.length)) &&
 (mem (t.aw a.toNat) (match t.j[edge.toNat]? with|some x=>x.w|none=>0)&&mem (t.aw b.toNat) (match t.j[edge.toNat]? with|some x=>x.M|none=>0))
theorem sF {t:Types}{a b:Int}(h:given2F t a b=0):t.a7/\(0<=a/\a<t.h.length)/\(0<=b/\b<t.h.length):=by
 unfold given2F at h;split at h
 .rename_i h1;exact absurd h h1
 .rename_i h1;split at h
  .rename_i h2;simp [insideF] at h2;exact ⟨mX (bZ h1),h2.1,h2.2⟩
  .cases h
theorem GF (t:Types)(f:t.ok)(c a b:Int):Pua 145 [t.d,dI c,dI a,dI b] (.bool (pP t c a b)):=by
 refine Tz.p0 func145 rfl λQ j Y=>?_;refine wo (h:=aB (zP t f [a,b]) wl ?_);refine eJ (λe=>?_) λe=>?_
 .rw [KN] at e;exact wv (h:=j _ _ (by simp [go_sem,pP];intros;omega))
 .rw [KN] at e;obtain ⟨i,l,k⟩:=sF e.1.1;have g:c.toNat<t.j.length:=aD;have Y:=wa Y (aA g);refine wo (h:=aI (GE t f i _ _ l.1 l.2) wl ?_);refine wo (h:=dJ (λm=>GE t f i _ _ k.1 k.2) (λm=>wl) ?_);exact wo (h:=j _ _ (by simp [go_sem,pP,e]))
theorem wY (l:V2)(x b:Int):mem (l++[x]) b=(mem l b||decide (b=x)):=by
 rw [aT,c7,mem_iff,mem_iff];simp
theorem AP (b:Int):mem ([]:V2) b=false:=by rw [bK];intro h;rw [mem_iff] at h;cases h
theorem WK (t:Types)(a b:Int)(g:a<0)(f:0<=b):Pua 136 [t.d,dI a,dI b] (.bool false):=by
 refine Tz.p0 func136 rfl λQ e _=>?_;have Y:=wa (aD:¬ 0<=a) (aD:¬ a=b);refine wo (h:=?_);refine dJ (r:=.bool false) (λc=>by simp at c) (λc=>by simp at c) ?_;exact wo (h:=e _ _ wy)
theorem x8 (t:Types)(g:t.a7)(b:Int)(m:0<=b):∀ a:Nat,a<t.h.length->Pua 136 [t.d,dI a,dI b] (.bool (mem (t.aw a) b)):=by
 intro a;induction a using Nat.strongRecOn with
 | _ a ih =>
 intro c;have i:=g.C a _ (aA c);have e:=Am t a c (g.au a);have l:Pua 136 [t.d,dI t.h[a].C,dI b] (.bool (mem (if 0<=t.h[a].C then t.aw t.h[a].C.toNat else []) b)):=by
  by_cases j:0<=t.h[a].C
  .rw [if_pos j];grind
  .rw [if_neg j,AP];exact WK t _ _ aD m
 rw [e,wY];refine Tz.p0 func136 rfl λQ n _=>?_;have f:decide ((a:Int)=b)=decide (b=(a:Int)):=by rw [aT];simp;omega
 have Y:=wa (aA c) c;refine wo (h:=dJ (λk=>l) (λk=>wl) ?_);exact wo (h:=n _ _ (.inl (by simp only [go_sem,f,Bool.or_comm])))
theorem Hr (t:Types)(m:t.ok)(c a b:Int):Pua 74 [t.d,dI c,dI a,dI b] (.bool (pP t c a b)):=by
 have o:=m.e2;refine Tz.p0 func74 rfl λQ n Y=>?_;refine wo (h:=aB (EY t m a b) wl ?_);refine wo (h:=aH (λl=>oY _ _ _) (λl=>wl) ?_);refine wo (h:=bA (λj=>?_) (λj=>?_))
 .skip
  simp [inF] at j;exact wv (h:=n _ _ (by simp [go_sem,pP];intros;omega))
 .skip
  simp [inF] at j;obtain ⟨k,q,p⟩:=sF j.1;have f:c.toNat<t.j.length:=aD;have e:=k.eh _ (aC f);simp [insideF] at e;have i:=x8 t k t.j[c.toNat].w e.1.1 a.toNat aD;have g:=x8 t k t.j[c.toNat].M e.2.1 b.toNat aD;rw [Int.toNat_of_nonneg q.1] at i;rw [Int.toNat_of_nonneg p.1] at g;have Y:=wa Y (aA f);refine wo (h:=aI (i) wl ?_);refine wo (h:=dJ (λl=>g) (λl=>wl) ?_);exact wo (h:=n _ _ (by simp [go_sem,pP,j,aA f];omega))
attribute [go_sem] Slot.c Test.c Pattern.c Pattern.d Part.c Part.d Stage.c
theorem D8 {P:Program}{f:FuncId}{ty:TypeId}{sz:Nat}(g:Own P f [.nil] ty sz [])(m:Own P f [.ne] ty sz []):Own P f [.list []] ty sz []:=by
 refine ⟨g.1,λM w b e l=>?_⟩;obtain ⟨k,i⟩:=l;match b,k with
 | [v],_ =>
  have h:=i 0 v _ rfl rfl;cases h with
  | listN=>exact g.2 M w _ e ⟨rfl,λj u d a c=>by
    match j with
    | 0=>simp at a c;subst a;subst c;exact .nil
    | j+1=>simp at a⟩
  | list ad cap sz xs es hc hm=>exact m.2 M w _ e ⟨rfl,λj u d a c=>by
    match j with
    | 0=>simp at a c;subst a;subst c;exact .ne ad cap hm
    | j+1=>simp at a⟩
theorem Rb:Own prog 147 [.nil] 3 1 []:=by
 refine Tz.oK ⟨λt=>t==2||t==5,λ_=>[]⟩ func147 rfl (λQ a=>?_);have Y:=trivial;refine wv (h:=?_);exact a _ _ _ (by simp [go_sem]<;>first|omega|(rw [aT];simp<;>omega)|(simp_all<;>omega)) (by simp [go_sem]<;>first|omega|(rw [aT];simp<;>omega)|(simp_all<;>omega))
theorem Q9:Own prog 147 [.ne] 3 1 []:=by
 refine Tz.oK ⟨λt=>t==2||t==5,λ_=>[]⟩ func147 rfl (λQ a=>?_);have Y:=trivial;refine wo (h:=?_);exact a _ _ _ (by simp [go_sem]<;>first|omega|(rw [aT];simp<;>omega)|(simp_all<;>omega)) (by simp [go_sem]<;>first|omega|(rw [aT];simp<;>omega)|(simp_all<;>omega))
theorem Ra (l:V2)(c:l.length<=1000000)(a:l≠[]):Own prog 147 [.list (l.map cI)] 3 1 (l.map cI):=by
 refine Tz.oK ⟨λt=>t==2||t==5,λ_=>[]⟩ func147 rfl (λQ b=>?_);have Y:=a;refine wo (h:=?_);exact b _ _ _ (by simp [go_sem]<;>first|omega|(rw [aT];simp<;>omega)|(simp_all<;>omega)) (by simp [go_sem]<;>first|omega|(rw [aT];simp<;>omega)|(simp_all<;>omega))
theorem gG (l:V2)(b:l.length<=1000000):Own prog 147 [.list (l.map cI)] 3 1 (l.map cI):=by
 by_cases a:l=[]
 .subst a;exact D8 Rb Q9
 .exact Ra l b a
theorem Q8:Own prog 254 [.nil] 9 1 []:=by
 refine Tz.oK ⟨λt=>t==2||t==5,λ_=>[]⟩ func254 rfl (λQ a=>?_);have Y:=trivial;refine wv (h:=?_);exact a _ _ _ (by simp [go_sem]<;>first|omega|(rw [aT];simp<;>omega)|(simp_all<;>omega)) (by simp [go_sem]<;>first|omega|(rw [aT];simp<;>omega)|(simp_all<;>omega))
theorem Q6:Own prog 254 [.ne] 9 1 []:=by
 refine Tz.oK ⟨λt=>t==2||t==5,λ_=>[]⟩ func254 rfl (λQ a=>?_);have Y:=trivial;refine wo (h:=?_);exact a _ _ _ (by simp [go_sem]<;>first|omega|(rw [aT];simp<;>omega)|(simp_all<;>omega)) (by simp [go_sem]<;>first|omega|(rw [aT];simp<;>omega)|(simp_all<;>omega))
theorem Q7 (l:List ByteArray)(c:l.length<=1000000)(a:l≠[]):Own prog 254 [.list (l.map cS)] 9 1 (l.map cS):=by
 refine Tz.oK ⟨λt=>t==2||t==5,λ_=>[]⟩ func254 rfl (λQ b=>?_);have Y:=a;refine wo (h:=?_);exact b _ _ _ (by simp [go_sem]<;>first|omega|(rw [aT];simp<;>omega)|(simp_all<;>omega)) (by simp [go_sem]<;>first|omega|(rw [aT];simp<;>omega)|(simp_all<;>omega))
theorem TG (l:List ByteArray)(b:l.length<=1000000):Own prog 254 [.list (l.map cS)] 9 1 (l.map cS):=by
 by_cases a:l=[]
 .subst a;exact D8 Q8 Q6
 .exact Q7 l b a
def bQ (t:Types)(a:Int):List Attr:=if given2F t a a=0 then t.r a.toNat else []
theorem tI (t:Types)(a:Int):givenF t [a]=given2F t a a:=by
 unfold givenF given2F;cases b:insideF t a<;>simp [b]
theorem yI {t:Types}{a:Int}(h:given2F t a a=0):t.a7/\0<=a/\a<t.h.length:=⟨(sF h).1,(sF h).2.1⟩
theorem nO (t:Types)(l:t.ok)(a:Int):Pua 163 [t.d,dI a] (.tup [.list ((bQ t a).map Attr.c),dI (given2F t a a)]):=by
 refine Tz.p0 func163 rfl λQ r Y=>?_;refine wv (h:=aB (zP t l [a]) wl ?_);refine dR (λf=>?_) λf=>?_
 .rw [tI] at f;exact wv (h:=r _ _ (by simp [go_sem,tI,bQ,f]))
 .rw [tI] at f;obtain ⟨q,w,C⟩:=yI f;have j:=EH t l a.toNat aD (q.au _);rw [Int.toNat_of_nonneg w] at j;have m:∀ x∈t.r a.toNat,x.ok:=xN t.h l.h _ _;have v:=q.r a.toNat aD;refine wv (h:=lU (j) wl ?_);refine wo (h:=bC (λi e H=>(e 2=.adr t.c/\e 1=dI a/\e 7=.own 0 (t.r a.toNat).length/\e 20=dI (t.r a.toNat).length/\e 21=dI i)/\(H.get 0=some ⟨88,4,(t.r a.toNat).map Attr.c,false⟩)/\(0<H.next)/\(i<=(t.r a.toNat).length)) (λi=>(t.r a.toNat).length - i) 0 ⟨wg,(by simp [go_sem]),wn,wi⟩ λD o i e H n=>?_);obtain ⟨y,b,g,B⟩:=n;have Y:=xa2 Y y b (cW g);refine dR (λk=>?_) λk=>?_
  .have hset:((t.r a.toNat).map Attr.c).set i (((t.r a.toNat).map Attr.c)[i]'(bZ k))=(t.r a.toNat).map Attr.c:=List.set_getElem_self _;simp [go_sem] at hset;have Y:=wa Y k;refine wo (h:=aB ((TG (t.r a.toNat)[i].af (by have:=(m _ (aC k)).b5;omega)).pure) wl ?_);exact wo (h:=wx o (i+1) ⟨wg,(by simp [go_sem,hset]),wn,wj⟩)
  .exact wv (h:=r _ _ (by simp [go_sem,b,bQ,f]))
theorem pL (t:Types)(m:t.ok)(a:Int):Pua 15 [t.d,dI a] (.tup [.list ((bQ t a).map Attr.c),dI (given2F t a a)]):=by
 refine Tz.pK ⟨λt=>t==7||t==10||t==31||t==1000000,λ_=>[]⟩ func15 rfl (λQ r=>?_);have Y:=trivial;refine wv (h:=aB (EY t m a a) wl ?_);refine dR (λk=>?_) λk=>?_
 .exact wv (h:=r _ _ (by simp [go_sem,bQ,k]))
 .obtain ⟨q,y,D⟩:=yI k;have g:=E7 t m a.toNat aD (q.au _);rw [Int.toNat_of_nonneg y] at g;have n:∀ x∈t.r a.toNat,x.ok:=xN t.h m.h _ _;have v:=q.r a.toNat aD;refine wv (h:=aB (g) wl ?_);refine wv (h:=bC (λi e H=>(e 2=.adr t.c/\e 1=dI a/\e 7=.own 0 ((t.r a.toNat).take i).length/\e 8=.list ((t.r a.toNat).map Attr.c)/\e 9=dI i)/\(H.get 0=some ⟨88,4,((t.r a.toNat).take i).map Attr.c,false⟩)/\(0<H.next)/\(i<=(t.r a.toNat).length)) (λi=>(t.r a.toNat).length - i) 0 ⟨wg,(by simp [go_sem]),wn,wi⟩ λE p i e H o=>?_);obtain ⟨z,b,f,C⟩:=o;have Y:=xa2 Y z b (cW f);refine eJ (λj=>?_) λj=>?_
  .have hts:=List.take_succ_eq_append_getElem (l:=(t.r a.toNat).map Attr.c) (i:=i) (bZ j);simp [go_sem] at hts;have w:=(n _ (aC j)).b5;have Y:=wa Y j;exact wo (h:=wx p (i+1) ⟨wg,(by simp [go_sem,hts]),wn,wj⟩)
  .exact wv (h:=r _ _ (by simp [go_sem,b,bQ,k,(aD:i=(t.r a.toNat).length)]))
def lB (t:Types)(a:Int):V2:=if given2F t a a=0 then ((List.range t.h.length).filter λ(b:Nat)=>mem (t.aw b) a).map λ(b:Nat)=>(b:Int) else []
theorem dW (p:Nat->Bool)(i:Nat):((List.range (i+1)).filter p).map (λ(b:Nat)=>(b:Int))=((List.range i).filter p).map (λ(b:Nat)=>(b:Int))++(if p i=true then [(i:Int)] else []):=by
 rw [dO,fJ,List.map_append];grind
theorem Np (t:Types)(u:t.ok)(a:Int):Pua 377 [t.d,dI a] (.tup [dLI (lB t a),dI (given2F t a a)]):=by
 refine Tz.pK ⟨λt=>t==7,λ_=>[]⟩ func377 rfl (λQ v=>?_);have Y:=trivial;refine wv (h:=aB (zP t u [a]) wl ?_);refine dR (λj=>?_) λj=>?_
 .rw [tI] at j;exact wv (h:=v _ _ (by simp [go_sem,tI,lB,j]))
 .rw [tI] at j;obtain ⟨s,E,D⟩:=yI j;have C:=s.ca;refine wo (h:=bC (λi e H=>∃ g:V2,(e 2=.adr t.c/\e 1=dI a/\e 7=.own 0 g.length/\e 18=dI t.h.length/\e 19=dI i)/\(H.get 0=some ⟨3,1,g.map cI,false⟩)/\(0<H.next)/\(i<=t.h.length)/\(g.length<=i)/\(g=((List.range i).filter λ(b:Nat)=>mem (t.aw b) a).map (λ(b:Nat)=>(b:Int)))) (λi=>t.h.length - i) 0 ⟨([]),wg,wn,wn,wi,aE,(by rfl)⟩ λG m i e H o=>?_);obtain ⟨g,y,f,l,B,A,n⟩:=o;have Y:=xa2 Y y f (cW l);refine dR (λw=>?_) λw=>?_
  .have Y:=wa Y w;refine wv (h:=aB (GE t u s i a aD aD) wl ?_);refine dR (λp=>?_) λp=>?_
   .have Y:=wa Y p;exact wo (h:=wx m (i+1) ⟨(g++(if mem (t.aw i) a=true then [(i:Int)] else [])),wg,wn,wn,wj,(by rw [aQ];split<;>simp<;>omega),(by rw [dW,<- n])⟩)
   .have Y:=wa Y p;exact wo (h:=wx m (i+1) ⟨(g++(if mem (t.aw i) a=true then [(i:Int)] else [])),wg,wn,wn,wj,(by rw [aQ];split<;>simp<;>omega),(by rw [dW,<- n])⟩)
  .exact wv (h:=v _ _ (by simp [go_sem,f,lB,j];rw [n,(aD:i=t.h.length)];simp))
def g5 {α:Type}(f:α->Int):List α->Int
 | []=>0
 | x :: l=>if f x≠0 then f x else g5 f l
theorem lS {α:Type}(f:α->Int){l:List α}{i:Nat}(h:i<l.length):g5 f (l.drop i)=if f l[i]≠0 then f l[i] else g5 f (l.drop (i+1)):=by
 rw [fR h];rfl
theorem nA {α:Type}(f:α->Int){l:List α}{i:Nat}(h:¬ i<l.length):g5 f (l.drop i)=0:=by
 rw [iR aD];rfl
def termB (n:Int)(x:Term):Bool:=decide (-1<=x.O)&&decide (x.O<n)&&decide (-1000000<=x.add)&&decide (x.add<=1000000)
theorem y0 (n:Int)(x:Term):Pua 396 [dI n,.agg [dI x.O,dI x.add]] (.bool (termB n x)):=by
 refine Tz.p0 func396 rfl λQ a Y=>?_;have Y:=wa Y @termB.eq_1;exact wo (h:=a _ _ wy)
def uX (n:Int)(x:Test):Int:=if x.B≠1/\x.B≠2 then 1 else if (termB n x.left&&termB n x.right)=true then 0 else 6
theorem Io (n:Int)(x:Test):Pua 353 [dI n,.agg x.c] (dI (uX n x)):=by
 refine Tz.p0 func353 rfl λQ d Y=>?_;refine eJ (λg=>?_) λg=>?_
 .exact wv (h:=d _ _ (by simp [go_sem,uX];omega))
 .refine wo (h:=aB (y0 n x.left) wl ?_);refine wo (h:=aH (λf=>y0 n x.right) (λf=>wl) ?_);refine eJ (λe=>?_) λe=>?_
  .exact wv (h:=d _ _ (by revert e;cases b:termB n x.left<;>cases a:termB n x.right<;>simp [go_sem,uX,b,a]<;>omega))
  .exact wv (h:=d _ _ (by revert e;cases b:termB n x.left<;>cases a:termB n x.right<;>simp [go_sem,uX,b,a]<;>omega))
def lQ (n:Int)(l:List Test):Int:=if n<0\/12<n then 6 else if 40<l.length then 3 else g5 (uX n) l
theorem Eo (n:Int)(l:List Test):Pua 292 [dI n,.list (l.map Test.c)] (dI (lQ n l)):=by
 refine Tz.pK ⟨λt=>t==6,λ_=>[]⟩ func292 rfl (λQ a=>?_);have Y:=trivial;refine eJ (λo=>?_) λo=>?_
 .exact wv (h:=a _ _ (by simp [go_sem,lQ];omega))
 .refine eJ (λm=>?_) λm=>?_
  .exact wv (h:=a _ _ (by simp [go_sem,lQ];omega))
  .refine wo (h:=bC (λi e H=>(e 0=dI n/\e 17=.list (l.map Test.c)/\e 18=dI l.length/\e 19=dI i)/\(i<=l.length)/\(g5 (uX n) (l.drop i)=lQ n l)) (λi=>l.length - i) 0 ⟨wg,wi,(by rw [lQ,if_neg aD,if_neg aD];rfl)⟩ λu d i e H b=>?_);obtain ⟨p,s,j⟩:=b;have Y:=wa Y p;refine dR (λg=>?_) λg=>?_
   .have hst:=j;rw [lS _ g] at hst;have Y:=wa Y g;refine wo (h:=aB (Io n l[i]) wl ?_);refine eJ (λf=>?_) λf=>?_
    .exact wv (h:=a _ _ (by rw [if_pos (bZ f)] at hst;simp [go_sem,hst]))
    .exact wo (h:=wx d (i+1) ⟨wg,wj,(by rw [if_neg (by simp [f])] at hst;exact hst)⟩)
   .exact wv (h:=a _ _ (by rw [<- j,nA _ aD];simp [go_sem]))
def zO (n:Int)(x:Term):Int:=if termB n x=true then 0 else 6
theorem CO (n:Int)(x:Term):Pua 347 [dI n,.agg [dI x.O,dI x.add]] (dI (zO n x)):=by
 refine Tz.p0 func347 rfl λQ a Y=>?_;refine eJ (λb=>?_) λb=>?_
 .exact wv (h:=a _ _ (by simp [go_sem,zO,termB];omega))
 .exact wv (h:=a _ _ (by simp [go_sem,zO,termB];omega))
theorem SZ (n:Int)(x:Test):Pua 277 [dI n,.agg x.c] (dI (uX n x)):=by
 refine Tz.p0 func277 rfl λQ b Y=>?_;refine eJ (λg=>?_) λg=>?_
 .exact wv (h:=b _ _ (by simp [go_sem,uX];omega))
 .refine wv (h:=aB (CO n x.left) wl ?_);refine dR (λd=>?_) λd=>?_
  .exact wv (h:=b _ _ (by revert d;cases a:termB n x.left<;>simp [go_sem,uX,zO,a]<;>omega))
  .refine wv (h:=aB (CO n x.right) wl ?_);exact wv (h:=b _ _ (by revert d;cases a:termB n x.left<;>cases f:termB n x.right<;>simp [go_sem,uX,zO,a,f]<;>omega))
theorem Oo (n:Int)(l:List Test):Pua 203 [dI n,.list (l.map Test.c)] (dI (lQ n l)):=by
 refine Tz.p0 func203 rfl λQ a Y=>?_;refine eJ (λo=>?_) λo=>?_
 .exact wv (h:=a _ _ (by simp [go_sem,lQ];omega))
 .refine eJ (λm=>?_) λm=>?_
  .exact wv (h:=a _ _ (by simp [go_sem,lQ];omega))
  .refine wv (h:=bC (λi e H=>(e 0=dI n/\e 1=.list (l.map Test.c)/\e 5=dI i)/\(i<=l.length)/\(g5 (uX n) (l.drop i)=lQ n l)) (λi=>l.length - i) 0 ⟨wg,wi,(by rw [lQ,if_neg aD,if_neg aD];rfl)⟩ λt d i e H b=>?_);obtain ⟨p,s,j⟩:=b;have Y:=wa Y p;refine eJ (λg=>?_) λg=>?_
   .have hst:=j;rw [lS _ g] at hst;have Y:=wa Y g;refine wo (h:=aB (SZ n l[i]) wl ?_);refine eJ (λf=>?_) λf=>?_
    .exact wv (h:=a _ _ (by rw [if_pos (bZ f)] at hst;simp [go_sem,hst]))
    .exact wo (h:=wx d (i+1) ⟨wg,wj,(by rw [if_neg (by simp [f])] at hst;exact hst)⟩)
   .exact wv (h:=a _ _ (by rw [<- j,nA _ aD];simp [go_sem]))
theorem kC (n b a:Int):Pua 290 [dI n,dI b,dI a] (.bool (inF n b a)):=by
 refine Tz.p0 func290 rfl λQ c Y=>?_;have Y:=wa Y @inF.eq_1;exact wo (h:=c _ _ wy)
def nJ:Attr:=⟨⟨#[]⟩,0,0,[]⟩
def Pattern.B (p:Pattern)(node:Int):Int:=p.i.h[node.toNat]?.getD 0
def mI (t:Types)(p:Pattern)(node attr:Int):Bool:=decide (0<=node)&&decide (node<p.i.h.length)&&(decide (0<=attr)&&decide (attr<(bQ t (p.B node)).length))
def Ft (t:Types)(p:Pattern)(node attr:Int):Attr:=if mI t p node attr=true then (bQ t (p.B node))[attr.toNat]?.getD nJ else nJ
theorem rQ {t:Types}(c:t.ok)(a:Int):(bQ t a).length<=8:=by
 unfold bQ;split
 .rename_i h;obtain ⟨b,e,d⟩:=yI h;exact b.r _ aD
 .simp
theorem II (t:Types)(i:t.ok)(p:Pattern)(m:p.i.h.length<=1000)(s:Slot):Pua 291 [t.d,p.d,.agg s.c] (.tup [.agg (Ft t p s.node s.H).c,.bool (mI t p s.node s.H)]):=by
 have l:=rQ i (p.B s.node);refine Tz.pK ⟨λt=>t==6,λ_=>[]⟩ func291 rfl (λQ e=>?_);have Y:=trivial;refine wo (h:=aB (kC _ _ _) wl ?_);refine eJ (λg=>?_) λg=>?_
 .simp [inF] at g;have b:mI t p s.node s.H=false:=by rw [bK];intro h;simp [mI] at h;omega
  exact wv (h:=e _ _ (by simp [go_sem,Ft,b,nJ]))
 .simp [inF] at g;have j:s.node.toNat<p.i.h.length:=aD;have a:p.B s.node=p.i.h[s.node.toNat]:=by simp [Pattern.B,j]
  rw [a] at l;have Y:=xa1 Y (aA j) a;refine wo (h:=aI (nO t i p.i.h[s.node.toNat]) wl ?_);refine wo (h:=aB (kC _ _ _) wl ?_);refine eJ (λf=>?_) λf=>?_
  .simp [inF] at f;have b:mI t p s.node s.H=false:=by rw [bK];intro h;simp [mI,a] at h;omega
   exact wv (h:=e _ _ (by simp [go_sem,Ft,b,nJ]))
  .simp [inF] at f;have k:s.H.toNat<(bQ t p.i.h[s.node.toNat]).length:=aD;have b:mI t p s.node s.H=true:=by simp [mI,a];omega
   have Y:=wa Y (aA k);exact wo (h:=e _ _ (by simp [go_sem,Ft,b,a,aA k]))
def cB (b:Bool):UN:=[.bool b]
@[go_sem] theorem abS (l:List Bool):D.R (l.map cB)=true:=dY cB (λ_=>rfl) l
attribute [go_sem] cB
theorem QP (xs:List Bool)(v:Bool):Pua 354 [.list (xs.map cB),.bool v] (dI (idx xs v)):=by
 refine Tz.p0 func354 rfl λQ g Y=>?_;refine wv (h:=?_);repeat first|intro _|refine ⟨iI,?_⟩
 refine bC (λi e H=>(e 0=.list (xs.map cB)/\e 1=.bool v/\e 7=dI xs.length/\e 8=dI i)/\(i<=xs.length)/\(∀ j,j<i->xs[j]?≠some v)) (λi=>xs.length - i) 0 ⟨wg,wi,(by intro j l;omega)⟩ λr d i e H c=>?_;obtain ⟨n,q,a⟩:=c;have Y:=wa Y n;refine dR (λb=>?_) λb=>?_
 .have Y:=wa Y b;refine wv (h:=?_);refine wq (λf=>?_) λf=>?_
  .exact wv (h:=g _ _ (by rw [w4 a (by rw [aA b,f])];simp [go_sem]))
  .refine wv (h:=?_);repeat first|intro _|refine ⟨iI,?_⟩
   exact wx d (i+1) ⟨wg,wj,(lM a (by rw [aA b];simpa using λh=>f h.symm))⟩
 .exact wv (h:=g _ _ (by rw [Dd λj l=>a j aD];simp [go_sem]))
theorem JK (xs:List Bool)(v:Bool):Pua 293 [.list (xs.map cB),.bool v] (.bool (mem xs v)):=by
 refine Tz.p0 func293 rfl λQ a Y=>?_;refine wv (h:=aB (QP xs v) wl ?_);have Y:=wa Y @mem.eq_1;exact wv (h:=a _ _ wy)
def fV (t:Types)(g:Graph):Bool:=(!(g.h.any λn=>decide ((t.h.length:Int)<=n)))&&!(g.j.any λx=>decide ((t.j.length:Int)<=x.type))
theorem Ex (t:Types)(a:Int):Pua 287 [dI a,.adr t.c] (.bool (decide ((t.h.length:Int)<=a))):=by
 refine Tz.p0 func287 rfl λQ b Y=>?_;exact wo (h:=b _ _ wy)
theorem Ew (t:Types)(x:Edge):Pua 289 [.agg x.c,.adr t.c] (.bool (decide ((t.j.length:Int)<=x.type))):=by
 refine Tz.p0 func289 rfl λQ a Y=>?_;exact wo (h:=a _ _ wy)
def kP (n:Nat)(l:List Slot):List Bool:=(List.range n).map λ(v:Nat)=>l.any λs=>decide (s.y.O=v)
theorem DS (n:Nat)(l:List Slot):(kP n l).length=n:=by simp [kP]
theorem Sy (n:Nat):kP n []=List.replicate n false:=by
 apply e9 (by simp [kP]);intro i b a;simp [kP]
theorem Sx (n:Nat)(l:List Slot)(s:Slot)(g:0<=s.y.O)(f:s.y.O<n):kP n (l++[s])=(kP n l).set s.y.O.toNat true:=by
 apply e9 (by simp [kP]);intro i e d;simp only [kP,g9,qY,Cn,List.any_cons,List.any_nil,sL];grind
theorem Sz (n:Nat)(l:List Slot)(s:Slot)(d:¬ 0<=s.y.O):kP n (l++[s])=kP n l:=by
 simp only [kP,g9,qY,Cn,List.any_cons,List.any_nil,sL];grind
theorem PX (n:Nat)(l:List Slot)(s:Slot)(a:s.y.O<n):kP n (l++[s])=if 0<=s.y.O then (kP n l).set s.y.O.toNat true else kP n l:=by
 split
 .exact Sx n l s ‹_› a
 .exact Sz n l s ‹_›
def gX (t:Types)(p:Pattern)(s:Slot):Int:=if (mI t p s.node s.H&&inF s.y.O (-1) (p.vars - 1)&&inF s.y.add (-1000000) 1000000)=true then 0 else 6
def c8 (t:Types)(p:Pattern):Int :=
 if (dA t).2≠0 then (dA t).2
 else if graphF p.i≠0 then graphF p.i
 else if fV t p.i=false then 13
 else if inF p.vars 0 12=false then 6
 else if 10<p.o.length\/10<p.E.length then 3
 else if g5 (gX t p) p.o≠0 then 6
 else if lQ p.vars p.E≠0 then lQ p.vars p.E
 else if mem (kP p.vars.toNat p.o) false=true then 9 else 0
theorem bI {g:Graph}(h:graphF g=0):g.h.length<=40/\g.j.length<=80:=by grind [graphF]
theorem Ul {t:Types}{p:Pattern}{s:Slot}(h:gX t p s=0):s.y.O<p.vars/\-1<=s.y.O:=by grind [gX, inF]
theorem pA (t:Types)(ht:t.ok)(p:Pattern):Pure prog 225 [t.d,p.d] (dI (c8 t p)):=by
 refine Tz.pK ⟨fun t=>t==10||t==11,fun _=>[]⟩ func225 rfl (fun Q hQ=>?_);have Y:=trivial;refine wv (h:=aB (nM t ht) wl ?_);refine dR (fun h2=>?_) fun h2=>?_
 ·exact wv (h:=hQ _ _ (by simp [go_sem,c8,h2]))
 ·refine wv (h:=aB (nW p.i) wl ?_)
  refine dR (fun h5=>?_) fun h5=>?_
  ·exact wv (h:=hQ _ _ (by simp [go_sem,c8,h2,h5]))
  ·have hg:=bI h5
   refine wo (h:=aB (g7 p.i.h 287 [.adr t.c] (fun a=>decide ((t.h.length:Int)≤a)) (by simp [go_sem]) (by simp [go_sem]) (fun a _=>Ex t a)) wl ?_);refine wo (h:=aH (fun hg=>mT p.i.j 289 [.adr t.c] (fun x=>decide ((t.j.length:Int)≤x.type)) (by simp [go_sem]) (by simp [go_sem]) (fun x _=>Ew t x)) (fun hg=>wl) ?_);refine eJ (fun h7=>?_) fun h7=>?_
   ·have hT:fV t p.i=false:=by
     simp [fV];intro h';rcases h7 with ⟨x,hx,hl⟩|h
     ·exact absurd (h' x hx) (by omega)
     ·exact h
    exact wv (h:=hQ _ _ (by simp [go_sem,c8,h2,h5,hT]))
   ·have hT:fV t p.i=true:=by simp [fV];exact h7
    refine wo (h:=aB (kC _ _ _) wl ?_);refine eJ (fun h9=>?_) fun h9=>?_
    ·exact wv (h:=hQ _ _ (by simp [go_sem,c8,h2,h5,hT,h9]))
    ·refine eJ (fun h11=>?_) fun h11=>?_
     ·exact wv (h:=hQ _ _ (by simp [go_sem,c8,h2,h5,hT,h9];omega))
     ·have hin:=h9
      simp [inF] at hin;have hF0:c8 t p=if g5 (gX t p) p.o≠0 then 6 else if lQ p.vars p.E≠0 then lQ p.vars p.E else if mem (kP p.vars.toNat p.o) false=true then 9 else 0:=by
       unfold c8;rw [if_neg (by simp [h2]),if_neg (by simp [h5]),if_neg (by simp [hT]),if_neg (by simp [h9]),if_neg (by omega)]
      refine wo (h:=bC (fun i e H=>(e 2=.adr t.c∧e 3=.adr p.c∧e 8=.own 0 p.vars.toNat∧e 58=.list (p.o.map Slot.c)∧e 59=dI p.o.length∧e 60=dI i)∧(H.get 0=some ⟨4,1,(kP p.vars.toNat (p.o.take i)).map cB,false⟩)∧(0<H.next)∧(i≤p.o.length)∧(g5 (gX t p) (p.o.drop i)=g5 (gX t p) p.o)) (fun i=>p.o.length - i) 0 ⟨wg,(by (simp [go_sem,Sy])),wn,wi,(by rfl)⟩ fun I0 hI0 i e H hi0=>?_);obtain ⟨E0,g0_0,n0_0,hi,hL⟩:=hi0;have Y:=wa Y (wa E0 (wa g0_0 (wa (cW n0_0) @DS)));refine dR (fun h15=>?_) fun h15=>?_
      ·have hst:=lS (gX t p) h15
       have hts:=List.take_succ_eq_append_getElem h15;have Y:=wa Y h15;refine wo (h:=aB (II t ht p (by omega) p.o[i]) wl ?_);refine wo (h:=aH (fun hg=>kC _ _ _) (fun hg=>wl) ?_);refine wo (h:=aH (fun hg=>kC _ _ _) (fun hg=>wl) ?_);refine wo (h:=bA (fun h18=>?_) (fun h18=>?_))
       ·skip
        have hs6:gX t p p.o[i]=6:=by unfold gX;rw [if_neg];revert h18;cases mI t p p.o[i].node p.o[i].H<;>cases inF p.o[i].y.O (-1) (p.vars - 1)<;>cases inF p.o[i].y.add (-1000000) 1000000<;>simp
        rw [hs6,if_pos (by simp),hL] at hst;exact wv (h:=hQ _ _ (by simp [go_sem,hF0,hst]))
       ·skip
        have hs0:gX t p p.o[i]=0:=by unfold gX;rw [if_pos];revert h18;cases mI t p p.o[i].node p.o[i].H<;>cases inF p.o[i].y.O (-1) (p.vars - 1)<;>cases inF p.o[i].y.add (-1000000) 1000000<;>simp
        rw [hs0,if_neg (by simp),hL] at hst;have hlt:=Ul hs0;have hus:=PX p.vars.toNat (p.o.take i) p.o[i] (by omega);refine dR (fun h20=>?_) fun h20=>?_
        ·have hfin:kP p.vars.toNat (p.o.take (i+1))=(kP p.vars.toNat (p.o.take i)).set p.o[i].y.O.toNat true:=by rw [hts,hus,if_pos (by omega)]
         have hvl:p.o[i].y.O.toNat<(kP p.vars.toNat (p.o.take i)).length:=by rw [DS];omega
         have Y:=wa Y (aA hvl);exact wo (h:=wx hI0 (i+1) ⟨wg,(by (simp [go_sem,Y,dB,hfin])),wn,wj,(by (exact hst.symm))⟩)
        ·have hfin:kP p.vars.toNat (p.o.take (i+1))=kP p.vars.toNat (p.o.take i):=by rw [hts,hus,if_neg (by omega)]
         exact wo (h:=wx hI0 (i+1) ⟨wg,(by (simp [go_sem,Y,dB,hfin])),wn,wj,(by (exact hst.symm))⟩)
      ·have hU:List.take i p.o=p.o:=aG (by omega)
       have hz:g5 (gX t p) p.o=0:=by rw [← hL,nA _ (by omega)]
       rw [hU] at g0_0;rw [if_neg (by simp [hz])] at hF0;have Y:=wa E0 (wa g0_0 (wa (cW n0_0) @DS));refine wv (h:=aB (Eo p.vars p.E) wl ?_);refine dR (fun h24=>?_) fun h24=>?_
       ·exact wv (h:=hQ _ _ (by rw [hF0,if_pos (by simpa using h24)];simp [go_sem]))
       ·refine wv (h:=eH (JK (kP p.vars.toNat p.o) false) wr wl rfl ?_)
        refine dR (fun R1=>?_) fun R1=>?_
        ·exact wv (h:=hQ _ _ (by rw [hF0,if_neg (by simpa using h24),if_pos R1];simp [go_sem]))
        ·exact wv (h:=hQ _ _ (by rw [hF0,if_neg (by simpa using h24),if_neg (by simp [R1])];simp [go_sem]))
def pR (t:Types)(x:Edge):Bool:=decide (0<=x.type)&&decide (x.type<t.j.length)
def mR (t:Types)(g:Graph):Bool:=(!(g.h.any λa=>!insideF t a))&&!(g.j.any λx=>!pR t x)
theorem pB {α:Type}{l:List α}{p:α->Bool}{i:Nat}(h:(l.take i).any p=false)(a:l.length<=i):l.any p=false:=by
 rw [aG a] at h;exact h
theorem u6 (t:Types)(g:Graph):Pua 200 [t.d,g.d] (.bool (mR t g)):=by
 refine Tz.p0 func200 rfl λQ o Y=>?_;refine wv (h:=bC (λi e H=>(e 2=.adr t.c/\e 3=.adr g.c/\e 5=dI i)/\(i<=g.h.length)/\(((g.h.take i).any λa=>!insideF t a)=false)) (λi=>g.h.length - i) 0 ⟨wg,wi,(by rfl)⟩ λC q i e H m=>?_);obtain ⟨y,A,r⟩:=m;have Y:=wa Y y;refine wv (h:=?_);repeat first|intro _|refine ⟨iI,?_⟩
 refine wq (λf=>?_) λf=>?_
 .have Y:=wa Y f;refine eJ (λv=>?_) λv=>?_
  .refine wv (h:=?_);have j:(g.h.any λa=>!insideF t a)=true:=bB.2 ⟨_,aC f,by simp [insideF];omega⟩;exact o _ _ (.inl (by simp only [go_sem,mR,j,IW,Fz]))
  .exact wo (h:=wx q (i+1) ⟨wg,wj,(by rw [eE _ _ _ f,r];simp [insideF];omega)⟩)
 .have hN:=pB r f;refine wv (h:=bC (λk e H=>(e 2=.adr t.c/\e 3=.adr g.c/\e 6=dI k)/\(k<=g.j.length)/\(((g.j.take k).any λx=>!pR t x)=false)) (λk=>g.j.length - k) 0 ⟨wg,wi,(by rfl)⟩ λB p k e H l=>?_);obtain ⟨w,z,j⟩:=l;have Y:=wa Y w;refine wv (h:=?_);repeat first|intro _|refine ⟨iI,?_⟩
  refine wq (λb=>?_) λb=>?_
  .have Y:=wa Y b;refine eJ (λu=>?_) λu=>?_
   .refine wv (h:=?_);have n:(g.j.any λx=>!pR t x)=true:=bB.2 ⟨_,aC b,by simp [pR];omega⟩;exact o _ _ (.inl (by simp only [go_sem,mR,n,IW,Bool.and_false]))
   .exact wo (h:=wx p (k+1) ⟨wg,wj,(by rw [eE _ _ _ b,j];simp [pR];omega)⟩)
  .refine wv (h:=?_);have s:=pB j b;exact o _ _ (.inl (by simp only [go_sem,mR,hN,s,Bool.not_false,Bool.and_true]))
theorem Ln {α:Type}{l:List α}{p q:α->Bool}(h:∀ x∈l,p x=q x):l.any p=l.any q:=by grind
theorem dX {g:Graph}(h:graphF g=0):(∀ a∈g.h,0<=a/\a<=99)/\∀ x∈g.j,(0<=x.type/\x.type<=99)/\(0<=x.w/\x.w<g.h.length)/\(0<=x.M/\x.M<g.h.length):=by
 unfold graphF at h;split at h
 .cases h
 .split at h
  .cases h
  .rename_i h1;split at h
   .cases h
   .rename_i h2;simp [jB,vI] at h1 h2;grind
theorem q7 {t:Types}{g:Graph}(h:graphF g=0):mR t g=fV t g:=by
 obtain ⟨c,b⟩:=dX h;unfold mR fV;congr 2
 .exact Ln λx a=>by have:=c x a;rw [aT];simp [insideF];omega
 .exact Ln λx a=>by have:=b x a;rw [aT];simp [pR];omega
theorem Js (n:Int):Pua 202 [dI n] (.bool (inF n (-1000000) 1000000)):=by
 refine Tz.p0 func202 rfl λQ a Y=>?_;have Y:=wa Y @inF.eq_1;exact wo (h:=a _ _ wy)
theorem Rk {t:Types}{a:Int}(h:¬ given2F t a a=0):bQ t a=[]:=by unfold bQ;rw [if_neg h]
theorem Qs (t:Types)(i:t.ok)(p:Pattern)(a b:Int):Pua 201 [t.d,p.d,dI a,dI b] (.tup [.agg (Ft t p a b).c,.bool (mI t p a b)]):=by
 have k:=rQ i (p.B a);refine Tz.pK ⟨λt=>t==8,λ_=>[]⟩ func201 rfl (λQ g=>?_);have Y:=trivial;refine eJ (λm=>?_) λm=>?_
 .have f:mI t p a b=false:=by rw [bK];intro h;simp [mI] at h;omega
  exact wv (h:=g _ _ (by simp [go_sem,Ft,f,nJ]))
 .have hn:a.toNat<p.i.h.length:=aD;have e:p.B a=p.i.h[a.toNat]:=by simp [Pattern.B,hn]
  rw [e] at k;have Y:=xa1 Y (aA hn) e;refine wo (h:=aI (pL t i p.i.h[a.toNat]) wl ?_);refine eJ (λl=>?_) λl=>?_
  .have f:mI t p a b=false:=by
    rw [bK];intro h;simp [mI,e] at h;by_cases j:given2F t p.i.h[a.toNat] p.i.h[a.toNat]=0
    .omega
    .rw [Rk j] at h;simp at h;omega
   exact wv (h:=g _ _ (by simp [go_sem,Ft,f,nJ]))
  .have ha:b.toNat<(bQ t p.i.h[a.toNat]).length:=aD;have f:mI t p a b=true:=by simp [mI,e];omega
   have Y:=wa Y (aA ha);exact wo (h:=g _ _ (by simp [go_sem,Ft,f,e,aA ha]))
def kL (p:Pattern)(v:Int):Bool:=p.o.any λs=>decide (s.y.O=v)
theorem L4 (p:Pattern)(v:Int):Pua 204 [p.d,dI v] (.bool (kL p v)):=by
 refine Tz.p0 func204 rfl λQ l Y=>?_;refine wv (h:=bC (λi e H=>(e 2=.adr p.c/\e 1=dI v/\e 5=dI i)/\(i<=p.o.length)/\(((p.o.take i).any λs=>decide (s.y.O=v))=false)) (λi=>p.o.length - i) 0 ⟨wg,wi,(by rfl)⟩ λo g i e H b=>?_);obtain ⟨m,n,k⟩:=b;have Y:=wa Y m;refine wv (h:=?_);repeat first|intro _|refine ⟨iI,?_⟩
 refine wq (λa=>?_) λa=>?_
 .have Y:=wa Y a;refine eJ (λj=>?_) λj=>?_
  .refine wv (h:=?_);have f:kL p v=true:=bB.2 ⟨_,aC a,by simpa using j⟩;exact l _ _ (.inl (by simp only [go_sem,f]))
  .exact wo (h:=wx g (i+1) ⟨wg,wj,(by rw [eE _ _ _ a,k];simpa using j)⟩)
 .refine wv (h:=?_);have f:kL p v=false:=pB k a;exact l _ _ (.inl (by simp only [go_sem,f]))
theorem J0 (p:Pattern)(n:Nat):mem (kP n p.o) false=true↔∃ v:Nat,v<n/\kL p v=false:=by
 rw [mem_iff];simp only [kP,aX,aW,kL]
theorem u4 (t:Types)(F:t.ok)(p:Pattern):Pua 122 [t.d,p.d] (dI (c8 t p)):=by
 refine Tz.pK ⟨λt=>t==9||t==10,λ_=>[]⟩ func122 rfl (λQ b=>?_);have Y:=trivial;refine wv (h:=aB (pJ t F) wl ?_);refine dR (λm=>?_) λm=>?_
 .exact wv (h:=b _ _ (by simp [go_sem,c8,m]))
 .refine wv (h:=aB (mM p.i) wl ?_);refine dR (λg=>?_) λg=>?_
  .exact wv (h:=b _ _ (by simp [go_sem,c8,m,g]))
  .refine wo (h:=aB (u6 t p.i) wl ?_);refine eJ (λk=>?_) λk=>?_
   .rw [q7 g] at k;exact wv (h:=b _ _ (by simp [go_sem,c8,m,g,k]))
   .rw [q7 g] at k;refine eJ (λM=>?_) λM=>?_
    .exact wv (h:=b _ _ (by simp [go_sem,c8,m,g,k,inF];omega))
    .refine eJ (λC=>?_) λC=>?_
     .exact wv (h:=b _ _ (by simp [go_sem,c8,m,g,k,inF];omega))
     .have a:c8 t p=if g5 (gX t p) p.o≠0 then 6 else if lQ p.vars p.E≠0 then lQ p.vars p.E else if mem (kP p.vars.toNat p.o) false=true then 9 else 0:=by
       unfold c8;rw [if_neg (by simp [m]),if_neg (by simp [g]),if_neg (by simp [k]),if_neg (by simp [inF];omega),if_neg aD]
      refine wv (h:=bC (λi e H=>(e 2=.adr t.c/\e 3=.adr p.c/\e 8=dI i)/\(i<=p.o.length)/\(g5 (gX t p) (p.o.drop i)=g5 (gX t p) p.o)) (λi=>p.o.length - i) 0 ⟨wg,wi,(by rfl)⟩ λV B i e H y=>?_);obtain ⟨O,T,z⟩:=y;have Y:=wa Y O;refine eJ (λn=>?_) λn=>?_
      .have hst:=lS (gX t p) n;have Y:=wa Y n;refine wo (h:=aB (Qs t F p p.o[i].node p.o[i].H) wl ?_);refine wo (h:=aH (λL=>Js _) (λL=>wl) ?_);refine wo (h:=bA (λf=>?_) (λf=>?_))
       .skip
        have s:gX t p p.o[i]=6:=by
         unfold gX;rw [if_neg];intro h;simp [inF] at h;simp [h.1.1,inF] at f;omega
        rw [s,if_pos aE,z] at hst;exact wv (h:=b _ _ (by simp [go_sem,a,hst]))
       .skip
        have u:gX t p p.o[i]=0:=by
         unfold gX;rw [if_pos];simp [inF] at f ⊢;refine ⟨⟨f.1.1.1,?_⟩,?_⟩<;>omega
        rw [u,if_neg aE,z] at hst;exact wo (h:=wx B (i+1) ⟨wg,wj,(hst.symm)⟩)
      .have hz:g5 (gX t p) p.o=0:=by rw [<- z,nA _ aD]
       rw [if_neg (by simp [hz])] at a;refine wv (h:=aB (Oo p.vars p.E) wl ?_);refine dR (λl=>?_) λl=>?_
       .exact wv (h:=b _ _ (by rw [a,if_pos (bZ l)];simp [go_sem]))
       .rw [if_neg (bZ l)] at a;refine wv (h:=bC (λv e H=>(e 2=.adr t.c/\e 3=.adr p.c/\e 13=dI v)/\(v<=p.vars.toNat)/\(∀ j:Nat,j<v->kL p j=true)) (λv=>p.vars.toNat - v) 0 ⟨wg,wi,(by intro j S;omega)⟩ λU A v e H x=>?_);obtain ⟨N,R,G⟩:=x;have Y:=wa Y N;refine dR (λq=>?_) λq=>?_
        .have Y:=wa Y q;refine wo (h:=aB (L4 p v) wl ?_);refine eJ (λE=>?_) λE=>?_
         .exact wv (h:=b _ _ (by rw [a,if_pos ((J0 p _).2 ⟨v,aD,by simpa using E⟩)];simp [go_sem]))
         .exact wo (h:=wx A (v+1) ⟨wg,wj,(lM (p:=λj=>kL p j=true) G (bZ E))⟩)
        .refine wv (h:=?_);have K:¬ mem (kP p.vars.toNat p.o) false=true:=λh=>by
          obtain ⟨w,P,o⟩:=(J0 p _).1 h;rw [G w aD] at o;cases o
         exact b _ _ (by rw [a,if_neg K];simp [go_sem])
end Go.Abs
end
section
namespace Go.Proofs
open Go.Shelf
def Tryz.laysSort_ren:Go.Shelf.Ren:=⟨fun|189=>148|125=>235|257=>234|128=>312|129=>313|294=>303|295=>304|296=>305|297=>306|298=>307|299=>308|216=>309|300=>310|301=>311|328=>364|329=>365|330=>366|331=>367|332=>368|215=>369|343=>402|n=>n,fun|28=>26|3=>3|46=>284|0=>0|51=>346|53=>69|4=>4|183=>340|182=>339|131=>302|5=>5|9=>9|218=>385|222=>389|228=>414|229=>269|n=>n,fun|n=>n⟩
theorem Tryz.laysSort:Go.Proofs.Lays.n189 prog Tryz.laysSort_ren:={
 mixed:=by kernel_rfl
 f125:=func235.trans (congrArg some (by kernel_rfl))
 f128:=func312.trans (congrArg some (by kernel_rfl))
 f129:=func313.trans (congrArg some (by kernel_rfl))
 f189:=func148.trans (congrArg some (by kernel_rfl))
 f215:=func369.trans (congrArg some (by kernel_rfl))
 f216:=func309.trans (congrArg some (by kernel_rfl))
 f257:=func234.trans (congrArg some (by kernel_rfl))
 f294:=func303.trans (congrArg some (by kernel_rfl))
 f295:=func304.trans (congrArg some (by kernel_rfl))
 f296:=func305.trans (congrArg some (by kernel_rfl))
 f297:=func306.trans (congrArg some (by kernel_rfl))
 f298:=func307.trans (congrArg some (by kernel_rfl))
 f299:=func308.trans (congrArg some (by kernel_rfl))
 f300:=func310.trans (congrArg some (by kernel_rfl))
 f301:=func311.trans (congrArg some (by kernel_rfl))
 f328:=func364.trans (congrArg some (by kernel_rfl))
 f329:=func365.trans (congrArg some (by kernel_rfl))
 f330:=func366.trans (congrArg some (by kernel_rfl))
 f331:=func367.trans (congrArg some (by kernel_rfl))
 f332:=func368.trans (congrArg some (by kernel_rfl))
 f343:=func402.trans (congrArg some (by kernel_rfl))
 t0:=underlying0
 a0:=Tryz.isAgg0
 z0:=Tryz.sizeOf0
 v0:=Tryz.zeroValue0
 t3:=underlying3
 a3:=Tryz.isAgg3
 z3:=Tryz.sizeOf3
 v3:=Tryz.zeroValue3
 t4:=underlying4
 a4:=Tryz.isAgg4
 z4:=Tryz.sizeOf4
 v4:=Tryz.zeroValue4
 t5:=underlying5
 a5:=Tryz.isAgg5
 z5:=Tryz.sizeOf5
 v5:=Tryz.zeroValue5
 t9:=underlying9
 a9:=Tryz.isAgg9
 z9:=Tryz.sizeOf9
 v9:=Tryz.zeroValue9
 t28:=underlying26
 a28:=Tryz.isAgg26
 z28:=Tryz.sizeOf26
 v28:=Tryz.zeroValue26
 t46:=underlying284
 a46:=Tryz.isAgg284
 z46:=Tryz.sizeOf284
 v46:=Tryz.zeroValue284
 t51:=underlying346
 a51:=Tryz.isAgg346
 z51:=Tryz.sizeOf346
 v51:=Tryz.zeroValue346
 t53:=underlying69
 a53:=Tryz.isAgg69
 z53:=Tryz.sizeOf69
 v53:=Tryz.zeroValue69
 t131:=underlying302
 a131:=Tryz.isAgg302
 z131:=Tryz.sizeOf302
 v131:=Tryz.zeroValue302
 t182:=underlying339
 a182:=Tryz.isAgg339
 z182:=Tryz.sizeOf339
 v182:=Tryz.zeroValue339
 t183:=underlying340
 a183:=Tryz.isAgg340
 z183:=Tryz.sizeOf340
 v183:=Tryz.zeroValue340
 t218:=underlying385
 a218:=Tryz.isAgg385
 z218:=Tryz.sizeOf385
 v218:=Tryz.zeroValue385
 t222:=underlying389
 a222:=Tryz.isAgg389
 z222:=Tryz.sizeOf389
 v222:=Tryz.zeroValue389
 t228:=underlying414
 a228:=Tryz.isAgg414
 z228:=Tryz.sizeOf414
 v228:=Tryz.zeroValue414
 t229:=underlying269
 a229:=Tryz.isAgg269
 z229:=Tryz.sizeOf269
 v229:=Tryz.zeroValue269 }
def Tryz.laysCompact_ren:Go.Shelf.Ren:=⟨fun|20=>278|n=>n,fun|22=>26|3=>3|4=>4|0=>0|n=>n,fun|n=>n⟩
theorem Tryz.laysCompact:Go.Proofs.Lays2.n20 prog Tryz.laysCompact_ren:={
 mixed:=by kernel_rfl
 f20:=func278.trans (congrArg some (by kernel_rfl))
 t0:=underlying0
 a0:=Tryz.isAgg0
 z0:=Tryz.sizeOf0
 v0:=Tryz.zeroValue0
 t3:=underlying3
 a3:=Tryz.isAgg3
 z3:=Tryz.sizeOf3
 v3:=Tryz.zeroValue3
 t4:=underlying4
 a4:=Tryz.isAgg4
 z4:=Tryz.sizeOf4
 v4:=Tryz.zeroValue4
 t22:=underlying26
 a22:=Tryz.isAgg26
 z22:=Tryz.sizeOf26
 v22:=Tryz.zeroValue26
 i3:=by kernel_rfl }
end Go.Proofs
end
section
set_option maxRecDepth 4000
open Go Go.Proofs Go.Shelf Tryz
namespace Go.Abs
def iY (xs:V2):V2:=xs.mergeSort λx y=>decide (x<=y)
theorem kH (xs:V2):(iY xs).length=xs.length:=List.length_mergeSort xs
theorem zS {G:AHeap}{c:Nat}{ty:TypeId}{xs:V2}{Q:D->AHeap->Prop}(o:G.get c=some ⟨ty,1,xs.map cI,false⟩)(t:xs.length<=1000000)
  (q:Q (.tup []) (G.put c ⟨ty,1,(iY xs).map cI,false⟩)):ACalls prog 148 [.own c xs.length] G Q:=by
 refine PM ⟨Tryz.f148,func148,rfl,rfl⟩ o (kH xs) (λw v b=>?_) q;rcases b.2 with ⟨rfl,r⟩|⟨g,l,s,rfl,p,a,h,k,j,f⟩
 .have hx:xs=[]:=bJ r;subst hx;exact (Any.slices_Sort_int_none Tryz.laysSort none 0 w).mono λe m ⟨i,d⟩=>by
   subst d;exact ⟨i,⟨rfl,rfl,rfl,bF _,λ_ _ _=>rfl⟩,by simpa [Gf,iY] using b⟩
 .have hH:Sort.Holds (Value.int .i64) w g 0 xs.toArray:=holds_of_blockI a (bZ f);refine (Any.slices_Sort_int Tryz.laysSort g 0 l xs w hH (sU.1 a).1 aD).mono λe m ⟨i,n,os,d⟩=>?_;subst d;refine ⟨i,grownBy_sortedI _,?_⟩;have:=ownsRow_sortedI (n:=n) (os:=os) (ts:=iY xs) (kH xs) p a h k (bZ j);unfold Gf;rw [kH];exact this
theorem Cd (zs:V2):(Lib.compact zs).length<=zs.length:=by
 unfold Lib.compact Lib.compactUpTo;grind
theorem Az {G:AHeap}{f:Nat}{ty:TypeId}{xs:V2}{Q:D->AHeap->Prop}(t:G.get f=some ⟨ty,1,xs.map cI,false⟩)(A:xs.length<=1000000)
  (x:∀ k,Q (.list ((Lib.compact xs).map cI)) (G.put f k)):ACalls prog 278 [.own f xs.length] G Q:=by
 have p:=Cd xs;have c:(Lib.compact xs++List.replicate (xs.length - (Lib.compact xs).length) 0).length=xs.length:=by simp;omega
 refine MX (zs:=Lib.compact xs++List.replicate (xs.length - (Lib.compact xs).length) 0) (m:=(Lib.compact xs).length) ⟨Tryz.f278,func278,rfl,rfl⟩ t c p (λw v a=>?_) (by rw [List.take_left];exact x _);rcases a.2 with ⟨rfl,y⟩|⟨g,r,z,rfl,u,b,d,o,l,i⟩
 .have hx:xs=[]:=bJ y;subst hx;exact (Any.slices_Compact_int_empty Tryz.laysCompact none 0 w).mono λe s ⟨j,h⟩=>by
   subst h;exact ⟨⟨_,j,.inl ⟨rfl,rfl⟩⟩,⟨rfl,rfl,rfl,bF _,λ_ _ _=>rfl⟩,by simpa [Gf,Lib.compact,Lib.compactUpTo] using a⟩
 .have hH:Sort.Holds (Value.int .i64) w g 0 xs.toArray:=holds_of_blockI b (bZ i);refine (Any.slices_Compact_int Tryz.laysCompact g 0 r xs w hH aD d).mono λe s ⟨j,q,h⟩=>?_;subst h;refine ⟨⟨_,j,.inr ⟨_,_,_,rfl,rfl⟩⟩,?_,?_⟩
  .have:=grownBy_sortedI (w:=w) (g:=g) (n:=q) (os:=#[]) (Lib.compact xs++List.replicate (xs.length - (Lib.compact xs).length) 0).toArray;exact this
  .have:=ownsRow_sortedI (n:=q) (os:=#[]) (ts:=Lib.compact xs++List.replicate (xs.length - (Lib.compact xs).length) 0) c u b d o (bZ l);rw [Sort.grow_empty] at this;unfold Gf;grind
def imagesN (xs:V2):Nat:=(Lib.compact (iY xs)).length
theorem yX (xs:V2)(b:xs.length<=1000000):Pua 359 [dLI xs] (dI (imagesN xs)):=by
 have a:=kH xs;refine Tz.p0 func359 rfl λQ c Y=>?_;refine wv (h:=lU (gG xs b) wl ?_);refine wv (h:=?_);unfold f7;refine zS (ty:=3) (xs:=xs) (by simp [go_sem]) b ?_;refine wo (h:=?_);unfold f7;rw [show xs.length=(iY xs).length from a.symm];refine Az (ty:=3) (xs:=iY xs) (by simp [go_sem]) aD λk=>?_;have Y:=wa Y @imagesN.eq_1;exact wo (h:=c _ _ wy)
end Go.Abs
end
section
set_option maxRecDepth 100000
set_option maxHeartbeats 4000000
open Go Go.Proofs Tryz
namespace Go.Abs
theorem wL (xs:V2):(iY xs).Pairwise (·<=·):=by
 have:=List.pairwise_mergeSort (le:=λ(x y:Int)=>decide (x<=y)) (λa b c e d=>by simp at *;omega) (λa b=>by simp;omega) xs;exact this.imp λh=>by simpa using h
theorem Ap (xs:V2):imagesN xs=xs.length↔xs.Nodup:=by
 have f:(iY xs).Perm xs:=uP xs _;rw [<- f.nodup_iff,<- kH xs];unfold imagesN Lib.compact Lib.compactUpTo;rw [aR];have b:=dD.1 (wL xs);generalize iY xs=s at *;have d:(List.filter (Lib.keeps s.toArray) (List.range s.length)).length=s.length↔∀ j,j<s.length->Lib.keeps s.toArray j=true:=by
  have:=List.length_filter_eq_length_iff (p:=Lib.keeps s.toArray) (l:=List.range s.length);grind
 rw [d];have e:∀ j (a:j<s.length),Lib.keeps s.toArray j=true↔(j=0\/s[j]≠s[j - 1]' aD):=λj a=>by
  simp only [Lib.keeps,decide_eq_true_eq];grind
 constructor
 .intro h;rw [eR,dD];intro i j k a g;rcases (e j a).1 (h j a) with h0|h0
  .omega
  .have h1:=b (j - 1) j aD a aD;by_cases c:i=j - 1
   .subst c;omega
   .have h2:=b i (j - 1) k aD aD;omega
 .intro h j a;rw [e j a];by_cases h0:j=0
  .exact .inl h0
  .right
   intro m;have:=(jZ h).1 m;omega
def cY:Edge:=⟨0,0,0⟩
def lI (a b:Graph)(m:Part)(i:Nat):Int :=
 if m.h[i]?.getD 0<0\/(b.h.length:Int)<=m.h[i]?.getD 0 then 6
 else if b.h[(m.h[i]?.getD 0).toNat]?.getD 0≠a.h[i]?.getD 0 then 13 else 0
def mapEE (a b:Graph)(m:Part)(i:Nat):Int :=
 if m.j[i]?.getD 0<0\/(b.j.length:Int)<=m.j[i]?.getD 0 then 6
 else if (a.j[i]?.getD cY).type≠(b.j[(m.j[i]?.getD 0).toNat]?.getD cY).type then 13
 else if m.h[(a.j[i]?.getD cY).w.toNat]?.getD 0≠(b.j[(m.j[i]?.getD 0).toNat]?.getD cY).w\/m.h[(a.j[i]?.getD cY).M.toNat]?.getD 0≠(b.j[(m.j[i]?.getD 0).toNat]?.getD cY).M then 11 else 0
def eK (a b:Graph)(m:Part):Int :=
 if graphF a≠0 then graphF a
 else if graphF b≠0 then graphF b
 else if m.h.length≠a.h.length\/m.j.length≠a.j.length then 20
 else if bV (lI a b m) 0 a.h.length≠0 then bV (lI a b m) 0 a.h.length
 else bV (mapEE a b m) 0 a.j.length
theorem qH (a b:Graph)(m:Part):Pua 297 [a.d,b.d,m.d] (dI (eK a b m)):=by
 refine Tz.pK ⟨λt=>t==13||t==14,λr=>match r with|22=>[(0,10),(1,10),(3,10),(4,10),(5,10),(6,10),(8,10),(9,10),(0,11),(1,11),(3,11),(4,11),(5,11),(6,11),(8,11),(9,11),(10,11),(5,12),(6,12),(8,12),(9,12)]|_=>[]⟩ func297 rfl (λQ l=>?_);have Y:=trivial;refine wv (h:=aB (nW a) wl ?_);refine dR (λo=>?_) λo=>?_
 .exact wv (h:=l _ _ (.inl (by simp [go_sem,eK,o])))
 .refine wv (h:=aB (nW b) wl ?_);refine dR (λw=>?_) λw=>?_
  .exact wv (h:=l _ _ (.inl (by simp [go_sem,eK,o,w])))
  .refine eJ (λO=>?_) λO=>?_
   .exact wv (h:=l _ _ (.inl (by simp [go_sem,eK,o,w,(aD:m.h.length≠a.h.length\/m.j.length≠a.j.length)])))
   .have x:eK a b m=(if bV (lI a b m) 0 a.h.length≠0 then bV (lI a b m) 0 a.h.length else bV (mapEE a b m) 0 a.j.length):=by
     unfold eK;rw [if_neg (by simp [o]),if_neg (by simp [w]),if_neg aD]
    have N:=bI o;have M:=bI w;have z:=(dX o).2;refine wo (h:=bC (λi e H=>(e 3=.adr a.c/\e 4=.adr b.c/\e 5=.adr m.c/\e 42=dLI m.h/\e 43=dI m.h.length/\e 44=dI i)/\(i<=m.h.length)/\(bV (lI a b m) i (a.h.length - i)=bV (lI a b m) 0 a.h.length)) (λi=>m.h.length - i) 0 ⟨wg,wi,(by rfl)⟩ λW D i e H B=>?_);obtain ⟨R,U,I⟩:=B;have Y:=wa Y R;refine dR (λs=>?_) λs=>?_
    .have hn:i<a.h.length:=aD;have f:=fN (lI a b m) hn;rw [I] at f;have j:lI a b m i=(if m.h[i]<0\/(b.h.length:Int)<=m.h[i] then 6 else if b.h[m.h[i].toNat]?.getD 0≠a.h[i] then 13 else 0):=by simp only [lI,aA s,aA hn,Option.getD_some]
     have Y:=xa1 Y s hn;refine eJ (λG=>?_) λG=>?_
     .rw [if_pos aD] at j;rw [j,if_pos aD] at f;exact wv (h:=l _ _ (.inl (by simp [go_sem,x,f])))
     .have hkb:m.h[i].toNat<b.h.length:=aD;rw [if_neg aD,aA hkb,Option.getD_some] at j;have Y:=wa Y (aA hkb);refine eJ (λq=>?_) λq=>?_
      .rw [if_pos q] at j;rw [j,if_pos aD] at f;exact wv (h:=l _ _ (.inl (by simp [go_sem,x,f])))
      .rw [if_neg (bZ q)] at j;rw [j,if_neg aD] at f;exact wo (h:=wx D (i+1) ⟨wg,wj,(f.symm)⟩)
    .have hN0:bV (lI a b m) 0 a.h.length=0:=by rw [<- I,(aD:a.h.length - i=0)];rfl
     rw [hN0,if_neg aD] at x;refine wo (h:=bC (λk e H=>(e 3=.adr a.c/\e 4=.adr b.c/\e 5=.adr m.c/\e 71=dLI m.j/\e 72=dI m.j.length/\e 73=dI k)/\(k<=m.j.length)/\(bV (mapEE a b m) k (a.j.length - k)=eK a b m)) (λk=>m.j.length - k) 0 ⟨wg,wi,(x.symm)⟩ λV C k e H A=>?_);obtain ⟨P,T,J⟩:=A;have Y:=wa Y P;refine dR (λp=>?_) λp=>?_
     .have hn:k<a.j.length:=aD;have f:=fN (mapEE a b m) hn;rw [J] at f;have S:=z _ (aC hn);have v:a.j[k].w.toNat<m.h.length:=aD;have u:a.j[k].M.toNat<m.h.length:=aD;have g:mapEE a b m k=(if m.j[k]<0\/(b.j.length:Int)<=m.j[k] then 6 else if a.j[k].type≠(b.j[m.j[k].toNat]?.getD cY).type then 13 else if m.h[a.j[k].w.toNat]≠(b.j[m.j[k].toNat]?.getD cY).w\/m.h[a.j[k].M.toNat]≠(b.j[m.j[k].toNat]?.getD cY).M then 11 else 0):=by
       simp only [mapEE,aA p,aA hn,Option.getD_some,aA v,aA u]
      have Y:=xa3 Y p hn (aA v) (aA u);refine eJ (λF=>?_) λF=>?_
      .rw [if_pos aD] at g;rw [g,if_pos aD] at f;exact wv (h:=l _ _ (.inl (by simp [go_sem,<- f])))
      .have hkb:m.j[k].toNat<b.j.length:=aD;rw [if_neg aD,aA hkb,Option.getD_some] at g;have Y:=wa Y (aA hkb);refine eJ (λn=>?_) λn=>?_
       .rw [if_pos n] at g;rw [g,if_pos aD] at f;exact wv (h:=l _ _ (.inl (by simp [go_sem,<- f])))
       .rw [if_neg (bZ n)] at g;refine eJ (λE=>?_) λE=>?_
        .rw [if_pos aD] at g;rw [g,if_pos aD] at f;exact wv (h:=l _ _ (.inl (by simp [go_sem,<- f])))
        .rw [if_neg aD] at g;rw [g,if_neg aD] at f;exact wo (h:=wx C (k+1) ⟨wg,wj,(f.symm)⟩)
     .exact wv (h:=l _ _ (.inl (by rw [<- J,(aD:a.j.length - k=0)];rfl)))
def Ba (a b:Graph)(m:Part):Bool:=decide (eK a b m=0)&&(decide m.h.Nodup&&decide m.j.Nodup)
theorem kK {a b:Graph}{m:Part}(h:eK a b m=0):graphF a=0/\graphF b=0/\m.h.length=a.h.length/\m.j.length=a.j.length:=by grind [eK]
theorem KK (xs:V2):((imagesN xs:Int)==(xs.length:Int))=decide xs.Nodup:=by
 rw [aT];simp only [beq_iff_eq,decide_eq_true_eq];rw [<- Ap];omega
theorem t7 (a b:Graph)(m:Part)(g:m.h.length<=1000000)(f:m.j.length<=1000000):Pua 298 [a.d,b.d,m.d] (.bool (Ba a b m)):=by
 refine Tz.p0 func298 rfl λQ e _=>?_;have Y:=@KK;refine wo (h:=aI (qH a b m) wl ?_);refine wo (h:=dJ (λc=>yX m.h g) (λc=>wl) ?_);refine wo (h:=dJ (λc=>yX m.j f) (λc=>wl) ?_);exact wo (h:=e _ _ (by simp [go_sem,Ba,kY]))
end Go.Abs
end
