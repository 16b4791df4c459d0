/- Layer 4: lines of types, what fits. · Layer 4: attributes of -/
import Derived.Test.YtmaibfgcngmjhaaGreatZeAG
import Derived.Test.YtmaibfgcngmjhaaGreatZeAA
import Derived.Test.YtmaibfgcngmjhaaGreatZeAH
import Derived.Test.YtmaibfgcngmjhaaGreatZeAF
import Derived.Ground.NamesProg
import Derived.Ground.Names2Prog
import Derived.Ground.SlsfProg
import Derived.Shelf.Sort.Plain
import Derived.Shelf.Slices.CompactI
import Derived.Shelf.Slices.In.SortNone
import Derived.Shelf.SlSortCmp.NoneTotal
import Derived.Test.YtmaibfgcngmjhaaGreatProg
set_option linter.unusedVariables false
set_option linter.unusedSimpArgs false
section
set_option maxRecDepth 100000
set_option maxHeartbeats 4000000
open Go Go.Proofs Tryz
namespace Go.Abs
def L3 (t:Types)(k:Nat):Xa0:=if k=0 then [] else t.ao (k - 1)
theorem RI {xs a:Xa0}{i:Nat}(b:a.length=xs.length)(d:xs.length<=2 * i+1)(c:∀ j,j<xs.length->a[j]?=if j<i\/xs.length - i<=j then xs[xs.length - 1 - j]? else xs[j]?):a=xs.reverse:=by
 apply fC;grind
theorem O6 (G:AHeap)(d:Nat)(xs:Xa0)(w:G.get d=some ⟨3,1,xs.map cI,false⟩)(L:xs.length<=100000)(Q:D->AHeap->Prop)
  (I:∀ H',H'.get d=some ⟨3,1,xs.reverse.map cI,false⟩->(∀ j,j≠d->H'.get j=G.get j)->G.next<=H'.next->Q (.tup []) H'):ACalls prog 245 [.own d xs.length] G Q:=by
 refine (Tz.c0 func245 rfl ?_);try simp [go_sem,seval,w]
 repeat first|intro _|refine ⟨iV,?_⟩
 obtain ⟨x,g⟩:∃ x:Nat->dO->AHeap->Prop,∀ (i:Nat) (e:dO) (H:AHeap),x i e H↔(∃ b:Xa0,(e 0=.own d xs.length)/\(e 2=dI i)/\(e 3=dI ((xs.length:Int) - 1 - i))/\(H.get d=some ⟨3,1,b.map cI,false⟩)/\(∀ j,j≠d->H.get j=G.get j)/\(G.next<=H.next)/\(b.length=xs.length)/\(∀ j,j<xs.length->b[j]?=if j<i\/xs.length - i<=j then xs[xs.length - 1 - j]? else xs[j]?)):=⟨λi e H=>_,λ_ _ _=>Iff.rfl⟩;refine tI x (λi=>xs.length - i) (0) ((g _ _ _).2 ⟨(xs),?_,?_,?_,(w),(λ_ _=>rfl),(aT _),(by first|assumption|omega|(simp [go_sem,w];done)|(simp_all;done)),(by intro j h;simp;omega)⟩) ?_;iterate 3 (first|omega|(simp [go_sem,seval]<;>omega))
 intro i e H v;obtain ⟨b,n,m,l,C,p,t,r,q⟩:=(g _ _ _).1 v;have y:=xa1 n m l;try simp [go_sem,seval,y]
 refine aU (λk=>?_) (λk=>?_)
 .try simp [go_sem] at k
  have h:xs.length - 1 - i<b.length:=bL;have c:i<b.length:=bL;have s:((xs.length:Int) - 1 - i).toNat=xs.length - 1 - i:=bL;have f:∀ j,j<xs.length->((b.set i (b[xs.length - 1 - i]?.getD 0)).set (xs.length - 1 - i) (b[i]?.getD 0))[j]?=if j<i+1\/xs.length - (i+1)<=j then xs[xs.length - 1 - j]? else xs[j]?:=λj u=>by
   have k:=q j u;have F:=q i bL;have E:=q (xs.length - 1 - i) bL;rw [aA c] at F;rw [aA h] at E;rw [cT,cT,aA c,aA h];by_cases B:xs.length - 1 - i=j
   .rw [if_pos B,if_pos et,if_pos bL];simp only [aF];rw [F,if_neg bL];congr 1;omega
   .rw [if_neg B];by_cases A:i=j
    .rw [if_pos A,if_pos bL,if_pos bL];simp only [aF];rw [E,if_neg bL];congr 1;omega
    .rw [if_neg A,k];by_cases z:j<i\/xs.length - i<=j
     .rw [if_pos z,if_pos bL]
     .rw [if_neg z,if_neg bL]
  try simp [go_sem,seval,y,C,k,s,aA h,aA c,r,(bL:i≠xs.length - 1 - i)]
  repeat first|intro _|refine ⟨iV,?_⟩
  refine gU (i+1) bL ((g _ _ _).2 ⟨((b.set i (b[xs.length - 1 - i]?.getD 0)).set (xs.length - 1 - i) (b[i]?.getD 0)),?_,?_,?_,(by simp [go_sem,aA h,aA c]),(by intro j o;simp [go_sem,o,p j o]),eq,(by first|assumption|omega|(simp [go_sem,aA h,aA c,r];done)|(simp_all<;>omega)),(f)⟩)<;>first|omega|(simp [go_sem,seval,y]<;>omega)
 .try simp [go_sem] at k
  have:=RI r bL q;subst this;try simp [go_sem,seval]
  exact I _ C p t
theorem Rh (t:Types)(F:t.ok)(l:t.vl0)(a:Nat)(J:a<t.i.length):Pua 180 [t.d,dI a] (.list ((t.ao a).map cI)):=by
 have w:=l.bh;refine Tz.pK ⟨λt=>t==5,λ_=>[]⟩ func180 rfl (λQ A=>?_);have Y:=trivial;refine wv (h:=bA (λk e H=>∃ b:Xa0,(e 2=.adr t.c/\e 1=dI ((k:Int) - 1)/\e 5=.own 0 b.length)/\(H.get 0=some ⟨3,1,b.map cI,false⟩)/\(0<H.next)/\(k<=t.i.length)/\(b.length+k<=12)/\(L3 t k++b.reverse=t.ao a)) (λk=>k) (a+1) ⟨([]),wg,wn,wn,wi,et,(by simp [L3])⟩ λK s k e H r=>?_);obtain ⟨b,C,g,i,G,I,j⟩:=r;have Y:=xa2 Y C g (bU i);refine dD (λx=>?_) λx=>?_
 .have hk0:0<k:=bL;have f:k - 1<t.i.length:=bL;have u:=l.I (k - 1) _ (aA f);have v:=l.am (k - 1) _ (aA f);have o:((k:Int) - 1).toNat=k - 1:=bL;have z:=Bh t (k - 1) f (l.an _);have q:L3 t k=L3 t (t.i[k - 1].I+1).toNat++[(k:Int) - 1]:=by
   unfold L3;grind
  have Y:=xa2 Y x o f;exact wo (h:=wx s ((t.i[k - 1].I+1).toNat) ⟨(b++[(k:Int) - 1]),wg,wn,wn,wj,et,(by rw [q] at j;rw [<- j];simp)⟩)
 .have hk0:k=0:=bL;subst hk0;have p:(t.ao a).length=b.length:=by rw [<- j];simp [L3]
  have n:(b.map cI).reverse=(t.ao a).map cI:=by rw [<- List.map_reverse,<- j];rfl
  refine wv (h:=?_);unfold dQ;refine O6 _ _ b g bL _ λL B _ _=>?_;exact wv (h:=A _ _ (by simp [go_sem,B,n,p]))
theorem HL (t:Types)(f:t.ok)(e:t.vl0)(a b:Int)(i:0<=a)(j:a<t.i.length):Pua 107 [t.d,dI a,dI b] (.bool (mem (t.ao a.toNat) b)):=by
 have c:=Rh t f e a.toNat bL;rw [Int.toNat_of_nonneg i] at c;refine Tz.p0 func107 rfl λQ g Y=>?_;refine wv (h:=aB (c) wl ?_);refine wv (h:=aB (gX _ _) wl ?_);exact wv (h:=g _ _ wy)
def qF (t:Types)(edge a b:Int):Bool:=decide (given2F t a b=0)&&(decide (0<=edge)&&decide (edge<t.j.length)) &&
 (mem (t.ao a.toNat) (match t.j[edge.toNat]? with|some x=>x.from_|none=>0)&&mem (t.ao b.toNat) (match t.j[edge.toNat]? with|some x=>x.L|none=>0))
theorem sX {t:Types}{a b:Int}(h:given2F t a b=0):t.vl0/\(0<=a/\a<t.i.length)/\(0<=b/\b<t.i.length):=by
 unfold given2F at h;split at h
 .rename_i h1;exact absurd h h1
 .rename_i h1;split at h
  .rename_i h2;simp [insideF] at h2;exact ⟨pD (cG h1),h2.1,h2.2⟩
  .cases h
theorem HM (t:Types)(f:t.ok)(c a b:Int):Pua 52 [t.d,dI c,dI a,dI b] (.bool (qF t c a b)):=by
 refine Tz.p0 func52 rfl λQ j Y=>?_;refine wo (h:=aB (AQ t f [a,b]) wl ?_);refine dZ (λe=>?_) λe=>?_
 .rw [Ma] at e;exact wv (h:=j _ _ (by simp [go_sem,qF];intros;omega))
 .rw [Ma] at e;obtain ⟨i,l,k⟩:=sX e.1.1;have g:c.toNat<t.j.length:=bL;have Y:=wa Y (aA g);refine wo (h:=aJ (HL t f i _ _ l.1 l.2) wl ?_);refine wo (h:=b9 (λm=>HL t f i _ _ k.1 k.2) (λm=>wl) ?_);exact wo (h:=j _ _ (by simp [go_sem,qF,e]))
theorem yM (l:Xa0)(x b:Int):mem (l++[x]) b=(mem l b||decide (b=x)):=by
 rw [bB,cX,mem_iff,mem_iff];simp
theorem DR (b:Int):mem ([]:Xa0) b=false:=by rw [bP];intro h;rw [mem_iff] at h;cases h
theorem Y5 (t:Types)(a b:Int)(g:a<0)(f:0<=b):Pua 137 [t.d,dI a,dI b] (.bool false):=by
 refine Tz.p0 func137 rfl λQ e _=>?_;have Y:=wa (bL:¬ 0<=a) (bL:¬ a=b);refine wo (h:=?_);refine b9 (r:=.bool false) (λc=>by simp at c) (λc=>by simp at c) ?_;exact wo (h:=e _ _ wy)
theorem zR (t:Types)(g:t.vl0)(b:Int)(m:0<=b):∀ a:Nat,a<t.i.length->Pua 137 [t.d,dI a,dI b] (.bool (mem (t.ao a) b)):=by
 intro a;induction a using Nat.strongRecOn with
 | _ a ih =>
 intro c;have i:=g.I a _ (aA c);have e:=Bh t a c (g.an a);have l:Pua 137 [t.d,dI t.i[a].I,dI b] (.bool (mem (if 0<=t.i[a].I then t.ao t.i[a].I.toNat else []) b)):=by
  by_cases j:0<=t.i[a].I
  .rw [if_pos j];grind
  .rw [if_neg j,DR];exact Y5 t _ _ bL m
 rw [e,yM];refine Tz.p0 func137 rfl λQ n _=>?_;have f:decide ((a:Int)=b)=decide (b=(a:Int)):=by rw [bB];simp;omega
 have Y:=wa (aA c) c;refine wo (h:=b9 (λk=>l) (λk=>wl) ?_);exact wo (h:=n _ _ (.inl (by simp only [go_sem,f,Bool.or_comm])))
theorem ID (t:Types)(m:t.ok)(c a b:Int):Pua 70 [t.d,dI c,dI a,dI b] (.bool (qF t c a b)):=by
 have o:=m.cz;refine Tz.p0 func70 rfl λQ n Y=>?_;refine wo (h:=aB (Gl t m a b) wl ?_);refine wo (h:=aN (λl=>pF _ _ _) (λl=>wl) ?_);refine wo (h:=aU (λj=>?_) (λj=>?_))
 .skip
  simp [inF] at j;exact wv (h:=n _ _ (by simp [go_sem,qF];intros;omega))
 .skip
  simp [inF] at j;obtain ⟨k,q,p⟩:=sX j.1;have f:c.toNat<t.j.length:=bL;have e:=k.dt _ (aC f);simp [insideF] at e;have i:=zR t k t.j[c.toNat].from_ e.1.1 a.toNat bL;have g:=zR t k t.j[c.toNat].L e.2.1 b.toNat bL;rw [Int.toNat_of_nonneg q.1] at i;rw [Int.toNat_of_nonneg p.1] at g;have Y:=wa Y (aA f);refine wo (h:=aJ (i) wl ?_);refine wo (h:=b9 (λl=>g) (λl=>wl) ?_);exact wo (h:=n _ _ (by simp [go_sem,qF,j,aA f];omega))
attribute [go_sem] Slot.c Test.c Pattern.c Pattern.d Part.c Part.d Stage.c
theorem Fj {P:Program}{f:FuncId}{ty:TypeId}{sz:Nat}(g:Own P f [.nil] ty sz [])(m:Own P f [.ne] ty sz []):Own P f [.list []] ty sz []:=by
 refine ⟨g.1,λM w b e l=>?_⟩;obtain ⟨k,i⟩:=l;match b,k with
 | [v],_ =>
  have h:=i 0 v _ rfl rfl;cases h with
  | listN=>exact g.2 M w _ e ⟨rfl,λj u d a c=>by
    match j with
    | 0=>simp at a c;subst a;subst c;exact .nil
    | j+1=>simp at a⟩
  | list ad cap sz xs es hc hm=>exact m.2 M w _ e ⟨rfl,λj u d a c=>by
    match j with
    | 0=>simp at a c;subst a;subst c;exact .ne ad cap hm
    | j+1=>simp at a⟩
theorem SR:Own prog 55 [.nil] 3 1 []:=by
 refine Tz.oK ⟨λt=>t==2||t==5,λ_=>[]⟩ func55 rfl (λQ a=>?_);have Y:=trivial;refine wv (h:=?_);exact a _ _ _ ez ez
theorem SP:Own prog 55 [.ne] 3 1 []:=by
 refine Tz.oK ⟨λt=>t==2||t==5,λ_=>[]⟩ func55 rfl (λQ a=>?_);have Y:=trivial;refine wo (h:=?_);exact a _ _ _ ez ez
theorem SQ (l:Xa0)(c:l.length<=1000000)(a:l≠[]):Own prog 55 [.list (l.map cI)] 3 1 (l.map cI):=by
 refine Tz.oK ⟨λt=>t==2||t==5,λ_=>[]⟩ func55 rfl (λQ b=>?_);have Y:=a;refine wo (h:=?_);exact b _ _ _ ez ez
theorem jC (l:Xa0)(b:l.length<=1000000):Own prog 55 [.list (l.map cI)] 3 1 (l.map cI):=by
 by_cases a:l=[]
 .subst a;exact Fj SR SP
 .exact SQ l b a
theorem SO:Own prog 178 [.nil] 9 1 []:=by
 refine Tz.oK ⟨λt=>t==2||t==5,λ_=>[]⟩ func178 rfl (λQ a=>?_);have Y:=trivial;refine wv (h:=?_);exact a _ _ _ ez ez
theorem SM:Own prog 178 [.ne] 9 1 []:=by
 refine Tz.oK ⟨λt=>t==2||t==5,λ_=>[]⟩ func178 rfl (λQ a=>?_);have Y:=trivial;refine wo (h:=?_);exact a _ _ _ ez ez
theorem SN (l:List ByteArray)(c:l.length<=1000000)(a:l≠[]):Own prog 178 [.list (l.map cS)] 9 1 (l.map cS):=by
 refine Tz.oK ⟨λt=>t==2||t==5,λ_=>[]⟩ func178 rfl (λQ b=>?_);have Y:=a;refine wo (h:=?_);exact b _ _ _ ez ez
theorem VG (l:List ByteArray)(b:l.length<=1000000):Own prog 178 [.list (l.map cS)] 9 1 (l.map cS):=by
 by_cases a:l=[]
 .subst a;exact Fj SO SM
 .exact SN l b a
def bZ (t:Types)(a:Int):List Attr:=if given2F t a a=0 then t.w a.toNat else []
theorem uA (t:Types)(a:Int):givenF t [a]=given2F t a a:=by
 unfold givenF given2F;cases b:insideF t a<;>simp [b]
theorem zZ {t:Types}{a:Int}(h:given2F t a a=0):t.vl0/\0<=a/\a<t.i.length:=⟨(sX h).1,(sX h).2.1⟩
theorem sJ (t:Types)(l:t.ok)(a:Int):Pua 105 [t.d,dI a] (.tup [.list ((bZ t a).map Attr.c),dI (given2F t a a)]):=by
 refine Tz.p0 func105 rfl λQ r Y=>?_;refine wv (h:=aB (AQ t l [a]) wl ?_);refine dD (λf=>?_) λf=>?_
 .rw [uA] at f;exact wv (h:=r _ _ (by simp [go_sem,uA,bZ,f]))
 .rw [uA] at f;obtain ⟨q,w,C⟩:=zZ f;have j:=FZ t l a.toNat bL (q.an _);rw [Int.toNat_of_nonneg w] at j;have m:∀ x∈t.w a.toNat,x.ok:=zA t.i l.i _ _;have v:=q.w a.toNat bL;refine wv (h:=mT (j) wl ?_);refine wo (h:=bA (λi e H=>(e 2=.adr t.c/\e 1=dI a/\e 7=.own 0 (t.w a.toNat).length/\e 20=dI (t.w a.toNat).length/\e 21=dI i)/\(H.get 0=some ⟨107,4,(t.w a.toNat).map Attr.c,false⟩)/\(0<H.next)/\(i<=(t.w a.toNat).length)) (λi=>(t.w a.toNat).length - i) 0 ⟨wg,eh,wn,wi⟩ λD o i e H n=>?_);obtain ⟨y,b,g,B⟩:=n;have Y:=xa2 Y y b (bU g);refine dD (λk=>?_) λk=>?_
  .have hset:((t.w a.toNat).map Attr.c).set i (((t.w a.toNat).map Attr.c)[i]'(cG k))=(t.w a.toNat).map Attr.c:=List.set_getElem_self _;simp [go_sem] at hset;have Y:=wa Y k;refine wo (h:=aB ((VG (t.w a.toNat)[i].ae (by have:=(m _ (aC k)).bi;omega)).pure) wl ?_);exact wo (h:=wx o (i+1) ⟨wg,(eD hset),wn,wj⟩)
  .exact wv (h:=r _ _ (by simp [go_sem,b,bZ,f]))
theorem sP (t:Types)(m:t.ok)(a:Int):Pua 134 [t.d,dI a] (.tup [.list ((bZ t a).map Attr.c),dI (given2F t a a)]):=by
 refine Tz.pK ⟨λt=>t==7||t==10||t==31||t==1000000,λ_=>[]⟩ func134 rfl (λQ r=>?_);have Y:=trivial;refine wv (h:=aB (Gl t m a a) wl ?_);refine dD (λk=>?_) λk=>?_
 .exact wv (h:=r _ _ (by simp [go_sem,bZ,k]))
 .obtain ⟨q,y,D⟩:=zZ k;have g:=Gn t m a.toNat bL (q.an _);rw [Int.toNat_of_nonneg y] at g;have n:∀ x∈t.w a.toNat,x.ok:=zA t.i m.i _ _;have v:=q.w a.toNat bL;refine wv (h:=aB (g) wl ?_);refine wv (h:=bA (λi e H=>(e 2=.adr t.c/\e 1=dI a/\e 7=.own 0 ((t.w a.toNat).take i).length/\e 8=.list ((t.w a.toNat).map Attr.c)/\e 9=dI i)/\(H.get 0=some ⟨107,4,((t.w a.toNat).take i).map Attr.c,false⟩)/\(0<H.next)/\(i<=(t.w a.toNat).length)) (λi=>(t.w a.toNat).length - i) 0 ⟨wg,eh,wn,wi⟩ λE p i e H o=>?_);obtain ⟨z,b,f,C⟩:=o;have Y:=xa2 Y z b (bU f);refine dZ (λj=>?_) λj=>?_
  .have hts:=aD (l:=(t.w a.toNat).map Attr.c) (i:=i) (cG j);simp [go_sem] at hts;have w:=(n _ (aC j)).bi;have Y:=wa Y j;exact wo (h:=wx p (i+1) ⟨wg,(eD hts),wn,wj⟩)
  .exact wv (h:=r _ _ (by simp [go_sem,b,bZ,k,(bL:i=(t.w a.toNat).length)]))
def lF (t:Types)(a:Int):Xa0:=if given2F t a a=0 then ((List.range t.i.length).filter λ(b:Nat)=>mem (t.ao b) a).map λ(b:Nat)=>(b:Int) else []
theorem dP (p:Nat->Bool)(i:Nat):((List.range (i+1)).filter p).map (λ(b:Nat)=>(b:Int))=((List.range i).filter p).map (λ(b:Nat)=>(b:Int))++(if p i=true then [(i:Int)] else []):=by
 rw [c6,eU,List.map_append];grind
theorem OL (t:Types)(u:t.ok)(a:Int):Pua 366 [t.d,dI a] (.tup [dLI (lF t a),dI (given2F t a a)]):=by
 refine Tz.pK ⟨λt=>t==7,λ_=>[]⟩ func366 rfl (λQ v=>?_);have Y:=trivial;refine wv (h:=aB (AQ t u [a]) wl ?_);refine dD (λj=>?_) λj=>?_
 .rw [uA] at j;exact wv (h:=v _ _ (by simp [go_sem,uA,lF,j]))
 .rw [uA] at j;obtain ⟨s,E,D⟩:=zZ j;have C:=s.bh;refine wo (h:=bA (λi e H=>∃ g:Xa0,(e 2=.adr t.c/\e 1=dI a/\e 7=.own 0 g.length/\e 18=dI t.i.length/\e 19=dI i)/\(H.get 0=some ⟨3,1,g.map cI,false⟩)/\(0<H.next)/\(i<=t.i.length)/\(g.length<=i)/\(g=((List.range i).filter λ(b:Nat)=>mem (t.ao b) a).map (λ(b:Nat)=>(b:Int)))) (λi=>t.i.length - i) 0 ⟨([]),wg,wn,wn,wi,bS,(by rfl)⟩ λG m i e H o=>?_);obtain ⟨g,y,f,l,B,A,n⟩:=o;have Y:=xa2 Y y f (bU l);refine dD (λw=>?_) λw=>?_
  .have Y:=wa Y w;refine wv (h:=aB (HL t u s i a bL bL) wl ?_);refine dD (λp=>?_) λp=>?_
   .have Y:=wa Y p;exact wo (h:=wx m (i+1) ⟨(g++(if mem (t.ao i) a=true then [(i:Int)] else [])),wg,wn,wn,wj,eC,(by rw [dP,<- n])⟩)
   .have Y:=wa Y p;exact wo (h:=wx m (i+1) ⟨(g++(if mem (t.ao i) a=true then [(i:Int)] else [])),wg,wn,wn,wj,eC,(by rw [dP,<- n])⟩)
  .exact wv (h:=v _ _ (by simp [go_sem,f,lF,j];rw [n,(bL:i=t.i.length)];simp))
def iN {α:Type}(f:α->Int):List α->Int
 | []=>0
 | x :: l=>if f x≠0 then f x else iN f l
theorem lY {α:Type}(f:α->Int){l:List α}{i:Nat}(h:i<l.length):iN f (l.drop i)=if f l[i]≠0 then f l[i] else iN f (l.drop (i+1)):=by
 rw [List.drop_eq_getElem_cons h];rfl
theorem nC {α:Type}(f:α->Int){l:List α}{i:Nat}(h:¬ i<l.length):iN f (l.drop i)=0:=by
 rw [iX bL];rfl
def termB (n:Int)(x:Term):Bool:=decide (-1<=x.var)&&decide (x.var<n)&&decide (-1000000<=x.add)&&decide (x.add<=1000000)
theorem Am (n:Int)(x:Term):Pua 375 [dI n,.agg [dI x.var,dI x.add]] (.bool (termB n x)):=by
 refine Tz.p0 func375 rfl λQ a Y=>?_;have Y:=wa Y @termB.eq_1;exact wo (h:=a _ _ wy)
def vZ (n:Int)(x:Test):Int:=if x.kind≠1/\x.kind≠2 then 1 else if (termB n x.left&&termB n x.right)=true then 0 else 6
theorem JE (n:Int)(x:Test):Pua 331 [dI n,.agg x.c] (dI (vZ n x)):=by
 refine Tz.p0 func331 rfl λQ d Y=>?_;refine dZ (λg=>?_) λg=>?_
 .exact wv (h:=d _ _ (by simp [go_sem,vZ];omega))
 .refine wo (h:=aB (Am n x.left) wl ?_);refine wo (h:=aN (λf=>Am n x.right) (λf=>wl) ?_);refine dZ (λe=>?_) λe=>?_
  .exact wv (h:=d _ _ (by revert e;cases b:termB n x.left<;>cases a:termB n x.right<;>simp [go_sem,vZ,b,a]<;>omega))
  .exact wv (h:=d _ _ (by revert e;cases b:termB n x.left<;>cases a:termB n x.right<;>simp [go_sem,vZ,b,a]<;>omega))
def mE (n:Int)(l:List Test):Int:=if n<0\/12<n then 6 else if 40<l.length then 3 else iN (vZ n) l
theorem Fy (n:Int)(l:List Test):Pua 293 [dI n,.list (l.map Test.c)] (dI (mE n l)):=by
 refine Tz.pK ⟨λt=>t==6,λ_=>[]⟩ func293 rfl (λQ a=>?_);have Y:=trivial;refine dZ (λo=>?_) λo=>?_
 .exact wv (h:=a _ _ (by simp [go_sem,mE];omega))
 .refine dZ (λm=>?_) λm=>?_
  .exact wv (h:=a _ _ (by simp [go_sem,mE];omega))
  .refine wo (h:=bA (λi e H=>(e 0=dI n/\e 17=.list (l.map Test.c)/\e 18=dI l.length/\e 19=dI i)/\(i<=l.length)/\(iN (vZ n) (l.drop i)=mE n l)) (λi=>l.length - i) 0 ⟨wg,wi,(by rw [mE,if_neg bL,if_neg bL];rfl)⟩ λu d i e H b=>?_);obtain ⟨p,s,j⟩:=b;have Y:=wa Y p;refine dD (λg=>?_) λg=>?_
   .have hst:=j;rw [lY _ g] at hst;have Y:=wa Y g;refine wo (h:=aB (JE n l[i]) wl ?_);refine dZ (λf=>?_) λf=>?_
    .exact wv (h:=a _ _ (by rw [if_pos (cG f)] at hst;simp [go_sem,hst]))
    .exact wo (h:=wx d (i+1) ⟨wg,wj,(by rw [if_neg (fg f)] at hst;exact hst)⟩)
   .exact wv (h:=a _ _ (by rw [<- j,nC _ bL];simp [go_sem]))
def AP (n:Int)(x:Term):Int:=if termB n x=true then 0 else 6
theorem DG (n:Int)(x:Term):Pua 284 [dI n,.agg [dI x.var,dI x.add]] (dI (AP n x)):=by
 refine Tz.p0 func284 rfl λQ a Y=>?_;refine dZ (λb=>?_) λb=>?_
 .exact wv (h:=a _ _ (by simp [go_sem,AP,termB];omega))
 .exact wv (h:=a _ _ (by simp [go_sem,AP,termB];omega))
theorem UQ (n:Int)(x:Test):Pua 224 [dI n,.agg x.c] (dI (vZ n x)):=by
 refine Tz.p0 func224 rfl λQ b Y=>?_;refine dZ (λg=>?_) λg=>?_
 .exact wv (h:=b _ _ (by simp [go_sem,vZ];omega))
 .refine wv (h:=aB (DG n x.left) wl ?_);refine dD (λd=>?_) λd=>?_
  .exact wv (h:=b _ _ (by revert d;cases a:termB n x.left<;>simp [go_sem,vZ,AP,a]<;>omega))
  .refine wv (h:=aB (DG n x.right) wl ?_);exact wv (h:=b _ _ (by revert d;cases a:termB n x.left<;>cases f:termB n x.right<;>simp [go_sem,vZ,AP,a,f]<;>omega))
theorem Pz (n:Int)(l:List Test):Pua 156 [dI n,.list (l.map Test.c)] (dI (mE n l)):=by
 refine Tz.p0 func156 rfl λQ a Y=>?_;refine dZ (λo=>?_) λo=>?_
 .exact wv (h:=a _ _ (by simp [go_sem,mE];omega))
 .refine dZ (λm=>?_) λm=>?_
  .exact wv (h:=a _ _ (by simp [go_sem,mE];omega))
  .refine wv (h:=bA (λi e H=>(e 0=dI n/\e 1=.list (l.map Test.c)/\e 5=dI i)/\(i<=l.length)/\(iN (vZ n) (l.drop i)=mE n l)) (λi=>l.length - i) 0 ⟨wg,wi,(by rw [mE,if_neg bL,if_neg bL];rfl)⟩ λt d i e H b=>?_);obtain ⟨p,s,j⟩:=b;have Y:=wa Y p;refine dZ (λg=>?_) λg=>?_
   .have hst:=j;rw [lY _ g] at hst;have Y:=wa Y g;refine wo (h:=aB (UQ n l[i]) wl ?_);refine dZ (λf=>?_) λf=>?_
    .exact wv (h:=a _ _ (by rw [if_pos (cG f)] at hst;simp [go_sem,hst]))
    .exact wo (h:=wx d (i+1) ⟨wg,wj,(by rw [if_neg (fg f)] at hst;exact hst)⟩)
   .exact wv (h:=a _ _ (by rw [<- j,nC _ bL];simp [go_sem]))
theorem kJ (n b a:Int):Pua 291 [dI n,dI b,dI a] (.bool (inF n b a)):=by
 refine Tz.p0 func291 rfl λQ c Y=>?_;have Y:=wa Y @inF.eq_1;exact wo (h:=c _ _ wy)
def qN:Attr:=⟨⟨#[]⟩,0,0,[]⟩
def Pattern.kind (p:Pattern)(node:Int):Int:=p.o.i[node.toNat]?.getD 0
def mQ (t:Types)(p:Pattern)(node attr:Int):Bool:=decide (0<=node)&&decide (node<p.o.i.length)&&(decide (0<=attr)&&decide (attr<(bZ t (p.kind node)).length))
def GK (t:Types)(p:Pattern)(node attr:Int):Attr:=if mQ t p node attr=true then (bZ t (p.kind node))[attr.toNat]?.getD qN else qN
theorem r8 {t:Types}(c:t.ok)(a:Int):(bZ t a).length<=8:=by
 unfold bZ;split
 .rename_i h;obtain ⟨b,e,d⟩:=zZ h;exact b.w _ bL
 .simp
theorem JW (t:Types)(i:t.ok)(p:Pattern)(m:p.o.i.length<=1000)(s:Slot):Pua 292 [t.d,p.d,.agg s.c] (.tup [.agg (GK t p s.node s.Q).c,.bool (mQ t p s.node s.Q)]):=by
 have l:=r8 i (p.kind s.node);refine Tz.pK ⟨λt=>t==6,λ_=>[]⟩ func292 rfl (λQ e=>?_);have Y:=trivial;refine wo (h:=aB (kJ _ _ _) wl ?_);refine dZ (λg=>?_) λg=>?_
 .simp [inF] at g;have b:mQ t p s.node s.Q=false:=by rw [bP];intro h;simp [mQ] at h;omega
  exact wv (h:=e _ _ (by simp [go_sem,GK,b,qN]))
 .simp [inF] at g;have j:s.node.toNat<p.o.i.length:=bL;have a:p.kind s.node=p.o.i[s.node.toNat]:=by simp [Pattern.kind,j]
  rw [a] at l;have Y:=xa1 Y (aA j) a;refine wo (h:=aJ (sJ t i p.o.i[s.node.toNat]) wl ?_);refine wo (h:=aB (kJ _ _ _) wl ?_);refine dZ (λf=>?_) λf=>?_
  .simp [inF] at f;have b:mQ t p s.node s.Q=false:=by rw [bP];intro h;simp [mQ,a] at h;omega
   exact wv (h:=e _ _ (by simp [go_sem,GK,b,qN]))
  .simp [inF] at f;have k:s.Q.toNat<(bZ t p.o.i[s.node.toNat]).length:=bL;have b:mQ t p s.node s.Q=true:=by simp [mQ,a];omega
   have Y:=wa Y (aA k);exact wo (h:=e _ _ (by simp [go_sem,GK,b,a,aA k]))
def cB (b:Bool):Xa2:=[.bool b]
@[go_sem] theorem afT (l:List Bool):D.T (l.map cB)=true:=dL cB (λ_=>rfl) l
attribute [go_sem] cB
theorem Sj (xs:List Bool)(v:Bool):Pua 332 [.list (xs.map cB),.bool v] (dI (Ox xs v)):=by
 refine Tz.p0 func332 rfl λQ g Y=>?_;refine wv (h:=?_);repeat first|intro _|refine ⟨iV,?_⟩
 refine bA (λi e H=>(e 0=.list (xs.map cB)/\e 1=.bool v/\e 7=dI xs.length/\e 8=dI i)/\(i<=xs.length)/\(∀ j,j<i->xs[j]?≠some v)) (λi=>xs.length - i) 0 ⟨wg,wi,(by intro j l;omega)⟩ λr d i e H c=>?_;obtain ⟨n,q,a⟩:=c;have Y:=wa Y n;refine dD (λb=>?_) λb=>?_
 .have Y:=wa Y b;refine wv (h:=?_);refine wq (λf=>?_) λf=>?_
  .exact wv (h:=g _ _ (by rw [yQ a (by rw [aA b,f])];simp [go_sem]))
  .refine wv (h:=?_);repeat first|intro _|refine ⟨iV,?_⟩
   exact wx d (i+1) ⟨wg,wj,(lS a (by rw [aA b];simpa using λh=>f h.symm))⟩
 .exact wv (h:=g _ _ (by rw [DZ λj l=>a j bL];simp [go_sem]))
theorem KU (xs:List Bool)(v:Bool):Pua 294 [.list (xs.map cB),.bool v] (.bool (mem xs v)):=by
 refine Tz.p0 func294 rfl λQ a Y=>?_;refine wv (h:=aB (Sj xs v) wl ?_);have Y:=wa Y @mem.eq_1;exact wv (h:=a _ _ wy)
def iB (t:Types)(g:Graph):Bool:=(!(g.i.any λn=>decide ((t.i.length:Int)<=n)))&&!(g.j.any λx=>decide ((t.j.length:Int)<=x.type))
theorem FO (t:Types)(a:Int):Pua 289 [dI a,.adr t.c] (.bool (decide ((t.i.length:Int)<=a))):=by
 refine Tz.p0 func289 rfl λQ b Y=>?_;exact wo (h:=b _ _ wy)
theorem FN (t:Types)(x:Edge):Pua 290 [.agg x.c,.adr t.c] (.bool (decide ((t.j.length:Int)<=x.type))):=by
 refine Tz.p0 func290 rfl λQ a Y=>?_;exact wo (h:=a _ _ wy)
def lJ (n:Nat)(l:List Slot):List Bool:=(List.range n).map λ(v:Nat)=>l.any λs=>decide (s.E.var=v)
theorem EN (n:Nat)(l:List Slot):(lJ n l).length=n:=by simp [lJ]
theorem Ul (n:Nat):lJ n []=List.replicate n false:=by
 apply gF (by simp [lJ]);intro i b a;simp [lJ]
theorem Uk (n:Nat)(l:List Slot)(s:Slot)(g:0<=s.E.var)(f:s.E.var<n):lJ n (l++[s])=(lJ n l).set s.E.var.toNat true:=by
 apply gF (by simp [lJ]);intro i e d;simp only [lJ,vQ,rJ,xV,List.any_cons,List.any_nil,xW];grind
theorem Um (n:Nat)(l:List Slot)(s:Slot)(d:¬ 0<=s.E.var):lJ n (l++[s])=lJ n l:=by
 simp only [lJ,vQ,rJ,xV,List.any_cons,List.any_nil,xW];grind
theorem Rf (n:Nat)(l:List Slot)(s:Slot)(a:s.E.var<n):lJ n (l++[s])=if 0<=s.E.var then (lJ n l).set s.E.var.toNat true else lJ n l:=by
 split
 .exact Uk n l s ‹_› a
 .exact Um n l s ‹_›
def iM (t:Types)(p:Pattern)(s:Slot):Int:=if (mQ t p s.node s.Q&&inF s.E.var (-1) (p.vars - 1)&&inF s.E.add (-1000000) 1000000)=true then 0 else 6
def c7 (t:Types)(p:Pattern):Int :=
 if (cW t).2≠0 then (cW t).2
 else if graphF p.o≠0 then graphF p.o
 else if iB t p.o=false then 13
 else if inF p.vars 0 12=false then 6
 else if 10<p.q.length\/10<p.R.length then 3
 else if iN (iM t p) p.q≠0 then 6
 else if mE p.vars p.R≠0 then mE p.vars p.R
 else if mem (lJ p.vars.toNat p.q) false=true then 9 else 0
theorem bW {g:Graph}(h:graphF g=0):g.i.length<=40/\g.j.length<=80:=by grind [graphF]
theorem We {t:Types}{p:Pattern}{s:Slot}(h:iM t p s=0):s.E.var<p.vars/\-1<=s.E.var:=by grind [iM, inF]
theorem pO (t:Types)(ht:t.ok)(p:Pattern):Pure prog 233 [t.d,p.d] (dI (c7 t p)):=by
 refine Tz.pK ⟨fun t=>t==10||t==11,fun _=>[]⟩ func233 rfl (fun Q hQ=>?_);have Y:=trivial;refine wv (h:=aB (nY t ht) wl ?_);refine dD (fun h2=>?_) fun h2=>?_
 ·exact wv (h:=hQ _ _ (by simp [go_sem,c7,h2]))
 ·refine wv (h:=aB (oG p.o) wl ?_)
  refine dD (fun h5=>?_) fun h5=>?_
  ·exact wv (h:=hQ _ _ (by simp [go_sem,c7,h2,h5]))
  ·have hg:=bW h5
   refine wo (h:=aB (iF p.o.i 289 [.adr t.c] (fun a=>decide ((t.i.length:Int)≤a)) eh eh (fun a _=>FO t a)) wl ?_);refine wo (h:=aN (fun hg=>mS p.o.j 290 [.adr t.c] (fun x=>decide ((t.j.length:Int)≤x.type)) eh eh (fun x _=>FN t x)) (fun hg=>wl) ?_);refine dZ (fun h7=>?_) fun h7=>?_
   ·have hT:iB t p.o=false:=by
     simp [iB];intro h';rcases h7 with ⟨x,hx,hl⟩|h
     ·exact absurd (h' x hx) (by omega)
     ·exact h
    exact wv (h:=hQ _ _ (by simp [go_sem,c7,h2,h5,hT]))
   ·have hT:iB t p.o=true:=by simp [iB];exact h7
    refine wo (h:=aB (kJ _ _ _) wl ?_);refine dZ (fun h9=>?_) fun h9=>?_
    ·exact wv (h:=hQ _ _ (by simp [go_sem,c7,h2,h5,hT,h9]))
    ·refine dZ (fun h11=>?_) fun h11=>?_
     ·exact wv (h:=hQ _ _ (by simp [go_sem,c7,h2,h5,hT,h9];omega))
     ·have hin:=h9
      simp [inF] at hin;have hF0:c7 t p=if iN (iM t p) p.q≠0 then 6 else if mE p.vars p.R≠0 then mE p.vars p.R else if mem (lJ p.vars.toNat p.q) false=true then 9 else 0:=by
       unfold c7;rw [if_neg (fg h2),if_neg (fg h5),if_neg (fg hT),if_neg (fg h9),if_neg (by omega)]
      refine wo (h:=bA (fun i e H=>(e 2=.adr t.c∧e 3=.adr p.c∧e 8=.own 0 p.vars.toNat∧e 58=.list (p.q.map Slot.c)∧e 59=dI p.q.length∧e 60=dI i)∧(H.get 0=some ⟨4,1,(lJ p.vars.toNat (p.q.take i)).map cB,false⟩)∧(0<H.next)∧(i≤p.q.length)∧(iN (iM t p) (p.q.drop i)=iN (iM t p) p.q)) (fun i=>p.q.length - i) 0 ⟨wg,(by (simp [go_sem,Ul])),wn,wi,(by rfl)⟩ fun I0 hI0 i e H hi0=>?_);obtain ⟨E0,g0_0,n0_0,hi,hL⟩:=hi0;have Y:=wa Y (wa E0 (wa g0_0 (wa (bU n0_0) @EN)));refine dD (fun h15=>?_) fun h15=>?_
      ·have hst:=lY (iM t p) h15
       have hts:=aD h15;have Y:=wa Y h15;refine wo (h:=aB (JW t ht p (by omega) p.q[i]) wl ?_);refine wo (h:=aN (fun hg=>kJ _ _ _) (fun hg=>wl) ?_);refine wo (h:=aN (fun hg=>kJ _ _ _) (fun hg=>wl) ?_);refine wo (h:=aU (fun h18=>?_) (fun h18=>?_))
       ·skip
        have hs6:iM t p p.q[i]=6:=by unfold iM;rw [if_neg];revert h18;cases mQ t p p.q[i].node p.q[i].Q<;>cases inF p.q[i].E.var (-1) (p.vars - 1)<;>cases inF p.q[i].E.add (-1000000) 1000000<;>simp
        rw [hs6,if_pos (by simp),hL] at hst;exact wv (h:=hQ _ _ (fc hF0 hst))
       ·skip
        have hs0:iM t p p.q[i]=0:=by unfold iM;rw [if_pos];revert h18;cases mQ t p p.q[i].node p.q[i].Q<;>cases inF p.q[i].E.var (-1) (p.vars - 1)<;>cases inF p.q[i].E.add (-1000000) 1000000<;>simp
        rw [hs0,if_neg (by simp),hL] at hst;have hlt:=We hs0;have hus:=Rf p.vars.toNat (p.q.take i) p.q[i] (by omega);refine dD (fun h20=>?_) fun h20=>?_
        ·have hfin:lJ p.vars.toNat (p.q.take (i+1))=(lJ p.vars.toNat (p.q.take i)).set p.q[i].E.var.toNat true:=by rw [hts,hus,if_pos (by omega)]
         have hvl:p.q[i].E.var.toNat<(lJ p.vars.toNat (p.q.take i)).length:=by rw [EN];omega
         have Y:=wa Y (aA hvl);exact wo (h:=wx hI0 (i+1) ⟨wg,(by (simp [go_sem,Y,c8,hfin])),wn,wj,(by (exact hst.symm))⟩)
        ·have hfin:lJ p.vars.toNat (p.q.take (i+1))=lJ p.vars.toNat (p.q.take i):=by rw [hts,hus,if_neg (by omega)]
         exact wo (h:=wx hI0 (i+1) ⟨wg,(by (simp [go_sem,Y,c8,hfin])),wn,wj,(by (exact hst.symm))⟩)
      ·have hU:List.take i p.q=p.q:=aH (by omega)
       have hz:iN (iM t p) p.q=0:=by rw [← hL,nC _ (by omega)]
       rw [hU] at g0_0;rw [if_neg (fg hz)] at hF0;have Y:=wa E0 (wa g0_0 (wa (bU n0_0) @EN));refine wv (h:=aB (Fy p.vars p.R) wl ?_);refine dD (fun h24=>?_) fun h24=>?_
       ·exact wv (h:=hQ _ _ (by rw [hF0,if_pos (by simpa using h24)];simp [go_sem]))
       ·refine wv (h:=eF (KU (lJ p.vars.toNat p.q) false) wr wl rfl ?_)
        refine dD (fun h26=>?_) fun h26=>?_
        ·exact wv (h:=hQ _ _ (by rw [hF0,if_neg (by simpa using h24),if_pos h26];simp [go_sem]))
        ·exact wv (h:=hQ _ _ (by rw [hF0,if_neg (by simpa using h24),if_neg (fg h26)];simp [go_sem]))
def qG (t:Types)(x:Edge):Bool:=decide (0<=x.type)&&decide (x.type<t.j.length)
def nL (t:Types)(g:Graph):Bool:=(!(g.i.any λa=>!insideF t a))&&!(g.j.any λx=>!qG t x)
theorem oW {α:Type}{l:List α}{p:α->Bool}{i:Nat}(h:(l.take i).any p=false)(a:l.length<=i):l.any p=false:=by
 rw [aH a] at h;exact h
theorem wC (t:Types)(g:Graph):Pua 153 [t.d,g.d] (.bool (nL t g)):=by
 refine Tz.p0 func153 rfl λQ o Y=>?_;refine wv (h:=bA (λi e H=>(e 2=.adr t.c/\e 3=.adr g.c/\e 5=dI i)/\(i<=g.i.length)/\(((g.i.take i).any λa=>!insideF t a)=false)) (λi=>g.i.length - i) 0 ⟨wg,wi,(by rfl)⟩ λC q i e H m=>?_);obtain ⟨y,A,r⟩:=m;have Y:=wa Y y;refine wv (h:=?_);repeat first|intro _|refine ⟨iV,?_⟩
 refine wq (λf=>?_) λf=>?_
 .have Y:=wa Y f;refine dZ (λv=>?_) λv=>?_
  .refine wv (h:=?_);have j:(g.i.any λa=>!insideF t a)=true:=aZ.2 ⟨_,aC f,by simp [insideF];omega⟩;exact o _ _ (.inl (by simp only [go_sem,nL,j,CF,GS]))
  .exact wo (h:=wx q (i+1) ⟨wg,wj,(by rw [dS _ _ _ f,r];simp [insideF];omega)⟩)
 .have hN:=oW r f;refine wv (h:=bA (λk e H=>(e 2=.adr t.c/\e 3=.adr g.c/\e 6=dI k)/\(k<=g.j.length)/\(((g.j.take k).any λx=>!qG t x)=false)) (λk=>g.j.length - k) 0 ⟨wg,wi,(by rfl)⟩ λB p k e H l=>?_);obtain ⟨w,z,j⟩:=l;have Y:=wa Y w;refine wv (h:=?_);repeat first|intro _|refine ⟨iV,?_⟩
  refine wq (λb=>?_) λb=>?_
  .have Y:=wa Y b;refine dZ (λu=>?_) λu=>?_
   .refine wv (h:=?_);have n:(g.j.any λx=>!qG t x)=true:=aZ.2 ⟨_,aC b,by simp [qG];omega⟩;exact o _ _ (.inl (by simp only [go_sem,nL,n,CF,GT]))
   .exact wo (h:=wx p (k+1) ⟨wg,wj,(by rw [dS _ _ _ b,j];simp [qG];omega)⟩)
  .refine wv (h:=?_);have s:=oW j b;exact o _ _ (.inl (by simp only [go_sem,nL,hN,s,GR,CG]))
theorem MJ {α:Type}{l:List α}{p q:α->Bool}(h:∀ x∈l,p x=q x):l.any p=l.any q:=by grind
theorem eI {g:Graph}(h:graphF g=0):(∀ a∈g.i,0<=a/\a<=99)/\∀ x∈g.j,(0<=x.type/\x.type<=99)/\(0<=x.from_/\x.from_<g.i.length)/\(0<=x.L/\x.L<g.i.length):=by
 unfold graphF at h;split at h
 .cases h
 .split at h
  .cases h
  .rename_i h1;split at h
   .cases h
   .rename_i h2;simp [jI,wR] at h1 h2;grind
theorem rM {t:Types}{g:Graph}(h:graphF g=0):nL t g=iB t g:=by
 obtain ⟨c,b⟩:=eI h;unfold nL iB;congr 2
 .exact MJ λx a=>by have:=c x a;rw [bB];simp [insideF];omega
 .exact MJ λx a=>by have:=b x a;rw [bB];simp [qG];omega
theorem KB (n:Int):Pua 155 [dI n] (.bool (inF n (-1000000) 1000000)):=by
 refine Tz.p0 func155 rfl λQ a Y=>?_;have Y:=wa Y @inF.eq_1;exact wo (h:=a _ _ wy)
theorem S4 {t:Types}{a:Int}(h:¬ given2F t a a=0):bZ t a=[]:=by unfold bZ;rw [if_neg h]
theorem RQ (t:Types)(i:t.ok)(p:Pattern)(a b:Int):Pua 154 [t.d,p.d,dI a,dI b] (.tup [.agg (GK t p a b).c,.bool (mQ t p a b)]):=by
 have k:=r8 i (p.kind a);refine Tz.pK ⟨λt=>t==8,λ_=>[]⟩ func154 rfl (λQ g=>?_);have Y:=trivial;refine dZ (λm=>?_) λm=>?_
 .have f:mQ t p a b=false:=by rw [bP];intro h;simp [mQ] at h;omega
  exact wv (h:=g _ _ (by simp [go_sem,GK,f,qN]))
 .have hn:a.toNat<p.o.i.length:=bL;have e:p.kind a=p.o.i[a.toNat]:=by simp [Pattern.kind,hn]
  rw [e] at k;have Y:=xa1 Y (aA hn) e;refine wo (h:=aJ (sP t i p.o.i[a.toNat]) wl ?_);refine dZ (λl=>?_) λl=>?_
  .have f:mQ t p a b=false:=by
    rw [bP];intro h;simp [mQ,e] at h;by_cases j:given2F t p.o.i[a.toNat] p.o.i[a.toNat]=0
    .omega
    .rw [S4 j] at h;simp at h;omega
   exact wv (h:=g _ _ (by simp [go_sem,GK,f,qN]))
  .have ha:b.toNat<(bZ t p.o.i[a.toNat]).length:=bL;have f:mQ t p a b=true:=by simp [mQ,e];omega
   have Y:=wa Y (aA ha);exact wo (h:=g _ _ (by simp [go_sem,GK,f,e,aA ha]))
def kS (p:Pattern)(v:Int):Bool:=p.q.any λs=>decide (s.E.var=v)
theorem Nu (p:Pattern)(v:Int):Pua 157 [p.d,dI v] (.bool (kS p v)):=by
 refine Tz.p0 func157 rfl λQ l Y=>?_;refine wv (h:=bA (λi e H=>(e 2=.adr p.c/\e 1=dI v/\e 5=dI i)/\(i<=p.q.length)/\(((p.q.take i).any λs=>decide (s.E.var=v))=false)) (λi=>p.q.length - i) 0 ⟨wg,wi,(by rfl)⟩ λo g i e H b=>?_);obtain ⟨m,n,k⟩:=b;have Y:=wa Y m;refine wv (h:=?_);repeat first|intro _|refine ⟨iV,?_⟩
 refine wq (λa=>?_) λa=>?_
 .have Y:=wa Y a;refine dZ (λj=>?_) λj=>?_
  .refine wv (h:=?_);have f:kS p v=true:=aZ.2 ⟨_,aC a,by simpa using j⟩;exact l _ _ (.inl (by simp only [go_sem,f]))
  .exact wo (h:=wx g (i+1) ⟨wg,wj,(by rw [dS _ _ _ a,k];simpa using j)⟩)
 .refine wv (h:=?_);have f:kS p v=false:=oW k a;exact l _ _ (.inl (by simp only [go_sem,f]))
theorem Li (p:Pattern)(n:Nat):mem (lJ n p.q) false=true↔∃ v:Nat,v<n/\kS p v=false:=by
 rw [mem_iff];simp only [lJ,aS,bN,kS]
theorem wA (t:Types)(F:t.ok)(p:Pattern):Pua 85 [t.d,p.d] (dI (c7 t p)):=by
 refine Tz.pK ⟨λt=>t==9||t==10,λ_=>[]⟩ func85 rfl (λQ b=>?_);have Y:=trivial;refine wv (h:=aB (qC t F) wl ?_);refine dD (λm=>?_) λm=>?_
 .exact wv (h:=b _ _ (by simp [go_sem,c7,m]))
 .refine wv (h:=aB (mJ p.o) wl ?_);refine dD (λg=>?_) λg=>?_
  .exact wv (h:=b _ _ (by simp [go_sem,c7,m,g]))
  .refine wo (h:=aB (wC t p.o) wl ?_);refine dZ (λk=>?_) λk=>?_
   .rw [rM g] at k;exact wv (h:=b _ _ (by simp [go_sem,c7,m,g,k]))
   .rw [rM g] at k;refine dZ (λM=>?_) λM=>?_
    .exact wv (h:=b _ _ (by simp [go_sem,c7,m,g,k,inF];omega))
    .refine dZ (λC=>?_) λC=>?_
     .exact wv (h:=b _ _ (by simp [go_sem,c7,m,g,k,inF];omega))
     .have a:c7 t p=if iN (iM t p) p.q≠0 then 6 else if mE p.vars p.R≠0 then mE p.vars p.R else if mem (lJ p.vars.toNat p.q) false=true then 9 else 0:=by
       unfold c7;rw [if_neg (fg m),if_neg (fg g),if_neg (fg k),if_neg (by simp [inF];omega),if_neg bL]
      refine wv (h:=bA (λi e H=>(e 2=.adr t.c/\e 3=.adr p.c/\e 8=dI i)/\(i<=p.q.length)/\(iN (iM t p) (p.q.drop i)=iN (iM t p) p.q)) (λi=>p.q.length - i) 0 ⟨wg,wi,(by rfl)⟩ λV B i e H y=>?_);obtain ⟨O,T,z⟩:=y;have Y:=wa Y O;refine dZ (λn=>?_) λn=>?_
      .have hst:=lY (iM t p) n;have Y:=wa Y n;refine wo (h:=aB (RQ t F p p.q[i].node p.q[i].Q) wl ?_);refine wo (h:=aN (λL=>KB _) (λL=>wl) ?_);refine wo (h:=aU (λf=>?_) (λf=>?_))
       .skip
        have s:iM t p p.q[i]=6:=by
         unfold iM;rw [if_neg];intro h;simp [inF] at h;simp [h.1.1,inF] at f;omega
        rw [s,if_pos bS,z] at hst;exact wv (h:=b _ _ (fc a hst))
       .skip
        have u:iM t p p.q[i]=0:=by
         unfold iM;rw [if_pos];simp [inF] at f ⊢;refine ⟨⟨f.1.1.1,?_⟩,?_⟩<;>omega
        rw [u,if_neg bS,z] at hst;exact wo (h:=wx B (i+1) ⟨wg,wj,(hst.symm)⟩)
      .have hz:iN (iM t p) p.q=0:=by rw [<- z,nC _ bL]
       rw [if_neg (fg hz)] at a;refine wv (h:=aB (Pz p.vars p.R) wl ?_);refine dD (λl=>?_) λl=>?_
       .exact wv (h:=b _ _ (by rw [a,if_pos (cG l)];simp [go_sem]))
       .rw [if_neg (cG l)] at a;refine wv (h:=bA (λv e H=>(e 2=.adr t.c/\e 3=.adr p.c/\e 13=dI v)/\(v<=p.vars.toNat)/\(∀ j:Nat,j<v->kS p j=true)) (λv=>p.vars.toNat - v) 0 ⟨wg,wi,(by intro j S;omega)⟩ λU A v e H x=>?_);obtain ⟨N,R,G⟩:=x;have Y:=wa Y N;refine dD (λq=>?_) λq=>?_
        .have Y:=wa Y q;refine wo (h:=aB (Nu p v) wl ?_);refine dZ (λE=>?_) λE=>?_
         .exact wv (h:=b _ _ (by rw [a,if_pos ((Li p _).2 ⟨v,bL,by simpa using E⟩)];simp [go_sem]))
         .exact wo (h:=wx A (v+1) ⟨wg,wj,(lS (p:=λj=>kS p j=true) G (cG E))⟩)
        .refine wv (h:=?_);have K:¬ mem (lJ p.vars.toNat p.q) false=true:=λh=>by
          obtain ⟨w,P,o⟩:=(Li p _).1 h;rw [G w bL] at o;cases o
         exact b _ _ (by rw [a,if_neg K];simp [go_sem])
end Go.Abs
end
section
namespace Go.Proofs
open Go.Shelf
def Tryz.laysSort_ren:Go.Shelf.Ren:=⟨fun|189=>246|125=>66|257=>308|128=>128|129=>129|294=>349|295=>350|296=>351|297=>352|298=>353|299=>354|216=>322|300=>355|301=>356|328=>383|329=>199|330=>200|331=>384|332=>385|215=>119|343=>397|n=>n,fun|28=>27|3=>3|46=>145|0=>0|51=>197|53=>199|4=>4|183=>190|182=>189|131=>194|5=>5|9=>9|218=>264|222=>268|228=>322|229=>283|n=>n,fun|n=>n⟩
theorem Tryz.laysSort:Go.Proofs.Lays.n189 prog Tryz.laysSort_ren:={
 mixed:=by kernel_rfl
 f125:=func66.trans (congrArg some (by kernel_rfl))
 f128:=func128.trans (congrArg some (by kernel_rfl))
 f129:=func129.trans (congrArg some (by kernel_rfl))
 f189:=func246.trans (congrArg some (by kernel_rfl))
 f215:=func119.trans (congrArg some (by kernel_rfl))
 f216:=func322.trans (congrArg some (by kernel_rfl))
 f257:=func308.trans (congrArg some (by kernel_rfl))
 f294:=func349.trans (congrArg some (by kernel_rfl))
 f295:=func350.trans (congrArg some (by kernel_rfl))
 f296:=func351.trans (congrArg some (by kernel_rfl))
 f297:=func352.trans (congrArg some (by kernel_rfl))
 f298:=func353.trans (congrArg some (by kernel_rfl))
 f299:=func354.trans (congrArg some (by kernel_rfl))
 f300:=func355.trans (congrArg some (by kernel_rfl))
 f301:=func356.trans (congrArg some (by kernel_rfl))
 f328:=func383.trans (congrArg some (by kernel_rfl))
 f329:=func199.trans (congrArg some (by kernel_rfl))
 f330:=func200.trans (congrArg some (by kernel_rfl))
 f331:=func384.trans (congrArg some (by kernel_rfl))
 f332:=func385.trans (congrArg some (by kernel_rfl))
 f343:=func397.trans (congrArg some (by kernel_rfl))
 t0:=underlying0
 a0:=Tryz.isAgg0
 z0:=Tryz.sizeOf0
 v0:=Tryz.zeroValue0
 t3:=underlying3
 a3:=Tryz.isAgg3
 z3:=Tryz.sizeOf3
 v3:=Tryz.zeroValue3
 t4:=underlying4
 a4:=Tryz.isAgg4
 z4:=Tryz.sizeOf4
 v4:=Tryz.zeroValue4
 t5:=underlying5
 a5:=Tryz.isAgg5
 z5:=Tryz.sizeOf5
 v5:=Tryz.zeroValue5
 t9:=underlying9
 a9:=Tryz.isAgg9
 z9:=Tryz.sizeOf9
 v9:=Tryz.zeroValue9
 t28:=underlying27
 a28:=Tryz.isAgg27
 z28:=Tryz.sizeOf27
 v28:=Tryz.zeroValue27
 t46:=underlying145
 a46:=Tryz.isAgg145
 z46:=Tryz.sizeOf145
 v46:=Tryz.zeroValue145
 t51:=underlying197
 a51:=Tryz.isAgg197
 z51:=Tryz.sizeOf197
 v51:=Tryz.zeroValue197
 t53:=underlying199
 a53:=Tryz.isAgg199
 z53:=Tryz.sizeOf199
 v53:=Tryz.zeroValue199
 t131:=underlying194
 a131:=Tryz.isAgg194
 z131:=Tryz.sizeOf194
 v131:=Tryz.zeroValue194
 t182:=underlying189
 a182:=Tryz.isAgg189
 z182:=Tryz.sizeOf189
 v182:=Tryz.zeroValue189
 t183:=underlying190
 a183:=Tryz.isAgg190
 z183:=Tryz.sizeOf190
 v183:=Tryz.zeroValue190
 t218:=underlying264
 a218:=Tryz.isAgg264
 z218:=Tryz.sizeOf264
 v218:=Tryz.zeroValue264
 t222:=underlying268
 a222:=Tryz.isAgg268
 z222:=Tryz.sizeOf268
 v222:=Tryz.zeroValue268
 t228:=underlying322
 a228:=Tryz.isAgg322
 z228:=Tryz.sizeOf322
 v228:=Tryz.zeroValue322
 t229:=underlying283
 a229:=Tryz.isAgg283
 z229:=Tryz.sizeOf283
 v229:=Tryz.zeroValue283 }
def Tryz.laysCompact_ren:Go.Shelf.Ren:=⟨fun|20=>363|n=>n,fun|22=>27|3=>3|4=>4|0=>0|n=>n,fun|n=>n⟩
theorem Tryz.laysCompact:Go.Proofs.Lays2.n20 prog Tryz.laysCompact_ren:={
 mixed:=by kernel_rfl
 f20:=func363.trans (congrArg some (by kernel_rfl))
 t0:=underlying0
 a0:=Tryz.isAgg0
 z0:=Tryz.sizeOf0
 v0:=Tryz.zeroValue0
 t3:=underlying3
 a3:=Tryz.isAgg3
 z3:=Tryz.sizeOf3
 v3:=Tryz.zeroValue3
 t4:=underlying4
 a4:=Tryz.isAgg4
 z4:=Tryz.sizeOf4
 v4:=Tryz.zeroValue4
 t22:=underlying27
 a22:=Tryz.isAgg27
 z22:=Tryz.sizeOf27
 v22:=Tryz.zeroValue27
 i3:=by kernel_rfl }
def Tryz.laysSortF_ren:Go.Shelf.Ren:=⟨fun|6=>29|15=>66|14=>65|28=>128|29=>129|20=>120|21=>121|22=>122|23=>123|24=>124|25=>125|26=>126|27=>127|46=>198|47=>199|48=>200|49=>201|50=>202|57=>265|n=>n,fun|22=>39|24=>81|25=>83|3=>3|39=>145|0=>0|53=>197|55=>199|4=>4|46=>190|45=>189|50=>194|5=>5|9=>9|66=>264|70=>268|76=>322|77=>283|n=>n,fun|n=>n⟩
theorem Tryz.laysSortF:Go.Proofs.SlLaysF0.n6 prog Tryz.laysSortF_ren:={
 mixed:=by kernel_rfl
 f6:=⟨Tryz.f29.name,by decide,func29.trans (congrArg some (by kernel_rfl))⟩
 f14:=⟨Tryz.f65.name,by decide,func65.trans (congrArg some (by kernel_rfl))⟩
 f15:=func66.trans (congrArg some (by kernel_rfl))
 f20:=⟨Tryz.f120.name,by decide,func120.trans (congrArg some (by kernel_rfl))⟩
 f21:=⟨Tryz.f121.name,by decide,func121.trans (congrArg some (by kernel_rfl))⟩
 f22:=⟨Tryz.f122.name,by decide,func122.trans (congrArg some (by kernel_rfl))⟩
 f23:=⟨Tryz.f123.name,by decide,func123.trans (congrArg some (by kernel_rfl))⟩
 f24:=⟨Tryz.f124.name,by decide,func124.trans (congrArg some (by kernel_rfl))⟩
 f25:=⟨Tryz.f125.name,by decide,func125.trans (congrArg some (by kernel_rfl))⟩
 f26:=⟨Tryz.f126.name,by decide,func126.trans (congrArg some (by kernel_rfl))⟩
 f27:=⟨Tryz.f127.name,by decide,func127.trans (congrArg some (by kernel_rfl))⟩
 f28:=func128.trans (congrArg some (by kernel_rfl))
 f29:=func129.trans (congrArg some (by kernel_rfl))
 f46:=⟨Tryz.f198.name,by decide,func198.trans (congrArg some (by kernel_rfl))⟩
 f47:=func199.trans (congrArg some (by kernel_rfl))
 f48:=func200.trans (congrArg some (by kernel_rfl))
 f49:=⟨Tryz.f201.name,by decide,func201.trans (congrArg some (by kernel_rfl))⟩
 f50:=⟨Tryz.f202.name,by decide,func202.trans (congrArg some (by kernel_rfl))⟩
 f57:=⟨Tryz.f265.name,by decide,func265.trans (congrArg some (by kernel_rfl))⟩
 t0:=underlying0
 a0:=Tryz.isAgg0
 z0:=Tryz.sizeOf0
 v0:=Tryz.zeroValue0
 t3:=underlying3
 a3:=Tryz.isAgg3
 z3:=Tryz.sizeOf3
 v3:=Tryz.zeroValue3
 t4:=underlying4
 a4:=Tryz.isAgg4
 z4:=Tryz.sizeOf4
 v4:=Tryz.zeroValue4
 t5:=underlying5
 a5:=Tryz.isAgg5
 z5:=Tryz.sizeOf5
 v5:=Tryz.zeroValue5
 t9:=underlying9
 a9:=Tryz.isAgg9
 z9:=Tryz.sizeOf9
 v9:=Tryz.zeroValue9
 t22:=underlying39
 a22:=Tryz.isAgg39
 z22:=Tryz.sizeOf39
 v22:=Tryz.zeroValue39
 t25:=underlying83
 a25:=Tryz.isAgg83
 z25:=Tryz.sizeOf83
 v25:=Tryz.zeroValue83
 t39:=underlying145
 a39:=Tryz.isAgg145
 z39:=Tryz.sizeOf145
 v39:=Tryz.zeroValue145
 t45:=underlying189
 a45:=Tryz.isAgg189
 z45:=Tryz.sizeOf189
 v45:=Tryz.zeroValue189
 t46:=underlying190
 a46:=Tryz.isAgg190
 z46:=Tryz.sizeOf190
 v46:=Tryz.zeroValue190
 t50:=underlying194
 a50:=Tryz.isAgg194
 z50:=Tryz.sizeOf194
 v50:=Tryz.zeroValue194
 t53:=underlying197
 a53:=Tryz.isAgg197
 z53:=Tryz.sizeOf197
 v53:=Tryz.zeroValue197
 t55:=underlying199
 a55:=Tryz.isAgg199
 z55:=Tryz.sizeOf199
 v55:=Tryz.zeroValue199
 t66:=underlying264
 a66:=Tryz.isAgg264
 z66:=Tryz.sizeOf264
 v66:=Tryz.zeroValue264
 t70:=underlying268
 a70:=Tryz.isAgg268
 z70:=Tryz.sizeOf268
 v70:=Tryz.zeroValue268
 t76:=underlying322
 a76:=Tryz.isAgg322
 z76:=Tryz.sizeOf322
 v76:=Tryz.zeroValue322
 t77:=underlying283
 a77:=Tryz.isAgg283
 z77:=Tryz.sizeOf283
 v77:=Tryz.zeroValue283 }
end Go.Proofs
end
section
set_option maxRecDepth 4000
open Go Go.Proofs Go.Shelf Tryz
namespace Go.Abs
def pR (xs:Xa0):Xa0:=xs.mergeSort λx y=>decide (x<=y)
theorem lV (xs:Xa0):(pR xs).length=xs.length:=List.length_mergeSort xs
theorem H6 {G:AHeap}{c:Nat}{ty:TypeId}{xs:Xa0}{Q:D->AHeap->Prop}(o:G.get c=some ⟨ty,1,xs.map cI,false⟩)(t:xs.length<=1000000)
  (q:Q (.tup []) (G.put c ⟨ty,1,(pR xs).map cI,false⟩)):ACalls prog 246 [.own c xs.length] G Q:=by
 refine QZ ⟨Tryz.f246,func246,rfl,rfl⟩ o (lV xs) (λw v b=>?_) q;rcases b.2 with ⟨rfl,r⟩|⟨g,l,s,rfl,p,a,h,k,j,f⟩
 .have hx:xs=[]:=bI r;subst hx;exact (Any.slices_Sort_int_none Tryz.laysSort none 0 w).mono λe m ⟨i,d⟩=>by
   subst d;exact ⟨i,⟨rfl,rfl,rfl,aT _,λ_ _ _=>rfl⟩,by simpa [Hk,pR] using b⟩
 .have hH:Sort.Holds (Value.int .i64) w g 0 xs.toArray:=holds_of_blockI a (cG f);refine (Any.slices_Sort_int Tryz.laysSort g 0 l xs w hH (nP.1 a).1 bL).mono λe m ⟨i,n,os,d⟩=>?_;subst d;refine ⟨i,grownBy_sortedI _,?_⟩;have:=ownsRow_sortedI (n:=n) (os:=os) (ts:=pR xs) (lV xs) p a h k (cG j);unfold Hk;rw [lV];exact this
theorem JH (zs:Xa0):(Lib.compact zs).length<=zs.length:=by
 unfold Lib.compact Lib.compactUpTo;grind
theorem GE {G:AHeap}{f:Nat}{ty:TypeId}{xs:Xa0}{Q:D->AHeap->Prop}(t:G.get f=some ⟨ty,1,xs.map cI,false⟩)(A:xs.length<=1000000)
  (x:∀ k,Q (.list ((Lib.compact xs).map cI)) (G.put f k)):ACalls prog 363 [.own f xs.length] G Q:=by
 have p:=JH xs;have c:(Lib.compact xs++List.replicate (xs.length - (Lib.compact xs).length) 0).length=xs.length:=by simp;omega
 refine Oh (zs:=Lib.compact xs++List.replicate (xs.length - (Lib.compact xs).length) 0) (m:=(Lib.compact xs).length) ⟨Tryz.f363,func363,rfl,rfl⟩ t c p (λw v a=>?_) (by rw [List.take_left];exact x _);rcases a.2 with ⟨rfl,y⟩|⟨g,r,z,rfl,u,b,d,o,l,i⟩
 .have hx:xs=[]:=bI y;subst hx;exact (Any.slices_Compact_int_empty Tryz.laysCompact none 0 w).mono λe s ⟨j,h⟩=>by
   subst h;exact ⟨⟨_,j,.inl ⟨rfl,rfl⟩⟩,⟨rfl,rfl,rfl,aT _,λ_ _ _=>rfl⟩,by simpa [Hk,Lib.compact,Lib.compactUpTo] using a⟩
 .have hH:Sort.Holds (Value.int .i64) w g 0 xs.toArray:=holds_of_blockI b (cG i);refine (Any.slices_Compact_int Tryz.laysCompact g 0 r xs w hH bL d).mono λe s ⟨j,q,h⟩=>?_;subst h;refine ⟨⟨_,j,.inr ⟨_,_,_,rfl,rfl⟩⟩,?_,?_⟩
  .have:=grownBy_sortedI (w:=w) (g:=g) (n:=q) (os:=#[]) (Lib.compact xs++List.replicate (xs.length - (Lib.compact xs).length) 0).toArray;exact this
  .have:=ownsRow_sortedI (n:=q) (os:=#[]) (ts:=Lib.compact xs++List.replicate (xs.length - (Lib.compact xs).length) 0) c u b d o (cG l);rw [Sort.grow_empty] at this;unfold Hk;grind
def imagesN (xs:Xa0):Nat:=(Lib.compact (pR xs)).length
theorem Ak (xs:Xa0)(b:xs.length<=1000000):Pua 337 [dLI xs] (dI (imagesN xs)):=by
 have a:=lV xs;refine Tz.p0 func337 rfl λQ c Y=>?_;refine wv (h:=mT (jC xs b) wl ?_);refine wv (h:=?_);unfold dQ;refine H6 (ty:=3) (xs:=xs) eh b ?_;refine wo (h:=?_);unfold dQ;rw [show xs.length=(pR xs).length from a.symm];refine GE (ty:=3) (xs:=pR xs) eh bL λk=>?_;have Y:=wa Y @imagesN.eq_1;exact wo (h:=c _ _ wy)
end Go.Abs
end
section
set_option maxRecDepth 100000
set_option maxHeartbeats 4000000
open Go Go.Proofs Tryz
namespace Go.Abs
theorem Ln (xs:Xa0):(pR xs).Pairwise (·<=·):=by
 have:=List.pairwise_mergeSort (le:=λ(x y:Int)=>decide (x<=y)) (λa b c e d=>by simp at *;omega) (λa b=>by simp;omega) xs;exact this.imp λh=>by simpa using h
theorem Gy (xs:Xa0):imagesN xs=xs.length↔xs.Nodup:=by
 have f:(pR xs).Perm xs:=List.mergeSort_perm xs _;rw [<- f.nodup_iff,<- lV xs];unfold imagesN Lib.compact Lib.compactUpTo;rw [bR];have b:=cA.1 (Ln xs);generalize pR xs=s at *;have d:(List.filter (Lib.keeps s.toArray) (List.range s.length)).length=s.length↔∀ j,j<s.length->Lib.keeps s.toArray j=true:=by
  have:=List.length_filter_eq_length_iff (p:=Lib.keeps s.toArray) (l:=List.range s.length);grind
 rw [d];have e:∀ j (a:j<s.length),Lib.keeps s.toArray j=true↔(j=0\/s[j]≠s[j - 1]' bL):=λj a=>by
  simp only [Lib.keeps,decide_eq_true_eq];grind
 constructor
 .intro h;rw [List.nodup_iff_pairwise_ne,cA];intro i j k a g;rcases (e j a).1 (h j a) with h0|h0
  .omega
  .have h1:=b (j - 1) j bL a bL;by_cases c:i=j - 1
   .subst c;omega
   .have h2:=b i (j - 1) k bL bL;omega
 .intro h j a;rw [e j a];by_cases h0:j=0
  .exact .inl h0
  .right
   intro m;have:=(vR h).1 m;omega
def cK:Edge:=⟨0,0,0⟩
def mF (a b:Graph)(m:Part)(i:Nat):Int :=
 if m.i[i]?.getD 0<0\/(b.i.length:Int)<=m.i[i]?.getD 0 then 6
 else if b.i[(m.i[i]?.getD 0).toNat]?.getD 0≠a.i[i]?.getD 0 then 13 else 0
def jP (a b:Graph)(m:Part)(i:Nat):Int :=
 if m.j[i]?.getD 0<0\/(b.j.length:Int)<=m.j[i]?.getD 0 then 6
 else if (a.j[i]?.getD cK).type≠(b.j[(m.j[i]?.getD 0).toNat]?.getD cK).type then 13
 else if m.i[(a.j[i]?.getD cK).from_.toNat]?.getD 0≠(b.j[(m.j[i]?.getD 0).toNat]?.getD cK).from_\/m.i[(a.j[i]?.getD cK).L.toNat]?.getD 0≠(b.j[(m.j[i]?.getD 0).toNat]?.getD cK).L then 11 else 0
def fD (a b:Graph)(m:Part):Int :=
 if graphF a≠0 then graphF a
 else if graphF b≠0 then graphF b
 else if m.i.length≠a.i.length\/m.j.length≠a.j.length then 20
 else if b6 (mF a b m) 0 a.i.length≠0 then b6 (mF a b m) 0 a.i.length
 else b6 (jP a b m) 0 a.j.length
theorem qX (a b:Graph)(m:Part):Pua 298 [a.d,b.d,m.d] (dI (fD a b m)):=by
 refine Tz.pK ⟨λt=>t==13||t==14,λr=>match r with|22=>[(0,10),(1,10),(3,10),(4,10),(5,10),(6,10),(8,10),(9,10),(0,11),(1,11),(3,11),(4,11),(5,11),(6,11),(8,11),(9,11),(10,11),(5,12),(6,12),(8,12),(9,12)]|_=>[]⟩ func298 rfl (λQ l=>?_);have Y:=trivial;refine wv (h:=aB (oG a) wl ?_);refine dD (λo=>?_) λo=>?_
 .exact wv (h:=l _ _ (.inl (by simp [go_sem,fD,o])))
 .refine wv (h:=aB (oG b) wl ?_);refine dD (λw=>?_) λw=>?_
  .exact wv (h:=l _ _ (.inl (by simp [go_sem,fD,o,w])))
  .refine dZ (λO=>?_) λO=>?_
   .exact wv (h:=l _ _ (.inl (by simp [go_sem,fD,o,w,(bL:m.i.length≠a.i.length\/m.j.length≠a.j.length)])))
   .have x:fD a b m=(if b6 (mF a b m) 0 a.i.length≠0 then b6 (mF a b m) 0 a.i.length else b6 (jP a b m) 0 a.j.length):=by
     unfold fD;rw [if_neg (fg o),if_neg (fg w),if_neg bL]
    have N:=bW o;have M:=bW w;have z:=(eI o).2;refine wo (h:=bA (λi e H=>(e 3=.adr a.c/\e 4=.adr b.c/\e 5=.adr m.c/\e 42=dLI m.i/\e 43=dI m.i.length/\e 44=dI i)/\(i<=m.i.length)/\(b6 (mF a b m) i (a.i.length - i)=b6 (mF a b m) 0 a.i.length)) (λi=>m.i.length - i) 0 ⟨wg,wi,(by rfl)⟩ λW D i e H B=>?_);obtain ⟨R,U,I⟩:=B;have Y:=wa Y R;refine dD (λs=>?_) λs=>?_
    .have hn:i<a.i.length:=bL;have f:=fG (mF a b m) hn;rw [I] at f;have j:mF a b m i=(if m.i[i]<0\/(b.i.length:Int)<=m.i[i] then 6 else if b.i[m.i[i].toNat]?.getD 0≠a.i[i] then 13 else 0):=by simp only [mF,aA s,aA hn,aF]
     have Y:=xa1 Y s hn;refine dZ (λG=>?_) λG=>?_
     .rw [if_pos bL] at j;rw [j,if_pos bL] at f;exact wv (h:=l _ _ (.inl (fc x f)))
     .have hkb:m.i[i].toNat<b.i.length:=bL;rw [if_neg bL,aA hkb,aF] at j;have Y:=wa Y (aA hkb);refine dZ (λq=>?_) λq=>?_
      .rw [if_pos q] at j;rw [j,if_pos bL] at f;exact wv (h:=l _ _ (.inl (fc x f)))
      .rw [if_neg (cG q)] at j;rw [j,if_neg bL] at f;exact wo (h:=wx D (i+1) ⟨wg,wj,(f.symm)⟩)
    .have hN0:b6 (mF a b m) 0 a.i.length=0:=by rw [<- I,(bL:a.i.length - i=0)];rfl
     rw [hN0,if_neg bL] at x;refine wo (h:=bA (λk e H=>(e 3=.adr a.c/\e 4=.adr b.c/\e 5=.adr m.c/\e 71=dLI m.j/\e 72=dI m.j.length/\e 73=dI k)/\(k<=m.j.length)/\(b6 (jP a b m) k (a.j.length - k)=fD a b m)) (λk=>m.j.length - k) 0 ⟨wg,wi,(x.symm)⟩ λV C k e H A=>?_);obtain ⟨P,T,J⟩:=A;have Y:=wa Y P;refine dD (λp=>?_) λp=>?_
     .have hn:k<a.j.length:=bL;have f:=fG (jP a b m) hn;rw [J] at f;have S:=z _ (aC hn);have v:a.j[k].from_.toNat<m.i.length:=bL;have u:a.j[k].L.toNat<m.i.length:=bL;have g:jP a b m k=(if m.j[k]<0\/(b.j.length:Int)<=m.j[k] then 6 else if a.j[k].type≠(b.j[m.j[k].toNat]?.getD cK).type then 13 else if m.i[a.j[k].from_.toNat]≠(b.j[m.j[k].toNat]?.getD cK).from_\/m.i[a.j[k].L.toNat]≠(b.j[m.j[k].toNat]?.getD cK).L then 11 else 0):=by
       simp only [jP,aA p,aA hn,aF,aA v,aA u]
      have Y:=xa3 Y p hn (aA v) (aA u);refine dZ (λF=>?_) λF=>?_
      .rw [if_pos bL] at g;rw [g,if_pos bL] at f;exact wv (h:=l _ _ (.inl (by simp [go_sem,<- f])))
      .have hkb:m.j[k].toNat<b.j.length:=bL;rw [if_neg bL,aA hkb,aF] at g;have Y:=wa Y (aA hkb);refine dZ (λn=>?_) λn=>?_
       .rw [if_pos n] at g;rw [g,if_pos bL] at f;exact wv (h:=l _ _ (.inl (by simp [go_sem,<- f])))
       .rw [if_neg (cG n)] at g;refine dZ (λE=>?_) λE=>?_
        .rw [if_pos bL] at g;rw [g,if_pos bL] at f;exact wv (h:=l _ _ (.inl (by simp [go_sem,<- f])))
        .rw [if_neg bL] at g;rw [g,if_neg bL] at f;exact wo (h:=wx C (k+1) ⟨wg,wj,(f.symm)⟩)
     .exact wv (h:=l _ _ (.inl (by rw [<- J,(bL:a.j.length - k=0)];rfl)))
def Jh (a b:Graph)(m:Part):Bool:=decide (fD a b m=0)&&(decide m.i.Nodup&&decide m.j.Nodup)
theorem pV {a b:Graph}{m:Part}(h:fD a b m=0):graphF a=0/\graphF b=0/\m.i.length=a.i.length/\m.j.length=a.j.length:=by grind [fD]
theorem L7 (xs:Xa0):((imagesN xs:Int)==(xs.length:Int))=decide xs.Nodup:=by
 rw [bB];simp only [beq_iff_eq,decide_eq_true_eq];rw [<- Gy];omega
theorem uU (a b:Graph)(m:Part)(g:m.i.length<=1000000)(f:m.j.length<=1000000):Pua 299 [a.d,b.d,m.d] (.bool (Jh a b m)):=by
 refine Tz.p0 func299 rfl λQ e _=>?_;have Y:=@L7;refine wo (h:=aJ (qX a b m) wl ?_);refine wo (h:=b9 (λc=>Ak m.i g) (λc=>wl) ?_);refine wo (h:=b9 (λc=>Ak m.j f) (λc=>wl) ?_);exact wo (h:=e _ _ (by simp [go_sem,Jh,Bool.and_assoc]))
end Go.Abs
end
