/- Layer 4: lines of types, what fits. · Layer 4: attributes of -/
import Derived.Test.YtbgbahlipnaflaaGreatZvAG
import Derived.Test.YtbgbahlipnaflaaGreatZvAA
import Derived.Test.YtbgbahlipnaflaaGreatZvAH
import Derived.Test.YtbgbahlipnaflaaGreatZvAF
import Derived.Ground.NamesProg
import Derived.Ground.Names2Prog
import Derived.Shelf.Sort.Plain
import Derived.Shelf.Slices.CompactI
import Derived.Shelf.Slices.In.SortNone
import Derived.Test.YtbgbahlipnaflaaGreatProg
set_option linter.unusedVariables false
set_option linter.unusedSimpArgs false
section
set_option maxRecDepth 100000
set_option maxHeartbeats 4000000
open Go Go.Proofs Tryz
namespace Go.Abs
def MO (t:Types)(k:Nat):V2:=if k=0 then [] else t.aw (k - 1)
theorem SQ {xs a:V2}{i:Nat}(b:a.length=xs.length)(d:xs.length<=2 * i+1)(c:∀ j,j<xs.length->a[j]?=if j<i\/xs.length - i<=j then xs[xs.length - 1 - j]? else xs[j]?):a=xs.reverse:=by
 apply gA;grind
theorem PW (G:AHeap)(d:Nat)(xs:V2)(w:G.get d=some ⟨3,1,xs.map cI,false⟩)(L:xs.length<=100000)(Q:D->AHeap->Prop)
  (I:∀ H',H'.get d=some ⟨3,1,xs.reverse.map cI,false⟩->(∀ j,j≠d->H'.get j=G.get j)->G.next<=H'.next->Q (.tup []) H'):ACalls prog 363 [.own d xs.length] G Q:=by
 refine (Tz.c0 func363 rfl ?_);try simp [go_sem,seval,w]
 repeat first|intro _|refine ⟨iS,?_⟩
 obtain ⟨x,g⟩:∃ x:Nat->eF->AHeap->Prop,∀ (i:Nat) (e:eF) (H:AHeap),x i e H↔(∃ b:V2,(e 0=.own d xs.length)/\(e 2=dI i)/\(e 3=dI ((xs.length:Int) - 1 - i))/\(H.get d=some ⟨3,1,b.map cI,false⟩)/\(∀ j,j≠d->H.get j=G.get j)/\(G.next<=H.next)/\(b.length=xs.length)/\(∀ j,j<xs.length->b[j]?=if j<i\/xs.length - i<=j then xs[xs.length - 1 - j]? else xs[j]?)):=⟨λi e H=>_,λ_ _ _=>Iff.rfl⟩;refine Aa x (λi=>xs.length - i) (0) ((g _ _ _).2 ⟨(xs),?_,?_,?_,(w),(λ_ _=>rfl),(bC _),(by first|assumption|omega|(simp [go_sem,w];done)|(simp_all;done)),(by intro j h;simp;omega)⟩) ?_;iterate 3 (first|omega|(simp [go_sem,seval]<;>omega))
 intro i e H v;obtain ⟨b,n,m,l,C,p,t,r,q⟩:=(g _ _ _).1 v;have y:=xa1 n m l;try simp [go_sem,seval,y]
 refine bB (λk=>?_) (λk=>?_)
 .try simp [go_sem] at k
  have h:xs.length - 1 - i<b.length:=aD;have c:i<b.length:=aD;have s:((xs.length:Int) - 1 - i).toNat=xs.length - 1 - i:=aD;have f:∀ j,j<xs.length->((b.set i (b[xs.length - 1 - i]?.getD 0)).set (xs.length - 1 - i) (b[i]?.getD 0))[j]?=if j<i+1\/xs.length - (i+1)<=j then xs[xs.length - 1 - j]? else xs[j]?:=λj u=>by
   have k:=q j u;have F:=q i aD;have E:=q (xs.length - 1 - i) aD;rw [aA c] at F;rw [aA h] at E;rw [dL,dL,aA c,aA h];by_cases B:xs.length - 1 - i=j
   .rw [if_pos B,if_pos ie,if_pos aD];simp only [Option.getD_some];rw [F,if_neg aD];congr 1;omega
   .rw [if_neg B];by_cases A:i=j
    .rw [if_pos A,if_pos aD,if_pos aD];simp only [Option.getD_some];rw [E,if_neg aD];congr 1;omega
    .rw [if_neg A,k];by_cases z:j<i\/xs.length - i<=j
     .rw [if_pos z,if_pos aD]
     .rw [if_neg z,if_neg aD]
  try simp [go_sem,seval,y,C,k,s,aA h,aA c,r,(aD:i≠xs.length - 1 - i)]
  repeat first|intro _|refine ⟨iS,?_⟩
  refine iO (i+1) aD ((g _ _ _).2 ⟨((b.set i (b[xs.length - 1 - i]?.getD 0)).set (xs.length - 1 - i) (b[i]?.getD 0)),?_,?_,?_,(by simp [go_sem,aA h,aA c]),(by intro j o;simp [go_sem,o,p j o]),ib,(by first|assumption|omega|(simp [go_sem,aA h,aA c,r];done)|(simp_all<;>omega)),(f)⟩)<;>first|omega|(simp [go_sem,seval,y]<;>omega)
 .try simp [go_sem] at k
  have:=SQ r aD q;subst this;try simp [go_sem,seval]
  exact I _ C p t
theorem Sr (t:Types)(F:t.ok)(l:t.aq)(a:Nat)(J:a<t.h.length):Pua 302 [t.d,dI a] (.list ((t.aw a).map cI)):=by
 have w:=l.bz;refine Tz.pK ⟨λt=>t==5,λ_=>[]⟩ func302 rfl (λQ A=>?_);have Y:=trivial;refine wv (h:=bA (λk e H=>∃ b:V2,(e 2=.adr t.c/\e 1=dI ((k:Int) - 1)/\e 5=.own 0 b.length)/\(H.get 0=some ⟨3,1,b.map cI,false⟩)/\(0<H.next)/\(k<=t.h.length)/\(b.length+k<=12)/\(MO t k++b.reverse=t.aw a)) (λk=>k) (a+1) ⟨([]),wg,wn,wn,wi,ie,(by simp [MO])⟩ λK s k e H r=>?_);obtain ⟨b,C,g,i,G,I,j⟩:=r;have Y:=xa2 Y C g (bS i);refine dR (λx=>?_) λx=>?_
 .have hk0:0<k:=aD;have f:k - 1<t.h.length:=aD;have u:=l.E (k - 1) _ (aA f);have v:=l.ao (k - 1) _ (aA f);have o:((k:Int) - 1).toNat=k - 1:=aD;have z:=A0 t (k - 1) f (l.ax _);have q:MO t k=MO t (t.h[k - 1].E+1).toNat++[(k:Int) - 1]:=by
   unfold MO;grind
  have Y:=xa2 Y x o f;exact wo (h:=wx s ((t.h[k - 1].E+1).toNat) ⟨(b++[(k:Int) - 1]),wg,wn,wn,wj,ie,(by rw [q] at j;rw [<- j];simp)⟩)
 .have hk0:k=0:=aD;subst hk0;have p:(t.aw a).length=b.length:=by rw [<- j];simp [MO]
  have n:(b.map cI).reverse=(t.aw a).map cI:=by rw [<- List.map_reverse,<- j];rfl
  refine wv (h:=?_);unfold fT;refine PW _ _ b g aD _ λL B _ _=>?_;exact wv (h:=A _ _ (by simp [go_sem,B,n,p]))
theorem HZ (t:Types)(f:t.ok)(e:t.aq)(a b:Int)(i:0<=a)(j:a<t.h.length):Pua 232 [t.d,dI a,dI b] (.bool (mem (t.aw a.toNat) b)):=by
 have c:=Sr t f e a.toNat aD;rw [Int.toNat_of_nonneg i] at c;refine Tz.p0 func232 rfl λQ g Y=>?_;refine wv (h:=aB (c) wl ?_);refine wv (h:=aB (gF _ _) wl ?_);exact wv (h:=g _ _ wy)
def p6 (t:Types)(edge a b:Int):Bool:=decide (given2F t a b=0)&&(decide (0<=edge)&&decide (edge<t.i.length)) &&
 (mem (t.aw a.toNat) (match t.i[edge.toNat]? with|some x=>x.w|none=>0)&&mem (t.aw b.toNat) (match t.i[edge.toNat]? with|some x=>x.M|none=>0))
theorem sX {t:Types}{a b:Int}(h:given2F t a b=0):t.aq/\(0<=a/\a<t.h.length)/\(0<=b/\b<t.h.length):=by
 unfold given2F at h;split at h
 .rename_i h1;exact absurd h h1
 .rename_i h1;split at h
  .rename_i h2;simp [insideF] at h2;exact ⟨nI (bY h1),h2.1,h2.2⟩
  .cases h
theorem H5 (t:Types)(f:t.ok)(c a b:Int):Pua 145 [t.d,dI c,dI a,dI b] (.bool (p6 t c a b)):=by
 refine Tz.p0 func145 rfl λQ j Y=>?_;refine wo (h:=aB (Az t f [a,b]) wl ?_);refine eP (λe=>?_) λe=>?_
 .rw [MW] at e;exact wv (h:=j _ _ (by simp [go_sem,p6];intros;omega))
 .rw [MW] at e;obtain ⟨i,l,k⟩:=sX e.1.1;have g:c.toNat<t.i.length:=aD;have Y:=wa Y (aA g);refine wo (h:=aH (HZ t f i _ _ l.1 l.2) wl ?_);refine wo (h:=dM (λm=>HZ t f i _ _ k.1 k.2) (λm=>wl) ?_);exact wo (h:=j _ _ (by simp [go_sem,p6,e]))
theorem x8 (l:V2)(x b:Int):mem (l++[x]) b=(mem l b||decide (b=x)):=by
 rw [aU,c8,mem_iff,mem_iff];simp
theorem BB (b:Int):mem ([]:V2) b=false:=by rw [bJ];intro h;rw [mem_iff] at h;cases h
theorem Z0 (t:Types)(a b:Int)(g:a<0)(f:0<=b):Pua 136 [t.d,dI a,dI b] (.bool false):=by
 refine Tz.p0 func136 rfl λQ e _=>?_;have Y:=wa (aD:¬ 0<=a) (aD:¬ a=b);refine wo (h:=?_);refine dM (r:=.bool false) (λc=>by simp at c) (λc=>by simp at c) ?_;exact wo (h:=e _ _ wy)
theorem tT (t:Types)(g:t.aq)(b:Int)(m:0<=b):∀ a:Nat,a<t.h.length->Pua 136 [t.d,dI a,dI b] (.bool (mem (t.aw a) b)):=by
 intro a;induction a using Nat.strongRecOn with
 | _ a ih =>
 intro c;have i:=g.E a _ (aA c);have e:=A0 t a c (g.ax a);have l:Pua 136 [t.d,dI t.h[a].E,dI b] (.bool (mem (if 0<=t.h[a].E then t.aw t.h[a].E.toNat else []) b)):=by
  by_cases j:0<=t.h[a].E
  .rw [if_pos j];grind
  .rw [if_neg j,BB];exact Z0 t _ _ aD m
 rw [e,x8];refine Tz.p0 func136 rfl λQ n _=>?_;have f:decide ((a:Int)=b)=decide (b=(a:Int)):=by rw [aU];simp;omega
 have Y:=wa (aA c) c;refine wo (h:=dM (λk=>l) (λk=>wl) ?_);exact wo (h:=n _ _ (.inl (by simp only [go_sem,f,Bool.or_comm])))
theorem y8 (t:Types)(m:t.ok)(c a b:Int):Pua 74 [t.d,dI c,dI a,dI b] (.bool (p6 t c a b)):=by
 have o:=m.cV;refine Tz.p0 func74 rfl λQ n Y=>?_;refine wo (h:=aB (Gm t m a b) wl ?_);refine wo (h:=aK (λl=>pH _ _ _) (λl=>wl) ?_);refine wo (h:=bB (λj=>?_) (λj=>?_))
 .skip
  simp [inF] at j;exact wv (h:=n _ _ (by simp [go_sem,p6];intros;omega))
 .skip
  simp [inF] at j;obtain ⟨k,q,p⟩:=sX j.1;have f:c.toNat<t.i.length:=aD;have e:=k.bE _ (aC f);simp [insideF] at e;have i:=tT t k t.i[c.toNat].w e.1.1 a.toNat aD;have g:=tT t k t.i[c.toNat].M e.2.1 b.toNat aD;rw [Int.toNat_of_nonneg q.1] at i;rw [Int.toNat_of_nonneg p.1] at g;have Y:=wa Y (aA f);refine wo (h:=aH (i) wl ?_);refine wo (h:=dM (λl=>g) (λl=>wl) ?_);exact wo (h:=n _ _ (by simp [go_sem,p6,j,aA f];omega))
attribute [go_sem] Slot.c Test.c Pattern.c Pattern.d Part.c Part.d Stage.c
theorem Fg {P:Program}{f:FuncId}{ty:TypeId}{sz:Nat}(g:Own P f [.nil] ty sz [])(m:Own P f [.ne] ty sz []):Own P f [.list []] ty sz []:=by
 refine ⟨g.1,λM w b e l=>?_⟩;obtain ⟨k,i⟩:=l;match b,k with
 | [v],_ =>
  have h:=i 0 v _ rfl rfl;cases h with
  | listN=>exact g.2 M w _ e ⟨rfl,λj u d a c=>by
    match j with
    | 0=>simp at a c;subst a;subst c;exact .nil
    | j+1=>simp at a⟩
  | list ad cap sz xs es hc hm=>exact m.2 M w _ e ⟨rfl,λj u d a c=>by
    match j with
    | 0=>simp at a c;subst a;subst c;exact .ne ad cap hm
    | j+1=>simp at a⟩
theorem TQ:Own prog 147 [.nil] 3 1 []:=by
 refine Tz.oK ⟨λt=>t==2||t==5,λ_=>[]⟩ func147 rfl (λQ a=>?_);have Y:=trivial;refine wv (h:=?_);exact a _ _ _ ip ip
theorem TO:Own prog 147 [.ne] 3 1 []:=by
 refine Tz.oK ⟨λt=>t==2||t==5,λ_=>[]⟩ func147 rfl (λQ a=>?_);have Y:=trivial;refine wo (h:=?_);exact a _ _ _ ip ip
theorem TP (l:V2)(c:l.length<=1000000)(a:l≠[]):Own prog 147 [.list (l.map cI)] 3 1 (l.map cI):=by
 refine Tz.oK ⟨λt=>t==2||t==5,λ_=>[]⟩ func147 rfl (λQ b=>?_);have Y:=a;refine wo (h:=?_);exact b _ _ _ ip ip
theorem gL (l:V2)(b:l.length<=1000000):Own prog 147 [.list (l.map cI)] 3 1 (l.map cI):=by
 by_cases a:l=[]
 .subst a;exact Fg TQ TO
 .exact TP l b a
theorem TN:Own prog 254 [.nil] 9 1 []:=by
 refine Tz.oK ⟨λt=>t==2||t==5,λ_=>[]⟩ func254 rfl (λQ a=>?_);have Y:=trivial;refine wv (h:=?_);exact a _ _ _ ip ip
theorem TL:Own prog 254 [.ne] 9 1 []:=by
 refine Tz.oK ⟨λt=>t==2||t==5,λ_=>[]⟩ func254 rfl (λQ a=>?_);have Y:=trivial;refine wo (h:=?_);exact a _ _ _ ip ip
theorem TM (l:List ByteArray)(c:l.length<=1000000)(a:l≠[]):Own prog 254 [.list (l.map cS)] 9 1 (l.map cS):=by
 refine Tz.oK ⟨λt=>t==2||t==5,λ_=>[]⟩ func254 rfl (λQ b=>?_);have Y:=a;refine wo (h:=?_);exact b _ _ _ ip ip
theorem WE (l:List ByteArray)(b:l.length<=1000000):Own prog 254 [.list (l.map cS)] 9 1 (l.map cS):=by
 by_cases a:l=[]
 .subst a;exact Fg TN TL
 .exact TM l b a
def bL (t:Types)(a:Int):List Attr:=if given2F t a a=0 then t.r a.toNat else []
theorem uF (t:Types)(a:Int):givenF t [a]=given2F t a a:=by
 unfold givenF given2F;cases b:insideF t a<;>simp [b]
theorem u6 {t:Types}{a:Int}(h:given2F t a a=0):t.aq/\0<=a/\a<t.h.length:=⟨(sX h).1,(sX h).2.1⟩
theorem n3 (t:Types)(l:t.ok)(a:Int):Pua 163 [t.d,dI a] (.tup [.list ((bL t a).map Attr.c),dI (given2F t a a)]):=by
 refine Tz.p0 func163 rfl λQ r Y=>?_;refine wv (h:=aB (Az t l [a]) wl ?_);refine dR (λf=>?_) λf=>?_
 .rw [uF] at f;exact wv (h:=r _ _ (by simp [go_sem,uF,bL,f]))
 .rw [uF] at f;obtain ⟨q,w,C⟩:=u6 f;have j:=F3 t l a.toNat aD (q.ax _);rw [Int.toNat_of_nonneg w] at j;have m:∀ x∈t.r a.toNat,x.ok:=yT t.h l.h _ _;have v:=q.r a.toNat aD;refine wv (h:=kU (j) wl ?_);refine wo (h:=bA (λi e H=>(e 2=.adr t.c/\e 1=dI a/\e 7=.own 0 (t.r a.toNat).length/\e 20=dI (t.r a.toNat).length/\e 21=dI i)/\(H.get 0=some ⟨88,4,(t.r a.toNat).map Attr.c,false⟩)/\(0<H.next)/\(i<=(t.r a.toNat).length)) (λi=>(t.r a.toNat).length - i) 0 ⟨wg,eq,wn,wi⟩ λD o i e H n=>?_);obtain ⟨y,b,g,B⟩:=n;have Y:=xa2 Y y b (bS g);refine dR (λk=>?_) λk=>?_
  .have hset:((t.r a.toNat).map Attr.c).set i (((t.r a.toNat).map Attr.c)[i]'(bY k))=(t.r a.toNat).map Attr.c:=List.set_getElem_self _;simp [go_sem] at hset;have Y:=wa Y k;refine wo (h:=aB ((WE (t.r a.toNat)[i].af (by have:=(m _ (aC k)).cf;omega)).pure) wl ?_);exact wo (h:=wx o (i+1) ⟨wg,(iq hset),wn,wj⟩)
  .exact wv (h:=r _ _ (by simp [go_sem,b,bL,f]))
theorem lQ (t:Types)(m:t.ok)(a:Int):Pua 15 [t.d,dI a] (.tup [.list ((bL t a).map Attr.c),dI (given2F t a a)]):=by
 refine Tz.pK ⟨λt=>t==7||t==10||t==31||t==1000000,λ_=>[]⟩ func15 rfl (λQ r=>?_);have Y:=trivial;refine wv (h:=aB (Gm t m a a) wl ?_);refine dR (λk=>?_) λk=>?_
 .exact wv (h:=r _ _ (by simp [go_sem,bL,k]))
 .obtain ⟨q,y,D⟩:=u6 k;have g:=Gp t m a.toNat aD (q.ax _);rw [Int.toNat_of_nonneg y] at g;have n:∀ x∈t.r a.toNat,x.ok:=yT t.h m.h _ _;have v:=q.r a.toNat aD;refine wv (h:=aB (g) wl ?_);refine wv (h:=bA (λi e H=>(e 2=.adr t.c/\e 1=dI a/\e 7=.own 0 ((t.r a.toNat).take i).length/\e 8=.list ((t.r a.toNat).map Attr.c)/\e 9=dI i)/\(H.get 0=some ⟨88,4,((t.r a.toNat).take i).map Attr.c,false⟩)/\(0<H.next)/\(i<=(t.r a.toNat).length)) (λi=>(t.r a.toNat).length - i) 0 ⟨wg,eq,wn,wi⟩ λE p i e H o=>?_);obtain ⟨z,b,f,C⟩:=o;have Y:=xa2 Y z b (bS f);refine eP (λj=>?_) λj=>?_
  .have hts:=List.take_succ_eq_append_getElem (l:=(t.r a.toNat).map Attr.c) (i:=i) (bY j);simp [go_sem] at hts;have w:=(n _ (aC j)).cf;have Y:=wa Y j;exact wo (h:=wx p (i+1) ⟨wg,(iq hts),wn,wj⟩)
  .exact wv (h:=r _ _ (by simp [go_sem,b,bL,k,(aD:i=(t.r a.toNat).length)]))
def lL (t:Types)(a:Int):V2:=if given2F t a a=0 then ((List.range t.h.length).filter λ(b:Nat)=>mem (t.aw b) a).map λ(b:Nat)=>(b:Int) else []
theorem c6 (p:Nat->Bool)(i:Nat):((List.range (i+1)).filter p).map (λ(b:Nat)=>(b:Int))=((List.range i).filter p).map (λ(b:Nat)=>(b:Int))++(if p i=true then [(i:Int)] else []):=by
 rw [bR,fN,List.map_append];grind
theorem Ps (t:Types)(u:t.ok)(a:Int):Pua 377 [t.d,dI a] (.tup [dLI (lL t a),dI (given2F t a a)]):=by
 refine Tz.pK ⟨λt=>t==7,λ_=>[]⟩ func377 rfl (λQ v=>?_);have Y:=trivial;refine wv (h:=aB (Az t u [a]) wl ?_);refine dR (λj=>?_) λj=>?_
 .rw [uF] at j;exact wv (h:=v _ _ (by simp [go_sem,uF,lL,j]))
 .rw [uF] at j;obtain ⟨s,E,D⟩:=u6 j;have C:=s.bz;refine wo (h:=bA (λi e H=>∃ g:V2,(e 2=.adr t.c/\e 1=dI a/\e 7=.own 0 g.length/\e 18=dI t.h.length/\e 19=dI i)/\(H.get 0=some ⟨3,1,g.map cI,false⟩)/\(0<H.next)/\(i<=t.h.length)/\(g.length<=i)/\(g=((List.range i).filter λ(b:Nat)=>mem (t.aw b) a).map (λ(b:Nat)=>(b:Int)))) (λi=>t.h.length - i) 0 ⟨([]),wg,wn,wn,wi,aE,(by rfl)⟩ λG m i e H o=>?_);obtain ⟨g,y,f,l,B,A,n⟩:=o;have Y:=xa2 Y y f (bS l);refine dR (λw=>?_) λw=>?_
  .have Y:=wa Y w;refine wv (h:=aB (HZ t u s i a aD aD) wl ?_);refine dR (λp=>?_) λp=>?_
   .have Y:=wa Y p;exact wo (h:=wx m (i+1) ⟨(g++(if mem (t.aw i) a=true then [(i:Int)] else [])),wg,wn,wn,wj,ik,(by rw [c6,<- n])⟩)
   .have Y:=wa Y p;exact wo (h:=wx m (i+1) ⟨(g++(if mem (t.aw i) a=true then [(i:Int)] else [])),wg,wn,wn,wj,ik,(by rw [c6,<- n])⟩)
  .exact wv (h:=v _ _ (by simp [go_sem,f,lL,j];rw [n,(aD:i=t.h.length)];simp))
def iB {α:Type}(f:α->Int):List α->Int
 | []=>0
 | x :: l=>if f x≠0 then f x else iB f l
theorem mA {α:Type}(f:α->Int){l:List α}{i:Nat}(h:i<l.length):iB f (l.drop i)=if f l[i]≠0 then f l[i] else iB f (l.drop (i+1)):=by
 rw [fV h];rfl
theorem nM {α:Type}(f:α->Int){l:List α}{i:Nat}(h:¬ i<l.length):iB f (l.drop i)=0:=by
 rw [iW aD];rfl
def termB (n:Int)(x:Term):Bool:=decide (-1<=x.O)&&decide (x.O<n)&&decide (-1000000<=x.add)&&decide (x.add<=1000000)
theorem Ac (n:Int)(x:Term):Pua 396 [dI n,.agg [dI x.O,dI x.add]] (.bool (termB n x)):=by
 refine Tz.p0 func396 rfl λQ a Y=>?_;have Y:=wa Y @termB.eq_1;exact wo (h:=a _ _ wy)
def vR (n:Int)(x:Test):Int:=if x.D≠1/\x.D≠2 then 1 else if (termB n x.left&&termB n x.right)=true then 0 else 6
theorem Kd (n:Int)(x:Test):Pua 353 [dI n,.agg x.c] (dI (vR n x)):=by
 refine Tz.p0 func353 rfl λQ d Y=>?_;refine eP (λg=>?_) λg=>?_
 .exact wv (h:=d _ _ (by simp [go_sem,vR];omega))
 .refine wo (h:=aB (Ac n x.left) wl ?_);refine wo (h:=aK (λf=>Ac n x.right) (λf=>wl) ?_);refine eP (λe=>?_) λe=>?_
  .exact wv (h:=d _ _ (by revert e;cases b:termB n x.left<;>cases a:termB n x.right<;>simp [go_sem,vR,b,a]<;>omega))
  .exact wv (h:=d _ _ (by revert e;cases b:termB n x.left<;>cases a:termB n x.right<;>simp [go_sem,vR,b,a]<;>omega))
def l6 (n:Int)(l:List Test):Int:=if n<0\/12<n then 6 else if 40<l.length then 3 else iB (vR n) l
theorem FG (n:Int)(l:List Test):Pua 292 [dI n,.list (l.map Test.c)] (dI (l6 n l)):=by
 refine Tz.pK ⟨λt=>t==6,λ_=>[]⟩ func292 rfl (λQ a=>?_);have Y:=trivial;refine eP (λo=>?_) λo=>?_
 .exact wv (h:=a _ _ (by simp [go_sem,l6];omega))
 .refine eP (λm=>?_) λm=>?_
  .exact wv (h:=a _ _ (by simp [go_sem,l6];omega))
  .refine wo (h:=bA (λi e H=>(e 0=dI n/\e 17=.list (l.map Test.c)/\e 18=dI l.length/\e 19=dI i)/\(i<=l.length)/\(iB (vR n) (l.drop i)=l6 n l)) (λi=>l.length - i) 0 ⟨wg,wi,(by rw [l6,if_neg aD,if_neg aD];rfl)⟩ λu d i e H b=>?_);obtain ⟨p,s,j⟩:=b;have Y:=wa Y p;refine dR (λg=>?_) λg=>?_
   .have hst:=j;rw [mA _ g] at hst;have Y:=wa Y g;refine wo (h:=aB (Kd n l[i]) wl ?_);refine eP (λf=>?_) λf=>?_
    .exact wv (h:=a _ _ (by rw [if_pos (bY f)] at hst;simp [go_sem,hst]))
    .exact wo (h:=wx d (i+1) ⟨wg,wj,(by rw [if_neg (iw f)] at hst;exact hst)⟩)
   .exact wv (h:=a _ _ (by rw [<- j,nM _ aD];simp [go_sem]))
def Ay (n:Int)(x:Term):Int:=if termB n x=true then 0 else 6
theorem DJ (n:Int)(x:Term):Pua 347 [dI n,.agg [dI x.O,dI x.add]] (dI (Ay n x)):=by
 refine Tz.p0 func347 rfl λQ a Y=>?_;refine eP (λb=>?_) λb=>?_
 .exact wv (h:=a _ _ (by simp [go_sem,Ay,termB];omega))
 .exact wv (h:=a _ _ (by simp [go_sem,Ay,termB];omega))
theorem VO (n:Int)(x:Test):Pua 277 [dI n,.agg x.c] (dI (vR n x)):=by
 refine Tz.p0 func277 rfl λQ b Y=>?_;refine eP (λg=>?_) λg=>?_
 .exact wv (h:=b _ _ (by simp [go_sem,vR];omega))
 .refine wv (h:=aB (DJ n x.left) wl ?_);refine dR (λd=>?_) λd=>?_
  .exact wv (h:=b _ _ (by revert d;cases a:termB n x.left<;>simp [go_sem,vR,Ay,a]<;>omega))
  .refine wv (h:=aB (DJ n x.right) wl ?_);exact wv (h:=b _ _ (by revert d;cases a:termB n x.left<;>cases f:termB n x.right<;>simp [go_sem,vR,Ay,a,f]<;>omega))
theorem QA (n:Int)(l:List Test):Pua 203 [dI n,.list (l.map Test.c)] (dI (l6 n l)):=by
 refine Tz.p0 func203 rfl λQ a Y=>?_;refine eP (λo=>?_) λo=>?_
 .exact wv (h:=a _ _ (by simp [go_sem,l6];omega))
 .refine eP (λm=>?_) λm=>?_
  .exact wv (h:=a _ _ (by simp [go_sem,l6];omega))
  .refine wv (h:=bA (λi e H=>(e 0=dI n/\e 1=.list (l.map Test.c)/\e 5=dI i)/\(i<=l.length)/\(iB (vR n) (l.drop i)=l6 n l)) (λi=>l.length - i) 0 ⟨wg,wi,(by rw [l6,if_neg aD,if_neg aD];rfl)⟩ λt d i e H b=>?_);obtain ⟨p,s,j⟩:=b;have Y:=wa Y p;refine eP (λg=>?_) λg=>?_
   .have hst:=j;rw [mA _ g] at hst;have Y:=wa Y g;refine wo (h:=aB (VO n l[i]) wl ?_);refine eP (λf=>?_) λf=>?_
    .exact wv (h:=a _ _ (by rw [if_pos (bY f)] at hst;simp [go_sem,hst]))
    .exact wo (h:=wx d (i+1) ⟨wg,wj,(by rw [if_neg (iw f)] at hst;exact hst)⟩)
   .exact wv (h:=a _ _ (by rw [<- j,nM _ aD];simp [go_sem]))
theorem kI (n b a:Int):Pua 290 [dI n,dI b,dI a] (.bool (inF n b a)):=by
 refine Tz.p0 func290 rfl λQ c Y=>?_;have Y:=wa Y @inF.eq_1;exact wo (h:=c _ _ wy)
def nX:Attr:=⟨⟨#[]⟩,0,0,[]⟩
def Pattern.D (p:Pattern)(node:Int):Int:=p.j.h[node.toNat]?.getD 0
def mT (t:Types)(p:Pattern)(node attr:Int):Bool:=decide (0<=node)&&decide (node<p.j.h.length)&&(decide (0<=attr)&&decide (attr<(bL t (p.D node)).length))
def GM (t:Types)(p:Pattern)(node attr:Int):Attr:=if mT t p node attr=true then (bL t (p.D node))[attr.toNat]?.getD nX else nX
theorem sB {t:Types}(c:t.ok)(a:Int):(bL t a).length<=8:=by
 unfold bL;split
 .rename_i h;obtain ⟨b,e,d⟩:=u6 h;exact b.r _ aD
 .simp
theorem KC (t:Types)(i:t.ok)(p:Pattern)(m:p.j.h.length<=1000)(s:Slot):Pua 291 [t.d,p.d,.agg s.c] (.tup [.agg (GM t p s.node s.J).c,.bool (mT t p s.node s.J)]):=by
 have l:=sB i (p.D s.node);refine Tz.pK ⟨λt=>t==6,λ_=>[]⟩ func291 rfl (λQ e=>?_);have Y:=trivial;refine wo (h:=aB (kI _ _ _) wl ?_);refine eP (λg=>?_) λg=>?_
 .simp [inF] at g;have b:mT t p s.node s.J=false:=by rw [bJ];intro h;simp [mT] at h;omega
  exact wv (h:=e _ _ (by simp [go_sem,GM,b,nX]))
 .simp [inF] at g;have j:s.node.toNat<p.j.h.length:=aD;have a:p.D s.node=p.j.h[s.node.toNat]:=by simp [Pattern.D,j]
  rw [a] at l;have Y:=xa1 Y (aA j) a;refine wo (h:=aH (n3 t i p.j.h[s.node.toNat]) wl ?_);refine wo (h:=aB (kI _ _ _) wl ?_);refine eP (λf=>?_) λf=>?_
  .simp [inF] at f;have b:mT t p s.node s.J=false:=by rw [bJ];intro h;simp [mT,a] at h;omega
   exact wv (h:=e _ _ (by simp [go_sem,GM,b,nX]))
  .simp [inF] at f;have k:s.J.toNat<(bL t p.j.h[s.node.toNat]).length:=aD;have b:mT t p s.node s.J=true:=by simp [mT,a];omega
   have Y:=wa Y (aA k);exact wo (h:=e _ _ (by simp [go_sem,GM,b,a,aA k]))
def cB (b:Bool):UN:=[.bool b]
@[go_sem] theorem agW (l:List Bool):D.R (l.map cB)=true:=d9 cB (λ_=>rfl) l
attribute [go_sem] cB
theorem Tr (xs:List Bool)(v:Bool):Pua 354 [.list (xs.map cB),.bool v] (dI (idx xs v)):=by
 refine Tz.p0 func354 rfl λQ g Y=>?_;refine wv (h:=?_);repeat first|intro _|refine ⟨iS,?_⟩
 refine bA (λi e H=>(e 0=.list (xs.map cB)/\e 1=.bool v/\e 7=dI xs.length/\e 8=dI i)/\(i<=xs.length)/\(∀ j,j<i->xs[j]?≠some v)) (λi=>xs.length - i) 0 ⟨wg,wi,(by intro j l;omega)⟩ λr d i e H c=>?_;obtain ⟨n,q,a⟩:=c;have Y:=wa Y n;refine dR (λb=>?_) λb=>?_
 .have Y:=wa Y b;refine wv (h:=?_);refine wq (λf=>?_) λf=>?_
  .exact wv (h:=g _ _ (by rw [yB a (by rw [aA b,f])];simp [go_sem]))
  .refine wv (h:=?_);repeat first|intro _|refine ⟨iS,?_⟩
   exact wx d (i+1) ⟨wg,wj,(lX a (by rw [aA b];simpa using λh=>f h.symm))⟩
 .exact wv (h:=g _ _ (by rw [Ec λj l=>a j aD];simp [go_sem]))
theorem LL (xs:List Bool)(v:Bool):Pua 293 [.list (xs.map cB),.bool v] (.bool (mem xs v)):=by
 refine Tz.p0 func293 rfl λQ a Y=>?_;refine wv (h:=aB (Tr xs v) wl ?_);have Y:=wa Y @mem.eq_1;exact wv (h:=a _ _ wy)
def fZ (t:Types)(g:Graph):Bool:=(!(g.h.any λn=>decide ((t.h.length:Int)<=n)))&&!(g.i.any λx=>decide ((t.i.length:Int)<=x.type))
theorem FO (t:Types)(a:Int):Pua 287 [dI a,.adr t.c] (.bool (decide ((t.h.length:Int)<=a))):=by
 refine Tz.p0 func287 rfl λQ b Y=>?_;exact wo (h:=b _ _ wy)
theorem FN (t:Types)(x:Edge):Pua 289 [.agg x.c,.adr t.c] (.bool (decide ((t.i.length:Int)<=x.type))):=by
 refine Tz.p0 func289 rfl λQ a Y=>?_;exact wo (h:=a _ _ wy)
def kZ (n:Nat)(l:List Slot):List Bool:=(List.range n).map λ(v:Nat)=>l.any λs=>decide (s.y.O=v)
theorem ET (n:Nat)(l:List Slot):(kZ n l).length=n:=by simp [kZ]
theorem Vj (n:Nat):kZ n []=List.replicate n false:=by
 apply fD (by simp [kZ]);intro i b a;simp [kZ]
theorem Vi (n:Nat)(l:List Slot)(s:Slot)(g:0<=s.y.O)(f:s.y.O<n):kZ n (l++[s])=(kZ n l).set s.y.O.toNat true:=by
 apply fD (by simp [kZ]);intro i e d;simp only [kZ,iG,rK,xI,List.any_cons,List.any_nil,qD];grind
theorem Vk (n:Nat)(l:List Slot)(s:Slot)(d:¬ 0<=s.y.O):kZ n (l++[s])=kZ n l:=by
 simp only [kZ,iG,rK,xI,List.any_cons,List.any_nil,qD];grind
theorem Sp (n:Nat)(l:List Slot)(s:Slot)(a:s.y.O<n):kZ n (l++[s])=if 0<=s.y.O then (kZ n l).set s.y.O.toNat true else kZ n l:=by
 split
 .exact Vi n l s ‹_› a
 .exact Vk n l s ‹_›
def g5 (t:Types)(p:Pattern)(s:Slot):Int:=if (mT t p s.node s.J&&inF s.y.O (-1) (p.vars - 1)&&inF s.y.add (-1000000) 1000000)=true then 0 else 6
def c9 (t:Types)(p:Pattern):Int :=
 if (dG t).2≠0 then (dG t).2
 else if graphF p.j≠0 then graphF p.j
 else if fZ t p.j=false then 13
 else if inF p.vars 0 12=false then 6
 else if 10<p.l.length\/10<p.G.length then 3
 else if iB (g5 t p) p.l≠0 then 6
 else if l6 p.vars p.G≠0 then l6 p.vars p.G
 else if mem (kZ p.vars.toNat p.l) false=true then 9 else 0
theorem bK {g:Graph}(h:graphF g=0):g.h.length<=40/\g.i.length<=80:=by grind [graphF]
theorem Xk {t:Types}{p:Pattern}{s:Slot}(h:g5 t p s=0):s.y.O<p.vars/\-1<=s.y.O:=by grind [g5, inF]
theorem pN (t:Types)(ht:t.ok)(p:Pattern):Pure prog 225 [t.d,p.d] (dI (c9 t p)):=by
 refine Tz.pK ⟨fun t=>t==10||t==11,fun _=>[]⟩ func225 rfl (fun Q hQ=>?_);have Y:=trivial;refine wv (h:=aB (nZ t ht) wl ?_);refine dR (fun h2=>?_) fun h2=>?_
 ·exact wv (h:=hQ _ _ (by simp [go_sem,c9,h2]))
 ·refine wv (h:=aB (oA p.j) wl ?_)
  refine dR (fun h5=>?_) fun h5=>?_
  ·exact wv (h:=hQ _ _ (by simp [go_sem,c9,h2,h5]))
  ·have hg:=bK h5
   refine wo (h:=aB (iD p.j.h 287 [.adr t.c] (fun a=>decide ((t.h.length:Int)≤a)) eq eq (fun a _=>FO t a)) wl ?_);refine wo (h:=aK (fun hg=>nD p.j.i 289 [.adr t.c] (fun x=>decide ((t.i.length:Int)≤x.type)) eq eq (fun x _=>FN t x)) (fun hg=>wl) ?_);refine eP (fun h7=>?_) fun h7=>?_
   ·have hT:fZ t p.j=false:=by
     simp [fZ];intro h';rcases h7 with ⟨x,hx,hl⟩|h
     ·exact absurd (h' x hx) (by omega)
     ·exact h
    exact wv (h:=hQ _ _ (by simp [go_sem,c9,h2,h5,hT]))
   ·have hT:fZ t p.j=true:=by simp [fZ];exact h7
    refine wo (h:=aB (kI _ _ _) wl ?_);refine eP (fun h9=>?_) fun h9=>?_
    ·exact wv (h:=hQ _ _ (by simp [go_sem,c9,h2,h5,hT,h9]))
    ·refine eP (fun h11=>?_) fun h11=>?_
     ·exact wv (h:=hQ _ _ (by simp [go_sem,c9,h2,h5,hT,h9];omega))
     ·have hin:=h9
      simp [inF] at hin;have hF0:c9 t p=if iB (g5 t p) p.l≠0 then 6 else if l6 p.vars p.G≠0 then l6 p.vars p.G else if mem (kZ p.vars.toNat p.l) false=true then 9 else 0:=by
       unfold c9;rw [if_neg (iw h2),if_neg (iw h5),if_neg (iw hT),if_neg (iw h9),if_neg (by omega)]
      refine wo (h:=bA (fun i e H=>(e 2=.adr t.c∧e 3=.adr p.c∧e 8=.own 0 p.vars.toNat∧e 58=.list (p.l.map Slot.c)∧e 59=dI p.l.length∧e 60=dI i)∧(H.get 0=some ⟨4,1,(kZ p.vars.toNat (p.l.take i)).map cB,false⟩)∧(0<H.next)∧(i≤p.l.length)∧(iB (g5 t p) (p.l.drop i)=iB (g5 t p) p.l)) (fun i=>p.l.length - i) 0 ⟨wg,(by (simp [go_sem,Vj])),wn,wi,(by rfl)⟩ fun I0 hI0 i e H hi0=>?_);obtain ⟨E0,g0_0,n0_0,hi,hL⟩:=hi0;have Y:=wa Y (wa E0 (wa g0_0 (wa (bS n0_0) @ET)));refine dR (fun h15=>?_) fun h15=>?_
      ·have hst:=mA (g5 t p) h15
       have hts:=List.take_succ_eq_append_getElem h15;have Y:=wa Y h15;refine wo (h:=aB (KC t ht p (by omega) p.l[i]) wl ?_);refine wo (h:=aK (fun hg=>kI _ _ _) (fun hg=>wl) ?_);refine wo (h:=aK (fun hg=>kI _ _ _) (fun hg=>wl) ?_);refine wo (h:=bB (fun h18=>?_) (fun h18=>?_))
       ·skip
        have hs6:g5 t p p.l[i]=6:=by unfold g5;rw [if_neg];revert h18;cases mT t p p.l[i].node p.l[i].J<;>cases inF p.l[i].y.O (-1) (p.vars - 1)<;>cases inF p.l[i].y.add (-1000000) 1000000<;>simp
        rw [hs6,if_pos (by simp),hL] at hst;exact wv (h:=hQ _ _ (iu hF0 hst))
       ·skip
        have hs0:g5 t p p.l[i]=0:=by unfold g5;rw [if_pos];revert h18;cases mT t p p.l[i].node p.l[i].J<;>cases inF p.l[i].y.O (-1) (p.vars - 1)<;>cases inF p.l[i].y.add (-1000000) 1000000<;>simp
        rw [hs0,if_neg (by simp),hL] at hst;have hlt:=Xk hs0;have hus:=Sp p.vars.toNat (p.l.take i) p.l[i] (by omega);refine dR (fun h20=>?_) fun h20=>?_
        ·have hfin:kZ p.vars.toNat (p.l.take (i+1))=(kZ p.vars.toNat (p.l.take i)).set p.l[i].y.O.toNat true:=by rw [hts,hus,if_pos (by omega)]
         have hvl:p.l[i].y.O.toNat<(kZ p.vars.toNat (p.l.take i)).length:=by rw [ET];omega
         have Y:=wa Y (aA hvl);exact wo (h:=wx hI0 (i+1) ⟨wg,(by (simp [go_sem,Y,cW,hfin])),wn,wj,(by (exact hst.symm))⟩)
        ·have hfin:kZ p.vars.toNat (p.l.take (i+1))=kZ p.vars.toNat (p.l.take i):=by rw [hts,hus,if_neg (by omega)]
         exact wo (h:=wx hI0 (i+1) ⟨wg,(by (simp [go_sem,Y,cW,hfin])),wn,wj,(by (exact hst.symm))⟩)
      ·have hU:List.take i p.l=p.l:=aG (by omega)
       have hz:iB (g5 t p) p.l=0:=by rw [← hL,nM _ (by omega)]
       rw [hU] at g0_0;rw [if_neg (iw hz)] at hF0;have Y:=wa E0 (wa g0_0 (wa (bS n0_0) @ET));refine wv (h:=aB (FG p.vars p.G) wl ?_);refine dR (fun h24=>?_) fun h24=>?_
       ·exact wv (h:=hQ _ _ (by rw [hF0,if_pos (by simpa using h24)];simp [go_sem]))
       ·refine wv (h:=eK (LL (kZ p.vars.toNat p.l) false) wr wl rfl ?_)
        refine dR (fun Rn=>?_) fun Rn=>?_
        ·exact wv (h:=hQ _ _ (by rw [hF0,if_neg (by simpa using h24),if_pos Rn];simp [go_sem]))
        ·exact wv (h:=hQ _ _ (by rw [hF0,if_neg (by simpa using h24),if_neg (by simp [Rn])];simp [go_sem]))
def p8 (t:Types)(x:Edge):Bool:=decide (0<=x.type)&&decide (x.type<t.i.length)
def nC (t:Types)(g:Graph):Bool:=(!(g.h.any λa=>!insideF t a))&&!(g.i.any λx=>!p8 t x)
theorem pO {α:Type}{l:List α}{p:α->Bool}{i:Nat}(h:(l.take i).any p=false)(a:l.length<=i):l.any p=false:=by
 rw [aG a] at h;exact h
theorem vZ (t:Types)(g:Graph):Pua 200 [t.d,g.d] (.bool (nC t g)):=by
 refine Tz.p0 func200 rfl λQ o Y=>?_;refine wv (h:=bA (λi e H=>(e 2=.adr t.c/\e 3=.adr g.c/\e 5=dI i)/\(i<=g.h.length)/\(((g.h.take i).any λa=>!insideF t a)=false)) (λi=>g.h.length - i) 0 ⟨wg,wi,(by rfl)⟩ λC q i e H m=>?_);obtain ⟨y,A,r⟩:=m;have Y:=wa Y y;refine wv (h:=?_);repeat first|intro _|refine ⟨iS,?_⟩
 refine wq (λf=>?_) λf=>?_
 .have Y:=wa Y f;refine eP (λv=>?_) λv=>?_
  .refine wv (h:=?_);have j:(g.h.any λa=>!insideF t a)=true:=bF.2 ⟨_,aC f,by simp [insideF];omega⟩;exact o _ _ (.inl (by simp only [go_sem,nC,j,KT,GT]))
  .exact wo (h:=wx q (i+1) ⟨wg,wj,(by rw [eI _ _ _ f,r];simp [insideF];omega)⟩)
 .have hN:=pO r f;refine wv (h:=bA (λk e H=>(e 2=.adr t.c/\e 3=.adr g.c/\e 6=dI k)/\(k<=g.i.length)/\(((g.i.take k).any λx=>!p8 t x)=false)) (λk=>g.i.length - k) 0 ⟨wg,wi,(by rfl)⟩ λB p k e H l=>?_);obtain ⟨w,z,j⟩:=l;have Y:=wa Y w;refine wv (h:=?_);repeat first|intro _|refine ⟨iS,?_⟩
  refine wq (λb=>?_) λb=>?_
  .have Y:=wa Y b;refine eP (λu=>?_) λu=>?_
   .refine wv (h:=?_);have n:(g.i.any λx=>!p8 t x)=true:=bF.2 ⟨_,aC b,by simp [p8];omega⟩;exact o _ _ (.inl (by simp only [go_sem,nC,n,KT,Bool.and_false]))
   .exact wo (h:=wx p (k+1) ⟨wg,wj,(by rw [eI _ _ _ b,j];simp [p8];omega)⟩)
  .refine wv (h:=?_);have s:=pO j b;exact o _ _ (.inl (by simp only [go_sem,nC,hN,s,Bool.not_false,Bool.and_true]))
theorem Nw {α:Type}{l:List α}{p q:α->Bool}(h:∀ x∈l,p x=q x):l.any p=l.any q:=by grind
theorem dY {g:Graph}(h:graphF g=0):(∀ a∈g.h,0<=a/\a<=99)/\∀ x∈g.i,(0<=x.type/\x.type<=99)/\(0<=x.w/\x.w<g.h.length)/\(0<=x.M/\x.M<g.h.length):=by
 unfold graphF at h;split at h
 .cases h
 .split at h
  .cases h
  .rename_i h1;split at h
   .cases h
   .rename_i h2;simp [jH,wL] at h1 h2;grind
theorem rP {t:Types}{g:Graph}(h:graphF g=0):nC t g=fZ t g:=by
 obtain ⟨c,b⟩:=dY h;unfold nC fZ;congr 2
 .exact Nw λx a=>by have:=c x a;rw [aU];simp [insideF];omega
 .exact Nw λx a=>by have:=b x a;rw [aU];simp [p8];omega
theorem Lr (n:Int):Pua 202 [dI n] (.bool (inF n (-1000000) 1000000)):=by
 refine Tz.p0 func202 rfl λQ a Y=>?_;have Y:=wa Y @inF.eq_1;exact wo (h:=a _ _ wy)
theorem TY {t:Types}{a:Int}(h:¬ given2F t a a=0):bL t a=[]:=by unfold bL;rw [if_neg h]
theorem SX (t:Types)(i:t.ok)(p:Pattern)(a b:Int):Pua 201 [t.d,p.d,dI a,dI b] (.tup [.agg (GM t p a b).c,.bool (mT t p a b)]):=by
 have k:=sB i (p.D a);refine Tz.pK ⟨λt=>t==8,λ_=>[]⟩ func201 rfl (λQ g=>?_);have Y:=trivial;refine eP (λm=>?_) λm=>?_
 .have f:mT t p a b=false:=by rw [bJ];intro h;simp [mT] at h;omega
  exact wv (h:=g _ _ (by simp [go_sem,GM,f,nX]))
 .have hn:a.toNat<p.j.h.length:=aD;have e:p.D a=p.j.h[a.toNat]:=by simp [Pattern.D,hn]
  rw [e] at k;have Y:=xa1 Y (aA hn) e;refine wo (h:=aH (lQ t i p.j.h[a.toNat]) wl ?_);refine eP (λl=>?_) λl=>?_
  .have f:mT t p a b=false:=by
    rw [bJ];intro h;simp [mT,e] at h;by_cases j:given2F t p.j.h[a.toNat] p.j.h[a.toNat]=0
    .omega
    .rw [TY j] at h;simp at h;omega
   exact wv (h:=g _ _ (by simp [go_sem,GM,f,nX]))
  .have ha:b.toNat<(bL t p.j.h[a.toNat]).length:=aD;have f:mT t p a b=true:=by simp [mT,e];omega
   have Y:=wa Y (aA ha);exact wo (h:=g _ _ (by simp [go_sem,GM,f,e,aA ha]))
def kW (p:Pattern)(v:Int):Bool:=p.l.any λs=>decide (s.y.O=v)
theorem Of (p:Pattern)(v:Int):Pua 204 [p.d,dI v] (.bool (kW p v)):=by
 refine Tz.p0 func204 rfl λQ l Y=>?_;refine wv (h:=bA (λi e H=>(e 2=.adr p.c/\e 1=dI v/\e 5=dI i)/\(i<=p.l.length)/\(((p.l.take i).any λs=>decide (s.y.O=v))=false)) (λi=>p.l.length - i) 0 ⟨wg,wi,(by rfl)⟩ λo g i e H b=>?_);obtain ⟨m,n,k⟩:=b;have Y:=wa Y m;refine wv (h:=?_);repeat first|intro _|refine ⟨iS,?_⟩
 refine wq (λa=>?_) λa=>?_
 .have Y:=wa Y a;refine eP (λj=>?_) λj=>?_
  .refine wv (h:=?_);have f:kW p v=true:=bF.2 ⟨_,aC a,by simpa using j⟩;exact l _ _ (.inl (by simp only [go_sem,f]))
  .exact wo (h:=wx g (i+1) ⟨wg,wj,(by rw [eI _ _ _ a,k];simpa using j)⟩)
 .refine wv (h:=?_);have f:kW p v=false:=pO k a;exact l _ _ (.inl (by simp only [go_sem,f]))
theorem L1 (p:Pattern)(n:Nat):mem (kZ n p.l) false=true↔∃ v:Nat,v<n/\kW p v=false:=by
 rw [mem_iff];simp only [kZ,aT,aV,kW]
theorem vX (t:Types)(F:t.ok)(p:Pattern):Pua 122 [t.d,p.d] (dI (c9 t p)):=by
 refine Tz.pK ⟨λt=>t==9||t==10,λ_=>[]⟩ func122 rfl (λQ b=>?_);have Y:=trivial;refine wv (h:=aB (sO t F) wl ?_);refine dR (λm=>?_) λm=>?_
 .exact wv (h:=b _ _ (by simp [go_sem,c9,m]))
 .refine wv (h:=aB (lP p.j) wl ?_);refine dR (λg=>?_) λg=>?_
  .exact wv (h:=b _ _ (by simp [go_sem,c9,m,g]))
  .refine wo (h:=aB (vZ t p.j) wl ?_);refine eP (λk=>?_) λk=>?_
   .rw [rP g] at k;exact wv (h:=b _ _ (by simp [go_sem,c9,m,g,k]))
   .rw [rP g] at k;refine eP (λM=>?_) λM=>?_
    .exact wv (h:=b _ _ (by simp [go_sem,c9,m,g,k,inF];omega))
    .refine eP (λC=>?_) λC=>?_
     .exact wv (h:=b _ _ (by simp [go_sem,c9,m,g,k,inF];omega))
     .have a:c9 t p=if iB (g5 t p) p.l≠0 then 6 else if l6 p.vars p.G≠0 then l6 p.vars p.G else if mem (kZ p.vars.toNat p.l) false=true then 9 else 0:=by
       unfold c9;rw [if_neg (iw m),if_neg (iw g),if_neg (iw k),if_neg (by simp [inF];omega),if_neg aD]
      refine wv (h:=bA (λi e H=>(e 2=.adr t.c/\e 3=.adr p.c/\e 8=dI i)/\(i<=p.l.length)/\(iB (g5 t p) (p.l.drop i)=iB (g5 t p) p.l)) (λi=>p.l.length - i) 0 ⟨wg,wi,(by rfl)⟩ λV B i e H y=>?_);obtain ⟨O,T,z⟩:=y;have Y:=wa Y O;refine eP (λn=>?_) λn=>?_
      .have hst:=mA (g5 t p) n;have Y:=wa Y n;refine wo (h:=aB (SX t F p p.l[i].node p.l[i].J) wl ?_);refine wo (h:=aK (λL=>Lr _) (λL=>wl) ?_);refine wo (h:=bB (λf=>?_) (λf=>?_))
       .skip
        have s:g5 t p p.l[i]=6:=by
         unfold g5;rw [if_neg];intro h;simp [inF] at h;simp [h.1.1,inF] at f;omega
        rw [s,if_pos aE,z] at hst;exact wv (h:=b _ _ (iu a hst))
       .skip
        have u:g5 t p p.l[i]=0:=by
         unfold g5;rw [if_pos];simp [inF] at f ⊢;refine ⟨⟨f.1.1.1,?_⟩,?_⟩<;>omega
        rw [u,if_neg aE,z] at hst;exact wo (h:=wx B (i+1) ⟨wg,wj,(hst.symm)⟩)
      .have hz:iB (g5 t p) p.l=0:=by rw [<- z,nM _ aD]
       rw [if_neg (iw hz)] at a;refine wv (h:=aB (QA p.vars p.G) wl ?_);refine dR (λl=>?_) λl=>?_
       .exact wv (h:=b _ _ (by rw [a,if_pos (bY l)];simp [go_sem]))
       .rw [if_neg (bY l)] at a;refine wv (h:=bA (λv e H=>(e 2=.adr t.c/\e 3=.adr p.c/\e 13=dI v)/\(v<=p.vars.toNat)/\(∀ j:Nat,j<v->kW p j=true)) (λv=>p.vars.toNat - v) 0 ⟨wg,wi,(by intro j S;omega)⟩ λU A v e H x=>?_);obtain ⟨N,R,G⟩:=x;have Y:=wa Y N;refine dR (λq=>?_) λq=>?_
        .have Y:=wa Y q;refine wo (h:=aB (Of p v) wl ?_);refine eP (λE=>?_) λE=>?_
         .exact wv (h:=b _ _ (by rw [a,if_pos ((L1 p _).2 ⟨v,aD,by simpa using E⟩)];simp [go_sem]))
         .exact wo (h:=wx A (v+1) ⟨wg,wj,(lX (p:=λj=>kW p j=true) G (bY E))⟩)
        .refine wv (h:=?_);have K:¬ mem (kZ p.vars.toNat p.l) false=true:=λh=>by
          obtain ⟨w,P,o⟩:=(L1 p _).1 h;rw [G w aD] at o;cases o
         exact b _ _ (by rw [a,if_neg K];simp [go_sem])
end Go.Abs
end
section
namespace Go.Proofs
open Go.Shelf
def Tryz.laysSort_ren:Go.Shelf.Ren:=⟨fun|189=>148|125=>235|257=>234|128=>312|129=>313|294=>303|295=>304|296=>305|297=>306|298=>307|299=>308|216=>309|300=>310|301=>311|328=>364|329=>365|330=>366|331=>367|332=>368|215=>369|343=>402|n=>n,fun|28=>26|3=>3|46=>284|0=>0|51=>346|53=>69|4=>4|183=>340|182=>339|131=>302|5=>5|9=>9|218=>385|222=>389|228=>414|229=>269|n=>n,fun|n=>n⟩
theorem Tryz.laysSort:Go.Proofs.Lays.n189 prog Tryz.laysSort_ren:={
 mixed:=by kernel_rfl
 f125:=func235.trans (congrArg some (by kernel_rfl))
 f128:=func312.trans (congrArg some (by kernel_rfl))
 f129:=func313.trans (congrArg some (by kernel_rfl))
 f189:=func148.trans (congrArg some (by kernel_rfl))
 f215:=func369.trans (congrArg some (by kernel_rfl))
 f216:=func309.trans (congrArg some (by kernel_rfl))
 f257:=func234.trans (congrArg some (by kernel_rfl))
 f294:=func303.trans (congrArg some (by kernel_rfl))
 f295:=func304.trans (congrArg some (by kernel_rfl))
 f296:=func305.trans (congrArg some (by kernel_rfl))
 f297:=func306.trans (congrArg some (by kernel_rfl))
 f298:=func307.trans (congrArg some (by kernel_rfl))
 f299:=func308.trans (congrArg some (by kernel_rfl))
 f300:=func310.trans (congrArg some (by kernel_rfl))
 f301:=func311.trans (congrArg some (by kernel_rfl))
 f328:=func364.trans (congrArg some (by kernel_rfl))
 f329:=func365.trans (congrArg some (by kernel_rfl))
 f330:=func366.trans (congrArg some (by kernel_rfl))
 f331:=func367.trans (congrArg some (by kernel_rfl))
 f332:=func368.trans (congrArg some (by kernel_rfl))
 f343:=func402.trans (congrArg some (by kernel_rfl))
 t0:=underlying0
 a0:=Tryz.isAgg0
 z0:=Tryz.sizeOf0
 v0:=Tryz.zeroValue0
 t3:=underlying3
 a3:=Tryz.isAgg3
 z3:=Tryz.sizeOf3
 v3:=Tryz.zeroValue3
 t4:=underlying4
 a4:=Tryz.isAgg4
 z4:=Tryz.sizeOf4
 v4:=Tryz.zeroValue4
 t5:=underlying5
 a5:=Tryz.isAgg5
 z5:=Tryz.sizeOf5
 v5:=Tryz.zeroValue5
 t9:=underlying9
 a9:=Tryz.isAgg9
 z9:=Tryz.sizeOf9
 v9:=Tryz.zeroValue9
 t28:=underlying26
 a28:=Tryz.isAgg26
 z28:=Tryz.sizeOf26
 v28:=Tryz.zeroValue26
 t46:=underlying284
 a46:=Tryz.isAgg284
 z46:=Tryz.sizeOf284
 v46:=Tryz.zeroValue284
 t51:=underlying346
 a51:=Tryz.isAgg346
 z51:=Tryz.sizeOf346
 v51:=Tryz.zeroValue346
 t53:=underlying69
 a53:=Tryz.isAgg69
 z53:=Tryz.sizeOf69
 v53:=Tryz.zeroValue69
 t131:=underlying302
 a131:=Tryz.isAgg302
 z131:=Tryz.sizeOf302
 v131:=Tryz.zeroValue302
 t182:=underlying339
 a182:=Tryz.isAgg339
 z182:=Tryz.sizeOf339
 v182:=Tryz.zeroValue339
 t183:=underlying340
 a183:=Tryz.isAgg340
 z183:=Tryz.sizeOf340
 v183:=Tryz.zeroValue340
 t218:=underlying385
 a218:=Tryz.isAgg385
 z218:=Tryz.sizeOf385
 v218:=Tryz.zeroValue385
 t222:=underlying389
 a222:=Tryz.isAgg389
 z222:=Tryz.sizeOf389
 v222:=Tryz.zeroValue389
 t228:=underlying414
 a228:=Tryz.isAgg414
 z228:=Tryz.sizeOf414
 v228:=Tryz.zeroValue414
 t229:=underlying269
 a229:=Tryz.isAgg269
 z229:=Tryz.sizeOf269
 v229:=Tryz.zeroValue269 }
def Tryz.laysCompact_ren:Go.Shelf.Ren:=⟨fun|20=>278|n=>n,fun|22=>26|3=>3|4=>4|0=>0|n=>n,fun|n=>n⟩
theorem Tryz.laysCompact:Go.Proofs.Lays2.n20 prog Tryz.laysCompact_ren:={
 mixed:=by kernel_rfl
 f20:=func278.trans (congrArg some (by kernel_rfl))
 t0:=underlying0
 a0:=Tryz.isAgg0
 z0:=Tryz.sizeOf0
 v0:=Tryz.zeroValue0
 t3:=underlying3
 a3:=Tryz.isAgg3
 z3:=Tryz.sizeOf3
 v3:=Tryz.zeroValue3
 t4:=underlying4
 a4:=Tryz.isAgg4
 z4:=Tryz.sizeOf4
 v4:=Tryz.zeroValue4
 t22:=underlying26
 a22:=Tryz.isAgg26
 z22:=Tryz.sizeOf26
 v22:=Tryz.zeroValue26
 i3:=by kernel_rfl }
end Go.Proofs
end
section
set_option maxRecDepth 4000
open Go Go.Proofs Go.Shelf Tryz
namespace Go.Abs
def i7 (xs:V2):V2:=xs.mergeSort λx y=>decide (x<=y)
theorem kM (xs:V2):(i7 xs).length=xs.length:=List.length_mergeSort xs
theorem AC {G:AHeap}{c:Nat}{ty:TypeId}{xs:V2}{Q:D->AHeap->Prop}(o:G.get c=some ⟨ty,1,xs.map cI,false⟩)(t:xs.length<=1000000)
  (q:Q (.tup []) (G.put c ⟨ty,1,(i7 xs).map cI,false⟩)):ACalls prog 148 [.own c xs.length] G Q:=by
 refine Sa ⟨Tryz.f148,func148,rfl,rfl⟩ o (kM xs) (λw v b=>?_) q;rcases b.2 with ⟨rfl,r⟩|⟨g,l,s,rfl,p,a,h,k,j,f⟩
 .have hx:xs=[]:=bM r;subst hx;exact (Any.slices_Sort_int_none Tryz.laysSort none 0 w).mono λe m ⟨i,d⟩=>by
   subst d;exact ⟨i,⟨rfl,rfl,rfl,bC _,λ_ _ _=>rfl⟩,by simpa [Hv,i7] using b⟩
 .have hH:Sort.Holds (Value.int .i64) w g 0 xs.toArray:=holds_of_blockI a (bY f);refine (Any.slices_Sort_int Tryz.laysSort g 0 l xs w hH (tH.1 a).1 aD).mono λe m ⟨i,n,os,d⟩=>?_;subst d;refine ⟨i,grownBy_sortedI _,?_⟩;have:=ownsRow_sortedI (n:=n) (os:=os) (ts:=i7 xs) (kM xs) p a h k (bY j);unfold Hv;rw [kM];exact this
theorem C7 (zs:V2):(Lib.compact zs).length<=zs.length:=by
 unfold Lib.compact Lib.compactUpTo;grind
theorem Bi {G:AHeap}{f:Nat}{ty:TypeId}{xs:V2}{Q:D->AHeap->Prop}(t:G.get f=some ⟨ty,1,xs.map cI,false⟩)(A:xs.length<=1000000)
  (x:∀ k,Q (.list ((Lib.compact xs).map cI)) (G.put f k)):ACalls prog 278 [.own f xs.length] G Q:=by
 have p:=C7 xs;have c:(Lib.compact xs++List.replicate (xs.length - (Lib.compact xs).length) 0).length=xs.length:=by simp;omega
 refine O6 (zs:=Lib.compact xs++List.replicate (xs.length - (Lib.compact xs).length) 0) (m:=(Lib.compact xs).length) ⟨Tryz.f278,func278,rfl,rfl⟩ t c p (λw v a=>?_) (by rw [List.take_left];exact x _);rcases a.2 with ⟨rfl,y⟩|⟨g,r,z,rfl,u,b,d,o,l,i⟩
 .have hx:xs=[]:=bM y;subst hx;exact (Any.slices_Compact_int_empty Tryz.laysCompact none 0 w).mono λe s ⟨j,h⟩=>by
   subst h;exact ⟨⟨_,j,.inl ⟨rfl,rfl⟩⟩,⟨rfl,rfl,rfl,bC _,λ_ _ _=>rfl⟩,by simpa [Hv,Lib.compact,Lib.compactUpTo] using a⟩
 .have hH:Sort.Holds (Value.int .i64) w g 0 xs.toArray:=holds_of_blockI b (bY i);refine (Any.slices_Compact_int Tryz.laysCompact g 0 r xs w hH aD d).mono λe s ⟨j,q,h⟩=>?_;subst h;refine ⟨⟨_,j,.inr ⟨_,_,_,rfl,rfl⟩⟩,?_,?_⟩
  .have:=grownBy_sortedI (w:=w) (g:=g) (n:=q) (os:=#[]) (Lib.compact xs++List.replicate (xs.length - (Lib.compact xs).length) 0).toArray;exact this
  .have:=ownsRow_sortedI (n:=q) (os:=#[]) (ts:=Lib.compact xs++List.replicate (xs.length - (Lib.compact xs).length) 0) c u b d o (bY l);rw [Sort.grow_empty] at this;unfold Hv;grind
def imagesN (xs:V2):Nat:=(Lib.compact (i7 xs)).length
theorem z6 (xs:V2)(b:xs.length<=1000000):Pua 359 [dLI xs] (dI (imagesN xs)):=by
 have a:=kM xs;refine Tz.p0 func359 rfl λQ c Y=>?_;refine wv (h:=kU (gL xs b) wl ?_);refine wv (h:=?_);unfold fT;refine AC (ty:=3) (xs:=xs) eq b ?_;refine wo (h:=?_);unfold fT;rw [show xs.length=(i7 xs).length from a.symm];refine Bi (ty:=3) (xs:=i7 xs) eq aD λk=>?_;have Y:=wa Y @imagesN.eq_1;exact wo (h:=c _ _ wy)
end Go.Abs
end
section
set_option maxRecDepth 100000
set_option maxHeartbeats 4000000
open Go Go.Proofs Tryz
namespace Go.Abs
theorem xL (xs:V2):(i7 xs).Pairwise (·<=·):=by
 have:=List.pairwise_mergeSort (le:=λ(x y:Int)=>decide (x<=y)) (λa b c e d=>by simp at *;omega) (λa b=>by simp;omega) xs;exact this.imp λh=>by simpa using h
theorem A7 (xs:V2):imagesN xs=xs.length↔xs.Nodup:=by
 have f:(i7 xs).Perm xs:=vM xs _;rw [<- f.nodup_iff,<- kM xs];unfold imagesN Lib.compact Lib.compactUpTo;rw [aR];have b:=dF.1 (xL xs);generalize i7 xs=s at *;have d:(List.filter (Lib.keeps s.toArray) (List.range s.length)).length=s.length↔∀ j,j<s.length->Lib.keeps s.toArray j=true:=by
  have:=List.length_filter_eq_length_iff (p:=Lib.keeps s.toArray) (l:=List.range s.length);grind
 rw [d];have e:∀ j (a:j<s.length),Lib.keeps s.toArray j=true↔(j=0\/s[j]≠s[j - 1]' aD):=λj a=>by
  simp only [Lib.keeps,decide_eq_true_eq];grind
 constructor
 .intro h;rw [e8,dF];intro i j k a g;rcases (e j a).1 (h j a) with h0|h0
  .omega
  .have h1:=b (j - 1) j aD a aD;by_cases c:i=j - 1
   .subst c;omega
   .have h2:=b i (j - 1) k aD aD;omega
 .intro h j a;rw [e j a];by_cases h0:j=0
  .exact .inl h0
  .right
   intro m;have:=(i6 h).1 m;omega
def cH:Edge:=⟨0,0,0⟩
def lT (a b:Graph)(m:Part)(i:Nat):Int :=
 if m.h[i]?.getD 0<0\/(b.h.length:Int)<=m.h[i]?.getD 0 then 6
 else if b.h[(m.h[i]?.getD 0).toNat]?.getD 0≠a.h[i]?.getD 0 then 13 else 0
def mapEE (a b:Graph)(m:Part)(i:Nat):Int :=
 if m.i[i]?.getD 0<0\/(b.i.length:Int)<=m.i[i]?.getD 0 then 6
 else if (a.i[i]?.getD cH).type≠(b.i[(m.i[i]?.getD 0).toNat]?.getD cH).type then 13
 else if m.h[(a.i[i]?.getD cH).w.toNat]?.getD 0≠(b.i[(m.i[i]?.getD 0).toNat]?.getD cH).w\/m.h[(a.i[i]?.getD cH).M.toNat]?.getD 0≠(b.i[(m.i[i]?.getD 0).toNat]?.getD cH).M then 11 else 0
def eR (a b:Graph)(m:Part):Int :=
 if graphF a≠0 then graphF a
 else if graphF b≠0 then graphF b
 else if m.h.length≠a.h.length\/m.i.length≠a.i.length then 20
 else if bW (lT a b m) 0 a.h.length≠0 then bW (lT a b m) 0 a.h.length
 else bW (mapEE a b m) 0 a.i.length
theorem qW (a b:Graph)(m:Part):Pua 297 [a.d,b.d,m.d] (dI (eR a b m)):=by
 refine Tz.pK ⟨λt=>t==13||t==14,λr=>match r with|22=>[(0,10),(1,10),(3,10),(4,10),(5,10),(6,10),(8,10),(9,10),(0,11),(1,11),(3,11),(4,11),(5,11),(6,11),(8,11),(9,11),(10,11),(5,12),(6,12),(8,12),(9,12)]|_=>[]⟩ func297 rfl (λQ l=>?_);have Y:=trivial;refine wv (h:=aB (oA a) wl ?_);refine dR (λo=>?_) λo=>?_
 .exact wv (h:=l _ _ (.inl (by simp [go_sem,eR,o])))
 .refine wv (h:=aB (oA b) wl ?_);refine dR (λw=>?_) λw=>?_
  .exact wv (h:=l _ _ (.inl (by simp [go_sem,eR,o,w])))
  .refine eP (λO=>?_) λO=>?_
   .exact wv (h:=l _ _ (.inl (by simp [go_sem,eR,o,w,(aD:m.h.length≠a.h.length\/m.i.length≠a.i.length)])))
   .have x:eR a b m=(if bW (lT a b m) 0 a.h.length≠0 then bW (lT a b m) 0 a.h.length else bW (mapEE a b m) 0 a.i.length):=by
     unfold eR;rw [if_neg (iw o),if_neg (iw w),if_neg aD]
    have N:=bK o;have M:=bK w;have z:=(dY o).2;refine wo (h:=bA (λi e H=>(e 3=.adr a.c/\e 4=.adr b.c/\e 5=.adr m.c/\e 42=dLI m.h/\e 43=dI m.h.length/\e 44=dI i)/\(i<=m.h.length)/\(bW (lT a b m) i (a.h.length - i)=bW (lT a b m) 0 a.h.length)) (λi=>m.h.length - i) 0 ⟨wg,wi,(by rfl)⟩ λW D i e H B=>?_);obtain ⟨R,U,I⟩:=B;have Y:=wa Y R;refine dR (λs=>?_) λs=>?_
    .have hn:i<a.h.length:=aD;have f:=fR (lT a b m) hn;rw [I] at f;have j:lT a b m i=(if m.h[i]<0\/(b.h.length:Int)<=m.h[i] then 6 else if b.h[m.h[i].toNat]?.getD 0≠a.h[i] then 13 else 0):=by simp only [lT,aA s,aA hn,Option.getD_some]
     have Y:=xa1 Y s hn;refine eP (λG=>?_) λG=>?_
     .rw [if_pos aD] at j;rw [j,if_pos aD] at f;exact wv (h:=l _ _ (.inl (iu x f)))
     .have hkb:m.h[i].toNat<b.h.length:=aD;rw [if_neg aD,aA hkb,Option.getD_some] at j;have Y:=wa Y (aA hkb);refine eP (λq=>?_) λq=>?_
      .rw [if_pos q] at j;rw [j,if_pos aD] at f;exact wv (h:=l _ _ (.inl (iu x f)))
      .rw [if_neg (bY q)] at j;rw [j,if_neg aD] at f;exact wo (h:=wx D (i+1) ⟨wg,wj,(f.symm)⟩)
    .have hN0:bW (lT a b m) 0 a.h.length=0:=by rw [<- I,(aD:a.h.length - i=0)];rfl
     rw [hN0,if_neg aD] at x;refine wo (h:=bA (λk e H=>(e 3=.adr a.c/\e 4=.adr b.c/\e 5=.adr m.c/\e 71=dLI m.i/\e 72=dI m.i.length/\e 73=dI k)/\(k<=m.i.length)/\(bW (mapEE a b m) k (a.i.length - k)=eR a b m)) (λk=>m.i.length - k) 0 ⟨wg,wi,(x.symm)⟩ λV C k e H A=>?_);obtain ⟨P,T,J⟩:=A;have Y:=wa Y P;refine dR (λp=>?_) λp=>?_
     .have hn:k<a.i.length:=aD;have f:=fR (mapEE a b m) hn;rw [J] at f;have S:=z _ (aC hn);have v:a.i[k].w.toNat<m.h.length:=aD;have u:a.i[k].M.toNat<m.h.length:=aD;have g:mapEE a b m k=(if m.i[k]<0\/(b.i.length:Int)<=m.i[k] then 6 else if a.i[k].type≠(b.i[m.i[k].toNat]?.getD cH).type then 13 else if m.h[a.i[k].w.toNat]≠(b.i[m.i[k].toNat]?.getD cH).w\/m.h[a.i[k].M.toNat]≠(b.i[m.i[k].toNat]?.getD cH).M then 11 else 0):=by
       simp only [mapEE,aA p,aA hn,Option.getD_some,aA v,aA u]
      have Y:=xa3 Y p hn (aA v) (aA u);refine eP (λF=>?_) λF=>?_
      .rw [if_pos aD] at g;rw [g,if_pos aD] at f;exact wv (h:=l _ _ (.inl (by simp [go_sem,<- f])))
      .have hkb:m.i[k].toNat<b.i.length:=aD;rw [if_neg aD,aA hkb,Option.getD_some] at g;have Y:=wa Y (aA hkb);refine eP (λn=>?_) λn=>?_
       .rw [if_pos n] at g;rw [g,if_pos aD] at f;exact wv (h:=l _ _ (.inl (by simp [go_sem,<- f])))
       .rw [if_neg (bY n)] at g;refine eP (λE=>?_) λE=>?_
        .rw [if_pos aD] at g;rw [g,if_pos aD] at f;exact wv (h:=l _ _ (.inl (by simp [go_sem,<- f])))
        .rw [if_neg aD] at g;rw [g,if_neg aD] at f;exact wo (h:=wx C (k+1) ⟨wg,wj,(f.symm)⟩)
     .exact wv (h:=l _ _ (.inl (by rw [<- J,(aD:a.i.length - k=0)];rfl)))
def BW (a b:Graph)(m:Part):Bool:=decide (eR a b m=0)&&(decide m.h.Nodup&&decide m.i.Nodup)
theorem kS {a b:Graph}{m:Part}(h:eR a b m=0):graphF a=0/\graphF b=0/\m.h.length=a.h.length/\m.i.length=a.i.length:=by grind [eR]
theorem MT (xs:V2):((imagesN xs:Int)==(xs.length:Int))=decide xs.Nodup:=by
 rw [aU];simp only [beq_iff_eq,decide_eq_true_eq];rw [<- A7];omega
theorem uY (a b:Graph)(m:Part)(g:m.h.length<=1000000)(f:m.i.length<=1000000):Pua 298 [a.d,b.d,m.d] (.bool (BW a b m)):=by
 refine Tz.p0 func298 rfl λQ e _=>?_;have Y:=@MT;refine wo (h:=aH (qW a b m) wl ?_);refine wo (h:=dM (λc=>z6 m.h g) (λc=>wl) ?_);refine wo (h:=dM (λc=>z6 m.i f) (λc=>wl) ?_);exact wo (h:=e _ _ (by simp [go_sem,BW,mW]))
end Go.Abs
end
