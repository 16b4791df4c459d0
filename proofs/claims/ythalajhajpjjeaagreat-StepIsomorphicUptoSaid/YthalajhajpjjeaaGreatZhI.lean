/- Layer 4: lines of types, what fits. · Layer 4: attributes of -/
import Derived.Test.YthalajhajpjjeaaGreatZhF
import Derived.Test.YthalajhajpjjeaaGreatZhA
import Derived.Test.YthalajhajpjjeaaGreatZhH
import Derived.Ground.NamesProg
import Derived.Ground.Names2Prog
import Derived.Shelf.Sort.Plain
import Derived.Shelf.Slices.CompactI
import Derived.Shelf.Slices.In.SortNone
import Derived.Test.YthalajhajpjjeaaGreatProg
set_option linter.unusedVariables false
set_option linter.unusedSimpArgs false
section
set_option maxRecDepth 100000
set_option maxHeartbeats 4000000
open Go Go.Proofs
namespace Go.Abs
def I7 (t:Types)(k:Nat):List Int:=if k=0 then [] else t.line (k - 1)
theorem OA {xs a:List Int}{i:Nat}(d:a.length=xs.length)(e:xs.length<=2 * i+1)(c:∀ j,j<xs.length->a[j]?=if j<i\/xs.length - i<=j then xs[xs.length - 1 - j]? else xs[j]?):a=xs.reverse:=by
 apply eZ
 intro j
 by_cases b:j<xs.length
 .rw [c j b,List.getElem?_reverse b]
  split
  .rfl
  .rename_i hc
   rw [(aD:j=xs.length - 1 - j)]
   congr 1;omega
 .rw [bE aD,bE (by simp;omega)]
theorem LX (G:AHeap)(id:Nat)(xs:List Int)(c:G.get id=some ⟨3,1,xs.map cI,false⟩)(F:xs.length<=100000)(Q:D->AHeap->Prop)
  (E:∀ H',H'.get id=some ⟨3,1,xs.reverse.map cI,false⟩->(∀ j,j≠id->H'.get j=G.get j)->G.next<=H'.next->Q (.tup []) H'):ACalls Tryz.prog 434 [.own id xs.length] G Q:=by
 refine (aG (cfg:=⟨λ_=>false,λ_=>[]⟩) Tz.mixed Tryz.func434 rfl rfl (aE rfl) (by kernel_rfl) ?_)
 try simp [go_sem,seval,c]
 repeat first|intro _|refine ⟨gL,?_⟩
 obtain ⟨x,k⟩:∃ x:Nat->dA->AHeap->Prop,∀ (i:Nat) (e:dA) (H:AHeap),x i e H↔(∃ b:List Int,(e 0=.own id xs.length)/\(e 2=dI i)/\(e 3=dI ((xs.length:Int) - 1 - i))/\(H.get id=some ⟨3,1,b.map cI,false⟩)/\(∀ j,j≠id->H.get j=G.get j)/\(G.next<=H.next)/\(b.length=xs.length)/\(∀ j,j<xs.length->b[j]?=if j<i\/xs.length - i<=j then xs[xs.length - 1 - j]? else xs[j]?)):=⟨λi e H=>_,λ_ _ _=>Iff.rfl⟩
 refine oR x (λi=>xs.length - i) (0) ((k _ _ _).2 ⟨(xs),?_,?_,?_,(by exact c),(by exact λ_ _=>rfl),(by exact bC _),(by first|assumption|omega|(simp [go_sem,c];done)|(simp_all;done)),(by intro j h;simp;omega)⟩) ?_
 iterate 3 (first|omega|(simp [go_sem,seval,c]<;>omega))
 intro i e H w
 obtain ⟨b,o,n,m,l,q,u,s,t⟩:=(k _ _ _).1 w
 have r:=And.intro o (And.intro n m)
 try simp [go_sem,seval,c,r,l]
 refine aP (λd=>?_) (λd=>?_)
 .try simp [go_sem] at d
  have h:xs.length - 1 - i<b.length:=aD
  have a:i<b.length:=aD
  have f:((xs.length:Int) - 1 - i).toNat=xs.length - 1 - i:=aD
  have g:∀ j,j<xs.length->((b.set i (b[xs.length - 1 - i]?.getD 0)).set (xs.length - 1 - i) (b[i]?.getD 0))[j]?=if j<i+1\/xs.length - (i+1)<=j then xs[xs.length - 1 - j]? else xs[j]?:=λj v=>by
   have d:=t j v
   have C:=t i aD
   have B:=t (xs.length - 1 - i) aD
   rw [aA a] at C
   rw [aA h] at B
   rw [cE,cE,aA a,aA h]
   by_cases A:xs.length - 1 - i=j
   .rw [if_pos A,if_pos (by simp;omega),if_pos aD]
    simp only [Option.getD_some]
    rw [C,if_neg aD];congr 1;omega
   .rw [if_neg A]
    by_cases z:i=j
    .rw [if_pos z,if_pos aD,if_pos aD]
     simp only [Option.getD_some]
     rw [B,if_neg aD];congr 1;omega
    .rw [if_neg z,d]
     by_cases y:j<i\/xs.length - i<=j
     .rw [if_pos y,if_pos aD]
     .rw [if_neg y,if_neg aD]
  try simp [go_sem,seval,c,r,l,d,f,aA h,aA a,s,cE,(aD:i≠xs.length - 1 - i)]
  repeat first|intro _|refine ⟨gL,?_⟩
  refine dN (i+1) aD ((k _ _ _).2 ⟨((b.set i (b[xs.length - 1 - i]?.getD 0)).set (xs.length - 1 - i) (b[i]?.getD 0)),?_,?_,?_,(by simp [go_sem,l,dU,aA h,aA a]),(by intro j p;simp [go_sem,p,q j p]),(by simp [go_sem];omega),(by first|assumption|omega|(simp [go_sem,c,r,l,d,f,aA h,aA a,s,cE,(aD:i≠xs.length - 1 - i)];done)|(simp_all<;>omega)),(by exact g)⟩)<;>first|omega|(simp [go_sem,seval,c,r,l,d,f,aA h,aA a,s,cE,(aD:i≠xs.length - 1 - i)]<;>omega)
 .try simp [go_sem] at d
  have:=OA s aD t
  subst this
  try simp [go_sem,seval,c,r,l]
  exact E _ l q u
theorem Oa (t:Types)(C:t.ok)(l:t.valid)(a:Nat)(F:a<t.nodes.length):Pure Tryz.prog 381 [t.d,dI a] (.list ((t.line a).map cI)):=by
 have w:=l.fewN
 refine Tz.pK ⟨λt=>t==5,λ_=>[]⟩ Tryz.func381 rfl (λQ z=>?_)
 have Y:=trivial
 refine wv (h:=bV (λk e H=>∃ b:List Int,(e 2=.adr t.c/\e 1=dI ((k:Int) - 1)/\e 5=.own 0 b.length)/\(H.get 0=some ⟨3,1,b.map cI,false⟩)/\(0<H.next)/\(k<=t.nodes.length)/\(b.length+k<=12)/\(I7 t k++b.reverse=t.line a)) (λk=>k) (a+1) ⟨([]),wg,wn,wn,wi,(by simp;omega),(by simp [I7])⟩ λG s k e H r=>?_)
 obtain ⟨b,B,g,i,D,E,j⟩:=r
 have Y:=wa Y (wa B (wa g (b8 i)))
 refine d7 (λx=>?_) λx=>?_
 .have hk0:0<k:=aD
  have f:k - 1<t.nodes.length:=aD
  have u:=l.parent (k - 1) _ (aA f)
  have v:=l.low (k - 1) _ (aA f)
  have n:((k:Int) - 1).toNat=k - 1:=aD
  have o:=yP t (k - 1) f (l.parentsOK _)
  have q:I7 t k=I7 t (t.nodes[k - 1].parent+1).toNat++[(k:Int) - 1]:=by
   unfold I7
   rw [if_neg (aD:¬ k=0),o]
   by_cases y:0<=t.nodes[k - 1].parent
   .rw [if_pos y,if_neg aD,(aD:(t.nodes[k - 1].parent+1).toNat - 1=t.nodes[k - 1].parent.toNat)]
    congr 2;omega
   .rw [if_neg y,if_pos aD]
    simp;omega
  have Y:=wa Y (wa x (wa n f))
  exact wo (h:=wx s ((t.nodes[k - 1].parent+1).toNat) ⟨(b++[(k:Int) - 1]),wg,wn,wn,wj,(by simp;omega),(by rw [q] at j;rw [<- j];simp)⟩)
 .have hk0:k=0:=aD
  subst hk0
  have p:(t.line a).length=b.length:=by rw [<- j];simp [I7]
  have m:(b.map cI).reverse=(t.line a).map cI:=by rw [<- List.map_reverse,<- j];rfl
  refine wv (h:=?_)
  unfold g5;refine LX _ _ b g aD _ λI A _ _=>?_
  exact wv (h:=z _ _ (by simp [go_sem,A,m,p]))
theorem Fk (t:Types)(f:t.ok)(e:t.valid)(a b:Int)(i:0<=a)(j:a<t.nodes.length):Pure Tryz.prog 324 [t.d,dI a,dI b] (.bool (mem (t.line a.toNat) b)):=by
 have c:=Oa t f e a.toNat aD
 rw [Int.toNat_of_nonneg i] at c
 refine Tz.pK ⟨λ_=>false,λ_=>[]⟩ Tryz.func324 rfl (λQ g=>?_)
 have Y:=trivial
 refine wv (h:=aB (c) wl ?_)
 refine wv (h:=aB (fF _ _) wl ?_)
 exact wv (h:=g _ _ wy)
def kS (t:Types)(edge a b:Int):Bool:=decide (given2F t a b=0)&&(decide (0<=edge)&&decide (edge<t.edges.length)) &&
 (mem (t.line a.toNat) (match t.edges[edge.toNat]? with|some x=>x.from_|none=>0)&&mem (t.line b.toNat) (match t.edges[edge.toNat]? with|some x=>x.to_|none=>0))
theorem p7 {t:Types}{a b:Int}(h:given2F t a b=0):t.valid/\(0<=a/\a<t.nodes.length)/\(0<=b/\b<t.nodes.length):=by
 unfold given2F at h
 split at h
 .rename_i h1;exact absurd h h1
 .rename_i h1
  split at h
  .rename_i h2;simp [insideF] at h2;exact ⟨mR (bS h1),h2.1,h2.2⟩
  .cases h
theorem Fl (t:Types)(g:t.ok)(c a b:Int):Pure Tryz.prog 229 [t.d,dI c,dI a,dI b] (.bool (kS t c a b)):=by
 refine Tz.pK ⟨λ_=>false,λ_=>[]⟩ Tryz.func229 rfl (λQ j=>?_)
 have Y:=trivial
 refine wo (h:=aB (xV t g [a,b]) wl ?_)
 refine f9 (λf=>?_) λf=>?_
 .rw [Jg] at f
  exact wv (h:=j _ _ (by simp [go_sem,kS];intros;omega))
 .rw [Jg] at f
  obtain ⟨i,l,k⟩:=p7 f.1.1
  have e:c.toNat<t.edges.length:=aD
  have Y:=wa Y (aA e)
  refine wo (h:=aM (Fk t g i _ _ l.1 l.2) wl ?_)
  refine wo (h:=eP (λm=>Fk t g i _ _ k.1 k.2) (λm=>wl) ?_)
  exact wo (h:=j _ _ (by simp [go_sem,kS,f,aA e]))
theorem uW (l:List Int)(x b:Int):mem (l++[x]) b=(mem l b||decide (b=x)):=by
 rw [aX,cO,cQ,cQ];simp
theorem zS (b:Int):mem ([]:List Int) b=false:=by rw [bN];intro h;rw [cQ] at h;cases h
theorem U2 (t:Types)(a b:Int)(g:a<0)(f:0<=b):Pure Tryz.prog 266 [t.d,dI a,dI b] (.bool false):=by
 refine Tz.pK ⟨λ_=>false,λ_=>[]⟩ Tryz.func266 rfl (λQ e=>?_)
 have Y:=wa (aD:¬ 0<=a) (aD:¬ a=b)
 refine wo (h:=?_)
 refine eP (r:=.bool false) (λc=>by simp at c) (λc=>by simp at c) ?_
 exact wo (h:=e _ _ wy)
theorem vS (t:Types)(i:t.valid)(b:Int)(m:0<=b):∀ a:Nat,a<t.nodes.length->Pure Tryz.prog 266 [t.d,dI a,dI b] (.bool (mem (t.line a) b)):=by
 intro a
 induction a using Nat.strongRecOn with
 | _ a ih =>
 intro c
 have j:=i.parent a _ (aA c)
 have e:=yP t a c (i.parentsOK a)
 have l:Pure Tryz.prog 266 [t.d,dI t.nodes[a].parent,dI b] (.bool (mem (if 0<=t.nodes[a].parent then t.line t.nodes[a].parent.toNat else []) b)):=by
  by_cases g:0<=t.nodes[a].parent
  .rw [if_pos g]
   have:=ih t.nodes[a].parent.toNat aD aD
   rwa [Int.toNat_of_nonneg g] at this
  .rw [if_neg g,zS]
   exact U2 t _ _ aD m
 rw [e,uW]
 refine Tz.pK ⟨λ_=>false,λ_=>[]⟩ Tryz.func266 rfl (λQ n=>?_)
 have f:decide ((a:Int)=b)=decide (b=(a:Int)):=by rw [aX];simp;omega
 have Y:=wa (aA c) c
 refine wo (h:=eP (λk=>l) (λk=>wl) ?_)
 exact wo (h:=n _ _ (.inl (by simp only [go_sem,f,Bool.or_comm])))
theorem F1 (t:Types)(m:t.ok)(c a b:Int):Pure Tryz.prog 172 [t.d,dI c,dI a,dI b] (.bool (kS t c a b)):=by
 have o:=m.fewE
 refine Tz.pK ⟨λ_=>false,λ_=>[]⟩ Tryz.func172 rfl (λQ n=>?_)
 have Y:=trivial
 refine wo (h:=aB (DX t m a b) wl ?_)
 refine wo (h:=aO (λl=>mT _ _ _) (λl=>wl) ?_)
 refine wo (h:=aP (λj=>?_) (λj=>?_))
 .skip
  simp [inF] at j
  exact wv (h:=n _ _ (by simp [go_sem,kS];intros;omega))
 .skip
  simp [inF] at j
  obtain ⟨k,q,p⟩:=p7 j.1
  have f:c.toNat<t.edges.length:=aD
  have e:=k.ends _ (aC f)
  simp [insideF] at e
  have i:=vS t k t.edges[c.toNat].from_ e.1.1 a.toNat aD
  have g:=vS t k t.edges[c.toNat].to_ e.2.1 b.toNat aD
  rw [Int.toNat_of_nonneg q.1] at i
  rw [Int.toNat_of_nonneg p.1] at g
  have Y:=wa Y (aA f)
  refine wo (h:=aM (i) wl ?_)
  refine wo (h:=eP (λl=>g) (λl=>wl) ?_)
  exact wo (h:=n _ _ (by simp [go_sem,kS,j,aA f];omega))
attribute [go_sem] Slot.c Test.c Pattern.c Pattern.d Part.c Part.d Stage.c
theorem C5 {P:Program}{f:FuncId}{ty:TypeId}{sz:Nat}(g:Own P f [.nil] ty sz [])(m:Own P f [.ne] ty sz []):Own P f [.list []] ty sz []:=by
 refine ⟨g.1,λM w b e l=>?_⟩
 obtain ⟨k,i⟩:=l
 match b,k with
 | [v],_ =>
  have h:=i 0 v _ rfl rfl
  cases h with
  | listN=>exact g.2 M w _ e ⟨rfl,λj u d a c=>by
    match j with
    | 0=>simp at a c;subst a;subst c;exact .nil
    | j+1=>simp at a⟩
  | list ad cap sz xs es hc hm=>exact m.2 M w _ e ⟨rfl,λj u d a c=>by
    match j with
    | 0=>simp at a c;subst a;subst c;exact .ne ad cap hm
    | j+1=>simp at a⟩
theorem PA:Own Tryz.prog 240 [.nil] 3 1 []:=by
 refine Tz.oK ⟨λt=>t==2||t==5,λ_=>[]⟩ Tryz.func240 rfl (λQ a=>?_)
 have Y:=trivial
 refine wv (h:=?_)
 exact a _ _ _ (by simp [go_sem]<;>first|omega|(rw [aX];simp<;>omega)|(simp_all<;>omega)) (by simp [go_sem]<;>first|omega|(rw [aX];simp<;>omega)|(simp_all<;>omega))
theorem Py:Own Tryz.prog 240 [.ne] 3 1 []:=by
 refine Tz.oK ⟨λt=>t==2||t==5,λ_=>[]⟩ Tryz.func240 rfl (λQ a=>?_)
 have Y:=trivial
 refine wo (h:=?_)
 exact a _ _ _ (by simp [go_sem]<;>first|omega|(rw [aX];simp<;>omega)|(simp_all<;>omega)) (by simp [go_sem]<;>first|omega|(rw [aX];simp<;>omega)|(simp_all<;>omega))
theorem Pz (l:List Int)(c:l.length<=1000000)(a:l≠[]):Own Tryz.prog 240 [.list (l.map cI)] 3 1 (l.map cI):=by
 refine Tz.oK ⟨λt=>t==2||t==5,λ_=>[]⟩ Tryz.func240 rfl (λQ b=>?_)
 have Y:=a
 refine wo (h:=?_)
 exact b _ _ _ (by simp [go_sem,a]<;>first|omega|(rw [aX];simp<;>omega)|(simp_all<;>omega)) (by simp [go_sem,a]<;>first|omega|(rw [aX];simp<;>omega)|(simp_all<;>omega))
theorem kK (l:List Int)(b:l.length<=1000000):Own Tryz.prog 240 [.list (l.map cI)] 3 1 (l.map cI):=by
 by_cases a:l=[]
 .subst a;exact C5 PA Py
 .exact Pz l b a
theorem Px:Own Tryz.prog 337 [.nil] 9 1 []:=by
 refine Tz.oK ⟨λt=>t==2||t==5,λ_=>[]⟩ Tryz.func337 rfl (λQ a=>?_)
 have Y:=trivial
 refine wv (h:=?_)
 exact a _ _ _ (by simp [go_sem]<;>first|omega|(rw [aX];simp<;>omega)|(simp_all<;>omega)) (by simp [go_sem]<;>first|omega|(rw [aX];simp<;>omega)|(simp_all<;>omega))
theorem Pv:Own Tryz.prog 337 [.ne] 9 1 []:=by
 refine Tz.oK ⟨λt=>t==2||t==5,λ_=>[]⟩ Tryz.func337 rfl (λQ a=>?_)
 have Y:=trivial
 refine wo (h:=?_)
 exact a _ _ _ (by simp [go_sem]<;>first|omega|(rw [aX];simp<;>omega)|(simp_all<;>omega)) (by simp [go_sem]<;>first|omega|(rw [aX];simp<;>omega)|(simp_all<;>omega))
theorem Pw (l:List ByteArray)(c:l.length<=1000000)(a:l≠[]):Own Tryz.prog 337 [.list (l.map cS)] 9 1 (l.map cS):=by
 refine Tz.oK ⟨λt=>t==2||t==5,λ_=>[]⟩ Tryz.func337 rfl (λQ b=>?_)
 have Y:=a
 refine wo (h:=?_)
 exact b _ _ _ (by simp [go_sem,a]<;>first|omega|(rw [aX];simp<;>omega)|(simp_all<;>omega)) (by simp [go_sem,a]<;>first|omega|(rw [aX];simp<;>omega)|(simp_all<;>omega))
theorem RZ (l:List ByteArray)(b:l.length<=1000000):Own Tryz.prog 337 [.list (l.map cS)] 9 1 (l.map cS):=by
 by_cases a:l=[]
 .subst a;exact C5 Px Pv
 .exact Pw l b a
def bM (t:Types)(a:Int):List Attr:=if given2F t a a=0 then t.attrs a.toNat else []
theorem rF (t:Types)(a:Int):givenF t [a]=given2F t a a:=by
 unfold givenF given2F;cases b:insideF t a<;>simp [b]
theorem rY {t:Types}{a:Int}(h:given2F t a a=0):t.valid/\0<=a/\a<t.nodes.length:=⟨(p7 h).1,(p7 h).2.1⟩
theorem pS (t:Types)(l:t.ok)(a:Int):Pure Tryz.prog 245 [t.d,dI a] (.tup [.list ((bM t a).map Attr.c),dI (given2F t a a)]):=by
 refine Tz.pK ⟨λ_=>false,λ_=>[]⟩ Tryz.func245 rfl (λQ q=>?_)
 have Y:=trivial
 refine wv (h:=aB (xV t l [a]) wl ?_)
 refine d7 (λf=>?_) λf=>?_
 .rw [rF] at f
  exact wv (h:=q _ _ (by simp [go_sem,rF,bM,f]))
 .rw [rF] at f
  obtain ⟨p,s,w⟩:=rY f
  have j:=DK t l a.toNat aD (p.parentsOK _)
  rw [Int.toNat_of_nonneg s] at j
  have m:∀ x∈t.attrs a.toNat,x.ok:=vG t.nodes l.nodes _ _
  have r:=p.attrs a.toNat aD
  refine wv (h:=kY (j) wl ?_)
  refine wo (h:=bV (λi e H=>(e 2=.adr t.c/\e 1=dI a/\e 7=.own 0 (t.attrs a.toNat).length/\e 20=dI (t.attrs a.toNat).length/\e 21=dI i)/\(H.get 0=some ⟨118,4,(t.attrs a.toNat).map Attr.c,false⟩)/\(0<H.next)/\(i<=(t.attrs a.toNat).length)) (λi=>(t.attrs a.toNat).length - i) 0 ⟨wg,(by simp [go_sem]),wn,wi⟩ λy o i e H n=>?_)
  obtain ⟨u,b,g,v⟩:=n
  have Y:=wa Y (wa u (wa b (b8 g)))
  refine d7 (λk=>?_) λk=>?_
  .have hset:((t.attrs a.toNat).map Attr.c).set i (((t.attrs a.toNat).map Attr.c)[i]'(bS k))=(t.attrs a.toNat).map Attr.c:=List.set_getElem_self _
   simp [go_sem] at hset
   have Y:=wa Y k
   refine wo (h:=aB ((RZ (t.attrs a.toNat)[i].names (by have:=(m _ (aC k)).few;omega)).pure) wl ?_)
   exact wo (h:=wx o (i+1) ⟨wg,(by simp [go_sem,b,hset]),wn,wj⟩)
  .exact wv (h:=q _ _ (by simp [go_sem,b,bM,f]))
theorem sV (t:Types)(m:t.ok)(a:Int):Pure Tryz.prog 48 [t.d,dI a] (.tup [.list ((bM t a).map Attr.c),dI (given2F t a a)]):=by
 refine Tz.pK ⟨λt=>t==7||t==10||t==31||t==1000000,λ_=>[]⟩ Tryz.func48 rfl (λQ r=>?_)
 have Y:=trivial
 refine wv (h:=aB (DX t m a a) wl ?_)
 refine d7 (λk=>?_) λk=>?_
 .exact wv (h:=r _ _ (by simp [go_sem,bM,k]))
 .obtain ⟨q,v,z⟩:=rY k
  have g:=DZ t m a.toNat aD (q.parentsOK _)
  rw [Int.toNat_of_nonneg v] at g
  have n:∀ x∈t.attrs a.toNat,x.ok:=vG t.nodes m.nodes _ _
  have s:=q.attrs a.toNat aD
  refine wv (h:=aB (g) wl ?_)
  refine wv (h:=bV (λi e H=>(e 2=.adr t.c/\e 1=dI a/\e 7=.own 0 ((t.attrs a.toNat).take i).length/\e 8=.list ((t.attrs a.toNat).map Attr.c)/\e 9=dI i)/\(H.get 0=some ⟨118,4,((t.attrs a.toNat).take i).map Attr.c,false⟩)/\(0<H.next)/\(i<=(t.attrs a.toNat).length)) (λi=>(t.attrs a.toNat).length - i) 0 ⟨wg,(by simp [go_sem]),wn,wi⟩ λA p i e H o=>?_)
  obtain ⟨w,b,f,y⟩:=o
  have Y:=wa Y (wa w (wa b (b8 f)))
  refine f9 (λj=>?_) λj=>?_
  .have hts:=List.take_succ_eq_append_getElem (l:=(t.attrs a.toNat).map Attr.c) (i:=i) (bS j)
   simp [go_sem] at hts
   have u:=(n _ (aC j)).few
   have Y:=wa Y j
   exact wo (h:=wx p (i+1) ⟨wg,(by simp [go_sem,b,hts]),wn,wj⟩)
  .exact wv (h:=r _ _ (by simp [go_sem,b,bM,k,(aD:i=(t.attrs a.toNat).length)]))
def jS (t:Types)(a:Int):List Int:=if given2F t a a=0 then ((List.range t.nodes.length).filter λ(b:Nat)=>mem (t.line b) a).map λ(b:Nat)=>(b:Int) else []
theorem cV (p:Nat->Bool)(i:Nat):((List.range (i+1)).filter p).map (λ(b:Nat)=>(b:Int))=((List.range i).filter p).map (λ(b:Nat)=>(b:Int))++(if p i=true then [(i:Int)] else []):=by
 rw [bK,gA,List.map_append]
 congr 1
 by_cases h:p i=true<;>simp [h]
theorem Lt (t:Types)(q:t.ok)(a:Int):Pure Tryz.prog 386 [t.d,dI a] (.tup [dLI (jS t a),dI (given2F t a a)]):=by
 refine Tz.pK ⟨λt=>t==7,λ_=>[]⟩ Tryz.func386 rfl (λQ r=>?_)
 have Y:=trivial
 refine wv (h:=aB (xV t q [a]) wl ?_)
 refine d7 (λj=>?_) λj=>?_
 .rw [rF] at j
  exact wv (h:=r _ _ (by simp [go_sem,rF,jS,j]))
 .rw [rF] at j
  obtain ⟨p,z,y⟩:=rY j
  have x:=p.fewN
  refine wo (h:=bV (λi e H=>∃ g:List Int,(e 2=.adr t.c/\e 1=dI a/\e 7=.own 0 g.length/\e 18=dI t.nodes.length/\e 19=dI i)/\(H.get 0=some ⟨3,1,g.map cI,false⟩)/\(0<H.next)/\(i<=t.nodes.length)/\(g.length<=i)/\(g=((List.range i).filter λ(b:Nat)=>mem (t.line b) a).map (λ(b:Nat)=>(b:Int)))) (λi=>t.nodes.length - i) 0 ⟨([]),wg,wn,wn,wi,aF,(by rfl)⟩ λA l i e H n=>?_)
  obtain ⟨g,u,f,k,w,v,m⟩:=n
  have Y:=wa Y (wa u (wa f (b8 k)))
  refine d7 (λs=>?_) λs=>?_
  .have Y:=wa Y s
   refine wv (h:=aB (Fk t q p i a aD aD) wl ?_)
   refine d7 (λo=>?_) λo=>?_
   .have Y:=wa Y o
    exact wo (h:=wx l (i+1) ⟨(g++(if mem (t.line i) a=true then [(i:Int)] else [])),wg,wn,wn,wj,(by rw [aJ];split<;>simp<;>omega),(by rw [cV,<- m])⟩)
   .have Y:=wa Y o
    exact wo (h:=wx l (i+1) ⟨(g++(if mem (t.line i) a=true then [(i:Int)] else [])),wg,wn,wn,wj,(by rw [aJ];split<;>simp<;>omega),(by rw [cV,<- m])⟩)
  .exact wv (h:=r _ _ (by simp [go_sem,f,jS,j];rw [m,(aD:i=t.nodes.length)];simp))
def fM {α:Type}(f:α->Int):List α->Int
 | []=>0
 | x :: l=>if f x≠0 then f x else fM f l
theorem j9 {α:Type}(f:α->Int){l:List α}{i:Nat}(h:i<l.length):fM f (l.drop i)=if f l[i]≠0 then f l[i] else fM f (l.drop (i+1)):=by
 rw [gJ h];rfl
theorem lB {α:Type}(f:α->Int){l:List α}{i:Nat}(h:¬ i<l.length):fM f (l.drop i)=0:=by
 rw [gH aD];rfl
def termB (n:Int)(x:Term):Bool:=decide (-1<=x.var)&&decide (x.var<n)&&decide (-1000000<=x.add)&&decide (x.add<=1000000)
theorem w7 (n:Int)(x:Term):Pure Tryz.prog 428 [dI n,.agg [dI x.var,dI x.add]] (.bool (termB n x)):=by
 refine Tz.pK ⟨λ_=>false,λ_=>[]⟩ Tryz.func428 rfl (λQ a=>?_)
 have Y:=trivial
 have Y:=wa Y @termB.eq_1
 exact wo (h:=a _ _ wy)
def qL (n:Int)(x:Test):Int:=if x.kind≠1/\x.kind≠2 then 1 else if (termB n x.left&&termB n x.right)=true then 0 else 6
theorem G1 (n:Int)(x:Test):Pure Tryz.prog 370 [dI n,.agg x.c] (dI (qL n x)):=by
 refine Tz.pK ⟨λ_=>false,λ_=>[]⟩ Tryz.func370 rfl (λQ d=>?_)
 have Y:=trivial
 refine f9 (λg=>?_) λg=>?_
 .exact wv (h:=d _ _ (by simp [go_sem,qL];omega))
 .refine wo (h:=aB (w7 n x.left) wl ?_)
  refine wo (h:=aO (λf=>w7 n x.right) (λf=>wl) ?_)
  refine f9 (λe=>?_) λe=>?_
  .exact wv (h:=d _ _ (by revert e;cases b:termB n x.left<;>cases a:termB n x.right<;>simp [go_sem,qL,b,a]<;>omega))
  .exact wv (h:=d _ _ (by revert e;cases b:termB n x.left<;>cases a:termB n x.right<;>simp [go_sem,qL,b,a]<;>omega))
def iF (n:Int)(l:List Test):Int:=if n<0\/12<n then 6 else if 40<l.length then 3 else fM (qL n) l
theorem Ds (n:Int)(l:List Test):Pure Tryz.prog 310 [dI n,.list (l.map Test.c)] (dI (iF n l)):=by
 refine Tz.pK ⟨λt=>t==6,λ_=>[]⟩ Tryz.func310 rfl (λQ a=>?_)
 have Y:=trivial
 refine f9 (λm=>?_) λm=>?_
 .exact wv (h:=a _ _ (by simp [go_sem,iF];omega))
 .refine f9 (λk=>?_) λk=>?_
  .exact wv (h:=a _ _ (by simp [go_sem,iF];omega))
  .refine wo (h:=bV (λi e H=>(e 0=dI n/\e 17=.list (l.map Test.c)/\e 18=dI l.length/\e 19=dI i)/\(i<=l.length)/\(fM (qL n) (l.drop i)=iF n l)) (λi=>l.length - i) 0 ⟨wg,wi,(by rw [iF,if_neg aD,if_neg aD];rfl)⟩ λq d i e H b=>?_)
   obtain ⟨o,p,j⟩:=b
   have Y:=wa Y o
   refine d7 (λg=>?_) λg=>?_
   .have hst:=j
    rw [j9 _ g] at hst
    have Y:=wa Y g
    refine wo (h:=aB (G1 n l[i]) wl ?_)
    refine f9 (λf=>?_) λf=>?_
    .exact wv (h:=a _ _ (by rw [if_pos (bS f)] at hst;simp [go_sem,hst]))
    .exact wo (h:=wx d (i+1) ⟨wg,wj,(by rw [if_neg (by simp [f])] at hst;exact hst)⟩)
   .exact wv (h:=a _ _ (by rw [<- j,lB _ aD];simp [go_sem]))
def xU (n:Int)(x:Term):Int:=if termB n x=true then 0 else 6
theorem BM (n:Int)(x:Term):Pure Tryz.prog 417 [dI n,.agg [dI x.var,dI x.add]] (dI (xU n x)):=by
 refine Tz.pK ⟨λ_=>false,λ_=>[]⟩ Tryz.func417 rfl (λQ a=>?_)
 have Y:=trivial
 refine f9 (λb=>?_) λb=>?_
 .exact wv (h:=a _ _ (by simp [go_sem,xU,termB];omega))
 .exact wv (h:=a _ _ (by simp [go_sem,xU,termB];omega))
theorem Q8 (n:Int)(x:Test):Pure Tryz.prog 360 [dI n,.agg x.c] (dI (qL n x)):=by
 refine Tz.pK ⟨λ_=>false,λ_=>[]⟩ Tryz.func360 rfl (λQ b=>?_)
 have Y:=trivial
 refine f9 (λf=>?_) λf=>?_
 .exact wv (h:=b _ _ (by simp [go_sem,qL];omega))
 .refine wv (h:=aB (BM n x.left) wl ?_)
  refine d7 (λd=>?_) λd=>?_
  .exact wv (h:=b _ _ (by revert d;cases a:termB n x.left<;>simp [go_sem,qL,xU,a]<;>omega))
  .refine wv (h:=aB (BM n x.right) wl ?_)
   exact wv (h:=b _ _ (by revert d;cases a:termB n x.left<;>cases e:termB n x.right<;>simp [go_sem,qL,xU,a,e]<;>omega))
theorem Mj (n:Int)(l:List Test):Pure Tryz.prog 290 [dI n,.list (l.map Test.c)] (dI (iF n l)):=by
 refine Tz.pK ⟨λ_=>false,λ_=>[]⟩ Tryz.func290 rfl (λQ a=>?_)
 have Y:=trivial
 refine f9 (λm=>?_) λm=>?_
 .exact wv (h:=a _ _ (by simp [go_sem,iF];omega))
 .refine f9 (λk=>?_) λk=>?_
  .exact wv (h:=a _ _ (by simp [go_sem,iF];omega))
  .refine wv (h:=bV (λi e H=>(e 0=dI n/\e 1=.list (l.map Test.c)/\e 5=dI i)/\(i<=l.length)/\(fM (qL n) (l.drop i)=iF n l)) (λi=>l.length - i) 0 ⟨wg,wi,(by rw [iF,if_neg aD,if_neg aD];rfl)⟩ λq d i e H b=>?_)
   obtain ⟨o,p,j⟩:=b
   have Y:=wa Y o
   refine f9 (λg=>?_) λg=>?_
   .have hst:=j
    rw [j9 _ g] at hst
    have Y:=wa Y g
    refine wo (h:=aB (Q8 n l[i]) wl ?_)
    refine f9 (λf=>?_) λf=>?_
    .exact wv (h:=a _ _ (by rw [if_pos (bS f)] at hst;simp [go_sem,hst]))
    .exact wo (h:=wx d (i+1) ⟨wg,wj,(by rw [if_neg (by simp [f])] at hst;exact hst)⟩)
   .exact wv (h:=a _ _ (by rw [<- j,lB _ aD];simp [go_sem]))
theorem jH (n b a:Int):Pure Tryz.prog 308 [dI n,dI b,dI a] (.bool (inF n b a)):=by
 refine Tz.pK ⟨λ_=>false,λ_=>[]⟩ Tryz.func308 rfl (λQ c=>?_)
 have Y:=trivial
 have Y:=wa Y @inF.eq_1
 exact wo (h:=c _ _ wy)
def mQ:Attr:=⟨⟨#[]⟩,0,0,[]⟩
def Pattern.kind (p:Pattern)(node:Int):Int:=p.graph.nodes[node.toNat]?.getD 0
def lJ (t:Types)(p:Pattern)(node attr:Int):Bool:=decide (0<=node)&&decide (node<p.graph.nodes.length)&&(decide (0<=attr)&&decide (attr<(bM t (p.kind node)).length))
def Es (t:Types)(p:Pattern)(node attr:Int):Attr:=if lJ t p node attr=true then (bM t (p.kind node))[attr.toNat]?.getD mQ else mQ
theorem r9 {t:Types}(c:t.ok)(a:Int):(bM t a).length<=8:=by
 unfold bM
 split
 .rename_i h
  obtain ⟨b,e,d⟩:=rY h
  exact b.attrs _ aD
 .simp
theorem Hm (t:Types)(i:t.ok)(p:Pattern)(m:p.graph.nodes.length<=1000)(s:Slot):Pure Tryz.prog 309 [t.d,p.d,.agg s.c] (.tup [.agg (Es t p s.node s.attr).c,.bool (lJ t p s.node s.attr)]):=by
 have l:=r9 i (p.kind s.node)
 refine Tz.pK ⟨λt=>t==6,λ_=>[]⟩ Tryz.func309 rfl (λQ e=>?_)
 have Y:=trivial
 refine wo (h:=aB (jH _ _ _) wl ?_)
 refine f9 (λg=>?_) λg=>?_
 .simp [inF] at g
  have b:lJ t p s.node s.attr=false:=by rw [bN];intro h;simp [lJ] at h;omega
  exact wv (h:=e _ _ (by simp [go_sem,Es,b,mQ]))
 .simp [inF] at g
  have j:s.node.toNat<p.graph.nodes.length:=aD
  have a:p.kind s.node=p.graph.nodes[s.node.toNat]:=by simp [Pattern.kind,j]
  rw [a] at l
  have Y:=wa Y (wa (aA j) a)
  refine wo (h:=aM (pS t i p.graph.nodes[s.node.toNat]) wl ?_)
  refine wo (h:=aB (jH _ _ _) wl ?_)
  refine f9 (λf=>?_) λf=>?_
  .simp [inF] at f
   have b:lJ t p s.node s.attr=false:=by rw [bN];intro h;simp [lJ,a] at h;omega
   exact wv (h:=e _ _ (by simp [go_sem,Es,b,mQ]))
  .simp [inF] at f
   have k:s.attr.toNat<(bM t p.graph.nodes[s.node.toNat]).length:=aD
   have b:lJ t p s.node s.attr=true:=by simp [lJ,a];omega
   have Y:=wa Y (aA k)
   exact wo (h:=e _ _ (by simp [go_sem,Es,b,a,aA k]))
def cB (b:Bool):List D:=[.bool b]
@[go_sem] theorem YY (l:List Bool):D.clLL (l.map cB)=true:=c8 cB (λ_=>rfl) l
attribute [go_sem] cB
theorem O7 (xs:List Bool)(v:Bool):Pure Tryz.prog 371 [.list (xs.map cB),.bool v] (dI (idx xs v)):=by
 refine Tz.pK ⟨λ_=>false,λ_=>[]⟩ Tryz.func371 rfl (λQ g=>?_)
 have Y:=trivial
 refine wv (h:=?_)
 repeat first|intro _|refine ⟨gL,?_⟩
 refine bV (λi e H=>(e 0=.list (xs.map cB)/\e 1=.bool v/\e 7=dI xs.length/\e 8=dI i)/\(i<=xs.length)/\(∀ j,j<i->xs[j]?≠some v)) (λi=>xs.length - i) 0 ⟨wg,wi,(by intro j k;omega)⟩ λn d i e H c=>?_
 obtain ⟨l,m,a⟩:=c
 have Y:=wa Y l
 refine d7 (λb=>?_) λb=>?_
 .have Y:=wa Y b
  refine wv (h:=?_)
  repeat first|intro _|refine ⟨gL,?_⟩
  refine wq (λf=>?_) λf=>?_
  .exact wv (h:=g _ _ (by rw [u3 a (by rw [aA b,f])];simp [go_sem]))
  .refine wv (h:=?_)
   repeat first|intro _|refine ⟨gL,?_⟩
   exact wx d (i+1) ⟨wg,wj,(by exact mB a (by rw [aA b];simpa using λh=>f h.symm))⟩
 .exact wv (h:=g _ _ (by rw [B9 λj k=>a j aD];simp [go_sem]))
theorem Ie (xs:List Bool)(v:Bool):Pure Tryz.prog 311 [.list (xs.map cB),.bool v] (.bool (mem xs v)):=by
 refine Tz.pK ⟨λ_=>false,λ_=>[]⟩ Tryz.func311 rfl (λQ a=>?_)
 have Y:=trivial
 refine wv (h:=aB (O7 xs v) wl ?_)
 have Y:=wa Y @mem.eq_1
 exact wv (h:=a _ _ wy)
def dP (t:Types)(g:Graph):Bool:=(!(g.nodes.any λn=>decide ((t.nodes.length:Int)<=n)))&&!(g.edges.any λx=>decide ((t.edges.length:Int)<=x.type))
theorem DA (t:Types)(a:Int):Pure Tryz.prog 305 [dI a,.adr t.c] (.bool (decide ((t.nodes.length:Int)<=a))):=by
 refine Tz.pK ⟨λ_=>false,λ_=>[]⟩ Tryz.func305 rfl (λQ b=>?_)
 have Y:=trivial
 exact wo (h:=b _ _ wy)
theorem Dz (t:Types)(x:Edge):Pure Tryz.prog 307 [.agg x.c,.adr t.c] (.bool (decide ((t.edges.length:Int)<=x.type))):=by
 refine Tz.pK ⟨λ_=>false,λ_=>[]⟩ Tryz.func307 rfl (λQ a=>?_)
 have Y:=trivial
 exact wo (h:=a _ _ wy)
def jQ (n:Nat)(l:List Slot):List Bool:=(List.range n).map λ(v:Nat)=>l.any λs=>decide (s.term.var=v)
theorem dD (n:Nat)(l:List Slot):(jQ n l).length=n:=by simp [jQ]
theorem QN (n:Nat):jQ n []=List.replicate n false:=by
 apply eW (by simp [jQ]);intro i b a;simp [jQ]
theorem QM (n:Nat)(l:List Slot)(s:Slot)(d:0<=s.term.var)(c:s.term.var<n):jQ n (l++[s])=(jQ n l).set s.term.var.toNat true:=by
 apply eW (by simp [jQ]);intro i b a
 rw [Al]
 simp only [jQ,jB,oO,Bp,List.any_cons,List.any_nil,nU]
 split
 .rename_i h;rw [cO];right;simp;omega
 .rename_i h;rw [show decide (s.term.var=(i:Int))=false by simp;omega,nU]
theorem QO (n:Nat)(l:List Slot)(s:Slot)(c:¬ 0<=s.term.var):jQ n (l++[s])=jQ n l:=by
 apply eW (by simp [jQ]);intro i b a
 simp only [jQ,jB,oO,Bp,List.any_cons,List.any_nil,nU]
 rw [show decide (s.term.var=(i:Int))=false by simp;omega,nU]
theorem N8 (n:Nat)(l:List Slot)(s:Slot)(a:s.term.var<n):jQ n (l++[s])=if 0<=s.term.var then (jQ n l).set s.term.var.toNat true else jQ n l:=by
 split
 .exact QM n l s ‹_› a
 .exact QO n l s ‹_›
def gK (t:Types)(p:Pattern)(s:Slot):Int:=if (lJ t p s.node s.attr&&inF s.term.var (-1) (p.vars - 1)&&inF s.term.add (-1000000) 1000000)=true then 0 else 6
def bR (t:Types)(p:Pattern):Int :=
 if (cH t).2≠0 then (cH t).2
 else if graphF p.graph≠0 then graphF p.graph
 else if dP t p.graph=false then 13
 else if inF p.vars 0 12=false then 6
 else if 10<p.slots.length\/10<p.tests.length then 3
 else if fM (gK t p) p.slots≠0 then 6
 else if iF p.vars p.tests≠0 then iF p.vars p.tests
 else if mem (jQ p.vars.toNat p.slots) false=true then 9 else 0
theorem cJ {g:Graph}(h:graphF g=0):g.nodes.length<=40/\g.edges.length<=80:=by
 unfold graphF at h
 split at h
 .cases h
 .omega
theorem SC {t:Types}{p:Pattern}{s:Slot}(h:gK t p s=0):s.term.var<p.vars/\-1<=s.term.var:=by
 unfold gK at h
 split at h
 .rename_i h1;simp [inF] at h1;omega
 .cases h
theorem mW (t:Types)(ht:t.ok)(p:Pattern):Pure Tryz.prog 222 [t.d,p.d] (dI (bR t p)):=by
 refine Tz.pK ⟨λt=>t==10||t==11,λ_=>[]⟩ Tryz.func222 rfl (λQ hQ=>?_)
 try simp [go_sem,seval]
 refine aB (nC t ht) ((by first|rfl|(simp [go_sem,<- List.map_take,<- List.map_drop];done))) ?_
 try simp [go_sem,seval]
 refine aP (λh2=>?_) (λh2=>?_)
 .try simp [go_sem] at h2
  try simp [go_sem,seval]
  exact hQ _ _ (by first|(left;(simp [go_sem,bR,h2]);done)|(right;(simp [go_sem,bR,h2]);done))
 .try simp [go_sem] at h2
  try simp [go_sem,seval]
  refine aB (l7 p.graph) ((by first|rfl|(simp [go_sem,<- List.map_take,<- List.map_drop];done))) ?_
  try simp [go_sem,seval]
  refine aP (λh5=>?_) (λh5=>?_)
  .try simp [go_sem] at h5
   try simp [go_sem,seval]
   exact hQ _ _ (by first|(left;(simp [go_sem,bR,h2,h5]);done)|(right;(simp [go_sem,bR,h2,h5]);done))
  .try simp [go_sem] at h5
   have hg:=cJ h5
   try simp [go_sem,seval]
   repeat first|intro _|refine ⟨gL,?_⟩
   refine aB (fT p.graph.nodes 305 [.adr t.c] (λa=>decide ((t.nodes.length:Int)<=a)) (by simp [go_sem]) (by simp [go_sem]) (λa _=>DA t a)) ((by first|rfl|(simp [go_sem,<- List.map_take,<- List.map_drop];done))) ?_
   try simp [go_sem,seval]
   repeat first|intro _|refine ⟨gL,?_⟩
   refine aO (λhg=>kX p.graph.edges 307 [.adr t.c] (λx=>decide ((t.edges.length:Int)<=x.type)) (by simp [go_sem]) (by simp [go_sem]) (λx _=>Dz t x)) (λhg=>(by first|rfl|(simp [go_sem,<- List.map_take,<- List.map_drop];done))) ?_
   try simp [go_sem,seval]
   repeat first|intro _|refine ⟨gL,?_⟩
   refine aP (λh7=>?_) (λh7=>?_)
   .try simp [go_sem] at h7
    have hT:dP t p.graph=false:=by
     simp [dP]
     intro h'
     rcases h7 with ⟨x,hx,hl⟩|h
     .exact absurd (h' x hx) aD
     .exact h
    try simp [go_sem,seval]
    exact hQ _ _ (by first|(left;(simp [go_sem,bR,h2,h5,hT]);done)|(right;(simp [go_sem,bR,h2,h5,hT]);done))
   .try simp [go_sem] at h7
    have hT:dP t p.graph=true:=by simp [dP];exact h7
    try simp [go_sem,seval]
    repeat first|intro _|refine ⟨gL,?_⟩
    refine aB (jH _ _ _) ((by first|rfl|(simp [go_sem,<- List.map_take,<- List.map_drop];done))) ?_
    try simp [go_sem,seval]
    repeat first|intro _|refine ⟨gL,?_⟩
    refine aP (λh9=>?_) (λh9=>?_)
    .try simp [go_sem] at h9
     try simp [go_sem,seval]
     exact hQ _ _ (by first|(left;(simp [go_sem,bR,h2,h5,hT,h9]);done)|(right;(simp [go_sem,bR,h2,h5,hT,h9]);done))
    .try simp [go_sem] at h9
     try simp [go_sem,seval]
     repeat first|intro _|refine ⟨gL,?_⟩
     refine aP (λh11=>?_) (λh11=>?_)
     .try simp [go_sem] at h11
      try simp [go_sem,seval]
      exact hQ _ _ (by first|(left;(simp [go_sem,bR,h2,h5,hT,h9];omega);done)|(right;(simp [go_sem,bR,h2,h5,hT,h9];omega);done))
     .try simp [go_sem] at h11
      have hin:=h9
      simp [inF] at hin
      have hF0:bR t p=if fM (gK t p) p.slots≠0 then 6 else if iF p.vars p.tests≠0 then iF p.vars p.tests else if mem (jQ p.vars.toNat p.slots) false=true then 9 else 0:=by
       unfold bR
       rw [if_neg (by simp [h2]),if_neg (by simp [h5]),if_neg (by simp [hT]),if_neg (by simp [h9]),if_neg aD]
      try simp [go_sem,seval]
      repeat first|intro _|refine ⟨gL,?_⟩
      obtain ⟨I0,hI0⟩:∃ I0:Nat->dA->AHeap->Prop,∀ (i:Nat) (e:dA) (H:AHeap),I0 i e H↔((e 2=.adr t.c)/\(e 3=.adr p.c)/\(e 8=.own 0 p.vars.toNat)/\(e 58=.list (p.slots.map Slot.c))/\(e 59=dI p.slots.length)/\(e 60=dI i)/\(H.get 0=some ⟨4,1,(jQ p.vars.toNat (p.slots.take i)).map cB,false⟩)/\(0<H.next)/\(i<=p.slots.length)/\(fM (gK t p) (p.slots.drop i)=fM (gK t p) p.slots)):=⟨λi e H=>_,λ_ _ _=>Iff.rfl⟩
      refine oR I0 (λi=>p.slots.length - i) (0) ((hI0 _ _ _).2 ⟨?_,?_,?_,?_,?_,?_,(by simp [go_sem,QN]),?_,(by first|assumption|omega|(simp [go_sem];done)|(simp_all;done)),(by rfl)⟩) ?_
      iterate 7 (first|omega|(simp [go_sem,seval]<;>omega))
      intro i e H hi0
      obtain ⟨q2_0,q3_0,q8_0,q58_0,q59_0,q60_0,g0_0,n0_0,hi,hL⟩:=(hI0 _ _ _).1 hi0
      have x0:=b8 n0_0
      have F0:=And.intro q2_0 (And.intro q3_0 (And.intro q8_0 (And.intro q58_0 (And.intro q59_0 (And.intro q60_0 x0)))))
      try simp [go_sem,seval,F0,g0_0,dD]
      refine aP (λh15=>?_) (λh15=>?_)
      .try simp [go_sem] at h15
       have hst:=j9 (gK t p) h15
       have hts:=List.take_succ_eq_append_getElem h15
       try simp [go_sem,seval,F0,g0_0,dD,h15]
       repeat first|intro _|refine ⟨gL,?_⟩
       refine aB (Hm t ht p aD p.slots[i]) ((by first|rfl|(simp [go_sem,<- List.map_take,<- List.map_drop,F0,g0_0,dD,h15];done))) ?_
       try simp [go_sem,seval,F0,g0_0,dD,h15]
       repeat first|intro _|refine ⟨gL,?_⟩
       refine aO (λhg=>jH _ _ _) (λhg=>(by first|rfl|(simp [go_sem,<- List.map_take,<- List.map_drop,F0,g0_0,dD,h15];done))) ?_
       try simp [go_sem,seval,F0,g0_0,dD,h15]
       repeat first|intro _|refine ⟨gL,?_⟩
       refine aO (λhg=>jH _ _ _) (λhg=>(by first|rfl|(simp [go_sem,<- List.map_take,<- List.map_drop,F0,g0_0,dD,h15];done))) ?_
       try simp [go_sem,seval,F0,g0_0,dD,h15]
       repeat first|intro _|refine ⟨gL,?_⟩
       refine aP (λh18=>?_) (λh18=>?_)
       .skip
        have hs6:gK t p p.slots[i]=6:=by unfold gK;rw [if_neg];revert h18;cases lJ t p p.slots[i].node p.slots[i].attr<;>cases inF p.slots[i].term.var (-1) (p.vars - 1)<;>cases inF p.slots[i].term.add (-1000000) 1000000<;>simp
        rw [hs6,if_pos aF,hL] at hst
        try simp [go_sem,seval,F0,g0_0,dD,h15]
        exact hQ _ _ (by first|(left;(simp [go_sem,hF0,hst]);done)|(right;(simp [go_sem,hF0,hst]);done))
       .skip
        have hs0:gK t p p.slots[i]=0:=by unfold gK;rw [if_pos];revert h18;cases lJ t p p.slots[i].node p.slots[i].attr<;>cases inF p.slots[i].term.var (-1) (p.vars - 1)<;>cases inF p.slots[i].term.add (-1000000) 1000000<;>simp
        rw [hs0,if_neg aF,hL] at hst
        have hlt:=SC hs0
        have hus:=N8 p.vars.toNat (p.slots.take i) p.slots[i] aD
        try simp [go_sem,seval,F0,g0_0,dD,h15]
        refine aP (λh20=>?_) (λh20=>?_)
        .try simp [go_sem] at h20
         have hfin:jQ p.vars.toNat (p.slots.take (i+1))=(jQ p.vars.toNat (p.slots.take i)).set p.slots[i].term.var.toNat true:=by rw [hts,hus,if_pos aD]
         have hvl:p.slots[i].term.var.toNat<(jQ p.vars.toNat (p.slots.take i)).length:=by rw [dD];omega
         try simp [go_sem,seval,F0,g0_0,dD,h15,aA hvl]
         repeat first|intro _|refine ⟨gL,?_⟩
         refine dN (i+1) aD ((hI0 _ _ _).2 ⟨?_,?_,?_,?_,?_,?_,(by simp [go_sem,F0,g0_0,dD,h15,aA hvl,dU,hfin]),?_,(by first|assumption|omega|(simp [go_sem,F0,g0_0,dD,h15,aA hvl,h2,h5,h7,h9,h11,h18,h20];done)|(simp_all<;>omega)),(by exact hst.symm)⟩)<;>first|omega|(simp [go_sem,seval,F0,g0_0,dD,h15,aA hvl]<;>omega)
        .try simp [go_sem] at h20
         have hfin:jQ p.vars.toNat (p.slots.take (i+1))=jQ p.vars.toNat (p.slots.take i):=by rw [hts,hus,if_neg aD]
         try simp [go_sem,seval,F0,g0_0,dD,h15]
         repeat first|intro _|refine ⟨gL,?_⟩
         refine dN (i+1) aD ((hI0 _ _ _).2 ⟨?_,?_,?_,?_,?_,?_,(by simp [go_sem,F0,g0_0,dD,h15,dU,hfin]),?_,(by first|assumption|omega|(simp [go_sem,F0,g0_0,dD,h15,h2,h5,h7,h9,h11,h18,h20];done)|(simp_all<;>omega)),(by exact hst.symm)⟩)<;>first|omega|(simp [go_sem,seval,F0,g0_0,dD,h15]<;>omega)
      .try simp [go_sem] at h15
       have hU:List.take i p.slots=p.slots:=aY aD
       have hz:fM (gK t p) p.slots=0:=by rw [<- hL,lB _ aD]
       rw [hU] at g0_0
       rw [if_neg (by simp [hz])] at hF0
       try simp [go_sem,seval,F0,g0_0,dD]
       refine aB (Ds p.vars p.tests) ((by first|rfl|(simp [go_sem,<- List.map_take,<- List.map_drop,F0,g0_0,dD];done))) ?_
       try simp [go_sem,seval,F0,g0_0,dD]
       refine aP (λh24=>?_) (λh24=>?_)
       .try simp [go_sem] at h24
        try simp [go_sem,seval,F0,g0_0,dD]
        exact hQ _ _ (by first|(left;(rw [hF0,if_pos (bS h24)];simp [go_sem]);done)|(right;(rw [hF0,if_pos (bS h24)];simp [go_sem]);done))
       .try simp [go_sem] at h24
        try simp [go_sem,seval,F0,g0_0,dD]
        refine iG (Ie (jQ p.vars.toNat p.slots) false) (by simp [EC,BE,fP,go_sem,<- List.map_take,<- List.map_drop,F0,g0_0,dD]) ((by first|rfl|(simp [go_sem,<- List.map_take,<- List.map_drop,F0,g0_0,dD];done))) ( rfl) ?_
        try simp [go_sem,seval,F0,g0_0,dD]
        refine aP (λGO=>?_) (λGO=>?_)
        .try simp [go_sem] at GO
         try simp [go_sem,seval,F0,g0_0,dD]
         exact hQ _ _ (by first|(left;(rw [hF0,if_neg (bS h24),if_pos GO];simp [go_sem]);done)|(right;(rw [hF0,if_neg (bS h24),if_pos GO];simp [go_sem]);done))
        .try simp [go_sem] at GO
         try simp [go_sem,seval,F0,g0_0,dD]
         exact hQ _ _ (by first|(left;(rw [hF0,if_neg (bS h24),if_neg (by simp [GO])];simp [go_sem]);done)|(right;(rw [hF0,if_neg (bS h24),if_neg (by simp [GO])];simp [go_sem]);done))
def nJ (t:Types)(x:Edge):Bool:=decide (0<=x.type)&&decide (x.type<t.edges.length)
def kT (t:Types)(g:Graph):Bool:=(!(g.nodes.any λa=>!insideF t a))&&!(g.edges.any λx=>!nJ t x)
theorem pO {α:Type}{l:List α}{p:α->Bool}{i:Nat}(h:(l.take i).any p=false)(a:l.length<=i):l.any p=false:=by
 rw [aY a] at h;exact h
theorem yD (t:Types)(g:Graph):Pure Tryz.prog 287 [t.d,g.d] (.bool (kT t g)):=by
 refine Tz.pK ⟨λ_=>false,λ_=>[]⟩ Tryz.func287 rfl (λQ o=>?_)
 have Y:=trivial
 refine wv (h:=bV (λi e H=>(e 2=.adr t.c/\e 3=.adr g.c/\e 5=dI i)/\(i<=g.nodes.length)/\(((g.nodes.take i).any λa=>!insideF t a)=false)) (λi=>g.nodes.length - i) 0 ⟨wg,wi,(by rfl)⟩ λC q i e H m=>?_)
 obtain ⟨y,A,r⟩:=m
 have Y:=wa Y y
 refine wv (h:=?_)
 repeat first|intro _|refine ⟨gL,?_⟩
 refine wq (λf=>?_) λf=>?_
 .have Y:=wa Y f
  refine wv (h:=?_)
  repeat first|intro _|refine ⟨gL,?_⟩
  refine wq (λv=>?_) λv=>?_
  .refine wv (h:=?_)
   have j:(g.nodes.any λa=>!insideF t a)=true:=aZ.2 ⟨_,aC f,by simp [insideF];omega⟩
   exact o _ _ (.inl (by simp only [go_sem,kT,j,Bool.not_true,Bool.false_and]))
  .exact wo (h:=wx q (i+1) ⟨wg,wj,(by rw [dX _ _ _ f,r];simp [insideF];omega)⟩)
 .have hN:=pO r f
  refine wv (h:=bV (λk e H=>(e 2=.adr t.c/\e 3=.adr g.c/\e 6=dI k)/\(k<=g.edges.length)/\(((g.edges.take k).any λx=>!nJ t x)=false)) (λk=>g.edges.length - k) 0 ⟨wg,wi,(by rfl)⟩ λB p k e H l=>?_)
  obtain ⟨w,z,j⟩:=l
  have Y:=wa Y w
  refine wv (h:=?_)
  repeat first|intro _|refine ⟨gL,?_⟩
  refine wq (λb=>?_) λb=>?_
  .have Y:=wa Y b
   refine wv (h:=?_)
   repeat first|intro _|refine ⟨gL,?_⟩
   refine wq (λu=>?_) λu=>?_
   .refine wv (h:=?_)
    have n:(g.edges.any λx=>!nJ t x)=true:=aZ.2 ⟨_,aC b,by simp [nJ];omega⟩
    exact o _ _ (.inl (by simp only [go_sem,kT,n,Bool.not_true,Bool.and_false]))
   .exact wo (h:=wx p (k+1) ⟨wg,wj,(by rw [dX _ _ _ b,j];simp [nJ];omega)⟩)
  .refine wv (h:=?_)
   have s:=pO j b
   exact o _ _ (.inl (by simp only [go_sem,kT,hN,s,Bool.not_false,Bool.and_true]))
theorem JG {α:Type}{l:List α}{p q:α->Bool}(h:∀ x∈l,p x=q x):l.any p=l.any q:=by
 induction l with
 | nil=>rfl
 | cons a l ih=>simp only [List.any_cons,h a aF,ih λx b=>h x (by simp [b])]
theorem dF {g:Graph}(h:graphF g=0):(∀ a∈g.nodes,0<=a/\a<=99)/\∀ x∈g.edges,(0<=x.type/\x.type<=99)/\(0<=x.from_/\x.from_<g.nodes.length)/\(0<=x.to_/\x.to_<g.nodes.length):=by
 unfold graphF at h
 split at h
 .cases h
 .split at h
  .cases h
  .rename_i h1
   split at h
   .cases h
   .rename_i h2
    simp [g6,tE] at h1 h2
    refine ⟨h1,λx b=>?_⟩
    have:=h2 x b
    omega
theorem oV {t:Types}{g:Graph}(h:graphF g=0):kT t g=dP t g:=by
 obtain ⟨c,b⟩:=dF h
 unfold kT dP
 congr 2
 .exact JG λx a=>by have:=c x a;rw [aX];simp [insideF];omega
 .exact JG λx a=>by have:=b x a;rw [aX];simp [nJ];omega
theorem HT (n:Int):Pure Tryz.prog 289 [dI n] (.bool (inF n (-1000000) 1000000)):=by
 refine Tz.pK ⟨λ_=>false,λ_=>[]⟩ Tryz.func289 rfl (λQ a=>?_)
 have Y:=trivial
 have Y:=wa Y @inF.eq_1
 exact wo (h:=a _ _ wy)
theorem PM {t:Types}{a:Int}(h:¬ given2F t a a=0):bM t a=[]:=by unfold bM;rw [if_neg h]
theorem OH (t:Types)(i:t.ok)(p:Pattern)(a b:Int):Pure Tryz.prog 288 [t.d,p.d,dI a,dI b] (.tup [.agg (Es t p a b).c,.bool (lJ t p a b)]):=by
 have k:=r9 i (p.kind a)
 refine Tz.pK ⟨λt=>t==8,λ_=>[]⟩ Tryz.func288 rfl (λQ g=>?_)
 have Y:=trivial
 refine f9 (λm=>?_) λm=>?_
 .have f:lJ t p a b=false:=by rw [bN];intro h;simp [lJ] at h;omega
  exact wv (h:=g _ _ (by simp [go_sem,Es,f,mQ]))
 .have hn:a.toNat<p.graph.nodes.length:=aD
  have e:p.kind a=p.graph.nodes[a.toNat]:=by simp [Pattern.kind,hn]
  rw [e] at k
  have Y:=wa Y (wa (aA hn) e)
  refine wo (h:=aM (sV t i p.graph.nodes[a.toNat]) wl ?_)
  refine f9 (λl=>?_) λl=>?_
  .have f:lJ t p a b=false:=by
    rw [bN];intro h;simp [lJ,e] at h
    by_cases j:given2F t p.graph.nodes[a.toNat] p.graph.nodes[a.toNat]=0
    .omega
    .rw [PM j] at h;simp at h;omega
   exact wv (h:=g _ _ (by simp [go_sem,Es,f,mQ]))
  .have ha:b.toNat<(bM t p.graph.nodes[a.toNat]).length:=aD
   have f:lJ t p a b=true:=by simp [lJ,e];omega
   have Y:=wa Y (aA ha)
   exact wo (h:=g _ _ (by simp [go_sem,Es,f,e,aA ha]))
def iI (p:Pattern)(v:Int):Bool:=p.slots.any λs=>decide (s.term.var=v)
theorem Kk (p:Pattern)(v:Int):Pure Tryz.prog 291 [p.d,dI v] (.bool (iI p v)):=by
 refine Tz.pK ⟨λ_=>false,λ_=>[]⟩ Tryz.func291 rfl (λQ l=>?_)
 have Y:=trivial
 refine wv (h:=bV (λi e H=>(e 2=.adr p.c/\e 1=dI v/\e 5=dI i)/\(i<=p.slots.length)/\(((p.slots.take i).any λs=>decide (s.term.var=v))=false)) (λi=>p.slots.length - i) 0 ⟨wg,wi,(by rfl)⟩ λo g i e H b=>?_)
 obtain ⟨m,n,k⟩:=b
 have Y:=wa Y m
 refine wv (h:=?_)
 repeat first|intro _|refine ⟨gL,?_⟩
 refine wq (λa=>?_) λa=>?_
 .have Y:=wa Y a
  refine wv (h:=?_)
  repeat first|intro _|refine ⟨gL,?_⟩
  refine wq (λj=>?_) λj=>?_
  .refine wv (h:=?_)
   have f:iI p v=true:=aZ.2 ⟨_,aC a,by simpa using j⟩
   exact l _ _ (.inl (by simp only [go_sem,f]))
  .exact wo (h:=wx g (i+1) ⟨wg,wj,(by rw [dX _ _ _ a,k];simpa using j)⟩)
 .refine wv (h:=?_)
  have f:iI p v=false:=pO k a
  exact l _ _ (.inl (by simp only [go_sem,f]))
theorem CM (p:Pattern)(n:Nat):mem (jQ n p.slots) false=true↔∃ v:Nat,v<n/\iI p v=false:=by
 rw [cQ]
 simp only [jQ,aQ,aR,iI]
theorem DT (t:Types)(B:t.ok)(p:Pattern):Pure Tryz.prog 211 [t.d,p.d] (dI (bR t p)):=by
 refine Tz.pK ⟨λt=>t==9||t==10,λ_=>[]⟩ Tryz.func211 rfl (λQ a=>?_)
 have Y:=trivial
 refine wv (h:=aB (yF t B) wl ?_)
 refine d7 (λl=>?_) λl=>?_
 .exact wv (h:=a _ _ (by simp [go_sem,bR,l]))
 .refine wv (h:=aB (lU p.graph) wl ?_)
  refine d7 (λf=>?_) λf=>?_
  .exact wv (h:=a _ _ (by simp [go_sem,bR,l,f]))
  .refine wo (h:=aB (yD t p.graph) wl ?_)
   refine f9 (λg=>?_) λg=>?_
   .rw [oV f] at g
    exact wv (h:=a _ _ (by simp [go_sem,bR,l,f,g]))
   .rw [oV f] at g
    refine f9 (λF=>?_) λF=>?_
    .exact wv (h:=a _ _ (by simp [go_sem,bR,l,f,g,inF];omega))
    .refine f9 (λA=>?_) λA=>?_
     .exact wv (h:=a _ _ (by simp [go_sem,bR,l,f,g,inF];omega))
     .have hF0:bR t p=if fM (gK t p) p.slots≠0 then 6 else if iF p.vars p.tests≠0 then iF p.vars p.tests else if mem (jQ p.vars.toNat p.slots) false=true then 9 else 0:=by
       unfold bR
       rw [if_neg (by simp [l]),if_neg (by simp [f]),if_neg (by simp [g]),if_neg (by simp [inF];omega),if_neg aD]
      refine wv (h:=bV (λi e H=>(e 2=.adr t.c/\e 3=.adr p.c/\e 8=dI i)/\(i<=p.slots.length)/\(fM (gK t p) (p.slots.drop i)=fM (gK t p) p.slots)) (λi=>p.slots.length - i) 0 ⟨wg,wi,(by rfl)⟩ λO z i e H u=>?_)
      obtain ⟨I,M,x⟩:=u
      have Y:=wa Y I
      refine f9 (λm=>?_) λm=>?_
      .have hst:=j9 (gK t p) m
       have Y:=wa Y m
       refine wo (h:=aB (OH t B p p.slots[i].node p.slots[i].attr) wl ?_)
       refine wo (h:=aO (λE=>HT _) (λE=>wl) ?_)
       refine wo (h:=aP (λb=>?_) (λb=>?_))
       .skip
        have q:gK t p p.slots[i]=6:=by
         unfold gK;rw [if_neg];intro h;simp [inF] at h;simp [h.1.1,inF] at b;omega
        rw [q,if_pos aF,x] at hst
        exact wv (h:=a _ _ (by simp [go_sem,hF0,hst]))
       .skip
        have r:gK t p p.slots[i]=0:=by
         unfold gK;rw [if_pos];simp [inF] at b ⊢;refine ⟨⟨b.1.1.1,?_⟩,?_⟩<;>omega
        rw [r,if_neg aF,x] at hst
        exact wo (h:=wx z (i+1) ⟨wg,wj,(by exact hst.symm)⟩)
      .have hz:fM (gK t p) p.slots=0:=by rw [<- x,lB _ aD]
       rw [if_neg (by simp [hz])] at hF0
       refine wv (h:=aB (Mj p.vars p.tests) wl ?_)
       refine d7 (λk=>?_) λk=>?_
       .exact wv (h:=a _ _ (by rw [hF0,if_pos (bS k)];simp [go_sem]))
       .rw [if_neg (bS k)] at hF0
        refine wv (h:=bV (λv e H=>(e 2=.adr t.c/\e 3=.adr p.c/\e 13=dI v)/\(v<=p.vars.toNat)/\(∀ j:Nat,j<v->iI p j=true)) (λv=>p.vars.toNat - v) 0 ⟨wg,wi,(by intro j L;omega)⟩ λN y v e H s=>?_)
        obtain ⟨G,K,C⟩:=s
        have Y:=wa Y G
        refine d7 (λo=>?_) λo=>?_
        .have Y:=wa Y o
         refine wo (h:=aB (Kk p v) wl ?_)
         refine f9 (λGO=>?_) λGO=>?_
         .exact wv (h:=a _ _ (by rw [hF0,if_pos ((CM p _).2 ⟨v,aD,by simpa using GO⟩)];simp [go_sem]))
         .exact wo (h:=wx y (v+1) ⟨wg,wj,(by exact mB (p:=λj=>iI p j=true) C (bS GO))⟩)
        .refine wv (h:=?_)
         have D:¬ mem (jQ p.vars.toNat p.slots) false=true:=λh=>by
          obtain ⟨w,J,n⟩:=(CM p _).1 h
          rw [C w aD] at n;cases n
         exact a _ _ (by rw [hF0,if_neg D];simp [go_sem])
end Go.Abs
end
section
namespace Go.Proofs
open Go.Shelf
def Tryz.laysSort_ren:Go.Shelf.Ren:=⟨fun|189=>275|125=>353|257=>352|128=>409|129=>410|294=>401|295=>402|296=>403|297=>404|298=>405|299=>406|216=>333|300=>407|301=>408|328=>444|329=>445|330=>446|331=>447|332=>448|215=>389|343=>460|n=>n,fun|28=>26|3=>3|46=>349|0=>0|51=>390|53=>69|4=>4|183=>405|182=>404|131=>285|5=>5|9=>9|218=>430|222=>434|228=>441|229=>326|n=>n,fun|n=>n⟩
theorem Tryz.laysSort:Go.Proofs.Lays.n189 Tryz.prog Tryz.laysSort_ren:={
 mixed:=by kernel_rfl
 f125:=Tryz.func353.trans (congrArg some (by kernel_rfl))
 f128:=Tryz.func409.trans (congrArg some (by kernel_rfl))
 f129:=Tryz.func410.trans (congrArg some (by kernel_rfl))
 f189:=Tryz.func275.trans (congrArg some (by kernel_rfl))
 f215:=Tryz.func389.trans (congrArg some (by kernel_rfl))
 f216:=Tryz.func333.trans (congrArg some (by kernel_rfl))
 f257:=Tryz.func352.trans (congrArg some (by kernel_rfl))
 f294:=Tryz.func401.trans (congrArg some (by kernel_rfl))
 f295:=Tryz.func402.trans (congrArg some (by kernel_rfl))
 f296:=Tryz.func403.trans (congrArg some (by kernel_rfl))
 f297:=Tryz.func404.trans (congrArg some (by kernel_rfl))
 f298:=Tryz.func405.trans (congrArg some (by kernel_rfl))
 f299:=Tryz.func406.trans (congrArg some (by kernel_rfl))
 f300:=Tryz.func407.trans (congrArg some (by kernel_rfl))
 f301:=Tryz.func408.trans (congrArg some (by kernel_rfl))
 f328:=Tryz.func444.trans (congrArg some (by kernel_rfl))
 f329:=Tryz.func445.trans (congrArg some (by kernel_rfl))
 f330:=Tryz.func446.trans (congrArg some (by kernel_rfl))
 f331:=Tryz.func447.trans (congrArg some (by kernel_rfl))
 f332:=Tryz.func448.trans (congrArg some (by kernel_rfl))
 f343:=Tryz.func460.trans (congrArg some (by kernel_rfl))
 t0:=Tryz.underlying0
 a0:=Tryz.isAgg0
 z0:=Tryz.sizeOf0
 v0:=Tryz.zeroValue0
 t3:=Tryz.underlying3
 a3:=Tryz.isAgg3
 z3:=Tryz.sizeOf3
 v3:=Tryz.zeroValue3
 t4:=Tryz.underlying4
 a4:=Tryz.isAgg4
 z4:=Tryz.sizeOf4
 v4:=Tryz.zeroValue4
 t5:=Tryz.underlying5
 a5:=Tryz.isAgg5
 z5:=Tryz.sizeOf5
 v5:=Tryz.zeroValue5
 t9:=Tryz.underlying9
 a9:=Tryz.isAgg9
 z9:=Tryz.sizeOf9
 v9:=Tryz.zeroValue9
 t28:=Tryz.underlying26
 a28:=Tryz.isAgg26
 z28:=Tryz.sizeOf26
 v28:=Tryz.zeroValue26
 t46:=Tryz.underlying349
 a46:=Tryz.isAgg349
 z46:=Tryz.sizeOf349
 v46:=Tryz.zeroValue349
 t51:=Tryz.underlying390
 a51:=Tryz.isAgg390
 z51:=Tryz.sizeOf390
 v51:=Tryz.zeroValue390
 t53:=Tryz.underlying69
 a53:=Tryz.isAgg69
 z53:=Tryz.sizeOf69
 v53:=Tryz.zeroValue69
 t131:=Tryz.underlying285
 a131:=Tryz.isAgg285
 z131:=Tryz.sizeOf285
 v131:=Tryz.zeroValue285
 t182:=Tryz.underlying404
 a182:=Tryz.isAgg404
 z182:=Tryz.sizeOf404
 v182:=Tryz.zeroValue404
 t183:=Tryz.underlying405
 a183:=Tryz.isAgg405
 z183:=Tryz.sizeOf405
 v183:=Tryz.zeroValue405
 t218:=Tryz.underlying430
 a218:=Tryz.isAgg430
 z218:=Tryz.sizeOf430
 v218:=Tryz.zeroValue430
 t222:=Tryz.underlying434
 a222:=Tryz.isAgg434
 z222:=Tryz.sizeOf434
 v222:=Tryz.zeroValue434
 t228:=Tryz.underlying441
 a228:=Tryz.isAgg441
 z228:=Tryz.sizeOf441
 v228:=Tryz.zeroValue441
 t229:=Tryz.underlying326
 a229:=Tryz.isAgg326
 z229:=Tryz.sizeOf326
 v229:=Tryz.zeroValue326 }
def Tryz.laysCompact_ren:Go.Shelf.Ren:=⟨fun|20=>276|n=>n,fun|22=>26|3=>3|4=>4|0=>0|n=>n,fun|n=>n⟩
theorem Tryz.laysCompact:Go.Proofs.Lays2.n20 Tryz.prog Tryz.laysCompact_ren:={
 mixed:=by kernel_rfl
 f20:=Tryz.func276.trans (congrArg some (by kernel_rfl))
 t0:=Tryz.underlying0
 a0:=Tryz.isAgg0
 z0:=Tryz.sizeOf0
 v0:=Tryz.zeroValue0
 t3:=Tryz.underlying3
 a3:=Tryz.isAgg3
 z3:=Tryz.sizeOf3
 v3:=Tryz.zeroValue3
 t4:=Tryz.underlying4
 a4:=Tryz.isAgg4
 z4:=Tryz.sizeOf4
 v4:=Tryz.zeroValue4
 t22:=Tryz.underlying26
 a22:=Tryz.isAgg26
 z22:=Tryz.sizeOf26
 v22:=Tryz.zeroValue26
 i3:=by kernel_rfl }
end Go.Proofs
end
section
set_option maxRecDepth 4000
open Go Go.Proofs Go.Shelf
namespace Go.Abs
def lC (xs:List Int):List Int:=xs.mergeSort λx y=>decide (x<=y)
theorem kU (xs:List Int):(lC xs).length=xs.length:=List.length_mergeSort xs
theorem Fx {G:AHeap}{id:Nat}{ty:TypeId}{xs:List Int}{Q:D->AHeap->Prop}(m:G.get id=some ⟨ty,1,xs.map cI,false⟩)(s:xs.length<=1000000)
  (p:Q (.tup []) (G.put id ⟨ty,1,(lC xs).map cI,false⟩)):ACalls Tryz.prog 275 [.own id xs.length] G Q:=by
 refine NU ⟨Tryz.f275,Tryz.func275,rfl,rfl⟩ m (kU xs) (λw v b=>?_) p
 rcases b.2 with ⟨rfl,q⟩|⟨g,k,r,rfl,o,a,f,j,i,d⟩
 .have hx:xs=[]:=bJ q
  subst hx
  exact (Any.slices_Sort_int_none Tryz.laysSort none 0 w).mono λe l ⟨h,c⟩=>by
   subst c
   exact ⟨h,⟨rfl,rfl,rfl,bC _,λ_ _ _=>rfl⟩,by simpa [ET,lC] using b⟩
 .have hH:Sort.Holds (Value.int .i64) w g 0 xs.toArray:=holds_of_blockI a (bS d)
  refine (Any.slices_Sort_int Tryz.laysSort g 0 k xs w hH (qK.1 a).1 aD).mono λe l ⟨h,n,os,c⟩=>?_
  subst c
  refine ⟨h,grownBy_sortedI _,?_⟩
  have:=ownsRow_sortedI (n:=n) (os:=os) (ts:=lC xs) (kU xs) o a f j (bS i)
  unfold ET
  rw [kU]
  exact this
theorem G7 (zs:List Int):(Lib.compact zs).length<=zs.length:=by
 unfold Lib.compact Lib.compactUpTo
 rw [aS]
 exact c9 (iB _ _) aF
theorem En {G:AHeap}{id:Nat}{ty:TypeId}{xs:List Int}{Q:D->AHeap->Prop}(s:G.get id=some ⟨ty,1,xs.map cI,false⟩)(z:xs.length<=1000000)
  (u:∀ k,Q (.list ((Lib.compact xs).map cI)) (G.put id k)):ACalls Tryz.prog 276 [.own id xs.length] G Q:=by
 have o:=G7 xs
 have c:(Lib.compact xs++List.replicate (xs.length - (Lib.compact xs).length) 0).length=xs.length:=by simp;omega
 refine KY (zs:=Lib.compact xs++List.replicate (xs.length - (Lib.compact xs).length) 0) (m:=(Lib.compact xs).length) ⟨Tryz.f276,Tryz.func276,rfl,rfl⟩ s c o (λw v a=>?_) (by rw [List.take_left];exact u _)
 rcases a.2 with ⟨rfl,x⟩|⟨g,p,y,rfl,t,b,d,l,j,h⟩
 .have hx:xs=[]:=bJ x
  subst hx
  exact (Any.slices_Compact_int_empty Tryz.laysCompact none 0 w).mono λe r ⟨i,f⟩=>by
   subst f
   exact ⟨⟨_,i,.inl ⟨rfl,rfl⟩⟩,⟨rfl,rfl,rfl,bC _,λ_ _ _=>rfl⟩,by simpa [ET,Lib.compact,Lib.compactUpTo] using a⟩
 .have hH:Sort.Holds (Value.int .i64) w g 0 xs.toArray:=holds_of_blockI b (bS h)
  refine (Any.slices_Compact_int Tryz.laysCompact g 0 p xs w hH aD d).mono λe r ⟨i,q,f⟩=>?_
  subst f
  refine ⟨⟨_,i,.inr ⟨_,_,_,rfl,rfl⟩⟩,?_,?_⟩
  .have:=grownBy_sortedI (w:=w) (g:=g) (n:=q) (os:=#[]) (Lib.compact xs++List.replicate (xs.length - (Lib.compact xs).length) 0).toArray
   rw [Sort.grow_empty] at this
   exact this
  .have:=ownsRow_sortedI (n:=q) (os:=#[]) (ts:=Lib.compact xs++List.replicate (xs.length - (Lib.compact xs).length) 0) c t b d l (bS j)
   rw [Sort.grow_empty] at this
   unfold ET
   rw [c]
   exact this
def imagesN (xs:List Int):Nat:=(Lib.compact (lC xs)).length
theorem wX (xs:List Int)(b:xs.length<=1000000):Pure Tryz.prog 376 [dLI xs] (dI (imagesN xs)):=by
 have a:=kU xs
 refine Tz.pK ⟨λ_=>false,λ_=>[]⟩ Tryz.func376 rfl (λQ c=>?_)
 have Y:=trivial
 refine wv (h:=kY (kK xs b) wl ?_)
 refine wv (h:=?_)
 unfold g5;refine Fx (ty:=3) (xs:=xs) (by simp [go_sem]) b ?_
 refine wo (h:=?_)
 unfold g5;rw [show xs.length=(lC xs).length from a.symm];refine En (ty:=3) (xs:=lC xs) (by simp [go_sem]) aD λk=>?_
 have Y:=wa Y @imagesN.eq_1
 exact wo (h:=c _ _ wy)
end Go.Abs
end
section
set_option maxRecDepth 100000
set_option maxHeartbeats 4000000
open Go Go.Proofs
namespace Go.Abs
theorem CT (xs:List Int):(lC xs).Pairwise (·<=·):=by
 have:=List.pairwise_mergeSort (le:=λ(x y:Int)=>decide (x<=y)) (λa b c e d=>by simp at *;omega) (λa b=>by simp;omega) xs
 exact this.imp λh=>by simpa using h
theorem Ee (xs:List Int):imagesN xs=xs.length↔xs.Nodup:=by
 have f:(lC xs).Perm xs:=List.mergeSort_perm xs _
 rw [<- f.nodup_iff,<- kU xs]
 unfold imagesN Lib.compact Lib.compactUpTo
 rw [aS]
 have b:=dH.1 (CT xs)
 generalize lC xs=s at *
 have d:(List.filter (Lib.keeps s.toArray) (List.range s.length)).length=s.length↔∀ j,j<s.length->Lib.keeps s.toArray j=true:=by
  have:=List.length_filter_eq_length_iff (p:=Lib.keeps s.toArray) (l:=List.range s.length)
  rw [List.length_range] at this
  rw [this];simp
 rw [d]
 have e:∀ j (a:j<s.length),Lib.keeps s.toArray j=true↔(j=0\/s[j]≠s[j - 1]' aD):=λj a=>by
  simp only [Lib.keeps,decide_eq_true_eq]
  rw [getElem!_pos _ j (bS a),getElem!_pos _ (j - 1) (by simp;omega)]
  simp
 constructor
 .intro h
  rw [cY,dH]
  intro i j k a g
  rcases (e j a).1 (h j a) with h0|h0
  .omega
  .have h1:=b (j - 1) j aD a aD
   by_cases c:i=j - 1
   .subst c;omega
   .have h2:=b i (j - 1) k aD aD
    omega
 .intro h j a
  rw [e j a]
  by_cases h0:j=0
  .exact .inl h0
  .right
   intro m
   have:=(sH h).1 m
   omega
def b4:Edge:=⟨0,0,0⟩
def jY (a b:Graph)(m:Part)(i:Nat):Int :=
 if m.nodes[i]?.getD 0<0\/(b.nodes.length:Int)<=m.nodes[i]?.getD 0 then 6
 else if b.nodes[(m.nodes[i]?.getD 0).toNat]?.getD 0≠a.nodes[i]?.getD 0 then 13 else 0
def mapEE (a b:Graph)(m:Part)(i:Nat):Int :=
 if m.edges[i]?.getD 0<0\/(b.edges.length:Int)<=m.edges[i]?.getD 0 then 6
 else if (a.edges[i]?.getD b4).type≠(b.edges[(m.edges[i]?.getD 0).toNat]?.getD b4).type then 13
 else if m.nodes[(a.edges[i]?.getD b4).from_.toNat]?.getD 0≠(b.edges[(m.edges[i]?.getD 0).toNat]?.getD b4).from_\/m.nodes[(a.edges[i]?.getD b4).to_.toNat]?.getD 0≠(b.edges[(m.edges[i]?.getD 0).toNat]?.getD b4).to_ then 11 else 0
def dS (a b:Graph)(m:Part):Int :=
 if graphF a≠0 then graphF a
 else if graphF b≠0 then graphF b
 else if m.nodes.length≠a.nodes.length\/m.edges.length≠a.edges.length then 20
 else if bT (jY a b m) 0 a.nodes.length≠0 then bT (jY a b m) 0 a.nodes.length
 else bT (mapEE a b m) 0 a.edges.length
theorem n9 (a b:Graph)(m:Part):Pure Tryz.prog 315 [a.d,b.d,m.d] (dI (dS a b m)):=by
 refine Tz.pK ⟨λt=>t==13||t==14,λr=>match r with|22=>[(0,10),(1,10),(3,10),(4,10),(5,10),(6,10),(8,10),(9,10),(0,11),(1,11),(3,11),(4,11),(5,11),(6,11),(8,11),(9,11),(10,11),(5,12),(6,12),(8,12),(9,12)]|_=>[]⟩ Tryz.func315 rfl (λQ l=>?_)
 have Y:=trivial
 refine wv (h:=aB (l7 a) wl ?_)
 refine d7 (λo=>?_) λo=>?_
 .exact wv (h:=l _ _ (.inl (by simp [go_sem,dS,o])))
 .refine wv (h:=aB (l7 b) wl ?_)
  refine d7 (λw=>?_) λw=>?_
  .exact wv (h:=l _ _ (.inl (by simp [go_sem,dS,o,w])))
  .refine f9 (λK=>?_) λK=>?_
   .exact wv (h:=l _ _ (.inl (by simp [go_sem,dS,o,w,(aD:m.nodes.length≠a.nodes.length\/m.edges.length≠a.edges.length)])))
   .have hM:dS a b m=(if bT (jY a b m) 0 a.nodes.length≠0 then bT (jY a b m) 0 a.nodes.length else bT (mapEE a b m) 0 a.edges.length):=by
     unfold dS;rw [if_neg (by simp [o]),if_neg (by simp [w]),if_neg aD]
    have J:=cJ o
    have I:=cJ w
    have x:=(dF o).2
    refine wo (h:=bV (λi e H=>(e 3=.adr a.c/\e 4=.adr b.c/\e 5=.adr m.c/\e 42=dLI m.nodes/\e 43=dI m.nodes.length/\e 44=dI i)/\(i<=m.nodes.length)/\(bT (jY a b m) i (a.nodes.length - i)=bT (jY a b m) 0 a.nodes.length)) (λi=>m.nodes.length - i) 0 ⟨wg,wi,(by rfl)⟩ λS B i e H z=>?_)
    obtain ⟨M,P,F⟩:=z
    have Y:=wa Y M
    refine d7 (λs=>?_) λs=>?_
    .have hn:i<a.nodes.length:=aD
     have f:=gF (jY a b m) hn
     rw [F] at f
     have j:jY a b m i=(if m.nodes[i]<0\/(b.nodes.length:Int)<=m.nodes[i] then 6 else if b.nodes[m.nodes[i].toNat]?.getD 0≠a.nodes[i] then 13 else 0):=by simp only [jY,aA s,aA hn,Option.getD_some]
     have Y:=wa Y (wa s hn)
     refine f9 (λE=>?_) λE=>?_
     .rw [if_pos aD] at j
      rw [j,if_pos aD] at f
      exact wv (h:=l _ _ (.inl (by simp [go_sem,hM,f])))
     .have hkb:m.nodes[i].toNat<b.nodes.length:=aD
      rw [if_neg aD,aA hkb,Option.getD_some] at j
      have Y:=wa Y (aA hkb)
      refine f9 (λq=>?_) λq=>?_
      .rw [if_pos q] at j
       rw [j,if_pos aD] at f
       exact wv (h:=l _ _ (.inl (by simp [go_sem,hM,f])))
      .rw [if_neg (bS q)] at j
       rw [j,if_neg aD] at f
       exact wo (h:=wx B (i+1) ⟨wg,wj,(by exact f.symm)⟩)
    .have hN0:bT (jY a b m) 0 a.nodes.length=0:=by rw [<- F,(aD:a.nodes.length - i=0)];rfl
     rw [hN0,if_neg aD] at hM
     refine wo (h:=bV (λk e H=>(e 3=.adr a.c/\e 4=.adr b.c/\e 5=.adr m.c/\e 71=dLI m.edges/\e 72=dI m.edges.length/\e 73=dI k)/\(k<=m.edges.length)/\(bT (mapEE a b m) k (a.edges.length - k)=dS a b m)) (λk=>m.edges.length - k) 0 ⟨wg,wi,(by exact hM.symm)⟩ λR A k e H y=>?_)
     obtain ⟨L,O,G⟩:=y
     have Y:=wa Y L
     refine d7 (λp=>?_) λp=>?_
     .have hn:k<a.edges.length:=aD
      have f:=gF (mapEE a b m) hn
      rw [G] at f
      have N:=x _ (aC hn)
      have v:a.edges[k].from_.toNat<m.nodes.length:=aD
      have u:a.edges[k].to_.toNat<m.nodes.length:=aD
      have g:mapEE a b m k=(if m.edges[k]<0\/(b.edges.length:Int)<=m.edges[k] then 6 else if a.edges[k].type≠(b.edges[m.edges[k].toNat]?.getD b4).type then 13 else if m.nodes[a.edges[k].from_.toNat]≠(b.edges[m.edges[k].toNat]?.getD b4).from_\/m.nodes[a.edges[k].to_.toNat]≠(b.edges[m.edges[k].toNat]?.getD b4).to_ then 11 else 0):=by
       simp only [mapEE,aA p,aA hn,Option.getD_some,aA v,aA u]
      have Y:=wa Y (wa p (wa hn (wa (aA v) (aA u))))
      refine f9 (λD=>?_) λD=>?_
      .rw [if_pos aD] at g
       rw [g,if_pos aD] at f
       exact wv (h:=l _ _ (.inl (by simp [go_sem,<- f])))
      .have hkb:m.edges[k].toNat<b.edges.length:=aD
       rw [if_neg aD,aA hkb,Option.getD_some] at g
       have Y:=wa Y (aA hkb)
       refine f9 (λn=>?_) λn=>?_
       .rw [if_pos n] at g
        rw [g,if_pos aD] at f
        exact wv (h:=l _ _ (.inl (by simp [go_sem,<- f])))
       .rw [if_neg (bS n)] at g
        refine f9 (λC=>?_) λC=>?_
        .rw [if_pos aD] at g
         rw [g,if_pos aD] at f
         exact wv (h:=l _ _ (.inl (by simp [go_sem,<- f])))
        .rw [if_neg aD] at g
         rw [g,if_neg aD] at f
         exact wo (h:=wx A (k+1) ⟨wg,wj,(by exact f.symm)⟩)
     .exact wv (h:=l _ _ (.inl (by rw [<- G,(aD:a.edges.length - k=0)];rfl)))
def As (a b:Graph)(m:Part):Bool:=decide (dS a b m=0)&&(decide m.nodes.Nodup&&decide m.edges.Nodup)
theorem lZ {a b:Graph}{m:Part}(h:dS a b m=0):graphF a=0/\graphF b=0/\m.nodes.length=a.nodes.length/\m.edges.length=a.edges.length:=by
 unfold dS at h
 split at h
 .rename_i h1;exact absurd h h1
 .rename_i h1
  split at h
  .rename_i h2;exact absurd h h2
  .rename_i h2
   split at h
   .cases h
   .omega
theorem Jc (xs:List Int):((imagesN xs:Int)==(xs.length:Int))=decide xs.Nodup:=by
 rw [aX]
 simp only [beq_iff_eq,decide_eq_true_eq]
 rw [<- Ee]
 omega
theorem rP (a b:Graph)(m:Part)(h1:m.nodes.length<=1000000)(h2:m.edges.length<=1000000):Pure Tryz.prog 316 [a.d,b.d,m.d] (.bool (As a b m)):=by
 refine Tz.pK ⟨λ_=>false,λ_=>[]⟩ Tryz.func316 rfl (λQ hQ=>?_)
 have Y:=@Jc
 refine wo (h:=aM (n9 a b m) wl ?_)
 refine wo (h:=eP (λhg=>wX m.nodes h1) (λhg=>wl) ?_)
 refine wo (h:=eP (λhg=>wX m.edges h2) (λhg=>wl) ?_)
 exact wo (h:=hQ _ _ (by simp [go_sem,As,Jc,Ew]))
end Go.Abs
end
