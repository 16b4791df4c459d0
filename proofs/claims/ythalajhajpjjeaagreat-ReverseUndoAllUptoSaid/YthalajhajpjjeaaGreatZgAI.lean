/- Layer 4, the reference: types.Valid. · Layer 4: lines of typ -/
import Derived.Test.YthalajhajpjjeaaGreatZgAF
import Derived.Test.YthalajhajpjjeaaGreatZgAA
import Derived.Test.YthalajhajpjjeaaGreatZgAH
import Derived.Ground.NamesProg
import Derived.Ground.Names2Prog
import Derived.Shelf.Sort.Plain
import Derived.Shelf.Slices.CompactI
import Derived.Shelf.Slices.In.SortNone
import Derived.Test.YthalajhajpjjeaaGreatProg
set_option linter.unusedVariables false
set_option linter.unusedSimpArgs false
section
set_option maxRecDepth 100000
set_option maxHeartbeats 4000000
open Go Go.Proofs
namespace Go.Abs
theorem M9 (t:Types)(i:Nat)(a:i<t.edges.length):jY t i =
  if mA t.edges[i].name=false then 2
  else if ((t.edges.take i).any λy=>decide (y.name=t.edges[i].name))=true then 5
  else if (insideF t t.edges[i].from_&&insideF t t.edges[i].to_&&boundedF t.edges[i].outLow t.edges[i].outHigh&&boundedF t.edges[i].inLow t.edges[i].inHigh)=true then 0 else 6:=by
 unfold jY;rw [aA a]
theorem wM (t:Types)(a:Int):inF a 0 ((t.nodes.length:Int) - 1)=insideF t a:=by
 simp only [inF,insideF];rw [aR];simp;omega
theorem Oy (t:Types)(ht:t.ok)(i:Nat)(hi:i<t.edges.length):Pure Tryz.prog 196 [t.d,dI i] (dI (jY t i)):=by
 have hno:=ht.edges _ (aC hi)
 have hfew:=ht.fewN
 have hfewE:=ht.fewE
 have hF:=M9 t i hi
 refine Tz.pK ⟨λt=>t==5,λ_=>[]⟩ Tryz.func196 rfl (λQ hQ=>?_)
 have Y:=wa (aA hi) hi
 refine wo (h:=aB (oY _ hno.name) wl ?_)
 refine fA (λh2=>?_) λh2=>?_
 .exact wv (h:=hQ _ _ (by simp [go_sem,hF,h2]))
 .refine wv (h:=bD (λk e H=>(e 1=dI i/\e 2=.adr t.c/\e 5=.ptr 0 1 0 0/\e 6=dI k)/\(H.get 0=some ⟨174,7,[t.edges[i].c],false⟩)/\(0<H.next)/\(k<=i)/\(((t.edges.take k).any λm=>decide (m.name=t.edges[i].name))=false)) (λk=>i - k) 0 ⟨wg,wn,wn,wi,bW⟩ λI0 hI0 k e H hi0=>?_)
  obtain ⟨E0,g0_0,n0_0,hk,hne⟩:=hi0
  have Y:=wa Y (wa E0 (wa g0_0 (b8 n0_0)))
  refine dP (λh5=>?_) λh5=>?_
  .have hkl:k<t.edges.length:=aD
   have Y:=wa Y (wa h5 hkl)
   refine fA (λh7=>?_) λh7=>?_
   .exact wv (h:=hQ _ _ (by have hb:=uA (p:=λm:EdgeTy=>decide (m.name=t.edges[i].name)) h5 hkl (bX h7);rw [hF,if_neg (by simp [h2]),if_pos hb];simp [go_sem]))
   .exact wo (h:=wx hI0 (k+1) ⟨wg,wn,wn,wj,(by rw [dU _ _ _ hkl,hne];simpa using h7)⟩)
  .have hb:=rQ hne (aD:k=i)
   refine wo (h:=aB (nQ _ _ _) wl ?_)
   refine wo (h:=aH (λhg=>nQ _ _ _) (λhg=>wl) ?_)
   refine wo (h:=aH (λhg=>DX _ _) (λhg=>wl) ?_)
   refine wo (h:=aH (λhg=>DX _ _) (λhg=>wl) ?_)
   refine wo (h:=aP (λh10=>?_) (λh10=>?_))
   .skip
    simp only [wM] at h10
    exact wv (h:=hQ _ _ (by rw [hF,if_neg (by simp [h2]),if_neg (by simp [hb])];revert h10;cases insideF t t.edges[i].from_<;>cases insideF t t.edges[i].to_<;>cases boundedF t.edges[i].outLow t.edges[i].outHigh<;>cases boundedF t.edges[i].inLow t.edges[i].inHigh<;>simp [go_sem]))
   .skip
    simp only [wM] at h10
    exact wv (h:=hQ _ _ (by rw [hF,if_neg (by simp [h2]),if_neg (by simp [hb])];revert h10;cases insideF t t.edges[i].from_<;>cases insideF t t.edges[i].to_<;>cases boundedF t.edges[i].outLow t.edges[i].outHigh<;>cases boundedF t.edges[i].inLow t.edges[i].inHigh<;>simp [go_sem]))
theorem Cm (f:Nat->Int)(b:Nat->ByteArray)(a:ByteArray × Int){k n:Nat}(h:k<n):eR f b a k (n - k)=if f k≠0 then (b k,f k) else eR f b a (k+1) (n - (k+1)):=by
 rw [(aD:n - k=n - (k+1)+1),eR]
theorem n9 (t:Types)(ht:t.ok):Pure Tryz.prog 103 [t.d] (.tup [.str (b9 t).1,dI (b9 t).2]):=by
 have hfew:=ht.fewN
 have hfewE:=ht.fewE
 refine Tz.pK ⟨λ_=>false,λ_=>[]⟩ Tryz.func103 rfl (λQ hQ=>?_)
 have Y:=trivial
 refine fA (λh1=>?_) λh1=>?_
 .exact wv (h:=hQ _ _ (by simp [go_sem,b9,h1]))
 .refine fA (λh3=>?_) λh3=>?_
  .exact wv (h:=hQ _ _ (by simp [go_sem,b9,h1,(aD:12<t.nodes.length\/20<t.edges.length)]))
  .have e:b9 t=eR (g8 t) t.nodeName (eR (jY t) t.edgeName (⟨#[]⟩,0) 0 t.edges.length) 0 t.nodes.length:=by simp only [b9];rw [if_neg (bX h1),if_neg aD]
   refine wv (h:=bD (λi e H=>(e 1=.adr t.c/\e 4=dI i)/\(i<=t.nodes.length)/\(∀ j,j<i->g8 t j=0)/\(eR (g8 t) t.nodeName (eR (jY t) t.edgeName (⟨#[]⟩,0) 0 t.edges.length) i (t.nodes.length - i)=b9 t)) (λi=>t.nodes.length - i) 0 ⟨wg,wi,(by intro j hj;omega),(by rw [e];rfl)⟩ λI0 hI0 i e H hi0=>?_)
   obtain ⟨E0,hi,hz,hFk⟩:=hi0
   have Y:=wa Y E0
   refine fA (λh6=>?_) λh6=>?_
   .have hst:=hFk
    rw [Cm _ _ _ h6] at hst
    have Y:=wa Y h6
    refine wv (h:=aB (Ox t ht i h6 (λj n hj hn=>wL t j n (hz j hj) hn)) wl ?_)
    refine dP (λh9=>?_) λh9=>?_
    .exact wo (h:=hQ _ _ (by rw [if_pos (bX h9)] at hst;simp [go_sem,<- hst,Types.nodeName,aA h6]))
    .exact wo (h:=wx hI0 (i+1) ⟨wg,wj,(by exact iQ hz (bX h9)),(by rw [if_neg (bX h9)] at hst;exact hst)⟩)
   .have hE:eR (jY t) t.edgeName (⟨#[]⟩,0) 0 t.edges.length=b9 t:=by rw [<- hFk,(aD:t.nodes.length - i=0)];rfl
    refine wv (h:=bD (λi e H=>(e 1=.adr t.c/\e 6=dI i)/\(i<=t.edges.length)/\(eR (jY t) t.edgeName (⟨#[]⟩,0) i (t.edges.length - i)=b9 t)) (λi=>t.edges.length - i) 0 ⟨wg,wi,(by exact hE)⟩ λI2 hI2 i e H hi2=>?_)
    obtain ⟨E2,hi,hFk⟩:=hi2
    have Y:=wa Y E2
    refine fA (λh12=>?_) λh12=>?_
    .have hst:=hFk
     rw [Cm _ _ _ h12] at hst
     have Y:=wa Y h12
     refine wv (h:=aB (Oy t ht i h12) wl ?_)
     refine dP (λh15=>?_) λh15=>?_
     .exact wo (h:=hQ _ _ (by rw [if_pos (bX h15)] at hst;simp [go_sem,<- hst,Types.edgeName,aA h12]))
     .exact wo (h:=wx hI2 (i+1) ⟨wg,wj,(by rw [if_neg (bX h15)] at hst;exact hst)⟩)
    .exact wv (h:=hQ _ _ (by rw [<- hFk,(aD:t.edges.length - i=0)];simp [go_sem,eR]))
theorem rM {f:Nat->Int}{nm:Nat->ByteArray}{last:ByteArray × Int}:∀ (n k:Nat),(eR f nm last k n).2=0->(∀ j,k<=j->j<k+n->f j=0)/\last.2=0
 | 0,k,h=>⟨λj h1 h2=>by omega,h⟩
 | n+1,k,h=>by
  unfold eR at h
  split at h
  .rename_i hne;exact absurd h hne
  .rename_i hz
   obtain ⟨a,b⟩:=rM n (k+1) h
   refine ⟨λj h1 h2=>?_,b⟩
   rcases Nat.eq_or_lt_of_le h1 with h3|h3
   .subst h3;exact bA λhne=>hz hne
   .exact a j h3 aD
structure Types.valid (t:Types):Prop where
 ne:0<t.nodes.length
 fewN:t.nodes.length<=12
 fewE:t.edges.length<=20
 parent:∀ (j:Nat) (n:NodeTy),t.nodes[j]?=some n->n.parent<j
 low:∀ (j:Nat) (n:NodeTy),t.nodes[j]?=some n->-1<=n.parent
 attrs:∀ j,j<t.nodes.length->(t.attrs j).length<=8
 ends:∀ x∈t.edges,insideF t x.from_=true/\insideF t x.to_=true
theorem nP {t:Types}(h:(b9 t).2=0):t.valid:=by
 unfold b9 at h
 split at h
 .simp at h
 .rename_i h0
  split at h
  .simp at h
  .rename_i h1
   obtain ⟨k,f⟩:=rM _ _ h
   obtain ⟨f,_⟩:=rM _ _ f
   have c:∀ j (b:j<t.nodes.length),g8 t j=0:=λj b=>k j aD aD
   refine ⟨aD,aD,aD,λj n e=>?_,λj n e=>?_,λj b=>?_,λx g=>?_⟩
   .exact wL t j n (c j (aM.1 e).1) e
   .have b:=(aM.1 e).1
    have a:=c j b
    rw [B8 t j b] at a
    have i:t.nodes[j]=n:=(aM.1 e).2
    rw [i] at a
    split at a<;>try (cases a;done)
    split at a<;>try (cases a;done)
    split at a<;>try (cases a;done)
    rename_i d;simp at d;omega
   .have a:=c j b
    rw [B8 t j b] at a
    split at a<;>try (cases a;done)
    split at a<;>try (cases a;done)
    split at a<;>try (cases a;done)
    split at a<;>try (cases a;done)
    split at a<;>try (cases a;done)
    omega
   .obtain ⟨j,b,rfl⟩:=aO g
    have a:=f j aD aD
    rw [M9 t j b] at a
    split at a<;>try (cases a;done)
    split at a<;>try (cases a;done)
    split at a<;>try (cases a;done)
    rename_i d;simp at d;exact ⟨d.1.1.1,d.1.1.2⟩
theorem Types.valid.parentsOK {t:Types}(h:t.valid)(a:Nat):parentsOK t.nodes a:=λj n _ hn=>h.parent j n hn
def given2F (t:Types)(a b:Int):Int:=if (b9 t).2≠0 then (b9 t).2 else if (insideF t a&&insideF t b)=true then 0 else 6
theorem DW (t:Types)(j:t.ok)(a b:Int):Pure Tryz.prog 124 [t.d,dI a,dI b] (dI (given2F t a b)):=by
 have k:=j.fewN
 refine Tz.pK ⟨λ_=>false,λ_=>[]⟩ Tryz.func124 rfl (λQ i=>?_)
 have Y:=trivial
 refine wv (h:=aB (n9 t j) wl ?_)
 refine dP (λe=>?_) λe=>?_
 .have Y:=wa Y (wa e @given2F.eq_1)
  exact wv (h:=i _ _ wy)
 .refine wo (h:=aB (nQ _ _ _) wl ?_)
  refine wo (h:=aH (λl=>nQ _ _ _) (λl=>wl) ?_)
  refine wo (h:=aP (λc=>?_) (λc=>?_))
  .skip
   simp only [wM] at c
   exact wv (h:=i _ _ (by revert c;cases g:insideF t a<;>cases f:insideF t b<;>simp [go_sem,given2F,e,g,f]))
  .skip
   simp only [wM] at c
   exact wv (h:=i _ _ (by revert c;cases g:insideF t a<;>cases f:insideF t b<;>simp [go_sem,given2F,e,g,f]))
def givenF (t:Types)(l:List Int):Int:=if (b9 t).2≠0 then (b9 t).2 else if (l.any λa=>!insideF t a)=true then 6 else 0
theorem JO (t:Types)(a:Int):Pure Tryz.prog 380 [dI a,.adr t.c] (.bool (!insideF t a)):=by
 refine Tz.pK ⟨λ_=>false,λ_=>[]⟩ Tryz.func380 rfl (λQ b=>?_)
 have Y:=trivial
 have Y:=wa Y @insideF.eq_1
 exact wo (h:=b _ _ wy)
theorem xZ (t:Types)(g:t.ok)(l:List Int):Pure Tryz.prog 323 [t.d,dLI l] (dI (givenF t l)):=by
 refine Tz.pK ⟨λ_=>false,λ_=>[]⟩ Tryz.func323 rfl (λQ e=>?_)
 have Y:=trivial
 refine wv (h:=aB (mI t g) wl ?_)
 refine dP (λb=>?_) λb=>?_
 .have Y:=wa Y (wa b @givenF.eq_1)
  exact wv (h:=e _ _ wy)
 .refine wv (h:=aB (gC l 380 [.adr t.c] (λa=>!insideF t a) (by simp [go_sem]) (by simp [go_sem]) (λa _=>JO t a)) wl ?_)
  refine dP (λf=>?_) λf=>?_
  .have Y:=wa Y (wa b (wa f @givenF.eq_1))
   exact wv (h:=e _ _ wy)
  .have Y:=wa Y (wa b (wa f @givenF.eq_1))
   exact wv (h:=e _ _ wy)
theorem Jh (t:Types)(a b:Int):givenF t [a,b]=given2F t a b:=by
 unfold givenF given2F;cases d:insideF t a<;>cases c:insideF t b<;>simp [d,c]
def Gs (nodes:List NodeTy):Nat->Nat->List Int
 | 0,_=>[]
 | f+1,a=>match nodes[a]? with
  | none=>[]
  | some n=>(if 0<=n.parent then Gs nodes f n.parent.toNat else [])++[(a:Int)]
def Types.line (t:Types)(a:Nat):List Int:=Gs t.nodes (a+1) a
theorem OK (nodes:List NodeTy):∀ a f g,parentsOK nodes a->a<f->a<g->Gs nodes f a=Gs nodes g a:=by
 intro a
 induction a using Nat.strongRecOn with
 | _ a ih =>
  intro f g hp hf hg
  obtain ⟨f,rfl⟩:∃ f',f=f'+1:=⟨f - 1,aD⟩
  obtain ⟨g,rfl⟩:∃ g',g=g'+1:=⟨g - 1,aD⟩
  unfold Gs
  split
  .rfl
  .rename_i n hn
   have:=hp a n (bC _) hn
   congr 1
   split
   .exact ih n.parent.toNat aD f g (λj m hj hm=>hp j m aD hm) aD aD
   .rfl
theorem yX (t:Types)(a:Nat)(b:a<t.nodes.length)(c:parentsOK t.nodes a) :
  t.line a=(if 0<=t.nodes[a].parent then t.line t.nodes[a].parent.toNat else [])++[(a:Int)]:=by
 have e:=c a _ (bC _) (aA b)
 by_cases d:0<=t.nodes[a].parent
 .have hlt:t.nodes[a].parent.toNat<a:=aD
  have:=OK t.nodes t.nodes[a].parent.toNat a (t.nodes[a].parent.toNat+1) (λj m g f=>c j m aD f) hlt aD
  simp [Types.line,Gs,aA b,d,this]
 .simp [Types.line,Gs,aA b,d]
def Jb (t:Types)(k:Nat):List Int:=if k=0 then [] else t.line (k - 1)
theorem Ok {xs a:List Int}{i:Nat}(d:a.length=xs.length)(e:xs.length<=2 * i+1)(c:∀ j,j<xs.length->a[j]?=if j<i\/xs.length - i<=j then xs[xs.length - 1 - j]? else xs[j]?):a=xs.reverse:=by
 apply gL
 intro j
 by_cases b:j<xs.length
 .rw [c j b,List.getElem?_reverse b]
  split
  .rfl
  .rename_i hc
   rw [(aD:j=xs.length - 1 - j)]
   congr 1;omega
 .rw [b7 aD,b7 (by simp;omega)]
theorem LP (G:AHeap)(id:Nat)(xs:List Int)(hg:G.get id=some ⟨3,1,xs.map cI,false⟩)(hl:xs.length<=100000)(Q:D->AHeap->Prop)
  (hQ:∀ H',H'.get id=some ⟨3,1,xs.reverse.map cI,false⟩->(∀ j,j≠id->H'.get j=G.get j)->G.next<=H'.next->Q (.tup []) H'):ACalls Tryz.prog 434 [.own id xs.length] G Q:=by
 refine (aJ (cfg:=⟨λ_=>false,λ_=>[]⟩) Tz.mixed Tryz.func434 rfl rfl (aF rfl) (by kernel_rfl) ?_)
 try simp [go_sem,seval,hg]
 repeat first|intro _|refine ⟨eO,?_⟩
 obtain ⟨I0,hI0⟩:∃ I0:Nat->dJ->AHeap->Prop,∀ (i:Nat) (e:dJ) (H:AHeap),I0 i e H↔(∃ ys:List Int,(e 0=.own id xs.length)/\(e 2=dI i)/\(e 3=dI ((xs.length:Int) - 1 - i))/\(H.get id=some ⟨3,1,ys.map cI,false⟩)/\(∀ j,j≠id->H.get j=G.get j)/\(G.next<=H.next)/\(ys.length=xs.length)/\(∀ j,j<xs.length->ys[j]?=if j<i\/xs.length - i<=j then xs[xs.length - 1 - j]? else xs[j]?)):=⟨λi e H=>_,λ_ _ _=>Iff.rfl⟩
 refine oD I0 (λi=>xs.length - i) (0) ((hI0 _ _ _).2 ⟨(xs),?_,?_,?_,(by exact hg),(by exact λ_ _=>rfl),(by exact bC _),(by first|assumption|omega|(simp [go_sem,hg];done)|(simp_all;done)),(by intro j hj;simp;omega)⟩) ?_
 iterate 3 (first|omega|(simp [go_sem,seval,hg]<;>omega))
 intro i e H hi0
 obtain ⟨ys,q0_0,q2_0,q3_0,hH,hfr,hnx,hy,hr⟩:=(hI0 _ _ _).1 hi0
 have F0:=And.intro q0_0 (And.intro q2_0 q3_0)
 try simp [go_sem,seval,hg,F0,hH]
 refine aP (λh1=>?_) (λh1=>?_)
 .try simp [go_sem] at h1
  have hj:xs.length - 1 - i<ys.length:=aD
  have hi':i<ys.length:=aD
  have htn:((xs.length:Int) - 1 - i).toNat=xs.length - 1 - i:=aD
  have hstep:∀ j,j<xs.length->((ys.set i (ys[xs.length - 1 - i]?.getD 0)).set (xs.length - 1 - i) (ys[i]?.getD 0))[j]?=if j<i+1\/xs.length - (i+1)<=j then xs[xs.length - 1 - j]? else xs[j]?:=λj hjl=>by
   have h1:=hr j hjl
   have h3:=hr i aD
   have h4:=hr (xs.length - 1 - i) aD
   rw [aA hi'] at h3
   rw [aA hj] at h4
   rw [dZ,dZ,aA hi',aA hj]
   by_cases ha:xs.length - 1 - i=j
   .rw [if_pos ha,if_pos (by simp;omega),if_pos aD]
    simp only [Option.getD_some]
    rw [h3,if_neg aD];congr 1;omega
   .rw [if_neg ha]
    by_cases hb:i=j
    .rw [if_pos hb,if_pos aD,if_pos aD]
     simp only [Option.getD_some]
     rw [h4,if_neg aD];congr 1;omega
    .rw [if_neg hb,h1]
     by_cases hc:j<i\/xs.length - i<=j
     .rw [if_pos hc,if_pos aD]
     .rw [if_neg hc,if_neg aD]
  try simp [go_sem,seval,hg,F0,hH,h1,htn,aA hj,aA hi',hy,dZ,(aD:i≠xs.length - 1 - i)]
  repeat first|intro _|refine ⟨eO,?_⟩
  refine d7 (i+1) aD ((hI0 _ _ _).2 ⟨((ys.set i (ys[xs.length - 1 - i]?.getD 0)).set (xs.length - 1 - i) (ys[i]?.getD 0)),?_,?_,?_,(by simp [go_sem,hH,bY,aA hj,aA hi']),(by intro j hj';simp [go_sem,hj',hfr j hj']),(by simp [go_sem];omega),(by first|assumption|omega|(simp [go_sem,hg,F0,hH,h1,htn,aA hj,aA hi',hy,dZ,(aD:i≠xs.length - 1 - i)];done)|(simp_all<;>omega)),(by exact hstep)⟩)<;>first|omega|(simp [go_sem,seval,hg,F0,hH,h1,htn,aA hj,aA hi',hy,dZ,(aD:i≠xs.length - 1 - i)]<;>omega)
 .try simp [go_sem] at h1
  have:=Ok hy aD hr
  subst this
  try simp [go_sem,seval,hg,F0,hH]
  exact hQ _ hH hfr hnx
theorem NV (t:Types)(ht:t.ok)(hv:t.valid)(a:Nat)(ha:a<t.nodes.length):Pure Tryz.prog 381 [t.d,dI a] (.list ((t.line a).map cI)):=by
 have hfew:=hv.fewN
 refine Tz.pK ⟨λt=>t==5,λ_=>[]⟩ Tryz.func381 rfl (λQ hQ=>?_)
 have Y:=trivial
 refine wv (h:=bD (λk e H=>∃ xs:List Int,(e 2=.adr t.c/\e 1=dI ((k:Int) - 1)/\e 5=.own 0 xs.length)/\(H.get 0=some ⟨3,1,xs.map cI,false⟩)/\(0<H.next)/\(k<=t.nodes.length)/\(xs.length+k<=12)/\(Jb t k++xs.reverse=t.line a)) (λk=>k) (a+1) ⟨([]),wg,wn,wn,wi,(by simp;omega),(by simp [Jb])⟩ λI0 hI0 k e H hi0=>?_)
 obtain ⟨xs,E0,g0_0,n0_0,hk,hb,hx⟩:=hi0
 have Y:=wa Y (wa E0 (wa g0_0 (b8 n0_0)))
 refine dP (λh2=>?_) λh2=>?_
 .have hk0:0<k:=aD
  have hkl:k - 1<t.nodes.length:=aD
  have hpar:=hv.parent (k - 1) _ (aA hkl)
  have hlow:=hv.low (k - 1) _ (aA hkl)
  have htn:((k:Int) - 1).toNat=k - 1:=aD
  have hlr:=yX t (k - 1) hkl (hv.parentsOK _)
  have hlk:Jb t k=Jb t (t.nodes[k - 1].parent+1).toNat++[(k:Int) - 1]:=by
   unfold Jb
   rw [if_neg (aD:¬ k=0),hlr]
   by_cases h0:0<=t.nodes[k - 1].parent
   .rw [if_pos h0,if_neg aD,(aD:(t.nodes[k - 1].parent+1).toNat - 1=t.nodes[k - 1].parent.toNat)]
    congr 2;omega
   .rw [if_neg h0,if_pos aD]
    simp;omega
  have Y:=wa Y (wa h2 (wa htn hkl))
  exact wo (h:=wx hI0 ((t.nodes[k - 1].parent+1).toNat) ⟨(xs++[(k:Int) - 1]),wg,wn,wn,wj,(by simp;omega),(by rw [hlk] at hx;rw [<- hx];simp)⟩)
 .have hk0:k=0:=aD
  subst hk0
  have hln:(t.line a).length=xs.length:=by rw [<- hx];simp [Jb]
  have hx':(xs.map cI).reverse=(t.line a).map cI:=by rw [<- List.map_reverse,<- hx];rfl
  refine wv (h:=?_)
  unfold fL;refine LP _ _ xs g0_0 aD _ λH1 gR _ _=>?_
  exact wv (h:=hQ _ _ (by simp [go_sem,gR,hx',hln]))
theorem Fi (t:Types)(f:t.ok)(e:t.valid)(a b:Int)(i:0<=a)(j:a<t.nodes.length):Pure Tryz.prog 324 [t.d,dI a,dI b] (.bool (mem (t.line a.toNat) b)):=by
 have c:=NV t f e a.toNat aD
 rw [Int.toNat_of_nonneg i] at c
 refine Tz.pK ⟨λ_=>false,λ_=>[]⟩ Tryz.func324 rfl (λQ g=>?_)
 have Y:=trivial
 refine wv (h:=aB (c) wl ?_)
 refine wv (h:=aB (fR _ _) wl ?_)
 exact wv (h:=g _ _ wy)
def oF (t:Types)(edge a b:Int):Bool:=decide (given2F t a b=0)&&(decide (0<=edge)&&decide (edge<t.edges.length)) &&
 (mem (t.line a.toNat) (match t.edges[edge.toNat]? with|some x=>x.from_|none=>0)&&mem (t.line b.toNat) (match t.edges[edge.toNat]? with|some x=>x.to_|none=>0))
theorem qU {t:Types}{a b:Int}(h:given2F t a b=0):t.valid/\(0<=a/\a<t.nodes.length)/\(0<=b/\b<t.nodes.length):=by
 unfold given2F at h
 split at h
 .rename_i h1;exact absurd h h1
 .rename_i h1
  split at h
  .rename_i h2;simp [insideF] at h2;exact ⟨nP (bX h1),h2.1,h2.2⟩
  .cases h
theorem Fj (t:Types)(g:t.ok)(c a b:Int):Pure Tryz.prog 229 [t.d,dI c,dI a,dI b] (.bool (oF t c a b)):=by
 refine Tz.pK ⟨λ_=>false,λ_=>[]⟩ Tryz.func229 rfl (λQ j=>?_)
 have Y:=trivial
 refine wo (h:=aB (xZ t g [a,b]) wl ?_)
 refine fA (λf=>?_) λf=>?_
 .rw [Jh] at f
  exact wv (h:=j _ _ (by simp [go_sem,oF];intros;omega))
 .rw [Jh] at f
  obtain ⟨i,l,k⟩:=qU f.1.1
  have e:c.toNat<t.edges.length:=aD
  have Y:=wa Y (aA e)
  refine wo (h:=aI (Fi t g i _ _ l.1 l.2) wl ?_)
  refine wo (h:=dL (λm=>Fi t g i _ _ k.1 k.2) (λm=>wl) ?_)
  exact wo (h:=j _ _ (by simp [go_sem,oF,f,aA e]))
theorem vE (l:List Int)(x b:Int):mem (l++[x]) b=(mem l b||decide (b=x)):=by
 rw [aR,c4,mem_iff,mem_iff];simp
theorem zX (b:Int):mem ([]:List Int) b=false:=by rw [bH];intro h;rw [mem_iff] at h;cases h
theorem T9 (t:Types)(a b:Int)(g:a<0)(f:0<=b):Pure Tryz.prog 266 [t.d,dI a,dI b] (.bool false):=by
 refine Tz.pK ⟨λ_=>false,λ_=>[]⟩ Tryz.func266 rfl (λQ e=>?_)
 have Y:=wa (aD:¬ 0<=a) (aD:¬ a=b)
 refine wo (h:=?_)
 refine dL (r:=.bool false) (λc=>by simp at c) (λc=>by simp at c) ?_
 exact wo (h:=e _ _ wy)
theorem wG (t:Types)(i:t.valid)(b:Int)(m:0<=b):∀ a:Nat,a<t.nodes.length->Pure Tryz.prog 266 [t.d,dI a,dI b] (.bool (mem (t.line a) b)):=by
 intro a
 induction a using Nat.strongRecOn with
 | _ a ih =>
 intro c
 have j:=i.parent a _ (aA c)
 have e:=yX t a c (i.parentsOK a)
 have l:Pure Tryz.prog 266 [t.d,dI t.nodes[a].parent,dI b] (.bool (mem (if 0<=t.nodes[a].parent then t.line t.nodes[a].parent.toNat else []) b)):=by
  by_cases g:0<=t.nodes[a].parent
  .rw [if_pos g]
   have:=ih t.nodes[a].parent.toNat aD aD
   rwa [Int.toNat_of_nonneg g] at this
  .rw [if_neg g,zX]
   exact T9 t _ _ aD m
 rw [e,vE]
 refine Tz.pK ⟨λ_=>false,λ_=>[]⟩ Tryz.func266 rfl (λQ n=>?_)
 have f:decide ((a:Int)=b)=decide (b=(a:Int)):=by rw [aR];simp;omega
 have Y:=wa (aA c) c
 refine wo (h:=dL (λk=>l) (λk=>wl) ?_)
 exact wo (h:=n _ _ (.inl (by simp only [go_sem,f,Bool.or_comm])))
theorem F9 (t:Types)(m:t.ok)(c a b:Int):Pure Tryz.prog 172 [t.d,dI c,dI a,dI b] (.bool (oF t c a b)):=by
 have o:=m.fewE
 refine Tz.pK ⟨λ_=>false,λ_=>[]⟩ Tryz.func172 rfl (λQ n=>?_)
 have Y:=trivial
 refine wo (h:=aB (DW t m a b) wl ?_)
 refine wo (h:=aH (λl=>nQ _ _ _) (λl=>wl) ?_)
 refine wo (h:=aP (λj=>?_) (λj=>?_))
 .skip
  simp [inF] at j
  exact wv (h:=n _ _ (by simp [go_sem,oF];intros;omega))
 .skip
  simp [inF] at j
  obtain ⟨k,q,p⟩:=qU j.1
  have f:c.toNat<t.edges.length:=aD
  have e:=k.ends _ (aC f)
  simp [insideF] at e
  have i:=wG t k t.edges[c.toNat].from_ e.1.1 a.toNat aD
  have g:=wG t k t.edges[c.toNat].to_ e.2.1 b.toNat aD
  rw [Int.toNat_of_nonneg q.1] at i
  rw [Int.toNat_of_nonneg p.1] at g
  have Y:=wa Y (aA f)
  refine wo (h:=aI (i) wl ?_)
  refine wo (h:=dL (λl=>g) (λl=>wl) ?_)
  exact wo (h:=n _ _ (by simp [go_sem,oF,j,aA f];omega))
attribute [go_sem] Slot.c Test.c Pattern.c Pattern.d Part.c Part.d Stage.c
theorem zV {P:Program}{f:FuncId}{ty:TypeId}{sz:Nat}(g:Own P f [.nil] ty sz [])(m:Own P f [.ne] ty sz []):Own P f [.list []] ty sz []:=by
 refine ⟨g.1,λM w b e l=>?_⟩
 obtain ⟨k,i⟩:=l
 match b,k with
 | [v],_ =>
  have h:=i 0 v _ rfl rfl
  cases h with
  | listN=>exact g.2 M w _ e ⟨rfl,λj u d a c=>by
    match j with
    | 0=>simp at a c;subst a;subst c;exact .nil
    | j+1=>simp at a⟩
  | list ad cap sz xs es hc hm=>exact m.2 M w _ e ⟨rfl,λj u d a c=>by
    match j with
    | 0=>simp at a c;subst a;subst c;exact .ne ad cap hm
    | j+1=>simp at a⟩
theorem Pc:Own Tryz.prog 240 [.nil] 3 1 []:=by
 refine Tz.oK ⟨λt=>t==2||t==5,λ_=>[]⟩ Tryz.func240 rfl (λQ a=>?_)
 have Y:=trivial
 refine wv (h:=?_)
 exact a _ _ _ (by simp [go_sem]<;>first|omega|(rw [aR];simp<;>omega)|(simp_all<;>omega)) (by simp [go_sem]<;>first|omega|(rw [aR];simp<;>omega)|(simp_all<;>omega))
theorem Pa:Own Tryz.prog 240 [.ne] 3 1 []:=by
 refine Tz.oK ⟨λt=>t==2||t==5,λ_=>[]⟩ Tryz.func240 rfl (λQ a=>?_)
 have Y:=trivial
 refine wo (h:=?_)
 exact a _ _ _ (by simp [go_sem]<;>first|omega|(rw [aR];simp<;>omega)|(simp_all<;>omega)) (by simp [go_sem]<;>first|omega|(rw [aR];simp<;>omega)|(simp_all<;>omega))
theorem Pb (l:List Int)(c:l.length<=1000000)(a:l≠[]):Own Tryz.prog 240 [.list (l.map cI)] 3 1 (l.map cI):=by
 refine Tz.oK ⟨λt=>t==2||t==5,λ_=>[]⟩ Tryz.func240 rfl (λQ b=>?_)
 have Y:=a
 refine wo (h:=?_)
 exact b _ _ _ (by simp [go_sem,a]<;>first|omega|(rw [aR];simp<;>omega)|(simp_all<;>omega)) (by simp [go_sem,a]<;>first|omega|(rw [aR];simp<;>omega)|(simp_all<;>omega))
theorem jG (l:List Int)(b:l.length<=1000000):Own Tryz.prog 240 [.list (l.map cI)] 3 1 (l.map cI):=by
 by_cases a:l=[]
 .subst a;exact zV Pc Pa
 .exact Pb l b a
theorem O8:Own Tryz.prog 337 [.nil] 9 1 []:=by
 refine Tz.oK ⟨λt=>t==2||t==5,λ_=>[]⟩ Tryz.func337 rfl (λQ a=>?_)
 have Y:=trivial
 refine wv (h:=?_)
 exact a _ _ _ (by simp [go_sem]<;>first|omega|(rw [aR];simp<;>omega)|(simp_all<;>omega)) (by simp [go_sem]<;>first|omega|(rw [aR];simp<;>omega)|(simp_all<;>omega))
theorem O6:Own Tryz.prog 337 [.ne] 9 1 []:=by
 refine Tz.oK ⟨λt=>t==2||t==5,λ_=>[]⟩ Tryz.func337 rfl (λQ a=>?_)
 have Y:=trivial
 refine wo (h:=?_)
 exact a _ _ _ (by simp [go_sem]<;>first|omega|(rw [aR];simp<;>omega)|(simp_all<;>omega)) (by simp [go_sem]<;>first|omega|(rw [aR];simp<;>omega)|(simp_all<;>omega))
theorem O7 (l:List ByteArray)(c:l.length<=1000000)(a:l≠[]):Own Tryz.prog 337 [.list (l.map cS)] 9 1 (l.map cS):=by
 refine Tz.oK ⟨λt=>t==2||t==5,λ_=>[]⟩ Tryz.func337 rfl (λQ b=>?_)
 have Y:=a
 refine wo (h:=?_)
 exact b _ _ _ (by simp [go_sem,a]<;>first|omega|(rw [aR];simp<;>omega)|(simp_all<;>omega)) (by simp [go_sem,a]<;>first|omega|(rw [aR];simp<;>omega)|(simp_all<;>omega))
theorem Ro (l:List ByteArray)(b:l.length<=1000000):Own Tryz.prog 337 [.list (l.map cS)] 9 1 (l.map cS):=by
 by_cases a:l=[]
 .subst a;exact zV O8 O6
 .exact O7 l b a
def bM (t:Types)(a:Int):List Attr:=if given2F t a a=0 then t.attrs a.toNat else []
theorem rY (t:Types)(a:Int):givenF t [a]=given2F t a a:=by
 unfold givenF given2F;cases b:insideF t a<;>simp [b]
theorem wN {t:Types}{a:Int}(h:given2F t a a=0):t.valid/\0<=a/\a<t.nodes.length:=⟨(qU h).1,(qU h).2.1⟩
theorem n7 (t:Types)(ht:t.ok)(a:Int):Pure Tryz.prog 245 [t.d,dI a] (.tup [.list ((bM t a).map Attr.c),dI (given2F t a a)]):=by
 refine Tz.pK ⟨λ_=>false,λ_=>[]⟩ Tryz.func245 rfl (λQ hQ=>?_)
 have Y:=trivial
 refine wv (h:=aB (xZ t ht [a]) wl ?_)
 refine dP (λh2=>?_) λh2=>?_
 .rw [rY] at h2
  exact wv (h:=hQ _ _ (by simp [go_sem,rY,bM,h2]))
 .rw [rY] at h2
  obtain ⟨hv,h0,h1⟩:=wN h2
  have hat:=DG t ht a.toNat aD (hv.parentsOK _)
  rw [Int.toNat_of_nonneg h0] at hat
  have hok:∀ x∈t.attrs a.toNat,x.ok:=vT t.nodes ht.nodes _ _
  have hl8:=hv.attrs a.toNat aD
  refine wv (h:=lY (hat) wl ?_)
  refine wo (h:=bD (λi e H=>(e 2=.adr t.c/\e 1=dI a/\e 7=.own 0 (t.attrs a.toNat).length/\e 20=dI (t.attrs a.toNat).length/\e 21=dI i)/\(H.get 0=some ⟨118,4,(t.attrs a.toNat).map Attr.c,false⟩)/\(0<H.next)/\(i<=(t.attrs a.toNat).length)) (λi=>(t.attrs a.toNat).length - i) 0 ⟨wg,(by simp [go_sem]),wn,wi⟩ λI0 hI0 i e H hi0=>?_)
  obtain ⟨E0,g0_0,n0_0,hi⟩:=hi0
  have Y:=wa Y (wa E0 (wa g0_0 (b8 n0_0)))
  refine dP (λh6=>?_) λh6=>?_
  .have hset:((t.attrs a.toNat).map Attr.c).set i (((t.attrs a.toNat).map Attr.c)[i]'(bX h6))=(t.attrs a.toNat).map Attr.c:=List.set_getElem_self _
   simp [go_sem] at hset
   have Y:=wa Y h6
   refine wo (h:=aB ((Ro (t.attrs a.toNat)[i].names (by have:=(hok _ (aC h6)).few;omega)).pure) wl ?_)
   exact wo (h:=wx hI0 (i+1) ⟨wg,(by simp [go_sem,g0_0,hset]),wn,wj⟩)
  .exact wv (h:=hQ _ _ (by simp [go_sem,g0_0,bM,h2]))
theorem oA (t:Types)(ht:t.ok)(a:Int):Pure Tryz.prog 48 [t.d,dI a] (.tup [.list ((bM t a).map Attr.c),dI (given2F t a a)]):=by
 refine Tz.pK ⟨λt=>t==7||t==10||t==31||t==1000000,λ_=>[]⟩ Tryz.func48 rfl (λQ hQ=>?_)
 have Y:=trivial
 refine wv (h:=aB (DW t ht a a) wl ?_)
 refine dP (λh2=>?_) λh2=>?_
 .exact wv (h:=hQ _ _ (by simp [go_sem,bM,h2]))
 .obtain ⟨hv,h0,h1⟩:=wN h2
  have hat:=DY t ht a.toNat aD (hv.parentsOK _)
  rw [Int.toNat_of_nonneg h0] at hat
  have hok:∀ x∈t.attrs a.toNat,x.ok:=vT t.nodes ht.nodes _ _
  have hl8:=hv.attrs a.toNat aD
  refine wv (h:=aB (hat) wl ?_)
  refine wv (h:=bD (λi e H=>(e 2=.adr t.c/\e 1=dI a/\e 7=.own 0 ((t.attrs a.toNat).take i).length/\e 8=.list ((t.attrs a.toNat).map Attr.c)/\e 9=dI i)/\(H.get 0=some ⟨118,4,((t.attrs a.toNat).take i).map Attr.c,false⟩)/\(0<H.next)/\(i<=(t.attrs a.toNat).length)) (λi=>(t.attrs a.toNat).length - i) 0 ⟨wg,(by simp [go_sem]),wn,wi⟩ λI0 hI0 i e H hi0=>?_)
  obtain ⟨E0,g0_0,n0_0,hi⟩:=hi0
  have Y:=wa Y (wa E0 (wa g0_0 (b8 n0_0)))
  refine fA (λh7=>?_) λh7=>?_
  .have hts:=aE (l:=(t.attrs a.toNat).map Attr.c) (i:=i) (bX h7)
   simp [go_sem] at hts
   have hfw:=(hok _ (aC h7)).few
   have Y:=wa Y h7
   exact wo (h:=wx hI0 (i+1) ⟨wg,(by simp [go_sem,g0_0,hts]),wn,wj⟩)
  .exact wv (h:=hQ _ _ (by simp [go_sem,g0_0,bM,h2,(aD:i=(t.attrs a.toNat).length)]))
def j6 (t:Types)(a:Int):List Int:=if given2F t a a=0 then ((List.range t.nodes.length).filter λ(b:Nat)=>mem (t.line b) a).map λ(b:Nat)=>(b:Int) else []
theorem dG (p:Nat->Bool)(i:Nat):((List.range (i+1)).filter p).map (λ(b:Nat)=>(b:Int))=((List.range i).filter p).map (λ(b:Nat)=>(b:Int))++(if p i=true then [(i:Int)] else []):=by
 rw [c7,k6,List.map_append]
 congr 1
 by_cases h:p i=true<;>simp [h]
theorem Lx (t:Types)(ht:t.ok)(a:Int):Pure Tryz.prog 386 [t.d,dI a] (.tup [dLI (j6 t a),dI (given2F t a a)]):=by
 refine Tz.pK ⟨λt=>t==7,λ_=>[]⟩ Tryz.func386 rfl (λQ hQ=>?_)
 have Y:=trivial
 refine wv (h:=aB (xZ t ht [a]) wl ?_)
 refine dP (λh2=>?_) λh2=>?_
 .rw [rY] at h2
  exact wv (h:=hQ _ _ (by simp [go_sem,rY,j6,h2]))
 .rw [rY] at h2
  obtain ⟨hv,h0,h1⟩:=wN h2
  have hN:=hv.fewN
  refine wo (h:=bD (λi e H=>∃ xs:List Int,(e 2=.adr t.c/\e 1=dI a/\e 7=.own 0 xs.length/\e 18=dI t.nodes.length/\e 19=dI i)/\(H.get 0=some ⟨3,1,xs.map cI,false⟩)/\(0<H.next)/\(i<=t.nodes.length)/\(xs.length<=i)/\(xs=((List.range i).filter λ(b:Nat)=>mem (t.line b) a).map (λ(b:Nat)=>(b:Int)))) (λi=>t.nodes.length - i) 0 ⟨([]),wg,wn,wn,wi,bW,(by rfl)⟩ λI0 hI0 i e H hi0=>?_)
  obtain ⟨xs,E0,g0_0,n0_0,hi,hl,hx⟩:=hi0
  have Y:=wa Y (wa E0 (wa g0_0 (b8 n0_0)))
  refine dP (λh6=>?_) λh6=>?_
  .have Y:=wa Y h6
   refine wv (h:=aB (Fi t ht hv i a aD aD) wl ?_)
   refine dP (λh8=>?_) λh8=>?_
   .have Y:=wa Y h8
    exact wo (h:=wx hI0 (i+1) ⟨(xs++(if mem (t.line i) a=true then [(i:Int)] else [])),wg,wn,wn,wj,(by rw [aL];split<;>simp<;>omega),(by rw [dG,<- hx])⟩)
   .have Y:=wa Y h8
    exact wo (h:=wx hI0 (i+1) ⟨(xs++(if mem (t.line i) a=true then [(i:Int)] else [])),wg,wn,wn,wj,(by rw [aL];split<;>simp<;>omega),(by rw [dG,<- hx])⟩)
  .exact wv (h:=hQ _ _ (by simp [go_sem,g0_0,j6,h2];rw [hx,(aD:i=t.nodes.length)];simp))
def gK {α:Type}(f:α->Int):List α->Int
 | []=>0
 | x :: l=>if f x≠0 then f x else gK f l
theorem kX {α:Type}(f:α->Int){l:List α}{i:Nat}(h:i<l.length):gK f (l.drop i)=if f l[i]≠0 then f l[i] else gK f (l.drop (i+1)):=by
 rw [eE h];rfl
theorem l6 {α:Type}(f:α->Int){l:List α}{i:Nat}(h:¬ i<l.length):gK f (l.drop i)=0:=by
 rw [gY aD];rfl
def termB (n:Int)(x:Term):Bool:=decide (-1<=x.var)&&decide (x.var<n)&&decide (-1000000<=x.add)&&decide (x.add<=1000000)
theorem w8 (n:Int)(x:Term):Pure Tryz.prog 428 [dI n,.agg [dI x.var,dI x.add]] (.bool (termB n x)):=by
 refine Tz.pK ⟨λ_=>false,λ_=>[]⟩ Tryz.func428 rfl (λQ a=>?_)
 have Y:=trivial
 have Y:=wa Y @termB.eq_1
 exact wo (h:=a _ _ wy)
def tD (n:Int)(x:Test):Int:=if x.kind≠1/\x.kind≠2 then 1 else if (termB n x.left&&termB n x.right)=true then 0 else 6
theorem GW (n:Int)(x:Test):Pure Tryz.prog 370 [dI n,.agg x.c] (dI (tD n x)):=by
 refine Tz.pK ⟨λ_=>false,λ_=>[]⟩ Tryz.func370 rfl (λQ d=>?_)
 have Y:=trivial
 refine fA (λg=>?_) λg=>?_
 .exact wv (h:=d _ _ (by simp [go_sem,tD];omega))
 .refine wo (h:=aB (w8 n x.left) wl ?_)
  refine wo (h:=aH (λf=>w8 n x.right) (λf=>wl) ?_)
  refine fA (λe=>?_) λe=>?_
  .exact wv (h:=d _ _ (by revert e;cases b:termB n x.left<;>cases a:termB n x.right<;>simp [go_sem,tD,b,a]<;>omega))
  .exact wv (h:=d _ _ (by revert e;cases b:termB n x.left<;>cases a:termB n x.right<;>simp [go_sem,tD,b,a]<;>omega))
def lE (n:Int)(l:List Test):Int:=if n<0\/12<n then 6 else if 40<l.length then 3 else gK (tD n) l
theorem Do (n:Int)(l:List Test):Pure Tryz.prog 310 [dI n,.list (l.map Test.c)] (dI (lE n l)):=by
 refine Tz.pK ⟨λt=>t==6,λ_=>[]⟩ Tryz.func310 rfl (λQ hQ=>?_)
 have Y:=trivial
 refine fA (λh1=>?_) λh1=>?_
 .exact wv (h:=hQ _ _ (by simp [go_sem,lE];omega))
 .refine fA (λh3=>?_) λh3=>?_
  .exact wv (h:=hQ _ _ (by simp [go_sem,lE];omega))
  .refine wo (h:=bD (λi e H=>(e 0=dI n/\e 17=.list (l.map Test.c)/\e 18=dI l.length/\e 19=dI i)/\(i<=l.length)/\(gK (tD n) (l.drop i)=lE n l)) (λi=>l.length - i) 0 ⟨wg,wi,(by rw [lE,if_neg aD,if_neg aD];rfl)⟩ λI0 hI0 i e H hi0=>?_)
   obtain ⟨E0,hi,hF⟩:=hi0
   have Y:=wa Y E0
   refine dP (λh6=>?_) λh6=>?_
   .have hst:=hF
    rw [kX _ h6] at hst
    have Y:=wa Y h6
    refine wo (h:=aB (GW n l[i]) wl ?_)
    refine fA (λh9=>?_) λh9=>?_
    .exact wv (h:=hQ _ _ (by rw [if_pos (bX h9)] at hst;simp [go_sem,hst]))
    .exact wo (h:=wx hI0 (i+1) ⟨wg,wj,(by rw [if_neg (by simp [h9])] at hst;exact hst)⟩)
   .exact wv (h:=hQ _ _ (by rw [<- hF,l6 _ aD];simp [go_sem]))
def xU (n:Int)(x:Term):Int:=if termB n x=true then 0 else 6
theorem BU (n:Int)(x:Term):Pure Tryz.prog 417 [dI n,.agg [dI x.var,dI x.add]] (dI (xU n x)):=by
 refine Tz.pK ⟨λ_=>false,λ_=>[]⟩ Tryz.func417 rfl (λQ a=>?_)
 have Y:=trivial
 refine fA (λb=>?_) λb=>?_
 .exact wv (h:=a _ _ (by simp [go_sem,xU,termB];omega))
 .exact wv (h:=a _ _ (by simp [go_sem,xU,termB];omega))
theorem QN (n:Int)(x:Test):Pure Tryz.prog 360 [dI n,.agg x.c] (dI (tD n x)):=by
 refine Tz.pK ⟨λ_=>false,λ_=>[]⟩ Tryz.func360 rfl (λQ b=>?_)
 have Y:=trivial
 refine fA (λf=>?_) λf=>?_
 .exact wv (h:=b _ _ (by simp [go_sem,tD];omega))
 .refine wv (h:=aB (BU n x.left) wl ?_)
  refine dP (λd=>?_) λd=>?_
  .exact wv (h:=b _ _ (by revert d;cases a:termB n x.left<;>simp [go_sem,tD,xU,a]<;>omega))
  .refine wv (h:=aB (BU n x.right) wl ?_)
   exact wv (h:=b _ _ (by revert d;cases a:termB n x.left<;>cases e:termB n x.right<;>simp [go_sem,tD,xU,a,e]<;>omega))
theorem Mk (n:Int)(l:List Test):Pure Tryz.prog 290 [dI n,.list (l.map Test.c)] (dI (lE n l)):=by
 refine Tz.pK ⟨λ_=>false,λ_=>[]⟩ Tryz.func290 rfl (λQ hQ=>?_)
 have Y:=trivial
 refine fA (λh1=>?_) λh1=>?_
 .exact wv (h:=hQ _ _ (by simp [go_sem,lE];omega))
 .refine fA (λh3=>?_) λh3=>?_
  .exact wv (h:=hQ _ _ (by simp [go_sem,lE];omega))
  .refine wv (h:=bD (λi e H=>(e 0=dI n/\e 1=.list (l.map Test.c)/\e 5=dI i)/\(i<=l.length)/\(gK (tD n) (l.drop i)=lE n l)) (λi=>l.length - i) 0 ⟨wg,wi,(by rw [lE,if_neg aD,if_neg aD];rfl)⟩ λI0 hI0 i e H hi0=>?_)
   obtain ⟨E0,hi,hF⟩:=hi0
   have Y:=wa Y E0
   refine fA (λh6=>?_) λh6=>?_
   .have hst:=hF
    rw [kX _ h6] at hst
    have Y:=wa Y h6
    refine wo (h:=aB (QN n l[i]) wl ?_)
    refine fA (λh9=>?_) λh9=>?_
    .exact wv (h:=hQ _ _ (by rw [if_pos (bX h9)] at hst;simp [go_sem,hst]))
    .exact wo (h:=wx hI0 (i+1) ⟨wg,wj,(by rw [if_neg (by simp [h9])] at hst;exact hst)⟩)
   .exact wv (h:=hQ _ _ (by rw [<- hF,l6 _ aD];simp [go_sem]))
theorem jH (n b a:Int):Pure Tryz.prog 308 [dI n,dI b,dI a] (.bool (inF n b a)):=by
 refine Tz.pK ⟨λ_=>false,λ_=>[]⟩ Tryz.func308 rfl (λQ c=>?_)
 have Y:=trivial
 have Y:=wa Y @inF.eq_1
 exact wo (h:=c _ _ wy)
def nO:Attr:=⟨⟨#[]⟩,0,0,[]⟩
def Pattern.kind (p:Pattern)(node:Int):Int:=p.graph.nodes[node.toNat]?.getD 0
def lV (t:Types)(p:Pattern)(node attr:Int):Bool:=decide (0<=node)&&decide (node<p.graph.nodes.length)&&(decide (0<=attr)&&decide (attr<(bM t (p.kind node)).length))
def Eh (t:Types)(p:Pattern)(node attr:Int):Attr:=if lV t p node attr=true then (bM t (p.kind node))[attr.toNat]?.getD nO else nO
theorem qA {t:Types}(c:t.ok)(a:Int):(bM t a).length<=8:=by
 unfold bM
 split
 .rename_i h
  obtain ⟨b,e,d⟩:=wN h
  exact b.attrs _ aD
 .simp
theorem He (t:Types)(i:t.ok)(p:Pattern)(m:p.graph.nodes.length<=1000)(s:Slot):Pure Tryz.prog 309 [t.d,p.d,.agg s.c] (.tup [.agg (Eh t p s.node s.attr).c,.bool (lV t p s.node s.attr)]):=by
 have l:=qA i (p.kind s.node)
 refine Tz.pK ⟨λt=>t==6,λ_=>[]⟩ Tryz.func309 rfl (λQ e=>?_)
 have Y:=trivial
 refine wo (h:=aB (jH _ _ _) wl ?_)
 refine fA (λg=>?_) λg=>?_
 .simp [inF] at g
  have b:lV t p s.node s.attr=false:=by rw [bH];intro h;simp [lV] at h;omega
  exact wv (h:=e _ _ (by simp [go_sem,Eh,b,nO]))
 .simp [inF] at g
  have j:s.node.toNat<p.graph.nodes.length:=aD
  have a:p.kind s.node=p.graph.nodes[s.node.toNat]:=by simp [Pattern.kind,j]
  rw [a] at l
  have Y:=wa Y (wa (aA j) a)
  refine wo (h:=aI (n7 t i p.graph.nodes[s.node.toNat]) wl ?_)
  refine wo (h:=aB (jH _ _ _) wl ?_)
  refine fA (λf=>?_) λf=>?_
  .simp [inF] at f
   have b:lV t p s.node s.attr=false:=by rw [bH];intro h;simp [lV,a] at h;omega
   exact wv (h:=e _ _ (by simp [go_sem,Eh,b,nO]))
  .simp [inF] at f
   have k:s.attr.toNat<(bM t p.graph.nodes[s.node.toNat]).length:=aD
   have b:lV t p s.node s.attr=true:=by simp [lV,a];omega
   have Y:=wa Y (aA k)
   exact wo (h:=e _ _ (by simp [go_sem,Eh,b,a,aA k]))
def cB (b:Bool):List D:=[.bool b]
@[go_sem] theorem Ym (l:List Bool):D.clLL (l.map cB)=true:=dK cB (λ_=>rfl) l
attribute [go_sem] cB
theorem OP (xs:List Bool)(v:Bool):Pure Tryz.prog 371 [.list (xs.map cB),.bool v] (dI (idx xs v)):=by
 refine Tz.pK ⟨λ_=>false,λ_=>[]⟩ Tryz.func371 rfl (λQ hQ=>?_)
 have Y:=trivial
 refine wv (h:=?_)
 repeat first|intro _|refine ⟨eO,?_⟩
 refine bD (λi e H=>(e 0=.list (xs.map cB)/\e 1=.bool v/\e 7=dI xs.length/\e 8=dI i)/\(i<=xs.length)/\(∀ j,j<i->xs[j]?≠some v)) (λi=>xs.length - i) 0 ⟨wg,wi,(by intro j hj;omega)⟩ λI0 hI0 i e H hi0=>?_
 obtain ⟨E0,hi,hne⟩:=hi0
 have Y:=wa Y E0
 refine dP (λh2=>?_) λh2=>?_
 .have Y:=wa Y h2
  refine wv (h:=?_)
  repeat first|intro _|refine ⟨eO,?_⟩
  refine wq (λh4=>?_) λh4=>?_
  .exact wv (h:=hQ _ _ (by rw [sK hne (by rw [aA h2,h4])];simp [go_sem]))
  .refine wv (h:=?_)
   repeat first|intro _|refine ⟨eO,?_⟩
   exact wx hI0 (i+1) ⟨wg,wj,(by exact iQ hne (by rw [aA h2];simpa using λh=>h4 h.symm))⟩
 .exact wv (h:=hQ _ _ (by rw [y6 λj hj=>hne j aD];simp [go_sem]))
theorem Id (xs:List Bool)(v:Bool):Pure Tryz.prog 311 [.list (xs.map cB),.bool v] (.bool (mem xs v)):=by
 refine Tz.pK ⟨λ_=>false,λ_=>[]⟩ Tryz.func311 rfl (λQ a=>?_)
 have Y:=trivial
 refine wv (h:=aB (OP xs v) wl ?_)
 have Y:=wa Y @mem.eq_1
 exact wv (h:=a _ _ wy)
def iB (t:Types)(g:Graph):Bool:=(!(g.nodes.any λn=>decide ((t.nodes.length:Int)<=n)))&&!(g.edges.any λx=>decide ((t.edges.length:Int)<=x.type))
theorem Dx (t:Types)(a:Int):Pure Tryz.prog 305 [dI a,.adr t.c] (.bool (decide ((t.nodes.length:Int)<=a))):=by
 refine Tz.pK ⟨λ_=>false,λ_=>[]⟩ Tryz.func305 rfl (λQ b=>?_)
 have Y:=trivial
 exact wo (h:=b _ _ wy)
theorem Dw (t:Types)(x:Edge):Pure Tryz.prog 307 [.agg x.c,.adr t.c] (.bool (decide ((t.edges.length:Int)<=x.type))):=by
 refine Tz.pK ⟨λ_=>false,λ_=>[]⟩ Tryz.func307 rfl (λQ a=>?_)
 have Y:=trivial
 exact wo (h:=a _ _ wy)
def j8 (n:Nat)(l:List Slot):List Bool:=(List.range n).map λ(v:Nat)=>l.any λs=>decide (s.term.var=v)
theorem dS (n:Nat)(l:List Slot):(j8 n l).length=n:=by simp [j8]
theorem Qo (n:Nat):j8 n []=List.replicate n false:=by
 apply fT (by simp [j8]);intro i b a;simp [j8]
theorem Qn (n:Nat)(l:List Slot)(s:Slot)(d:0<=s.term.var)(c:s.term.var<n):j8 n (l++[s])=(j8 n l).set s.term.var.toNat true:=by
 apply fT (by simp [j8]);intro i b a
 rw [Ah]
 simp only [j8,oR,pO,Bs,List.any_cons,List.any_nil,qY]
 split
 .rename_i h;rw [c4];right;simp;omega
 .rename_i h;rw [show decide (s.term.var=(i:Int))=false by simp;omega,qY]
theorem Qp (n:Nat)(l:List Slot)(s:Slot)(c:¬ 0<=s.term.var):j8 n (l++[s])=j8 n l:=by
 apply fT (by simp [j8]);intro i b a
 simp only [j8,oR,pO,Bs,List.any_cons,List.any_nil,qY]
 rw [show decide (s.term.var=(i:Int))=false by simp;omega,qY]
theorem NT (n:Nat)(l:List Slot)(s:Slot)(a:s.term.var<n):j8 n (l++[s])=if 0<=s.term.var then (j8 n l).set s.term.var.toNat true else j8 n l:=by
 split
 .exact Qn n l s ‹_› a
 .exact Qp n l s ‹_›
def gJ (t:Types)(p:Pattern)(s:Slot):Int:=if (lV t p s.node s.attr&&inF s.term.var (-1) (p.vars - 1)&&inF s.term.add (-1000000) 1000000)=true then 0 else 6
def c6 (t:Types)(p:Pattern):Int :=
 if (b9 t).2≠0 then (b9 t).2
 else if graphF p.graph≠0 then graphF p.graph
 else if iB t p.graph=false then 13
 else if inF p.vars 0 12=false then 6
 else if 10<p.slots.length\/10<p.tests.length then 3
 else if gK (gJ t p) p.slots≠0 then 6
 else if lE p.vars p.tests≠0 then lE p.vars p.tests
 else if mem (j8 p.vars.toNat p.slots) false=true then 9 else 0
theorem bS {g:Graph}(h:graphF g=0):g.nodes.length<=40/\g.edges.length<=80:=by
 unfold graphF at h
 split at h
 .cases h
 .omega
theorem RY {t:Types}{p:Pattern}{s:Slot}(h:gJ t p s=0):s.term.var<p.vars/\-1<=s.term.var:=by
 unfold gJ at h
 split at h
 .rename_i h1;simp [inF] at h1;omega
 .cases h
theorem nW (t:Types)(ht:t.ok)(p:Pattern):Pure Tryz.prog 222 [t.d,p.d] (dI (c6 t p)):=by
 refine Tz.pK ⟨λt=>t==10||t==11,λ_=>[]⟩ Tryz.func222 rfl (λQ hQ=>?_)
 try simp [go_sem,seval]
 refine aB (mI t ht) ((by first|rfl|(simp [go_sem,<- List.map_take,<- List.map_drop];done))) ?_
 try simp [go_sem,seval]
 refine aP (λh2=>?_) (λh2=>?_)
 .try simp [go_sem] at h2
  try simp [go_sem,seval]
  exact hQ _ _ (by first|(left;(simp [go_sem,c6,h2]);done)|(right;(simp [go_sem,c6,h2]);done))
 .try simp [go_sem] at h2
  try simp [go_sem,seval]
  refine aB (mO p.graph) ((by first|rfl|(simp [go_sem,<- List.map_take,<- List.map_drop];done))) ?_
  try simp [go_sem,seval]
  refine aP (λh5=>?_) (λh5=>?_)
  .try simp [go_sem] at h5
   try simp [go_sem,seval]
   exact hQ _ _ (by first|(left;(simp [go_sem,c6,h2,h5]);done)|(right;(simp [go_sem,c6,h2,h5]);done))
  .try simp [go_sem] at h5
   have hg:=bS h5
   try simp [go_sem,seval]
   repeat first|intro _|refine ⟨eO,?_⟩
   refine aB (gC p.graph.nodes 305 [.adr t.c] (λa=>decide ((t.nodes.length:Int)<=a)) (by simp [go_sem]) (by simp [go_sem]) (λa _=>Dx t a)) ((by first|rfl|(simp [go_sem,<- List.map_take,<- List.map_drop];done))) ?_
   try simp [go_sem,seval]
   repeat first|intro _|refine ⟨eO,?_⟩
   refine aH (λhg=>lX p.graph.edges 307 [.adr t.c] (λx=>decide ((t.edges.length:Int)<=x.type)) (by simp [go_sem]) (by simp [go_sem]) (λx _=>Dw t x)) (λhg=>(by first|rfl|(simp [go_sem,<- List.map_take,<- List.map_drop];done))) ?_
   try simp [go_sem,seval]
   repeat first|intro _|refine ⟨eO,?_⟩
   refine aP (λh7=>?_) (λh7=>?_)
   .try simp [go_sem] at h7
    have hT:iB t p.graph=false:=by
     simp [iB]
     intro h'
     rcases h7 with ⟨x,hx,hl⟩|h
     .exact absurd (h' x hx) aD
     .exact h
    try simp [go_sem,seval]
    exact hQ _ _ (by first|(left;(simp [go_sem,c6,h2,h5,hT]);done)|(right;(simp [go_sem,c6,h2,h5,hT]);done))
   .try simp [go_sem] at h7
    have hT:iB t p.graph=true:=by simp [iB];exact h7
    try simp [go_sem,seval]
    repeat first|intro _|refine ⟨eO,?_⟩
    refine aB (jH _ _ _) ((by first|rfl|(simp [go_sem,<- List.map_take,<- List.map_drop];done))) ?_
    try simp [go_sem,seval]
    repeat first|intro _|refine ⟨eO,?_⟩
    refine aP (λh9=>?_) (λh9=>?_)
    .try simp [go_sem] at h9
     try simp [go_sem,seval]
     exact hQ _ _ (by first|(left;(simp [go_sem,c6,h2,h5,hT,h9]);done)|(right;(simp [go_sem,c6,h2,h5,hT,h9]);done))
    .try simp [go_sem] at h9
     try simp [go_sem,seval]
     repeat first|intro _|refine ⟨eO,?_⟩
     refine aP (λh11=>?_) (λh11=>?_)
     .try simp [go_sem] at h11
      try simp [go_sem,seval]
      exact hQ _ _ (by first|(left;(simp [go_sem,c6,h2,h5,hT,h9];omega);done)|(right;(simp [go_sem,c6,h2,h5,hT,h9];omega);done))
     .try simp [go_sem] at h11
      have hin:=h9
      simp [inF] at hin
      have hF0:c6 t p=if gK (gJ t p) p.slots≠0 then 6 else if lE p.vars p.tests≠0 then lE p.vars p.tests else if mem (j8 p.vars.toNat p.slots) false=true then 9 else 0:=by
       unfold c6
       rw [if_neg (by simp [h2]),if_neg (by simp [h5]),if_neg (by simp [hT]),if_neg (by simp [h9]),if_neg aD]
      try simp [go_sem,seval]
      repeat first|intro _|refine ⟨eO,?_⟩
      obtain ⟨I0,hI0⟩:∃ I0:Nat->dJ->AHeap->Prop,∀ (i:Nat) (e:dJ) (H:AHeap),I0 i e H↔((e 2=.adr t.c)/\(e 3=.adr p.c)/\(e 8=.own 0 p.vars.toNat)/\(e 58=.list (p.slots.map Slot.c))/\(e 59=dI p.slots.length)/\(e 60=dI i)/\(H.get 0=some ⟨4,1,(j8 p.vars.toNat (p.slots.take i)).map cB,false⟩)/\(0<H.next)/\(i<=p.slots.length)/\(gK (gJ t p) (p.slots.drop i)=gK (gJ t p) p.slots)):=⟨λi e H=>_,λ_ _ _=>Iff.rfl⟩
      refine oD I0 (λi=>p.slots.length - i) (0) ((hI0 _ _ _).2 ⟨?_,?_,?_,?_,?_,?_,(by simp [go_sem,Qo]),?_,(by first|assumption|omega|(simp [go_sem];done)|(simp_all;done)),(by rfl)⟩) ?_
      iterate 7 (first|omega|(simp [go_sem,seval]<;>omega))
      intro i e H hi0
      obtain ⟨q2_0,q3_0,q8_0,q58_0,q59_0,q60_0,g0_0,n0_0,hi,hL⟩:=(hI0 _ _ _).1 hi0
      have x0:=b8 n0_0
      have F0:=And.intro q2_0 (And.intro q3_0 (And.intro q8_0 (And.intro q58_0 (And.intro q59_0 (And.intro q60_0 x0)))))
      try simp [go_sem,seval,F0,g0_0,dS]
      refine aP (λh15=>?_) (λh15=>?_)
      .try simp [go_sem] at h15
       have hst:=kX (gJ t p) h15
       have hts:=aE h15
       try simp [go_sem,seval,F0,g0_0,dS,h15]
       repeat first|intro _|refine ⟨eO,?_⟩
       refine aB (He t ht p aD p.slots[i]) ((by first|rfl|(simp [go_sem,<- List.map_take,<- List.map_drop,F0,g0_0,dS,h15];done))) ?_
       try simp [go_sem,seval,F0,g0_0,dS,h15]
       repeat first|intro _|refine ⟨eO,?_⟩
       refine aH (λhg=>jH _ _ _) (λhg=>(by first|rfl|(simp [go_sem,<- List.map_take,<- List.map_drop,F0,g0_0,dS,h15];done))) ?_
       try simp [go_sem,seval,F0,g0_0,dS,h15]
       repeat first|intro _|refine ⟨eO,?_⟩
       refine aH (λhg=>jH _ _ _) (λhg=>(by first|rfl|(simp [go_sem,<- List.map_take,<- List.map_drop,F0,g0_0,dS,h15];done))) ?_
       try simp [go_sem,seval,F0,g0_0,dS,h15]
       repeat first|intro _|refine ⟨eO,?_⟩
       refine aP (λh18=>?_) (λh18=>?_)
       .skip
        have hs6:gJ t p p.slots[i]=6:=by unfold gJ;rw [if_neg];revert h18;cases lV t p p.slots[i].node p.slots[i].attr<;>cases inF p.slots[i].term.var (-1) (p.vars - 1)<;>cases inF p.slots[i].term.add (-1000000) 1000000<;>simp
        rw [hs6,if_pos bW,hL] at hst
        try simp [go_sem,seval,F0,g0_0,dS,h15]
        exact hQ _ _ (by first|(left;(simp [go_sem,hF0,hst]);done)|(right;(simp [go_sem,hF0,hst]);done))
       .skip
        have hs0:gJ t p p.slots[i]=0:=by unfold gJ;rw [if_pos];revert h18;cases lV t p p.slots[i].node p.slots[i].attr<;>cases inF p.slots[i].term.var (-1) (p.vars - 1)<;>cases inF p.slots[i].term.add (-1000000) 1000000<;>simp
        rw [hs0,if_neg bW,hL] at hst
        have hlt:=RY hs0
        have hus:=NT p.vars.toNat (p.slots.take i) p.slots[i] aD
        try simp [go_sem,seval,F0,g0_0,dS,h15]
        refine aP (λh20=>?_) (λh20=>?_)
        .try simp [go_sem] at h20
         have hfin:j8 p.vars.toNat (p.slots.take (i+1))=(j8 p.vars.toNat (p.slots.take i)).set p.slots[i].term.var.toNat true:=by rw [hts,hus,if_pos aD]
         have hvl:p.slots[i].term.var.toNat<(j8 p.vars.toNat (p.slots.take i)).length:=by rw [dS];omega
         try simp [go_sem,seval,F0,g0_0,dS,h15,aA hvl]
         repeat first|intro _|refine ⟨eO,?_⟩
         refine d7 (i+1) aD ((hI0 _ _ _).2 ⟨?_,?_,?_,?_,?_,?_,(by simp [go_sem,F0,g0_0,dS,h15,aA hvl,bY,hfin]),?_,(by first|assumption|omega|(simp [go_sem,F0,g0_0,dS,h15,aA hvl,h2,h5,h7,h9,h11,h18,h20];done)|(simp_all<;>omega)),(by exact hst.symm)⟩)<;>first|omega|(simp [go_sem,seval,F0,g0_0,dS,h15,aA hvl]<;>omega)
        .try simp [go_sem] at h20
         have hfin:j8 p.vars.toNat (p.slots.take (i+1))=j8 p.vars.toNat (p.slots.take i):=by rw [hts,hus,if_neg aD]
         try simp [go_sem,seval,F0,g0_0,dS,h15]
         repeat first|intro _|refine ⟨eO,?_⟩
         refine d7 (i+1) aD ((hI0 _ _ _).2 ⟨?_,?_,?_,?_,?_,?_,(by simp [go_sem,F0,g0_0,dS,h15,bY,hfin]),?_,(by first|assumption|omega|(simp [go_sem,F0,g0_0,dS,h15,h2,h5,h7,h9,h11,h18,h20];done)|(simp_all<;>omega)),(by exact hst.symm)⟩)<;>first|omega|(simp [go_sem,seval,F0,g0_0,dS,h15]<;>omega)
      .try simp [go_sem] at h15
       have hU:List.take i p.slots=p.slots:=aG aD
       have hz:gK (gJ t p) p.slots=0:=by rw [<- hL,l6 _ aD]
       rw [hU] at g0_0
       rw [if_neg (by simp [hz])] at hF0
       try simp [go_sem,seval,F0,g0_0,dS]
       refine aB (Do p.vars p.tests) ((by first|rfl|(simp [go_sem,<- List.map_take,<- List.map_drop,F0,g0_0,dS];done))) ?_
       try simp [go_sem,seval,F0,g0_0,dS]
       refine aP (λh24=>?_) (λh24=>?_)
       .try simp [go_sem] at h24
        try simp [go_sem,seval,F0,g0_0,dS]
        exact hQ _ _ (by first|(left;(rw [hF0,if_pos (bX h24)];simp [go_sem]);done)|(right;(rw [hF0,if_pos (bX h24)];simp [go_sem]);done))
       .try simp [go_sem] at h24
        try simp [go_sem,seval,F0,g0_0,dS]
        refine dX (Id (j8 p.vars.toNat p.slots) false) (by simp [FI,C2,fK,go_sem,<- List.map_take,<- List.map_drop,F0,g0_0,dS]) ((by first|rfl|(simp [go_sem,<- List.map_take,<- List.map_drop,F0,g0_0,dS];done))) ( rfl) ?_
        try simp [go_sem,seval,F0,g0_0,dS]
        refine aP (λLk=>?_) (λLk=>?_)
        .try simp [go_sem] at Lk
         try simp [go_sem,seval,F0,g0_0,dS]
         exact hQ _ _ (by first|(left;(rw [hF0,if_neg (bX h24),if_pos Lk];simp [go_sem]);done)|(right;(rw [hF0,if_neg (bX h24),if_pos Lk];simp [go_sem]);done))
        .try simp [go_sem] at Lk
         try simp [go_sem,seval,F0,g0_0,dS]
         exact hQ _ _ (by first|(left;(rw [hF0,if_neg (bX h24),if_neg (by simp [Lk])];simp [go_sem]);done)|(right;(rw [hF0,if_neg (bX h24),if_neg (by simp [Lk])];simp [go_sem]);done))
def oG (t:Types)(x:Edge):Bool:=decide (0<=x.type)&&decide (x.type<t.edges.length)
def mD (t:Types)(g:Graph):Bool:=(!(g.nodes.any λa=>!insideF t a))&&!(g.edges.any λx=>!oG t x)
theorem nX {α:Type}{l:List α}{p:α->Bool}{i:Nat}(h:(l.take i).any p=false)(a:l.length<=i):l.any p=false:=by
 rw [aG a] at h;exact h
theorem tI (t:Types)(g:Graph):Pure Tryz.prog 287 [t.d,g.d] (.bool (mD t g)):=by
 refine Tz.pK ⟨λ_=>false,λ_=>[]⟩ Tryz.func287 rfl (λQ hQ=>?_)
 have Y:=trivial
 refine wv (h:=bD (λi e H=>(e 2=.adr t.c/\e 3=.adr g.c/\e 5=dI i)/\(i<=g.nodes.length)/\(((g.nodes.take i).any λa=>!insideF t a)=false)) (λi=>g.nodes.length - i) 0 ⟨wg,wi,(by rfl)⟩ λI0 hI0 i e H hi0=>?_)
 obtain ⟨E0,hi,ha⟩:=hi0
 have Y:=wa Y E0
 refine wv (h:=?_)
 repeat first|intro _|refine ⟨eO,?_⟩
 refine wq (λh2=>?_) λh2=>?_
 .have Y:=wa Y h2
  refine wv (h:=?_)
  repeat first|intro _|refine ⟨eO,?_⟩
  refine wq (λh4=>?_) λh4=>?_
  .refine wv (h:=?_)
   have hb:(g.nodes.any λa=>!insideF t a)=true:=aX.2 ⟨_,aC h2,by simp [insideF];omega⟩
   exact hQ _ _ (.inl (by simp only [go_sem,mD,hb,Hq,Eo]))
  .exact wo (h:=wx hI0 (i+1) ⟨wg,wj,(by rw [dU _ _ _ h2,ha];simp [insideF];omega)⟩)
 .have hN:=nX ha h2
  refine wv (h:=bD (λk e H=>(e 2=.adr t.c/\e 3=.adr g.c/\e 6=dI k)/\(k<=g.edges.length)/\(((g.edges.take k).any λx=>!oG t x)=false)) (λk=>g.edges.length - k) 0 ⟨wg,wi,(by rfl)⟩ λI2 hI2 k e H hi2=>?_)
  obtain ⟨E2,hk,hb⟩:=hi2
  have Y:=wa Y E2
  refine wv (h:=?_)
  repeat first|intro _|refine ⟨eO,?_⟩
  refine wq (λh7=>?_) λh7=>?_
  .have Y:=wa Y h7
   refine wv (h:=?_)
   repeat first|intro _|refine ⟨eO,?_⟩
   refine wq (λh9=>?_) λh9=>?_
   .refine wv (h:=?_)
    have hb':(g.edges.any λx=>!oG t x)=true:=aX.2 ⟨_,aC h7,by simp [oG];omega⟩
    exact hQ _ _ (.inl (by simp only [go_sem,mD,hb',Hq,Bool.and_false]))
   .exact wo (h:=wx hI2 (k+1) ⟨wg,wj,(by rw [dU _ _ _ h7,hb];simp [oG];omega)⟩)
  .refine wv (h:=?_)
   have hE:=nX hb h7
   exact hQ _ _ (.inl (by simp only [go_sem,mD,hN,hE,Bool.not_false,Bool.and_true]))
theorem JE {α:Type}{l:List α}{p q:α->Bool}(h:∀ x∈l,p x=q x):l.any p=l.any q:=by
 induction l with
 | nil=>rfl
 | cons a l ih=>simp only [List.any_cons,h a bW,ih λx b=>h x (by simp [b])]
theorem eK {g:Graph}(h:graphF g=0):(∀ a∈g.nodes,0<=a/\a<=99)/\∀ x∈g.edges,(0<=x.type/\x.type<=99)/\(0<=x.from_/\x.from_<g.nodes.length)/\(0<=x.to_/\x.to_<g.nodes.length):=by
 unfold graphF at h
 split at h
 .cases h
 .split at h
  .cases h
  .rename_i b
   split at h
   .cases h
   .rename_i h2
    simp [iH,tV] at b h2
    refine ⟨b,λx c=>?_⟩
    have:=h2 x c
    omega
theorem vX {t:Types}{g:Graph}(h:graphF g=0):mD t g=iB t g:=by
 obtain ⟨c,b⟩:=eK h
 unfold mD iB
 congr 2
 .exact JE λx a=>by have:=c x a;rw [aR];simp [insideF];omega
 .exact JE λx a=>by have:=b x a;rw [aR];simp [oG];omega
theorem HQ (n:Int):Pure Tryz.prog 289 [dI n] (.bool (inF n (-1000000) 1000000)):=by
 refine Tz.pK ⟨λ_=>false,λ_=>[]⟩ Tryz.func289 rfl (λQ a=>?_)
 have Y:=trivial
 have Y:=wa Y @inF.eq_1
 exact wo (h:=a _ _ wy)
theorem Pl {t:Types}{a:Int}(h:¬ given2F t a a=0):bM t a=[]:=by unfold bM;rw [if_neg h]
theorem Ot (t:Types)(i:t.ok)(p:Pattern)(a b:Int):Pure Tryz.prog 288 [t.d,p.d,dI a,dI b] (.tup [.agg (Eh t p a b).c,.bool (lV t p a b)]):=by
 have k:=qA i (p.kind a)
 refine Tz.pK ⟨λt=>t==8,λ_=>[]⟩ Tryz.func288 rfl (λQ g=>?_)
 have Y:=trivial
 refine fA (λm=>?_) λm=>?_
 .have f:lV t p a b=false:=by rw [bH];intro h;simp [lV] at h;omega
  exact wv (h:=g _ _ (by simp [go_sem,Eh,f,nO]))
 .have hn:a.toNat<p.graph.nodes.length:=aD
  have e:p.kind a=p.graph.nodes[a.toNat]:=by simp [Pattern.kind,hn]
  rw [e] at k
  have Y:=wa Y (wa (aA hn) e)
  refine wo (h:=aI (oA t i p.graph.nodes[a.toNat]) wl ?_)
  refine fA (λl=>?_) λl=>?_
  .have f:lV t p a b=false:=by
    rw [bH];intro h;simp [lV,e] at h
    by_cases j:given2F t p.graph.nodes[a.toNat] p.graph.nodes[a.toNat]=0
    .omega
    .rw [Pl j] at h;simp at h;omega
   exact wv (h:=g _ _ (by simp [go_sem,Eh,f,nO]))
  .have ha:b.toNat<(bM t p.graph.nodes[a.toNat]).length:=aD
   have f:lV t p a b=true:=by simp [lV,e];omega
   have Y:=wa Y (aA ha)
   exact wo (h:=g _ _ (by simp [go_sem,Eh,f,e,aA ha]))
def jR (p:Pattern)(v:Int):Bool:=p.slots.any λs=>decide (s.term.var=v)
theorem Km (p:Pattern)(v:Int):Pure Tryz.prog 291 [p.d,dI v] (.bool (jR p v)):=by
 refine Tz.pK ⟨λ_=>false,λ_=>[]⟩ Tryz.func291 rfl (λQ hQ=>?_)
 have Y:=trivial
 refine wv (h:=bD (λi e H=>(e 2=.adr p.c/\e 1=dI v/\e 5=dI i)/\(i<=p.slots.length)/\(((p.slots.take i).any λs=>decide (s.term.var=v))=false)) (λi=>p.slots.length - i) 0 ⟨wg,wi,(by rfl)⟩ λI0 hI0 i e H hi0=>?_)
 obtain ⟨E0,hi,ha⟩:=hi0
 have Y:=wa Y E0
 refine wv (h:=?_)
 repeat first|intro _|refine ⟨eO,?_⟩
 refine wq (λh2=>?_) λh2=>?_
 .have Y:=wa Y h2
  refine wv (h:=?_)
  repeat first|intro _|refine ⟨eO,?_⟩
  refine wq (λh4=>?_) λh4=>?_
  .refine wv (h:=?_)
   have hb:jR p v=true:=aX.2 ⟨_,aC h2,by simpa using h4⟩
   exact hQ _ _ (.inl (by simp only [go_sem,hb]))
  .exact wo (h:=wx hI0 (i+1) ⟨wg,wj,(by rw [dU _ _ _ h2,ha];simpa using h4)⟩)
 .refine wv (h:=?_)
  have hb:jR p v=false:=nX ha h2
  exact hQ _ _ (.inl (by simp only [go_sem,hb]))
theorem Is (p:Pattern)(n:Nat):mem (j8 n p.slots) false=true↔∃ v:Nat,v<n/\jR p v=false:=by
 rw [mem_iff]
 simp only [j8,bB,bK,jR]
theorem tH (t:Types)(ht:t.ok)(p:Pattern):Pure Tryz.prog 211 [t.d,p.d] (dI (c6 t p)):=by
 refine Tz.pK ⟨λt=>t==9||t==10,λ_=>[]⟩ Tryz.func211 rfl (λQ hQ=>?_)
 have Y:=trivial
 refine wv (h:=aB (n9 t ht) wl ?_)
 refine dP (λh2=>?_) λh2=>?_
 .exact wv (h:=hQ _ _ (by simp [go_sem,c6,h2]))
 .refine wv (h:=aB (lP p.graph) wl ?_)
  refine dP (λh5=>?_) λh5=>?_
  .exact wv (h:=hQ _ _ (by simp [go_sem,c6,h2,h5]))
  .refine wo (h:=aB (tI t p.graph) wl ?_)
   refine fA (λh7=>?_) λh7=>?_
   .rw [vX h5] at h7
    exact wv (h:=hQ _ _ (by simp [go_sem,c6,h2,h5,h7]))
   .rw [vX h5] at h7
    refine fA (λh9=>?_) λh9=>?_
    .exact wv (h:=hQ _ _ (by simp [go_sem,c6,h2,h5,h7,inF];omega))
    .refine fA (λh11=>?_) λh11=>?_
     .exact wv (h:=hQ _ _ (by simp [go_sem,c6,h2,h5,h7,inF];omega))
     .have hF0:c6 t p=if gK (gJ t p) p.slots≠0 then 6 else if lE p.vars p.tests≠0 then lE p.vars p.tests else if mem (j8 p.vars.toNat p.slots) false=true then 9 else 0:=by
       unfold c6
       rw [if_neg (by simp [h2]),if_neg (by simp [h5]),if_neg (by simp [h7]),if_neg (by simp [inF];omega),if_neg aD]
      refine wv (h:=bD (λi e H=>(e 2=.adr t.c/\e 3=.adr p.c/\e 8=dI i)/\(i<=p.slots.length)/\(gK (gJ t p) (p.slots.drop i)=gK (gJ t p) p.slots)) (λi=>p.slots.length - i) 0 ⟨wg,wi,(by rfl)⟩ λI0 hI0 i e H hi0=>?_)
      obtain ⟨E0,hi,hL⟩:=hi0
      have Y:=wa Y E0
      refine fA (λh14=>?_) λh14=>?_
      .have hst:=kX (gJ t p) h14
       have Y:=wa Y h14
       refine wo (h:=aB (Ot t ht p p.slots[i].node p.slots[i].attr) wl ?_)
       refine wo (h:=aH (λhg=>HQ _) (λhg=>wl) ?_)
       refine wo (h:=aP (λh18=>?_) (λh18=>?_))
       .skip
        have hs6:gJ t p p.slots[i]=6:=by
         unfold gJ;rw [if_neg];intro h;simp [inF] at h;simp [h.1.1,inF] at h18;omega
        rw [hs6,if_pos bW,hL] at hst
        exact wv (h:=hQ _ _ (by simp [go_sem,hF0,hst]))
       .skip
        have hs0:gJ t p p.slots[i]=0:=by
         unfold gJ;rw [if_pos];simp [inF] at h18 ⊢;refine ⟨⟨h18.1.1.1,?_⟩,?_⟩<;>omega
        rw [hs0,if_neg bW,hL] at hst
        exact wo (h:=wx hI0 (i+1) ⟨wg,wj,(by exact hst.symm)⟩)
      .have hz:gK (gJ t p) p.slots=0:=by rw [<- hL,l6 _ aD]
       rw [if_neg (by simp [hz])] at hF0
       refine wv (h:=aB (Mk p.vars p.tests) wl ?_)
       refine dP (λh21=>?_) λh21=>?_
       .exact wv (h:=hQ _ _ (by rw [hF0,if_pos (bX h21)];simp [go_sem]))
       .rw [if_neg (bX h21)] at hF0
        refine wv (h:=bD (λv e H=>(e 2=.adr t.c/\e 3=.adr p.c/\e 13=dI v)/\(v<=p.vars.toNat)/\(∀ j:Nat,j<v->jR p j=true)) (λv=>p.vars.toNat - v) 0 ⟨wg,wi,(by intro j hj;omega)⟩ λI2 hI2 v e H hi2=>?_)
        obtain ⟨E2,hv,ho⟩:=hi2
        have Y:=wa Y E2
        refine dP (λh24=>?_) λh24=>?_
        .have Y:=wa Y h24
         refine wo (h:=aB (Km p v) wl ?_)
         refine fA (λLk=>?_) λLk=>?_
         .exact wv (h:=hQ _ _ (by rw [hF0,if_pos ((Is p _).2 ⟨v,aD,by simpa using Lk⟩)];simp [go_sem]))
         .exact wo (h:=wx hI2 (v+1) ⟨wg,wj,(by exact iQ (p:=λj=>jR p j=true) ho (bX Lk))⟩)
        .refine wv (h:=?_)
         have hm:¬ mem (j8 p.vars.toNat p.slots) false=true:=λh=>by
          obtain ⟨w,hw,ho'⟩:=(Is p _).1 h
          rw [ho w aD] at ho';cases ho'
         exact hQ _ _ (by rw [hF0,if_neg hm];simp [go_sem])
end Go.Abs
end
section
namespace Go.Proofs
open Go.Shelf
def Tryz.laysSort_ren:Go.Shelf.Ren:=⟨fun|189=>275|125=>353|257=>352|128=>409|129=>410|294=>401|295=>402|296=>403|297=>404|298=>405|299=>406|216=>333|300=>407|301=>408|328=>444|329=>445|330=>446|331=>447|332=>448|215=>389|343=>460|n=>n,fun|28=>26|3=>3|46=>349|0=>0|51=>390|53=>69|4=>4|183=>405|182=>404|131=>285|5=>5|9=>9|218=>430|222=>434|228=>441|229=>326|n=>n,fun|n=>n⟩
theorem Tryz.laysSort:Go.Proofs.Lays.n189 Tryz.prog Tryz.laysSort_ren:={
 mixed:=by kernel_rfl
 f125:=Tryz.func353.trans (congrArg some (by kernel_rfl))
 f128:=Tryz.func409.trans (congrArg some (by kernel_rfl))
 f129:=Tryz.func410.trans (congrArg some (by kernel_rfl))
 f189:=Tryz.func275.trans (congrArg some (by kernel_rfl))
 f215:=Tryz.func389.trans (congrArg some (by kernel_rfl))
 f216:=Tryz.func333.trans (congrArg some (by kernel_rfl))
 f257:=Tryz.func352.trans (congrArg some (by kernel_rfl))
 f294:=Tryz.func401.trans (congrArg some (by kernel_rfl))
 f295:=Tryz.func402.trans (congrArg some (by kernel_rfl))
 f296:=Tryz.func403.trans (congrArg some (by kernel_rfl))
 f297:=Tryz.func404.trans (congrArg some (by kernel_rfl))
 f298:=Tryz.func405.trans (congrArg some (by kernel_rfl))
 f299:=Tryz.func406.trans (congrArg some (by kernel_rfl))
 f300:=Tryz.func407.trans (congrArg some (by kernel_rfl))
 f301:=Tryz.func408.trans (congrArg some (by kernel_rfl))
 f328:=Tryz.func444.trans (congrArg some (by kernel_rfl))
 f329:=Tryz.func445.trans (congrArg some (by kernel_rfl))
 f330:=Tryz.func446.trans (congrArg some (by kernel_rfl))
 f331:=Tryz.func447.trans (congrArg some (by kernel_rfl))
 f332:=Tryz.func448.trans (congrArg some (by kernel_rfl))
 f343:=Tryz.func460.trans (congrArg some (by kernel_rfl))
 t0:=Tryz.underlying0
 a0:=Tryz.isAgg0
 z0:=Tryz.sizeOf0
 v0:=Tryz.zeroValue0
 t3:=Tryz.underlying3
 a3:=Tryz.isAgg3
 z3:=Tryz.sizeOf3
 v3:=Tryz.zeroValue3
 t4:=Tryz.underlying4
 a4:=Tryz.isAgg4
 z4:=Tryz.sizeOf4
 v4:=Tryz.zeroValue4
 t5:=Tryz.underlying5
 a5:=Tryz.isAgg5
 z5:=Tryz.sizeOf5
 v5:=Tryz.zeroValue5
 t9:=Tryz.underlying9
 a9:=Tryz.isAgg9
 z9:=Tryz.sizeOf9
 v9:=Tryz.zeroValue9
 t28:=Tryz.underlying26
 a28:=Tryz.isAgg26
 z28:=Tryz.sizeOf26
 v28:=Tryz.zeroValue26
 t46:=Tryz.underlying349
 a46:=Tryz.isAgg349
 z46:=Tryz.sizeOf349
 v46:=Tryz.zeroValue349
 t51:=Tryz.underlying390
 a51:=Tryz.isAgg390
 z51:=Tryz.sizeOf390
 v51:=Tryz.zeroValue390
 t53:=Tryz.underlying69
 a53:=Tryz.isAgg69
 z53:=Tryz.sizeOf69
 v53:=Tryz.zeroValue69
 t131:=Tryz.underlying285
 a131:=Tryz.isAgg285
 z131:=Tryz.sizeOf285
 v131:=Tryz.zeroValue285
 t182:=Tryz.underlying404
 a182:=Tryz.isAgg404
 z182:=Tryz.sizeOf404
 v182:=Tryz.zeroValue404
 t183:=Tryz.underlying405
 a183:=Tryz.isAgg405
 z183:=Tryz.sizeOf405
 v183:=Tryz.zeroValue405
 t218:=Tryz.underlying430
 a218:=Tryz.isAgg430
 z218:=Tryz.sizeOf430
 v218:=Tryz.zeroValue430
 t222:=Tryz.underlying434
 a222:=Tryz.isAgg434
 z222:=Tryz.sizeOf434
 v222:=Tryz.zeroValue434
 t228:=Tryz.underlying441
 a228:=Tryz.isAgg441
 z228:=Tryz.sizeOf441
 v228:=Tryz.zeroValue441
 t229:=Tryz.underlying326
 a229:=Tryz.isAgg326
 z229:=Tryz.sizeOf326
 v229:=Tryz.zeroValue326 }
def Tryz.laysCompact_ren:Go.Shelf.Ren:=⟨fun|20=>276|n=>n,fun|22=>26|3=>3|4=>4|0=>0|n=>n,fun|n=>n⟩
theorem Tryz.laysCompact:Go.Proofs.Lays2.n20 Tryz.prog Tryz.laysCompact_ren:={
 mixed:=by kernel_rfl
 f20:=Tryz.func276.trans (congrArg some (by kernel_rfl))
 t0:=Tryz.underlying0
 a0:=Tryz.isAgg0
 z0:=Tryz.sizeOf0
 v0:=Tryz.zeroValue0
 t3:=Tryz.underlying3
 a3:=Tryz.isAgg3
 z3:=Tryz.sizeOf3
 v3:=Tryz.zeroValue3
 t4:=Tryz.underlying4
 a4:=Tryz.isAgg4
 z4:=Tryz.sizeOf4
 v4:=Tryz.zeroValue4
 t22:=Tryz.underlying26
 a22:=Tryz.isAgg26
 z22:=Tryz.sizeOf26
 v22:=Tryz.zeroValue26
 i3:=by kernel_rfl }
end Go.Proofs
end
section
set_option maxRecDepth 4000
open Go Go.Proofs Go.Shelf
namespace Go.Abs
def j5 (xs:List Int):List Int:=xs.mergeSort λx y=>decide (x<=y)
theorem kO (xs:List Int):(j5 xs).length=xs.length:=List.length_mergeSort xs
theorem BC {G:AHeap}{c:Nat}{ty:TypeId}{xs:List Int}{Q:D->AHeap->Prop}(o:G.get c=some ⟨ty,1,xs.map cI,false⟩)(t:xs.length<=1000000)
  (q:Q (.tup []) (G.put c ⟨ty,1,(j5 xs).map cI,false⟩)):ACalls Tryz.prog 275 [.own c xs.length] G Q:=by
 refine NK ⟨Tryz.f275,Tryz.func275,rfl,rfl⟩ o (kO xs) (λw v b=>?_) q
 rcases b.2 with ⟨rfl,r⟩|⟨g,l,s,rfl,p,a,h,k,j,f⟩
 .have hx:xs=[]:=bP r
  subst hx
  exact (Any.slices_Sort_int_none Tryz.laysSort none 0 w).mono λe m ⟨i,d⟩=>by
   subst d
   exact ⟨i,⟨rfl,rfl,rfl,bC _,λ_ _ _=>rfl⟩,by simpa [ES,j5] using b⟩
 .have hH:Sort.Holds (Value.int .i64) w g 0 xs.toArray:=holds_of_blockI a (bX f)
  refine (Any.slices_Sort_int Tryz.laysSort g 0 l xs w hH (rA.1 a).1 aD).mono λe m ⟨i,n,os,d⟩=>?_
  subst d
  refine ⟨i,grownBy_sortedI _,?_⟩
  have:=ownsRow_sortedI (n:=n) (os:=os) (ts:=j5 xs) (kO xs) p a h k (bX j)
  unfold ES
  rw [kO]
  exact this
theorem Bi (zs:List Int):(Lib.compact zs).length<=zs.length:=by
 unfold Lib.compact Lib.compactUpTo
 rw [aV]
 exact fC (mH _ _) bW
theorem zJ {G:AHeap}{f:Nat}{ty:TypeId}{xs:List Int}{Q:D->AHeap->Prop}(t:G.get f=some ⟨ty,1,xs.map cI,false⟩)(A:xs.length<=1000000)
  (x:∀ k,Q (.list ((Lib.compact xs).map cI)) (G.put f k)):ACalls Tryz.prog 276 [.own f xs.length] G Q:=by
 have p:=Bi xs
 have c:(Lib.compact xs++List.replicate (xs.length - (Lib.compact xs).length) 0).length=xs.length:=by simp;omega
 refine K9 (zs:=Lib.compact xs++List.replicate (xs.length - (Lib.compact xs).length) 0) (m:=(Lib.compact xs).length) ⟨Tryz.f276,Tryz.func276,rfl,rfl⟩ t c p (λw v a=>?_) (by rw [List.take_left];exact x _)
 rcases a.2 with ⟨rfl,y⟩|⟨g,r,z,rfl,u,b,d,o,l,i⟩
 .have hx:xs=[]:=bP y
  subst hx
  exact (Any.slices_Compact_int_empty Tryz.laysCompact none 0 w).mono λe s ⟨j,h⟩=>by
   subst h
   exact ⟨⟨_,j,.inl ⟨rfl,rfl⟩⟩,⟨rfl,rfl,rfl,bC _,λ_ _ _=>rfl⟩,by simpa [ES,Lib.compact,Lib.compactUpTo] using a⟩
 .have hH:Sort.Holds (Value.int .i64) w g 0 xs.toArray:=holds_of_blockI b (bX i)
  refine (Any.slices_Compact_int Tryz.laysCompact g 0 r xs w hH aD d).mono λe s ⟨j,q,h⟩=>?_
  subst h
  refine ⟨⟨_,j,.inr ⟨_,_,_,rfl,rfl⟩⟩,?_,?_⟩
  .have:=grownBy_sortedI (w:=w) (g:=g) (n:=q) (os:=#[]) (Lib.compact xs++List.replicate (xs.length - (Lib.compact xs).length) 0).toArray
   rw [Sort.grow_empty] at this
   exact this
  .have:=ownsRow_sortedI (n:=q) (os:=#[]) (ts:=Lib.compact xs++List.replicate (xs.length - (Lib.compact xs).length) 0) c u b d o (bX l)
   rw [Sort.grow_empty] at this
   unfold ES
   rw [c]
   exact this
def imagesN (xs:List Int):Nat:=(Lib.compact (j5 xs)).length
theorem w4 (xs:List Int)(b:xs.length<=1000000):Pure Tryz.prog 376 [dLI xs] (dI (imagesN xs)):=by
 have a:=kO xs
 refine Tz.pK ⟨λ_=>false,λ_=>[]⟩ Tryz.func376 rfl (λQ c=>?_)
 have Y:=trivial
 refine wv (h:=lY (jG xs b) wl ?_)
 refine wv (h:=?_)
 unfold fL;refine BC (ty:=3) (xs:=xs) (by simp [go_sem]) b ?_
 refine wo (h:=?_)
 unfold fL;rw [show xs.length=(j5 xs).length from a.symm];refine zJ (ty:=3) (xs:=j5 xs) (by simp [go_sem]) aD λk=>?_
 have Y:=wa Y @imagesN.eq_1
 exact wo (h:=c _ _ wy)
end Go.Abs
end
