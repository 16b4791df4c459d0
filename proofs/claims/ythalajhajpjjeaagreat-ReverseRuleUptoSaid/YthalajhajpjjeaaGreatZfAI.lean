/- Layer 4, the reference: types.Valid. · Layer 4: lines of typ -/
import Derived.Test.YthalajhajpjjeaaGreatZfAF
import Derived.Test.YthalajhajpjjeaaGreatZfAA
import Derived.Test.YthalajhajpjjeaaGreatZfAH
import Derived.Ground.NamesProg
import Derived.Ground.Names2Prog
import Derived.Shelf.Sort.Plain
import Derived.Shelf.Slices.CompactI
import Derived.Shelf.Slices.In.SortNone
import Derived.Test.YthalajhajpjjeaaGreatProg
set_option linter.unusedVariables false
set_option linter.unusedSimpArgs false
section
set_option maxRecDepth 100000
set_option maxHeartbeats 4000000
open Go Go.Proofs
namespace Go.Abs
theorem MD (t:Types)(i:Nat)(hi:i<t.edges.length):jW t i =
  if lW t.edges[i].name=false then 2
  else if ((t.edges.take i).any λy=>decide (y.name=t.edges[i].name))=true then 5
  else if (insideF t t.edges[i].from_&&insideF t t.edges[i].to_&&boundedF t.edges[i].outLow t.edges[i].outHigh&&boundedF t.edges[i].inLow t.edges[i].inHigh)=true then 0 else 6:=by
 unfold jW;rw [aA hi]
theorem vU (t:Types)(a:Int):inF a 0 ((t.nodes.length:Int) - 1)=insideF t a:=by
 simp only [inF,insideF];rw [aT];simp;omega
theorem NY (t:Types)(ht:t.ok)(i:Nat)(hi:i<t.edges.length):Pure Tryz.prog 196 [t.d,dI i] (dI (jW t i)):=by
 have hno:=ht.edges _ (aC hi)
 have hfew:=ht.fewN
 have hfewE:=ht.fewE
 have hF:=MD t i hi
 refine Tz.pK ⟨λt=>t==5,λ_=>[]⟩ Tryz.func196 rfl (λQ hQ=>?_)
 have Y:=wa (aA hi) hi
 refine wo (h:=aB (oM _ hno.name) wl ?_)
 refine fA (λh2=>?_) λh2=>?_
 .exact wv (h:=hQ _ _ (by simp [go_sem,hF,h2]))
 .refine wv (h:=bF (λk e H=>(e 1=dI i/\e 2=.adr t.c/\e 5=.ptr 0 1 0 0/\e 6=dI k)/\(H.get 0=some ⟨174,7,[t.edges[i].c],false⟩)/\(0<H.next)/\(k<=i)/\(((t.edges.take k).any λm=>decide (m.name=t.edges[i].name))=false)) (λk=>i - k) 0 ⟨wg,wn,wn,wi,bV⟩ λI0 hI0 k e H hi0=>?_)
  obtain ⟨E0,g0_0,n0_0,hk,hne⟩:=hi0
  have Y:=wa Y (wa E0 (wa g0_0 (cD n0_0)))
  refine dP (λh5=>?_) λh5=>?_
  .have hkl:k<t.edges.length:=aD
   have Y:=wa Y (wa h5 hkl)
   refine fA (λh7=>?_) λh7=>?_
   .exact wv (h:=hQ _ _ (by have hb:=tF (p:=λm:EdgeTy=>decide (m.name=t.edges[i].name)) h5 hkl (bW h7);rw [hF,if_neg (by simp [h2]),if_pos hb];simp [go_sem]))
   .exact wo (h:=wx hI0 (k+1) ⟨wg,wn,wn,wj,(by rw [dS _ _ _ hkl,hne];simpa using h7)⟩)
  .have hb:=rA hne (aD:k=i)
   refine wo (h:=aB (nD _ _ _) wl ?_)
   refine wo (h:=aG (λhg=>nD _ _ _) (λhg=>wl) ?_)
   refine wo (h:=aG (λhg=>Dz _ _) (λhg=>wl) ?_)
   refine wo (h:=aG (λhg=>Dz _ _) (λhg=>wl) ?_)
   refine wo (h:=aP (λh10=>?_) (λh10=>?_))
   .skip
    simp only [vU] at h10
    exact wv (h:=hQ _ _ (by rw [hF,if_neg (by simp [h2]),if_neg (by simp [hb])];revert h10;cases insideF t t.edges[i].from_<;>cases insideF t t.edges[i].to_<;>cases boundedF t.edges[i].outLow t.edges[i].outHigh<;>cases boundedF t.edges[i].inLow t.edges[i].inHigh<;>simp [go_sem]))
   .skip
    simp only [vU] at h10
    exact wv (h:=hQ _ _ (by rw [hF,if_neg (by simp [h2]),if_neg (by simp [hb])];revert h10;cases insideF t t.edges[i].from_<;>cases insideF t t.edges[i].to_<;>cases boundedF t.edges[i].outLow t.edges[i].outHigh<;>cases boundedF t.edges[i].inLow t.edges[i].inHigh<;>simp [go_sem]))
theorem BS (f:Nat->Int)(nm:Nat->ByteArray)(last:ByteArray × Int){k n:Nat}(h:k<n):eU f nm last k (n - k)=if f k≠0 then (nm k,f k) else eU f nm last (k+1) (n - (k+1)):=by
 rw [(aD:n - k=n - (k+1)+1),eU]
theorem nU (t:Types)(ht:t.ok):Pure Tryz.prog 103 [t.d] (.tup [.str (cZ t).1,dI (cZ t).2]):=by
 have hfew:=ht.fewN
 have hfewE:=ht.fewE
 refine Tz.pK ⟨λ_=>false,λ_=>[]⟩ Tryz.func103 rfl (λQ hQ=>?_)
 have Y:=trivial
 refine fA (λh1=>?_) λh1=>?_
 .exact wv (h:=hQ _ _ (by simp [go_sem,cZ,h1]))
 .refine fA (λh3=>?_) λh3=>?_
  .exact wv (h:=hQ _ _ (by simp [go_sem,cZ,h1,(aD:12<t.nodes.length\/20<t.edges.length)]))
  .have e:cZ t=eU (g5 t) t.nodeName (eU (jW t) t.edgeName (⟨#[]⟩,0) 0 t.edges.length) 0 t.nodes.length:=by simp only [cZ];rw [if_neg (bW h1),if_neg aD]
   refine wv (h:=bF (λi e H=>(e 1=.adr t.c/\e 4=dI i)/\(i<=t.nodes.length)/\(∀ j,j<i->g5 t j=0)/\(eU (g5 t) t.nodeName (eU (jW t) t.edgeName (⟨#[]⟩,0) 0 t.edges.length) i (t.nodes.length - i)=cZ t)) (λi=>t.nodes.length - i) 0 ⟨wg,wi,(by intro j hj;omega),(by rw [e];rfl)⟩ λI0 hI0 i e H hi0=>?_)
   obtain ⟨E0,hi,hz,hFk⟩:=hi0
   have Y:=wa Y E0
   refine fA (λh6=>?_) λh6=>?_
   .have hst:=hFk
    rw [BS _ _ _ h6] at hst
    have Y:=wa Y h6
    refine wv (h:=aB (NX t ht i h6 (λj n hj hn=>vS t j n (hz j hj) hn)) wl ?_)
    refine dP (λh9=>?_) λh9=>?_
    .exact wo (h:=hQ _ _ (by rw [if_pos (bW h9)] at hst;simp [go_sem,<- hst,Types.nodeName,aA h6]))
    .exact wo (h:=wx hI0 (i+1) ⟨wg,wj,(by exact iP hz (bW h9)),(by rw [if_neg (bW h9)] at hst;exact hst)⟩)
   .have hE:eU (jW t) t.edgeName (⟨#[]⟩,0) 0 t.edges.length=cZ t:=by rw [<- hFk,(aD:t.nodes.length - i=0)];rfl
    refine wv (h:=bF (λi e H=>(e 1=.adr t.c/\e 6=dI i)/\(i<=t.edges.length)/\(eU (jW t) t.edgeName (⟨#[]⟩,0) i (t.edges.length - i)=cZ t)) (λi=>t.edges.length - i) 0 ⟨wg,wi,(by exact hE)⟩ λI2 hI2 i e H hi2=>?_)
    obtain ⟨E2,hi,hFk⟩:=hi2
    have Y:=wa Y E2
    refine fA (λh12=>?_) λh12=>?_
    .have hst:=hFk
     rw [BS _ _ _ h12] at hst
     have Y:=wa Y h12
     refine wv (h:=aB (NY t ht i h12) wl ?_)
     refine dP (λh15=>?_) λh15=>?_
     .exact wo (h:=hQ _ _ (by rw [if_pos (bW h15)] at hst;simp [go_sem,<- hst,Types.edgeName,aA h12]))
     .exact wo (h:=wx hI2 (i+1) ⟨wg,wj,(by rw [if_neg (bW h15)] at hst;exact hst)⟩)
    .exact wv (h:=hQ _ _ (by rw [<- hFk,(aD:t.edges.length - i=0)];simp [go_sem,eU]))
theorem q6 {f:Nat->Int}{nm:Nat->ByteArray}{last:ByteArray × Int}:∀ (n k:Nat),(eU f nm last k n).2=0->(∀ j,k<=j->j<k+n->f j=0)/\last.2=0
 | 0,k,h=>⟨λj h1 h2=>by omega,h⟩
 | n+1,k,h=>by
  unfold eU at h
  split at h
  .rename_i hne;exact absurd h hne
  .rename_i hz
   obtain ⟨a,b⟩:=q6 n (k+1) h
   refine ⟨λj h1 h2=>?_,b⟩
   rcases Nat.eq_or_lt_of_le h1 with h3|h3
   .subst h3;exact bB λhne=>hz hne
   .exact a j h3 aD
structure Types.valid (t:Types):Prop where
 ne:0<t.nodes.length
 fewN:t.nodes.length<=12
 fewE:t.edges.length<=20
 parent:∀ (j:Nat) (n:NodeTy),t.nodes[j]?=some n->n.parent<j
 low:∀ (j:Nat) (n:NodeTy),t.nodes[j]?=some n->-1<=n.parent
 attrs:∀ j,j<t.nodes.length->(t.attrs j).length<=8
 ends:∀ x∈t.edges,insideF t x.from_=true/\insideF t x.to_=true
theorem nC {t:Types}(h:(cZ t).2=0):t.valid:=by
 unfold cZ at h
 split at h
 .simp at h
 .rename_i h0
  split at h
  .simp at h
  .rename_i h1
   obtain ⟨hN,hE⟩:=q6 _ _ h
   obtain ⟨hE,_⟩:=q6 _ _ hE
   have hN':∀ j (hj:j<t.nodes.length),g5 t j=0:=λj hj=>hN j aD aD
   refine ⟨aD,aD,aD,λj n hn=>?_,λj n hn=>?_,λj hj=>?_,λx hx=>?_⟩
   .exact vS t j n (hN' j (aM.1 hn).1) hn
   .have hj:=(aM.1 hn).1
    have h2:=hN' j hj
    rw [BC t j hj] at h2
    have he:t.nodes[j]=n:=(aM.1 hn).2
    rw [he] at h2
    split at h2<;>try (cases h2;done)
    split at h2<;>try (cases h2;done)
    split at h2<;>try (cases h2;done)
    rename_i hr;simp at hr;omega
   .have h2:=hN' j hj
    rw [BC t j hj] at h2
    split at h2<;>try (cases h2;done)
    split at h2<;>try (cases h2;done)
    split at h2<;>try (cases h2;done)
    split at h2<;>try (cases h2;done)
    split at h2<;>try (cases h2;done)
    omega
   .obtain ⟨j,hj,rfl⟩:=aO hx
    have h2:=hE j aD aD
    rw [MD t j hj] at h2
    split at h2<;>try (cases h2;done)
    split at h2<;>try (cases h2;done)
    split at h2<;>try (cases h2;done)
    rename_i hr;simp at hr;exact ⟨hr.1.1.1,hr.1.1.2⟩
theorem Types.valid.parentsOK {t:Types}(h:t.valid)(a:Nat):parentsOK t.nodes a:=λj n _ hn=>h.parent j n hn
def given2F (t:Types)(a b:Int):Int:=if (cZ t).2≠0 then (cZ t).2 else if (insideF t a&&insideF t b)=true then 0 else 6
theorem Dy (t:Types)(ht:t.ok)(a b:Int):Pure Tryz.prog 124 [t.d,dI a,dI b] (dI (given2F t a b)):=by
 have hfew:=ht.fewN
 refine Tz.pK ⟨λ_=>false,λ_=>[]⟩ Tryz.func124 rfl (λQ hQ=>?_)
 have Y:=trivial
 refine wv (h:=aB (nU t ht) wl ?_)
 refine dP (λh2=>?_) λh2=>?_
 .have Y:=wa Y (wa h2 @given2F.eq_1)
  exact wv (h:=hQ _ _ wy)
 .refine wo (h:=aB (nD _ _ _) wl ?_)
  refine wo (h:=aG (λhg=>nD _ _ _) (λhg=>wl) ?_)
  refine wo (h:=aP (λh4=>?_) (λh4=>?_))
  .skip
   simp only [vU] at h4
   exact wv (h:=hQ _ _ (by revert h4;cases ha:insideF t a<;>cases hb:insideF t b<;>simp [go_sem,given2F,h2,ha,hb]))
  .skip
   simp only [vU] at h4
   exact wv (h:=hQ _ _ (by revert h4;cases ha:insideF t a<;>cases hb:insideF t b<;>simp [go_sem,given2F,h2,ha,hb]))
def givenF (t:Types)(l:List Int):Int:=if (cZ t).2≠0 then (cZ t).2 else if (l.any λa=>!insideF t a)=true then 6 else 0
theorem Jq (t:Types)(a:Int):Pure Tryz.prog 380 [dI a,.adr t.c] (.bool (!insideF t a)):=by
 refine Tz.pK ⟨λ_=>false,λ_=>[]⟩ Tryz.func380 rfl (λQ hQ=>?_)
 have Y:=trivial
 have Y:=wa Y @insideF.eq_1
 exact wo (h:=hQ _ _ wy)
theorem w9 (t:Types)(ht:t.ok)(l:List Int):Pure Tryz.prog 323 [t.d,dLI l] (dI (givenF t l)):=by
 refine Tz.pK ⟨λ_=>false,λ_=>[]⟩ Tryz.func323 rfl (λQ hQ=>?_)
 have Y:=trivial
 refine wv (h:=aB (l7 t ht) wl ?_)
 refine dP (λh2=>?_) λh2=>?_
 .have Y:=wa Y (wa h2 @givenF.eq_1)
  exact wv (h:=hQ _ _ wy)
 .refine wv (h:=aB (gC l 380 [.adr t.c] (λa=>!insideF t a) (by simp [go_sem]) (by simp [go_sem]) (λa _=>Jq t a)) wl ?_)
  refine dP (λh4=>?_) λh4=>?_
  .have Y:=wa Y (wa h2 (wa h4 @givenF.eq_1))
   exact wv (h:=hQ _ _ wy)
  .have Y:=wa Y (wa h2 (wa h4 @givenF.eq_1))
   exact wv (h:=hQ _ _ wy)
theorem IM (t:Types)(a b:Int):givenF t [a,b]=given2F t a b:=by
 unfold givenF given2F;cases ha:insideF t a<;>cases hb:insideF t b<;>simp [ha,hb]
def F3 (nodes:List NodeTy):Nat->Nat->List Int
 | 0,_=>[]
 | f+1,a=>match nodes[a]? with
  | none=>[]
  | some n=>(if 0<=n.parent then F3 nodes f n.parent.toNat else [])++[(a:Int)]
def Types.line (t:Types)(a:Nat):List Int:=F3 t.nodes (a+1) a
theorem Ob (nodes:List NodeTy):∀ a f g,parentsOK nodes a->a<f->a<g->F3 nodes f a=F3 nodes g a:=by
 intro a
 induction a using Nat.strongRecOn with
 | _ a ih =>
  intro f g hp hf hg
  obtain ⟨f,rfl⟩:∃ f',f=f'+1:=⟨f - 1,aD⟩
  obtain ⟨g,rfl⟩:∃ g',g=g'+1:=⟨g - 1,aD⟩
  unfold F3
  split
  .rfl
  .rename_i n hn
   have:=hp a n (bC _) hn
   congr 1
   split
   .exact ih n.parent.toNat aD f g (λj m hj hm=>hp j m aD hm) aD aD
   .rfl
theorem yB (t:Types)(a:Nat)(ha:a<t.nodes.length)(hp:parentsOK t.nodes a) :
  t.line a=(if 0<=t.nodes[a].parent then t.line t.nodes[a].parent.toNat else [])++[(a:Int)]:=by
 have hpa:=hp a _ (bC _) (aA ha)
 by_cases h':0<=t.nodes[a].parent
 .have hlt:t.nodes[a].parent.toNat<a:=aD
  have:=Ob t.nodes t.nodes[a].parent.toNat a (t.nodes[a].parent.toNat+1) (λj m hj hm=>hp j m aD hm) hlt aD
  simp [Types.line,F3,aA ha,h',this]
 .simp [Types.line,F3,aA ha,h']
def II (t:Types)(k:Nat):List Int:=if k=0 then [] else t.line (k - 1)
theorem NM {xs ys:List Int}{i:Nat}(hy:ys.length=xs.length)(hi:xs.length<=2 * i+1)(hr:∀ j,j<xs.length->ys[j]?=if j<i\/xs.length - i<=j then xs[xs.length - 1 - j]? else xs[j]?):ys=xs.reverse:=by
 apply gL
 intro j
 by_cases hj:j<xs.length
 .rw [hr j hj,List.getElem?_reverse hj]
  split
  .rfl
  .rename_i hc
   rw [(aD:j=xs.length - 1 - j)]
   congr 1;omega
 .rw [b5 aD,b5 (by simp;omega)]
theorem Lo (G:AHeap)(id:Nat)(xs:List Int)(hg:G.get id=some ⟨3,1,xs.map cI,false⟩)(hl:xs.length<=100000)(Q:D->AHeap->Prop)
  (hQ:∀ H',H'.get id=some ⟨3,1,xs.reverse.map cI,false⟩->(∀ j,j≠id->H'.get j=G.get j)->G.next<=H'.next->Q (.tup []) H'):ACalls Tryz.prog 434 [.own id xs.length] G Q:=by
 refine (aI (cfg:=⟨λ_=>false,λ_=>[]⟩) Tz.mixed Tryz.func434 rfl rfl (aF rfl) (by kernel_rfl) ?_)
 try simp [go_sem,seval,hg]
 repeat first|intro _|refine ⟨eO,?_⟩
 obtain ⟨I0,hI0⟩:∃ I0:Nat->dM->AHeap->Prop,∀ (i:Nat) (e:dM) (H:AHeap),I0 i e H↔(∃ ys:List Int,(e 0=.own id xs.length)/\(e 2=dI i)/\(e 3=dI ((xs.length:Int) - 1 - i))/\(H.get id=some ⟨3,1,ys.map cI,false⟩)/\(∀ j,j≠id->H.get j=G.get j)/\(G.next<=H.next)/\(ys.length=xs.length)/\(∀ j,j<xs.length->ys[j]?=if j<i\/xs.length - i<=j then xs[xs.length - 1 - j]? else xs[j]?)):=⟨λi e H=>_,λ_ _ _=>Iff.rfl⟩
 refine oS I0 (λi=>xs.length - i) (0) ((hI0 _ _ _).2 ⟨(xs),?_,?_,?_,(by exact hg),(by exact λ_ _=>rfl),(by exact bC _),(by first|assumption|omega|(simp [go_sem,hg];done)|(simp_all;done)),(by intro j hj;simp;omega)⟩) ?_
 iterate 3 (first|omega|(simp [go_sem,seval,hg]<;>omega))
 intro i e H hi0
 obtain ⟨ys,q0_0,q2_0,q3_0,hH,hfr,hnx,hy,hr⟩:=(hI0 _ _ _).1 hi0
 have F0:=And.intro q0_0 (And.intro q2_0 q3_0)
 try simp [go_sem,seval,hg,F0,hH]
 refine aP (λh1=>?_) (λh1=>?_)
 .try simp [go_sem] at h1
  have hj:xs.length - 1 - i<ys.length:=aD
  have hi':i<ys.length:=aD
  have htn:((xs.length:Int) - 1 - i).toNat=xs.length - 1 - i:=aD
  have hstep:∀ j,j<xs.length->((ys.set i (ys[xs.length - 1 - i]?.getD 0)).set (xs.length - 1 - i) (ys[i]?.getD 0))[j]?=if j<i+1\/xs.length - (i+1)<=j then xs[xs.length - 1 - j]? else xs[j]?:=λj hjl=>by
   have h1:=hr j hjl
   have h3:=hr i aD
   have h4:=hr (xs.length - 1 - i) aD
   rw [aA hi'] at h3
   rw [aA hj] at h4
   rw [dX,dX,aA hi',aA hj]
   by_cases ha:xs.length - 1 - i=j
   .rw [if_pos ha,if_pos (by simp;omega),if_pos aD]
    simp only [Option.getD_some]
    rw [h3,if_neg aD];congr 1;omega
   .rw [if_neg ha]
    by_cases hb:i=j
    .rw [if_pos hb,if_pos aD,if_pos aD]
     simp only [Option.getD_some]
     rw [h4,if_neg aD];congr 1;omega
    .rw [if_neg hb,h1]
     by_cases hc:j<i\/xs.length - i<=j
     .rw [if_pos hc,if_pos aD]
     .rw [if_neg hc,if_neg aD]
  try simp [go_sem,seval,hg,F0,hH,h1,htn,aA hj,aA hi',hy,dX,(aD:i≠xs.length - 1 - i)]
  repeat first|intro _|refine ⟨eO,?_⟩
  refine eB (i+1) aD ((hI0 _ _ _).2 ⟨((ys.set i (ys[xs.length - 1 - i]?.getD 0)).set (xs.length - 1 - i) (ys[i]?.getD 0)),?_,?_,?_,(by simp [go_sem,hH,bX,aA hj,aA hi']),(by intro j hj';simp [go_sem,hj',hfr j hj']),(by simp [go_sem];omega),(by first|assumption|omega|(simp [go_sem,hg,F0,hH,h1,htn,aA hj,aA hi',hy,dX,(aD:i≠xs.length - 1 - i)];done)|(simp_all<;>omega)),(by exact hstep)⟩)<;>first|omega|(simp [go_sem,seval,hg,F0,hH,h1,htn,aA hj,aA hi',hy,dX,(aD:i≠xs.length - 1 - i)]<;>omega)
 .try simp [go_sem] at h1
  have:=NM hy aD hr
  subst this
  try simp [go_sem,seval,hg,F0,hH]
  exact hQ _ hH hfr hnx
theorem Nn (t:Types)(ht:t.ok)(hv:t.valid)(a:Nat)(ha:a<t.nodes.length):Pure Tryz.prog 381 [t.d,dI a] (.list ((t.line a).map cI)):=by
 have hfew:=hv.fewN
 refine Tz.pK ⟨λt=>t==5,λ_=>[]⟩ Tryz.func381 rfl (λQ hQ=>?_)
 have Y:=trivial
 refine wv (h:=bF (λk e H=>∃ xs:List Int,(e 2=.adr t.c/\e 1=dI ((k:Int) - 1)/\e 5=.own 0 xs.length)/\(H.get 0=some ⟨3,1,xs.map cI,false⟩)/\(0<H.next)/\(k<=t.nodes.length)/\(xs.length+k<=12)/\(II t k++xs.reverse=t.line a)) (λk=>k) (a+1) ⟨([]),wg,wn,wn,wi,(by simp;omega),(by simp [II])⟩ λI0 hI0 k e H hi0=>?_)
 obtain ⟨xs,E0,g0_0,n0_0,hk,hb,hx⟩:=hi0
 have Y:=wa Y (wa E0 (wa g0_0 (cD n0_0)))
 refine dP (λh2=>?_) λh2=>?_
 .have hk0:0<k:=aD
  have hkl:k - 1<t.nodes.length:=aD
  have hpar:=hv.parent (k - 1) _ (aA hkl)
  have hlow:=hv.low (k - 1) _ (aA hkl)
  have htn:((k:Int) - 1).toNat=k - 1:=aD
  have hlr:=yB t (k - 1) hkl (hv.parentsOK _)
  have hlk:II t k=II t (t.nodes[k - 1].parent+1).toNat++[(k:Int) - 1]:=by
   unfold II
   rw [if_neg (aD:¬ k=0),hlr]
   by_cases h0:0<=t.nodes[k - 1].parent
   .rw [if_pos h0,if_neg aD,(aD:(t.nodes[k - 1].parent+1).toNat - 1=t.nodes[k - 1].parent.toNat)]
    congr 2;omega
   .rw [if_neg h0,if_pos aD]
    simp;omega
  have Y:=wa Y (wa h2 (wa htn hkl))
  exact wo (h:=wx hI0 ((t.nodes[k - 1].parent+1).toNat) ⟨(xs++[(k:Int) - 1]),wg,wn,wn,wj,(by simp;omega),(by rw [hlk] at hx;rw [<- hx];simp)⟩)
 .have hk0:k=0:=aD
  subst hk0
  have hln:(t.line a).length=xs.length:=by rw [<- hx];simp [II]
  have hx':(xs.map cI).reverse=(t.line a).map cI:=by rw [<- List.map_reverse,<- hx];rfl
  refine wv (h:=?_)
  unfold fM;refine Lo _ _ xs g0_0 aD _ λH1 gR _ _=>?_
  exact wv (h:=hQ _ _ (by simp [go_sem,gR,hx',hln]))
theorem ER (t:Types)(ht:t.ok)(hv:t.valid)(a b:Int)(h0:0<=a)(h1:a<t.nodes.length):Pure Tryz.prog 324 [t.d,dI a,dI b] (.bool (mem (t.line a.toNat) b)):=by
 have hl:=Nn t ht hv a.toNat aD
 rw [Int.toNat_of_nonneg h0] at hl
 refine Tz.pK ⟨λ_=>false,λ_=>[]⟩ Tryz.func324 rfl (λQ hQ=>?_)
 have Y:=trivial
 refine wv (h:=aB (hl) wl ?_)
 refine wv (h:=aB (fT _ _) wl ?_)
 exact wv (h:=hQ _ _ wy)
def n3 (t:Types)(edge a b:Int):Bool:=decide (given2F t a b=0)&&(decide (0<=edge)&&decide (edge<t.edges.length)) &&
 (mem (t.line a.toNat) (match t.edges[edge.toNat]? with|some x=>x.from_|none=>0)&&mem (t.line b.toNat) (match t.edges[edge.toNat]? with|some x=>x.to_|none=>0))
theorem qF {t:Types}{a b:Int}(h:given2F t a b=0):t.valid/\(0<=a/\a<t.nodes.length)/\(0<=b/\b<t.nodes.length):=by
 unfold given2F at h
 split at h
 .rename_i h1;exact absurd h h1
 .rename_i h1
  split at h
  .rename_i h2;simp [insideF] at h2;exact ⟨nC (bW h1),h2.1,h2.2⟩
  .cases h
theorem ES (t:Types)(ht:t.ok)(edge a b:Int):Pure Tryz.prog 229 [t.d,dI edge,dI a,dI b] (.bool (n3 t edge a b)):=by
 refine Tz.pK ⟨λ_=>false,λ_=>[]⟩ Tryz.func229 rfl (λQ hQ=>?_)
 have Y:=trivial
 refine wo (h:=aB (w9 t ht [a,b]) wl ?_)
 refine fA (λh1=>?_) λh1=>?_
 .rw [IM] at h1
  exact wv (h:=hQ _ _ (by simp [go_sem,n3];intros;omega))
 .rw [IM] at h1
  obtain ⟨hv,hA,hB⟩:=qF h1.1.1
  have hke:edge.toNat<t.edges.length:=aD
  have Y:=wa Y (aA hke)
  refine wo (h:=aJ (ER t ht hv _ _ hA.1 hA.2) wl ?_)
  refine wo (h:=d8 (λhg=>ER t ht hv _ _ hB.1 hB.2) (λhg=>wl) ?_)
  exact wo (h:=hQ _ _ (by simp [go_sem,n3,h1,aA hke]))
theorem uM (l:List Int)(x b:Int):mem (l++[x]) b=(mem l b||decide (b=x)):=by
 rw [aT,c4,mem_iff,mem_iff];simp
theorem vT (b:Int):mem ([]:List Int) b=false:=by rw [bH];intro h;rw [mem_iff] at h;cases h
theorem Tt (t:Types)(a b:Int)(ha:a<0)(hb:0<=b):Pure Tryz.prog 266 [t.d,dI a,dI b] (.bool false):=by
 refine Tz.pK ⟨λ_=>false,λ_=>[]⟩ Tryz.func266 rfl (λQ hQ=>?_)
 have Y:=wa (aD:¬ 0<=a) (aD:¬ a=b)
 refine wo (h:=?_)
 refine d8 (r:=.bool false) (λhg=>by simp at hg) (λhg=>by simp at hg) ?_
 exact wo (h:=hQ _ _ wy)
theorem vN (t:Types)(hv:t.valid)(b:Int)(hb:0<=b):∀ a:Nat,a<t.nodes.length->Pure Tryz.prog 266 [t.d,dI a,dI b] (.bool (mem (t.line a) b)):=by
 intro a
 induction a using Nat.strongRecOn with
 | _ a ih =>
 intro ha
 have hpar:=hv.parent a _ (aA ha)
 have hlr:=yB t a ha (hv.parentsOK a)
 have hc:Pure Tryz.prog 266 [t.d,dI t.nodes[a].parent,dI b] (.bool (mem (if 0<=t.nodes[a].parent then t.line t.nodes[a].parent.toNat else []) b)):=by
  by_cases h':0<=t.nodes[a].parent
  .rw [if_pos h']
   have:=ih t.nodes[a].parent.toNat aD aD
   rwa [Int.toNat_of_nonneg h'] at this
  .rw [if_neg h',vT]
   exact Tt t _ _ aD hb
 rw [hlr,uM]
 refine Tz.pK ⟨λ_=>false,λ_=>[]⟩ Tryz.func266 rfl (λQ hQ=>?_)
 have hab:decide ((a:Int)=b)=decide (b=(a:Int)):=by rw [aT];simp;omega
 have Y:=wa (aA ha) ha
 refine wo (h:=d8 (λhg=>hc) (λhg=>wl) ?_)
 exact wo (h:=hQ _ _ (.inl (by simp only [go_sem,hab,Bool.or_comm])))
theorem FI (t:Types)(ht:t.ok)(edge a b:Int):Pure Tryz.prog 172 [t.d,dI edge,dI a,dI b] (.bool (n3 t edge a b)):=by
 have hfe:=ht.fewE
 refine Tz.pK ⟨λ_=>false,λ_=>[]⟩ Tryz.func172 rfl (λQ hQ=>?_)
 have Y:=trivial
 refine wo (h:=aB (Dy t ht a b) wl ?_)
 refine wo (h:=aG (λhg=>nD _ _ _) (λhg=>wl) ?_)
 refine wo (h:=aP (λh1=>?_) (λh1=>?_))
 .skip
  simp [inF] at h1
  exact wv (h:=hQ _ _ (by simp [go_sem,n3];intros;omega))
 .skip
  simp [inF] at h1
  obtain ⟨hv,hA,hB⟩:=qF h1.1
  have hke:edge.toNat<t.edges.length:=aD
  have hends:=hv.ends _ (aC hke)
  simp [insideF] at hends
  have hB1:=vN t hv t.edges[edge.toNat].from_ hends.1.1 a.toNat aD
  have hB2:=vN t hv t.edges[edge.toNat].to_ hends.2.1 b.toNat aD
  rw [Int.toNat_of_nonneg hA.1] at hB1
  rw [Int.toNat_of_nonneg hB.1] at hB2
  have Y:=wa Y (aA hke)
  refine wo (h:=aJ (hB1) wl ?_)
  refine wo (h:=d8 (λhg=>hB2) (λhg=>wl) ?_)
  exact wo (h:=hQ _ _ (by simp [go_sem,n3,h1,aA hke];omega))
attribute [go_sem] Slot.c Test.c Pattern.c Pattern.d Part.c Part.d Stage.c
theorem CI {P:Program}{f:FuncId}{ty:TypeId}{sz:Nat}(h0:Own P f [.nil] ty sz [])(h1:Own P f [.ne] ty sz []):Own P f [.list []] ty sz []:=by
 refine ⟨h0.1,λM w vals hM ha=>?_⟩
 obtain ⟨hl,hr⟩:=ha
 match vals,hl with
 | [v],_ =>
  have hv:=hr 0 v _ rfl rfl
  cases hv with
  | listN=>exact h0.2 M w _ hM ⟨rfl,λj u d hu hd=>by
    match j with
    | 0=>simp at hu hd;subst hu;subst hd;exact .nil
    | j+1=>simp at hu⟩
  | list ad cap sz xs es hc hm=>exact h1.2 M w _ hM ⟨rfl,λj u d hu hd=>by
    match j with
    | 0=>simp at hu hd;subst hu;subst hd;exact .ne ad cap hm
    | j+1=>simp at hu⟩
theorem OF:Own Tryz.prog 240 [.nil] 3 1 []:=by
 refine Tz.oK ⟨λt=>t==2||t==5,λ_=>[]⟩ Tryz.func240 rfl (λQ hQ=>?_)
 have Y:=trivial
 refine wv (h:=?_)
 exact hQ _ _ _ (by simp [go_sem]<;>first|omega|(rw [aT];simp<;>omega)|(simp_all<;>omega)) (by simp [go_sem]<;>first|omega|(rw [aT];simp<;>omega)|(simp_all<;>omega))
theorem OD:Own Tryz.prog 240 [.ne] 3 1 []:=by
 refine Tz.oK ⟨λt=>t==2||t==5,λ_=>[]⟩ Tryz.func240 rfl (λQ hQ=>?_)
 have Y:=trivial
 refine wo (h:=?_)
 exact hQ _ _ _ (by simp [go_sem]<;>first|omega|(rw [aT];simp<;>omega)|(simp_all<;>omega)) (by simp [go_sem]<;>first|omega|(rw [aT];simp<;>omega)|(simp_all<;>omega))
theorem OE (l:List Int)(hl:l.length<=1000000)(hne:l≠[]):Own Tryz.prog 240 [.list (l.map cI)] 3 1 (l.map cI):=by
 refine Tz.oK ⟨λt=>t==2||t==5,λ_=>[]⟩ Tryz.func240 rfl (λQ hQ=>?_)
 have Y:=hne
 refine wo (h:=?_)
 exact hQ _ _ _ (by simp [go_sem,hne]<;>first|omega|(rw [aT];simp<;>omega)|(simp_all<;>omega)) (by simp [go_sem,hne]<;>first|omega|(rw [aT];simp<;>omega)|(simp_all<;>omega))
theorem jG (l:List Int)(hl:l.length<=1000000):Own Tryz.prog 240 [.list (l.map cI)] 3 1 (l.map cI):=by
 by_cases hne:l=[]
 .subst hne;exact CI OF OD
 .exact OE l hl hne
theorem OC:Own Tryz.prog 337 [.nil] 9 1 []:=by
 refine Tz.oK ⟨λt=>t==2||t==5,λ_=>[]⟩ Tryz.func337 rfl (λQ hQ=>?_)
 have Y:=trivial
 refine wv (h:=?_)
 exact hQ _ _ _ (by simp [go_sem]<;>first|omega|(rw [aT];simp<;>omega)|(simp_all<;>omega)) (by simp [go_sem]<;>first|omega|(rw [aT];simp<;>omega)|(simp_all<;>omega))
theorem OA:Own Tryz.prog 337 [.ne] 9 1 []:=by
 refine Tz.oK ⟨λt=>t==2||t==5,λ_=>[]⟩ Tryz.func337 rfl (λQ hQ=>?_)
 have Y:=trivial
 refine wo (h:=?_)
 exact hQ _ _ _ (by simp [go_sem]<;>first|omega|(rw [aT];simp<;>omega)|(simp_all<;>omega)) (by simp [go_sem]<;>first|omega|(rw [aT];simp<;>omega)|(simp_all<;>omega))
theorem OB (l:List ByteArray)(hl:l.length<=1000000)(hne:l≠[]):Own Tryz.prog 337 [.list (l.map cS)] 9 1 (l.map cS):=by
 refine Tz.oK ⟨λt=>t==2||t==5,λ_=>[]⟩ Tryz.func337 rfl (λQ hQ=>?_)
 have Y:=hne
 refine wo (h:=?_)
 exact hQ _ _ _ (by simp [go_sem,hne]<;>first|omega|(rw [aT];simp<;>omega)|(simp_all<;>omega)) (by simp [go_sem,hne]<;>first|omega|(rw [aT];simp<;>omega)|(simp_all<;>omega))
theorem QQ (l:List ByteArray)(hl:l.length<=1000000):Own Tryz.prog 337 [.list (l.map cS)] 9 1 (l.map cS):=by
 by_cases hne:l=[]
 .subst hne;exact CI OC OA
 .exact OB l hl hne
def bL (t:Types)(a:Int):List Attr:=if given2F t a a=0 then t.attrs a.toNat else []
theorem rG (t:Types)(a:Int):givenF t [a]=given2F t a a:=by
 unfold givenF given2F;cases ha:insideF t a<;>simp [ha]
theorem vV {t:Types}{a:Int}(h:given2F t a a=0):t.valid/\0<=a/\a<t.nodes.length:=⟨(qF h).1,(qF h).2.1⟩
theorem nS (t:Types)(ht:t.ok)(a:Int):Pure Tryz.prog 245 [t.d,dI a] (.tup [.list ((bL t a).map Attr.c),dI (given2F t a a)]):=by
 refine Tz.pK ⟨λ_=>false,λ_=>[]⟩ Tryz.func245 rfl (λQ hQ=>?_)
 have Y:=trivial
 refine wv (h:=aB (w9 t ht [a]) wl ?_)
 refine dP (λh2=>?_) λh2=>?_
 .rw [rG] at h2
  exact wv (h:=hQ _ _ (by simp [go_sem,rG,bL,h2]))
 .rw [rG] at h2
  obtain ⟨hv,h0,h1⟩:=vV h2
  have hat:=Dh t ht a.toNat aD (hv.parentsOK _)
  rw [Int.toNat_of_nonneg h0] at hat
  have hok:∀ x∈t.attrs a.toNat,x.ok:=u4 t.nodes ht.nodes _ _
  have hl8:=hv.attrs a.toNat aD
  refine wv (h:=lN (hat) wl ?_)
  refine wo (h:=bF (λi e H=>(e 2=.adr t.c/\e 1=dI a/\e 7=.own 0 (t.attrs a.toNat).length/\e 20=dI (t.attrs a.toNat).length/\e 21=dI i)/\(H.get 0=some ⟨118,4,(t.attrs a.toNat).map Attr.c,false⟩)/\(0<H.next)/\(i<=(t.attrs a.toNat).length)) (λi=>(t.attrs a.toNat).length - i) 0 ⟨wg,(by simp [go_sem]),wn,wi⟩ λI0 hI0 i e H hi0=>?_)
  obtain ⟨E0,g0_0,n0_0,hi⟩:=hi0
  have Y:=wa Y (wa E0 (wa g0_0 (cD n0_0)))
  refine dP (λh6=>?_) λh6=>?_
  .have hset:((t.attrs a.toNat).map Attr.c).set i (((t.attrs a.toNat).map Attr.c)[i]'(bW h6))=(t.attrs a.toNat).map Attr.c:=List.set_getElem_self _
   simp [go_sem] at hset
   have Y:=wa Y h6
   refine wo (h:=aB ((QQ (t.attrs a.toNat)[i].names (by have:=(hok _ (aC h6)).few;omega)).pure) wl ?_)
   exact wo (h:=wx hI0 (i+1) ⟨wg,(by simp [go_sem,g0_0,hset]),wn,wj⟩)
  .exact wv (h:=hQ _ _ (by simp [go_sem,g0_0,bL,h2]))
theorem nW (t:Types)(ht:t.ok)(a:Int):Pure Tryz.prog 48 [t.d,dI a] (.tup [.list ((bL t a).map Attr.c),dI (given2F t a a)]):=by
 refine Tz.pK ⟨λt=>t==7||t==10||t==31||t==1000000,λ_=>[]⟩ Tryz.func48 rfl (λQ hQ=>?_)
 have Y:=trivial
 refine wv (h:=aB (Dy t ht a a) wl ?_)
 refine dP (λh2=>?_) λh2=>?_
 .exact wv (h:=hQ _ _ (by simp [go_sem,bL,h2]))
 .obtain ⟨hv,h0,h1⟩:=vV h2
  have hat:=DA t ht a.toNat aD (hv.parentsOK _)
  rw [Int.toNat_of_nonneg h0] at hat
  have hok:∀ x∈t.attrs a.toNat,x.ok:=u4 t.nodes ht.nodes _ _
  have hl8:=hv.attrs a.toNat aD
  refine wv (h:=aB (hat) wl ?_)
  refine wv (h:=bF (λi e H=>(e 2=.adr t.c/\e 1=dI a/\e 7=.own 0 ((t.attrs a.toNat).take i).length/\e 8=.list ((t.attrs a.toNat).map Attr.c)/\e 9=dI i)/\(H.get 0=some ⟨118,4,((t.attrs a.toNat).take i).map Attr.c,false⟩)/\(0<H.next)/\(i<=(t.attrs a.toNat).length)) (λi=>(t.attrs a.toNat).length - i) 0 ⟨wg,(by simp [go_sem]),wn,wi⟩ λI0 hI0 i e H hi0=>?_)
  obtain ⟨E0,g0_0,n0_0,hi⟩:=hi0
  have Y:=wa Y (wa E0 (wa g0_0 (cD n0_0)))
  refine fA (λh7=>?_) λh7=>?_
  .have hts:=aE (l:=(t.attrs a.toNat).map Attr.c) (i:=i) (bW h7)
   simp [go_sem] at hts
   have hfw:=(hok _ (aC h7)).few
   have Y:=wa Y h7
   exact wo (h:=wx hI0 (i+1) ⟨wg,(by simp [go_sem,g0_0,hts]),wn,wj⟩)
  .exact wv (h:=hQ _ _ (by simp [go_sem,g0_0,bL,h2,(aD:i=(t.attrs a.toNat).length)]))
def j4 (t:Types)(a:Int):List Int:=if given2F t a a=0 then ((List.range t.nodes.length).filter λ(b:Nat)=>mem (t.line b) a).map λ(b:Nat)=>(b:Int) else []
theorem dJ (p:Nat->Bool)(i:Nat):((List.range (i+1)).filter p).map (λ(b:Nat)=>(b:Int))=((List.range i).filter p).map (λ(b:Nat)=>(b:Int))++(if p i=true then [(i:Int)] else []):=by
 rw [dF,kL,List.map_append]
 congr 1
 by_cases h:p i=true<;>simp [h]
theorem K6 (t:Types)(ht:t.ok)(a:Int):Pure Tryz.prog 386 [t.d,dI a] (.tup [dLI (j4 t a),dI (given2F t a a)]):=by
 refine Tz.pK ⟨λt=>t==7,λ_=>[]⟩ Tryz.func386 rfl (λQ hQ=>?_)
 have Y:=trivial
 refine wv (h:=aB (w9 t ht [a]) wl ?_)
 refine dP (λh2=>?_) λh2=>?_
 .rw [rG] at h2
  exact wv (h:=hQ _ _ (by simp [go_sem,rG,j4,h2]))
 .rw [rG] at h2
  obtain ⟨hv,h0,h1⟩:=vV h2
  have hN:=hv.fewN
  refine wo (h:=bF (λi e H=>∃ xs:List Int,(e 2=.adr t.c/\e 1=dI a/\e 7=.own 0 xs.length/\e 18=dI t.nodes.length/\e 19=dI i)/\(H.get 0=some ⟨3,1,xs.map cI,false⟩)/\(0<H.next)/\(i<=t.nodes.length)/\(xs.length<=i)/\(xs=((List.range i).filter λ(b:Nat)=>mem (t.line b) a).map (λ(b:Nat)=>(b:Int)))) (λi=>t.nodes.length - i) 0 ⟨([]),wg,wn,wn,wi,bV,(by rfl)⟩ λI0 hI0 i e H hi0=>?_)
  obtain ⟨xs,E0,g0_0,n0_0,hi,hl,hx⟩:=hi0
  have Y:=wa Y (wa E0 (wa g0_0 (cD n0_0)))
  refine dP (λh6=>?_) λh6=>?_
  .have Y:=wa Y h6
   refine wv (h:=aB (ER t ht hv i a aD aD) wl ?_)
   refine dP (λh8=>?_) λh8=>?_
   .have Y:=wa Y h8
    exact wo (h:=wx hI0 (i+1) ⟨(xs++(if mem (t.line i) a=true then [(i:Int)] else [])),wg,wn,wn,wj,(by rw [aL];split<;>simp<;>omega),(by rw [dJ,<- hx])⟩)
   .have Y:=wa Y h8
    exact wo (h:=wx hI0 (i+1) ⟨(xs++(if mem (t.line i) a=true then [(i:Int)] else [])),wg,wn,wn,wj,(by rw [aL];split<;>simp<;>omega),(by rw [dJ,<- hx])⟩)
  .exact wv (h:=hQ _ _ (by simp [go_sem,g0_0,j4,h2];rw [hx,(aD:i=t.nodes.length)];simp))
def gK {α:Type}(f:α->Int):List α->Int
 | []=>0
 | x :: l=>if f x≠0 then f x else gK f l
theorem kI {α:Type}(f:α->Int){l:List α}{i:Nat}(h:i<l.length):gK f (l.drop i)=if f l[i]≠0 then f l[i] else gK f (l.drop (i+1)):=by
 rw [eF h];rfl
theorem lS {α:Type}(f:α->Int){l:List α}{i:Nat}(h:¬ i<l.length):gK f (l.drop i)=0:=by
 rw [gX aD];rfl
def termB (n:Int)(x:Term):Bool:=decide (-1<=x.var)&&decide (x.var<n)&&decide (-1000000<=x.add)&&decide (x.add<=1000000)
theorem wK (n:Int)(x:Term):Pure Tryz.prog 428 [dI n,.agg [dI x.var,dI x.add]] (.bool (termB n x)):=by
 refine Tz.pK ⟨λ_=>false,λ_=>[]⟩ Tryz.func428 rfl (λQ hQ=>?_)
 have Y:=trivial
 have Y:=wa Y @termB.eq_1
 exact wo (h:=hQ _ _ wy)
def sO (n:Int)(x:Test):Int:=if x.kind≠1/\x.kind≠2 then 1 else if (termB n x.left&&termB n x.right)=true then 0 else 6
theorem GB (n:Int)(x:Test):Pure Tryz.prog 370 [dI n,.agg x.c] (dI (sO n x)):=by
 refine Tz.pK ⟨λ_=>false,λ_=>[]⟩ Tryz.func370 rfl (λQ hQ=>?_)
 have Y:=trivial
 refine fA (λh1=>?_) λh1=>?_
 .exact wv (h:=hQ _ _ (by simp [go_sem,sO];omega))
 .refine wo (h:=aB (wK n x.left) wl ?_)
  refine wo (h:=aG (λhg=>wK n x.right) (λhg=>wl) ?_)
  refine fA (λh3=>?_) λh3=>?_
  .exact wv (h:=hQ _ _ (by revert h3;cases ha:termB n x.left<;>cases hb:termB n x.right<;>simp [go_sem,sO,ha,hb]<;>omega))
  .exact wv (h:=hQ _ _ (by revert h3;cases ha:termB n x.left<;>cases hb:termB n x.right<;>simp [go_sem,sO,ha,hb]<;>omega))
def kX (n:Int)(l:List Test):Int:=if n<0\/12<n then 6 else if 40<l.length then 3 else gK (sO n) l
theorem CY (n:Int)(l:List Test):Pure Tryz.prog 310 [dI n,.list (l.map Test.c)] (dI (kX n l)):=by
 refine Tz.pK ⟨λt=>t==6,λ_=>[]⟩ Tryz.func310 rfl (λQ hQ=>?_)
 have Y:=trivial
 refine fA (λh1=>?_) λh1=>?_
 .exact wv (h:=hQ _ _ (by simp [go_sem,kX];omega))
 .refine fA (λh3=>?_) λh3=>?_
  .exact wv (h:=hQ _ _ (by simp [go_sem,kX];omega))
  .refine wo (h:=bF (λi e H=>(e 0=dI n/\e 17=.list (l.map Test.c)/\e 18=dI l.length/\e 19=dI i)/\(i<=l.length)/\(gK (sO n) (l.drop i)=kX n l)) (λi=>l.length - i) 0 ⟨wg,wi,(by rw [kX,if_neg aD,if_neg aD];rfl)⟩ λI0 hI0 i e H hi0=>?_)
   obtain ⟨E0,hi,hF⟩:=hi0
   have Y:=wa Y E0
   refine dP (λh6=>?_) λh6=>?_
   .have hst:=hF
    rw [kI _ h6] at hst
    have Y:=wa Y h6
    refine wo (h:=aB (GB n l[i]) wl ?_)
    refine fA (λh9=>?_) λh9=>?_
    .exact wv (h:=hQ _ _ (by rw [if_pos (bW h9)] at hst;simp [go_sem,hst]))
    .exact wo (h:=wx hI0 (i+1) ⟨wg,wj,(by rw [if_neg (by simp [h9])] at hst;exact hst)⟩)
   .exact wv (h:=hQ _ _ (by rw [<- hF,lS _ aD];simp [go_sem]))
def w8 (n:Int)(x:Term):Int:=if termB n x=true then 0 else 6
theorem Br (n:Int)(x:Term):Pure Tryz.prog 417 [dI n,.agg [dI x.var,dI x.add]] (dI (w8 n x)):=by
 refine Tz.pK ⟨λ_=>false,λ_=>[]⟩ Tryz.func417 rfl (λQ hQ=>?_)
 have Y:=trivial
 refine fA (λh1=>?_) λh1=>?_
 .exact wv (h:=hQ _ _ (by simp [go_sem,w8,termB];omega))
 .exact wv (h:=hQ _ _ (by simp [go_sem,w8,termB];omega))
theorem Qe (n:Int)(x:Test):Pure Tryz.prog 360 [dI n,.agg x.c] (dI (sO n x)):=by
 refine Tz.pK ⟨λ_=>false,λ_=>[]⟩ Tryz.func360 rfl (λQ hQ=>?_)
 have Y:=trivial
 refine fA (λh1=>?_) λh1=>?_
 .exact wv (h:=hQ _ _ (by simp [go_sem,sO];omega))
 .refine wv (h:=aB (Br n x.left) wl ?_)
  refine dP (λh4=>?_) λh4=>?_
  .exact wv (h:=hQ _ _ (by revert h4;cases ha:termB n x.left<;>simp [go_sem,sO,w8,ha]<;>omega))
  .refine wv (h:=aB (Br n x.right) wl ?_)
   exact wv (h:=hQ _ _ (by revert h4;cases ha:termB n x.left<;>cases hb:termB n x.right<;>simp [go_sem,sO,w8,ha,hb]<;>omega))
theorem LU (n:Int)(l:List Test):Pure Tryz.prog 290 [dI n,.list (l.map Test.c)] (dI (kX n l)):=by
 refine Tz.pK ⟨λ_=>false,λ_=>[]⟩ Tryz.func290 rfl (λQ hQ=>?_)
 have Y:=trivial
 refine fA (λh1=>?_) λh1=>?_
 .exact wv (h:=hQ _ _ (by simp [go_sem,kX];omega))
 .refine fA (λh3=>?_) λh3=>?_
  .exact wv (h:=hQ _ _ (by simp [go_sem,kX];omega))
  .refine wv (h:=bF (λi e H=>(e 0=dI n/\e 1=.list (l.map Test.c)/\e 5=dI i)/\(i<=l.length)/\(gK (sO n) (l.drop i)=kX n l)) (λi=>l.length - i) 0 ⟨wg,wi,(by rw [kX,if_neg aD,if_neg aD];rfl)⟩ λI0 hI0 i e H hi0=>?_)
   obtain ⟨E0,hi,hF⟩:=hi0
   have Y:=wa Y E0
   refine fA (λh6=>?_) λh6=>?_
   .have hst:=hF
    rw [kI _ h6] at hst
    have Y:=wa Y h6
    refine wo (h:=aB (Qe n l[i]) wl ?_)
    refine fA (λh9=>?_) λh9=>?_
    .exact wv (h:=hQ _ _ (by rw [if_pos (bW h9)] at hst;simp [go_sem,hst]))
    .exact wo (h:=wx hI0 (i+1) ⟨wg,wj,(by rw [if_neg (by simp [h9])] at hst;exact hst)⟩)
   .exact wv (h:=hQ _ _ (by rw [<- hF,lS _ aD];simp [go_sem]))
theorem jH (n low high:Int):Pure Tryz.prog 308 [dI n,dI low,dI high] (.bool (inF n low high)):=by
 refine Tz.pK ⟨λ_=>false,λ_=>[]⟩ Tryz.func308 rfl (λQ hQ=>?_)
 have Y:=trivial
 have Y:=wa Y @inF.eq_1
 exact wo (h:=hQ _ _ wy)
def nB:Attr:=⟨⟨#[]⟩,0,0,[]⟩
def Pattern.kind (p:Pattern)(node:Int):Int:=p.graph.nodes[node.toNat]?.getD 0
def lJ (t:Types)(p:Pattern)(node attr:Int):Bool:=decide (0<=node)&&decide (node<p.graph.nodes.length)&&(decide (0<=attr)&&decide (attr<(bL t (p.kind node)).length))
def DU (t:Types)(p:Pattern)(node attr:Int):Attr:=if lJ t p node attr=true then (bL t (p.kind node))[attr.toNat]?.getD nB else nB
theorem pR {t:Types}(ht:t.ok)(a:Int):(bL t a).length<=8:=by
 unfold bL
 split
 .rename_i h
  obtain ⟨hv,h0,h1⟩:=vV h
  exact hv.attrs _ aD
 .simp
theorem GU (t:Types)(ht:t.ok)(p:Pattern)(hp:p.graph.nodes.length<=1000)(s:Slot):Pure Tryz.prog 309 [t.d,p.d,.agg s.c] (.tup [.agg (DU t p s.node s.attr).c,.bool (lJ t p s.node s.attr)]):=by
 have h8:=pR ht (p.kind s.node)
 refine Tz.pK ⟨λt=>t==6,λ_=>[]⟩ Tryz.func309 rfl (λQ hQ=>?_)
 have Y:=trivial
 refine wo (h:=aB (jH _ _ _) wl ?_)
 refine fA (λh1=>?_) λh1=>?_
 .simp [inF] at h1
  have hB:lJ t p s.node s.attr=false:=by rw [bH];intro h;simp [lJ] at h;omega
  exact wv (h:=hQ _ _ (by simp [go_sem,DU,hB,nB]))
 .simp [inF] at h1
  have hn:s.node.toNat<p.graph.nodes.length:=aD
  have hk:p.kind s.node=p.graph.nodes[s.node.toNat]:=by simp [Pattern.kind,hn]
  rw [hk] at h8
  have Y:=wa Y (wa (aA hn) hk)
  refine wo (h:=aJ (nS t ht p.graph.nodes[s.node.toNat]) wl ?_)
  refine wo (h:=aB (jH _ _ _) wl ?_)
  refine fA (λh4=>?_) λh4=>?_
  .simp [inF] at h4
   have hB:lJ t p s.node s.attr=false:=by rw [bH];intro h;simp [lJ,hk] at h;omega
   exact wv (h:=hQ _ _ (by simp [go_sem,DU,hB,nB]))
  .simp [inF] at h4
   have ha:s.attr.toNat<(bL t p.graph.nodes[s.node.toNat]).length:=aD
   have hB:lJ t p s.node s.attr=true:=by simp [lJ,hk];omega
   have Y:=wa Y (aA ha)
   exact wo (h:=hQ _ _ (by simp [go_sem,DU,hB,hk,aA ha]))
def cB (b:Bool):List D:=[.bool b]
@[go_sem] theorem XJ (l:List Bool):D.clLL (l.map cB)=true:=dL cB (λ_=>rfl) l
attribute [go_sem] cB
theorem Og (xs:List Bool)(v:Bool):Pure Tryz.prog 371 [.list (xs.map cB),.bool v] (dI (idx xs v)):=by
 refine Tz.pK ⟨λ_=>false,λ_=>[]⟩ Tryz.func371 rfl (λQ hQ=>?_)
 have Y:=trivial
 refine wv (h:=?_)
 repeat first|intro _|refine ⟨eO,?_⟩
 refine bF (λi e H=>(e 0=.list (xs.map cB)/\e 1=.bool v/\e 7=dI xs.length/\e 8=dI i)/\(i<=xs.length)/\(∀ j,j<i->xs[j]?≠some v)) (λi=>xs.length - i) 0 ⟨wg,wi,(by intro j hj;omega)⟩ λI0 hI0 i e H hi0=>?_
 obtain ⟨E0,hi,hne⟩:=hi0
 have Y:=wa Y E0
 refine dP (λh2=>?_) λh2=>?_
 .have Y:=wa Y h2
  refine wv (h:=?_)
  repeat first|intro _|refine ⟨eO,?_⟩
  refine wq (λh4=>?_) λh4=>?_
  .exact wv (h:=hQ _ _ (by rw [rZ hne (by rw [aA h2,h4])];simp [go_sem]))
  .refine wv (h:=?_)
   repeat first|intro _|refine ⟨eO,?_⟩
   exact wx hI0 (i+1) ⟨wg,wj,(by exact iP hne (by rw [aA h2];simpa using λh=>h4 h.symm))⟩
 .exact wv (h:=hQ _ _ (by rw [yF λj hj=>hne j aD];simp [go_sem]))
theorem HL (xs:List Bool)(v:Bool):Pure Tryz.prog 311 [.list (xs.map cB),.bool v] (.bool (mem xs v)):=by
 refine Tz.pK ⟨λ_=>false,λ_=>[]⟩ Tryz.func311 rfl (λQ hQ=>?_)
 have Y:=trivial
 refine wv (h:=aB (Og xs v) wl ?_)
 have Y:=wa Y @mem.eq_1
 exact wv (h:=hQ _ _ wy)
def g7 (t:Types)(g:Graph):Bool:=(!(g.nodes.any λn=>decide ((t.nodes.length:Int)<=n)))&&!(g.edges.any λx=>decide ((t.edges.length:Int)<=x.type))
theorem C7 (t:Types)(a:Int):Pure Tryz.prog 305 [dI a,.adr t.c] (.bool (decide ((t.nodes.length:Int)<=a))):=by
 refine Tz.pK ⟨λ_=>false,λ_=>[]⟩ Tryz.func305 rfl (λQ hQ=>?_)
 have Y:=trivial
 exact wo (h:=hQ _ _ wy)
theorem C6 (t:Types)(x:Edge):Pure Tryz.prog 307 [.agg x.c,.adr t.c] (.bool (decide ((t.edges.length:Int)<=x.type))):=by
 refine Tz.pK ⟨λ_=>false,λ_=>[]⟩ Tryz.func307 rfl (λQ hQ=>?_)
 have Y:=trivial
 exact wo (h:=hQ _ _ wy)
def j6 (n:Nat)(l:List Slot):List Bool:=(List.range n).map λ(v:Nat)=>l.any λs=>decide (s.term.var=v)
theorem dR (n:Nat)(l:List Slot):(j6 n l).length=n:=by simp [j6]
theorem PQ (n:Nat):j6 n []=List.replicate n false:=by
 apply fV (by simp [j6]);intro i h1 h2;simp [j6]
theorem PP (n:Nat)(l:List Slot)(s:Slot)(h0:0<=s.term.var)(h1:s.term.var<n):j6 n (l++[s])=(j6 n l).set s.term.var.toNat true:=by
 apply fV (by simp [j6]);intro i h2 h3
 rw [zI]
 simp only [j6,oF,pA,AZ,List.any_cons,List.any_nil,qJ]
 split
 .rename_i h;rw [c4];right;simp;omega
 .rename_i h;rw [show decide (s.term.var=(i:Int))=false by simp;omega,qJ]
theorem PR (n:Nat)(l:List Slot)(s:Slot)(h0:¬ 0<=s.term.var):j6 n (l++[s])=j6 n l:=by
 apply fV (by simp [j6]);intro i h2 h3
 simp only [j6,oF,pA,AZ,List.any_cons,List.any_nil,qJ]
 rw [show decide (s.term.var=(i:Int))=false by simp;omega,qJ]
theorem Nl (n:Nat)(l:List Slot)(s:Slot)(h1:s.term.var<n):j6 n (l++[s])=if 0<=s.term.var then (j6 n l).set s.term.var.toNat true else j6 n l:=by
 split
 .exact PP n l s ‹_› h1
 .exact PR n l s ‹_›
def gJ (t:Types)(p:Pattern)(s:Slot):Int:=if (lJ t p s.node s.attr&&inF s.term.var (-1) (p.vars - 1)&&inF s.term.add (-1000000) 1000000)=true then 0 else 6
def c5 (t:Types)(p:Pattern):Int :=
 if (cZ t).2≠0 then (cZ t).2
 else if graphF p.graph≠0 then graphF p.graph
 else if g7 t p.graph=false then 13
 else if inF p.vars 0 12=false then 6
 else if 10<p.slots.length\/10<p.tests.length then 3
 else if gK (gJ t p) p.slots≠0 then 6
 else if kX p.vars p.tests≠0 then kX p.vars p.tests
 else if mem (j6 p.vars.toNat p.slots) false=true then 9 else 0
theorem bR {g:Graph}(h:graphF g=0):g.nodes.length<=40/\g.edges.length<=80:=by
 unfold graphF at h
 split at h
 .cases h
 .omega
theorem Rn {t:Types}{p:Pattern}{s:Slot}(h:gJ t p s=0):s.term.var<p.vars/\-1<=s.term.var:=by
 unfold gJ at h
 split at h
 .rename_i h1;simp [inF] at h1;omega
 .cases h
theorem nI (t:Types)(ht:t.ok)(p:Pattern):Pure Tryz.prog 222 [t.d,p.d] (dI (c5 t p)):=by
 refine Tz.pK ⟨λt=>t==10||t==11,λ_=>[]⟩ Tryz.func222 rfl (λQ hQ=>?_)
 try simp [go_sem,seval]
 refine aB (l7 t ht) ((by first|rfl|(simp [go_sem,<- List.map_take,<- List.map_drop];done))) ?_
 try simp [go_sem,seval]
 refine aP (λh2=>?_) (λh2=>?_)
 .try simp [go_sem] at h2
  try simp [go_sem,seval]
  exact hQ _ _ (by first|(left;(simp [go_sem,c5,h2]);done)|(right;(simp [go_sem,c5,h2]);done))
 .try simp [go_sem] at h2
  try simp [go_sem,seval]
  refine aB (mC p.graph) ((by first|rfl|(simp [go_sem,<- List.map_take,<- List.map_drop];done))) ?_
  try simp [go_sem,seval]
  refine aP (λh5=>?_) (λh5=>?_)
  .try simp [go_sem] at h5
   try simp [go_sem,seval]
   exact hQ _ _ (by first|(left;(simp [go_sem,c5,h2,h5]);done)|(right;(simp [go_sem,c5,h2,h5]);done))
  .try simp [go_sem] at h5
   have hg:=bR h5
   try simp [go_sem,seval]
   repeat first|intro _|refine ⟨eO,?_⟩
   refine aB (gC p.graph.nodes 305 [.adr t.c] (λa=>decide ((t.nodes.length:Int)<=a)) (by simp [go_sem]) (by simp [go_sem]) (λa _=>C7 t a)) ((by first|rfl|(simp [go_sem,<- List.map_take,<- List.map_drop];done))) ?_
   try simp [go_sem,seval]
   repeat first|intro _|refine ⟨eO,?_⟩
   refine aG (λhg=>lM p.graph.edges 307 [.adr t.c] (λx=>decide ((t.edges.length:Int)<=x.type)) (by simp [go_sem]) (by simp [go_sem]) (λx _=>C6 t x)) (λhg=>(by first|rfl|(simp [go_sem,<- List.map_take,<- List.map_drop];done))) ?_
   try simp [go_sem,seval]
   repeat first|intro _|refine ⟨eO,?_⟩
   refine aP (λh7=>?_) (λh7=>?_)
   .try simp [go_sem] at h7
    have hT:g7 t p.graph=false:=by
     simp [g7]
     intro h'
     rcases h7 with ⟨x,hx,hl⟩|h
     .exact absurd (h' x hx) aD
     .exact h
    try simp [go_sem,seval]
    exact hQ _ _ (by first|(left;(simp [go_sem,c5,h2,h5,hT]);done)|(right;(simp [go_sem,c5,h2,h5,hT]);done))
   .try simp [go_sem] at h7
    have hT:g7 t p.graph=true:=by simp [g7];exact h7
    try simp [go_sem,seval]
    repeat first|intro _|refine ⟨eO,?_⟩
    refine aB (jH _ _ _) ((by first|rfl|(simp [go_sem,<- List.map_take,<- List.map_drop];done))) ?_
    try simp [go_sem,seval]
    repeat first|intro _|refine ⟨eO,?_⟩
    refine aP (λh9=>?_) (λh9=>?_)
    .try simp [go_sem] at h9
     try simp [go_sem,seval]
     exact hQ _ _ (by first|(left;(simp [go_sem,c5,h2,h5,hT,h9]);done)|(right;(simp [go_sem,c5,h2,h5,hT,h9]);done))
    .try simp [go_sem] at h9
     try simp [go_sem,seval]
     repeat first|intro _|refine ⟨eO,?_⟩
     refine aP (λh11=>?_) (λh11=>?_)
     .try simp [go_sem] at h11
      try simp [go_sem,seval]
      exact hQ _ _ (by first|(left;(simp [go_sem,c5,h2,h5,hT,h9];omega);done)|(right;(simp [go_sem,c5,h2,h5,hT,h9];omega);done))
     .try simp [go_sem] at h11
      have hin:=h9
      simp [inF] at hin
      have hF0:c5 t p=if gK (gJ t p) p.slots≠0 then 6 else if kX p.vars p.tests≠0 then kX p.vars p.tests else if mem (j6 p.vars.toNat p.slots) false=true then 9 else 0:=by
       unfold c5
       rw [if_neg (by simp [h2]),if_neg (by simp [h5]),if_neg (by simp [hT]),if_neg (by simp [h9]),if_neg aD]
      try simp [go_sem,seval]
      repeat first|intro _|refine ⟨eO,?_⟩
      obtain ⟨I0,hI0⟩:∃ I0:Nat->dM->AHeap->Prop,∀ (i:Nat) (e:dM) (H:AHeap),I0 i e H↔((e 2=.adr t.c)/\(e 3=.adr p.c)/\(e 8=.own 0 p.vars.toNat)/\(e 58=.list (p.slots.map Slot.c))/\(e 59=dI p.slots.length)/\(e 60=dI i)/\(H.get 0=some ⟨4,1,(j6 p.vars.toNat (p.slots.take i)).map cB,false⟩)/\(0<H.next)/\(i<=p.slots.length)/\(gK (gJ t p) (p.slots.drop i)=gK (gJ t p) p.slots)):=⟨λi e H=>_,λ_ _ _=>Iff.rfl⟩
      refine oS I0 (λi=>p.slots.length - i) (0) ((hI0 _ _ _).2 ⟨?_,?_,?_,?_,?_,?_,(by simp [go_sem,PQ]),?_,(by first|assumption|omega|(simp [go_sem];done)|(simp_all;done)),(by rfl)⟩) ?_
      iterate 7 (first|omega|(simp [go_sem,seval]<;>omega))
      intro i e H hi0
      obtain ⟨q2_0,q3_0,q8_0,q58_0,q59_0,q60_0,g0_0,n0_0,hi,hL⟩:=(hI0 _ _ _).1 hi0
      have x0:=cD n0_0
      have F0:=And.intro q2_0 (And.intro q3_0 (And.intro q8_0 (And.intro q58_0 (And.intro q59_0 (And.intro q60_0 x0)))))
      try simp [go_sem,seval,F0,g0_0,dR]
      refine aP (λh15=>?_) (λh15=>?_)
      .try simp [go_sem] at h15
       have hst:=kI (gJ t p) h15
       have hts:=aE h15
       try simp [go_sem,seval,F0,g0_0,dR,h15]
       repeat first|intro _|refine ⟨eO,?_⟩
       refine aB (GU t ht p aD p.slots[i]) ((by first|rfl|(simp [go_sem,<- List.map_take,<- List.map_drop,F0,g0_0,dR,h15];done))) ?_
       try simp [go_sem,seval,F0,g0_0,dR,h15]
       repeat first|intro _|refine ⟨eO,?_⟩
       refine aG (λhg=>jH _ _ _) (λhg=>(by first|rfl|(simp [go_sem,<- List.map_take,<- List.map_drop,F0,g0_0,dR,h15];done))) ?_
       try simp [go_sem,seval,F0,g0_0,dR,h15]
       repeat first|intro _|refine ⟨eO,?_⟩
       refine aG (λhg=>jH _ _ _) (λhg=>(by first|rfl|(simp [go_sem,<- List.map_take,<- List.map_drop,F0,g0_0,dR,h15];done))) ?_
       try simp [go_sem,seval,F0,g0_0,dR,h15]
       repeat first|intro _|refine ⟨eO,?_⟩
       refine aP (λh18=>?_) (λh18=>?_)
       .skip
        have hs6:gJ t p p.slots[i]=6:=by unfold gJ;rw [if_neg];revert h18;cases lJ t p p.slots[i].node p.slots[i].attr<;>cases inF p.slots[i].term.var (-1) (p.vars - 1)<;>cases inF p.slots[i].term.add (-1000000) 1000000<;>simp
        rw [hs6,if_pos bV,hL] at hst
        try simp [go_sem,seval,F0,g0_0,dR,h15]
        exact hQ _ _ (by first|(left;(simp [go_sem,hF0,hst]);done)|(right;(simp [go_sem,hF0,hst]);done))
       .skip
        have hs0:gJ t p p.slots[i]=0:=by unfold gJ;rw [if_pos];revert h18;cases lJ t p p.slots[i].node p.slots[i].attr<;>cases inF p.slots[i].term.var (-1) (p.vars - 1)<;>cases inF p.slots[i].term.add (-1000000) 1000000<;>simp
        rw [hs0,if_neg bV,hL] at hst
        have hlt:=Rn hs0
        have hus:=Nl p.vars.toNat (p.slots.take i) p.slots[i] aD
        try simp [go_sem,seval,F0,g0_0,dR,h15]
        refine aP (λh20=>?_) (λh20=>?_)
        .try simp [go_sem] at h20
         have hfin:j6 p.vars.toNat (p.slots.take (i+1))=(j6 p.vars.toNat (p.slots.take i)).set p.slots[i].term.var.toNat true:=by rw [hts,hus,if_pos aD]
         have hvl:p.slots[i].term.var.toNat<(j6 p.vars.toNat (p.slots.take i)).length:=by rw [dR];omega
         try simp [go_sem,seval,F0,g0_0,dR,h15,aA hvl]
         repeat first|intro _|refine ⟨eO,?_⟩
         refine eB (i+1) aD ((hI0 _ _ _).2 ⟨?_,?_,?_,?_,?_,?_,(by simp [go_sem,F0,g0_0,dR,h15,aA hvl,bX,hfin]),?_,(by first|assumption|omega|(simp [go_sem,F0,g0_0,dR,h15,aA hvl,h2,h5,h7,h9,h11,h18,h20];done)|(simp_all<;>omega)),(by exact hst.symm)⟩)<;>first|omega|(simp [go_sem,seval,F0,g0_0,dR,h15,aA hvl]<;>omega)
        .try simp [go_sem] at h20
         have hfin:j6 p.vars.toNat (p.slots.take (i+1))=j6 p.vars.toNat (p.slots.take i):=by rw [hts,hus,if_neg aD]
         try simp [go_sem,seval,F0,g0_0,dR,h15]
         repeat first|intro _|refine ⟨eO,?_⟩
         refine eB (i+1) aD ((hI0 _ _ _).2 ⟨?_,?_,?_,?_,?_,?_,(by simp [go_sem,F0,g0_0,dR,h15,bX,hfin]),?_,(by first|assumption|omega|(simp [go_sem,F0,g0_0,dR,h15,h2,h5,h7,h9,h11,h18,h20];done)|(simp_all<;>omega)),(by exact hst.symm)⟩)<;>first|omega|(simp [go_sem,seval,F0,g0_0,dR,h15]<;>omega)
      .try simp [go_sem] at h15
       have hU:List.take i p.slots=p.slots:=aH aD
       have hz:gK (gJ t p) p.slots=0:=by rw [<- hL,lS _ aD]
       rw [hU] at g0_0
       rw [if_neg (by simp [hz])] at hF0
       try simp [go_sem,seval,F0,g0_0,dR]
       refine aB (CY p.vars p.tests) ((by first|rfl|(simp [go_sem,<- List.map_take,<- List.map_drop,F0,g0_0,dR];done))) ?_
       try simp [go_sem,seval,F0,g0_0,dR]
       refine aP (λh24=>?_) (λh24=>?_)
       .try simp [go_sem] at h24
        try simp [go_sem,seval,F0,g0_0,dR]
        exact hQ _ _ (by first|(left;(rw [hF0,if_pos (bW h24)];simp [go_sem]);done)|(right;(rw [hF0,if_pos (bW h24)];simp [go_sem]);done))
       .try simp [go_sem] at h24
        try simp [go_sem,seval,F0,g0_0,dR]
        refine dW (HL (j6 p.vars.toNat p.slots) false) (by simp [Fm,CA,fL,go_sem,<- List.map_take,<- List.map_drop,F0,g0_0,dR]) ((by first|rfl|(simp [go_sem,<- List.map_take,<- List.map_drop,F0,g0_0,dR];done))) ( rfl) ?_
        try simp [go_sem,seval,F0,g0_0,dR]
        refine aP (λKO=>?_) (λKO=>?_)
        .try simp [go_sem] at KO
         try simp [go_sem,seval,F0,g0_0,dR]
         exact hQ _ _ (by first|(left;(rw [hF0,if_neg (bW h24),if_pos KO];simp [go_sem]);done)|(right;(rw [hF0,if_neg (bW h24),if_pos KO];simp [go_sem]);done))
        .try simp [go_sem] at KO
         try simp [go_sem,seval,F0,g0_0,dR]
         exact hQ _ _ (by first|(left;(rw [hF0,if_neg (bW h24),if_neg (by simp [KO])];simp [go_sem]);done)|(right;(rw [hF0,if_neg (bW h24),if_neg (by simp [KO])];simp [go_sem]);done))
def n4 (t:Types)(x:Edge):Bool:=decide (0<=x.type)&&decide (x.type<t.edges.length)
def lZ (t:Types)(g:Graph):Bool:=(!(g.nodes.any λa=>!insideF t a))&&!(g.edges.any λx=>!n4 t x)
theorem nJ {α:Type}{l:List α}{p:α->Bool}{i:Nat}(h:(l.take i).any p=false)(he:l.length<=i):l.any p=false:=by
 rw [aH he] at h;exact h
theorem sU (t:Types)(g:Graph):Pure Tryz.prog 287 [t.d,g.d] (.bool (lZ t g)):=by
 refine Tz.pK ⟨λ_=>false,λ_=>[]⟩ Tryz.func287 rfl (λQ hQ=>?_)
 have Y:=trivial
 refine wv (h:=bF (λi e H=>(e 2=.adr t.c/\e 3=.adr g.c/\e 5=dI i)/\(i<=g.nodes.length)/\(((g.nodes.take i).any λa=>!insideF t a)=false)) (λi=>g.nodes.length - i) 0 ⟨wg,wi,(by rfl)⟩ λI0 hI0 i e H hi0=>?_)
 obtain ⟨E0,hi,ha⟩:=hi0
 have Y:=wa Y E0
 refine wv (h:=?_)
 repeat first|intro _|refine ⟨eO,?_⟩
 refine wq (λh2=>?_) λh2=>?_
 .have Y:=wa Y h2
  refine wv (h:=?_)
  repeat first|intro _|refine ⟨eO,?_⟩
  refine wq (λh4=>?_) λh4=>?_
  .refine wv (h:=?_)
   have hb:(g.nodes.any λa=>!insideF t a)=true:=aX.2 ⟨_,aC h2,by simp [insideF];omega⟩
   exact hQ _ _ (.inl (by simp only [go_sem,lZ,hb,G6,D1]))
  .exact wo (h:=wx hI0 (i+1) ⟨wg,wj,(by rw [dS _ _ _ h2,ha];simp [insideF];omega)⟩)
 .have hN:=nJ ha h2
  refine wv (h:=bF (λk e H=>(e 2=.adr t.c/\e 3=.adr g.c/\e 6=dI k)/\(k<=g.edges.length)/\(((g.edges.take k).any λx=>!n4 t x)=false)) (λk=>g.edges.length - k) 0 ⟨wg,wi,(by rfl)⟩ λI2 hI2 k e H hi2=>?_)
  obtain ⟨E2,hk,hb⟩:=hi2
  have Y:=wa Y E2
  refine wv (h:=?_)
  repeat first|intro _|refine ⟨eO,?_⟩
  refine wq (λh7=>?_) λh7=>?_
  .have Y:=wa Y h7
   refine wv (h:=?_)
   repeat first|intro _|refine ⟨eO,?_⟩
   refine wq (λh9=>?_) λh9=>?_
   .refine wv (h:=?_)
    have hb':(g.edges.any λx=>!n4 t x)=true:=aX.2 ⟨_,aC h7,by simp [n4];omega⟩
    exact hQ _ _ (.inl (by simp only [go_sem,lZ,hb',G6,Bool.and_false]))
   .exact wo (h:=wx hI2 (k+1) ⟨wg,wj,(by rw [dS _ _ _ h7,hb];simp [n4];omega)⟩)
  .refine wv (h:=?_)
   have hE:=nJ hb h7
   exact hQ _ _ (.inl (by simp only [go_sem,lZ,hN,hE,Bool.not_false,Bool.and_true]))
theorem Jf {α:Type}{l:List α}{p q:α->Bool}(h:∀ x∈l,p x=q x):l.any p=l.any q:=by
 induction l with
 | nil=>rfl
 | cons a l ih=>simp only [List.any_cons,h a bV,ih λx hx=>h x (by simp [hx])]
theorem eL {g:Graph}(h:graphF g=0):(∀ a∈g.nodes,0<=a/\a<=99)/\∀ x∈g.edges,(0<=x.type/\x.type<=99)/\(0<=x.from_/\x.from_<g.nodes.length)/\(0<=x.to_/\x.to_<g.nodes.length):=by
 unfold graphF at h
 split at h
 .cases h
 .split at h
  .cases h
  .rename_i h1
   split at h
   .cases h
   .rename_i h2
    simp [iG,s7] at h1 h2
    refine ⟨h1,λx hx=>?_⟩
    have:=h2 x hx
    omega
theorem vA {t:Types}{g:Graph}(h:graphF g=0):lZ t g=g7 t g:=by
 obtain ⟨h1,h2⟩:=eL h
 unfold lZ g7
 congr 2
 .exact Jf λx hx=>by have:=h1 x hx;rw [aT];simp [insideF];omega
 .exact Jf λx hx=>by have:=h2 x hx;rw [aT];simp [n4];omega
theorem Hv (n:Int):Pure Tryz.prog 289 [dI n] (.bool (inF n (-1000000) 1000000)):=by
 refine Tz.pK ⟨λ_=>false,λ_=>[]⟩ Tryz.func289 rfl (λQ hQ=>?_)
 have Y:=trivial
 have Y:=wa Y @inF.eq_1
 exact wo (h:=hQ _ _ wy)
theorem OO {t:Types}{a:Int}(h:¬ given2F t a a=0):bL t a=[]:=by unfold bL;rw [if_neg h]
theorem NU (t:Types)(ht:t.ok)(p:Pattern)(node attr:Int):Pure Tryz.prog 288 [t.d,p.d,dI node,dI attr] (.tup [.agg (DU t p node attr).c,.bool (lJ t p node attr)]):=by
 have h8:=pR ht (p.kind node)
 refine Tz.pK ⟨λt=>t==8,λ_=>[]⟩ Tryz.func288 rfl (λQ hQ=>?_)
 have Y:=trivial
 refine fA (λh1=>?_) λh1=>?_
 .have hB:lJ t p node attr=false:=by rw [bH];intro h;simp [lJ] at h;omega
  exact wv (h:=hQ _ _ (by simp [go_sem,DU,hB,nB]))
 .have hn:node.toNat<p.graph.nodes.length:=aD
  have hk:p.kind node=p.graph.nodes[node.toNat]:=by simp [Pattern.kind,hn]
  rw [hk] at h8
  have Y:=wa Y (wa (aA hn) hk)
  refine wo (h:=aJ (nW t ht p.graph.nodes[node.toNat]) wl ?_)
  refine fA (λh4=>?_) λh4=>?_
  .have hB:lJ t p node attr=false:=by
    rw [bH];intro h;simp [lJ,hk] at h
    by_cases hg:given2F t p.graph.nodes[node.toNat] p.graph.nodes[node.toNat]=0
    .omega
    .rw [OO hg] at h;simp at h;omega
   exact wv (h:=hQ _ _ (by simp [go_sem,DU,hB,nB]))
  .have ha:attr.toNat<(bL t p.graph.nodes[node.toNat]).length:=aD
   have hB:lJ t p node attr=true:=by simp [lJ,hk];omega
   have Y:=wa Y (aA ha)
   exact wo (h:=hQ _ _ (by simp [go_sem,DU,hB,hk,aA ha]))
def jP (p:Pattern)(v:Int):Bool:=p.slots.any λs=>decide (s.term.var=v)
theorem JV (p:Pattern)(v:Int):Pure Tryz.prog 291 [p.d,dI v] (.bool (jP p v)):=by
 refine Tz.pK ⟨λ_=>false,λ_=>[]⟩ Tryz.func291 rfl (λQ hQ=>?_)
 have Y:=trivial
 refine wv (h:=bF (λi e H=>(e 2=.adr p.c/\e 1=dI v/\e 5=dI i)/\(i<=p.slots.length)/\(((p.slots.take i).any λs=>decide (s.term.var=v))=false)) (λi=>p.slots.length - i) 0 ⟨wg,wi,(by rfl)⟩ λI0 hI0 i e H hi0=>?_)
 obtain ⟨E0,hi,ha⟩:=hi0
 have Y:=wa Y E0
 refine wv (h:=?_)
 repeat first|intro _|refine ⟨eO,?_⟩
 refine wq (λh2=>?_) λh2=>?_
 .have Y:=wa Y h2
  refine wv (h:=?_)
  repeat first|intro _|refine ⟨eO,?_⟩
  refine wq (λh4=>?_) λh4=>?_
  .refine wv (h:=?_)
   have hb:jP p v=true:=aX.2 ⟨_,aC h2,by simpa using h4⟩
   exact hQ _ _ (.inl (by simp only [go_sem,hb]))
  .exact wo (h:=wx hI0 (i+1) ⟨wg,wj,(by rw [dS _ _ _ h2,ha];simpa using h4)⟩)
 .refine wv (h:=?_)
  have hb:jP p v=false:=nJ ha h2
  exact hQ _ _ (.inl (by simp only [go_sem,hb]))
theorem H6 (p:Pattern)(n:Nat):mem (j6 n p.slots) false=true↔∃ v:Nat,v<n/\jP p v=false:=by
 rw [mem_iff]
 simp only [j6,bA,bP,jP]
theorem sS (t:Types)(ht:t.ok)(p:Pattern):Pure Tryz.prog 211 [t.d,p.d] (dI (c5 t p)):=by
 refine Tz.pK ⟨λt=>t==9||t==10,λ_=>[]⟩ Tryz.func211 rfl (λQ hQ=>?_)
 have Y:=trivial
 refine wv (h:=aB (nU t ht) wl ?_)
 refine dP (λh2=>?_) λh2=>?_
 .exact wv (h:=hQ _ _ (by simp [go_sem,c5,h2]))
 .refine wv (h:=aB (lD p.graph) wl ?_)
  refine dP (λh5=>?_) λh5=>?_
  .exact wv (h:=hQ _ _ (by simp [go_sem,c5,h2,h5]))
  .refine wo (h:=aB (sU t p.graph) wl ?_)
   refine fA (λh7=>?_) λh7=>?_
   .rw [vA h5] at h7
    exact wv (h:=hQ _ _ (by simp [go_sem,c5,h2,h5,h7]))
   .rw [vA h5] at h7
    refine fA (λh9=>?_) λh9=>?_
    .exact wv (h:=hQ _ _ (by simp [go_sem,c5,h2,h5,h7,inF];omega))
    .refine fA (λh11=>?_) λh11=>?_
     .exact wv (h:=hQ _ _ (by simp [go_sem,c5,h2,h5,h7,inF];omega))
     .have hF0:c5 t p=if gK (gJ t p) p.slots≠0 then 6 else if kX p.vars p.tests≠0 then kX p.vars p.tests else if mem (j6 p.vars.toNat p.slots) false=true then 9 else 0:=by
       unfold c5
       rw [if_neg (by simp [h2]),if_neg (by simp [h5]),if_neg (by simp [h7]),if_neg (by simp [inF];omega),if_neg aD]
      refine wv (h:=bF (λi e H=>(e 2=.adr t.c/\e 3=.adr p.c/\e 8=dI i)/\(i<=p.slots.length)/\(gK (gJ t p) (p.slots.drop i)=gK (gJ t p) p.slots)) (λi=>p.slots.length - i) 0 ⟨wg,wi,(by rfl)⟩ λI0 hI0 i e H hi0=>?_)
      obtain ⟨E0,hi,hL⟩:=hi0
      have Y:=wa Y E0
      refine fA (λh14=>?_) λh14=>?_
      .have hst:=kI (gJ t p) h14
       have Y:=wa Y h14
       refine wo (h:=aB (NU t ht p p.slots[i].node p.slots[i].attr) wl ?_)
       refine wo (h:=aG (λhg=>Hv _) (λhg=>wl) ?_)
       refine wo (h:=aP (λh18=>?_) (λh18=>?_))
       .skip
        have hs6:gJ t p p.slots[i]=6:=by
         unfold gJ;rw [if_neg];intro h;simp [inF] at h;simp [h.1.1,inF] at h18;omega
        rw [hs6,if_pos bV,hL] at hst
        exact wv (h:=hQ _ _ (by simp [go_sem,hF0,hst]))
       .skip
        have hs0:gJ t p p.slots[i]=0:=by
         unfold gJ;rw [if_pos];simp [inF] at h18 ⊢;refine ⟨⟨h18.1.1.1,?_⟩,?_⟩<;>omega
        rw [hs0,if_neg bV,hL] at hst
        exact wo (h:=wx hI0 (i+1) ⟨wg,wj,(by exact hst.symm)⟩)
      .have hz:gK (gJ t p) p.slots=0:=by rw [<- hL,lS _ aD]
       rw [if_neg (by simp [hz])] at hF0
       refine wv (h:=aB (LU p.vars p.tests) wl ?_)
       refine dP (λh21=>?_) λh21=>?_
       .exact wv (h:=hQ _ _ (by rw [hF0,if_pos (bW h21)];simp [go_sem]))
       .rw [if_neg (bW h21)] at hF0
        refine wv (h:=bF (λv e H=>(e 2=.adr t.c/\e 3=.adr p.c/\e 13=dI v)/\(v<=p.vars.toNat)/\(∀ j:Nat,j<v->jP p j=true)) (λv=>p.vars.toNat - v) 0 ⟨wg,wi,(by intro j hj;omega)⟩ λI2 hI2 v e H hi2=>?_)
        obtain ⟨E2,hv,ho⟩:=hi2
        have Y:=wa Y E2
        refine dP (λh24=>?_) λh24=>?_
        .have Y:=wa Y h24
         refine wo (h:=aB (JV p v) wl ?_)
         refine fA (λKO=>?_) λKO=>?_
         .exact wv (h:=hQ _ _ (by rw [hF0,if_pos ((H6 p _).2 ⟨v,aD,by simpa using KO⟩)];simp [go_sem]))
         .exact wo (h:=wx hI2 (v+1) ⟨wg,wj,(by exact iP (p:=λj=>jP p j=true) ho (bW KO))⟩)
        .refine wv (h:=?_)
         have hm:¬ mem (j6 p.vars.toNat p.slots) false=true:=λh=>by
          obtain ⟨w,hw,ho'⟩:=(H6 p _).1 h
          rw [ho w aD] at ho';cases ho'
         exact hQ _ _ (by rw [hF0,if_neg hm];simp [go_sem])
end Go.Abs
end
section
namespace Go.Proofs
open Go.Shelf
def Tryz.laysSort_ren:Go.Shelf.Ren:=⟨fun|189=>275|125=>353|257=>352|128=>409|129=>410|294=>401|295=>402|296=>403|297=>404|298=>405|299=>406|216=>333|300=>407|301=>408|328=>444|329=>445|330=>446|331=>447|332=>448|215=>389|343=>460|n=>n,fun|28=>26|3=>3|46=>349|0=>0|51=>390|53=>69|4=>4|183=>405|182=>404|131=>285|5=>5|9=>9|218=>430|222=>434|228=>441|229=>326|n=>n,fun|n=>n⟩
theorem Tryz.laysSort:Go.Proofs.Lays.n189 Tryz.prog Tryz.laysSort_ren:={
 mixed:=by kernel_rfl
 f125:=Tryz.func353.trans (congrArg some (by kernel_rfl))
 f128:=Tryz.func409.trans (congrArg some (by kernel_rfl))
 f129:=Tryz.func410.trans (congrArg some (by kernel_rfl))
 f189:=Tryz.func275.trans (congrArg some (by kernel_rfl))
 f215:=Tryz.func389.trans (congrArg some (by kernel_rfl))
 f216:=Tryz.func333.trans (congrArg some (by kernel_rfl))
 f257:=Tryz.func352.trans (congrArg some (by kernel_rfl))
 f294:=Tryz.func401.trans (congrArg some (by kernel_rfl))
 f295:=Tryz.func402.trans (congrArg some (by kernel_rfl))
 f296:=Tryz.func403.trans (congrArg some (by kernel_rfl))
 f297:=Tryz.func404.trans (congrArg some (by kernel_rfl))
 f298:=Tryz.func405.trans (congrArg some (by kernel_rfl))
 f299:=Tryz.func406.trans (congrArg some (by kernel_rfl))
 f300:=Tryz.func407.trans (congrArg some (by kernel_rfl))
 f301:=Tryz.func408.trans (congrArg some (by kernel_rfl))
 f328:=Tryz.func444.trans (congrArg some (by kernel_rfl))
 f329:=Tryz.func445.trans (congrArg some (by kernel_rfl))
 f330:=Tryz.func446.trans (congrArg some (by kernel_rfl))
 f331:=Tryz.func447.trans (congrArg some (by kernel_rfl))
 f332:=Tryz.func448.trans (congrArg some (by kernel_rfl))
 f343:=Tryz.func460.trans (congrArg some (by kernel_rfl))
 t0:=Tryz.underlying0
 a0:=Tryz.isAgg0
 z0:=Tryz.sizeOf0
 v0:=Tryz.zeroValue0
 t3:=Tryz.underlying3
 a3:=Tryz.isAgg3
 z3:=Tryz.sizeOf3
 v3:=Tryz.zeroValue3
 t4:=Tryz.underlying4
 a4:=Tryz.isAgg4
 z4:=Tryz.sizeOf4
 v4:=Tryz.zeroValue4
 t5:=Tryz.underlying5
 a5:=Tryz.isAgg5
 z5:=Tryz.sizeOf5
 v5:=Tryz.zeroValue5
 t9:=Tryz.underlying9
 a9:=Tryz.isAgg9
 z9:=Tryz.sizeOf9
 v9:=Tryz.zeroValue9
 t28:=Tryz.underlying26
 a28:=Tryz.isAgg26
 z28:=Tryz.sizeOf26
 v28:=Tryz.zeroValue26
 t46:=Tryz.underlying349
 a46:=Tryz.isAgg349
 z46:=Tryz.sizeOf349
 v46:=Tryz.zeroValue349
 t51:=Tryz.underlying390
 a51:=Tryz.isAgg390
 z51:=Tryz.sizeOf390
 v51:=Tryz.zeroValue390
 t53:=Tryz.underlying69
 a53:=Tryz.isAgg69
 z53:=Tryz.sizeOf69
 v53:=Tryz.zeroValue69
 t131:=Tryz.underlying285
 a131:=Tryz.isAgg285
 z131:=Tryz.sizeOf285
 v131:=Tryz.zeroValue285
 t182:=Tryz.underlying404
 a182:=Tryz.isAgg404
 z182:=Tryz.sizeOf404
 v182:=Tryz.zeroValue404
 t183:=Tryz.underlying405
 a183:=Tryz.isAgg405
 z183:=Tryz.sizeOf405
 v183:=Tryz.zeroValue405
 t218:=Tryz.underlying430
 a218:=Tryz.isAgg430
 z218:=Tryz.sizeOf430
 v218:=Tryz.zeroValue430
 t222:=Tryz.underlying434
 a222:=Tryz.isAgg434
 z222:=Tryz.sizeOf434
 v222:=Tryz.zeroValue434
 t228:=Tryz.underlying441
 a228:=Tryz.isAgg441
 z228:=Tryz.sizeOf441
 v228:=Tryz.zeroValue441
 t229:=Tryz.underlying326
 a229:=Tryz.isAgg326
 z229:=Tryz.sizeOf326
 v229:=Tryz.zeroValue326 }
def Tryz.laysCompact_ren:Go.Shelf.Ren:=⟨fun|20=>276|n=>n,fun|22=>26|3=>3|4=>4|0=>0|n=>n,fun|n=>n⟩
theorem Tryz.laysCompact:Go.Proofs.Lays2.n20 Tryz.prog Tryz.laysCompact_ren:={
 mixed:=by kernel_rfl
 f20:=Tryz.func276.trans (congrArg some (by kernel_rfl))
 t0:=Tryz.underlying0
 a0:=Tryz.isAgg0
 z0:=Tryz.sizeOf0
 v0:=Tryz.zeroValue0
 t3:=Tryz.underlying3
 a3:=Tryz.isAgg3
 z3:=Tryz.sizeOf3
 v3:=Tryz.zeroValue3
 t4:=Tryz.underlying4
 a4:=Tryz.isAgg4
 z4:=Tryz.sizeOf4
 v4:=Tryz.zeroValue4
 t22:=Tryz.underlying26
 a22:=Tryz.isAgg26
 z22:=Tryz.sizeOf26
 v22:=Tryz.zeroValue26
 i3:=by kernel_rfl }
end Go.Proofs
end
section
set_option maxRecDepth 4000
open Go Go.Proofs Go.Shelf
namespace Go.Abs
def jZ (xs:List Int):List Int:=xs.mergeSort λx y=>decide (x<=y)
theorem kD (xs:List Int):(jZ xs).length=xs.length:=List.length_mergeSort xs
theorem A8 {G:AHeap}{id:Nat}{ty:TypeId}{xs:List Int}{Q:D->AHeap->Prop}(hg:G.get id=some ⟨ty,1,xs.map cI,false⟩)(hl:xs.length<=1000000)
  (hQ:Q (.tup []) (G.put id ⟨ty,1,(jZ xs).map cI,false⟩)):ACalls Tryz.prog 275 [.own id xs.length] G Q:=by
 refine Nc ⟨Tryz.f275,Tryz.func275,rfl,rfl⟩ hg (kD xs) (λw v hrow=>?_) hQ
 rcases hrow.2 with ⟨rfl,h0⟩|⟨g,cap,cur,rfl,hb,hblk,hnc,hcm,hcs,htk⟩
 .have hx:xs=[]:=bM h0
  subst hx
  exact (Any.slices_Sort_int_none Tryz.laysSort none 0 w).mono λe w' ⟨he,hw⟩=>by
   subst hw
   exact ⟨he,⟨rfl,rfl,rfl,bC _,λ_ _ _=>rfl⟩,by simpa [Ev,jZ] using hrow⟩
 .have hH:Sort.Holds (Value.int .i64) w g 0 xs.toArray:=holds_of_blockI hblk (bW htk)
  refine (Any.slices_Sort_int Tryz.laysSort g 0 cap xs w hH (qO.1 hblk).1 aD).mono λe w' ⟨he,n,os,hw⟩=>?_
  subst hw
  refine ⟨he,grownBy_sortedI _,?_⟩
  have:=ownsRow_sortedI (n:=n) (os:=os) (ts:=jZ xs) (kD xs) hb hblk hnc hcm (bW hcs)
  unfold Ev
  rw [kD]
  exact this
theorem AO (zs:List Int):(Lib.compact zs).length<=zs.length:=by
 unfold Lib.compact Lib.compactUpTo
 rw [aW]
 exact fD (l6 _ _) bV
theorem yQ {G:AHeap}{id:Nat}{ty:TypeId}{xs:List Int}{Q:D->AHeap->Prop}(hg:G.get id=some ⟨ty,1,xs.map cI,false⟩)(hl:xs.length<=1000000)
  (hQ:∀ k,Q (.list ((Lib.compact xs).map cI)) (G.put id k)):ACalls Tryz.prog 276 [.own id xs.length] G Q:=by
 have hcl:=AO xs
 have hzl:(Lib.compact xs++List.replicate (xs.length - (Lib.compact xs).length) 0).length=xs.length:=by simp;omega
 refine KC (zs:=Lib.compact xs++List.replicate (xs.length - (Lib.compact xs).length) 0) (m:=(Lib.compact xs).length) ⟨Tryz.f276,Tryz.func276,rfl,rfl⟩ hg hzl hcl (λw v hrow=>?_) (by rw [List.take_left];exact hQ _)
 rcases hrow.2 with ⟨rfl,h0⟩|⟨g,cap,cur,rfl,hb,hblk,hnc,hcm,hcs,htk⟩
 .have hx:xs=[]:=bM h0
  subst hx
  exact (Any.slices_Compact_int_empty Tryz.laysCompact none 0 w).mono λe w' ⟨he,hw⟩=>by
   subst hw
   exact ⟨⟨_,he,.inl ⟨rfl,rfl⟩⟩,⟨rfl,rfl,rfl,bC _,λ_ _ _=>rfl⟩,by simpa [Ev,Lib.compact,Lib.compactUpTo] using hrow⟩
 .have hH:Sort.Holds (Value.int .i64) w g 0 xs.toArray:=holds_of_blockI hblk (bW htk)
  refine (Any.slices_Compact_int Tryz.laysCompact g 0 cap xs w hH aD hnc).mono λe w' ⟨he,q,hw⟩=>?_
  subst hw
  refine ⟨⟨_,he,.inr ⟨_,_,_,rfl,rfl⟩⟩,?_,?_⟩
  .have:=grownBy_sortedI (w:=w) (g:=g) (n:=q) (os:=#[]) (Lib.compact xs++List.replicate (xs.length - (Lib.compact xs).length) 0).toArray
   rw [Sort.grow_empty] at this
   exact this
  .have:=ownsRow_sortedI (n:=q) (os:=#[]) (ts:=Lib.compact xs++List.replicate (xs.length - (Lib.compact xs).length) 0) hzl hb hblk hnc hcm (bW hcs)
   rw [Sort.grow_empty] at this
   unfold Ev
   rw [hzl]
   exact this
def imagesN (xs:List Int):Nat:=(Lib.compact (jZ xs)).length
theorem wI (xs:List Int)(hl:xs.length<=1000000):Pure Tryz.prog 376 [dLI xs] (dI (imagesN xs)):=by
 have hlen:=kD xs
 refine Tz.pK ⟨λ_=>false,λ_=>[]⟩ Tryz.func376 rfl (λQ hQ=>?_)
 have Y:=trivial
 refine wv (h:=lN (jG xs hl) wl ?_)
 refine wv (h:=?_)
 unfold fM;refine A8 (ty:=3) (xs:=xs) (by simp [go_sem]) hl ?_
 refine wo (h:=?_)
 unfold fM;rw [show xs.length=(jZ xs).length from hlen.symm];refine yQ (ty:=3) (xs:=jZ xs) (by simp [go_sem]) aD λk=>?_
 have Y:=wa Y @imagesN.eq_1
 exact wo (h:=hQ _ _ wy)
end Go.Abs
end
